/- Layer 2, the walks: Put; the reference's Put. · Layer 2, the walks: Get. · Layer 3, the walks: Put; the reference's Put. · Layer 3, the walks: Put. -/
import Derived.Test.YtgagpalffdgjnaaG60
import Derived.Deep.Cut
import Derived.Deep.QuietTactic
import Derived.BigQuiet
namespace Go.Proofs.Ytgagpalffdgjnaa
open Go.RowKit

/-- A frame for a unit. -/
def rtuL (u : Int) (l : List Int) : List Int := if 1 ≤ l.length ∧ l.length ≤ 253 then sealL (u :: l) else []
theorem ByteL.cons {u : Int} {l : List Int} (h0 : 0 ≤ u) (h1 : u ≤ 255) (h : ByteL l) : ByteL (u :: l) := fun j => by
  cases j with
  | zero => simpa using ⟨h0, h1⟩
  | succ j => simpa using h j
theorem FreshI.from_ {k : IntKind} {xs : List Int} {v w w' : World} {e : Ending} (E : Ext v w) (h : FreshI k xs w e w') : FreshI k xs v e w' := by
  obtain ⟨A, n, c, rfl, h1, h2, h3, h4, h5⟩ := h
  exact ⟨A, n, c, rfl, h1, h2, h3, E.go h4, fun b o e => Nat.le_trans E.size (h5 b o e)⟩
section
variable (u : Int) (A : Option Addr) (n c : Nat) (l : List Int) (w : World)
set_option maxRecDepth 100000 in
set_option maxHeartbeats 3200000 in
theorem rtuPut_own (u0 : 0 ≤ u) (u1 : u ≤ 255) (hx : RdI w w.heap.size .u8 A n l) (hl : ByteL l) (hn : n ≤ maxLen) :
    Calls Try.prog 89 #[.int .u8 u, .slice A n c] w (FreshO (rtuL u l) w) := by
  have hln := hx.len
  unfold maxLen at hn
  by_cases h1 : n = 0
  · subst h1
    have hz : rtuL u l = [] := by unfold rtuL; rw [if_neg (by omega)]
    rw [hz]
    clear hz
    go_enter Try.func89, Try.ntmps89
    go_wp2_with fail
    go_ret
    exact FreshO.none_ _
  · have f1 : ((n : Int) == 0) = false := by simp; omega
    have f1' : (n == 0) = false := by simp; omega
    by_cases h2 : 253 < n
    · have hz : rtuL u l = [] := by unfold rtuL; rw [if_neg (by omega)]
      have f2 : decide (253 < (n : Int)) = true := by simp; omega
      rw [hz]
      clear hz
      go_enter Try.func89, Try.ntmps89
      go_wp2_with fail
      go_ret
      exact FreshO.none_ _
    · have f2 : decide (253 < (n : Int)) = false := by simp; omega
      have hz : rtuL u l = sealL (u :: l) := by unfold rtuL; rw [if_pos (by omega)]
      rw [hz]
      have hmk := fun w => run_mkLC Try.underlying34 info_u8 (1 : Int) (1 + (n : Int)) 1 (1 + n) rfl (by omega) (by omega) (by omega) (by omega) w
      have B0 : Blk (w.alloc (.cells (row .u8 (zs (1 + n))) 5)) w.heap.size 5 .u8 (zs (1 + n)) := heap_alloc_new w _
      have c0 := B0.cell 0 (by rw [zs_length]; omega)
      have z0 := B0.frozen 0
      have B1 : Blk (w.alloc (.cells (row .u8 ((zs (1 + n)).set 0 u)) 5)) w.heap.size 5 .u8 ((zs (1 + n)).set 0 u) := heap_alloc_new w _
      have hrow : (row .u8 (zs (1 + n))).setIfInBounds 0 (.int .u8 u) = row .u8 ((zs (1 + n)).set 0 u) := by simp [row_set]
      have hrow' := Lib.hid hrow
      have hset : ((zs (1 + n)).set 0 u).take 1 = [u] := by
        have : zs (1 + n) = 0 :: zs n := by unfold zs; rw [Nat.add_comm]; rfl
        rw [this]; rfl
      have own1 := own_lenCap (base := w.heap.size) (m := 1) (n := 1 + n) B1 (Nat.le_refl _) (by rw [List.length_set, zs_length]) (by omega) (by omega)
      rw [hset] at own1
      have E1 := (Ext.refl w).goA (.cells (row .u8 ((zs (1 + n)).set 0 u)) 5)
      have hx1 := hx.ext E1
      have hby := Lib.hid (hl.cons u0 u1)
      have own1' := Lib.hid own1
      clear hx hl B0 B1 hset own1 hz h1 hrow
      go_enter Try.func89, Try.ntmps89
      go_upto_region 5 with fail
      rw [hrow'.out]
      clear hmk c0 z0
      go_wp2_with (at_builtin; refine wpList_appI rfl (.tmp 21) (.tmp 22) _ rfl Try.underlying34 info_u8 own1'.out rfl hx1 rfl (by omega) (by omega) E1.size ?_; intro v3 w3 own3 hg3 hat3; obtain ⟨A3, c3, rfl, ⟨g1, g2⟩, r3⟩ := own_rd own3; have E3 : Ext w w3 := E1.goG hg3 (fun i hi => (own1'.out.lt i hi).1))
      refine (crcSeal_own A3 (1 + n) c3 ([u] ++ l) w3 r3 hby.out (by omega)).mono ?_
      intro e w4 h4
      have h4' := h4.from_ E3
      obtain ⟨A4, n4, c4, rfl, k1, k2⟩ := h4'
      go_wp2_with fail
      go_ret
      exact ⟨A4, n4, c4, rfl, k1, k2⟩
theorem rtuPut_any (u0 : 0 ≤ u) (u1 : u ≤ 255) (hx : RdI w w.heap.size .u8 A n l) (hl : ByteL l) (hn : n ≤ maxLen) :
    Calls Try.prog 89 #[.int .u8 u, .slice A n c] w (FreshI .u8 (rtuL u l) w) := (rtuPut_own u A n c l w u0 u1 hx hl hn).mono fun _ _ h => h.fresh
set_option maxRecDepth 100000 in
set_option maxHeartbeats 3200000 in
theorem ref02Put_any (u0 : 0 ≤ u) (u1 : u ≤ 255) (hx : RdI w w.heap.size .u8 A n l) (hl : ByteL l) (hn : n ≤ maxLen) :
    Calls Try.prog 33 #[.int .u8 u, .slice A n c] w (FreshI .u8 (rtuL u l) w) := by
  have hln := hx.len
  unfold maxLen at hn
  by_cases h1 : n = 0
  · subst h1
    have hz : rtuL u l = [] := by unfold rtuL; rw [if_neg (by omega)]
    rw [hz]
    clear hz
    go_enter Try.func33, Try.ntmps33
    go_wp2_with fail
    go_ret
    exact ⟨none, 0, 0, rfl, Nat.le_refl _, by unfold maxLen; omega, RdI.nil _, Ext.refl _, fun b o e => by cases e⟩
  · have f1 : ((n : Int) == 0) = false := by simp; omega
    have f1' : (n == 0) = false := by simp; omega
    by_cases h2 : 253 < n
    · have hz : rtuL u l = [] := by unfold rtuL; rw [if_neg (by omega)]
      have f2 : decide (253 < (n : Int)) = true := by simp; omega
      rw [hz]
      clear hz
      go_enter Try.func33, Try.ntmps33
      go_wp2_with fail
      go_ret
      exact ⟨none, 0, 0, rfl, Nat.le_refl _, by unfold maxLen; omega, RdI.nil _, Ext.refl _, fun b o e => by cases e⟩
    · have f2 : decide (253 < (n : Int)) = false := by simp; omega
      have hz : rtuL u l = sealL (u :: l) := by unfold rtuL; rw [if_pos (by omega)]
      rw [hz]
      have E1 := (Ext.refl w).goA (.cells #[.int .u8 u] 5)
      have own1 := own_new (w := w) (base := w.heap.size) (g := w.heap.size) 5 .u8 u rfl (Nat.le_refl _)
      have hx1 := hx.ext E1
      have hby := Lib.hid (hl.cons u0 u1)
      have own1' := Lib.hid own1
      clear hx hl own1 hz h1
      go_enter Try.func33, Try.ntmps33
      go_wp2_with (at_builtin; refine wpList_appI rfl (.tmp 14) (.tmp 15) _ rfl Try.underlying34 info_u8 own1'.out rfl hx1 rfl (by omega) (by omega) E1.size ?_; intro v3 w3 own3 hg3 hat3; obtain ⟨A3, c3, rfl, ⟨g1, g2⟩, r3⟩ := own_rd own3; have E3 : Ext w w3 := E1.goG hg3 (fun i hi => (own1'.out.lt i hi).1))
      refine (ref01Seal_any A3 (1 + n) c3 ([u] ++ l) w3 r3 hby.out (by omega)).mono ?_
      intro e w4 h4
      have h4' := h4.from_ E3
      obtain ⟨A4, n4, c4, rfl, k1, k2, k3, k4, k5⟩ := h4'
      go_wp2_with fail
      go_ret
      exact ⟨A4, n4, c4, rfl, k1, k2, k3, k4, k5⟩
end
end Go.Proofs.Ytgagpalffdgjnaa
namespace Go.Proofs.Ytgagpalffdgjnaa
open Go.RowKit

/-- Is that a frame? -/
def rtuOk (l : List Int) : Bool := decide (4 ≤ l.length ∧ l.length ≤ 256) && openB l
theorem RdI.drop8 {w : World} {k : IntKind} {n C b o lo : Nat} {xs : List Int} (h : RdI w C k (some ⟨b, o, none⟩) n xs) (hlo : lo ≤ n) : RdI w C k (some ⟨b, o + lo, none⟩) (n - lo) (xs.drop lo) :=
  ⟨by rw [List.length_drop, h.1], fun hn => by
    obtain ⟨b', o', e, hb, hc⟩ := h.2 (by omega)
    injection e with e; injection e with e1 e2
    subst e1 e2
    exact ⟨b, o + lo, rfl, hb, fun j hj => by
      have := hc (lo + j) (by omega)
      rw [← Nat.add_assoc] at this
      rw [this, List.getD_eq_getElem?_getD, List.getD_eq_getElem?_getD, List.getElem?_drop]⟩⟩
def RtuGetPost (l : List Int) (w : World) (e : Ending) (w' : World) : Prop :=
  (rtuOk l = true ∧ ∃ A n c, e = .returned (.tuple #[.int .u8 (l.getD 0 0), .slice A n c, .int .i64 0]) ∧ n ≤ c ∧ c ≤ maxLen ∧ RdI w' w'.heap.size .u8 A n ((l.take (l.length - 2)).drop 1) ∧ Ext w w' ∧ ∀ b o, A = some ⟨b, o, none⟩ → w.heap.size ≤ b) ∨
  (rtuOk l = false ∧ ∃ code, code ≠ 0 ∧ e = .returned (.tuple #[.int .u8 0, .slice none 0 0, .int .i64 code]) ∧ Ext w w')
section
variable (A : Option Addr) (n c : Nat) (l : List Int) (w : World)
set_option maxRecDepth 100000 in
set_option maxHeartbeats 3200000 in
theorem rtuGet_to (hx : RdI w w.heap.size .u8 A n l) (hl : ByteL l) (hnc : n ≤ c) (hcm : c ≤ maxLen) (P : Ending → World → Prop) (hP : ∀ e w', RtuGetPost l w e w' → P e w') :
    Calls Try.prog 87 #[.slice A n c] w P := by
  have hln := hx.len
  have hnm : n ≤ 9223372036854775807 := by unfold maxLen at hcm; omega
  have hP' := Lib.hid hP
  by_cases h1 : 256 < n
  · have f1 : decide (256 < (n : Int)) = true := by simp; omega
    have hz : rtuOk l = false := by unfold rtuOk; rw [decide_eq_false (by omega)]; rfl
    have hz' := Lib.hid hz
    clear hz hP hx
    go_enter Try.func87, Try.ntmps87
    go_wp2_with fail
    refine bodyPost_ret (v := .tuple #[.int .u8 0, .slice none 0 0, .int .i64 22]) (by simp [results, Try.results87, go_sem]) rfl ?_
    exact hP'.out _ _ (.inr ⟨hz'.out, 22, by decide, rfl, Ext.refl _⟩)
  · have f1 : decide (256 < (n : Int)) = false := by simp; omega
    by_cases h2 : n < 4
    · have f2 : decide ((n : Int) < 4) = true := by simp; omega
      have hz : rtuOk l = false := by unfold rtuOk; rw [decide_eq_false (by omega)]; rfl
      have hz' := Lib.hid hz
      clear hz hP hx
      go_enter Try.func87, Try.ntmps87
      go_wp2_with fail
      refine bodyPost_ret (v := .tuple #[.int .u8 0, .slice none 0 0, .int .i64 21]) (by simp [results, Try.results87, go_sem]) rfl ?_
      exact hP'.out _ _ (.inr ⟨hz'.out, 21, by decide, rfl, Ext.refl _⟩)
    · have f2 : decide ((n : Int) < 4) = false := by simp; omega
      have hok : rtuOk l = openB l := by unfold rtuOk; rw [decide_eq_true (by omega), Bool.true_and]
      have hopen := crcOpen_long A n c l w hx hl (by omega) (by omega) hnc (fun e w' => (openB l = true ∧ OpenPost l w e w') ∨ (openB l = false ∧ e = .returned (.tuple #[.slice none 0 0, .bool false]) ∧ Ext w w'))
        (fun h e w' hp => .inl ⟨h, hp⟩) (fun h w' E => .inr ⟨h, rfl, E⟩)
      have hopen' := Lib.hid hopen
      have hok' := Lib.hid hok
      have hln' := Lib.hid hln
      clear hP hopen hok hx hln
      go_enter Try.func87, Try.ntmps87
      go_wp2_with fail
      refine hopen'.out.mono ?_
      rintro e w1 (⟨hb, A1, n1, c1, rfl, g1, g1', r1, D1, fr1⟩ | ⟨hb, rfl, D1⟩)
      · have hl1 := r1.len
        rw [List.length_take, hln'.out] at hl1
        have hn1 : n1 = n - 2 := by omega
        obtain ⟨b, o, rfl, hbl, hc0⟩ := r1.at_ (show 0 < n1 by omega)
        have hz : rtuOk l = true := by rw [hok'.out]; exact hb
        have hz' := Lib.hid hz
        have hd : (l.take (l.length - 2)).getD 0 0 = l.getD 0 0 := by
          rw [List.getD_eq_getElem?_getD, List.getD_eq_getElem?_getD, List.getElem?_take_of_lt (by rw [hln'.out]; omega)]
        rw [hd, Nat.add_zero] at hc0
        have hcg : ∀ w', Ext w1 w' → w'.cell? ⟨b, o, none⟩ = some (.int .u8 (l.getD 0 0)) := fun w' E => (E.cell _ hbl).trans hc0
        have r1' := Lib.hid r1
        have fr1' := Lib.hid fr1
        have p0 : 0 < n1 := by omega
        have p1 : 1 ≤ n1 := by omega
        have p1' : (1 : Int) ≤ (n1 : Int) := by omega
        have p2 : ¬ c1 = 1 := by omega
        clear hz hb hd r1 fr1 hc0 hl1 hn1
        generalize hy : l.getD 0 0 = y at *
        have hy' := Lib.hid hy
        clear hy
        go_wp2_with fail
        have q0 := hcg w1 (Ext.refl _)
        go_quiet (fail)
        go_wp2_with fail
        refine bodyPost_ret (v := .tuple #[.int .u8 y, .slice (some ⟨b, o + 1, none⟩) (n1 - 1) (c1 - 1), .int .i64 0]) (by simp [results, Try.results87, go_sem]) rfl ?_
        exact hP'.out _ _ (.inl ⟨hz'.out, _, n1 - 1, c1 - 1, by rw [hy'.out], by omega, by omega, ((r1'.out.drop8 (lo := 1) p1).ext ((Ext.refl w1).goD _)), D1.goD _, fun b' o' e => by injection e with e; injection e with e1 e2; subst e1; exact fr1'.out _ _ rfl⟩)
      · have hz : rtuOk l = false := by rw [hok'.out]; exact hb
        have hz' := Lib.hid hz
        clear hz hb
        go_wp2_with fail
        refine bodyPost_ret (v := .tuple #[.int .u8 0, .slice none 0 0, .int .i64 23]) (by simp [results, Try.results87, go_sem]) rfl ?_
        exact hP'.out _ _ (.inr ⟨hz'.out, 23, by decide, rfl, D1⟩)
end
end Go.Proofs.Ytgagpalffdgjnaa
namespace Go.Proofs.Ytgagpalffdgjnaa
open Go.RowKit

/-- A frame's head, and the frame. -/
def mbapHead (id u : Int) (n : Nat) : List Int := [id / 256, id % 256, 0, 0, 0, 1 + (n : Int), u]
def mbapL (id u : Int) (l : List Int) : List Int := if 1 ≤ l.length ∧ l.length ≤ 253 then mbapHead id u l.length ++ l else []
theorem RdI.seven (w : World) (e : TypeId) (k : IntKind) (x0 x1 x2 x3 x4 x5 x6 : Int) : RdI (w.alloc (.cells #[.int k x0, .int k x1, .int k x2, .int k x3, .int k x4, .int k x5, .int k x6] e)) (w.heap.size + 1) k (some ⟨w.heap.size, 0, none⟩) 7 [x0, x1, x2, x3, x4, x5, x6] :=
  ⟨rfl, fun _ => ⟨_, _, rfl, by omega, fun j hj => by
    rw [cellsAt (heap_alloc_new w _)]
    match j, hj with
    | 0, _ => rfl
    | 1, _ => rfl
    | 2, _ => rfl
    | 3, _ => rfl
    | 4, _ => rfl
    | 5, _ => rfl
    | 6, _ => rfl⟩⟩
section
variable (id u : Int) (A : Option Addr) (n c : Nat) (l : List Int) (w : World)
set_option maxRecDepth 100000 in
set_option maxHeartbeats 3200000 in
theorem ref03Put_any (i0 : 0 ≤ id) (i1 : id ≤ 65535) (hx : RdI w w.heap.size .u8 A n l) (hn : n ≤ maxLen) :
    Calls Try.prog 34 #[.agg #[.int .u16 id, .int .u8 u, .slice A n c]] w (FreshI .u8 (mbapL id u l) w) := by
  have hln := hx.len
  have X0 := (Ext.refl w).goA (.cells #[.int .u16 id, .int .u8 u, .slice A n c] 48)
  have Q0 := heap_alloc_new w (.cells #[.int .u16 id, .int .u8 u, .slice A n c] 48)
  have q0 := cellsAt Q0
  have Q0' := Lib.hid Q0
  have hx' := Lib.hid (hx.ext X0)
  unfold maxLen at hn
  clear hx Q0
  by_cases h1 : 1 ≤ n ∧ n ≤ 253
  · obtain ⟨h1, h2⟩ := h1
    have f1 : ((n : Int) == 0) = false := by simp; omega
    have f1' : (n == 0) = false := by simp; omega
    have f2 : decide (253 < (n : Int)) = false := by simp; omega
    have hz : mbapL id u l = mbapHead id u n ++ l := by unfold mbapL; rw [if_pos (by omega), hln]
    rw [hz]
    have hz' : Hid (mbapHead id u n = [id / 256, id % 256, 0, 0, 0, 1 + (n : Int), u]) := Lib.hid rfl
    have ua : IntKind.u8.wrap (id / 256) = id / 256 := by rw [IntKind.wrap_u8]; omega
    have ub : IntKind.u8.wrap id = id % 256 := by rw [IntKind.wrap_u8]
    have uc : IntKind.u8.wrap (((n : Int) + 1) / 256) = 0 := by rw [IntKind.wrap_u8]; omega
    have ud : IntKind.u8.wrap ((n : Int) + 1) = 1 + (n : Int) := by rw [IntKind.wrap_u8]; omega
    have B7 : Blk ((w.alloc (.cells #[.int .u16 id, .int .u8 u, .slice A n c] 48)).alloc (.cells #[.int .u8 (id / 256), .int .u8 (id % 256), .int .u8 0, .int .u8 0, .int .u8 0, .int .u8 (1 + (n : Int)), .int .u8 u] 5)) (w.heap.size + 1) 5 .u8 [id / 256, id % 256, 0, 0, 0, 1 + (n : Int), u] := by
      unfold Blk
      rw [alloc_get, if_pos (by simp)]
      rfl
    have own7 := Lib.hid (B7.own (base := w.heap.size) (by omega) (rfl : _ = 7) (by omega))
    have X7 := X0.goA (.cells #[.int .u8 (id / 256), .int .u8 (id % 256), .int .u8 0, .int .u8 0, .int .u8 0, .int .u8 (1 + (n : Int)), .int .u8 u] 5)
    have hx7 := Lib.hid (hx'.out.ext ((Ext.refl _).goA (.cells #[.int .u8 (id / 256), .int .u8 (id % 256), .int .u8 0, .int .u8 0, .int .u8 0, .int .u8 (1 + (n : Int)), .int .u8 u] 5)))
    clear hz B7
    go_enter Try.func34, Try.ntmps34
    go_wp2_with (at_builtin; refine wpList_appI rfl (.tmp 32) (.tmp 34) _ rfl Try.underlying34 info_u8 own7.out rfl hx7.out rfl (by omega) (by omega) X7.size ?_; intro v3 w3 own3 hg3 hat3)
    go_ret
    obtain ⟨A3, c3, rfl, ⟨g1, g2⟩, r3⟩ := own_rd own3
    rw [hz'.out]
    exact ⟨A3, _, c3, rfl, g1, g2, r3, X7.goG hg3 (fun i hi => (own7.out.lt i hi).1), fun b o e => by subst e; exact (own3.lt b rfl).1⟩
  · have hz : mbapL id u l = [] := by unfold mbapL; rw [if_neg (by omega)]
    rw [hz]
    have hw : n = 0 ∨ (n ≠ 0 ∧ 253 < n) := by omega
    clear hz h1
    rcases hw with rfl | ⟨h0, h2⟩
    · go_enter Try.func34, Try.ntmps34
      go_wp2_with fail
      go_ret
      exact ⟨none, 0, 0, rfl, Nat.le_refl _, by unfold maxLen; omega, RdI.nil _, X0, fun b o e => by cases e⟩
    · have f1 : ((n : Int) == 0) = false := by simp; omega
      have f1' : (n == 0) = false := by simp; omega
      have f2 : decide (253 < (n : Int)) = true := by simp; omega
      go_enter Try.func34, Try.ntmps34
      go_wp2_with fail
      go_ret
      exact ⟨none, 0, 0, rfl, Nat.le_refl _, by unfold maxLen; omega, RdI.nil _, X0, fun b o e => by cases e⟩
end
end Go.Proofs.Ytgagpalffdgjnaa
namespace Go.Proofs.Ytgagpalffdgjnaa
open Go.RowKit

section
variable (id u : Int) (A : Option Addr) (n c : Nat) (l : List Int) (w : World)
set_option maxRecDepth 100000 in
set_option maxHeartbeats 3200000 in
theorem mbapPut_own (i0 : 0 ≤ id) (i1 : id ≤ 65535) (hx : RdI w w.heap.size .u8 A n l) (hn : n ≤ maxLen) :
    Calls Try.prog 93 #[.agg #[.int .u16 id, .int .u8 u, .slice A n c]] w (FreshO (mbapL id u l) w) := by
  have hln := hx.len
  have X0 := (Ext.refl w).goA (.cells #[.int .u16 id, .int .u8 u, .slice A n c] 48)
  have Q0 := heap_alloc_new w (.cells #[.int .u16 id, .int .u8 u, .slice A n c] 48)
  have q0 := cellsAt Q0
  have Q0' := Lib.hid Q0
  have hx' := Lib.hid hx
  unfold maxLen at hn
  clear hx Q0
  by_cases h1 : 1 ≤ n ∧ n ≤ 253
  · obtain ⟨h1, h2⟩ := h1
    have f1 : ((n : Int) == 0) = false := by simp; omega
    have f1' : (n == 0) = false := by simp; omega
    have f2 : decide (253 < (n : Int)) = false := by simp; omega
    have hz : mbapL id u l = mbapHead id u n ++ l := by unfold mbapL; rw [if_pos (by omega), hln]
    rw [hz]
    have hz' : Hid (mbapHead id u n = [id / 256, id % 256, 0, 0, 0, 1 + (n : Int), u]) := Lib.hid rfl
    have ua : IntKind.u8.wrap (id / 256) = id / 256 := by rw [IntKind.wrap_u8]; omega
    have ub : IntKind.u8.wrap id = id % 256 := by rw [IntKind.wrap_u8]
    have uc : IntKind.u8.wrap ((1 + (n : Int)) / 256) = 0 := by rw [IntKind.wrap_u8]; omega
    have ud : IntKind.u8.wrap (1 + (n : Int)) = 1 + (n : Int) := by rw [IntKind.wrap_u8]; omega
    have hmk := fun w => run_mkLC Try.underlying34 info_u8 (0 : Int) (6 + (1 + (n : Int))) 0 (7 + n) rfl (by omega) (by omega) (by omega) (by omega) w
    have XU := X0.goA (.cells (row .u8 (zs (7 + n))) 5)
    have QU : ((w.alloc (.cells #[.int .u16 id, .int .u8 u, .slice A n c] 48)).alloc (.cells (row .u8 (zs (7 + n))) 5)).heap[w.heap.size]? = some (.cells #[.int .u16 id, .int .u8 u, .slice A n c] 48 (0, 0)) := by rw [alloc_get, if_neg (by simp), alloc_get, if_pos rfl]
    have BU : Blk ((w.alloc (.cells #[.int .u16 id, .int .u8 u, .slice A n c] 48)).alloc (.cells (row .u8 (zs (7 + n))) 5)) (w.heap.size + 1) 5 .u8 (zs (7 + n)) := by unfold Blk; rw [alloc_get, if_pos (by simp)]
    have ownU := Lib.hid (own_lenCap (base := w.heap.size) (m := 0) BU (by omega) (zs_length _) (by omega) (by omega))
    have QU' := Lib.hid QU
    have sU := XU.size
    clear hz QU BU
    go_enter Try.func93, Try.ntmps93
    go_upto_region 5 with fail
    clear q0 hmk
    have qU := cellsAt QU'.out
    generalize (w.alloc (.cells #[.int .u16 id, .int .u8 u, .slice A n c] 48)).alloc (.cells (row .u8 (zs (7 + n))) 5) = U at *
    go_upto_region 6 with (at_builtin; refine wpList_appI rfl (.tmp 22) (.tmp 37) _ rfl Try.underlying34 info_u8 (ownU.out.alloc _) rfl (RdI.seven _ _ _ _ _ _ _ _ _ _) rfl (by omega) (by omega) (by simp; omega) ?_; intro v2 w2 own2 hg2 hat2)
    have E2 : Ext w w2 := (XU.goA _).goG hg2 (fun i hi => (ownU.out.lt i hi).1)
    have q2 := cellsAt ((hg2.block w.heap.size (by simp; have := lt_of_block QU'.out; omega) (fun e => by have e' : some w.heap.size = some (w.heap.size + 1) := e; injection e' with e'; omega)).trans ((((Ext.refl U).goA _).block _ (lt_of_block QU'.out)).trans QU'.out))
    rw [List.take_zero, List.nil_append, Nat.zero_add] at own2
    have hx2 := hx'.out.ext E2
    have s2 := E2.size
    clear qU hg2 hat2
    go_wp2_with (at_builtin; refine wpList_appI rfl (.tmp 39) (.tmp 41) _ rfl Try.underlying34 info_u8 own2 rfl hx2 rfl (by omega) (by omega) s2 ?_; intro v3 w3 own3 hg3 hat3)
    go_ret
    obtain ⟨A3, c3, rfl, _, _⟩ := own_rd own3
    rw [hz'.out]
    exact ⟨A3, _, c3, rfl, own3, E2.goG hg3 (fun i hi => (own2.lt i hi).1)⟩
  · have hz : mbapL id u l = [] := by unfold mbapL; rw [if_neg (by omega)]
    rw [hz]
    have hw : n = 0 ∨ (n ≠ 0 ∧ 253 < n) := by omega
    clear hz h1
    rcases hw with rfl | ⟨h0, h2⟩
    · go_enter Try.func93, Try.ntmps93
      go_wp2_with fail
      go_ret
      exact ⟨none, 0, 0, rfl, World.ownsRow_nil _ _ _ _, X0⟩
    · have f1 : ((n : Int) == 0) = false := by simp; omega
      have f1' : (n == 0) = false := by simp; omega
      have f2 : decide (253 < (n : Int)) = true := by simp; omega
      go_enter Try.func93, Try.ntmps93
      go_wp2_with fail
      go_ret
      exact ⟨none, 0, 0, rfl, World.ownsRow_nil _ _ _ _, X0⟩
theorem mbapPut_any (i0 : 0 ≤ id) (i1 : id ≤ 65535) (hx : RdI w w.heap.size .u8 A n l) (hn : n ≤ maxLen) :
    Calls Try.prog 93 #[.agg #[.int .u16 id, .int .u8 u, .slice A n c]] w (FreshI .u8 (mbapL id u l) w) := (mbapPut_own id u A n c l w i0 i1 hx hn).mono fun _ _ h => h.fresh
end
end Go.Proofs.Ytgagpalffdgjnaa
