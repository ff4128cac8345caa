/- Layer 21, the walks: listen of a line that is no stream; Hear. -/
import Derived.Test.YtgagpalffdgjnaaLineF
import Derived.Test.YtgagpalffdgjnaaG31
import Derived.Test.YtgagpalffdgjnaaG11
namespace Go.Proofs.Ytgagpalffdgjnaa
open Go.RowKit

/-- What may be an answer: of which unit, and its bytes; in memory from block 'base' on. -/
structure Am where
  u : Int
  l : List Int
  A : Option Addr
  n : Nat
  c : Nat
def Am.p (x : Am) : Int × List Int := (x.u, x.l)
structure AnsAt (w : World) (base : Nat) (A : Option Addr) (n c : Nat) (ms : List Am) : Prop where
  len : ms.length = n
  nc : n ≤ c
  cm : c ≤ maxLen
  row : 0 < n → ∃ b o, A = some ⟨b, o, none⟩ ∧ base ≤ b ∧ b < w.heap.size ∧ ∀ j, (hj : j < ms.length) → w.cell? ⟨b, o + j * 2, none⟩ = some (.int .u8 ms[j].u) ∧ w.cell? ⟨b, o + j * 2 + 1, none⟩ = some (.slice ms[j].A ms[j].n ms[j].c)
  each : ∀ x, x ∈ ms → (0 ≤ x.u ∧ x.u ≤ 255) ∧ RdI w w.heap.size .u8 x.A x.n x.l ∧ ByteL x.l ∧ x.n ≤ x.c ∧ x.c ≤ maxLen ∧ (0 < x.n → ∀ b o, x.A = some ⟨b, o, none⟩ → base ≤ b)
theorem AnsAt.modS {w w' : World} {base : Nat} {A : Option Addr} {n c : Nat} {ms : List Am} {S : Nat → Prop} (h : AnsAt w base A n c ms) (m : Mod S w w') (hS : ∀ i, S i → i < base) : AnsAt w' base A n c ms :=
  ⟨h.len, h.nc, h.cm, fun hn => by
    obtain ⟨b, o, e, hb, hlt, hc⟩ := h.row hn
    exact ⟨b, o, e, hb, Nat.lt_of_lt_of_le hlt m.size, fun j hj => ⟨(m.cell _ hlt (fun hs => by have := hS b hs; omega)).trans (hc j hj).1, (m.cell _ hlt (fun hs => by have := hS b hs; omega)).trans (hc j hj).2⟩⟩, fun x hx => by
    obtain ⟨h1, h2, h3, h4, h5, h6⟩ := h.each x hx
    exact ⟨h1, h2.modS (fun hn b o e hs => by have := hS b hs; have := h6 hn b o e; omega) m, h3, h4, h5, h6⟩⟩
/-- What is heard on a line that is no stream. -/
def serHeard (l : List Int) : List (Int × List Int) := if rtuOk l = true then [(l.getD 0 0, (l.take (l.length - 2)).drop 1)] else []
def ListenPost (xa : List (Int × List Int)) (w : World) (e : Ending) (w' : World) : Prop :=
  ∃ A n c ms, e = .returned (.slice A n c) ∧ ms.map Am.p = xa ∧ AnsAt w' w.heap.size A n c ms ∧ Ext w w'
section
variable (A : Option Addr) (n c : Nat) (l : List Int) (w : World)
set_option maxRecDepth 100000 in
set_option maxHeartbeats 3200000 in
theorem serListen_any (hx : RdI w w.heap.size .u8 A n l) (hl : ByteL l) (hnc : n ≤ c) (hcm : c ≤ maxLen) :
    Calls Try.prog 149 #[.agg #[], .slice A n c] w (ListenPost (serHeard l) w) := by
  have E0 := (Ext.refl w).goA (.cells #[] 99)
  have hx0 := hx.ext E0
  have hl' := Lib.hid hl
  cases hok : rtuOk l
  · have hz : Hid (serHeard l = []) := Lib.hid (by unfold serHeard; rw [hok]; rfl)
    have hc := rtuGet_to A n c l _ hx0 hl hnc hcm (fun e w' => ∃ code, code ≠ 0 ∧ e = .returned (.tuple #[.int .u8 0, .slice none 0 0, .int .i64 code]) ∧ Ext (w.alloc (.cells #[] 99)) w') (fun e w' hp => by
      rcases hp with ⟨h, _⟩ | ⟨_, h⟩
      · rw [hok] at h; cases h
      · exact h)
    clear hok hx0 hx hl
    go_enter Try.func149, Try.ntmps149
    go_wp2_with (go_at_call 87; refine hc.mono ?_; rintro _ w1 ⟨code, hne, rfl, E1⟩; have hne' := bne_iff_ne.2 hne; dsimp only)
    go_ret
    rw [hz.out]
    exact ⟨none, 0, 0, [], rfl, rfl, ⟨rfl, Nat.le_refl _, by unfold maxLen; omega, fun h => absurd h (by omega), fun x hx => by simp at hx⟩, E0.go E1⟩
  · have hz : Hid (serHeard l = [(l.getD 0 0, (l.take (l.length - 2)).drop 1)]) := Lib.hid (by unfold serHeard; rw [hok]; rfl)
    have hc := rtuGet_to A n c l _ hx0 hl hnc hcm (fun e w' => ∃ A n c, e = .returned (.tuple #[.int .u8 (l.getD 0 0), .slice A n c, .int .i64 0]) ∧ n ≤ c ∧ c ≤ maxLen ∧ RdI w' w'.heap.size .u8 A n ((l.take (l.length - 2)).drop 1) ∧ Ext (w.alloc (.cells #[] 99)) w' ∧ ∀ b o, A = some ⟨b, o, none⟩ → (w.alloc (.cells #[] 99)).heap.size ≤ b) (fun e w' hp => by
      rcases hp with ⟨_, h⟩ | ⟨h, _⟩
      · exact h
      · rw [hok] at h; cases h)
    clear hok hx0 hx hl
    go_enter Try.func149, Try.ntmps149
    go_wp2_with (go_at_call 87; refine hc.mono ?_; rintro _ w1 ⟨A1, n1, c1, rfl, g1, g2, r1, E1, fr1⟩; dsimp only)
    go_ret
    rw [hz.out]
    have E2 : Ext w1 (w1.alloc (.cells #[.int .u8 (l.getD 0 0), .slice A1 n1 c1] 116)) := (Ext.refl w1).goA _
    have hb := heap_alloc_new w1 (.cells #[.int .u8 (l.getD 0 0), .slice A1 n1 c1] 116)
    have hsz := E0.size
    have hsz1 := E1.size
    have hu := hl'.out 0
    rw [← List.getD_eq_getElem?_getD] at hu
    refine ⟨some ⟨w1.heap.size, 0, none⟩, 1, 1, [⟨l.getD 0 0, (l.take (l.length - 2)).drop 1, A1, n1, c1⟩], rfl, rfl, ⟨rfl, Nat.le_refl _, by unfold maxLen; omega, fun _ => ⟨w1.heap.size, 0, rfl, by omega, lt_of_block hb, fun j hj => ?_⟩, fun x hx => ?_⟩, (E0.go E1).go E2⟩
    · have hj0 : j = 0 := by simpa using hj
      subst hj0
      exact ⟨cellsAt hb 0, cellsAt hb 1⟩
    · obtain rfl := List.mem_singleton.1 hx
      exact ⟨hu, r1.ext E2, fun j => by rw [List.getElem?_drop]; exact hl'.out.take _ _, g1, g2, fun _ b o e => by have := fr1 b o e; omega⟩
end

/-- What is heard, one by one. -/
def hearStep (L : Lp) (ds : List Dn) (x : Int × List Int) : Lp × List Dn :=
  if L.busy = true ∧ x.1 = L.J.un ∧ (rgetR L.J.fc L.J.ad L.J.qt L.J.to L.J.xs x.2).2.2 ≠ 51 then
    (endL L, ds ++ [⟨L.J.id, (rgetR L.J.fc L.J.ad L.J.qt L.J.to L.J.xs x.2).2.2, (rgetR L.J.fc L.J.ad L.J.qt L.J.to L.J.xs x.2).1, (rgetR L.J.fc L.J.ad L.J.qt L.J.to L.J.xs x.2).2.1⟩])
  else (L, ds)
def hearF (L : Lp) (xa : List (Int × List Int)) : Lp × List Dn := xa.foldl (fun s x => hearStep s.1 s.2 x) (L, [])
theorem hearF_take (L : Lp) (xa : List (Int × List Int)) (j : Nat) (h : j < xa.length) : hearF L (xa.take (j + 1)) = hearStep (hearF L (xa.take j)).1 (hearF L (xa.take j)).2 (xa[j]) := by
  unfold hearF
  rw [List.take_succ_eq_append_getElem h, List.foldl_append]
  rfl
def HearPost (k : Bool) (a q cu co s : Nat) (re wa : Int) (L : Lp) (xa : List (Int × List Int)) (w : World) (e : Ending) (w' : World) : Prop :=
  ∃ d, e = .returned d ∧ DonesAt w' w.heap.size d (hearF L xa).2 ∧ Mod (LnB k a q cu co s) w w' ∧ ∃ M', M'.p = (hearF L xa).1 ∧ HasLn k w' a q cu co s re wa M'
def HearRel (k : Bool) (a q cu co s : Nat) (re wa : Int) (L : Lp) (xa : List (Int × List Int)) (base : Nat) (w1 : World) (u i : Value) (wr : World) : Prop :=
  ∃ j : Nat, j ≤ xa.length ∧ i = .int .i64 j ∧ ∃ N : Lm, N.p = (hearF L (xa.take j)).1 ∧ HasLn k wr a q cu co s re wa N ∧ DonesAt wr base u (hearF L (xa.take j)).2 ∧ (N.busy = true → (hearF L (xa.take j)).2 = [] ∧ u = .slice none 0 0) ∧ Mod (LnB k a q cu co s) w1 wr
theorem DonesAt.ext {w w' : World} {base : Nat} {v : Value} {ds : List Dn} (h : DonesAt w base v ds) (E : Ext w w') : DonesAt w' base v ds := by
  obtain ⟨ms, e, ho, hr⟩ := h
  exact ⟨ms, e, own_ext ho E, fun d hd => ⟨(hr d hd).1.ext E, (hr d hd).2⟩⟩
theorem DonesAt.one {w : World} {base n c : Nat} {v : Value} {id err code : Int} {A : Option Addr} {ys : List Int} (h : w.ownsRow base 56 4 v 1 [.int .i64 id, .int .i64 err, .int .i64 code, .slice A n c]) (r : RdI w w.heap.size .u16 A n ys) (hr : Word16 ys) (h1 : n ≤ c) (h2 : c ≤ maxLen) : DonesAt w base v ([] ++ [⟨id, err, code, ys⟩]) :=
  ⟨[⟨⟨id, err, code, ys⟩, A, n, c⟩], rfl, h, fun d hd => by
    obtain rfl := List.mem_singleton.1 hd
    exact ⟨r, hr, h1, h2⟩⟩
/-- Numbers of sixteen bits never lie in a line's block. -/
theorem off_line {k : Bool} {w : World} {a q s B n : Nat} {re wa sent times : Int} {busy : Bool} {J : Jm} {A : Option Addr} {l : List Int} {t : TypeId} (hs : w.heap[a]? = some (.cells (lineCells k s q re wa busy J sent times) t (0, 0))) (h : RdI w B .u16 A n l) : OffB (fun i => i = a) A n := fun hn b o e hb => by
  obtain ⟨b', o', e', _, hc⟩ := h.2 hn
  rw [e] at e'
  simp only [Option.some.injEq, Addr.mk.injEq, and_true] at e'
  obtain ⟨rfl, rfl⟩ := e'
  subst hb
  have h1 := hc 0 hn
  rw [cellsAt hs] at h1
  unfold lineCells trV at h1
  rcases o with _ | _ | _ | _ | _ | _ | _ | _ | _ | _ | _ | _ | _ | _ | _ | o <;> cases k <;> simp at h1
theorem off_rep {w : World} {a B n m cc : Nat} {x : Int} {A A0 : Option Addr} {l : List Int} {t : TypeId} (hs : w.heap[a]? = some (.cells #[.int .i64 x, .slice A0 m cc] t (0, 0))) (h : RdI w B .u16 A n l) : OffB (fun i => i = a) A n := fun hn b o e hb => by
  obtain ⟨b', o', e', _, hc⟩ := h.2 hn
  rw [e] at e'
  simp only [Option.some.injEq, Addr.mk.injEq, and_true] at e'
  obtain ⟨rfl, rfl⟩ := e'
  subst hb
  have h1 := hc 0 hn
  rw [cellsAt hs] at h1
  rcases o with _ | _ | o <;> simp at h1
theorem rget_word (fc ad qt to : Int) (xs bs : List Int) (hb : ByteL bs) : Word16 (rgetR fc ad qt to xs bs).2.1 := by
  have h0 : Word16 ([] : List Int) := fun j => by simp
  unfold rgetR
  split
  · split
    · split <;> exact h0
    · split
      · exact takenV_range _ _ _ _ hb
      · exact h0
  · exact h0
theorem hear_same {L L2 : Lp} {xa : List (Int × List Int)} {j : Nat} {y : Int × List Int} (hN : L2 = (hearF L (xa.take j)).1) (h : hearF L (xa.take (j + 1)) = hearStep (hearF L (xa.take j)).1 (hearF L (xa.take j)).2 y)
    (hs : L2.busy = true → y.1 = L2.J.un → (rgetR L2.J.fc L2.J.ad L2.J.qt L2.J.to L2.J.xs y.2).2.2 = 51) : hearF L (xa.take (j + 1)) = (L2, (hearF L (xa.take j)).2) := by
  rw [h, ← hN]
  unfold hearStep
  rw [if_neg (fun hh => hh.2.2 (hs hh.1 hh.2.1))]
theorem hear_more {L L2 : Lp} {xa : List (Int × List Int)} {j : Nat} {y : Int × List Int} (hN : L2 = (hearF L (xa.take j)).1) (h : hearF L (xa.take (j + 1)) = hearStep (hearF L (xa.take j)).1 (hearF L (xa.take j)).2 y)
    (h1 : L2.busy = true) (h2 : y.1 = L2.J.un) (h3 : (rgetR L2.J.fc L2.J.ad L2.J.qt L2.J.to L2.J.xs y.2).2.2 ≠ 51) : hearF L (xa.take (j + 1)) = (endL L2, (hearF L (xa.take j)).2 ++ [⟨L2.J.id, (rgetR L2.J.fc L2.J.ad L2.J.qt L2.J.to L2.J.xs y.2).2.2, (rgetR L2.J.fc L2.J.ad L2.J.qt L2.J.to L2.J.xs y.2).1, (rgetR L2.J.fc L2.J.ad L2.J.qt L2.J.to L2.J.xs y.2).2.1⟩]) := by
  rw [h, ← hN]
  unfold hearStep
  rw [if_pos ⟨h1, h2, h3⟩]
section
variable (k : Bool) (a q cu co s : Nat) (re wa : Int) (M : Lm) (A : Option Addr) (n c : Nat) (l : List Int) (w : World)
set_option maxRecDepth 100000 in
set_option maxHeartbeats 6400000 in
theorem lineHear_ser (h : HasLn false w a q cu co s re wa M) (hx : RdI w w.heap.size .u8 A n l) (hl : ByteL l) (hnc : n ≤ c) (hcm : c ≤ maxLen) :
    Calls Try.prog 17 #[.pointer (some ⟨a, 0, none⟩), .slice A n c] w (HearPost false a q cu co s re wa M.p (serHeard l) w) := by
  have h' := Lib.hid h
  have c0 : w.cell? ⟨a, 0, none⟩ = some (.iface 99 (.agg #[])) := h.cells.1
  have hc := serListen_any A n c l w hx hl hnc hcm
  have hxl : (serHeard l).length ≤ 1000000 := by unfold serHeard; split <;> simp
  clear h hx hl
  go_enter Try.func17, Try.ntmps17
  go_wp2_with (go_invoke; go_simp; go_at_call 149; refine hc.mono ?_; rintro _ w1 ⟨A1, n1, c1, ms, rfl, hms, R1, E1⟩; dsimp only)
  have h1 := Lib.hid (h'.out.ext E1)
  have R1' := Lib.hid R1
  have hmn := R1.len
  have hml : ms.length = (serHeard l).length := by rw [← hms, List.length_map]
  have hms' := Lib.hid hms
  clear R1 hms hc c0
  go_loopw [5, 17] (fun u i wr => HearRel false a q cu co s re wa M.p (serHeard l) w.heap.size w1 u i wr) (fun _ i _ => n1 - (intOf i).toNat)
  case atStart => exact ⟨0, by omega, rfl, M, rfl, h1.out, DonesAt.nil _ _, fun _ => ⟨rfl, rfl⟩, Mod.refl _ _⟩
  case round =>
    obtain ⟨j, hj, rfl, N, hN, hH, hD, hB, m1⟩ := hrel
    have hH' := Lib.hid hH
    have hD' := Lib.hid hD
    have m1' := Lib.hid m1
    clear hH hD m1
    by_cases hjn : j < n1
    · have t1 : decide ((j : Int) < (n1 : Int)) = true := by simp; exact hjn
      have t1' : decide (j < n1) = true := by simp; exact hjn
      have Rr := R1'.out.modS m1'.out (fun i hi => h'.out.lt hi)
      obtain ⟨b, o, rfl, hb0, hb1, hrow⟩ := Rr.row (by omega)
      have hjm : j < ms.length := by omega
      obtain ⟨e0, e1⟩ := hrow j hjm
      have hx := Rr.each _ (List.getElem_mem hjm)
      have hstep := Lib.hid (hearF_take M.p (serHeard l) j (by omega))
      have hxe : (serHeard l)[j]'(by omega) = (ms[j].u, ms[j].l) := by
        have := hms'.out
        simp only [← this, List.getElem_map]
        rfl
      rw [hxe] at hstep
      generalize ms[j] = x at *
      have hx' := Lib.hid hx
      clear hx hrow Rr hxe
      have hsame := Lib.hid (hear_same hN hstep.out)
      have hmore := Lib.hid (hear_more hN hstep.out)
      clear hstep
      go_upto_region 5 with fail
      have E2 : Ext wr (wr.alloc (.cells #[.int .u8 x.u, .slice x.A x.n x.c] 116)) := (Ext.refl wr).goA _
      have b2 := heap_alloc_new wr (.cells #[.int .u8 x.u, .slice x.A x.n x.c] 116)
      generalize wr.alloc (.cells #[.int .u8 x.u, .slice x.A x.n x.c] 116) = w2 at *
      have H2 := Lib.hid (hH'.out.ext E2)
      have D2 := Lib.hid (hD'.out.ext E2)
      have m2 := Lib.hid (m1'.out.trans (E2.mod _))
      have k0 : w2.cell? ⟨wr.heap.size, 0, none⟩ = some (.int .u8 x.u) := cellsAt b2 0
      have k1 : w2.cell? ⟨wr.heap.size, 1, none⟩ = some (.slice x.A x.n x.c) := cellsAt b2 1
      have hu := hx'.out.1
      have hwx : IntKind.i64.wrap x.u = x.u := by rw [IntKind.wrap_i64]; omega
      obtain ⟨_, _, _, _, q4, _, q6, q7, q8, q9, q10, q11, _, _, _⟩ := H2.out.cells
      cases hbs : N.busy
      · rw [hbs] at q4
        have hnx := Lib.hid (hsame.out (fun h => Bool.noConfusion (hbs.symm.trans h)))
        clear hsame hmore e0 e1 q6 q7 q8 q9 q10 q11
        go_region
        all_goals
          have E3 : Ext w2 w2.drew := (Ext.refl w2).god
          generalize w2.drew = w3 at *
          go_wp2_with fail
          go_roundw
          case rel => exact ⟨j + 1, by omega, by go_num, N, by rw [hnx.out], H2.out.ext E3, by rw [hnx.out]; exact D2.out.ext E3, fun h => Bool.noConfusion (hbs.symm.trans h), m2.out.trans (E3.mod _)⟩
          case measure => simp [intOf]; omega
      · rw [hbs] at q4
        by_cases hun : x.u = N.J.p.un
        · have hne : (x.u != N.J.p.un) = false := by rw [hun]; simp
          obtain ⟨hds, hu5⟩ := hB hbs
          have hds' := Lib.hid hds
          subst hu5
          clear e0 e1 hB hds
          go_upto_region 5 with fail
          go_region
          all_goals
            go_upto_region 6 with fail
            have E3 : Ext w2 w2.drew := (Ext.refl w2).god
            generalize w2.drew = w3 at *
            have H3 := Lib.hid (H2.out.ext E3)
            have hJ := Lib.hid (H3.out.jobs N.J (.inr (.inr ⟨hbs, rfl⟩)))
            have q7' : ∀ w', Ext w3 w' → w'.cell? ⟨a, 7, none⟩ = some (.int .i64 N.J.p.fc) := fun w' E => (H3.out.ext E).cells.2.2.2.2.2.2.2.1
            have q8' : ∀ w', Ext w3 w' → w'.cell? ⟨a, 8, none⟩ = some (.int .i64 N.J.p.ad) := fun w' E => (H3.out.ext E).cells.2.2.2.2.2.2.2.2.1
            have q9' : ∀ w', Ext w3 w' → w'.cell? ⟨a, 9, none⟩ = some (.int .i64 N.J.p.qt) := fun w' E => (H3.out.ext E).cells.2.2.2.2.2.2.2.2.2.1
            have q10' : ∀ w', Ext w3 w' → w'.cell? ⟨a, 10, none⟩ = some (.slice N.J.A N.J.n N.J.c) := fun w' E => (H3.out.ext E).cells.2.2.2.2.2.2.2.2.2.2.1
            have q11' : ∀ w', Ext w3 w' → w'.cell? ⟨a, 11, none⟩ = some (.int .i64 N.J.p.to) := fun w' E => (H3.out.ext E).cells.2.2.2.2.2.2.2.2.2.2.2.1
            have klt : wr.heap.size < w2.heap.size := lt_of_block b2
            have k1' : ∀ w', Ext w3 w' → w'.cell? ⟨wr.heap.size, 1, none⟩ = some (.slice x.A x.n x.c) := fun w' E => ((E3.go E).cell 1 klt).trans k1
            have hrg : ∀ w', Ext w3 w' → _ := fun w' E => rget_any N.J.p.fc N.J.p.ad N.J.p.qt N.J.p.to N.J.A x.A N.J.n N.J.c x.n x.c N.J.p.xs x.l w' (hJ.out.1.rd.ext E) hJ.out.2.2.2.2 (Nat.le_trans hJ.out.1.nc hJ.out.1.cm) ((hx'.out.2.1.ext (E2.go E3)).ext E) hx'.out.2.2.1 hx'.out.2.2.2.1 hx'.out.2.2.2.2.1
            have hsame2 : Hid ((rgetR N.J.p.fc N.J.p.ad N.J.p.qt N.J.p.to N.J.p.xs x.l).2.2 = 51 → _) := Lib.hid (fun h => hsame.out (fun _ _ => h))
            have hmore2 : Hid ((rgetR N.J.p.fc N.J.p.ad N.J.p.qt N.J.p.to N.J.p.xs x.l).2.2 ≠ 51 → hearF M.p (List.take (j + 1) (serHeard l)) = (endL N.p, (hearF M.p (List.take j (serHeard l))).2 ++ [⟨N.J.p.id, (rgetR N.J.p.fc N.J.p.ad N.J.p.qt N.J.p.to N.J.p.xs x.l).2.2, (rgetR N.J.p.fc N.J.p.ad N.J.p.qt N.J.p.to N.J.p.xs x.l).1, (rgetR N.J.p.fc N.J.p.ad N.J.p.qt N.J.p.to N.J.p.xs x.l).2.1⟩])) := Lib.hid (fun h => hmore.out hbs hun h)
            have hyr := rget_word N.J.p.fc N.J.p.ad N.J.p.qt N.J.p.to N.J.p.xs x.l hx'.out.2.2.1
            clear hsame hmore q6 q7 q8 q9 q10 q11 k0 k1
            generalize rgetR N.J.p.fc N.J.p.ad N.J.p.qt N.J.p.to N.J.p.xs x.l = rg at *
            obtain ⟨code, ys, err⟩ := rg
            dsimp only at hsame2 hmore2 hrg hyr
            refine wp_region_held_drew (S := fun w' => Ext w3 w') (by kernel_rfl) ((Ext.refl w3).god) (fun hHeld => ?_)
            refine wpAnyH_take (i := 0) (oi := _) (v := ?_) rfl (by kernel_rfl) (by kernel_rfl) (by kernel_rfl) (fun _ _ _ h => h) (Or.inl ⟨by rfl, ?_⟩) (by assumption) ?_
            rotate_left
            · intro w hSw
              (try dsimp only at hSw)
              go_simp
              try (with_reducible rfl)
            try simp only [Act.put, List.getElem_toArray, List.getElem_cons_zero, List.setIfInBounds_toArray, List.set_cons_zero, List.set_cons_succ]
            refine wpAnyH_take (i := 1) (oi := _) (v := ?_) rfl (by kernel_rfl) (by kernel_rfl) (by kernel_rfl) (fun _ _ _ h => h) (Or.inl ⟨by rfl, ?_⟩) (by assumption) ?_
            rotate_left
            · intro w hSw
              (try dsimp only at hSw)
              go_simp
              try (with_reducible rfl)
            try simp only [Act.put, List.getElem_toArray, List.getElem_cons_succ, List.getElem_cons_zero, List.setIfInBounds_toArray, List.set_cons_zero, List.set_cons_succ]
            refine wpAnyH_take (i := 2) (oi := _) (v := ?_) rfl (by kernel_rfl) (by kernel_rfl) (by kernel_rfl) (fun _ _ _ h => h) (Or.inl ⟨by rfl, ?_⟩) (by assumption) ?_
            rotate_left
            · intro w hSw
              (try dsimp only at hSw)
              go_simp
              try (with_reducible rfl)
            try simp only [Act.put, List.getElem_toArray, List.getElem_cons_succ, List.getElem_cons_zero, List.setIfInBounds_toArray, List.set_cons_zero, List.set_cons_succ]
            refine wpAnyH_take (i := 3) (oi := _) (v := ?_) rfl (by kernel_rfl) (by kernel_rfl) (by kernel_rfl) (fun _ _ _ h => h) (Or.inl ⟨by rfl, ?_⟩) (by assumption) ?_
            rotate_left
            · intro w hSw
              (try dsimp only at hSw)
              go_simp
              try (with_reducible rfl)
            try simp only [Act.put, List.getElem_toArray, List.getElem_cons_succ, List.getElem_cons_zero, List.setIfInBounds_toArray, List.set_cons_zero, List.set_cons_succ]
            refine wpAnyH_take (i := 4) (oi := _) (v := ?_) rfl (by kernel_rfl) (by kernel_rfl) (by kernel_rfl) (fun _ _ _ h => h) (Or.inl ⟨by rfl, ?_⟩) (by assumption) ?_
            rotate_left
            · intro w hSw
              (try dsimp only at hSw)
              go_simp
              try (with_reducible rfl)
            try simp only [Act.put, List.getElem_toArray, List.getElem_cons_succ, List.getElem_cons_zero, List.setIfInBounds_toArray, List.set_cons_zero, List.set_cons_succ]
            refine wpAnyH_take (i := 5) (oi := _) (v := ?_) rfl (by kernel_rfl) (by kernel_rfl) (by kernel_rfl) (fun _ _ _ h => h) (Or.inl ⟨by rfl, ?_⟩) (by assumption) ?_
            rotate_left
            · intro w hSw
              (try dsimp only at hSw)
              go_simp
              try (with_reducible rfl)
            try simp only [Act.put, List.getElem_toArray, List.getElem_cons_succ, List.getElem_cons_zero, List.setIfInBounds_toArray, List.set_cons_zero, List.set_cons_succ]
            refine wpAnyH_take (i := 6) (oi := _) (v := ?_) rfl (by kernel_rfl) (by kernel_rfl) (by kernel_rfl) (fun _ _ _ h => h) (Or.inl ⟨by rfl, ?_⟩) (by assumption) ?_
            rotate_left
            · intro w hSw
              (try dsimp only at hSw)
              go_simp
              try (with_reducible rfl)
            try simp only [Act.put, List.getElem_toArray, List.getElem_cons_succ, List.getElem_cons_zero, List.setIfInBounds_toArray, List.set_cons_zero, List.set_cons_succ]
            refine wpAnyH_ready (rs := [7, 11]) (by kernel_rfl) (by simp) ?_
            refine AllReadyH.cons rfl (fun K hK => ?_) (AllReadyH.cons rfl (fun K hK => ?_) (AllReadyH.nil))
            · go_simp
              go_at_call 50
              refine (hrg _ hHeld).mono ?_
              rintro _ w4 ⟨Ay, ny, cy, rfl, y1, y2, ry, E4⟩
              have hHeld4 := Ext.go hHeld E4
              try dsimp only
              refine hK.out _ _ ?_ (fun hHeld => ?_)
              · first | assumption | (dsimp only; assumption)
              clear hK K
              try simp only [Act.put, List.getElem_toArray, List.getElem_cons_succ, List.getElem_cons_zero, List.setIfInBounds_toArray, List.set_cons_zero, List.set_cons_succ]
              refine wpAnyH_take (i := 8) (oi := _) (v := ?_) rfl (by kernel_rfl) (by kernel_rfl) (by kernel_rfl) (fun _ _ _ h => h) (Or.inl ⟨by rfl, ?_⟩) (by assumption) ?_
              rotate_left
              · intro w hSw
                (try dsimp only at hSw)
                go_simp
                try (with_reducible rfl)
              try simp only [Act.put, List.getElem_toArray, List.getElem_cons_succ, List.getElem_cons_zero, List.setIfInBounds_toArray, List.set_cons_zero, List.set_cons_succ]
              refine wpAnyH_take (i := 9) (oi := _) (v := ?_) rfl (by kernel_rfl) (by kernel_rfl) (by kernel_rfl) (fun _ _ _ h => h) (Or.inl ⟨by rfl, ?_⟩) (by assumption) ?_
              rotate_left
              · intro w hSw
                (try dsimp only at hSw)
                go_simp
                try (with_reducible rfl)
              try simp only [Act.put, List.getElem_toArray, List.getElem_cons_succ, List.getElem_cons_zero, List.setIfInBounds_toArray, List.set_cons_zero, List.set_cons_succ]
              refine wpAnyH_take (i := 10) (oi := _) (v := ?_) rfl (by kernel_rfl) (by kernel_rfl) (by kernel_rfl) (fun _ _ _ h => h) (Or.inl ⟨by rfl, ?_⟩) (by assumption) ?_
              rotate_left
              · intro w hSw
                (try dsimp only at hSw)
                go_simp
                try (with_reducible rfl)
              try simp only [Act.put, List.getElem_toArray, List.getElem_cons_succ, List.getElem_cons_zero, List.setIfInBounds_toArray, List.set_cons_zero, List.set_cons_succ]
              refine wpAnyH_ready (rs := [11]) (by kernel_rfl) (by simp) ?_
              refine AllReadyH.cons rfl (fun K hK => ?_) ?_
              rotate_left
              · exact AllReadyH.nil
              go_simp
              refine hK.out _ _ ?_ (fun hHeld => ?_)
              · exact Ext.goA hHeld4 _
              clear hK K
              try simp only [Act.put, List.getElem_toArray, List.getElem_cons_succ, List.getElem_cons_zero, List.setIfInBounds_toArray, List.set_cons_zero, List.set_cons_succ]
              refine wpAnyH_ready (rs := [12]) (by kernel_rfl) (by simp) ?_
              refine AllReadyH.cons rfl (fun K hK => ?_) ?_
              rotate_left
              · exact AllReadyH.nil
              go_simp
              refine hK.out _ _ ?_ (fun hHeld => ?_)
              · exact Ext.goA hHeld4 _
              clear hK K
              try simp only [Act.put, List.getElem_toArray, List.getElem_cons_succ, List.getElem_cons_zero, List.setIfInBounds_toArray, List.set_cons_zero, List.set_cons_succ]
              refine wpAnyH_ready (rs := [13]) (by kernel_rfl) (by simp) ?_
              refine AllReadyH.cons rfl (fun K hK => ?_) ?_
              rotate_left
              · exact AllReadyH.nil
              go_simp
              refine hK.out _ _ ?_ (fun hHeld => ?_)
              · first | assumption | (dsimp only; assumption)
              clear hK K
              try simp only [Act.put, List.getElem_toArray, List.getElem_cons_succ, List.getElem_cons_zero, List.setIfInBounds_toArray, List.set_cons_zero, List.set_cons_succ]
              refine wpAnyH_done (by kernel_rfl) ?_ _
              have EW : Ext w3 (w4.alloc (.cells #[.int .i64 code, .slice Ay ny cy] 54)) := Ext.goA hHeld4 _
              have hr := heap_alloc_new w4 (.cells #[.int .i64 code, .slice Ay ny cy] 54)
              have ry := ry.ext ((Ext.refl w4).goA (.cells #[.int .i64 code, .slice Ay ny cy] 54))
              clear hHeld4
              obtain ⟨r, hrr⟩ : ∃ r, r = w4.heap.size := ⟨_, rfl⟩
              rw [← hrr] at hr ⊢
              clear hrr
              generalize w4.alloc (.cells #[.int .i64 code, .slice Ay ny cy] 54) = W at *
              have HW := Lib.hid (H3.out.ext EW)
              have rc0 : W.cell? ⟨r, 0, none⟩ = some (.int .i64 code) := cellsAt hr 0
              have rc1 : W.cell? ⟨r, 1, none⟩ = some (.slice Ay ny cy) := cellsAt hr 1
              have DW := Lib.hid (D2.out.ext (E3.go EW))
              have mW := Lib.hid (m2.out.trans ((E3.go EW).mod _))
              clear hr
              by_cases he51 : err = 51
              · have hnx := Lib.hid (hsame2.out he51)
                have t51 : (err != 51) = false := by rw [he51]; rfl
                clear hmore2 hsame2
                go_wp2_with fail
                go_roundw
                case rel => exact ⟨j + 1, by omega, by go_num, N, by rw [hnx.out], HW.out, by rw [hnx.out]; exact DW.out, fun h => by rw [hnx.out]; exact ⟨hds'.out, rfl⟩, mW.out⟩
                case measure => simp [intOf]; omega
              · have hnx := Lib.hid (hmore2.out he51)
                have t51 : (err != 51) = true := bne_iff_ne.2 he51
                clear hmore2 hsame2
                have hend := lineEnd_any false a q cu co s re wa N err code Ay ny cy W HW.out
                have hya := Lib.hid (off_line HW.out.head ry)
                have ry' := Lib.hid ry
                have hyr' := Lib.hid hyr
                clear ry hyr
                go_wp2_with (first | (go_at_call 48; refine hend.mono ?_; rintro _ w5 ⟨rfl, M5, h5⟩; dsimp only [doneV]) | (at_builtin; refine wpList_appD rfl (.tmp 50) (.tmp 55) _ rfl Try.underlying35 w.heap.size _ 0 [] rfl (World.ownsRow_nil _ _ _ _) w5.heap.size N.J.p.id err code Ay ny cy rfl (heap_alloc_new w5 _) (by omega) (by have := E1.size; have := mW.out.size; have := M5.size; simp; omega) ?_; intro v6 w6 own6 hg6))
                have E56 : Ext w5 w6 := ((Ext.refl w5).goA (.cells #[.int .i64 N.J.p.id, .int .i64 err, .int .i64 code, .slice Ay ny cy] 56)).goG hg6 (fun i hi => by cases hi)
                have ry6 := ((ry'.out.modS hya.out M5).ext E56)
                go_roundw
                case rel =>
                  refine ⟨j + 1, by omega, by go_num, { N with busy := false, J := jmZ }, by rw [hnx.out]; rfl, h5.ext E56, ?_, fun h => Bool.noConfusion h, (mW.out.trans (M5.weak (fun i hi => .inl hi))).trans (E56.mod _)⟩
                  rw [hnx.out, hds'.out]
                  exact DonesAt.one own6 ry6 hyr'.out y1 y2
                case measure => simp [intOf]; omega
            · go_simp
              refine hK.out _ _ ?_ (fun hHeld => ?_)
              · exact Ext.goA hHeld _
              clear hK K
              try simp only [Act.put, List.getElem_toArray, List.getElem_cons_succ, List.getElem_cons_zero, List.setIfInBounds_toArray, List.set_cons_zero, List.set_cons_succ]
              refine wpAnyH_ready (rs := [7]) (by kernel_rfl) (by simp) ?_
              refine AllReadyH.cons rfl (fun K hK => ?_) ?_
              rotate_left
              · exact AllReadyH.nil
              go_simp
              go_at_call 50
              refine (hrg _ hHeld).mono ?_
              rintro _ w4 ⟨Ay, ny, cy, rfl, y1, y2, ry, E4⟩
              have hHeld4 := Ext.go hHeld E4
              try dsimp only
              refine hK.out _ _ ?_ (fun hHeld => ?_)
              · first | assumption | (dsimp only; assumption)
              clear hK K
              try simp only [Act.put, List.getElem_toArray, List.getElem_cons_succ, List.getElem_cons_zero, List.setIfInBounds_toArray, List.set_cons_zero, List.set_cons_succ]
              refine wpAnyH_take (i := 8) (oi := _) (v := ?_) rfl (by kernel_rfl) (by kernel_rfl) (by kernel_rfl) (fun _ _ _ h => h) (Or.inl ⟨by rfl, ?_⟩) (by assumption) ?_
              rotate_left
              · intro w hSw
                (try dsimp only at hSw)
                go_simp
                try (with_reducible rfl)
              try simp only [Act.put, List.getElem_toArray, List.getElem_cons_succ, List.getElem_cons_zero, List.setIfInBounds_toArray, List.set_cons_zero, List.set_cons_succ]
              refine wpAnyH_take (i := 9) (oi := _) (v := ?_) rfl (by kernel_rfl) (by kernel_rfl) (by kernel_rfl) (fun _ _ _ h => h) (Or.inl ⟨by rfl, ?_⟩) (by assumption) ?_
              rotate_left
              · intro w hSw
                (try dsimp only at hSw)
                go_simp
                try (with_reducible rfl)
              try simp only [Act.put, List.getElem_toArray, List.getElem_cons_succ, List.getElem_cons_zero, List.setIfInBounds_toArray, List.set_cons_zero, List.set_cons_succ]
              refine wpAnyH_take (i := 10) (oi := _) (v := ?_) rfl (by kernel_rfl) (by kernel_rfl) (by kernel_rfl) (fun _ _ _ h => h) (Or.inl ⟨by rfl, ?_⟩) (by assumption) ?_
              rotate_left
              · intro w hSw
                (try dsimp only at hSw)
                go_simp
                try (with_reducible rfl)
              try simp only [Act.put, List.getElem_toArray, List.getElem_cons_succ, List.getElem_cons_zero, List.setIfInBounds_toArray, List.set_cons_zero, List.set_cons_succ]
              have zz : w4.heap[w3.heap.size]? = some (.cells #[.int .i64 0, .slice none 0 0] 54 (0, 0)) := (E4.block w3.heap.size (by simp)).trans (heap_alloc_new w3 _)
              have z0 := cellsAt zz 0
              have z1 := cellsAt zz 1
              have fz := fun j => frozen_block zz j
              have hr := sets_block (sets_block zz 0 (.int .i64 code)) 1 (.slice Ay ny cy)
              have mz : Mod (fun i => i = w3.heap.size) w4 ((w4.setCell ⟨w3.heap.size, 0, none⟩ (.int .i64 code)).setCell ⟨w3.heap.size, 1, none⟩ (.slice Ay ny cy)) := ((Mod.refl (fun i => i = w3.heap.size) w4).setCell (p := ⟨w3.heap.size, 0, none⟩) (.inl rfl) _).setCell (p := ⟨w3.heap.size, 1, none⟩) (.inl rfl) _
              have ry := ry.modS (off_rep zz ry) mz
              refine wpAnyH_ready (rs := [12]) (by kernel_rfl) (by simp) ?_
              refine AllReadyH.cons rfl (fun K hK => ?_) ?_
              rotate_left
              · exact AllReadyH.nil
              go_simp
              refine hK.out _ _ ?_ (fun hHeld => ?_)
              · exact Ext.goS (Ext.goS hHeld4 (p := ⟨w3.heap.size, 0, none⟩) (Nat.le_refl _) _) (p := ⟨w3.heap.size, 1, none⟩) (Nat.le_refl _) _
              clear hK K
              try simp only [Act.put, List.getElem_toArray, List.getElem_cons_succ, List.getElem_cons_zero, List.setIfInBounds_toArray, List.set_cons_zero, List.set_cons_succ]
              refine wpAnyH_ready (rs := [13]) (by kernel_rfl) (by simp) ?_
              refine AllReadyH.cons rfl (fun K hK => ?_) ?_
              rotate_left
              · exact AllReadyH.nil
              go_simp
              refine hK.out _ _ ?_ (fun hHeld => ?_)
              · first | assumption | (dsimp only; assumption)
              clear hK K
              try simp only [Act.put, List.getElem_toArray, List.getElem_cons_succ, List.getElem_cons_zero, List.setIfInBounds_toArray, List.set_cons_zero, List.set_cons_succ]
              refine wpAnyH_done (by kernel_rfl) ?_ _
              have EW : Ext w3 ((w4.setCell ⟨w3.heap.size, 0, none⟩ (.int .i64 code)).setCell ⟨w3.heap.size, 1, none⟩ (.slice Ay ny cy)) := Ext.goS (Ext.goS hHeld4 (p := ⟨w3.heap.size, 0, none⟩) (Nat.le_refl _) _) (p := ⟨w3.heap.size, 1, none⟩) (Nat.le_refl _) _
              clear hHeld4 zz z0 z1 fz mz
              obtain ⟨r, hrr⟩ : ∃ r, r = w3.heap.size := ⟨_, rfl⟩
              rw [← hrr] at hr ⊢
              rw [← hrr] at ry EW
              clear hrr
              generalize (w4.setCell ⟨r, 0, none⟩ (.int .i64 code)).setCell ⟨r, 1, none⟩ (.slice Ay ny cy) = W at *
              have HW := Lib.hid (H3.out.ext EW)
              have rc0 : W.cell? ⟨r, 0, none⟩ = some (.int .i64 code) := cellsAt hr 0
              have rc1 : W.cell? ⟨r, 1, none⟩ = some (.slice Ay ny cy) := cellsAt hr 1
              have DW := Lib.hid (D2.out.ext (E3.go EW))
              have mW := Lib.hid (m2.out.trans ((E3.go EW).mod _))
              clear hr
              by_cases he51 : err = 51
              · have hnx := Lib.hid (hsame2.out he51)
                have t51 : (err != 51) = false := by rw [he51]; rfl
                clear hmore2 hsame2
                go_wp2_with fail
                go_roundw
                case rel => exact ⟨j + 1, by omega, by go_num, N, by rw [hnx.out], HW.out, by rw [hnx.out]; exact DW.out, fun h => by rw [hnx.out]; exact ⟨hds'.out, rfl⟩, mW.out⟩
                case measure => simp [intOf]; omega
              · have hnx := Lib.hid (hmore2.out he51)
                have t51 : (err != 51) = true := bne_iff_ne.2 he51
                clear hmore2 hsame2
                have hend := lineEnd_any false a q cu co s re wa N err code Ay ny cy W HW.out
                have hya := Lib.hid (off_line HW.out.head ry)
                have ry' := Lib.hid ry
                have hyr' := Lib.hid hyr
                clear ry hyr
                go_wp2_with (first | (go_at_call 48; refine hend.mono ?_; rintro _ w5 ⟨rfl, M5, h5⟩; dsimp only [doneV]) | (at_builtin; refine wpList_appD rfl (.tmp 50) (.tmp 55) _ rfl Try.underlying35 w.heap.size _ 0 [] rfl (World.ownsRow_nil _ _ _ _) w5.heap.size N.J.p.id err code Ay ny cy rfl (heap_alloc_new w5 _) (by omega) (by have := E1.size; have := mW.out.size; have := M5.size; simp; omega) ?_; intro v6 w6 own6 hg6))
                have E56 : Ext w5 w6 := ((Ext.refl w5).goA (.cells #[.int .i64 N.J.p.id, .int .i64 err, .int .i64 code, .slice Ay ny cy] 56)).goG hg6 (fun i hi => by cases hi)
                have ry6 := ((ry'.out.modS hya.out M5).ext E56)
                go_roundw
                case rel =>
                  refine ⟨j + 1, by omega, by go_num, { N with busy := false, J := jmZ }, by rw [hnx.out]; rfl, h5.ext E56, ?_, fun h => Bool.noConfusion h, (mW.out.trans (M5.weak (fun i hi => .inl hi))).trans (E56.mod _)⟩
                  rw [hnx.out, hds'.out]
                  exact DonesAt.one own6 ry6 hyr'.out y1 y2
                case measure => simp [intOf]; omega
        · have hnx := Lib.hid (hsame.out (fun _ h => absurd h hun))
          have hne : (x.u != N.J.p.un) = true := bne_iff_ne.2 hun
          clear hsame hmore e0 e1 q7 q8 q9 q10 q11
          go_region
          all_goals
            have E3 : Ext w2 w2.drew := (Ext.refl w2).god
            generalize w2.drew = w3 at *
            go_wp2_with fail
            go_roundw
            case rel => exact ⟨j + 1, by omega, by go_num, N, by rw [hnx.out], H2.out.ext E3, by rw [hnx.out]; exact D2.out.ext E3, fun h => by rw [hnx.out]; exact hB h, m2.out.trans (E3.mod _)⟩
            case measure => simp [intOf]; omega
    · obtain rfl : j = n1 := by omega
      have t1 : decide ((j : Int) < (j : Int)) = false := by simp
      have t1' : decide (j < j) = false := by simp
      go_wp2_with fail
      go_ret
      rw [List.take_of_length_le (by omega)] at hN
      have hD := hD'.out
      rw [List.take_of_length_le (by omega)] at hD
      exact ⟨_, rfl, hD, (E1.mod _).trans m1'.out, N, hN, hH'.out⟩
end
end Go.Proofs.Ytgagpalffdgjnaa
