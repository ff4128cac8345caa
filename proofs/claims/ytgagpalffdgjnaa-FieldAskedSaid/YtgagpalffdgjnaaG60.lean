/- Layer 1, the walks: Sum, Seal. · Layer 1, the walks: Seal. · Layer 1, the walks: Open. · The reference of layer 1, the walks: Sum. -/
import Derived.Test.YtgagpalffdgjnaaG28
import Derived.Test.YtgagpalffdgjnaaG04
import Derived.Test.YtgagpalffdgjnaaG01
namespace Go.Proofs.Ytgagpalffdgjnaa
open Go.RowKit

theorem crcAnd15 {x : Nat} (h : x < 65536) : bits .and .u16 (x : Int) 15 = ((x % 16 : Nat) : Int) := by
  have := u16_and_nat x 15 h (by omega)
  rw [show (15 : Nat) = 2 ^ 4 - 1 by rfl, Nat.and_two_pow_sub_one_eq_mod] at this
  exact this
set_option maxRecDepth 100000 in
set_option maxHeartbeats 3200000 in
theorem crcSum_any (A : Option Addr) (n c : Nat) (l : List Int) (w : World) (hx : RdI w w.heap.size .u8 A n l) (hl : ByteL l) (hn : n ≤ maxLen) :
    Calls Try.prog 125 #[.slice A n c] w fun e w' => e = .returned (.int .u16 (crcOf l)) ∧ Ext w w' := by
  have hln := hx.len
  have hx' := Lib.hid hx
  have hl' := Lib.hid hl
  have hln' := Lib.hid hln
  unfold maxLen at hn
  clear hx hl hln
  go_enter Try.func125, Try.ntmps125
  go_wp2_with fail
  refine (crcTable_any w).mono ?_
  rintro e w1 ⟨rfl, D1⟩
  have T1 : Blk (w1.alloc (.cells #[.int .u16 0, .int .u16 52225, .int .u16 55297, .int .u16 5120, .int .u16 61441, .int .u16 15360, .int .u16 10240, .int .u16 58369, .int .u16 40961, .int .u16 27648, .int .u16 30720, .int .u16 46081, .int .u16 20480, .int .u16 39937, .int .u16 34817, .int .u16 17408] 199)) w1.heap.size 199 .u16 crcTabL := heap_alloc_new w1 _
  have E1 := D1.goA (.cells #[.int .u16 0, .int .u16 52225, .int .u16 55297, .int .u16 5120, .int .u16 61441, .int .u16 15360, .int .u16 10240, .int .u16 58369, .int .u16 40961, .int .u16 27648, .int .u16 30720, .int .u16 46081, .int .u16 20480, .int .u16 39937, .int .u16 34817, .int .u16 17408] 199)
  have T1' := Lib.hid T1
  clear T1
  go_wp2_with fail
  generalize w1.alloc (.cells #[.int .u16 0, .int .u16 52225, .int .u16 55297, .int .u16 5120, .int .u16 61441, .int .u16 15360, .int .u16 10240, .int .u16 58369, .int .u16 40961, .int .u16 27648, .int .u16 30720, .int .u16 46081, .int .u16 20480, .int .u16 39937, .int .u16 34817, .int .u16 17408] 199) = W at *
  go_loopw [10, 4, 6] (fun i s o wr => ∃ k : Nat, k ≤ n ∧ i = .int .i64 k ∧ s = .int .u16 (crcFold 65535 (l.take k) : Nat) ∧ W = wr) (fun i _ _ _ => n - (intOf i).toNat)
  case atStart => exact ⟨0, by omega, rfl, rfl, rfl⟩
  case round =>
    obtain ⟨k, hk, rfl, rfl, rfl⟩ := hrel
    by_cases hlt : k < n
    · have hkl : k < l.length := by rw [hln'.out]; exact hlt
      obtain ⟨b, o, rfl, hb, hc⟩ := hx'.out.at_ hlt
      have hby := hl'.out k
      rw [← List.getD_eq_getElem?_getD] at hby
      obtain ⟨y, hy⟩ := Int.eq_ofNat_of_zero_le hby.1
      rw [hy] at hby hc
      have hy256 : y < 256 := by omega
      have htk : l.take (k + 1) = l.take k ++ [(y : Int)] := by
        rw [List.take_succ_eq_append_getElem hkl, ← hy, List.getD_eq_getElem?_getD, List.getElem?_eq_getElem hkl]
        rfl
      have hs : crcFold 65535 (l.take k) < 65536 := crcFold_lt (by omega) (fun z hz => by
        obtain ⟨j, hj, rfl⟩ := List.mem_iff_getElem.1 (List.mem_of_mem_take hz)
        have := hl'.out j
        rw [List.getElem?_eq_getElem hj] at this
        exact this.2)
      have hfold : crcFold 65535 (l.take (k + 1)) = crcByte (crcFold 65535 (l.take k)) y := by rw [htk, crcFold_snoc]; rfl
      generalize crcFold 65535 (l.take k) = s at *
      rw [crcByte_halves] at hfold
      dsimp only at hfold
      have hc1 := (E1.cell (o + k) hb).trans hc
      have x1 := u16_xor_nat s y hs (by omega)
      have hxl : s ^^^ y < 65536 := Nat.xor_lt_two_pow (n := 16) (by omega) (by omega)
      generalize s ^^^ y = x at *
      have a1 := crcAnd15 hxl
      have t1 := T1'.out.cell (x % 16) (by show _ < 16; omega)
      rw [crcTabL_get _ (by omega)] at t1
      have ht1 : crcTab (x % 16) < 65536 := crcSteps_lt (by omega)
      have x2 := u16_xor_nat (x / 16) (crcTab (x % 16)) (by omega) ht1
      have hzl : x / 16 ^^^ crcTab (x % 16) < 65536 := Nat.xor_lt_two_pow (n := 16) (by omega) (by omega)
      have hm1 : x % 16 < 16 := by omega
      generalize crcTab (x % 16) = tt1 at *
      generalize x % 16 = i1 at *
      generalize x / 16 ^^^ tt1 = z at *
      have a2 := crcAnd15 hzl
      have t2 := T1'.out.cell (z % 16) (by show _ < 16; omega)
      rw [crcTabL_get _ (by omega)] at t2
      have ht2 : crcTab (z % 16) < 65536 := crcSteps_lt (by omega)
      have x3 := u16_xor_nat (z / 16) (crcTab (z % 16)) (by omega) ht2
      have hm2 : z % 16 < 16 := by omega
      generalize crcTab (z % 16) = tt2 at *
      generalize z % 16 = i2 at *
      have x2' : bits .xor .u16 ((x : Int) / 16) (tt1 : Int) = (z : Int) := x2
      have x3' : bits .xor .u16 ((z : Int) / 16) (tt2 : Int) = ((z / 16 ^^^ tt2 : Nat) : Int) := x3
      have hfold' := Lib.hid hfold
      have yw : IntKind.u16.wrap (y : Int) = (y : Int) := by rw [IntKind.wrap_u16]; omega
      clear hfold x2 x3 htk hy hby hc
      go_wp2_with fail
      go_roundw
      case rel => exact ⟨k + 1, by omega, by go_num, by rw [hfold'.out], by trivial⟩
      case measure => simp [intOf]; omega
    · obtain rfl : k = n := by omega
      go_wp2_with fail
      go_ret
      exact ⟨by rw [List.take_of_length_le (by rw [hln'.out]; exact Nat.le_refl _)]; rfl, E1⟩
end Go.Proofs.Ytgagpalffdgjnaa
namespace Go.Proofs.Ytgagpalffdgjnaa
open Go.RowKit

/-- What is handed back lies in new memory. -/
def FreshI (k : IntKind) (xs : List Int) (w : World) (e : Ending) (w' : World) : Prop :=
  ∃ A n c, e = .returned (.slice A n c) ∧ n ≤ c ∧ c ≤ maxLen ∧ RdI w' w'.heap.size k A n xs ∧ Ext w w' ∧ ∀ b o, A = some ⟨b, o, none⟩ → w.heap.size ≤ b
/-- The same, in a row of the call's own: it may be written. -/
def FreshO (xs : List Int) (w : World) (e : Ending) (w' : World) : Prop :=
  ∃ A n c, e = .returned (.slice A n c) ∧ w'.ownsRow w.heap.size 5 1 (.slice A n c) n (xs.map (Value.int .u8)) ∧ Ext w w'
theorem FreshO.fresh {xs : List Int} {w w' : World} {e : Ending} (h : FreshO xs w e w') : FreshI .u8 xs w e w' := by
  obtain ⟨A, n, c, rfl, own, E⟩ := h
  obtain ⟨A', c', e, ⟨g1, g2⟩, r⟩ := own_rd own
  simp only [Value.slice.injEq, true_and] at e
  obtain ⟨rfl, rfl⟩ := e
  exact ⟨A, n, c, rfl, g1, g2, r, E, fun b o e => by subst e; exact (own.lt b rfl).1⟩
theorem FreshO.none_ (w : World) : FreshO [] w (.returned (.slice none 0 0)) w := ⟨none, 0, 0, rfl, World.ownsRow_nil w _ _ _, Ext.refl w⟩
theorem FreshO.from_ {xs : List Int} {v w w' : World} {e : Ending} (E : Ext v w) (h : FreshO xs w e w') : FreshO xs v e w' := by
  obtain ⟨A, n, c, rfl, own, h4⟩ := h
  refine ⟨A, n, c, rfl, ⟨own.1, ?_⟩, E.go h4⟩
  rcases own.2 with hn | ⟨g, cap, cur, hv, hb, rest⟩
  · exact .inl hn
  · exact .inr ⟨g, cap, cur, hv, Nat.le_trans E.size hb, rest⟩
theorem sz_u8 : (Try.prog.info? 5).map (·.size) = some 1 := by kernel_rfl
/-- Bytes with their sum behind them. -/
def sealL (l : List Int) : List Int := l ++ [((crcOf l % 256 : Nat) : Int), ((crcOf l / 256 : Nat) : Int)]
theorem run_mkLC {P : Program} {t e : TypeId} {k : IntKind} {by_ : Nat} (ht : P.underlying t = some (.slice e)) (hi : (P.info? e).map (fun i => (i.zero, i.size, i.bytes)) = some (some (.int k 0), 1, by_))
    (y z : Int) (m n : Nat) (hy : y = m) (hz : z = n) (hmn : m ≤ n) (hb : n * by_ ≤ 281474976710656) (hn : n ≤ 9223372036854775807) (w : World) :
    (Instr.makeSlice t (.int .i64 y) (.int .i64 z)).run P w = .ok (.slice (some ⟨w.heap.size, 0, none⟩) m n) (w.alloc (.cells (row k (zs n)) e)) := by
  obtain ⟨i, h1, h2, h3, h4⟩ := info_parts hi
  have hh : (i.bytes : Int) * (n : Int) ≤ 281474976710656 := by
    rw [h4]
    have : ((n * by_ : Nat) : Int) ≤ 281474976710656 := by omega
    rwa [Int.natCast_mul, Int.mul_comm] at this
  subst hy hz
  have := run_make (P := P) w t e i _ ht h1 h2 .i64 .i64 (m : Int) (n : Int) (by omega) (by omega) hh (by omega)
  rw [h3] at this
  simpa only [Int.toNat_natCast, Int.toNat_zero, Nat.mul_one, madeCells_int] using this
theorem own_lenCap {w : World} {base g m n : Nat} {e : TypeId} {k : IntKind} {xs : List Int} (h : Blk w g e k xs) (hb : base ≤ g) (hn : xs.length = n) (hmn : m ≤ n) (hm : n ≤ 9223372036854775807) : w.ownsRow base e 1 (.slice (some ⟨g, 0, none⟩) m n) m ((xs.take m).map (Value.int k)) := by
  subst hn
  refine ⟨by simp; omega, .inr ⟨g, xs.length, row k xs, rfl, hb, h, hmn, by unfold maxLen; omega, by rw [row_size]; omega, ?_⟩⟩
  unfold row
  simp [List.map_take]
theorem crcOf_lt {l : List Int} (hl : ByteL l) : crcOf l < 65536 := crcFold_lt (by omega) (fun z hz => by
  obtain ⟨j, hj, rfl⟩ := List.mem_iff_getElem.1 hz
  have := hl j
  rw [List.getElem?_eq_getElem hj] at this
  exact this.2)
theorem own_keep8 {w w' : World} {base n : Nat} {e : TypeId} {v : Value} {xs : List Value} (h : w.ownsRow base e 1 v n xs) (E : Ext w w') : w'.ownsRow base e 1 v n xs := by
  refine ⟨h.1, ?_⟩
  rcases h.2 with h0 | ⟨g, cap, cur, rfl, hb, hg, h1⟩
  · exact .inl h0
  · exact .inr ⟨g, cap, cur, rfl, hb, (E.block g (Array.getElem?_eq_some_iff.1 hg).1).trans hg, h1⟩
set_option maxRecDepth 100000 in
set_option maxHeartbeats 3200000 in
theorem crcSeal_own (A : Option Addr) (n c : Nat) (l : List Int) (w : World) (hx : RdI w w.heap.size .u8 A n l) (hl : ByteL l) (hn : n ≤ 1000000) :
    Calls Try.prog 116 #[.slice A n c] w (FreshO (sealL l) w) := by
  have hln := hx.len
  have hx' := Lib.hid hx
  have hlt := crcOf_lt hl
  have hmk := fun w => run_mkLC Try.underlying34 info_u8 (n : Int) ((n : Int) + 2) n (n + 2) rfl (by omega) (by omega) (by omega) (by omega) w
  have X0 := (Ext.refl w).goA (.cells (row .u8 (zs (n + 2))) 5)
  have B0 : Blk (w.alloc (.cells (row .u8 (zs (n + 2))) 5)) w.heap.size 5 .u8 (zs (n + 2)) := heap_alloc_new w _
  have B0' := Lib.hid B0
  have hsum := fun w' (E : Ext w w') => crcSum_any A n c l w' (hx'.out.ext E) hl (by unfold maxLen; omega)
  have hsum' := Lib.hid hsum
  have hr0 := hx.ext X0
  have hsz : sealL l = l ++ [((crcOf l % 256 : Nat) : Int), ((crcOf l / 256 : Nat) : Int)] := rfl
  have hsz' := Lib.hid hsz
  clear hx hl B0 hsum hsz
  generalize crcOf l = S at *
  go_enter Try.func116, Try.ntmps116
  have hspl : (splice (zs (n + 2)) 0 (l.take n)).length = n + 2 ∧ (splice (zs (n + 2)) 0 (l.take n)).take n = l := by
    rw [List.take_of_length_le (by omega)]
    refine ⟨by rw [length_splice _ _ _ (by rw [zs_length]; omega), zs_length], ?_⟩
    unfold splice
    rw [List.take_zero, List.nil_append, List.take_left' hln]
  have hspl' := Lib.hid hspl
  have ub : IntKind.u8.wrap (S : Int) = ((S % 256 : Nat) : Int) := by rw [IntKind.wrap_u8]; omega
  have ub2 : IntKind.u8.wrap ((S : Int) / 256) = ((S / 256 : Nat) : Int) := by rw [IntKind.wrap_u8]; omega
  clear hspl
  go_wp2_with ((with_reducible refine wpList_copyI rfl (.tmp 11) (.tmp 12) 34 34 rfl Try.underlying34 sz_u8 rfl rfl B0'.out (fun _ => rfl) (by rw [zs_length]; omega) hr0 ?_))
  intro w1 hB1 hM1
  have hB1' := hB1.out
  have own1 := own_lenCap (base := w.heap.size) (m := n) hB1' (Nat.le_refl _) hspl'.out.1 (show n ≤ n + 2 by omega) (by omega)
  rw [hspl'.out.2] at own1
  have E1 : Ext w w1 := X0.goM hM1 (fun i hi => by have hi : i = w.heap.size := hi; omega)
  have own1' := Lib.hid own1
  clear hB1 hB1' hM1 own1 B0' hr0 hmk
  go_wp2_with fail
  refine (hsum'.out w1 E1).mono ?_
  rintro e w2 ⟨rfl, D2⟩
  have own2 := own_keep8 own1'.out D2
  have hb2 : w.heap.size ≤ w2.heap.size := by have := E1.size; have := D2.size; omega
  go_wp2_with (at_builtin; refine wpList_appI rfl (.tmp 16) (.tmp 22) _ rfl Try.underlying34 info_u8 (own2.alloc _) rfl (RdI.pair _ _ _ _ _) rfl (by omega) (by omega) (by simp; omega) ?_; intro v3 w3 own3 hg3 hat3)
  go_ret
  obtain ⟨A3, c3, rfl, _, _⟩ := own_rd own3
  rw [hsz'.out]
  exact ⟨A3, _, c3, rfl, own3, ((E1.go D2).goA _).goG hg3 (fun i hi => by have hi' : some w.heap.size = some i := hi; injection hi' with hi'; omega)⟩
theorem crcSeal_any (A : Option Addr) (n c : Nat) (l : List Int) (w : World) (hx : RdI w w.heap.size .u8 A n l) (hl : ByteL l) (hn : n ≤ 1000000) :
    Calls Try.prog 116 #[.slice A n c] w (FreshI .u8 (sealL l) w) := (crcSeal_own A n c l w hx hl hn).mono fun _ _ h => h.fresh
end Go.Proofs.Ytgagpalffdgjnaa
namespace Go.Proofs.Ytgagpalffdgjnaa
open Go.RowKit

/-- Was that sealed? -/
def openB (l : List Int) : Bool := decide (2 ≤ l.length) && ((l.getD (l.length - 2) 0 == ((crcOf (l.take (l.length - 2)) % 256 : Nat) : Int)) && (l.getD (l.length - 2 + 1) 0 == ((crcOf (l.take (l.length - 2)) / 256 : Nat) : Int)))
theorem ByteL.take {l : List Int} (h : ByteL l) (n : Nat) : ByteL (l.take n) := fun j => by
  by_cases hj : j < n
  · rw [List.getElem?_take_of_lt hj]; exact h j
  · rw [List.getElem?_eq_none (by rw [List.length_take]; omega)]; simp
theorem RdI.cutTo8 {w : World} {B n : Nat} {k : IntKind} {A : Option Addr} {xs : List Int} (h : RdI w B k A n xs) {m : Nat} (hm : m ≤ n) : RdI w B k A m (xs.take m) :=
  ⟨by rw [List.length_take, h.1]; omega, fun hn => by
    obtain ⟨b, o, e, hb, hc⟩ := h.2 (by omega)
    exact ⟨b, o, e, hb, fun j hj => by rw [hc j (by omega), List.getD_eq_getElem?_getD, List.getD_eq_getElem?_getD, List.getElem?_take_of_lt hj]⟩⟩
theorem splice_all8 {l ys : List Int} (h : ys.length = l.length) : splice l 0 ys = ys := by simp [splice, h]
def OpenPost (l : List Int) (w : World) (e : Ending) (w' : World) : Prop :=
  ∃ A n c, e = .returned (.tuple #[.slice A n c, .bool true]) ∧ n ≤ c ∧ c ≤ maxLen ∧ RdI w' w'.heap.size .u8 A n (l.take (l.length - 2)) ∧ Ext w w' ∧ ∀ b o, A = some ⟨b, o, none⟩ → w.heap.size ≤ b
section
variable (A : Option Addr) (n c : Nat) (l : List Int) (w : World)
set_option maxRecDepth 100000 in
set_option maxHeartbeats 3200000 in
theorem crcOpen_short (hn : n < 2) :
    Calls Try.prog 115 #[.slice A n c] w fun e w' => e = .returned (.tuple #[.slice none 0 0, .bool false]) ∧ w = w' := by
  have f1 : decide ((n : Int) - 2 < 0) = true := by simp; omega
  go_enter Try.func115, Try.ntmps115
  go_wp2_with fail
  go_ret2
  exact ⟨rfl, rfl⟩
set_option maxRecDepth 100000 in
set_option maxHeartbeats 3200000 in
theorem crcOpen_long (hx : RdI w w.heap.size .u8 A n l) (hl : ByteL l) (hn : 2 ≤ n) (hm : n ≤ 1000000) (hnc : n ≤ c) (P : Ending → World → Prop)
    (hP1 : openB l = true → ∀ e w', OpenPost l w e w' → P e w') (hP2 : openB l = false → ∀ w', Ext w w' → P (.returned (.tuple #[.slice none 0 0, .bool false])) w') :
    Calls Try.prog 115 #[.slice A n c] w P := by
  have hln := hx.len
  obtain ⟨m, rfl⟩ : ∃ m, n = m + 2 := ⟨n - 2, by omega⟩
  have hl2 : l.length - 2 = m := by omega
  have hsum := fun w' (E : Ext w w') c' => crcSum_any A m c' (l.take m) w' ((hx.cutTo8 (m := m) (by omega)).ext E) (hl.take m) (by unfold maxLen; omega)
  have hlt : crcOf (l.take m) < 65536 := crcOf_lt (hl.take m)
  obtain ⟨b, o, rfl, hb, hc0⟩ := hx.at_ (show m < m + 2 by omega)
  obtain ⟨b', o', e, _, hc1⟩ := hx.at_ (show m + 1 < m + 2 by omega)
  injection e with e; injection e with e1 e2
  subst e1 e2
  have hopen : openB l = ((l.getD m 0 == ((crcOf (l.take m) % 256 : Nat) : Int)) && (l.getD (m + 1) 0 == ((crcOf (l.take m) / 256 : Nat) : Int))) := by
    unfold openB
    rw [hl2, decide_eq_true (by omega), Bool.true_and]
  have hpost : ∀ e w', OpenPost l w e w' = ∃ A n c, e = .returned (.tuple #[.slice A n c, .bool true]) ∧ n ≤ c ∧ c ≤ maxLen ∧ RdI w' w'.heap.size .u8 A n (l.take m) ∧ Ext w w' ∧ ∀ b o, A = some ⟨b, o, none⟩ → w.heap.size ≤ b := fun e w' => by unfold OpenPost; rw [hl2]
  have hcut : ∀ w', Ext w w' → RdI w' w'.heap.size .u8 (some ⟨b, o, none⟩) (m + 2) l := fun w' E => hx.ext E
  have hsum' := Lib.hid hsum
  have hP1' := Lib.hid hP1
  have hP2' := Lib.hid hP2
  have hpost' := Lib.hid hpost
  have hopen' := Lib.hid hopen
  have hcut' := Lib.hid hcut
  have hln' := Lib.hid hln
  have hcell : ∀ w', Ext w w' → w'.cell? ⟨b, o + m, none⟩ = some (.int .u8 (l.getD m 0)) ∧ w'.cell? ⟨b, o + (m + 1), none⟩ = some (.int .u8 (l.getD (m + 1) 0)) := fun w' E => ⟨(E.cell _ hb).trans hc0, (E.cell _ hb).trans hc1⟩
  have hcell' := Lib.hid hcell
  clear hx hl hsum hP1 hP2 hpost hopen hcut hc0 hc1 hcell hln hl2
  generalize crcOf (l.take m) = S at *
  generalize l.getD m 0 = y0 at *
  generalize l.getD (m + 1) 0 = y1 at *
  have u0 : ((m + 2 : Nat) : Int) - 2 = (m : Int) := by omega
  have f1 : decide ((m : Int) < 0) = false := by simp
  have hc : ¬ c = 0 := by omega
  have i1 : (m : Int) ≤ (c : Int) := by omega
  have ub : IntKind.u8.wrap (S : Int) = ((S % 256 : Nat) : Int) := by rw [IntKind.wrap_u8]; omega
  have ub2 : IntKind.u8.wrap ((S : Int) / 256) = ((S / 256 : Nat) : Int) := by rw [IntKind.wrap_u8]; omega
  generalize ((S % 256 : Nat) : Int) = sl at *
  generalize ((S / 256 : Nat) : Int) = sh at *
  go_enter Try.func115, Try.ntmps115
  go_wp2_with fail
  refine (hsum'.out w (Ext.refl w) _).mono ?_
  rintro e w1 ⟨rfl, D1⟩
  obtain ⟨c0, c1⟩ := hcell'.out w1 D1
  have j1 : m < m + 2 := by omega
  obtain ⟨m1, hm1⟩ : ∃ x : Nat, m + 1 = x := ⟨_, rfl⟩
  rw [hm1] at c1
  have j2 : m1 < m + 2 := by omega
  have j3 : ((m : Int) + 1) = (m1 : Int) := by omega
  have hm1' := Lib.hid hm1
  clear hm1
  cases e0 : (y0 == sl)
  · have e0' : (y0 != sl) = true := by unfold bne; rw [e0]; rfl
    have ho := hopen'.out
    rw [e0, Bool.false_and] at ho
    have ho' := Lib.hid ho
    clear ho hsum'
    go_wp2_with fail
    exact hP2'.out ho'.out w1 D1
  · have e0' : (y0 != sl) = false := by unfold bne; rw [e0]; rfl
    have ho := hopen'.out
    rw [e0, Bool.true_and] at ho
    cases e1 : (y1 == sh)
    · have e1' : (y1 != sh) = true := by unfold bne; rw [e1]; rfl
      rw [e1] at ho
      have ho' := Lib.hid ho
      clear ho hsum'
      go_wp2_with fail
      exact hP2'.out ho'.out w1 D1
    · have e1' : (y1 != sh) = false := by unfold bne; rw [e1]; rfl
      rw [e1] at ho
      have ho' := Lib.hid ho
      have hmk := fun w => run_mkI Try.underlying34 info_u8 (m : Int) m rfl (by omega) (by omega) w
      have B2 : Blk (w1.alloc (.cells (row .u8 (zs m)) 5)) w1.heap.size 5 .u8 (zs m) := heap_alloc_new w1 _
      have E2 := D1.goA (.cells (row .u8 (zs m)) 5)
      have hr2 := (hcut'.out w1 D1).ext ((Ext.refl w1).goA (.cells (row .u8 (zs m)) 5))
      have B2' := Lib.hid B2
      have hs1 := D1.size
      clear ho hsum' B2 e0 e1
      go_wp2_with ((with_reducible refine wpList_copyI rfl (.tmp 36) (.tmp 37) 34 34 rfl Try.underlying34 sz_u8 rfl rfl B2'.out (fun _ => rfl) (by rw [zs_length]; omega) hr2 ?_))
      intro w2 hB2 hM2
      have hB2' := hB2.out
      have hsp : splice (zs m) 0 (l.take m) = l.take m := splice_all8 (by rw [List.length_take, zs_length]; have := hln'.out; omega)
      rw [hsp] at hB2'
      have hrd := hB2'.rd hB2'.lt
      rw [show (l.take m).length = m by rw [List.length_take]; have := hln'.out; omega] at hrd
      have hrd' := Lib.hid hrd
      have hM2' := Lib.hid hM2
      clear hB2 hB2' hrd hM2 B2' hr2 hmk hsp
      go_wp2_with fail
      refine hP1'.out ho'.out _ _ ?_
      rw [hpost'.out]
      exact ⟨_, m, m, rfl, Nat.le_refl _, by unfold maxLen; omega, hrd'.out, E2.goM hM2'.out (fun i hi => by have hi : i = w1.heap.size := hi; omega), fun b o e => by injection e with e; injection e with e; omega⟩
end
end Go.Proofs.Ytgagpalffdgjnaa
namespace Go.Proofs.Ytgagpalffdgjnaa
open Go.RowKit

set_option maxRecDepth 100000 in
set_option maxHeartbeats 3200000 in
theorem ref01Sum_any (A : Option Addr) (n c : Nat) (l : List Int) (w : World) (hx : RdI w w.heap.size .u8 A n l) (hl : ByteL l) (hn : n ≤ maxLen) :
    Calls Try.prog 105 #[.slice A n c] w fun e w' => e = .returned (.int .u16 (crcOf l)) ∧ w = w' := by
  have hln := hx.len
  have hx' := Lib.hid hx
  have hl' := Lib.hid hl
  have hln' := Lib.hid hln
  unfold maxLen at hn
  clear hx hl hln
  go_enter Try.func105, Try.ntmps105
  go_wp2_with fail
  go_loopw [4, 3] (fun i s wr => ∃ k : Nat, k ≤ n ∧ i = .int .i64 k ∧ s = .int .u16 (crcFold 65535 (l.take k) : Nat) ∧ w = wr) (fun i _ _ => n - (intOf i).toNat)
  case atStart => exact ⟨0, by omega, rfl, rfl, rfl⟩
  case round =>
    obtain ⟨k, hk, rfl, rfl, rfl⟩ := hrel
    by_cases hlt : k < n
    · have hkl : k < l.length := by rw [hln'.out]; exact hlt
      obtain ⟨b, o, rfl, hb, hc⟩ := hx'.out.at_ hlt
      have hby := hl'.out k
      rw [← List.getD_eq_getElem?_getD] at hby
      obtain ⟨y, hy⟩ := Int.eq_ofNat_of_zero_le hby.1
      rw [hy] at hby hc
      have hy256 : y < 256 := by omega
      have htk : l.take (k + 1) = l.take k ++ [(y : Int)] := by
        rw [List.take_succ_eq_append_getElem hkl, ← hy, List.getD_eq_getElem?_getD, List.getElem?_eq_getElem hkl]
        rfl
      have hs : crcFold 65535 (l.take k) < 65536 := crcFold_lt (by omega) (fun z hz => by
        obtain ⟨j, hj, rfl⟩ := List.mem_iff_getElem.1 (List.mem_of_mem_take hz)
        have := hl'.out j
        rw [List.getElem?_eq_getElem hj] at this
        exact this.2)
      have hfold : crcFold 65535 (l.take (k + 1)) = crcSteps 8 (crcFold 65535 (l.take k) ^^^ y) := by rw [htk, crcFold_snoc]; rfl
      generalize crcFold 65535 (l.take k) = s at *
      have x1 := u16_xor_nat s y hs (by omega)
      have hxl : s ^^^ y < 65536 := Nat.xor_lt_two_pow (n := 16) (by omega) (by omega)
      generalize s ^^^ y = x at *
      have hfold' := Lib.hid hfold
      have yw : IntKind.u16.wrap (y : Int) = (y : Int) := by rw [IntKind.wrap_u16]; omega
      clear hfold htk hy hby
      go_wp2_with fail
      clear x1 yw hc
      go_loopw [5, 3] (fun i v w' => ∃ j : Nat, j ≤ 8 ∧ i = .int .i64 j ∧ v = .int .u16 (crcSteps j x : Nat) ∧ w = w') (fun i _ _ => 8 - (intOf i).toNat)
      case atStart => exact ⟨0, by omega, rfl, rfl, rfl⟩
      case round =>
        obtain ⟨j, hj, rfl, rfl, rfl⟩ := hrel
        by_cases hjl : j < 8
        · have hz : crcSteps j x < 65536 := crcSteps_lt hxl
          have hs2 : crcSteps (j + 1) x = crcSteps j x / 2 ^^^ (if crcSteps j x % 2 = 1 then 40961 else 0) := crcSteps_snoc j x
          have hxo := u16_xor_nat (crcSteps j x / 2) 40961 (by omega) (by omega)
          generalize crcSteps j x = z at *
          have hs2' := Lib.hid hs2
          have hxo' : bits .xor .u16 ((z : Int) / 2) 40961 = ((z / 2 ^^^ 40961 : Nat) : Int) := by
            rw [← hxo]; rfl
          clear hxo hs2
          rcases Nat.mod_two_eq_zero_or_one z with hm | hm
          · have hf : ((z : Int) % 2 == 1) = false := by simp; omega
            go_wp2_with fail
            go_roundw
            case rel => exact ⟨j + 1, by omega, by go_num, by rw [hs2'.out, if_neg (by omega), Nat.xor_zero]; rfl, by trivial⟩
            case measure => simp [intOf]; omega
          · have hf : ((z : Int) % 2 == 1) = true := by simp; omega
            go_wp2_with fail
            go_roundw
            case rel => exact ⟨j + 1, by omega, by go_num, by rw [hs2'.out, if_pos hm], by trivial⟩
            case measure => simp [intOf]; omega
        · obtain rfl : j = 8 := by omega
          go_wp2_with fail
          go_roundw
          case rel => exact ⟨k + 1, by omega, by go_num, by rw [hfold'.out], by trivial⟩
          case measure => simp [intOf]; omega
    · obtain rfl : k = n := by omega
      go_wp2_with fail
      go_ret
      exact ⟨by rw [List.take_of_length_le (by rw [hln'.out]; exact Nat.le_refl _)]; rfl, rfl⟩
set_option maxRecDepth 100000 in
set_option maxHeartbeats 3200000 in
theorem ref01Seal_any (A : Option Addr) (n c : Nat) (l : List Int) (w : World) (hx : RdI w w.heap.size .u8 A n l) (hl : ByteL l) (hn : n ≤ 1000000) :
    Calls Try.prog 68 #[.slice A n c] w (FreshI .u8 (sealL l) w) := by
  have hlt := crcOf_lt hl
  have hsum := ref01Sum_any A n c l w hx hl (by unfold maxLen; omega)
  have hsz : sealL l = l ++ [((crcOf l % 256 : Nat) : Int), ((crcOf l / 256 : Nat) : Int)] := rfl
  have hsz' := Lib.hid hsz
  have hsum' := Lib.hid hsum
  have E1 := (Ext.refl w).goA (.cells #[] 5)
  have hx1 := hx.ext E1
  have hown := own_empty (w := w) (base := w.heap.size) 5 .u8 rfl (Nat.le_refl _)
  clear hx hl hsum hsz
  generalize crcOf l = S at *
  have ub : IntKind.u8.wrap (S : Int) = ((S % 256 : Nat) : Int) := by rw [IntKind.wrap_u8]; omega
  have ub2 : IntKind.u8.wrap ((S : Int) / 256) = ((S / 256 : Nat) : Int) := by rw [IntKind.wrap_u8]; omega
  generalize hsl : ((S % 256 : Nat) : Int) = sl at *
  generalize hsh : ((S / 256 : Nat) : Int) = sh at *
  clear hsl hsh
  go_enter Try.func68, Try.ntmps68
  go_wp2_with fail
  refine hsum'.out.mono ?_
  rintro e w1 ⟨rfl, rfl⟩
  go_wp2_with (first
    | (at_builtin; refine wpList_appI rfl (.tmp 6) (.tmp 7) _ rfl Try.underlying34 info_u8 hown rfl hx1 rfl (by omega) (by omega) (by simp) ?_; intro v2 w2 own2 hg2 hat2; rw [List.nil_append, Nat.zero_add] at own2; have E2 : Ext w w2 := E1.goG hg2 (fun i hi => by have hi' : some w.heap.size = some i := hi; injection hi' with hi'; omega); have hb2 := E2.size)
    | (at_builtin; refine wpList_appI rfl (.tmp 8) (.tmp 14) _ rfl Try.underlying34 info_u8 (own2.alloc _) rfl (RdI.pair _ _ _ _ _) rfl (by omega) (by omega) (by simp; omega) ?_; intro v3 w3 own3 hg3 hat3))
  go_ret
  obtain ⟨A3, c3, rfl, ⟨g1, g2⟩, r3⟩ := own_rd own3
  rw [hsz'.out]
  exact ⟨A3, _, c3, rfl, g1, g2, r3, (E2.goA _).goG hg3 (fun i hi => (own2.lt i hi).1), fun b o e => by subst e; exact (own3.lt b rfl).1⟩
end Go.Proofs.Ytgagpalffdgjnaa
