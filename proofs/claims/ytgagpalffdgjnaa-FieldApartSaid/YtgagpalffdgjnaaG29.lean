/- Layer 1, the walks: Seal. · slices.Clone of numbers. -/
import Derived.Test.YtgagpalffdgjnaaCrcB
import Derived.Test.YtgagpalffdgjnaaG01
namespace Go.Proofs.Ytgagpalffdgjnaa
open Go.RowKit

/-- What is handed back lies in new memory. -/
def FreshI (k : IntKind) (xs : List Int) (w : World) (e : Ending) (w' : World) : Prop :=
  ∃ A n c, e = .returned (.slice A n c) ∧ n ≤ c ∧ c ≤ maxLen ∧ RdI w' w'.heap.size k A n xs ∧ Ext w w' ∧ ∀ b o, A = some ⟨b, o, none⟩ → w.heap.size ≤ b
/-- The same, in a row of the call's own: it may be written. -/
def FreshO (xs : List Int) (w : World) (e : Ending) (w' : World) : Prop :=
  ∃ A n c, e = .returned (.slice A n c) ∧ w'.ownsRow w.heap.size 5 1 (.slice A n c) n (xs.map (Value.int .u8)) ∧ Ext w w'
theorem FreshO.fresh {xs : List Int} {w w' : World} {e : Ending} (h : FreshO xs w e w') : FreshI .u8 xs w e w' := by
  obtain ⟨A, n, c, rfl, own, E⟩ := h
  obtain ⟨A', c', e, ⟨g1, g2⟩, r⟩ := own_rd own
  simp only [Value.slice.injEq, true_and] at e
  obtain ⟨rfl, rfl⟩ := e
  exact ⟨A, n, c, rfl, g1, g2, r, E, fun b o e => by subst e; exact (own.lt b rfl).1⟩
theorem FreshO.none_ (w : World) : FreshO [] w (.returned (.slice none 0 0)) w := ⟨none, 0, 0, rfl, World.ownsRow_nil w _ _ _, Ext.refl w⟩
theorem FreshO.from_ {xs : List Int} {v w w' : World} {e : Ending} (E : Ext v w) (h : FreshO xs w e w') : FreshO xs v e w' := by
  obtain ⟨A, n, c, rfl, own, h4⟩ := h
  refine ⟨A, n, c, rfl, ⟨own.1, ?_⟩, E.go h4⟩
  rcases own.2 with hn | ⟨g, cap, cur, hv, hb, rest⟩
  · exact .inl hn
  · exact .inr ⟨g, cap, cur, hv, Nat.le_trans E.size hb, rest⟩
theorem sz_u8 : (Try.prog.info? 5).map (·.size) = some 1 := by kernel_rfl
/-- Bytes with their sum behind them. -/
def sealL (l : List Int) : List Int := l ++ [((crcOf l % 256 : Nat) : Int), ((crcOf l / 256 : Nat) : Int)]
theorem run_mkLC {P : Program} {t e : TypeId} {k : IntKind} {by_ : Nat} (ht : P.underlying t = some (.slice e)) (hi : (P.info? e).map (fun i => (i.zero, i.size, i.bytes)) = some (some (.int k 0), 1, by_))
    (y z : Int) (m n : Nat) (hy : y = m) (hz : z = n) (hmn : m ≤ n) (hb : n * by_ ≤ 281474976710656) (hn : n ≤ 9223372036854775807) (w : World) :
    (Instr.makeSlice t (.int .i64 y) (.int .i64 z)).run P w = .ok (.slice (some ⟨w.heap.size, 0, none⟩) m n) (w.alloc (.cells (row k (zs n)) e)) := by
  obtain ⟨i, h1, h2, h3, h4⟩ := info_parts hi
  have hh : (i.bytes : Int) * (n : Int) ≤ 281474976710656 := by
    rw [h4]
    have : ((n * by_ : Nat) : Int) ≤ 281474976710656 := by omega
    rwa [Int.natCast_mul, Int.mul_comm] at this
  subst hy hz
  have := run_make (P := P) w t e i _ ht h1 h2 .i64 .i64 (m : Int) (n : Int) (by omega) (by omega) hh (by omega)
  rw [h3] at this
  simpa only [Int.toNat_natCast, Int.toNat_zero, Nat.mul_one, madeCells_int] using this
theorem own_lenCap {w : World} {base g m n : Nat} {e : TypeId} {k : IntKind} {xs : List Int} (h : Blk w g e k xs) (hb : base ≤ g) (hn : xs.length = n) (hmn : m ≤ n) (hm : n ≤ 9223372036854775807) : w.ownsRow base e 1 (.slice (some ⟨g, 0, none⟩) m n) m ((xs.take m).map (Value.int k)) := by
  subst hn
  refine ⟨by simp; omega, .inr ⟨g, xs.length, row k xs, rfl, hb, h, hmn, by unfold maxLen; omega, by rw [row_size]; omega, ?_⟩⟩
  unfold row
  simp [List.map_take]
theorem crcOf_lt {l : List Int} (hl : ByteL l) : crcOf l < 65536 := crcFold_lt (by omega) (fun z hz => by
  obtain ⟨j, hj, rfl⟩ := List.mem_iff_getElem.1 hz
  have := hl j
  rw [List.getElem?_eq_getElem hj] at this
  exact this.2)
theorem own_keep8 {w w' : World} {base n : Nat} {e : TypeId} {v : Value} {xs : List Value} (h : w.ownsRow base e 1 v n xs) (E : Ext w w') : w'.ownsRow base e 1 v n xs := by
  refine ⟨h.1, ?_⟩
  rcases h.2 with h0 | ⟨g, cap, cur, rfl, hb, hg, h1⟩
  · exact .inl h0
  · exact .inr ⟨g, cap, cur, rfl, hb, (E.block g (Array.getElem?_eq_some_iff.1 hg).1).trans hg, h1⟩
set_option maxRecDepth 100000 in
set_option maxHeartbeats 3200000 in
theorem crcSeal_own (A : Option Addr) (n c : Nat) (l : List Int) (w : World) (hx : RdI w w.heap.size .u8 A n l) (hl : ByteL l) (hn : n ≤ 1000000) :
    Calls Try.prog 116 #[.slice A n c] w (FreshO (sealL l) w) := by
  have hln := hx.len
  have hx' := Lib.hid hx
  have hlt := crcOf_lt hl
  have hmk := fun w => run_mkLC Try.underlying34 info_u8 (n : Int) ((n : Int) + 2) n (n + 2) rfl (by omega) (by omega) (by omega) (by omega) w
  have X0 := (Ext.refl w).goA (.cells (row .u8 (zs (n + 2))) 5)
  have B0 : Blk (w.alloc (.cells (row .u8 (zs (n + 2))) 5)) w.heap.size 5 .u8 (zs (n + 2)) := heap_alloc_new w _
  have B0' := Lib.hid B0
  have hsum := fun w' (E : Ext w w') => crcSum_any A n c l w' (hx'.out.ext E) hl (by unfold maxLen; omega)
  have hsum' := Lib.hid hsum
  have hr0 := hx.ext X0
  have hsz : sealL l = l ++ [((crcOf l % 256 : Nat) : Int), ((crcOf l / 256 : Nat) : Int)] := rfl
  have hsz' := Lib.hid hsz
  clear hx hl B0 hsum hsz
  generalize crcOf l = S at *
  go_enter Try.func116, Try.ntmps116
  have hspl : (splice (zs (n + 2)) 0 (l.take n)).length = n + 2 ∧ (splice (zs (n + 2)) 0 (l.take n)).take n = l := by
    rw [List.take_of_length_le (by omega)]
    refine ⟨by rw [length_splice _ _ _ (by rw [zs_length]; omega), zs_length], ?_⟩
    unfold splice
    rw [List.take_zero, List.nil_append, List.take_left' hln]
  have hspl' := Lib.hid hspl
  have ub : IntKind.u8.wrap (S : Int) = ((S % 256 : Nat) : Int) := by rw [IntKind.wrap_u8]; omega
  have ub2 : IntKind.u8.wrap ((S : Int) / 256) = ((S / 256 : Nat) : Int) := by rw [IntKind.wrap_u8]; omega
  clear hspl
  go_wp2_with ((with_reducible refine wpList_copyI rfl (.tmp 11) (.tmp 12) 34 34 rfl Try.underlying34 sz_u8 rfl rfl B0'.out (fun _ => rfl) (by rw [zs_length]; omega) hr0 ?_))
  intro w1 hB1 hM1
  have hB1' := hB1.out
  have own1 := own_lenCap (base := w.heap.size) (m := n) hB1' (Nat.le_refl _) hspl'.out.1 (show n ≤ n + 2 by omega) (by omega)
  rw [hspl'.out.2] at own1
  have E1 : Ext w w1 := X0.goM hM1 (fun i hi => by have hi : i = w.heap.size := hi; omega)
  have own1' := Lib.hid own1
  clear hB1 hB1' hM1 own1 B0' hr0 hmk
  go_wp2_with fail
  refine (hsum'.out w1 E1).mono ?_
  rintro e w2 ⟨rfl, D2⟩
  have own2 := own_keep8 own1'.out D2
  have hb2 : w.heap.size ≤ w2.heap.size := by have := E1.size; have := D2.size; omega
  go_wp2_with (at_builtin; refine wpList_appI rfl (.tmp 16) (.tmp 22) _ rfl Try.underlying34 info_u8 (own2.alloc _) rfl (RdI.pair _ _ _ _ _) rfl (by omega) (by omega) (by simp; omega) ?_; intro v3 w3 own3 hg3 hat3)
  go_ret
  obtain ⟨A3, c3, rfl, _, _⟩ := own_rd own3
  rw [hsz'.out]
  exact ⟨A3, _, c3, rfl, own3, ((E1.go D2).goA _).goG hg3 (fun i hi => by have hi' : some w.heap.size = some i := hi; injection hi' with hi'; omega)⟩
theorem crcSeal_any (A : Option Addr) (n c : Nat) (l : List Int) (w : World) (hx : RdI w w.heap.size .u8 A n l) (hl : ByteL l) (hn : n ≤ 1000000) :
    Calls Try.prog 116 #[.slice A n c] w (FreshI .u8 (sealL l) w) := (crcSeal_own A n c l w hx hl hn).mono fun _ _ h => h.fresh
end Go.Proofs.Ytgagpalffdgjnaa
namespace Go.Proofs.Ytgagpalffdgjnaa
open Go.RowKit

section
variable (A : Option Addr) (n c : Nat) (xs : List Int) (w : World)
set_option maxRecDepth 100000 in
set_option maxHeartbeats 800000 in
theorem clone16_any (hx : RdI w w.heap.size .u16 A n xs) (hn : n ≤ 70368744177664) :
    Calls Try.prog 45 #[.slice A n c] w (FreshI .u16 xs w) := by
  have hln := hx.len
  have hx' := Lib.hid hx
  have hq := fun (w : World) (a : Option Addr) (n c n' c' : Nat) => Lib.run_eql_slice_nil (P := Try.prog) w 28 43 a n c n' c' Try.underlying28
  rcases A with _ | ad
  · have h0 : n = 0 := by
      rcases Nat.eq_zero_or_pos n with h | h
      · exact h
      · obtain ⟨b, o, e, _⟩ := hx.2 h; cases e
    subst h0
    obtain rfl : xs = [] := List.eq_nil_of_length_eq_zero hln
    clear hx
    go_enter Try.func45, Try.ntmps45
    go_wp2_with fail
    go_ret
    exact ⟨none, 0, 0, rfl, Nat.le_refl _, by unfold maxLen; omega, RdI.nil _, Ext.refl _, fun b o e => by cases e⟩
  · have ow : Hid ((w.alloc (.cells #[] 43)).ownsRow w.heap.size 43 1 (.slice (some ⟨w.heap.size, 0, none⟩) 0 0) 0 (([] : List Int).map (Value.int .u16))) :=
      Lib.hid (own_lenCap (base := w.heap.size) (m := 0) (Blk.new w 43 .u16 []) (Nat.le_refl _) rfl (Nat.le_refl _) (by omega))
    clear hx
    go_enter Try.func45, Try.ntmps45
    go_wp2_with (at_builtin; refine wpList_appI rfl (.tmp 5) (.tmp 6) _ rfl Try.underlying28 info_u16 ow.out rfl (hx'.out.ext ((Ext.refl w).goA _)) rfl (by omega) (by omega) (by simp) ?_; intro v2 w2 own2 hg2 hat2)
    go_ret
    rw [Nat.zero_add, List.nil_append] at own2
    obtain ⟨A3, c3, rfl, ⟨g1, g2⟩, r3⟩ := own_rd own2
    exact ⟨A3, _, c3, rfl, g1, g2, r3, ((Ext.refl w).goA _).goG hg2 (fun i hi => (ow.out.lt i hi).1), fun b o e => by subst e; exact (own2.lt b rfl).1⟩
set_option maxRecDepth 100000 in
set_option maxHeartbeats 800000 in
theorem clone8_any (hx : RdI w w.heap.size .u8 A n xs) (hn : n ≤ 70368744177664) :
    Calls Try.prog 154 #[.slice A n c] w (FreshI .u8 xs w) := by
  have hln := hx.len
  have hx' := Lib.hid hx
  have hq := fun (w : World) (a : Option Addr) (n c n' c' : Nat) => Lib.run_eql_slice_nil (P := Try.prog) w 34 5 a n c n' c' Try.underlying34
  rcases A with _ | ad
  · have h0 : n = 0 := by
      rcases Nat.eq_zero_or_pos n with h | h
      · exact h
      · obtain ⟨b, o, e, _⟩ := hx.2 h; cases e
    subst h0
    obtain rfl : xs = [] := List.eq_nil_of_length_eq_zero hln
    clear hx
    go_enter Try.func154, Try.ntmps154
    go_wp2_with fail
    go_ret
    exact ⟨none, 0, 0, rfl, Nat.le_refl _, by unfold maxLen; omega, RdI.nil _, Ext.refl _, fun b o e => by cases e⟩
  · have ow : Hid ((w.alloc (.cells #[] 5)).ownsRow w.heap.size 5 1 (.slice (some ⟨w.heap.size, 0, none⟩) 0 0) 0 (([] : List Int).map (Value.int .u8))) :=
      Lib.hid (own_lenCap (base := w.heap.size) (m := 0) (Blk.new w 5 .u8 []) (Nat.le_refl _) rfl (Nat.le_refl _) (by omega))
    clear hx
    go_enter Try.func154, Try.ntmps154
    go_wp2_with (at_builtin; refine wpList_appI rfl (.tmp 5) (.tmp 6) _ rfl Try.underlying34 info_u8 ow.out rfl (hx'.out.ext ((Ext.refl w).goA _)) rfl (by omega) (by omega) (by simp) ?_; intro v2 w2 own2 hg2 hat2)
    go_ret
    rw [Nat.zero_add, List.nil_append] at own2
    obtain ⟨A3, c3, rfl, ⟨g1, g2⟩, r3⟩ := own_rd own2
    exact ⟨A3, _, c3, rfl, g1, g2, r3, ((Ext.refl w).goA _).goG hg2 (fun i hi => (ow.out.lt i hi).1), fun b o e => by subst e; exact (own2.lt b rfl).1⟩
end
end Go.Proofs.Ytgagpalffdgjnaa
