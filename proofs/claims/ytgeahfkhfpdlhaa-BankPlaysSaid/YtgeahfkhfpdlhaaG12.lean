/- Layer 6: the live question. · Layer 6, plain: rows that are filled place by place. · The reference of layer 4: Reads, Most, place, single, bits. -/
import Derived.Test.YtgeahfkhfpdlhaaG11
import Derived.Test.YtgeahfkhfpdlhaaG06
import Derived.Test.YtgeahfkhfpdlhaaG03
namespace Go.Proofs.Ytgeahfkhfpdlhaa
open Go.RowKit

def hb0 : Nat → List Int := newL 4 4 4 4
def hb1 : Nat → List Int := doL hb0 16 1 2 0 [7, 8]
def hb2 : Nat → List Int := doL hb1 3 0 4 0 []
def hb3 : Nat → List Int := doL hb2 3 2 3 0 []
def hb4 : Nat → List Int := serveL hb3 [22, 0, 1, 0, 6, 0, 9]
def hb5 : Nat → List Int := putB hb4 1 3 9
theorem h6_a : doC hb0 16 1 2 0 [7, 8] = 0 ∧ doY hb0 16 1 2 0 [7, 8] = [] := ⟨by kernel_rfl, by kernel_rfl⟩
theorem h6_c : doC hb1 3 0 4 0 [] = 0 ∧ doY hb1 3 0 4 0 [] = [0, 7, 8, 0] := ⟨by kernel_rfl, by kernel_rfl⟩
theorem h6_d : doC hb2 3 2 3 0 [] = 2 ∧ doY hb2 3 2 3 0 [] = [] := ⟨by kernel_rfl, by kernel_rfl⟩
theorem h6_e : serveY hb3 [22, 0, 1, 0, 6, 0, 9] = [22, 0, 1, 0, 6, 0, 9] := by kernel_rfl
theorem h6_at : atB hb4 2 1 = 15 ∧ spanB hb4 2 1 1 = true ∧ spanB hb4 2 4 1 = false ∧ spanB hb4 1 3 1 = true ∧ atB hb5 1 3 = 1 ∧ sizeB hb5 2 = 4 := ⟨by kernel_rfl, by kernel_rfl, by kernel_rfl, by kernel_rfl, by kernel_rfl, by kernel_rfl⟩
theorem h6_s : serveY hb5 [9] = [137, 1] := by kernel_rfl
theorem h6_str : strOfNums [22, 0, 1, 0, 6, 0, 9] = ByteArray.mk #[22, 0, 1, 0, 6, 0, 9] := by kernel_rfl
theorem h6_str2 : strOfNums [137, 1] = ByteArray.mk #[137, 1] := by kernel_rfl
theorem h6_bytes : ByteL [22, 0, 1, 0, 6, 0, 9] ∧ ByteL [9] := ⟨rng_of (by omega) (by omega) (by decide), rng_of (by omega) (by omega) (by decide)⟩
theorem h6_vals : ∀ j : Nat, 0 ≤ ([7, 8] : List Int)[j]?.getD 0 ∧ ([7, 8] : List Int)[j]?.getD 0 ≤ 65535 := rng_of (by omega) (by omega) (by decide)
theorem Mod.box {S : Nat → Prop} {w w' : World} {g : Nat} {cs : Array Value} {t : TypeId} (M : Mod S w w') (h : w.heap[g]? = some (.cells cs t (0, 0))) (hs : ¬ S g) : w'.heap[g]? = some (.cells cs t (0, 0)) := (M.block g (lt_of_block h) hs).trans h

set_option maxRecDepth 100000 in
set_option maxHeartbeats 6400000 in
theorem bankHead_any (w : World) : Calls Try.prog 16 #[] w fun e w' => e = .returned (.bool true) ∧ Ext w w' := by
  obtain ⟨y1, y2⟩ := h6_bytes
  have y1' := Lib.hid y1
  have y2' := Lib.hid y2
  clear y1 y2
  go_enter Try.func16, Try.ntmps16
  go_wp2_with fail
  refine (bankNew_any 4 4 4 4 w).mono ?_
  rintro e w1 ⟨g, G, rfl, B1, E1, hg⟩
  have hrow : ∀ i, RowsOf G i → w.heap.size ≤ i ∧ i < w1.heap.size := fun i h => ⟨by obtain ⟨k, hk, rfl⟩ := h; have := B1.gt hk; omega, B1.old (.inr h)⟩
  have hrow' := Lib.hid hrow
  have B1' : Hid (Bk w1 g hb0 G) := Lib.hid B1
  have hgl := B1.lt
  clear hrow B1
  go_wp2_with fail
  have D1 := (Ext.refl w1).goA (.cells #[.int .u16 7, .int .u16 8] 34)
  refine (bankDo_any g 16 1 2 0 _ 2 2 [7, 8] hb0 G _ (B1'.out.ext D1) (by rw [alloc_size]; exact RdI.new [7, 8] rfl rfl rfl) h6_vals (by decide)).mono ?_
  rw [h6_a.1, h6_a.2]
  rintro e w2 ⟨A2, n2, c2, rfl, g2, g2', r2, -, B2, M2⟩
  have m2 := (Mod.ofBelow (S := RowsOf G) D1).trans M2
  have s2 := m2.size
  have Q2 := heap_alloc_new w2 (.cells #[.int .i64 0, .slice A2 n2 c2] 40)
  have B2' : Hid (Bk w2 g hb1 G) := Lib.hid B2
  have Q2' := Lib.hid Q2
  clear B2 Q2 r2 D1
  go_wp2_with fail
  have D2 := (Ext.refl w2).goA (.cells #[.int .i64 0, .slice A2 n2 c2] 40)
  refine (bankDo_any g 3 0 4 0 none 0 0 [] hb1 G _ (B2'.out.ext D2) (RdI.nil _) (by simp) (by decide)).mono ?_
  rw [h6_c.1, h6_c.2]
  rintro e w3 ⟨A3, n3, c3, rfl, g3, g3', r3, fr3, B3, M3⟩
  have m3 := (Mod.ofBelow (S := RowsOf G) D2).trans M3
  have s3 := M3.size
  rw [alloc_size] at s3 fr3
  have Q3 := heap_alloc_new w3 (.cells #[.int .i64 0, .slice A3 n3 c3] 40)
  have B3' : Hid (Bk w3 g hb2 G) := Lib.hid B3
  have Q3' := Lib.hid Q3
  clear B3 Q3 D2
  go_wp2_with fail
  have D3 := (Ext.refl w3).goA (.cells #[.int .i64 0, .slice A3 n3 c3] 40)
  refine (bankDo_any g 3 2 3 0 none 0 0 [] hb2 G _ (B3'.out.ext D3) (RdI.nil _) (by simp) (by decide)).mono ?_
  rw [h6_d.1, h6_d.2]
  rintro e w4 ⟨A4, n4, c4, rfl, g4, g4', r4, -, B4, M4⟩
  have m4 := (Mod.ofBelow (S := RowsOf G) D3).trans M4
  have s4 := M4.size
  rw [alloc_size] at s4
  have Q4 := heap_alloc_new w4 (.cells #[.int .i64 2, .slice A4 n4 c4] 40)
  have B4' : Hid (Bk w4 g hb3 G) := Lib.hid B4
  have Q4' := Lib.hid Q4
  clear B4 Q4 r4 D3
  go_wp2_with fail
  have D4 := ((Ext.refl w4).goA (.cells #[.int .i64 2, .slice A4 n4 c4] 40)).goA (.cells #[.int .u8 22, .int .u8 0, .int .u8 1, .int .u8 0, .int .u8 6, .int .u8 0, .int .u8 9] 5)
  refine (bankServe_any g _ 7 7 [22, 0, 1, 0, 6, 0, 9] hb3 G _ (B4'.out.ext D4) (by rw [alloc_size, alloc_size]; exact RdI.new [22, 0, 1, 0, 6, 0, 9] (by simp) rfl rfl) y1'.out (by decide) (by decide)).mono ?_
  rw [h6_e]
  rintro e w5 ⟨A5, n5, c5, rfl, g5, g5', r5, B5, M5⟩
  have m5 := (Mod.ofBelow (S := RowsOf G) D4).trans M5
  have m45 := (Mod.ofBelow (S := RowsOf G) ((Ext.refl (w4.alloc (.cells #[.int .i64 2, .slice A4 n4 c4] 40))).goA (.cells #[.int .u8 22, .int .u8 0, .int .u8 1, .int .u8 0, .int .u8 6, .int .u8 0, .int .u8 9] 5))).trans M5
  have s5 := m45.size
  rw [alloc_size] at s5
  have B5' : Hid (Bk w5 g hb4 G) := Lib.hid B5
  clear B5 D4
  go_wp2_with fail
  refine (bankAt_any g 2 1 hb4 G w5 B5'.out).mono ?_
  rw [h6_at.1, h6_at.2.1]
  rintro e w6 ⟨rfl, rfl⟩
  go_wp2_with fail
  refine (bankAt_any g 2 4 hb4 G _ B5'.out).mono ?_
  rw [h6_at.2.2.1]
  rintro e w6 ⟨rfl, rfl⟩
  go_wp2_with fail
  refine (bankPut_any g 1 3 9 hb4 G _ B5'.out (by omega) (by omega)).mono ?_
  rintro e w6 ⟨rfl, B6, M6⟩
  rw [h6_at.2.2.2.1]
  have B6' : Hid (Bk w6 g hb5 G) := Lib.hid B6
  have s6 := M6.size
  clear B6
  go_wp2_with fail
  refine (bankAt_any g 1 3 hb5 G _ B6'.out).mono ?_
  rw [h6_at.2.2.2.2.1]
  rintro e w7 ⟨rfl, rfl⟩
  have m456 := m45.trans M6
  have m356 : Mod (RowsOf G) (w3.alloc (.cells #[.int .i64 0, .slice A3 n3 c3] 40)) w6 := (M4.trans (Mod.ofBelow ((Ext.refl w4).goA _))).trans m456
  have m256 : Mod (RowsOf G) (w2.alloc (.cells #[.int .i64 0, .slice A2 n2 c2] 40)) w6 := (M3.trans (Mod.ofBelow ((Ext.refl w3).goA _))).trans m356
  have X2 := m256.box Q2'.out (fun h => by have := hrow'.out _ h; omega)
  have X3 := m356.box Q3'.out (fun h => by have := hrow'.out _ h; omega)
  have X4 := m456.box Q4'.out (fun h => by have := hrow'.out _ h; omega)
  have x2 := cellsAt X2
  have x3 := cellsAt X3
  have x4 := cellsAt X4
  have x3' := fun o => cellsAt (((Ext.refl w6).goA (.cells #[.int .u16 0, .int .u16 7, .int .u16 8, .int .u16 0] 34)).block w3.heap.size (lt_of_block X3) |>.trans X3) o
  have r3' := (r3.ext ((Ext.refl w3).goA (.cells #[.int .i64 0, .slice A3 n3 c3] 40))).mod m356 (fun b o e h => by have := hrow'.out _ h; have := fr3 b o e; omega)
  have G6 := (Ext.refl w6).goA (.cells #[.int .u16 0, .int .u16 7, .int .u16 8, .int .u16 0] 34)
  have X4' := Lib.hid X4
  have r5' := r5.past B5'.out M6
  have X2' := Lib.hid X2
  have X3' := Lib.hid X3
  have hT : Ext w w6 := ((E1.goM ((((m2.trans m3).trans m4).trans m5).trans M6) (fun i hi => by have := hrow'.out i hi; omega)))
  clear x3' r5 X2 X3
  go_wp2_with fail
  refine (sameVals_any _ _ _ _ _ _ _ _ _ _ (r3'.ext G6) ((RdI.new [0, 7, 8, 0] rfl rfl rfl).more (by rw [alloc_size]; exact Nat.le_refl _)) (Nat.le_trans g3 g3') (by decide)).mono ?_
  rintro e w7 ⟨rfl, k, rfl⟩
  rw [show decide (([0, 7, 8, 0] : List Int) = [0, 7, 8, 0]) = true from rfl]
  have G7 := G6.goD k
  have x4' := cellsAt ((G7.block _ (lt_of_block X4'.out)).trans X4'.out)
  have b5 := (r5'.ext G7).convert Try.underlying33 Try.underlying5 Try.underlying9 c5
  rw [h6_str] at b5
  have B7 := Lib.hid (B6'.out.ext G7)
  clear x2 x3 x4 r3'
  go_wp2_with fail
  refine (bankSize_any g 2 hb5 G _ B7.out).mono ?_
  rw [h6_at.2.2.2.2.2]
  rintro e w8 ⟨rfl, rfl⟩
  go_wp2_with fail
  have G8 := (Ext.refl ((w6.alloc (.cells #[.int .u16 0, .int .u16 7, .int .u16 8, .int .u16 0] 34)).drewN k)).goA (.cells #[.int .u8 9] 5)
  refine (bankServe_any g _ 1 1 [9] hb5 G _ (B7.out.ext G8) ((RdI.new [9] (by simp) rfl rfl).more (by simp)) y2'.out (by decide) (by decide)).mono ?_
  rw [h6_s]
  rintro e w9 ⟨A9, n9, c9, rfl, g9, g9', r9, B9, M9⟩
  have b9 := r9.convert Try.underlying33 Try.underlying5 Try.underlying9 c9
  rw [h6_str2] at b9
  go_wp2_with fail
  go_ret
  exact ⟨rfl, ((hT.go G7).go G8).goM M9 (fun i hi => by have := hrow'.out i hi; omega)⟩
end Go.Proofs.Ytgeahfkhfpdlhaa
namespace Go.Proofs.Ytgeahfkhfpdlhaa
open Go.RowKit

/-- A row of which the places from 'at' on were filled by the first k numbers. -/
def fillA (l : List Int) (a : Nat) (xs : List Int) (k : Nat) : List Int := splice l a (xs.take k)
theorem fillA_zero (l : List Int) (a : Nat) (xs : List Int) : fillA l a xs 0 = l := by simp [fillA, splice]
theorem fillA_all (l : List Int) (a : Nat) (xs : List Int) (k : Nat) (h : xs.length ≤ k) : fillA l a xs k = splice l a xs := by unfold fillA; rw [List.take_of_length_le h]
theorem fillA_length (l : List Int) (a : Nat) (xs : List Int) (k : Nat) (h : a + k ≤ l.length) : (fillA l a xs k).length = l.length := length_splice _ _ _ (by rw [List.length_take]; omega)
theorem fillA_get (l : List Int) (a : Nat) (xs : List Int) (k : Nat) (hk : k ≤ xs.length) (h : a + k ≤ l.length) (j : Nat) : (fillA l a xs k)[j]? = if a ≤ j ∧ j < a + k then xs[j - a]? else l[j]? := by
  have hm : min k xs.length = k := by omega
  unfold fillA splice
  rw [List.getElem?_append, List.getElem?_append, List.length_take, List.length_take, hm, show min a l.length = a by omega]
  by_cases h1 : j < a
  · rw [if_pos h1, if_neg (by omega), List.getElem?_take_of_lt h1]
  · rw [if_neg h1]
    by_cases h2 : j < a + k
    · rw [if_pos (by omega), if_pos (by omega), List.getElem?_take_of_lt (by omega)]
    · rw [if_neg (by omega), if_neg (by omega), List.getElem?_drop]
      congr 1
      omega
theorem fillA_set (l : List Int) (a : Nat) (xs : List Int) (k : Nat) (hk : k < xs.length) (h : a + k < l.length) : (fillA l a xs k).set (a + k) (xs.getD k 0) = fillA l a xs (k + 1) := by
  apply List.ext_getElem?
  intro j
  rw [List.getElem?_set, fillA_length _ _ _ _ (by omega), fillA_get _ _ _ _ (by omega) (by omega), fillA_get _ _ _ _ (by omega) (by omega)]
  by_cases e : a + k = j
  · subst e
    rw [if_pos rfl, if_pos h, if_pos (by omega), show a + k - a = k by omega, List.getD_eq_getElem?_getD, List.getElem?_eq_getElem hk]
    rfl
  · rw [if_neg e]
    by_cases h2 : a ≤ j ∧ j < a + k
    · rw [if_pos h2, if_pos (by omega)]
    · rw [if_neg h2, if_neg (by omega)]
theorem Blk.mod {w w' : World} {g : Nat} {e : TypeId} {k : IntKind} {xs : List Int} {S : Nat → Prop} (h : Blk w g e k xs) (M : Mod S w w') (hs : ¬ S g) : Blk w' g e k xs := (M.block g h.lt hs).trans h
theorem RdI.lt_of' {w : World} {B n : Nat} {k : IntKind} {A : Option Addr} {xs : List Int} (h : RdI w B k A n xs) (hn : 0 < n) {b o : Nat} (e : A = some ⟨b, o, none⟩) : b < B := h.lt_of hn e
theorem putB_row (L : Nat → List Int) (l : List Int) (i : Nat) (v : Int) (h : i < l.length) : putB (upd L 2 l) 2 i v = upd L 2 (l.set i v) := by
  have hs : spanB (upd L 2 l) 2 i 1 = true := by
    unfold spanB sizeB
    rw [if_pos (by omega)]
    show (_ && (_ && decide ((i : Int) + 1 ≤ ((upd L 2 l 2).length : Int)))) = true
    rw [upd_same]
    simp; omega
  unfold putB
  rw [if_pos hs]
  show upd (upd L 2 l) 2 ((upd L 2 l 2).set i (putV 2 v)) = _
  rw [upd_same, show putV 2 v = v from if_neg (by omega)]
  funext j
  by_cases e : j = 2
  · subst e; rw [upd_same, upd_same]
  · rw [upd_other _ _ e, upd_other _ _ e, upd_other _ _ e]
theorem upd_upd (L : Nat → List Int) (k : Nat) (l l' : List Int) : upd (upd L k l) k l' = upd L k l' := by
  funext j
  by_cases e : j = k
  · subst e; rw [upd_same, upd_same]
  · rw [upd_other _ _ e, upd_other _ _ e, upd_other _ _ e]
/-- What stands at a place of the third row. -/
theorem atB_row (L : Nat → List Int) (l : List Int) (i : Nat) (h : i < l.length) : spanB (upd L 2 l) 2 i 1 = true ∧ atB (upd L 2 l) 2 i = l.getD i 0 := by
  have hs : spanB (upd L 2 l) 2 i 1 = true := by
    unfold spanB sizeB
    rw [if_pos (by omega)]
    show (_ && (_ && decide ((i : Int) + 1 ≤ ((upd L 2 l 2).length : Int)))) = true
    rw [upd_same]
    simp; omega
  refine ⟨hs, ?_⟩
  unfold atB
  rw [if_pos hs]
  show (upd L 2 l 2).getD i 0 = _
  rw [upd_same]
theorem clampN_of (n : Nat) (h : n ≤ 256) : clampN (n : Int) = n := by unfold clampN; omega
/-- Words that are written. -/
theorem do_writes (L : Nat → List Int) (ad : Nat) (l : List Int) (had : ad ≤ 65535) (h1 : 1 ≤ l.length) (h2 : l.length ≤ 123) (hL : (L 2).length ≤ 256) :
    (ad + l.length ≤ (L 2).length → doC L 16 ad l.length 0 l = 0 ∧ doL L 16 ad l.length 0 l = upd L 2 (splice (L 2) ad l)) ∧
    (¬ ad + l.length ≤ (L 2).length → doC L 16 ad l.length 0 l ≠ 0 ∧ doL L 16 ad l.length 0 l = L) ∧ doY L 16 ad l.length 0 l = [] := by
  have hk : kindN 16 = 2 := rfl
  have hr : rightB' 16 ad l.length 0 l = decide (ad + l.length ≤ 65536) := by
    have hs : shapeOf 16 = some ⟨2, 123, 0, false⟩ := rfl
    unfold rightB'
    rw [hs]
    dsimp only
    have hh : holdsB ⟨2, 123, 0, false⟩ ad l.length 0 l = true := by
      unfold holdsB
      generalize l.length = z at *
      rw [if_neg (by simp; omega), if_neg (by simp; omega)]
      simp [valuesB]
    rw [hh, Bool.true_and]
    unfold fitsB
    rw [show max (l.length : Int) 1 = l.length by omega]
    rw [Bool.eq_iff_iff]
    simp only [Bool.and_eq_true, decide_eq_true_eq]
    omega
  have hf : doFits L 16 ad l.length 0 l.length = decide (ad + l.length ≤ (L 2).length) := by
    unfold doFits
    rw [show max (l.length : Int) 1 = l.length by omega, hk]
    unfold spanB sizeB
    rw [if_pos (by omega)]
    show (_ && (_ && decide ((ad : Int) + (l.length : Int) ≤ ((L 2).length : Int))) && true) = _
    rw [Bool.eq_iff_iff]
    simp only [Bool.and_eq_true, decide_eq_true_eq, and_true]
    omega
  have hrow : doRow L 16 ad 0 l = splice (L 2) ad l := by
    unfold doRow
    rw [if_neg (by omega), if_neg (by omega), hk]
    rfl
  refine ⟨fun h => ?_, fun h => ?_, ?_⟩
  · have e1 : rightB' 16 ad l.length 0 l = true := by rw [hr]; simp; omega
    have e2 : doFits L 16 ad l.length 0 l.length = true := by rw [hf]; simp; omega
    have e3 : doGoes L 16 ad l.length 0 l = true := by unfold doGoes; rw [e1, e2]; rfl
    refine ⟨?_, ?_⟩
    · unfold doC; rw [if_pos e1, if_pos e2]
    · unfold doL; rw [if_pos e3, hrow, hk]
  · have e2 : doFits L 16 ad l.length 0 l.length = false := by rw [hf]; simp; omega
    have e3 : doGoes L 16 ad l.length 0 l = false := by unfold doGoes; rw [e2, Bool.and_false]
    refine ⟨?_, ?_⟩
    · unfold doC
      split
      · rw [if_neg (by rw [e2]; decide)]; omega
      · omega
    · unfold doL; rw [if_neg (by rw [e3]; decide)]
  · unfold doY
    split
    · rw [if_neg (by decide)]
    · rfl
/-- Words that are written and read in one. -/
theorem do_swaps (L : Nat → List Int) (ad q to : Nat) (l : List Int) (had : ad ≤ 255) (hto : to ≤ 255) (q1 : 1 ≤ q) (q2 : q ≤ 125) (h1 : 1 ≤ l.length) (h2 : l.length ≤ 121) :
    (ad + q ≤ (L 2).length ∧ to + l.length ≤ (L 2).length → doC L 23 ad q to l = 0 ∧ doL L 23 ad q to l = upd L 2 (splice (L 2) to l) ∧ doY L 23 ad q to l = ((splice (L 2) to l).drop ad).take q) ∧
    (¬ (ad + q ≤ (L 2).length ∧ to + l.length ≤ (L 2).length) → doC L 23 ad q to l = 2 ∧ doL L 23 ad q to l = L ∧ doY L 23 ad q to l = []) := by
  have hk : kindN 23 = 2 := rfl
  have hr : rightB' 23 ad q to l = true := by
    have hs : shapeOf 23 = some ⟨3, 125, 121, false⟩ := rfl
    unfold rightB'
    rw [hs]
    dsimp only
    have hh : holdsB ⟨3, 125, 121, false⟩ ad q to l = true := by
      unfold holdsB
      generalize l.length = z at *
      rw [if_neg (by simp; omega), if_neg (by simp; omega)]
      simp
      omega
    rw [hh, Bool.true_and]
    unfold fitsB
    simp only [Bool.and_eq_true, decide_eq_true_eq]
    omega
  have hf : doFits L 23 ad q to l.length = decide (ad + q ≤ (L 2).length ∧ to + l.length ≤ (L 2).length) := by
    unfold doFits
    rw [show max (q : Int) 1 = q by omega, hk]
    unfold spanB sizeB
    rw [if_pos (by omega)]
    show (_ && (_ && decide ((ad : Int) + (q : Int) ≤ ((L 2).length : Int))) && (_ || (_ && (_ && decide ((to : Int) + (l.length : Int) ≤ ((L 2).length : Int)))))) = _
    rw [Bool.eq_iff_iff]
    simp only [Bool.and_eq_true, Bool.or_eq_true, decide_eq_true_eq, bne_self_eq_false, Bool.false_eq_true, false_or]
    omega
  have hrow : doRow L 23 ad to l = splice (L 2) to l := by
    unfold doRow
    rw [if_neg (by omega), if_pos rfl, hk]
    rfl
  refine ⟨fun h => ?_, fun h => ?_⟩
  · have e2 : doFits L 23 ad q to l.length = true := by rw [hf]; simp; omega
    have e3 : doGoes L 23 ad q to l = true := by unfold doGoes; rw [hr, e2]; rfl
    refine ⟨?_, ?_, ?_⟩
    · unfold doC; rw [if_pos hr, if_pos e2]
    · unfold doL; rw [if_pos e3, hrow, hk]
    · unfold doY; rw [if_pos e3, if_pos (by rfl), hrow]; rfl
  · have e2 : doFits L 23 ad q to l.length = false := by rw [hf]; simp; omega
    have e3 : doGoes L 23 ad q to l = false := by unfold doGoes; rw [e2, Bool.and_false]
    refine ⟨?_, ?_, ?_⟩
    · unfold doC; rw [if_pos hr, if_neg (by rw [e2]; decide)]
    · unfold doL; rw [if_neg (by rw [e3]; decide)]
    · unfold doY; rw [if_neg (by rw [e3]; decide)]
end Go.Proofs.Ytgeahfkhfpdlhaa
namespace Go.Proofs.Ytgeahfkhfpdlhaa
open Go.RowKit

theorem reads_other {fc : Int} (h : fc ≠ 1 ∧ fc ≠ 2 ∧ fc ≠ 3 ∧ fc ≠ 4 ∧ fc ≠ 23) : readsB fc = false ∧ readsBits fc = false := by
  unfold readsB readsBits
  cases hs : shapeOf fc with
  | none => exact ⟨rfl, rfl⟩
  | some s =>
    rcases shape_cases hs with ⟨e, rfl⟩ | ⟨e, rfl⟩ | ⟨e, rfl⟩ | ⟨e, rfl⟩ | ⟨e, rfl⟩ | ⟨e, rfl⟩ | ⟨e, rfl⟩ | ⟨e, rfl⟩
    all_goals
      first
        | (exact ⟨rfl, rfl⟩)
        | omega
set_option maxRecDepth 100000 in
set_option maxHeartbeats 800000 in
theorem refReads_any (fc : Int) (w : World) : Calls Try.prog 76 #[.int .i64 fc] w fun e w' => e = .returned (.tuple #[.bool (readsB fc), .bool (readsBits fc)]) ∧ w = w' := by
  by_cases h : fc ≠ 1 ∧ fc ≠ 2 ∧ fc ≠ 3 ∧ fc ≠ 4 ∧ fc ≠ 23
  · obtain ⟨k1, k2⟩ := reads_other h
    rw [k1, k2]
    have e1 : (fc == 1) = false := by simp; omega
    have e2 : (fc == 2) = false := by simp; omega
    have e3 : (fc == 3) = false := by simp; omega
    have e4 : (fc == 4) = false := by simp; omega
    have e5 : (fc == 23) = false := by simp; omega
    clear h k1 k2
    go_enter Try.func76, Try.ntmps76
    go_wp2_with fail
    go_ret2
    exact ⟨rfl, rfl⟩
  · rcases (show fc = 1 ∨ fc = 2 ∨ fc = 3 ∨ fc = 4 ∨ fc = 23 by omega) with rfl | rfl | rfl | rfl | rfl
    all_goals
      clear h
      go_enter Try.func76, Try.ntmps76
      go_wp2_with fail
      go_ret2
      exact ⟨rfl, rfl⟩
def mostV (fc : Int) : Int := if fc = 1 ∨ fc = 2 then 2000 else if fc = 3 ∨ fc = 4 ∨ fc = 23 then 125 else if fc = 15 then 1968 else if fc = 16 then 123 else if fc = 5 ∨ fc = 6 ∨ fc = 22 then 1 else 0
def singleB (fc : Int) : Bool := (fc == 5) || (fc == 6) || (fc == 22)
def placeB (x : Int) : Bool := decide (0 ≤ x) && decide (x ≤ 65535)
theorem fc_cases (fc : Int) : (fc ≠ 1 ∧ fc ≠ 2 ∧ fc ≠ 3 ∧ fc ≠ 4 ∧ fc ≠ 5 ∧ fc ≠ 6 ∧ fc ≠ 15 ∧ fc ≠ 16 ∧ fc ≠ 22 ∧ fc ≠ 23) ∨ fc = 1 ∨ fc = 2 ∨ fc = 3 ∨ fc = 4 ∨ fc = 5 ∨ fc = 6 ∨ fc = 15 ∨ fc = 16 ∨ fc = 22 ∨ fc = 23 := by omega
set_option maxRecDepth 100000 in
set_option maxHeartbeats 800000 in
theorem most_any (fc : Int) (w : World) : Calls Try.prog 79 #[.int .i64 fc] w fun e w' => e = .returned (.int .i64 (mostV fc)) ∧ w = w' := by
  rcases fc_cases fc with h | rfl | rfl | rfl | rfl | rfl | rfl | rfl | rfl | rfl | rfl
  · have hm : mostV fc = 0 := by unfold mostV; rw [if_neg (by omega), if_neg (by omega), if_neg (by omega), if_neg (by omega), if_neg (by omega)]
    rw [hm]
    have e1 : (fc == 1) = false := by simp; omega
    have e2 : (fc == 2) = false := by simp; omega
    have e3 : (fc == 3) = false := by simp; omega
    have e4 : (fc == 4) = false := by simp; omega
    have e5 : (fc == 5) = false := by simp; omega
    have e6 : (fc == 6) = false := by simp; omega
    have e7 : (fc == 15) = false := by simp; omega
    have e8 : (fc == 16) = false := by simp; omega
    have e9 : (fc == 22) = false := by simp; omega
    have e10 : (fc == 23) = false := by simp; omega
    clear h hm
    go_enter Try.func79, Try.ntmps79
    go_wp2_with fail
    go_ret
    exact ⟨rfl, rfl⟩
  all_goals
    go_enter Try.func79, Try.ntmps79
    go_wp2_with fail
    go_ret
    exact ⟨rfl, rfl⟩
set_option maxRecDepth 100000 in
set_option maxHeartbeats 800000 in
theorem place_any (x : Int) (w : World) : Calls Try.prog 104 #[.int .i64 x] w fun e w' => e = .returned (.bool (placeB x)) ∧ w = w' := by
  unfold placeB
  cases h : decide (0 ≤ x)
  all_goals
    go_enter Try.func104, Try.ntmps104
    go_wp2_with fail
    go_ret
    exact ⟨rfl, rfl⟩
set_option maxRecDepth 100000 in
set_option maxHeartbeats 800000 in
theorem single_any (fc : Int) (w : World) : Calls Try.prog 105 #[.int .i64 fc] w fun e w' => e = .returned (.bool (singleB fc)) ∧ w = w' := by
  unfold singleB
  cases h1 : (fc == 5)
  · cases h2 : (fc == 6)
    · go_enter Try.func105, Try.ntmps105
      go_wp2_with fail
      go_ret
      exact ⟨rfl, rfl⟩
    · go_enter Try.func105, Try.ntmps105
      go_wp2_with fail
      go_ret
      exact ⟨rfl, rfl⟩
  · go_enter Try.func105, Try.ntmps105
    go_wp2_with fail
    go_ret
    exact ⟨rfl, rfl⟩
set_option maxRecDepth 100000 in
set_option maxHeartbeats 800000 in
theorem bits04_any (A : Option Addr) (n c B : Nat) (xs : List Int) (w : World) (hx : RdI w B .u16 A n xs) (hn : n ≤ maxLen) :
    Calls Try.prog 106 #[.slice A n c] w fun e w' => e = .returned (.bool (valuesB true xs)) ∧ w = w' := by
  unfold maxLen at hn
  have hl := Lib.hid hx.len
  go_enter Try.func106, Try.ntmps106
  go_wp2
  go_loop [3] (fun i => ∃ k : Nat, k ≤ n ∧ i = .int .i64 k ∧ ∀ j, j < k → xs.getD j 0 ≤ 1) (fun i => n - (intOf i).toNat)
  case atStart => exact ⟨0, by omega, rfl, fun j hj => absurd hj (by omega)⟩
  case round =>
    obtain ⟨k, hk, rfl, hz⟩ := hrel
    have hz' := Lib.hid hz
    clear hz
    by_cases hlt : k < n
    · obtain ⟨b, o, rfl, hb, hc⟩ := hx.at_ hlt
      by_cases h1 : xs[k]?.getD 0 ≤ 1
      · go_wp2
        go_round
        case rel =>
          refine ⟨k + 1, by omega, by go_num, fun j hj => ?_⟩
          rcases Nat.lt_succ_iff_lt_or_eq.1 hj with h | rfl
          · exact hz'.out j h
          · rw [List.getD_eq_getElem?_getD]; exact h1
        case measure => simp [intOf]; omega
      · have hv : valuesB true xs = false := by
          have hk' : k < xs.length := by rw [hl.out]; exact hlt
          unfold valuesB
          simp only [Bool.not_true, Bool.false_or]
          rw [List.all_eq_false]
          refine ⟨xs[k]'hk', List.getElem_mem _, ?_⟩
          rw [List.getElem?_eq_getElem hk'] at h1
          simpa using h1
        have hv' := Lib.hid hv
        clear hv
        go_wp2
        go_ret
        exact ⟨by rw [hv'.out]; rfl, rfl⟩
    · obtain rfl : k = n := by omega
      have hv : valuesB true xs = true := by
        unfold valuesB
        simp only [Bool.not_true, Bool.false_or, List.all_eq_true, decide_eq_true_eq]
        intro x hx'
        obtain ⟨j, hj, rfl⟩ := List.getElem_of_mem hx'
        have := hz'.out j (by rw [← hl.out]; exact hj)
        rwa [List.getD_eq_getElem?_getD, List.getElem?_eq_getElem hj] at this
      have hv' := Lib.hid hv
      clear hv
      go_wp2
      go_ret
      exact ⟨by rw [hv'.out]; rfl, rfl⟩
end Go.Proofs.Ytgeahfkhfpdlhaa
