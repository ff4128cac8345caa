/- Layer 6: the live question. · Layer 6, plain: rows that are filled place by place. -/
import Derived.Test.YtgagpalffdgjnaaG11
import Derived.Test.YtgagpalffdgjnaaG06
namespace Go.Proofs.Ytgagpalffdgjnaa
open Go.RowKit

def hb0 : Nat → List Int := newL 4 4 4 4
def hb1 : Nat → List Int := doL hb0 16 1 2 0 [7, 8]
def hb2 : Nat → List Int := doL hb1 3 0 4 0 []
def hb3 : Nat → List Int := doL hb2 3 2 3 0 []
def hb4 : Nat → List Int := serveL hb3 [22, 0, 1, 0, 6, 0, 9]
def hb5 : Nat → List Int := putB hb4 1 3 9
theorem h6_a : doC hb0 16 1 2 0 [7, 8] = 0 ∧ doY hb0 16 1 2 0 [7, 8] = [] := ⟨by kernel_rfl, by kernel_rfl⟩
theorem h6_c : doC hb1 3 0 4 0 [] = 0 ∧ doY hb1 3 0 4 0 [] = [0, 7, 8, 0] := ⟨by kernel_rfl, by kernel_rfl⟩
theorem h6_d : doC hb2 3 2 3 0 [] = 2 ∧ doY hb2 3 2 3 0 [] = [] := ⟨by kernel_rfl, by kernel_rfl⟩
theorem h6_e : serveY hb3 [22, 0, 1, 0, 6, 0, 9] = [22, 0, 1, 0, 6, 0, 9] := by kernel_rfl
theorem h6_at : atB hb4 2 1 = 15 ∧ spanB hb4 2 1 1 = true ∧ spanB hb4 2 4 1 = false ∧ spanB hb4 1 3 1 = true ∧ atB hb5 1 3 = 1 ∧ sizeB hb5 2 = 4 := ⟨by kernel_rfl, by kernel_rfl, by kernel_rfl, by kernel_rfl, by kernel_rfl, by kernel_rfl⟩
theorem h6_s : serveY hb5 [9] = [137, 1] := by kernel_rfl
theorem h6_str : strOfNums [22, 0, 1, 0, 6, 0, 9] = ByteArray.mk #[22, 0, 1, 0, 6, 0, 9] := by kernel_rfl
theorem h6_str2 : strOfNums [137, 1] = ByteArray.mk #[137, 1] := by kernel_rfl
theorem h6_bytes : ByteL [22, 0, 1, 0, 6, 0, 9] ∧ ByteL [9] := ⟨rng_of (by omega) (by omega) (by decide), rng_of (by omega) (by omega) (by decide)⟩
theorem h6_vals : ∀ j : Nat, 0 ≤ ([7, 8] : List Int)[j]?.getD 0 ∧ ([7, 8] : List Int)[j]?.getD 0 ≤ 65535 := rng_of (by omega) (by omega) (by decide)
theorem Mod.box {S : Nat → Prop} {w w' : World} {g : Nat} {cs : Array Value} {t : TypeId} (M : Mod S w w') (h : w.heap[g]? = some (.cells cs t (0, 0))) (hs : ¬ S g) : w'.heap[g]? = some (.cells cs t (0, 0)) := (M.block g (lt_of_block h) hs).trans h

end Go.Proofs.Ytgagpalffdgjnaa
namespace Go.Proofs.Ytgagpalffdgjnaa
open Go.RowKit

/-- A row of which the places from 'at' on were filled by the first k numbers. -/
def fillA (l : List Int) (a : Nat) (xs : List Int) (k : Nat) : List Int := splice l a (xs.take k)
theorem fillA_zero (l : List Int) (a : Nat) (xs : List Int) : fillA l a xs 0 = l := by simp [fillA, splice]
theorem fillA_all (l : List Int) (a : Nat) (xs : List Int) (k : Nat) (h : xs.length ≤ k) : fillA l a xs k = splice l a xs := by unfold fillA; rw [List.take_of_length_le h]
theorem fillA_length (l : List Int) (a : Nat) (xs : List Int) (k : Nat) (h : a + k ≤ l.length) : (fillA l a xs k).length = l.length := length_splice _ _ _ (by rw [List.length_take]; omega)
theorem fillA_get (l : List Int) (a : Nat) (xs : List Int) (k : Nat) (hk : k ≤ xs.length) (h : a + k ≤ l.length) (j : Nat) : (fillA l a xs k)[j]? = if a ≤ j ∧ j < a + k then xs[j - a]? else l[j]? := by
  have hm : min k xs.length = k := by omega
  unfold fillA splice
  rw [List.getElem?_append, List.getElem?_append, List.length_take, List.length_take, hm, show min a l.length = a by omega]
  by_cases h1 : j < a
  · rw [if_pos h1, if_neg (by omega), List.getElem?_take_of_lt h1]
  · rw [if_neg h1]
    by_cases h2 : j < a + k
    · rw [if_pos (by omega), if_pos (by omega), List.getElem?_take_of_lt (by omega)]
    · rw [if_neg (by omega), if_neg (by omega), List.getElem?_drop]
      congr 1
      omega
theorem fillA_set (l : List Int) (a : Nat) (xs : List Int) (k : Nat) (hk : k < xs.length) (h : a + k < l.length) : (fillA l a xs k).set (a + k) (xs.getD k 0) = fillA l a xs (k + 1) := by
  apply List.ext_getElem?
  intro j
  rw [List.getElem?_set, fillA_length _ _ _ _ (by omega), fillA_get _ _ _ _ (by omega) (by omega), fillA_get _ _ _ _ (by omega) (by omega)]
  by_cases e : a + k = j
  · subst e
    rw [if_pos rfl, if_pos h, if_pos (by omega), show a + k - a = k by omega, List.getD_eq_getElem?_getD, List.getElem?_eq_getElem hk]
    rfl
  · rw [if_neg e]
    by_cases h2 : a ≤ j ∧ j < a + k
    · rw [if_pos h2, if_pos (by omega)]
    · rw [if_neg h2, if_neg (by omega)]
theorem Blk.mod {w w' : World} {g : Nat} {e : TypeId} {k : IntKind} {xs : List Int} {S : Nat → Prop} (h : Blk w g e k xs) (M : Mod S w w') (hs : ¬ S g) : Blk w' g e k xs := (M.block g h.lt hs).trans h
theorem RdI.lt_of' {w : World} {B n : Nat} {k : IntKind} {A : Option Addr} {xs : List Int} (h : RdI w B k A n xs) (hn : 0 < n) {b o : Nat} (e : A = some ⟨b, o, none⟩) : b < B := h.lt_of hn e
theorem putB_row (L : Nat → List Int) (l : List Int) (i : Nat) (v : Int) (h : i < l.length) : putB (upd L 2 l) 2 i v = upd L 2 (l.set i v) := by
  have hs : spanB (upd L 2 l) 2 i 1 = true := by
    unfold spanB sizeB
    rw [if_pos (by omega)]
    show (_ && (_ && decide ((i : Int) + 1 ≤ ((upd L 2 l 2).length : Int)))) = true
    rw [upd_same]
    simp; omega
  unfold putB
  rw [if_pos hs]
  show upd (upd L 2 l) 2 ((upd L 2 l 2).set i (putV 2 v)) = _
  rw [upd_same, show putV 2 v = v from if_neg (by omega)]
  funext j
  by_cases e : j = 2
  · subst e; rw [upd_same, upd_same]
  · rw [upd_other _ _ e, upd_other _ _ e, upd_other _ _ e]
theorem upd_upd (L : Nat → List Int) (k : Nat) (l l' : List Int) : upd (upd L k l) k l' = upd L k l' := by
  funext j
  by_cases e : j = k
  · subst e; rw [upd_same, upd_same]
  · rw [upd_other _ _ e, upd_other _ _ e, upd_other _ _ e]
/-- What stands at a place of the third row. -/
theorem atB_row (L : Nat → List Int) (l : List Int) (i : Nat) (h : i < l.length) : spanB (upd L 2 l) 2 i 1 = true ∧ atB (upd L 2 l) 2 i = l.getD i 0 := by
  have hs : spanB (upd L 2 l) 2 i 1 = true := by
    unfold spanB sizeB
    rw [if_pos (by omega)]
    show (_ && (_ && decide ((i : Int) + 1 ≤ ((upd L 2 l 2).length : Int)))) = true
    rw [upd_same]
    simp; omega
  refine ⟨hs, ?_⟩
  unfold atB
  rw [if_pos hs]
  show (upd L 2 l 2).getD i 0 = _
  rw [upd_same]
theorem clampN_of (n : Nat) (h : n ≤ 256) : clampN (n : Int) = n := by unfold clampN; omega
/-- Words that are written. -/
theorem do_writes (L : Nat → List Int) (ad : Nat) (l : List Int) (had : ad ≤ 65535) (h1 : 1 ≤ l.length) (h2 : l.length ≤ 123) (hL : (L 2).length ≤ 256) :
    (ad + l.length ≤ (L 2).length → doC L 16 ad l.length 0 l = 0 ∧ doL L 16 ad l.length 0 l = upd L 2 (splice (L 2) ad l)) ∧
    (¬ ad + l.length ≤ (L 2).length → doC L 16 ad l.length 0 l ≠ 0 ∧ doL L 16 ad l.length 0 l = L) ∧ doY L 16 ad l.length 0 l = [] := by
  have hk : kindN 16 = 2 := rfl
  have hr : rightB' 16 ad l.length 0 l = decide (ad + l.length ≤ 65536) := by
    have hs : shapeOf 16 = some ⟨2, 123, 0, false⟩ := rfl
    unfold rightB'
    rw [hs]
    dsimp only
    have hh : holdsB ⟨2, 123, 0, false⟩ ad l.length 0 l = true := by
      unfold holdsB
      generalize l.length = z at *
      rw [if_neg (by simp; omega), if_neg (by simp; omega)]
      simp [valuesB]
    rw [hh, Bool.true_and]
    unfold fitsB
    rw [show max (l.length : Int) 1 = l.length by omega]
    rw [Bool.eq_iff_iff]
    simp only [Bool.and_eq_true, decide_eq_true_eq]
    omega
  have hf : doFits L 16 ad l.length 0 l.length = decide (ad + l.length ≤ (L 2).length) := by
    unfold doFits
    rw [show max (l.length : Int) 1 = l.length by omega, hk]
    unfold spanB sizeB
    rw [if_pos (by omega)]
    show (_ && (_ && decide ((ad : Int) + (l.length : Int) ≤ ((L 2).length : Int))) && true) = _
    rw [Bool.eq_iff_iff]
    simp only [Bool.and_eq_true, decide_eq_true_eq, and_true]
    omega
  have hrow : doRow L 16 ad 0 l = splice (L 2) ad l := by
    unfold doRow
    rw [if_neg (by omega), if_neg (by omega), hk]
    rfl
  refine ⟨fun h => ?_, fun h => ?_, ?_⟩
  · have e1 : rightB' 16 ad l.length 0 l = true := by rw [hr]; simp; omega
    have e2 : doFits L 16 ad l.length 0 l.length = true := by rw [hf]; simp; omega
    have e3 : doGoes L 16 ad l.length 0 l = true := by unfold doGoes; rw [e1, e2]; rfl
    refine ⟨?_, ?_⟩
    · unfold doC; rw [if_pos e1, if_pos e2]
    · unfold doL; rw [if_pos e3, hrow, hk]
  · have e2 : doFits L 16 ad l.length 0 l.length = false := by rw [hf]; simp; omega
    have e3 : doGoes L 16 ad l.length 0 l = false := by unfold doGoes; rw [e2, Bool.and_false]
    refine ⟨?_, ?_⟩
    · unfold doC
      split
      · rw [if_neg (by rw [e2]; decide)]; omega
      · omega
    · unfold doL; rw [if_neg (by rw [e3]; decide)]
  · unfold doY
    split
    · rw [if_neg (by decide)]
    · rfl
/-- Words that are written and read in one. -/
theorem do_swaps (L : Nat → List Int) (ad q to : Nat) (l : List Int) (had : ad ≤ 255) (hto : to ≤ 255) (q1 : 1 ≤ q) (q2 : q ≤ 125) (h1 : 1 ≤ l.length) (h2 : l.length ≤ 121) :
    (ad + q ≤ (L 2).length ∧ to + l.length ≤ (L 2).length → doC L 23 ad q to l = 0 ∧ doL L 23 ad q to l = upd L 2 (splice (L 2) to l) ∧ doY L 23 ad q to l = ((splice (L 2) to l).drop ad).take q) ∧
    (¬ (ad + q ≤ (L 2).length ∧ to + l.length ≤ (L 2).length) → doC L 23 ad q to l = 2 ∧ doL L 23 ad q to l = L ∧ doY L 23 ad q to l = []) := by
  have hk : kindN 23 = 2 := rfl
  have hr : rightB' 23 ad q to l = true := by
    have hs : shapeOf 23 = some ⟨3, 125, 121, false⟩ := rfl
    unfold rightB'
    rw [hs]
    dsimp only
    have hh : holdsB ⟨3, 125, 121, false⟩ ad q to l = true := by
      unfold holdsB
      generalize l.length = z at *
      rw [if_neg (by simp; omega), if_neg (by simp; omega)]
      simp
      omega
    rw [hh, Bool.true_and]
    unfold fitsB
    simp only [Bool.and_eq_true, decide_eq_true_eq]
    omega
  have hf : doFits L 23 ad q to l.length = decide (ad + q ≤ (L 2).length ∧ to + l.length ≤ (L 2).length) := by
    unfold doFits
    rw [show max (q : Int) 1 = q by omega, hk]
    unfold spanB sizeB
    rw [if_pos (by omega)]
    show (_ && (_ && decide ((ad : Int) + (q : Int) ≤ ((L 2).length : Int))) && (_ || (_ && (_ && decide ((to : Int) + (l.length : Int) ≤ ((L 2).length : Int)))))) = _
    rw [Bool.eq_iff_iff]
    simp only [Bool.and_eq_true, Bool.or_eq_true, decide_eq_true_eq, bne_self_eq_false, Bool.false_eq_true, false_or]
    omega
  have hrow : doRow L 23 ad to l = splice (L 2) to l := by
    unfold doRow
    rw [if_neg (by omega), if_pos rfl, hk]
    rfl
  refine ⟨fun h => ?_, fun h => ?_⟩
  · have e2 : doFits L 23 ad q to l.length = true := by rw [hf]; simp; omega
    have e3 : doGoes L 23 ad q to l = true := by unfold doGoes; rw [hr, e2]; rfl
    refine ⟨?_, ?_, ?_⟩
    · unfold doC; rw [if_pos hr, if_pos e2]
    · unfold doL; rw [if_pos e3, hrow, hk]
    · unfold doY; rw [if_pos e3, if_pos (by rfl), hrow]; rfl
  · have e2 : doFits L 23 ad q to l.length = false := by rw [hf]; simp; omega
    have e3 : doGoes L 23 ad q to l = false := by unfold doGoes; rw [e2, Bool.and_false]
    refine ⟨?_, ?_, ?_⟩
    · unfold doC; rw [if_pos hr, if_neg (by rw [e2]; decide)]
    · unfold doL; rw [if_neg (by rw [e3]; decide)]
    · unfold doY; rw [if_neg (by rw [e3]; decide)]
end Go.Proofs.Ytgagpalffdgjnaa
