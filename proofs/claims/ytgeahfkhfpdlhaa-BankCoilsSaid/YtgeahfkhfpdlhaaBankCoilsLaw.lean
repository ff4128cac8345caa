
/- Layer 6, plain: coils that are written and read. -/
import Derived.Test.YtgeahfkhfpdlhaaBankAll
namespace Go.Proofs.Ytgeahfkhfpdlhaa
open Go.RowKit

def b1 (x : Int) : Int := bits .and .u16 x 1
theorem b1_range (x : Int) (h0 : 0 ≤ x) (h1 : x ≤ 65535) : 0 ≤ b1 x ∧ b1 x ≤ 1 := by
  unfold b1
  rw [Go.u16_and x 1 h0 (by omega) (by omega) (by omega), show (1 : Int).toNat = 1 from rfl, nat_mask1]
  omega
theorem splice_get {l xs : List Int} {a : Nat} (h : a + xs.length ≤ l.length) (j : Nat) : (splice l a xs)[j]? = if a ≤ j ∧ j < a + xs.length then xs[j - a]? else l[j]? := by
  have := fillA_get l a xs xs.length (Nat.le_refl _) h j
  rwa [fillA_all _ _ _ _ (Nat.le_refl _)] at this
theorem splice_nil (l : List Int) (a : Nat) : splice l a [] = l := by simp [splice]
theorem splice_one {l xs : List Int} {a k : Nat} (h : a + xs.length ≤ l.length) (hk : k < xs.length) (x : Int) : splice (splice l a xs) (a + k) [x] = splice l a (xs.set k x) := by
  have hl := length_splice l a xs h
  apply List.ext_getElem?
  intro j
  rw [splice_get (by rw [hl, List.length_singleton]; omega), splice_get h, splice_get (by rw [List.length_set]; exact h), List.length_set, List.length_singleton, List.getElem?_set]
  by_cases e : j = a + k
  · subst e
    rw [if_pos (by omega), if_pos (by omega), if_pos (by omega), if_pos hk, Nat.sub_self]; rfl
  · rw [if_neg (by omega)]
    by_cases h2 : a ≤ j ∧ j < a + xs.length
    · rw [if_pos h2, if_pos h2, if_neg (by omega)]
    · rw [if_neg h2, if_neg h2]
theorem splice_cut {l xs : List Int} {a : Nat} (h : a + xs.length ≤ l.length) : ((splice l a xs).drop a).take xs.length = xs := by
  apply List.ext_getElem?
  intro j
  by_cases hj : j < xs.length
  · rw [List.getElem?_take_of_lt hj, List.getElem?_drop, splice_get h, if_pos (by omega), Nat.add_sub_cancel_left]
  · rw [List.getElem?_eq_none (by rw [List.length_take]; omega), List.getElem?_eq_none (by omega)]
theorem zs_sum (n : Nat) : (zs n).sum = 0 := by
  unfold zs
  induction n with
  | zero => rfl
  | succ n ih => rw [List.replicate_succ, List.sum_cons, ih]; rfl
theorem splice_sum (n a : Nat) (xs : List Int) : (splice (zs n) a xs).sum = xs.sum := by
  unfold splice
  have h1 : ((zs n).take a).sum = 0 := by unfold zs; rw [List.take_replicate]; exact zs_sum _
  have h2 : ((zs n).drop (a + xs.length)).sum = 0 := by unfold zs; rw [List.drop_replicate]; exact zs_sum _
  rw [List.sum_append, List.sum_append, h1, h2]
  omega
theorem take_sum {l : List Int} {k : Nat} (h : k < l.length) : (l.take (k + 1)).sum = (l.take k).sum + l.getD k 0 := by
  rw [List.take_succ_eq_append_getElem h, List.sum_append, List.getD_eq_getElem?_getD, List.getElem?_eq_getElem h]
  simp
theorem sum_range {l : List Int} (h : ∀ y ∈ l, 0 ≤ y ∧ y ≤ 1) : 0 ≤ l.sum ∧ l.sum ≤ (l.length : Int) := by
  induction l with
  | nil => simp
  | cons x l ih =>
    have h1 := h x (by simp)
    have h2 := ih fun y hy => h y (by simp [hy])
    rw [List.sum_cons, List.length_cons]
    omega
theorem do_coils (L : Nat → List Int) (ad : Nat) (l : List Int) (had : ad ≤ 255) (h1 : 1 ≤ l.length) (h2 : l.length ≤ 200) (hv : ∀ y ∈ l, y ≤ 1) (hL : (L 0).length = 256) :
    (ad + l.length ≤ 256 → doC L 15 ad l.length 0 l = 0 ∧ doL L 15 ad l.length 0 l = upd L 0 (splice (L 0) ad l)) ∧ (¬ ad + l.length ≤ 256 → doC L 15 ad l.length 0 l = 2) ∧ doY L 15 ad l.length 0 l = [] := by
  have hk : kindN 15 = 0 := rfl
  have hr : rightB' 15 ad l.length 0 l = true := by
    have hs : shapeOf 15 = some ⟨2, 1968, 0, true⟩ := rfl
    unfold rightB'
    rw [hs]
    dsimp only
    have hvb : valuesB true l = true := by unfold valuesB; simp only [Bool.not_true, Bool.false_or, List.all_eq_true, decide_eq_true_eq]; exact hv
    have hh : holdsB ⟨2, 1968, 0, true⟩ ad l.length 0 l = true := by
      unfold holdsB
      rw [hvb]
      generalize l.length = z at *
      rw [if_neg (by simp; omega), if_neg (by simp; omega)]
      simp
    rw [hh, Bool.true_and]
    unfold fitsB
    simp only [Bool.and_eq_true, decide_eq_true_eq]
    omega
  have hf : doFits L 15 ad l.length 0 l.length = decide (ad + l.length ≤ 256) := by
    unfold doFits
    rw [show max (l.length : Int) 1 = l.length by omega, hk]
    unfold spanB sizeB
    rw [if_pos (by omega)]
    show (_ && (_ && decide ((ad : Int) + (l.length : Int) ≤ ((L 0).length : Int))) && true) = _
    rw [hL, Bool.eq_iff_iff]
    simp only [Bool.and_eq_true, decide_eq_true_eq, and_true]
    omega
  have hrow : doRow L 15 ad 0 l = splice (L 0) ad l := by
    unfold doRow
    rw [if_neg (by omega), if_neg (by omega), hk]
    rfl
  refine ⟨fun h => ?_, fun h => ?_, ?_⟩
  · have e2 : doFits L 15 ad l.length 0 l.length = true := by rw [hf]; simp; omega
    have e3 : doGoes L 15 ad l.length 0 l = true := by unfold doGoes; rw [hr, e2]; rfl
    exact ⟨by unfold doC; rw [if_pos hr, if_pos e2], by unfold doL; rw [if_pos e3, hrow, hk]⟩
  · have e2 : doFits L 15 ad l.length 0 l.length = false := by rw [hf]; simp; omega
    unfold doC; rw [if_pos hr, if_neg (by rw [e2]; decide)]
  · unfold doY
    split
    · rw [if_neg (by decide)]
    · rfl
theorem do_coil (L : Nat → List Int) (p : Nat) (x : Int) (hp : p < 256) (x1 : x ≤ 1) (hL : (L 0).length = 256) : doL L 5 p 0 0 [x] = upd L 0 (splice (L 0) p [x]) := by
  have hk : kindN 5 = 0 := rfl
  have hr : rightB' 5 p 0 0 [x] = true := by
    have hs : shapeOf 5 = some ⟨1, 0, 1, true⟩ := rfl
    unfold rightB'
    rw [hs]
    dsimp only
    have hh : holdsB ⟨1, 0, 1, true⟩ p 0 0 [x] = true := by
      unfold holdsB
      rw [if_neg (by simp; omega), if_neg (by simp)]
      simp [valuesB, x1]
    rw [hh, Bool.true_and]
    unfold fitsB
    simp only [Bool.and_eq_true, decide_eq_true_eq, List.length_singleton]
    omega
  have hf : doFits L 5 p 0 0 1 = true := by
    unfold doFits
    rw [hk]
    unfold spanB sizeB
    rw [if_pos (by omega)]
    show (_ && (_ && decide ((p : Int) + max 0 1 ≤ ((L 0).length : Int))) && true) = true
    rw [hL]
    simp only [Bool.and_eq_true, decide_eq_true_eq, and_true]
    omega
  have e3 : doGoes L 5 p 0 0 [x] = true := by unfold doGoes; rw [hr, Bool.true_and]; exact hf
  have hrow : doRow L 5 p 0 [x] = splice (L 0) p [x] := by
    unfold doRow
    rw [if_neg (by omega), if_neg (by omega), hk]
    rfl
  unfold doL; rw [if_pos e3, hrow, hk]
theorem do_reads (L : Nat → List Int) (ad n : Nat) (h1 : 1 ≤ n) (h2 : n ≤ 200) (h : ad + n ≤ 256) (hL : (L 0).length = 256) : doC L 1 ad n 0 [] = 0 ∧ doL L 1 ad n 0 [] = L ∧ doY L 1 ad n 0 [] = ((L 0).drop ad).take n := by
  have hk : kindN 1 = 0 := rfl
  have hr : rightB' 1 ad n 0 [] = true := by
    have hs : shapeOf 1 = some ⟨0, 2000, 0, true⟩ := rfl
    unfold rightB'
    rw [hs]
    dsimp only
    have hh : holdsB ⟨0, 2000, 0, true⟩ ad n 0 [] = true := by
      unfold holdsB
      rw [if_neg (by simp; omega), if_neg (by simp; omega)]
      simp
    rw [hh, Bool.true_and]
    unfold fitsB
    simp only [Bool.and_eq_true, decide_eq_true_eq, List.length_nil]
    omega
  have hf : doFits L 1 ad n 0 ([] : List Int).length = true := by
    unfold doFits
    rw [hk, show max (n : Int) 1 = n by omega]
    unfold spanB sizeB
    rw [if_pos (by omega)]
    show (_ && (_ && decide ((ad : Int) + n ≤ ((L 0).length : Int))) && true) = true
    rw [hL]
    simp only [Bool.and_eq_true, decide_eq_true_eq, and_true]
    omega
  have e3 : doGoes L 1 ad n 0 [] = true := by unfold doGoes; rw [hr, hf]; rfl
  have hrow : doRow L 1 ad 0 [] = L 0 := by
    unfold doRow
    rw [if_neg (by omega), if_neg (by omega), hk]
    exact splice_nil _ _
  refine ⟨by unfold doC; rw [if_pos hr, if_pos hf], by unfold doL; rw [if_pos e3, hrow, hk, upd_self], ?_⟩
  unfold doY; rw [if_pos e3, if_pos (by rfl), hrow]; rfl
end Go.Proofs.Ytgeahfkhfpdlhaa
