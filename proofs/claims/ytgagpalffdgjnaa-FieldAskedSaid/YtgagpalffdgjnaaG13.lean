/- Layer 6, the walks: what stands at all places. · Layer 6, plain: coils that are written and read. · Layer 6, plain: what a bank answers to a right request is an answer to it; its bits stay bits. -/
import Derived.Test.YtgagpalffdgjnaaG45f
import Derived.Test.YtgagpalffdgjnaaRef04Bytes
import Derived.Test.YtgagpalffdgjnaaG11
namespace Go.Proofs.Ytgagpalffdgjnaa
open Go.RowKit

def catTo (L : Nat → List Int) (k : Nat) : List Int := (List.range k).flatMap L
def allL (L : Nat → List Int) : List Int := catTo L 4
theorem catTo_succ (L : Nat → List Int) (k : Nat) : catTo L (k + 1) = catTo L k ++ L k := by unfold catTo; rw [List.range_succ, List.flatMap_append]; simp
theorem catTo_len (L : Nat → List Int) (h : ∀ k, (L k).length ≤ 256) (k : Nat) : (catTo L k).length ≤ 256 * k := by
  induction k with
  | zero => simp [catTo]
  | succ k ih => rw [catTo_succ, List.length_append]; have := h k; omega
theorem atB_of (L : Nat → List Int) (k i : Nat) (hk : k < 4) (h : i < (L k).length) : spanB L k i 1 = true ∧ atB L k i = (L k).getD i 0 := by
  have hs : spanB L k i 1 = true := by
    unfold spanB
    rw [sizeB_of L k hk]
    simp; omega
  exact ⟨hs, by unfold atB; rw [if_pos hs, Int.toNat_natCast, Int.toNat_natCast]⟩
end Go.Proofs.Ytgagpalffdgjnaa
namespace Go.Proofs.Ytgagpalffdgjnaa
open Go.RowKit

def b1 (x : Int) : Int := bits .and .u16 x 1
theorem b1_range (x : Int) (h0 : 0 ≤ x) (h1 : x ≤ 65535) : 0 ≤ b1 x ∧ b1 x ≤ 1 := by
  unfold b1
  rw [Go.u16_and x 1 h0 (by omega) (by omega) (by omega), show (1 : Int).toNat = 1 from rfl, nat_mask1]
  omega
theorem splice_get {l xs : List Int} {a : Nat} (h : a + xs.length ≤ l.length) (j : Nat) : (splice l a xs)[j]? = if a ≤ j ∧ j < a + xs.length then xs[j - a]? else l[j]? := by
  have := fillA_get l a xs xs.length (Nat.le_refl _) h j
  rwa [fillA_all _ _ _ _ (Nat.le_refl _)] at this
theorem splice_nil (l : List Int) (a : Nat) : splice l a [] = l := by simp [splice]
theorem splice_one {l xs : List Int} {a k : Nat} (h : a + xs.length ≤ l.length) (hk : k < xs.length) (x : Int) : splice (splice l a xs) (a + k) [x] = splice l a (xs.set k x) := by
  have hl := length_splice l a xs h
  apply List.ext_getElem?
  intro j
  rw [splice_get (by rw [hl, List.length_singleton]; omega), splice_get h, splice_get (by rw [List.length_set]; exact h), List.length_set, List.length_singleton, List.getElem?_set]
  by_cases e : j = a + k
  · subst e
    rw [if_pos (by omega), if_pos (by omega), if_pos (by omega), if_pos hk, Nat.sub_self]; rfl
  · rw [if_neg (by omega)]
    by_cases h2 : a ≤ j ∧ j < a + xs.length
    · rw [if_pos h2, if_pos h2, if_neg (by omega)]
    · rw [if_neg h2, if_neg h2]
theorem splice_cut {l xs : List Int} {a : Nat} (h : a + xs.length ≤ l.length) : ((splice l a xs).drop a).take xs.length = xs := by
  apply List.ext_getElem?
  intro j
  by_cases hj : j < xs.length
  · rw [List.getElem?_take_of_lt hj, List.getElem?_drop, splice_get h, if_pos (by omega), Nat.add_sub_cancel_left]
  · rw [List.getElem?_eq_none (by rw [List.length_take]; omega), List.getElem?_eq_none (by omega)]
theorem zs_sum (n : Nat) : (zs n).sum = 0 := by
  unfold zs
  induction n with
  | zero => rfl
  | succ n ih => rw [List.replicate_succ, List.sum_cons, ih]; rfl
theorem splice_sum (n a : Nat) (xs : List Int) : (splice (zs n) a xs).sum = xs.sum := by
  unfold splice
  have h1 : ((zs n).take a).sum = 0 := by unfold zs; rw [List.take_replicate]; exact zs_sum _
  have h2 : ((zs n).drop (a + xs.length)).sum = 0 := by unfold zs; rw [List.drop_replicate]; exact zs_sum _
  rw [List.sum_append, List.sum_append, h1, h2]
  omega
theorem take_sum {l : List Int} {k : Nat} (h : k < l.length) : (l.take (k + 1)).sum = (l.take k).sum + l.getD k 0 := by
  rw [List.take_succ_eq_append_getElem h, List.sum_append, List.getD_eq_getElem?_getD, List.getElem?_eq_getElem h]
  simp
theorem sum_range {l : List Int} (h : ∀ y ∈ l, 0 ≤ y ∧ y ≤ 1) : 0 ≤ l.sum ∧ l.sum ≤ (l.length : Int) := by
  induction l with
  | nil => simp
  | cons x l ih =>
    have h1 := h x (by simp)
    have h2 := ih fun y hy => h y (by simp [hy])
    rw [List.sum_cons, List.length_cons]
    omega
theorem do_coils (L : Nat → List Int) (ad : Nat) (l : List Int) (had : ad ≤ 255) (h1 : 1 ≤ l.length) (h2 : l.length ≤ 200) (hv : ∀ y ∈ l, y ≤ 1) (hL : (L 0).length = 256) :
    (ad + l.length ≤ 256 → doC L 15 ad l.length 0 l = 0 ∧ doL L 15 ad l.length 0 l = upd L 0 (splice (L 0) ad l)) ∧ (¬ ad + l.length ≤ 256 → doC L 15 ad l.length 0 l = 2) ∧ doY L 15 ad l.length 0 l = [] := by
  have hk : kindN 15 = 0 := rfl
  have hr : rightB' 15 ad l.length 0 l = true := by
    have hs : shapeOf 15 = some ⟨2, 1968, 0, true⟩ := rfl
    unfold rightB'
    rw [hs]
    dsimp only
    have hvb : valuesB true l = true := by unfold valuesB; simp only [Bool.not_true, Bool.false_or, List.all_eq_true, decide_eq_true_eq]; exact hv
    have hh : holdsB ⟨2, 1968, 0, true⟩ ad l.length 0 l = true := by
      unfold holdsB
      rw [hvb]
      generalize l.length = z at *
      rw [if_neg (by simp; omega), if_neg (by simp; omega)]
      simp
    rw [hh, Bool.true_and]
    unfold fitsB
    simp only [Bool.and_eq_true, decide_eq_true_eq]
    omega
  have hf : doFits L 15 ad l.length 0 l.length = decide (ad + l.length ≤ 256) := by
    unfold doFits
    rw [show max (l.length : Int) 1 = l.length by omega, hk]
    unfold spanB sizeB
    rw [if_pos (by omega)]
    show (_ && (_ && decide ((ad : Int) + (l.length : Int) ≤ ((L 0).length : Int))) && true) = _
    rw [hL, Bool.eq_iff_iff]
    simp only [Bool.and_eq_true, decide_eq_true_eq, and_true]
    omega
  have hrow : doRow L 15 ad 0 l = splice (L 0) ad l := by
    unfold doRow
    rw [if_neg (by omega), if_neg (by omega), hk]
    rfl
  refine ⟨fun h => ?_, fun h => ?_, ?_⟩
  · have e2 : doFits L 15 ad l.length 0 l.length = true := by rw [hf]; simp; omega
    have e3 : doGoes L 15 ad l.length 0 l = true := by unfold doGoes; rw [hr, e2]; rfl
    exact ⟨by unfold doC; rw [if_pos hr, if_pos e2], by unfold doL; rw [if_pos e3, hrow, hk]⟩
  · have e2 : doFits L 15 ad l.length 0 l.length = false := by rw [hf]; simp; omega
    unfold doC; rw [if_pos hr, if_neg (by rw [e2]; decide)]
  · unfold doY
    split
    · rw [if_neg (by decide)]
    · rfl
theorem do_coil (L : Nat → List Int) (p : Nat) (x : Int) (hp : p < 256) (x1 : x ≤ 1) (hL : (L 0).length = 256) : doL L 5 p 0 0 [x] = upd L 0 (splice (L 0) p [x]) := by
  have hk : kindN 5 = 0 := rfl
  have hr : rightB' 5 p 0 0 [x] = true := by
    have hs : shapeOf 5 = some ⟨1, 0, 1, true⟩ := rfl
    unfold rightB'
    rw [hs]
    dsimp only
    have hh : holdsB ⟨1, 0, 1, true⟩ p 0 0 [x] = true := by
      unfold holdsB
      rw [if_neg (by simp; omega), if_neg (by simp)]
      simp [valuesB, x1]
    rw [hh, Bool.true_and]
    unfold fitsB
    simp only [Bool.and_eq_true, decide_eq_true_eq, List.length_singleton]
    omega
  have hf : doFits L 5 p 0 0 1 = true := by
    unfold doFits
    rw [hk]
    unfold spanB sizeB
    rw [if_pos (by omega)]
    show (_ && (_ && decide ((p : Int) + max 0 1 ≤ ((L 0).length : Int))) && true) = true
    rw [hL]
    simp only [Bool.and_eq_true, decide_eq_true_eq, and_true]
    omega
  have e3 : doGoes L 5 p 0 0 [x] = true := by unfold doGoes; rw [hr, Bool.true_and]; exact hf
  have hrow : doRow L 5 p 0 [x] = splice (L 0) p [x] := by
    unfold doRow
    rw [if_neg (by omega), if_neg (by omega), hk]
    rfl
  unfold doL; rw [if_pos e3, hrow, hk]
theorem do_reads (L : Nat → List Int) (ad n : Nat) (h1 : 1 ≤ n) (h2 : n ≤ 200) (h : ad + n ≤ 256) (hL : (L 0).length = 256) : doC L 1 ad n 0 [] = 0 ∧ doL L 1 ad n 0 [] = L ∧ doY L 1 ad n 0 [] = ((L 0).drop ad).take n := by
  have hk : kindN 1 = 0 := rfl
  have hr : rightB' 1 ad n 0 [] = true := by
    have hs : shapeOf 1 = some ⟨0, 2000, 0, true⟩ := rfl
    unfold rightB'
    rw [hs]
    dsimp only
    have hh : holdsB ⟨0, 2000, 0, true⟩ ad n 0 [] = true := by
      unfold holdsB
      rw [if_neg (by simp; omega), if_neg (by simp; omega)]
      simp
    rw [hh, Bool.true_and]
    unfold fitsB
    simp only [Bool.and_eq_true, decide_eq_true_eq, List.length_nil]
    omega
  have hf : doFits L 1 ad n 0 ([] : List Int).length = true := by
    unfold doFits
    rw [hk, show max (n : Int) 1 = n by omega]
    unfold spanB sizeB
    rw [if_pos (by omega)]
    show (_ && (_ && decide ((ad : Int) + n ≤ ((L 0).length : Int))) && true) = true
    rw [hL]
    simp only [Bool.and_eq_true, decide_eq_true_eq, and_true]
    omega
  have e3 : doGoes L 1 ad n 0 [] = true := by unfold doGoes; rw [hr, hf]; rfl
  have hrow : doRow L 1 ad 0 [] = L 0 := by
    unfold doRow
    rw [if_neg (by omega), if_neg (by omega), hk]
    exact splice_nil _ _
  refine ⟨by unfold doC; rw [if_pos hr, if_pos hf], by unfold doL; rw [if_pos e3, hrow, hk, upd_self], ?_⟩
  unfold doY; rw [if_pos e3, if_pos (by rfl), hrow]; rfl
end Go.Proofs.Ytgagpalffdgjnaa
namespace Go.Proofs.Ytgagpalffdgjnaa
open Go.RowKit

/-- Coils and inputs are 0 or 1. -/
def BitsL (L : Nat → List Int) : Prop := ∀ k, k < 2 → ∀ y ∈ L k, y ≤ 1
theorem bits_new (a0 a1 a2 a3 : Int) : BitsL (newL a0 a1 a2 a3) := fun k _ y hy => by
  have := List.eq_of_mem_replicate hy
  omega
theorem values_le {xs : List Int} (h : valuesB true xs = true) : ∀ y ∈ xs, y ≤ 1 := by
  unfold valuesB at h
  simpa using h
theorem right_fc {fc ad qt to : Int} {xs : List Int} (h : rightB' fc ad qt to xs = true) : fc = 1 ∨ fc = 2 ∨ fc = 3 ∨ fc = 4 ∨ fc = 5 ∨ fc = 6 ∨ fc = 15 ∨ fc = 16 ∨ fc = 22 ∨ fc = 23 := by
  obtain ⟨s, hs, h1, h2⟩ := right_parts h
  rcases shape_cases hs with ⟨e, _⟩ | ⟨e, _⟩ | ⟨e, _⟩ | ⟨e, _⟩ | ⟨e, _⟩ | ⟨e, _⟩ | ⟨e, _⟩ | ⟨e, _⟩ <;> omega
/-- What a right request for bits bears is bits, or nothing. -/
theorem right_bits {fc ad qt to : Int} {xs : List Int} (h : rightB' fc ad qt to xs = true) (hk : kindN fc < 2) : (∀ y ∈ xs, y ≤ 1) ∧ (readsB fc = true → xs = []) ∧ fc ≠ 22 ∧ fc ≠ 23 := by
  have hf := right_fc h
  obtain ⟨s, hs, h1, h2⟩ := right_parts h
  obtain ⟨-, -, -, -, -, f0, f1, f2, f3⟩ := holds_parts h1
  rcases hf with rfl | rfl | rfl | rfl | rfl | rfl | rfl | rfl | rfl | rfl
  all_goals first | (exfalso; revert hk; decide) | (injection hs with hs; subst hs)
  · have := f0 rfl; subst this; exact ⟨fun y hy => (by cases hy), fun _ => rfl, by decide, by decide⟩
  · have := f0 rfl; subst this; exact ⟨fun y hy => (by cases hy), fun _ => rfl, by decide, by decide⟩
  · exact ⟨values_le (f1 rfl).2, fun h => absurd h (by decide), by decide, by decide⟩
  · exact ⟨values_le (f2 rfl).2, fun h => absurd h (by decide), by decide, by decide⟩
theorem mem_splice {l xs : List Int} {a : Nat} {y : Int} (h : y ∈ splice l a xs) : y ∈ l ∨ y ∈ xs := by
  unfold splice at h
  rcases List.mem_append.1 h with h | h
  · exact .inl (List.mem_of_mem_take h)
  rcases List.mem_append.1 h with h | h
  · exact .inr h
  · exact .inl (List.mem_of_mem_drop h)
theorem bits_do {L : Nat → List Int} (hL : BitsL L) (fc ad qt to : Int) (xs : List Int) : BitsL (doL L fc ad qt to xs) := by
  unfold doL
  split
  · rename_i h
    have h1 := (doGoes_parts h).1
    intro k hk y hy
    by_cases e : k = kindN fc
    · subst e
      rw [upd_same] at hy
      obtain ⟨b0, _, b2, _⟩ := right_bits h1 hk
      unfold doRow at hy
      rw [if_neg b2] at hy
      rcases mem_splice hy with hy | hy
      · exact hL _ hk y hy
      · exact b0 y hy
    · rw [upd_other _ _ e] at hy
      exact hL k hk y hy
  · exact hL
theorem bits_serve {L : Nat → List Int} (hL : BitsL L) (l : List Int) : BitsL (serveL L l) := by
  unfold serveL
  split
  · exact hL
  · exact bits_do hL _ _ _ _ _
theorem row_long {L : Nat → List Int} {fc ad qt to : Int} {xs : List Int} (h : doFits L fc ad qt to xs.length = true) (hr : rightB' fc ad qt to xs = true) : (doRow L fc ad to xs).length = (L (kindN fc)).length ∧ ad.toNat + qt.toNat ≤ (L (kindN fc)).length := by
  have hf := right_fc hr
  obtain ⟨a0, q0, _, t0, _, x23, x1, x22, xr, _⟩ := right_do hr
  unfold doFits at h
  rw [Bool.and_eq_true] at h
  obtain ⟨s1, s2⟩ := h
  obtain ⟨k, f, n, e1, e2, e3, hk, hfn, hn⟩ := spanB_kind s1 (by omega)
  have ek : kindN fc = k := by omega
  subst e2
  rw [← ek] at hfn
  rw [Int.toNat_natCast]
  refine ⟨?_, by omega⟩
  unfold doRow
  split
  · rw [List.length_set]
  · rename_i hne
    have fit : (if fc = 23 then to.toNat else (f : Int).toNat) + xs.length ≤ (L (kindN fc)).length := by
      by_cases e : fc = 23
      · rw [if_pos e]
        have x1' := x1 e
        have hne2 : (fc != 23) = false := by simp [e]
        rw [hne2, Bool.false_or] at s2
        obtain ⟨k2, f2, n2, e4, e5, e6, _, hfn2, _⟩ := spanB_kind s2 (by omega)
        have : kindN fc = k2 := by omega
        rw [← this] at hfn2
        omega
      · rw [if_neg e, Int.toNat_natCast]
        have := x23 e hne
        omega
    unfold splice
    simp only [List.length_append, List.length_take, List.length_drop]
    omega
theorem do_answers {L : Nat → List Int} (hL : BitsL L) {fc ad qt to : Int} {xs : List Int} (hr : rightB' fc ad qt to xs = true) : ansR fc ad qt to xs (doC L fc ad qt to xs) (doY L fc ad qt to xs) = true := by
  unfold ansR ansB doC doY doGoes
  rw [hr, if_pos rfl, Bool.true_and, Bool.true_and]
  cases hf : doFits L fc ad qt to xs.length
  · rw [show (if false = true then (0 : Int) else 2) = 2 from rfl, if_pos (by decide), if_neg (by decide)]
    rfl
  · rw [if_pos rfl, if_pos rfl, if_neg (by decide)]
    obtain ⟨l1, l2⟩ := row_long hf hr
    cases hrd : readsB fc
    · rw [if_neg (by decide), if_neg (by decide)]
      unfold valuesB
      simp
    · rw [if_pos rfl, if_pos rfl]
      rw [Bool.and_eq_true]
      have q0 := (right_do hr).2.1
      refine ⟨?_, ?_⟩
      · rw [beq_iff_eq, List.length_take, List.length_drop, l1]
        omega
      · cases hb : readsBits fc
        · unfold valuesB; rfl
        · have hk : kindN fc < 2 := by
            rcases right_fc hr with rfl | rfl | rfl | rfl | rfl | rfl | rfl | rfl | rfl | rfl
            all_goals first | decide | (exfalso; revert hb; decide)
          obtain ⟨b0, b1, b2, _⟩ := right_bits hr hk
          unfold valuesB
          simp only [Bool.not_true, Bool.false_or, List.all_eq_true, decide_eq_true_eq]
          intro y hy
          have hy := List.mem_of_mem_drop (List.mem_of_mem_take hy)
          unfold doRow at hy
          rw [if_neg b2] at hy
          rcases mem_splice hy with hy | hy
          · exact hL _ hk y hy
          · exact b0 y hy
/-- An exception leaves all as it was. -/
theorem do_quiet {L : Nat → List Int} {fc ad qt to : Int} {xs : List Int} (hr : rightB' fc ad qt to xs = true) (h : doC L fc ad qt to xs ≠ 0) : doC L fc ad qt to xs = 2 ∧ doL L fc ad qt to xs = L := by
  unfold doC at h ⊢
  rw [if_pos hr] at h ⊢
  cases hf : doFits L fc ad qt to xs.length
  · rw [if_neg (by decide)]
    unfold doL doGoes
    rw [hf, Bool.and_false, if_neg (by decide)]
    exact ⟨rfl, rfl⟩
  · rw [hf, if_pos rfl] at h
    exact absurd rfl h
end Go.Proofs.Ytgagpalffdgjnaa
