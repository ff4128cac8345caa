/- Layer 5, plain: what may be answered is got of its bytes; what is got of any bytes may be answered. -/
import Derived.Test.YtkkbjchoilcjlaaReplyI
namespace Go.Proofs.Ytkkbjchoilcjlaa
open Go.RowKit

theorem shape_hi {fc : Int} {s : Shape} (hs : shapeOf fc = some s) : fc % 256 = fc ∧ orHi (fc % 256) = fc + 128 ∧ hiB (orHi (fc % 256)) = true ∧ hiB (fc % 256) = false := by
  rcases shape_cases hs with ⟨rfl | rfl, _⟩ | ⟨rfl | rfl, _⟩ | ⟨rfl, _⟩ | ⟨rfl, _⟩ | ⟨rfl, _⟩ | ⟨rfl, _⟩ | ⟨rfl, _⟩ | ⟨rfl, _⟩ <;> exact ⟨rfl, by kernel_rfl, by kernel_rfl, by kernel_rfl⟩
theorem kinds_of {fc : Int} {s : Shape} (hs : shapeOf fc = some s) : readsB fc = (s.form == 0 || s.form == 3) ∧ readsBits fc = ((s.form == 0 || s.form == 3) && s.bits) := by
  unfold readsB readsBits; rw [hs]; exact ⟨rfl, rfl⟩
theorem body_length (b : Bool) (ys : List Int) : (bodyL b ys).length = if b then (ys.length + 7) / 8 else 2 * ys.length := by
  unfold bodyL
  cases b
  · exact wordsL_length ys
  · exact bitsTo_length _ _
theorem right_reads {fc ad qt to : Int} {xs : List Int} (h : rightB' fc ad qt to xs = true) (hr : readsB fc = true) : 1 ≤ qt ∧ qt ≤ (if readsBits fc then 2000 else 125) := by
  obtain ⟨s, hs, h1, h2⟩ := right_parts h
  obtain ⟨k1, k2⟩ := kinds_of hs
  obtain ⟨-, -, ⟨q0, q1⟩, hq, -, -, -, -, -⟩ := holds_parts h1
  rw [k1] at hr
  rw [k2]
  rcases shape_cases hs with ⟨_, rfl⟩ | ⟨_, rfl⟩ | ⟨_, rfl⟩ | ⟨_, rfl⟩ | ⟨_, rfl⟩ | ⟨_, rfl⟩ | ⟨_, rfl⟩ | ⟨_, rfl⟩
  all_goals
    first
      | (exact absurd hr (by decide))
      | (simp at hq q1 ⊢; omega)
/-- How long an answer's bytes are. -/
theorem rep_length {fc ad qt to code : Int} {xs ys : List Int} (h : ansR fc ad qt to xs code ys = true) :
    (code ≠ 0 → (repR fc ad qt to xs code ys).length = 2) ∧ (code = 0 → readsB fc = true → ((repR fc ad qt to xs code ys).length : Int) = 2 + if readsBits fc then (qt + 7) / 8 else 2 * qt) ∧ (code = 0 → readsB fc = false → 5 ≤ (repR fc ad qt to xs code ys).length) ∧ (repR fc ad qt to xs code ys).length ≤ 253 := by
  obtain ⟨h1, h2, h3⟩ := ans_parts h
  unfold repR repL
  by_cases hc : code = 0
  · subst hc
    have h3 := h3 rfl
    rw [if_neg (by simp)]
    cases hb : readsB fc
    · rw [if_neg (by decide)]
      have h5 := right_five h1
      have h6 := (put_length fc ad qt to xs).2
      refine ⟨(fun e => absurd rfl e), (fun _ e => by cases e), fun _ _ => ?_, ?_⟩
      · split
        · rw [List.length_take]; omega
        · exact h5
      · split
        · rw [List.length_take]; omega
        · exact h6
    · rw [if_pos rfl]
      rw [hb, if_pos rfl] at h3
      have q := right_reads h1 hb
      rw [List.length_append, body_length]
      cases hbb : readsBits fc
      · rw [hbb] at q
        simp at q ⊢
        omega
      · rw [hbb] at q
        simp at q ⊢
        omega
  · rw [if_pos hc]
    exact ⟨fun _ => rfl, fun e => absurd e hc, fun e => absurd e hc, by show 2 ≤ 253; omega⟩
theorem tells_self {fc ad qt to code : Int} {xs ys : List Int} (h : ansR fc ad qt to xs code ys = true) : tellsB fc ad qt to xs (repR fc ad qt to xs code ys) code ys = true := by
  unfold tellsB; rw [h, Bool.true_and, beq_self_eq_true]
/-- What may be answered is got of its bytes as it was. -/
theorem rget_rput {fc ad qt to code : Int} {xs ys : List Int} (h : ansR fc ad qt to xs code ys = true) (hyr : ∀ j : Nat, 0 ≤ ys[j]?.getD 0 ∧ ys[j]?.getD 0 ≤ 65535) :
    rgetR fc ad qt to xs (repR fc ad qt to xs code ys) = (code, ys, if code = 0 then 0 else 52) := by
  obtain ⟨h1, h2, h3⟩ := ans_parts h
  obtain ⟨s, hs, -, -⟩ := right_parts h1
  obtain ⟨f1, f2, f3, f4⟩ := shape_hi hs
  have ht := tells_self h
  have hlen := rep_length h
  unfold rgetR
  rw [if_pos h1]
  by_cases hc : code = 0
  · subst hc
    have h3 := h3 rfl
    have hno : ¬ ((repR fc ad qt to xs 0 ys).length = 2 ∧ hiB ((repR fc ad qt to xs 0 ys).getD 0 0) = true) := by
      cases hb : readsB fc
      · intro e; have := hlen.2.2.1 rfl hb; omega
      · intro e
        have : (repR fc ad qt to xs 0 ys).getD 0 0 = fc % 256 := by unfold repR repL; rw [if_neg (by simp), hb, if_pos rfl]; rfl
        rw [this, f4] at e
        cases e.2
    rw [if_neg hno]
    have hv : takenV (readsB fc) (readsBits fc) qt (repR fc ad qt to xs 0 ys) = ys := by
      unfold takenV
      cases hb : readsB fc
      · rw [hb, if_neg (by decide)] at h3
        rw [if_pos (Or.inl (if_neg (by decide)))]
        exact (List.length_eq_zero_iff.1 (by omega)).symm
      · rw [hb, if_pos rfl] at h3
        have q := right_reads h1 hb
        have hl := hlen.2.1 rfl hb
        rw [if_neg (by rw [if_pos rfl]; split at hl <;> omega)]
        have er : repR fc ad qt to xs 0 ys = [fc % 256, ((bodyL (readsBits fc) ys).length : Int) % 256] ++ bodyL (readsBits fc) ys := by unfold repR repL; rw [if_neg (by simp), hb, if_pos rfl]
        have hqn : qt.toNat = ys.length := by omega
        cases hbb : readsBits fc
        · rw [if_neg (by decide)]
          rw [hbb] at hl
          rw [if_neg (by simp at hl ⊢; omega), hqn, er, hbb]
          have := wordsAt_mid [fc % 256, ((bodyL false ys).length : Int) % 256] [] ys hyr
          rw [List.append_nil] at this
          exact this
        · rw [if_pos rfl, hqn, er, hbb]
          rw [hbb] at h3
          exact unbits_same ys h3.2 (fun j => (hyr j).1)
    rw [hv, if_pos ht]
    rfl
  · obtain ⟨hcr, rfl⟩ := h2 hc
    have er : repR fc ad qt to xs code [] = [orHi (fc % 256), code % 256] := by unfold repR repL; rw [if_pos hc]
    have e0 : (repR fc ad qt to xs code []).getD 0 0 = orHi (fc % 256) := by rw [er]; rfl
    have e1 : (repR fc ad qt to xs code []).getD 1 0 = code := by rw [er]; show code % 256 = code; omega
    rw [if_pos ⟨hlen.1 hc, by rw [e0]; exact f3⟩, e1, if_pos ht, if_neg hc]
/-- What is got of any bytes. -/
theorem rgot_any (fc ad qt to : Int) (xs bs : List Int) :
    ((rgetR fc ad qt to xs bs).2.2 = 51 ∧ (rgetR fc ad qt to xs bs).1 = 0 ∧ (rgetR fc ad qt to xs bs).2.1 = []) ∨
    (ansR fc ad qt to xs (rgetR fc ad qt to xs bs).1 (rgetR fc ad qt to xs bs).2.1 = true ∧ (strOfNums (repR fc ad qt to xs (rgetR fc ad qt to xs bs).1 (rgetR fc ad qt to xs bs).2.1)).toList = (strOfNums bs).toList
      ∧ ((rgetR fc ad qt to xs bs).2.2 = 52 ∧ (rgetR fc ad qt to xs bs).1 ≠ 0 ∨ (rgetR fc ad qt to xs bs).2.2 = 0 ∧ (rgetR fc ad qt to xs bs).1 = 0)) := by
  unfold rgetR
  by_cases h1 : rightB' fc ad qt to xs = true
  · rw [if_pos h1]
    by_cases h2 : bs.length = 2 ∧ hiB (bs.getD 0 0) = true
    · rw [if_pos h2]
      by_cases h3 : tellsB fc ad qt to xs bs (bs.getD 1 0) [] = true
      · rw [if_pos h3]
        unfold tellsB at h3
        rw [Bool.and_eq_true, beq_iff_eq] at h3
        refine .inr ⟨h3.1, h3.2, .inl ⟨rfl, fun hc => ?_⟩⟩
        replace hc : bs.getD 1 0 = 0 := hc
        rw [hc] at h3
        have hl := congrArg List.length h3.2
        rw [strNums_length, strNums_length, h2.1] at hl
        have r := rep_length h3.1
        cases hb : readsB fc
        · have := r.2.2.1 rfl hb; omega
        · have q := right_reads h1 hb
          have := (ans_parts h3.1).2.2 rfl
          rw [hb, if_pos rfl] at this
          have := this.1
          simp at this
          omega
      · rw [if_neg h3]; exact .inl ⟨rfl, rfl, rfl⟩
    · rw [if_neg h2]
      by_cases h3 : tellsB fc ad qt to xs bs 0 (takenV (readsB fc) (readsBits fc) qt bs) = true
      · rw [if_pos h3]
        unfold tellsB at h3
        rw [Bool.and_eq_true, beq_iff_eq] at h3
        exact .inr ⟨h3.1, h3.2, .inr ⟨rfl, rfl⟩⟩
      · rw [if_neg h3]; exact .inl ⟨rfl, rfl, rfl⟩
  · rw [if_neg h1]; exact .inl ⟨rfl, rfl, rfl⟩
theorem rget_range (fc ad qt to : Int) (xs bs : List Int) (hb : ByteL bs) : ∀ j : Nat, 0 ≤ (rgetR fc ad qt to xs bs).2.1[j]?.getD 0 ∧ (rgetR fc ad qt to xs bs).2.1[j]?.getD 0 ≤ 65535 := by
  have h0 : ∀ j : Nat, 0 ≤ ([] : List Int)[j]?.getD 0 ∧ ([] : List Int)[j]?.getD 0 ≤ 65535 := fun j => by simp
  unfold rgetR
  split
  · split
    · split
      · exact h0
      · exact h0
    · split
      · exact takenV_range _ _ _ _ hb
      · exact h0
  · exact h0
theorem rputL_bytes (fc ad qt to : Int) (xs : List Int) (code : Int) (ys : List Int) : ByteL (rputL fc ad qt to xs code ys) := by
  refine rng_of (by omega) (by omega) fun y hy => ?_
  unfold rputL at hy
  by_cases h : ansR fc ad qt to xs code ys = true
  · rw [if_pos h] at hy
    obtain ⟨h1, h2, h3⟩ := ans_parts h
    obtain ⟨s, hs, -, -⟩ := right_parts h1
    obtain ⟨f1, f2, -, -⟩ := shape_hi hs
    have hfc : 1 ≤ fc ∧ fc ≤ 23 := by rcases shape_cases hs with ⟨rfl | rfl, _⟩ | ⟨rfl | rfl, _⟩ | ⟨rfl, _⟩ | ⟨rfl, _⟩ | ⟨rfl, _⟩ | ⟨rfl, _⟩ | ⟨rfl, _⟩ | ⟨rfl, _⟩ <;> decide
    have hp := putL_bytes fc ad qt to xs
    have hpm : ∀ y ∈ putL fc ad qt to xs, 0 ≤ y ∧ y ≤ 255 := fun y hy => by
      obtain ⟨j, hj, rfl⟩ := List.getElem_of_mem hy
      have := hp j
      rw [List.getElem?_eq_getElem hj] at this
      exact this
    unfold repR repL at hy
    split at hy
    · rw [f2] at hy
      simp only [List.mem_cons, List.not_mem_nil, or_false] at hy
      rcases hy with rfl | rfl <;> omega
    split at hy
    · rcases List.mem_append.1 hy with hy | hy
      · simp only [List.mem_cons, List.not_mem_nil, or_false] at hy
        rcases hy with rfl | rfl <;> omega
      · unfold bodyL at hy
        split at hy
        · exact bitsL_bytes _ _ hy
        · exact wordsL_bytes _ _ hy
    split at hy
    · exact hpm y (List.mem_of_mem_take hy)
    · exact hpm y hy
  · rw [if_neg h] at hy; cases hy
/-- How long an answer's bytes are, that are of a request that writes; and with what each begins. -/
theorem rep_writes {fc ad qt to : Int} {xs ys : List Int} (h : ansR fc ad qt to xs 0 ys = true) (hb : readsB fc = false) : (repR fc ad qt to xs 0 ys).length = if fc = 22 then 7 else 5 := by
  obtain ⟨h1, h2, h3⟩ := ans_parts h
  obtain ⟨s, hs, g1, g2⟩ := right_parts h1
  obtain ⟨k1, k2⟩ := kinds_of hs
  have h5 := right_five h1
  unfold repR repL
  rw [if_neg (by simp), hb, if_neg (by decide)]
  have hput : putL fc ad qt to xs = codedL s fc ad qt to xs := by unfold putL; rw [hs]; dsimp only; rw [g1, g2, Bool.and_self, if_pos rfl]
  obtain ⟨-, -, ⟨q0, q1⟩, -, -, f0, f1, f2, f3⟩ := holds_parts g1
  have hl := codedL_length s fc ad qt to xs
  rw [← hput] at hl
  rw [k1] at hb
  rcases shape_cases hs with ⟨e, rfl⟩ | ⟨e, rfl⟩ | ⟨e, rfl⟩ | ⟨e, rfl⟩ | ⟨e, rfl⟩ | ⟨e, rfl⟩ | ⟨e, rfl⟩ | ⟨e, rfl⟩
  · exact absurd hb (by decide)
  · exact absurd hb (by decide)
  · subst e; simp [lenOf] at hl ⊢; omega
  · subst e; have := (f1 rfl).1; simp [lenOf] at hl this ⊢; omega
  · subst e; rw [if_pos (.inl rfl), List.length_take]; simp; omega
  · subst e; rw [if_pos (.inr rfl), List.length_take]; simp; omega
  · subst e; have := (f1 rfl).1; simp [lenOf] at hl this ⊢; omega
  · exact absurd hb (by decide)
theorem rep_first {fc ad qt to : Int} {xs ys : List Int} (h : ansR fc ad qt to xs 0 ys = true) : (repR fc ad qt to xs 0 ys).getD 0 0 = fc := by
  obtain ⟨h1, h2, h3⟩ := ans_parts h
  obtain ⟨s, hs, g1, g2⟩ := right_parts h1
  obtain ⟨f, -, -, -⟩ := shape_hi hs
  have hput : putL fc ad qt to xs = codedL s fc ad qt to xs := by unfold putL; rw [hs]; dsimp only; rw [g1, g2, Bool.and_self, if_pos rfl]
  have hp : ∀ T, (([fc % 256] ++ T) : List Int).getD 0 0 = fc := fun T => f
  unfold repR repL
  rw [if_neg (by simp)]
  split
  · exact f
  split
  · rw [hput, codedL_tail]; exact f
  · rw [hput, codedL_tail]; exact f
end Go.Proofs.Ytkkbjchoilcjlaa
