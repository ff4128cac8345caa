/- The reference of layer 4, plain: what it reads of bytes, and that it gets what pdu gets. -/
import Derived.Test.YtgagpalffdgjnaaG14
import Derived.Test.YtgagpalffdgjnaaReplyOtherLaw
namespace Go.Proofs.Ytgagpalffdgjnaa
open Go.RowKit

/-- What the reference reads of bytes. -/
def refReadR (l : List Int) : Rq :=
  ⟨l.getD 0 0, wordAt l 1, if l.getD 0 0 = 5 ∨ l.getD 0 0 = 6 ∨ l.getD 0 0 = 22 then 0 else wordAt l 3, if l.getD 0 0 = 23 ∧ 10 < l.length then wordAt l 5 else 0,
    if l.getD 0 0 = 5 then [if wordAt l 3 ≠ 0 then 1 else 0] else if l.getD 0 0 = 6 then [wordAt l 3] else if l.getD 0 0 = 22 then [wordAt l 3, wordAt l 5]
    else if l.getD 0 0 = 15 ∧ 6 < l.length then unbitsL (l.drop 6) (wordAt l 3).toNat else if l.getD 0 0 = 16 ∧ 6 < l.length then unwordsL (l.drop 6) else if l.getD 0 0 = 23 ∧ 10 < l.length then unwordsL (l.drop 10) else []⟩
theorem unwordsL_of (xs : List Int) (h : ∀ j : Nat, 0 ≤ xs[j]?.getD 0 ∧ xs[j]?.getD 0 ≤ 65535) : unwordsL (wordsL xs) = xs := by
  unfold unwordsL
  rw [wordsL_length, show 2 * xs.length / 2 = xs.length by omega]
  have := wordsAt_mid [] [] xs h
  simpa using this
theorem wordAt_drop (l : List Int) (a i : Nat) : wordAt (l.drop a) i = wordAt l (a + i) := by
  unfold wordAt
  rw [List.length_drop]
  by_cases h : l.length < a + i + 2
  · rw [if_pos h, if_pos (by omega)]
  · rw [if_neg h, if_neg (by omega), List.getD_eq_getElem?_getD, List.getD_eq_getElem?_getD, List.getElem?_drop, List.getElem?_drop, List.getD_eq_getElem?_getD, List.getD_eq_getElem?_getD, Nat.add_assoc]
theorem wordsAt_drop (l : List Int) (a n : Nat) : wordsAt (l.drop a) 0 n = wordsAt l a n := by
  unfold wordsAt
  apply List.map_congr_left
  intro i _
  rw [wordAt_drop, Nat.zero_add]
/-- What was coded is read as it was. -/
theorem read_coded {s : Shape} {fc ad qt to : Int} {xs : List Int} (hs : shapeOf fc = some s) (h : holdsB s ad qt to xs = true) (hr : ∀ j : Nat, 0 ≤ xs[j]?.getD 0 ∧ xs[j]?.getD 0 ≤ 65535) : refReadR (codedL s fc ad qt to xs) = ⟨fc, ad, qt, to, xs⟩ := by
  have k := coded_taken s fc ad qt to xs hs h hr
  obtain ⟨⟨a0, a1⟩, ⟨t0, t1⟩, ⟨q0, q1⟩, hq, ht, e0, e1, e2, e3⟩ := holds_parts h
  have hlen := codedL_length s fc ad qt to xs
  have h5 : s.form = 1 → s.bits = true → wordAt (codedL s fc ad qt to xs) 3 = 65280 * xs.getD 0 0 := fun f b => by
    have hx := hr 0
    have hv := (e1 f).2
    rw [b] at hv
    rw [codedL_tail, if_neg (by omega), if_pos f, if_pos b]
    have hx1 : xs.getD 0 0 ≤ 1 ∧ 0 ≤ xs.getD 0 0 := by
      rw [List.getD_eq_getElem?_getD]
      refine ⟨?_, hx.1⟩
      cases xs with
      | nil => simp
      | cons x l => simp [valuesB] at hv; simp; omega
    have := wordAt_mid ([fc % 256] ++ hiLo ad) [] (65280 * xs.getD 0 0) (by omega) (by omega)
    exact this
  obtain ⟨ka, kb, kq, kt, kl, w2, w3⟩ := k
  generalize codedL s fc ad qt to xs = c at *
  unfold refReadR
  rw [ka, kb]
  have hc0 : ∀ n, wordsAt c 3 (n + 1) = wordsAt c 3 n ++ [wordAt c (3 + 2 * n)] := fun n => wordsAt_succ c 3 n
  rcases shape_cases hs with ⟨e, rfl⟩ | ⟨e, rfl⟩ | ⟨rfl, rfl⟩ | ⟨rfl, rfl⟩ | ⟨rfl, rfl⟩ | ⟨rfl, rfl⟩ | ⟨rfl, rfl⟩ | ⟨rfl, rfl⟩
  · clear hlen h5 w2 w3 hc0
    rcases e with rfl | rfl
    all_goals
      simp [takQ, takT, takL] at kq kt kl ⊢
      exact ⟨kq, kt, kl⟩
  · clear hlen h5 w2 w3 hc0
    rcases e with rfl | rfl
    all_goals
      simp [takQ, takT, takL] at kq kt kl ⊢
      exact ⟨kq, kt, kl⟩
  · have h6 := h5 rfl rfl
    obtain ⟨x, rfl⟩ : ∃ x, xs = [x] := by
      have := (e1 rfl).1
      match xs, this with
      | [x], _ => exact ⟨x, rfl⟩
      | [], h => simp at h
      | _ :: _ :: _, h => simp at h; omega
    have hv := (e1 rfl).2
    have hx := hr 0
    simp [valuesB] at hv hx
    clear hlen h5 w2 w3 hc0
    simp [takQ, takT] at kq kt h6 ⊢
    refine ⟨kq, kt, ?_⟩
    rw [h6]
    split <;> omega
  · clear hlen h5 w2 w3
    simp [takQ, takT, takL] at kq kt kl ⊢
    refine ⟨kq, kt, ?_⟩
    rw [← kl]
    rfl
  · have h2 := (e2 rfl).1
    clear h5 w2 w3 hc0
    simp [takQ, takT, takL, lenOf] at kq kt kl hlen hq h2 q1 ⊢
    have h3 : 6 < c.length := by omega
    rw [kq, Int.min_eq_left (by omega)] at kl
    refine ⟨kq, kt, ?_⟩
    rw [if_pos h3, kq, kl]
  · have h2 := (e2 rfl).1
    clear h5 w2 w3 hc0
    simp [takQ, takT, takL, lenOf] at kq kt kl hlen hq h2 q1 ⊢
    have h3 : 6 < c.length := by omega
    rw [kq, Int.min_eq_left (by omega)] at kl
    refine ⟨kq, kt, ?_⟩
    rw [if_pos h3]
    unfold unwordsL
    rw [List.length_drop, wordsAt_drop, show (c.length - 6) / 2 = qt.toNat by omega, kl]
  · clear hlen h5 w2 w3
    simp [takQ, takT, takL] at kq kt kl ⊢
    refine ⟨kq, kt, ?_⟩
    rw [← kl]
    rfl
  · have h2 := e3 (by simp) (by simp) (by simp)
    have w4 := w3 rfl
    clear h5 w2 w3 hc0
    simp [takQ, takT, takL, lenOf] at kq kt kl hlen hq h2 q1 ⊢
    have h3 : 10 < c.length := by omega
    rw [w4, Int.min_eq_left (by omega), Int.toNat_natCast] at kl
    refine ⟨kq, ?_, ?_⟩
    · rw [if_pos h3, kt]
    · rw [if_pos h3]
      unfold unwordsL
      rw [List.length_drop, wordsAt_drop, show (c.length - 10) / 2 = xs.length by omega, kl]
theorem codedL_bytes {s : Shape} {fc ad qt to : Int} {xs : List Int} (hs : shapeOf fc = some s) (h : holdsB s ad qt to xs = true) : ByteL (codedL s fc ad qt to xs) := by
  refine rng_of (by omega) (by omega) fun y hy => ?_
  rw [codedL_tail] at hy
  obtain ⟨-, -, ⟨q0, q1⟩, -, -, f0, f1, f2, f3⟩ := holds_parts h
  rcases List.mem_append.1 hy with hy | hy
  · rw [List.mem_singleton] at hy; omega
  rcases List.mem_append.1 hy with hy | hy
  · exact hiLo_bytes _ _ hy
  rcases shape_cases hs with ⟨_, rfl⟩ | ⟨_, rfl⟩ | ⟨_, rfl⟩ | ⟨_, rfl⟩ | ⟨_, rfl⟩ | ⟨_, rfl⟩ | ⟨_, rfl⟩ | ⟨_, rfl⟩
  all_goals
    simp only [Int.reduceEq, if_true, if_false, Bool.false_eq_true, List.mem_append, List.mem_singleton, List.not_mem_nil, or_false] at hy
  · exact hiLo_bytes _ _ hy
  · exact hiLo_bytes _ _ hy
  · exact hiLo_bytes _ _ hy
  · exact wordsL_bytes _ _ hy
  · have := (f2 rfl).1
    simp only at q1
    rcases hy with hy | hy | hy
    · exact hiLo_bytes _ _ hy
    · omega
    · exact bitsL_bytes _ _ hy
  · have := (f2 rfl).1
    simp only at q1
    rcases hy with hy | hy | hy
    · exact hiLo_bytes _ _ hy
    · omega
    · exact wordsL_bytes _ _ hy
  · exact wordsL_bytes _ _ hy
  · have := f3 (by decide) (by decide) (by decide)
    simp only at this
    rcases hy with hy | hy | hy | hy | hy
    · exact hiLo_bytes _ _ hy
    · exact hiLo_bytes _ _ hy
    · exact hiLo_bytes _ _ hy
    · omega
    · exact wordsL_bytes _ _ hy
theorem refRead_range (l : List Int) (hl : ByteL l) : ∀ j : Nat, 0 ≤ (refReadR l).xs[j]?.getD 0 ∧ (refReadR l).xs[j]?.getD 0 ≤ 65535 := by
  have h0 : ∀ y ∈ ([] : List Int), 0 ≤ y ∧ y ≤ 65535 := fun y h => by cases h
  have hu : ∀ b n, ByteL b → ∀ y ∈ unbitsL b n, 0 ≤ y ∧ y ≤ 65535 := fun b n hb y hy => by
    unfold unbitsL at hy
    obtain ⟨i, -, rfl⟩ := List.mem_map.1 hy
    split <;> omega
  have hw : ∀ b, ByteL b → ∀ y ∈ unwordsL b, 0 ≤ y ∧ y ≤ 65535 := fun b hb y hy => by
    unfold unwordsL wordsAt at hy
    obtain ⟨i, -, rfl⟩ := List.mem_map.1 hy
    exact wordAt_range b hb _
  have hd : ∀ n, ByteL (l.drop n) := fun n j => by rw [List.getElem?_drop]; exact hl _
  have a3 := wordAt_range l hl 3
  have a5 := wordAt_range l hl 5
  refine rng_of (by omega) (by omega) fun y hy => ?_
  unfold refReadR at hy
  dsimp only at hy
  split at hy
  · simp only [List.mem_singleton] at hy; subst hy; split <;> omega
  split at hy
  · simp only [List.mem_singleton] at hy; omega
  split at hy
  · simp only [List.mem_cons, List.not_mem_nil, or_false] at hy; omega
  split at hy
  · exact hu _ _ (hd _) y hy
  split at hy
  · exact hw _ (hd _) y hy
  split at hy
  · exact hw _ (hd _) y hy
  · exact h0 y hy
/-- What the reference gets. -/
def refGetR (l : List Int) : Rq × Int :=
  if l.length = 0 then (Rq.none, 1) else match shapeOf (l.getD 0 0) with
  | none => (Rq.none, 1)
  | some s => if (holdsB s (refReadR l).ad (refReadR l).qt (refReadR l).to (refReadR l).xs && ((strOfNums (codedL s (refReadR l).fc (refReadR l).ad (refReadR l).qt (refReadR l).to (refReadR l).xs)).toList == (strOfNums l).toList)) = true
      then (if fitsB (refReadR l).ad (refReadR l).qt (refReadR l).to (refReadR l).xs.length then (refReadR l, 0) else (Rq.none, 2)) else (Rq.none, 3)
theorem refGet_eq (l : List Int) (hl : ByteL l) : refGetR l = getR l := by
  unfold refGetR getR
  by_cases h0 : l.length = 0
  · rw [if_pos h0, if_pos h0]
  rw [if_neg h0, if_neg h0]
  cases hs : shapeOf (l.getD 0 0) with
  | none => rfl
  | some s =>
    dsimp only
    have hfc : (refReadR l).fc = l.getD 0 0 := rfl
    have hrr := refRead_range l hl
    by_cases hc : (holdsB s (refReadR l).ad (refReadR l).qt (refReadR l).to (refReadR l).xs && ((strOfNums (codedL s (refReadR l).fc (refReadR l).ad (refReadR l).qt (refReadR l).to (refReadR l).xs)).toList == (strOfNums l).toList)) = true
    · rw [if_pos hc]
      rw [Bool.and_eq_true, beq_iff_eq] at hc
      have he := nums_inj (codedL_bytes (by rw [hfc]; exact hs) hc.1) hl hc.2
      have k := coded_taken s (refReadR l).fc _ _ _ _ (by rw [hfc]; exact hs) hc.1 hrr
      rw [he] at k
      have hg : gotB s l = true := by
        unfold gotB
        rw [k.b, k.q, k.t, k.l, ← hfc, he, hc.1, Bool.true_and, beq_self_eq_true]
      rw [if_pos hg, k.b, k.q, k.t, k.l]
      have ht : takR s l = refReadR l := by unfold takR; rw [k.b, k.q, k.t, k.l, ← hfc]
      rw [ht]
    · have hg : gotB s l = false := by
        cases hg : gotB s l
        · rfl
        · exfalso
          unfold gotB at hg
          rw [Bool.and_eq_true, beq_iff_eq] at hg
          have he := nums_inj (codedL_bytes hs hg.1) hl hg.2
          have hR := read_coded hs hg.1 (takL_range s l hl)
          rw [he] at hR
          apply hc
          rw [hR]
          dsimp only
          rw [hg.1, he, Bool.true_and, beq_self_eq_true]
      rw [if_neg hc, if_neg (by rw [hg]; decide)]
end Go.Proofs.Ytgagpalffdgjnaa
