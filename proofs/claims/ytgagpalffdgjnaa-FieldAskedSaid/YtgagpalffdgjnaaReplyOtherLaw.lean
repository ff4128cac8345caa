/- Layer 5, plain: what bytes of an answer to one request tell of another one. -/
import Derived.Test.YtgagpalffdgjnaaG15
namespace Go.Proofs.Ytgagpalffdgjnaa
open Go.RowKit

theorem nums_inj {a b : List Int} (ha : ByteL a) (hb : ByteL b) (h : (strOfNums a).toList = (strOfNums b).toList) : a = b := by
  have e1 : (strOfNums a).data.toList = (strOfNums b).data.toList := by rw [← ByteArray.toList_eq, ← ByteArray.toList_eq]; exact h
  rw [strOfNums_data, strOfNums_data] at e1
  have hl : a.length = b.length := by have := congrArg List.length e1; simpa using this
  apply List.ext_getElem?
  intro i
  by_cases hi : i < a.length
  · have h1 := ha i
    have h2 := hb i
    have e2 := congrArg (fun l : List UInt8 => l[i]?) e1
    simp only [List.getElem?_map] at e2
    have ea : a[i]? = some a[i] := List.getElem?_eq_getElem hi
    have eb : b[i]? = some b[i] := List.getElem?_eq_getElem (by omega)
    rw [ea, eb] at e2 ⊢
    rw [ea] at h1
    rw [eb] at h2
    simp only [Option.map_some, Option.some.injEq, Option.getD_some] at e2 h1 h2 ⊢
    have e3 := congrArg UInt8.toNat e2
    rw [UInt8.toNat_ofNat', UInt8.toNat_ofNat'] at e3
    omega
  · rw [List.getElem?_eq_none (by omega), List.getElem?_eq_none (by omega)]
theorem repR_bytes {fc ad qt to code : Int} {xs ys : List Int} (h : ansR fc ad qt to xs code ys = true) : ByteL (repR fc ad qt to xs code ys) := by
  have := rputL_bytes fc ad qt to xs code ys
  unfold rputL at this
  rw [if_pos h] at this
  exact this
section
variable {fc ad qt to fc' ad' qt' to' : Int} {xs xs' ys : List Int} (h : ansR fc ad qt to xs 0 ys = true) (hr : rightB' fc' ad' qt' to' xs' = true)
include h hr
/-- What another request makes of an answer's bytes: nothing, or an answer of the very bytes. -/
theorem other_or (_hyr : ∀ j : Nat, 0 ≤ ys[j]?.getD 0 ∧ ys[j]?.getD 0 ≤ 65535) : (rgetR fc' ad' qt' to' xs' (repR fc ad qt to xs 0 ys)).2.2 = 51 ∨
    (rgetR fc' ad' qt' to' xs' (repR fc ad qt to xs 0 ys)).2.2 = 0 ∧ ∃ vs, ansR fc' ad' qt' to' xs' 0 vs = true ∧ repR fc' ad' qt' to' xs' 0 vs = repR fc ad qt to xs 0 ys := by
  rcases rgot_any fc' ad' qt' to' xs' (repR fc ad qt to xs 0 ys) with h1 | ⟨h1, h2, h3⟩
  · exact .inl h1.1
  · have e := nums_inj (repR_bytes h1) (repR_bytes h) h2
    rcases h3 with ⟨h3, h4⟩ | ⟨h3, h4⟩
    · exfalso
      obtain ⟨s, hs, -, -⟩ := right_parts (ans_parts h).1
      obtain ⟨s', hs', -, -⟩ := right_parts hr
      obtain ⟨f1, f2, f3, f4⟩ := shape_hi hs
      obtain ⟨g1, g2, g3, g4⟩ := shape_hi hs'
      have e0 := rep_first h
      rw [← e] at e0
      have e1 : ∀ c vs, c ≠ 0 → (repR fc' ad' qt' to' xs' c vs).getD 0 0 = orHi (fc' % 256) := fun c vs hc => by unfold repR repL; rw [if_pos hc]; rfl
      rw [e1 _ _ h4] at e0
      rw [e0, ← f1, f4] at g3
      cases g3
    · rw [h4] at h1 e
      exact .inr ⟨h3, _, h1, e⟩
theorem other_fc (hyr : ∀ j : Nat, 0 ≤ ys[j]?.getD 0 ∧ ys[j]?.getD 0 ≤ 65535) (hne : fc ≠ fc') : (rgetR fc' ad' qt' to' xs' (repR fc ad qt to xs 0 ys)).2.2 = 51 := by
  rcases other_or h hr hyr with e | ⟨-, vs, h1, e⟩
  · exact e
  · have a := rep_first h
    have b := rep_first h1
    rw [e] at b
    exact absurd (a.symm.trans b) hne
end
theorem rep_reads {fc ad qt to : Int} {xs ys : List Int} (hb : readsB fc = true) : repR fc ad qt to xs 0 ys = [fc % 256, ((bodyL (readsBits fc) ys).length : Int) % 256] ++ bodyL (readsBits fc) ys := by
  unfold repR repL; rw [if_neg (by simp), hb, if_pos rfl]
theorem other_reads {fc ad qt to ad' to' : Int} {xs xs' ys : List Int} (h : ansR fc ad qt to xs 0 ys = true) (hr : rightB' fc ad' qt to' xs' = true) (hb : readsB fc = true) (hyr : ∀ j : Nat, 0 ≤ ys[j]?.getD 0 ∧ ys[j]?.getD 0 ≤ 65535) :
    (rgetR fc ad' qt to' xs' (repR fc ad qt to xs 0 ys)).2.2 = 0 := by
  have h' : ansR fc ad' qt to' xs' 0 ys = true := by
    unfold ansR ansB at h ⊢
    rw [(ans_parts h).1] at h
    rw [hr]
    exact h
  rw [rep_reads hb, ← rep_reads (ad := ad') (qt := qt) (to := to') (xs := xs') hb, rget_rput h' hyr]
  rfl
theorem other_short {fc ad qt to ad' qt' to' : Int} {xs xs' ys : List Int} (h : ansR fc ad qt to xs 0 ys = true) (hr : rightB' fc ad' qt' to' xs' = true) (hb : readsB fc = true) (hyr : ∀ j : Nat, 0 ≤ ys[j]?.getD 0 ∧ ys[j]?.getD 0 ≤ 65535)
    (hq : (if readsBits fc then (qt + 7) / 8 else 2 * qt) ≠ (if readsBits fc then (qt' + 7) / 8 else 2 * qt')) : (rgetR fc ad' qt' to' xs' (repR fc ad qt to xs 0 ys)).2.2 = 51 := by
  rcases other_or h hr hyr with e | ⟨-, vs, h1, e⟩
  · exact e
  · have a := (rep_length h).2.1 rfl hb
    have b := (rep_length h1).2.1 rfl hb
    rw [e] at b
    omega
/-- What is written by requests of one kind: their answers' bytes are alike just if they are. -/
theorem writes_nil {fc ad qt to : Int} {xs ys : List Int} (h : ansR fc ad qt to xs 0 ys = true) (hb : readsB fc = false) : ys = [] := by
  have := ((ans_parts h).2.2 rfl).1
  rw [hb, if_neg (by decide)] at this
  exact List.length_eq_zero_iff.1 (by omega)
theorem writes_rep {fc ad qt to : Int} {xs : List Int} (hb : readsB fc = false) : repR fc ad qt to xs 0 [] = if fc = 15 ∨ fc = 16 then (putL fc ad qt to xs).take 5 else putL fc ad qt to xs := by
  unfold repR repL; rw [if_neg (by simp), hb, if_neg (by decide)]
theorem right_coded {fc ad qt to : Int} {xs : List Int} (h : rightB' fc ad qt to xs = true) (hr : ∀ j : Nat, 0 ≤ xs[j]?.getD 0 ∧ xs[j]?.getD 0 ≤ 65535) : ∃ s, shapeOf fc = some s ∧ holdsB s ad qt to xs = true ∧ putL fc ad qt to xs = codedL s fc ad qt to xs ∧ CodedTaken s fc ad qt to xs (putL fc ad qt to xs) := by
  obtain ⟨s, hs, h1, h2⟩ := right_parts h
  have hput : putL fc ad qt to xs = codedL s fc ad qt to xs := by unfold putL; rw [hs]; dsimp only; rw [h1, h2, Bool.and_self, if_pos rfl]
  exact ⟨s, hs, h1, hput, by rw [hput]; exact coded_taken s fc ad qt to xs hs h1 hr⟩
theorem alike_iff {fc ad qt to ad' qt' to' : Int} {xs xs' : List Int} (h : rightB' fc ad qt to xs = true) (h' : rightB' fc ad' qt' to' xs' = true) (hb : readsB fc = false) (hr : ∀ j : Nat, 0 ≤ xs[j]?.getD 0 ∧ xs[j]?.getD 0 ≤ 65535) (hr' : ∀ j : Nat, 0 ≤ xs'[j]?.getD 0 ∧ xs'[j]?.getD 0 ≤ 65535) :
    repR fc ad' qt' to' xs' 0 [] = repR fc ad qt to xs 0 [] ↔ ad = ad' ∧ qt = qt' ∧ (fc = 15 ∨ fc = 16 ∨ xs = xs') := by
  obtain ⟨s, hs, hh, hp, k⟩ := right_coded h hr
  obtain ⟨s', hs', hh', hp', k'⟩ := right_coded h' hr'
  rw [hs] at hs'
  injection hs' with hs'
  subst hs'
  have l5 := right_five h
  have l5' := right_five h'
  obtain ⟨-, -, -, hq, ht, -, -, -, -⟩ := holds_parts hh
  obtain ⟨-, -, -, hq', ht', -, -, -, -⟩ := holds_parts hh'
  rw [writes_rep hb, writes_rep hb]
  by_cases h15 : fc = 15 ∨ fc = 16
  · rw [if_pos h15, if_pos h15]
    have hf : s.form = 2 := by
      rcases shape_cases hs with ⟨e, rfl⟩ | ⟨e, rfl⟩ | ⟨e, rfl⟩ | ⟨e, rfl⟩ | ⟨e, rfl⟩ | ⟨e, rfl⟩ | ⟨e, rfl⟩ | ⟨e, rfl⟩ <;> first | rfl | (exfalso; omega)
    constructor
    · intro e
      have a1 := wordAt_take (putL fc ad qt to xs) 5 1 l5
      have a2 := wordAt_take (putL fc ad' qt' to' xs') 5 1 l5'
      have b1 := wordAt_take (putL fc ad qt to xs) 5 3 l5
      have b2 := wordAt_take (putL fc ad' qt' to' xs') 5 3 l5'
      rw [e] at a2 b2
      rw [if_neg (by omega)] at a1 a2 b1 b2
      rw [k.b] at a1
      rw [k'.b] at a2
      rw [k.w2 hf] at b1
      rw [k'.w2 hf] at b2
      exact ⟨a1.symm.trans a2, b1.symm.trans b2, by omega⟩
    · rintro ⟨rfl, rfl, -⟩
      rw [hp, hp', codedL_tail, codedL_tail]
      have hf0 : ¬ s.form = 0 := by omega
      have hf1 : ¬ s.form = 1 := by omega
      rw [if_neg hf0, if_neg hf1, if_pos hf, if_neg hf0, if_neg hf1, if_pos hf]
      rfl
  · rw [if_neg h15, if_neg h15]
    have hf : s.form = 1 := by
      rcases shape_cases hs with ⟨e, rfl⟩ | ⟨e, rfl⟩ | ⟨e, rfl⟩ | ⟨e, rfl⟩ | ⟨e, rfl⟩ | ⟨e, rfl⟩ | ⟨e, rfl⟩ | ⟨e, rfl⟩
      all_goals
        first
          | rfl
          | (exfalso; omega)
          | (exfalso; rw [(kinds_of hs).1] at hb; exact absurd hb (by decide))
    have q0 := hq.2 hf
    have q0' := hq'.2 hf
    have t0 := ht (by omega)
    have t0' := ht' (by omega)
    constructor
    · intro e
      have a1 := k.b
      have a2 := k'.b
      have b1 := k.l
      have b2 := k'.l
      rw [e] at a2 b2
      exact ⟨a1.symm.trans a2, by omega, .inr (.inr (b1.symm.trans b2))⟩
    · rintro ⟨rfl, -, h3⟩
      have : xs = xs' := by rcases h3 with h3 | h3 | h3; exact absurd (.inl h3) h15; exact absurd (.inr h3) h15; exact h3
      subst this q0 q0' t0 t0'
      rfl
/-- What the law asks of the error. -/
theorem other_facts {fc ad qt to fc' ad' qt' to' : Int} {xs xs' ys : List Int} (ha : ansR fc ad qt to xs 0 ys = true) (hq : rightB' fc ad qt to xs = true) (hq2 : rightB' fc' ad' qt' to' xs' = true) (hr : ∀ j : Nat, 0 ≤ xs[j]?.getD 0 ∧ xs[j]?.getD 0 ≤ 65535) (hr2 : ∀ j : Nat, 0 ≤ xs'[j]?.getD 0 ∧ xs'[j]?.getD 0 ≤ 65535)
    (hyr : ∀ j : Nat, 0 ≤ ys[j]?.getD 0 ∧ ys[j]?.getD 0 ≤ 65535) :
    (fc ≠ fc' → (rgetR fc' ad' qt' to' xs' (repR fc ad qt to xs 0 ys)).2.2 = 51) ∧
    (fc = fc' → readsB fc = true → readsBits fc = true → (qt = qt' → (rgetR fc' ad' qt' to' xs' (repR fc ad qt to xs 0 ys)).2.2 = 0) ∧ ((qt + 7) / 8 ≠ (qt' + 7) / 8 → (rgetR fc' ad' qt' to' xs' (repR fc ad qt to xs 0 ys)).2.2 = 51)) ∧
    (fc = fc' → readsB fc = true → readsBits fc = false → ((rgetR fc' ad' qt' to' xs' (repR fc ad qt to xs 0 ys)).2.2 = 0 ↔ qt = qt')) ∧
    (fc = fc' → readsB fc = false → ((rgetR fc' ad' qt' to' xs' (repR fc ad qt to xs 0 ys)).2.2 = 0 ↔ ad = ad' ∧ qt = qt' ∧ (fc = 15 ∨ fc = 16 ∨ xs = xs')) ∧ True) := by
  refine ⟨fun hf => other_fc ha hq2 hyr hf, fun hf hb hbb => ?_, fun hf hb hbb => ?_, fun hf hb => ?_⟩
  · subst hf
    refine ⟨fun e => ?_, fun e => other_short ha hq2 hb hyr (by rw [hbb, if_pos rfl, if_pos rfl]; exact e)⟩
    subst e
    exact other_reads ha hq2 hb hyr
  · subst hf
    constructor
    · intro e
      by_cases h : qt = qt'
      · exact h
      · have := other_short ha hq2 hb hyr (by rw [hbb, if_neg (by decide), if_neg (by decide)]; omega)
        rw [this] at e
        cases e
    · intro e
      subst e
      exact other_reads ha hq2 hb hyr
  · subst hf
    have ey := writes_nil ha hb
    subst ey
    have hiff := alike_iff hq hq2 hb hr hr2
    refine ⟨⟨fun e => ?_, fun hh => ?_⟩, trivial⟩
    · rcases other_or ha hq2 hyr with e' | ⟨-, vs, h1, e'⟩
      · rw [e'] at e; cases e
      · have := writes_nil h1 hb
        subst this
        exact hiff.1 e'
    · have e := hiff.2 hh
      have h9 : ansR fc ad' qt' to' xs' 0 [] = true := by
        have h8 := ha
        unfold ansR ansB at h8 ⊢
        rw [hq] at h8
        rw [hq2]
        rw [hb] at h8 ⊢
        exact h8
      have := rget_rput h9 hyr
      rw [e] at this
      rw [this]
      rfl
end Go.Proofs.Ytgagpalffdgjnaa
