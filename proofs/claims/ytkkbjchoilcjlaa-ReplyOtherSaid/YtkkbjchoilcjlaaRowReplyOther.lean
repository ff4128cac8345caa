/- The law ReplyOther: for every input it answers true, and its arguments read as they did. Without a condition. -/
import Derived.Test.YtkkbjchoilcjlaaReplyOther
import Derived.Test.YtkkbjchoilcjlaaOpen
import Derived.Test.YtkkbjchoilcjlaaOpenReq
import Derived.Test.YtkkbjchoilcjlaaOpenRep
namespace Go.Proofs.Ytkkbjchoilcjlaa.rowReplyOther
open Go.ChangeShapes Go.WideShapes Go.ChangeAt Go.RowKit Go.Deep
open Go.ChangeMaps (open_string shut_string)

set_option linter.unusedVariables false
set_option maxRecDepth 100000 in
theorem lifted (os : Os) (started : os.Started) (H : Type) (enc : TypeId × Value → H) :
    ReturnsInHanded {} Try.checked os 12 .any (Rows.replyOtherSpec.pre6 enc Try.prog Try.f12 Rows.replyOtherRow.domain false) (Rows.replyOtherSpec.post enc Try.prog Try.f12 false true false false) := by
  refine returnsInHanded_of_change_sized (C := Try.checked) rowOwn started (by kernel_rfl) Try.func12
    (ChangeSpec.witness6 (enc := enc) (C := Try.checked) false ⟨#[], #[.agg #[.int .i64 0, .int .i64 0, .int .i64 0, .slice none 0 0, .int .i64 0], .agg #[.int .i64 0, .int .i64 0, .int .i64 0, .slice none 0 0, .int .i64 0], .agg #[.int .i64 0, .slice none 0 0]], []⟩ 8 (by kernel_rfl) (by kernel_rfl) (by kernel_rfl) (by kernel_rfl)) ?_
  intro W base args ds gs before hval0 hW hcnd hsz0 _
  have hval : ∀ (j : Nat) t v, Try.f12.params[j]? = some t → args[j]? = some v → Value.okWide Try.prog W .any base t v := hval0
  have hsz : (DataW.weightsEach Try.prog (Try.f12.params.toList ++ Rows.replyOtherSpec.plain.varTypes Try.prog) (ds ++ gs)).all (· ≤ reachBytes) = true := hsz0
  have hW' := hW
  obtain ⟨p, q, hA0, hV, rfl, hfz, hnd⟩ := hW
  have hA : DataW.TrodAll enc Try.prog W 0 (fun _ => true) true Try.f12.params.toList args.toList ds p := hA0
  rw [Try.params12] at hA hval hsz
  obtain ⟨v0, vs0, d0, ds0, p0, q0, hargs, rfl, rfl, h0, r0⟩ := trodAll_cons hA
  obtain ⟨v1, vs1, d1, ds1, p1, q1, rfl, rfl, rfl, h1, r1⟩ := trodAll_cons r0
  obtain ⟨v2, vs2, d2, ds2, p2, q2, rfl, rfl, rfl, h2, r2⟩ := trodAll_cons r1
  obtain ⟨rfl, rfl, rfl⟩ := trodAll_nil r2
  obtain rfl : args = #[v0, v1, v2] := by cases args; simp_all
  obtain ⟨rfl, rfl⟩ := trodVars_none hV
  have k0 := h0
  have lt0 : ∀ x ∈ p0, x.block < W.heap.size := by obtain ⟨m, hm⟩ := k0; exact DataW.trod_lt m _ _ _ hm
  have z0 : ∀ m ∈ d0.weights Try.prog 34, m ≤ reachBytes := fun m hm => by
    have := List.all_eq_true.1 hsz m (DataW.weights_mem_each (j := 0) rfl rfl m hm); simpa using this
  obtain ⟨fuel0, hf0⟩ := h0
  obtain ⟨cs0, rfl, hcz0⟩ := okWide_struct Try.underlying34 (hval 0 34 v0 rfl rfl)
  obtain ⟨fc0, ad0, qt0, to0, A0, n0, c0, xs0, hcs0, hc0, hm0, hr0, hw0, ww0⟩ := openReq hf0
  obtain rfl : cs0 = _ := Array.toList_inj.1 hcs0
  have k1 := h1
  have lt1 : ∀ x ∈ p1, x.block < W.heap.size := by obtain ⟨m, hm⟩ := k1; exact DataW.trod_lt m _ _ _ hm
  have z1 : ∀ m ∈ d1.weights Try.prog 34, m ≤ reachBytes := fun m hm => by
    have := List.all_eq_true.1 hsz m (DataW.weights_mem_each (j := 1) rfl rfl m hm); simpa using this
  obtain ⟨fuel1, hf1⟩ := h1
  obtain ⟨cs1, rfl, hcz1⟩ := okWide_struct Try.underlying34 (hval 1 34 v1 rfl rfl)
  obtain ⟨fc1, ad1, qt1, to1, A1, n1, c1, xs1, hcs1, hc1, hm1, hr1, hw1, ww1⟩ := openReq hf1
  obtain rfl : cs1 = _ := Array.toList_inj.1 hcs1
  have k2 := h2
  have lt2 : ∀ x ∈ p2, x.block < W.heap.size := by obtain ⟨m, hm⟩ := k2; exact DataW.trod_lt m _ _ _ hm
  have z2 : ∀ m ∈ d2.weights Try.prog 50, m ≤ reachBytes := fun m hm => by
    have := List.all_eq_true.1 hsz m (DataW.weights_mem_each (j := 2) rfl rfl m hm); simpa using this
  obtain ⟨fuel2, hf2⟩ := h2
  obtain ⟨cs2, rfl, hcz2⟩ := okWide_struct Try.underlying50 (hval 2 50 v2 rfl rfl)
  obtain ⟨co2, A2, n2, c2, xs2, hcs2, hc2, hm2, hr2, hw2, ww2⟩ := openRep hf2
  obtain rfl : cs2 = _ := Array.toList_inj.1 hcs2
  clear hA0 hval0
  refine (replyOther_any fc0 ad0 qt0 to0 fc1 ad1 qt1 to1 co2 A0 A1 A2 n0 c0 n1 c1 n2 c2 xs0 xs1 xs2 W hr0 (range_u16 hw0) (Nat.le_trans hc0 hm0) hr1 (range_u16 hw1) (Nat.le_trans hc1 hm1) hr2 (range_u16 hw2) (Nat.le_trans hc2 hm2)).mono fun e W' ⟨he, bel⟩ => ?_
  subst he
  exact ⟨_, rfl, _, _, _, [], _, [], hW', trodAll_mk1 (shut_bool Try.underlying4 _), (trodAll_cons_mk (Below.trod rowLaid (by kernel_rfl) (of_decide_eq_true (by kernel_rfl)) k0 bel lt0) (trodAll_cons_mk (Below.trod rowLaid (by kernel_rfl) (of_decide_eq_true (by kernel_rfl)) k1 bel lt1) (trodAll_cons_mk (Below.trod rowLaid (by kernel_rfl) (of_decide_eq_true (by kernel_rfl)) k2 bel lt2) trodAll_mk0))), rfl, bel.frame _, fun h => by cases h⟩

theorem over : Rows.replyOtherRow.holds Try.pinned (OpenSpec.ofChange Rows.replyOtherSpec) :=
  OpenClaim.holds_of_wide 12 Try.f12 rfl rfl rfl rfl rfl rfl rfl ⟨rfl, rfl, rfl, rfl, rfl⟩ rfl rfl rfl rfl rfl (by kernel_rfl) Try.func12 (by kernel_rfl)
    (of_decide_eq_true (by kernel_rfl)) (by unfold Func.isWrapper; first | (rw [if_pos (by decide +kernel)]; kernel_rfl) | (rw [if_neg (by decide +kernel)]; exact ⟨rfl, rfl⟩))
    (fun os started H enc _ => lifted os started H enc)
end Go.Proofs.Ytkkbjchoilcjlaa.rowReplyOther
namespace Go.Proofs.Ytkkbjchoilcjlaa
theorem replyOther_holds : Rows.ReplyOtherSaid := rowReplyOther.over
#print axioms replyOther_holds
end Go.Proofs.Ytkkbjchoilcjlaa
