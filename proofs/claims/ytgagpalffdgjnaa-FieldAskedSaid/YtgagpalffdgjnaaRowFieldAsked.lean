/- The law FieldAsked: for every input it answers true, and its arguments read as they did. Without a condition. -/
import Derived.Test.YtgagpalffdgjnaaFieldAsked
import Derived.Test.YtgagpalffdgjnaaG17
import Derived.Test.YtgagpalffdgjnaaG62
namespace Go.Proofs.Ytgagpalffdgjnaa.rowFieldAsked
open Go.ChangeShapes Go.WideShapes Go.ChangeAt Go.RowKit Go.Deep
open Go.ChangeMaps (open_string shut_string)

set_option linter.unusedVariables false
set_option maxRecDepth 100000 in
theorem lifted (os : Os) (started : os.Started) (H : Type) (enc : TypeId × Value → H) :
    ReturnsInHanded {} Try.checked os 6 .any (Rows.fieldAskedSpec.pre6 enc Try.prog Try.f6 Rows.fieldAskedRow.domain false) (Rows.fieldAskedSpec.post enc Try.prog Try.f6 false true false false) := by
  refine returnsInHanded_of_change_sized (C := Try.checked) rowOwn started (by kernel_rfl) Try.func6
    (ChangeSpec.witness6 (enc := enc) (C := Try.checked) false ⟨#[], #[.int .u8 0, .int .u8 0, .slice none 0 0, .slice none 0 0, .slice none 0 0], []⟩ 8 (by kernel_rfl) (by kernel_rfl) (by kernel_rfl) (by kernel_rfl)) ?_
  intro W base args ds gs before hval0 hW hcnd hsz0 _
  have hval : ∀ (j : Nat) t v, Try.f6.params[j]? = some t → args[j]? = some v → Value.okWide Try.prog W .any base t v := hval0
  have hsz : (DataW.weightsEach Try.prog (Try.f6.params.toList ++ Rows.fieldAskedSpec.plain.varTypes Try.prog) (ds ++ gs)).all (· ≤ reachBytes) = true := hsz0
  have hW' := hW
  obtain ⟨p, q, hA0, hV, rfl, hfz, hnd⟩ := hW
  have hA : DataW.TrodAll enc Try.prog W 0 (fun _ => true) true Try.f6.params.toList args.toList ds p := hA0
  rw [Try.params6] at hA hval hsz
  obtain ⟨v0, vs0, d0, ds0, p0, q0, hargs, rfl, rfl, h0, r0⟩ := trodAll_cons hA
  obtain ⟨v1, vs1, d1, ds1, p1, q1, rfl, rfl, rfl, h1, r1⟩ := trodAll_cons r0
  obtain ⟨v2, vs2, d2, ds2, p2, q2, rfl, rfl, rfl, h2, r2⟩ := trodAll_cons r1
  obtain ⟨v3, vs3, d3, ds3, p3, q3, rfl, rfl, rfl, h3, r3⟩ := trodAll_cons r2
  obtain ⟨v4, vs4, d4, ds4, p4, q4, rfl, rfl, rfl, h4, r4⟩ := trodAll_cons r3
  obtain ⟨rfl, rfl, rfl⟩ := trodAll_nil r4
  obtain rfl : args = #[v0, v1, v2, v3, v4] := by cases args; simp_all
  obtain ⟨rfl, rfl⟩ := trodVars_none hV
  have k0 := h0
  have lt0 : ∀ x ∈ p0, x.block < W.heap.size := by obtain ⟨m, hm⟩ := k0; exact DataW.trod_lt m _ _ _ hm
  have z0 : ∀ m ∈ d0.weights Try.prog 5, m ≤ reachBytes := fun m hm => by
    have := List.all_eq_true.1 hsz m (DataW.weights_mem_each (j := 0) rfl rfl m hm); simpa using this
  obtain ⟨x0, rfl, rfl, rfl, w0⟩ := open_int Try.underlying5 (hval 0 5 v0 rfl rfl) h0
  have b0 := bounds_u8 w0
  have k1 := h1
  have lt1 : ∀ x ∈ p1, x.block < W.heap.size := by obtain ⟨m, hm⟩ := k1; exact DataW.trod_lt m _ _ _ hm
  have z1 : ∀ m ∈ d1.weights Try.prog 5, m ≤ reachBytes := fun m hm => by
    have := List.all_eq_true.1 hsz m (DataW.weights_mem_each (j := 1) rfl rfl m hm); simpa using this
  obtain ⟨x1, rfl, rfl, rfl, w1⟩ := open_int Try.underlying5 (hval 1 5 v1 rfl rfl) h1
  have b1 := bounds_u8 w1
  have k2 := h2
  have lt2 : ∀ x ∈ p2, x.block < W.heap.size := by obtain ⟨m, hm⟩ := k2; exact DataW.trod_lt m _ _ _ hm
  have z2 : ∀ m ∈ d2.weights Try.prog 22, m ≤ reachBytes := fun m hm => by
    have := List.all_eq_true.1 hsz m (DataW.weights_mem_each (j := 2) rfl rfl m hm); simpa using this
  obtain ⟨a2, len2, cap2, rfl⟩ := okWide_slice Try.underlying22 (hval 2 22 v2 rfl rfl)
  obtain ⟨fuel2, hf2⟩ := h2
  obtain ⟨A2, c2, us2, hcs2, hm2, hr2, hB2⟩ := openBoolsC hf2
  simp only [Value.cells, List.cons.injEq, Value.slice.injEq, and_true] at hcs2
  obtain ⟨rfl, rfl, rfl⟩ := hcs2
  have k3 := h3
  have lt3 : ∀ x ∈ p3, x.block < W.heap.size := by obtain ⟨m, hm⟩ := k3; exact DataW.trod_lt m _ _ _ hm
  have z3 : ∀ m ∈ d3.weights Try.prog 61, m ≤ reachBytes := fun m hm => by
    have := List.all_eq_true.1 hsz m (DataW.weights_mem_each (j := 3) rfl rfl m hm); simpa using this
  obtain ⟨a3, len3, cap3, rfl⟩ := okWide_slice Try.underlying61 (hval 3 61 v3 rfl rfl)
  obtain ⟨fuel3, hf3⟩ := h3
  obtain ⟨A3, n3, c3, ps3, hcs3, hc3, hm3, hr3⟩ := openReqs hf3
  simp only [Value.cells, List.cons.injEq, Value.slice.injEq, and_true] at hcs3
  obtain ⟨rfl, rfl, rfl⟩ := hcs3
  have k4 := h4
  have lt4 : ∀ x ∈ p4, x.block < W.heap.size := by obtain ⟨m, hm⟩ := k4; exact DataW.trod_lt m _ _ _ hm
  have z4 : ∀ m ∈ d4.weights Try.prog 34, m ≤ reachBytes := fun m hm => by
    have := List.all_eq_true.1 hsz m (DataW.weights_mem_each (j := 4) rfl rfl m hm); simpa using this
  obtain ⟨a4, len4, cap4, rfl⟩ := okWide_slice Try.underlying34 (hval 4 34 v4 rfl rfl)
  obtain ⟨fuel4, hf4⟩ := h4
  obtain ⟨A4, n4, c4, xs4, hcs4, hc4, hm4, hr4, hw4, hR4⟩ := openSl Try.underlying34 Try.underlying5 (by kernel_rfl) hf4
  simp only [Value.cells, List.cons.injEq, Value.slice.injEq, and_true] at hcs4
  obtain ⟨rfl, rfl, rfl⟩ := hcs4
  have hb4 : len4 ≤ 140737488351232 := by
    have := hR4 reachBytes z4
    have e : Try.prog.bytesOf 5 = 1 := by kernel_rfl
    rw [e] at this; unfold reachBytes at this; omega
  clear hA0 hval0
  refine (fieldAsked_any x0 x1 a2 a3 a4 cap2 len3 cap3 len4 cap4 us2 ps3 xs4 W b0.1 b1.1 hr2 hr3 hr4 (range_u8 hw4)).mono fun e W' ⟨he, bel⟩ => ?_
  subst he
  exact ⟨_, rfl, _, _, _, [], _, [], hW', trodAll_mk1 (shut_bool Try.underlying4 _), (trodAll_cons_mk (Below.trod rowLaid (by kernel_rfl) (of_decide_eq_true (by kernel_rfl)) k0 bel lt0) (trodAll_cons_mk (Below.trod rowLaid (by kernel_rfl) (of_decide_eq_true (by kernel_rfl)) k1 bel lt1) (trodAll_cons_mk (Below.trod rowLaid (by kernel_rfl) (of_decide_eq_true (by kernel_rfl)) k2 bel lt2) (trodAll_cons_mk (Below.trod rowLaid (by kernel_rfl) (of_decide_eq_true (by kernel_rfl)) k3 bel lt3) (trodAll_cons_mk (Below.trod rowLaid (by kernel_rfl) (of_decide_eq_true (by kernel_rfl)) k4 bel lt4) trodAll_mk0))))), rfl, bel.frame _, fun h => by cases h⟩

theorem over : Rows.fieldAskedRow.holds Try.pinned (OpenSpec.ofChange Rows.fieldAskedSpec) :=
  OpenClaim.holds_of_wide 6 Try.f6 rfl rfl rfl rfl rfl rfl rfl ⟨rfl, rfl, rfl, rfl, rfl⟩ rfl rfl rfl rfl rfl (by kernel_rfl) Try.func6 (by kernel_rfl)
    (of_decide_eq_true (by kernel_rfl)) (by unfold Func.isWrapper; first | (rw [if_pos (by decide +kernel)]; kernel_rfl) | (rw [if_neg (by decide +kernel)]; exact ⟨rfl, rfl⟩))
    (fun os started H enc _ => lifted os started H enc)
end Go.Proofs.Ytgagpalffdgjnaa.rowFieldAsked
namespace Go.Proofs.Ytgagpalffdgjnaa
theorem fieldAsked_holds : Rows.FieldAskedSaid := rowFieldAsked.over
#print axioms fieldAsked_holds
end Go.Proofs.Ytgagpalffdgjnaa
