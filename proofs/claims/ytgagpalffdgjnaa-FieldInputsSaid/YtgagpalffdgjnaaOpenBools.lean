/- A slice of truths, opened. -/
import Derived.Test.YtgagpalffdgjnaaG17
namespace Go.Proofs.Ytgagpalffdgjnaa
open Go.ChangeShapes Go.WideShapes Go.ChangeAt Go.RowKit Go.Deep
def RdBs (w : World) (B : Nat) (A : Option Addr) (n : Nat) (vs : List Value) : Prop :=
  0 < n → ∃ b o, A = some ⟨b, o, none⟩ ∧ b < B ∧ ∀ j, j < vs.length → w.cell? ⟨b, o + j, none⟩ = vs[j]?
theorem RdBs.bool {w : World} {B : Nat} {A : Option Addr} {xs : List Bool} (h : RdBs w B A xs.length (xs.map Value.bool)) {j : Nat} (hj : j < xs.length) :
    ∃ b o, A = some ⟨b, o, none⟩ ∧ b < B ∧ w.cell? ⟨b, o + j, none⟩ = some (.bool (xs.getD j false)) := by
  obtain ⟨b, o, e, hb, hc⟩ := h (by omega)
  refine ⟨b, o, e, hb, ?_⟩
  rw [hc j (by rw [List.length_map]; exact hj), List.getElem?_map, List.getElem?_eq_getElem hj, List.getD_eq_getElem?_getD, List.getElem?_eq_getElem hj]
  rfl
section
variable {H : Type} {enc : TypeId × Value → H} {W : World} {base : Nat} {sp : Nat → Bool} {hd : Bool}
theorem openBoolsC {fuel : Nat} {cs : List Value} {x : DataW H × List MemPlace} (h : DataW.trod enc Try.prog W base sp hd fuel 22 cs = some x) :
    ∃ (A : Option Addr) (c : Nat) (xs : List Bool), cs = [.slice A xs.length c] ∧ xs.length ≤ maxLen ∧ RdBs W W.heap.size A xs.length (xs.map Value.bool) ∧ ∀ R, (∀ m ∈ x.1.weights Try.prog 22, m ≤ R) → xs.length ≤ R := by
  have hby : Try.prog.bytesOf 4 = 1 := by kernel_rfl
  obtain ⟨A, n, c, rfl, hnc, hcm, hel, hR⟩ := openElems (fun cs => ∃ b, cs = [.bool b]) 1 Try.underlying22 (by kernel_rfl) (by omega)
    (fun fuel cs x h => by obtain ⟨b, e, _⟩ := DataW.trod_bool Try.underlying4 h; exact ⟨b, e⟩) h
  have hch : ∀ j, j < n → ∃ v : Bool, ∃ b o, A = some ⟨b, o, none⟩ ∧ b < W.heap.size ∧ W.cell? ⟨b, o + j, none⟩ = some (.bool v) := fun j hj => by
    obtain ⟨b, o, e, hb, vs, _, ⟨v, e1⟩, hcell⟩ := hel j hj
    have := hcell 0 (by omega)
    rw [Nat.mul_one, Nat.add_zero, e1] at this
    exact ⟨v, b, o, e, hb, this⟩
  obtain ⟨f, hf⟩ := choose_lt hch
  have hl : ((List.range n).map f).length = n := by simp
  refine ⟨A, c, (List.range n).map f, by rw [hl], by omega, fun hn => ?_, fun R h => ?_⟩
  · rw [hl] at hn
    obtain ⟨b, o, e, hb, _⟩ := hf 0 hn
    refine ⟨b, o, e, hb, fun j hj => ?_⟩
    rw [List.length_map, hl] at hj
    obtain ⟨b', o', e', _, hc⟩ := hf j hj
    obtain ⟨rfl, rfl⟩ : b = b' ∧ o = o' := by have := e.symm.trans e'; simpa using this
    rw [hc]
    simp [hj]
  · have := hR R h
    rw [hby, Nat.mul_one] at this
    rw [hl]; exact this
end
end Go.Proofs.Ytgagpalffdgjnaa
