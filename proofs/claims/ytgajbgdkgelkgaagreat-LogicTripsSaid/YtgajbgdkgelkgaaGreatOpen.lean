/- Arguments opened: what a reading of a slice of numbers, of a string, of a number says of memory. -/
import Derived.Test.YtgajbgdkgelkgaaGreatRows
import Derived.Test.YtgajbgdkgelkgaaGreatWords
import Derived.ProofKit
import Derived.OpenShut
import Derived.ShutString
import Derived.ChangeOld
import Derived.SizedLaws
import Derived.Deep.Fields
namespace Go.Proofs.YtgajbgdkgelkgaaGreat
open Go.ChangeShapes Go.WideShapes Go.ChangeAt Go.RowKit Go.Deep

theorem rowOwn : ownKnob Tryz.prog.godebug = none := by kernel_rfl
theorem rowLaid : laidOutB Tryz.prog = true := by kernel_rfl

section
variable {H : Type} {enc : TypeId × Value → H} {P : Program} {W : World} {base : Nat} {sp : Nat → Bool} {hd : Bool}
theorem openSl {t e : TypeId} {k : IntKind} {fuel : Nat} {cs : List Value} {x : DataW H × List MemPlace} (ht : P.underlying t = some (.slice e)) (he : P.underlying e = some (.int k)) (hc : P.cellsOf e = 1)
    (h : DataW.trod enc P W base sp hd fuel t cs = some x) :
    ∃ (A : Option Addr) (n c : Nat) (xs : List Int), cs = [.slice A n c] ∧ n ≤ c ∧ c ≤ maxLen ∧ RdI W W.heap.size k A n xs ∧ (∀ y ∈ xs, (Lit.int k y).wf = true) ∧
      ∀ R, (∀ m ∈ x.1.weights P t, m ≤ R) → n * P.bytesOf e ≤ R := by
  rcases open_ints ht he hc h with ⟨rfl, rfl⟩ | ⟨a, len, cap, zs, rfl, _, hl, hm, hz, rfl, hcell, hwz⟩
  · exact ⟨none, 0, 0, [], rfl, Nat.le_refl _, by unfold maxLen; omega, RdI.nil _, fun y hy => (by cases hy), fun R _ => by omega⟩
  · have hlz : len ≤ zs.length := by rw [hz]; split <;> omega
    refine ⟨some a, len, cap, zs.take len, rfl, hl, hm, ⟨by rw [List.length_take]; omega, fun hn => ?_⟩, fun y hy => hwz y (List.mem_of_mem_take hy), fun R hR => ?_⟩
    · have h0 := hcell 0 (by omega)
      have e0 : a.add 0 = a := by cases a; simp [Addr.add]
      rw [e0] at h0
      obtain ⟨b, o, s⟩ := a
      have hs : s = none := by
        cases s with
        | none => rfl
        | some q => simp [World.cell?] at h0; split at h0 <;> cases h0
      subst hs
      refine ⟨b, o, rfl, World.block_lt_of_cell? W _ h0, fun j hj => ?_⟩
      have hadd : (⟨b, o, none⟩ : Addr).add j = ⟨b, o + j, none⟩ := by unfold Addr.add; split <;> simp_all
      rw [← hadd, hcell j (by omega), List.getD_eq_getElem?_getD, List.getD_eq_getElem?_getD, List.getElem?_take, if_pos hj]
    · have := hR ((lits (H := H) k (zs.take len)).length * P.bytesOf e + (lits (H := H) k (zs.drop len)).length * P.bytesOf e) (by
        simp only [DataW.weights, ht, Nat.add_mul]; exact List.mem_cons_self ..)
      have h2 : (lits (H := H) k (zs.take len)).length = len := by simp [lits]; omega
      rw [h2] at this
      omega
end
end Go.Proofs.YtgajbgdkgelkgaaGreat
