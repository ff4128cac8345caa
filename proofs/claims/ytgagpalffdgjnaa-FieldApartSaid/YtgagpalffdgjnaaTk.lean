/- The steps of a drawn region, said shortly. -/
import Derived.Test.YtgagpalffdgjnaaWords
import Derived.Deep.RegionHeld3
namespace Go.Proofs.Ytgagpalffdgjnaa
open Go

theorem gA {α : Type} (xs : List α) (i : Nat) (h : i < xs.toArray.size) : xs.toArray[i] = xs[i]'(by simpa using h) := rfl
theorem gB {α : Type} (x : α) (xs : List α) (i : Nat) (h : i + 1 < (x :: xs).length) : (x :: xs)[i + 1] = xs[i]'(Nat.lt_of_succ_lt_succ h) := rfl
theorem gC {α : Type} (x : α) (xs : List α) (h : 0 < (x :: xs).length) : (x :: xs)[0] = x := rfl
theorem gE {α : Type} (x y : α) (xs : List α) : (x :: xs).set 0 y = y :: xs := rfl
theorem gF {α : Type} (x y : α) (xs : List α) (i : Nat) : (x :: xs).set (i + 1) y = x :: xs.set i y := rfl
section
variable {P : Program} {ops : Array Oper} {Q : Exit → Act → World → Prop} {md : Region.Mode} {S : World → Prop}
theorem tkH (i : Nat) {oi : Oper} {v : Value} {fuel : Nat} {listed : Array Bool} {a : Act} {w : World} (hv : ∀ w, S w → (execOp a.eval oi).run P w = .ok (.value v) w) (h : wpAnyH P md ops Q S fuel (listed.setIfInBounds i true) (a.put oi.dst v) w)
    (hi : ops[i]? = some oi := by exact rfl) (hs : Region.noSelect ops = true := by kernel_rfl) (hf : Region.free md ops listed i = true := by kernel_rfl) (hr : (Region.ready md ops listed).contains i = true := by kernel_rfl)
    (hQ : ∀ c a w, Q (.panic c) (a.put oi.dst v) w → Q (.panic c) a w := by exact fun _ _ _ h => h) (hw : Region.wanted oi (yielded ops a.tmps) = true := by rfl) (hS : S w := by assumption) : wpAnyH P md ops Q S (fuel + 1) listed a w :=
  wpAnyH_take hi hs hf hr hQ (.inl ⟨hw, hv⟩) hS h
theorem skH (i : Nat) {oi : Oper} {fuel : Nat} {listed : Array Bool} {a : Act} {w : World} (h : wpAnyH P md ops Q S fuel (listed.setIfInBounds i true) (a.put oi.dst undef) w)
    (hi : ops[i]? = some oi := by exact rfl) (hs : Region.noSelect ops = true := by kernel_rfl) (hf : Region.free md ops listed i = true := by kernel_rfl) (hr : (Region.ready md ops listed).contains i = true := by kernel_rfl)
    (hQ : ∀ c a w, Q (.panic c) (a.put oi.dst undef) w → Q (.panic c) a w := by exact fun _ _ _ h => h) (hw : Region.wanted oi (yielded ops a.tmps) = false := by rfl) (hS : S w := by assumption) : wpAnyH P md ops Q S (fuel + 1) listed a w :=
  wpAnyH_take hi hs hf hr hQ (.inr ⟨hw, rfl⟩) hS h
end
end Go.Proofs.Ytgagpalffdgjnaa
