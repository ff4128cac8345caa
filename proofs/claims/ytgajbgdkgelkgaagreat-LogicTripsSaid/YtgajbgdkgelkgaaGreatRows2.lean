/- A slice of slices of numbers that is read. -/
import Derived.Test.YtgajbgdkgelkgaaGreatWords
namespace Go.Proofs.YtgajbgdkgelkgaaGreat
open Go.RowKit

structure Sl where
  a : Option Addr
  n : Nat
  c : Nat
  xs : List Int
/-- The slice value '.slice A n c' reads as the slices zs, of numbers of kind k, in cells below block B. -/
def RdSl (w : World) (B : Nat) (k : IntKind) (A : Option Addr) (n : Nat) (zs : List Sl) : Prop :=
  zs.length = n ∧ ∀ j, j < n → ∃ b o, A = some ⟨b, o, none⟩ ∧ b < B ∧ ∃ z ∈ zs, w.cell? ⟨b, o + j, none⟩ = some (.slice z.a z.n z.c) ∧ (z.n ≤ z.c ∧ z.c ≤ maxLen) ∧ RdI w B k z.a z.n z.xs
section
variable {w : World} {B n : Nat} {k : IntKind} {A : Option Addr} {zs : List Sl}
theorem RdSl.len (h : RdSl w B k A n zs) : zs.length = n := h.1
theorem RdSl.at_ {j : Nat} (h : RdSl w B k A n zs) (hj : j < n) : ∃ b o, A = some ⟨b, o, none⟩ ∧ b < B ∧ ∃ z ∈ zs, w.cell? ⟨b, o + j, none⟩ = some (.slice z.a z.n z.c) ∧ (z.n ≤ z.c ∧ z.c ≤ maxLen) ∧ RdI w B k z.a z.n z.xs := h.2 j hj
end
end Go.Proofs.YtgajbgdkgelkgaaGreat
