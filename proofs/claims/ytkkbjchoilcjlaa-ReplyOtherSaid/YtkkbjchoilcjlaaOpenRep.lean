/- An answer, opened: what a reading of it says of memory. -/
import Derived.Test.YtkkbjchoilcjlaaOpenReq
namespace Go.Proofs.Ytkkbjchoilcjlaa
open Go.ChangeShapes Go.WideShapes Go.ChangeAt Go.RowKit Go.Deep

theorem two_of {α : Type} {cs : List α} (h : cs.length = 2) : ∃ a b, cs = [a, b] := by
  match cs, h with
  | [a, b], _ => exact ⟨a, b, rfl⟩
section
variable {H : Type} {enc : TypeId × Value → H} {W : World} {base : Nat} {sp : Nat → Bool} {hd : Bool}
theorem openRep {fuel : Nat} {cs : List Value} {x : DataW H × List MemPlace} (h : DataW.trod enc Try.prog W base sp hd fuel 50 cs = some x) :
    ∃ (co : Int) (A : Option Addr) (n c : Nat) (xs : List Int), cs = [.int .i64 co, .slice A n c] ∧ n ≤ c ∧ c ≤ maxLen ∧ RdI W W.heap.size .u16 A n xs ∧ (∀ y ∈ xs, (Lit.int .u16 y).wf = true) ∧ (Lit.int .i64 co).wf = true := by
  have c1 : Try.prog.cellsOf 3 = 1 := by kernel_rfl
  have c2 : Try.prog.cellsOf 22 = 1 := by kernel_rfl
  have c3 : Try.prog.cellsOf 50 = 2 := by kernel_rfl
  obtain ⟨ys, m, rfl, rfl, hlen, hl, hf⟩ := DataW.trod_struct Try.underlying50 h
  rw [c3] at hlen
  obtain ⟨v0, v1, rfl⟩ := two_of hlen
  obtain ⟨y0, y1, rfl⟩ := two_of hl
  have h0 := hf 0 _ rfl
  have h1 := hf 1 _ rfl
  simp [c1, c2] at h0 h1
  obtain ⟨co, e0, rfl, w0⟩ := DataW.trod_int Try.underlying3 h0
  obtain ⟨A, n, c, xs, e3, hc, hm, hr, hw, _⟩ := openSl Try.underlying22 Try.underlying28 (by kernel_rfl) h1
  simp at e0 e3
  subst e0 e3
  exact ⟨co, A, n, c, xs, rfl, hc, hm, hr, hw, w0⟩
end
end Go.Proofs.Ytkkbjchoilcjlaa
