/- A request, opened: what a reading of it says of memory. -/
import Derived.Test.YtgagpalffdgjnaaG17
namespace Go.Proofs.Ytgagpalffdgjnaa
open Go.ChangeShapes Go.WideShapes Go.ChangeAt Go.RowKit Go.Deep

theorem five_of {α : Type} {cs : List α} (h : cs.length = 5) : ∃ a b c d e, cs = [a, b, c, d, e] := by
  match cs, h with
  | [a, b, c, d, e], _ => exact ⟨a, b, c, d, e, rfl⟩
section
variable {H : Type} {enc : TypeId × Value → H} {W : World} {base : Nat} {sp : Nat → Bool} {hd : Bool}
theorem openReq {fuel : Nat} {cs : List Value} {x : DataW H × List MemPlace} (h : DataW.trod enc Try.prog W base sp hd fuel 30 cs = some x) :
    ∃ (fc ad qt to : Int) (A : Option Addr) (n c : Nat) (xs : List Int), cs = [.int .i64 fc, .int .i64 ad, .int .i64 qt, .slice A n c, .int .i64 to] ∧ n ≤ c ∧ c ≤ maxLen ∧ RdI W W.heap.size .u16 A n xs ∧ (∀ y ∈ xs, (Lit.int .u16 y).wf = true)
      ∧ (Lit.int .i64 fc).wf = true ∧ (Lit.int .i64 ad).wf = true ∧ (Lit.int .i64 qt).wf = true ∧ (Lit.int .i64 to).wf = true := by
  have c1 : Try.prog.cellsOf 3 = 1 := by kernel_rfl
  have c2 : Try.prog.cellsOf 28 = 1 := by kernel_rfl
  have c3 : Try.prog.cellsOf 30 = 5 := by kernel_rfl
  obtain ⟨ys, m, rfl, rfl, hlen, hl, hf⟩ := DataW.trod_struct Try.underlying30 h
  rw [c3] at hlen
  obtain ⟨v0, v1, v2, v3, v4, rfl⟩ := five_of hlen
  obtain ⟨y0, y1, y2, y3, y4, rfl⟩ := five_of hl
  have h0 := hf 0 _ rfl
  have h1 := hf 1 _ rfl
  have h2 := hf 2 _ rfl
  have h3 := hf 3 _ rfl
  have h4 := hf 4 _ rfl
  simp [c1, c2] at h0 h1 h2 h3 h4
  obtain ⟨fc, e0, rfl, w0⟩ := DataW.trod_int Try.underlying3 h0
  obtain ⟨ad, e1, rfl, w1⟩ := DataW.trod_int Try.underlying3 h1
  obtain ⟨qt, e2, rfl, w2⟩ := DataW.trod_int Try.underlying3 h2
  obtain ⟨A, n, c, xs, e3, hc, hm, hr, hw, _⟩ := openSl Try.underlying28 Try.underlying43 (by kernel_rfl) h3
  obtain ⟨to, e4, rfl, w4⟩ := DataW.trod_int Try.underlying3 h4
  simp at e0 e1 e2 e3 e4
  subst e0 e1 e2 e3 e4
  exact ⟨fc, ad, qt, to, A, n, c, xs, rfl, hc, hm, hr, hw, w0, w1, w2, w4⟩
end
end Go.Proofs.Ytgagpalffdgjnaa
