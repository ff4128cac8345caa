/- Layer 24: calls that are read: opened; how much they are. -/
import Derived.Test.YtgagpalffdgjnaaG23c
namespace Go.Proofs.Ytgagpalffdgjnaa
open Go.ChangeShapes Go.WideShapes Go.ChangeAt Go.RowKit Go.Deep

structure Op24 where
  what : Int
  line : Int
  device : Int
  place : Int
  n_ : Int
  now : Int
  a : Option Addr
  m : Nat
  c : Nat
  xs : List Int
def Op24.cells (p : Op24) : List Value := [.int .i64 p.what, .int .i64 p.line, .int .i64 p.device, .int .i64 p.place, .int .i64 p.n_, .int .i64 p.now, .slice p.a p.m p.c]
/-- What is true of a call, and stays so while its memory stands. -/
structure OkOp24 (w : World) (R : Nat) (p : Op24) : Prop where
  mc : p.m ≤ p.c ∧ p.c ≤ maxLen
  rd : RdI w w.heap.size .u8 p.a p.m p.xs
  wx : ∀ y ∈ p.xs, (Lit.int .u8 y).wf = true
  sm : p.m ≤ R
  wn : -9223372036854775808 ≤ p.n_ ∧ p.n_ ≤ 9223372036854775807
def RdOp24 (w : World) (R : Nat) (A : Option Addr) (n : Nat) (ps : List Op24) : Prop :=
  ps.length = n ∧ ∀ j, j < n → ∃ b o, A = some ⟨b, o, none⟩ ∧ b < w.heap.size ∧ ∃ p ∈ ps, ps[j]? = some p ∧ (∀ i, i < 7 → w.cell? ⟨b, o + j * 7 + i, none⟩ = p.cells[i]?) ∧ OkOp24 w R p
theorem RdOp24.len {w : World} {R n : Nat} {A : Option Addr} {ps : List Op24} (h : RdOp24 w R A n ps) : ps.length = n := h.1
theorem OkOp24.ext {w w' : World} {R : Nat} {p : Op24} (h : OkOp24 w R p) (E : Ext w w') : OkOp24 w' R p := ⟨h.mc, h.rd.ext E, h.wx, h.sm, h.wn⟩
theorem RdOp24.ext {w w' : World} {R n : Nat} {A : Option Addr} {ps : List Op24} (h : RdOp24 w R A n ps) (E : Ext w w') : RdOp24 w' R A n ps :=
  ⟨h.1, fun j hj => by
    obtain ⟨b, o, e, hb, p, hp, h1, hc, ho⟩ := h.2 j hj
    exact ⟨b, o, e, Nat.lt_of_lt_of_le hb E.size, p, hp, h1, fun i hi => (E.cell _ hb).trans (hc i hi), ho.ext E⟩⟩
section
variable {H : Type} {enc : TypeId × Value → H} {W : World} {base : Nat} {sp : Nat → Bool} {hd : Bool}
theorem split_sev {α : Type} {cs : List α} (h : cs.length = 7) : ∃ a b c d e f g, cs = [a, b, c, d, e, f, g] := by
  match cs, h with
  | [a, b, c, d, e, f, g], _ => exact ⟨a, b, c, d, e, f, g, rfl⟩
theorem openOp24 {fuel : Nat} {cs : List Value} {x : DataW H × List MemPlace} (h : DataW.trod enc Try.prog W base sp hd fuel 89 cs = some x) :
    ∃ p : Op24, cs = p.cells ∧ ∀ R, (∀ m ∈ x.1.weights Try.prog 89, m ≤ R) → OkOp24 W R p := by
  have c1 : Try.prog.cellsOf 3 = 1 := by kernel_rfl
  have c2 : Try.prog.cellsOf 34 = 1 := by kernel_rfl
  have c5 : Try.prog.cellsOf 2 = 1 := by kernel_rfl
  have c4 : Try.prog.cellsOf 89 = 7 := by kernel_rfl
  obtain ⟨ys, m, rfl, rfl, hlen, hl, hf⟩ := DataW.trod_struct Try.underlying89 h
  rw [c4] at hlen
  obtain ⟨v0, v1, v2, v3, v4, v5, v6, rfl⟩ := split_sev hlen
  obtain ⟨y0, y1, y2, y3, y4, y5, y6, rfl⟩ := split_sev hl
  have h0 := hf 0 _ rfl
  have h1 := hf 1 _ rfl
  have h2 := hf 2 _ rfl
  have h3 := hf 3 _ rfl
  have h4 := hf 4 _ rfl
  have h5 := hf 5 _ rfl
  have h6 := hf 6 _ rfl
  simp [c1, c2, c5] at h0 h1 h2 h3 h4 h5 h6
  obtain ⟨x0, e0, rfl, w0⟩ := DataW.trod_int Try.underlying3 h0
  obtain ⟨x1, e1, rfl, w1⟩ := DataW.trod_int Try.underlying3 h1
  obtain ⟨x2, e2, rfl, w2⟩ := DataW.trod_int Try.underlying3 h2
  obtain ⟨x3, e3, rfl, w3⟩ := DataW.trod_int Try.underlying3 h3
  obtain ⟨x4, e4, rfl, w4⟩ := DataW.trod_int Try.underlying2 h4
  obtain ⟨x5, e5, rfl, w5⟩ := DataW.trod_int Try.underlying2 h5
  obtain ⟨A, n, c, xs, e6, hc, hm, hr, hw, R2⟩ := openSl Try.underlying34 Try.underlying5 (by kernel_rfl) h6
  have hb1 : Try.prog.bytesOf 5 = 1 := by kernel_rfl
  simp at e0 e1 e2 e3 e4 e5 e6
  subst e0 e1 e2 e3 e4 e5 e6
  refine ⟨⟨x0, x1, x2, x3, x4, x5, A, n, c, xs⟩, rfl, fun R hRw => ⟨⟨hc, hm⟩, hr, hw, ?_, ?_⟩⟩
  · have := R2 R (fun m hm => hRw m (by
      simp only [DataW.weights, Try.underlying89]
      exact DataW.weights_mem_each (j := 6) rfl rfl m hm))
    rw [hb1] at this
    show n ≤ R
    omega
  · have h2 : IntKind.i64.min = -9223372036854775808 := by decide
    have h3 : IntKind.i64.max = 9223372036854775807 := by decide
    simp only [Lit.wf, h2, h3, Bool.and_eq_true, decide_eq_true_eq] at w4
    exact w4
theorem openOps24 {fuel : Nat} {cs : List Value} {x : DataW H × List MemPlace} (h : DataW.trod enc Try.prog W base sp hd fuel 86 cs = some x) :
    ∃ (A : Option Addr) (n c : Nat) (ps : List Op24), cs = [.slice A n c] ∧ n ≤ c ∧ c ≤ maxLen ∧ ∀ R, (∀ m ∈ x.1.weights Try.prog 86, m ≤ R) → RdOp24 W R A n ps ∧ n * 64 ≤ R := by
  have hby : 64 ≤ Try.prog.bytesOf 89 := by
    have : Try.prog.bytesOf 89 = 72 := by kernel_rfl
    omega
  obtain ⟨A, n, c, rfl, hnc, hcm, hel, hR⟩ := openElemsW (fun cs y => ∃ p : Op24, cs = p.cells ∧ ∀ R, (∀ m ∈ y.weights Try.prog 89, m ≤ R) → OkOp24 W R p) 7 Try.underlying86 (by kernel_rfl) (by omega)
    (fun fuel cs x h => openOp24 h) h
  have hch : ∀ j, j < n → ∃ p : Op24, ∃ b o, A = some ⟨b, o, none⟩ ∧ b < W.heap.size ∧ (∀ i, i < 7 → W.cell? ⟨b, o + j * 7 + i, none⟩ = p.cells[i]?) ∧ ∀ R, (∀ m ∈ x.1.weights Try.prog 86, m ≤ R) → OkOp24 W R p := fun j hj => by
    obtain ⟨b, o, e, hb, vs, y, _, ⟨p, e1, h1⟩, hsub, hcell⟩ := hel j hj
    subst e1
    exact ⟨p, b, o, e, hb, hcell, fun R hR => h1 R fun m hm => hR m (hsub m hm)⟩
  have : Inhabited Op24 := ⟨⟨0, 0, 0, 0, 0, 0, none, 0, 0, []⟩⟩
  obtain ⟨f, hf⟩ := choose_lt hch
  refine ⟨A, n, c, (List.range n).map f, rfl, hnc, hcm, fun R hRw => ⟨⟨by simp, fun j hj => ?_⟩, Nat.le_trans (Nat.mul_le_mul_left n hby) (hR R hRw)⟩⟩
  obtain ⟨b, o, e, hb, hc, hok⟩ := hf j hj
  exact ⟨b, o, e, hb, f j, List.mem_map.2 ⟨j, List.mem_range.2 hj, rfl⟩, by simp [hj], hc, hok R hRw⟩
end
end Go.Proofs.Ytgagpalffdgjnaa
