/- A request, opened: what a reading of it says of memory. · A row of requests, opened. · A slice of truths, opened. -/
import Derived.Test.YtgagpalffdgjnaaG17
import Derived.Test.YtgagpalffdgjnaaG23c
namespace Go.Proofs.Ytgagpalffdgjnaa
open Go.ChangeShapes Go.WideShapes Go.ChangeAt Go.RowKit Go.Deep

theorem five_of {α : Type} {cs : List α} (h : cs.length = 5) : ∃ a b c d e, cs = [a, b, c, d, e] := by
  match cs, h with
  | [a, b, c, d, e], _ => exact ⟨a, b, c, d, e, rfl⟩
section
variable {H : Type} {enc : TypeId × Value → H} {W : World} {base : Nat} {sp : Nat → Bool} {hd : Bool}
theorem openReq {fuel : Nat} {cs : List Value} {x : DataW H × List MemPlace} (h : DataW.trod enc Try.prog W base sp hd fuel 30 cs = some x) :
    ∃ (fc ad qt to : Int) (A : Option Addr) (n c : Nat) (xs : List Int), cs = [.int .i64 fc, .int .i64 ad, .int .i64 qt, .slice A n c, .int .i64 to] ∧ n ≤ c ∧ c ≤ maxLen ∧ RdI W W.heap.size .u16 A n xs ∧ (∀ y ∈ xs, (Lit.int .u16 y).wf = true)
      ∧ (Lit.int .i64 fc).wf = true ∧ (Lit.int .i64 ad).wf = true ∧ (Lit.int .i64 qt).wf = true ∧ (Lit.int .i64 to).wf = true := by
  have c1 : Try.prog.cellsOf 3 = 1 := by kernel_rfl
  have c2 : Try.prog.cellsOf 28 = 1 := by kernel_rfl
  have c3 : Try.prog.cellsOf 30 = 5 := by kernel_rfl
  obtain ⟨ys, m, rfl, rfl, hlen, hl, hf⟩ := DataW.trod_struct Try.underlying30 h
  rw [c3] at hlen
  obtain ⟨v0, v1, v2, v3, v4, rfl⟩ := five_of hlen
  obtain ⟨y0, y1, y2, y3, y4, rfl⟩ := five_of hl
  have h0 := hf 0 _ rfl
  have h1 := hf 1 _ rfl
  have h2 := hf 2 _ rfl
  have h3 := hf 3 _ rfl
  have h4 := hf 4 _ rfl
  simp [c1, c2] at h0 h1 h2 h3 h4
  obtain ⟨fc, e0, rfl, w0⟩ := DataW.trod_int Try.underlying3 h0
  obtain ⟨ad, e1, rfl, w1⟩ := DataW.trod_int Try.underlying3 h1
  obtain ⟨qt, e2, rfl, w2⟩ := DataW.trod_int Try.underlying3 h2
  obtain ⟨A, n, c, xs, e3, hc, hm, hr, hw, _⟩ := openSl Try.underlying28 Try.underlying43 (by kernel_rfl) h3
  obtain ⟨to, e4, rfl, w4⟩ := DataW.trod_int Try.underlying3 h4
  simp at e0 e1 e2 e3 e4
  subst e0 e1 e2 e3 e4
  exact ⟨fc, ad, qt, to, A, n, c, xs, rfl, hc, hm, hr, hw, w0, w1, w2, w4⟩
end
end Go.Proofs.Ytgagpalffdgjnaa
namespace Go.Proofs.Ytgagpalffdgjnaa
open Go.ChangeShapes Go.WideShapes Go.ChangeAt Go.RowKit Go.Deep

structure Rq24 where
  fc : Int
  ad : Int
  qt : Int
  a : Option Addr
  m : Nat
  c : Nat
  xs : List Int
  to : Int
def Rq24.cells (p : Rq24) : List Value := [.int .i64 p.fc, .int .i64 p.ad, .int .i64 p.qt, .slice p.a p.m p.c, .int .i64 p.to]
/-- What is true of a request, and stays so while its memory stands. -/
structure OkRq24 (w : World) (p : Rq24) : Prop where
  mc : p.m ≤ p.c ∧ p.c ≤ maxLen
  rd : RdI w w.heap.size .u16 p.a p.m p.xs
  wx : ∀ y ∈ p.xs, (Lit.int .u16 y).wf = true
def RdRq24 (w : World) (A : Option Addr) (n : Nat) (ps : List Rq24) : Prop :=
  ps.length = n ∧ ∀ j, j < n → ∃ b o, A = some ⟨b, o, none⟩ ∧ b < w.heap.size ∧ ∃ p ∈ ps, ps[j]? = some p ∧ (∀ i, i < 5 → w.cell? ⟨b, o + j * 5 + i, none⟩ = p.cells[i]?) ∧ OkRq24 w p
theorem RdRq24.len {w : World} {n : Nat} {A : Option Addr} {ps : List Rq24} (h : RdRq24 w A n ps) : ps.length = n := h.1
theorem OkRq24.ext {w w' : World} {p : Rq24} (h : OkRq24 w p) (E : Ext w w') : OkRq24 w' p := ⟨h.mc, h.rd.ext E, h.wx⟩
theorem RdRq24.ext {w w' : World} {n : Nat} {A : Option Addr} {ps : List Rq24} (h : RdRq24 w A n ps) (E : Ext w w') : RdRq24 w' A n ps :=
  ⟨h.1, fun j hj => by
    obtain ⟨b, o, e, hb, p, hp, h1, hc, ho⟩ := h.2 j hj
    exact ⟨b, o, e, Nat.lt_of_lt_of_le hb E.size, p, hp, h1, fun i hi => (E.cell _ hb).trans (hc i hi), ho.ext E⟩⟩
section
variable {H : Type} {enc : TypeId × Value → H} {W : World} {base : Nat} {sp : Nat → Bool} {hd : Bool}
theorem openReqs {fuel : Nat} {cs : List Value} {x : DataW H × List MemPlace} (h : DataW.trod enc Try.prog W base sp hd fuel 61 cs = some x) :
    ∃ (A : Option Addr) (n c : Nat) (ps : List Rq24), cs = [.slice A n c] ∧ n ≤ c ∧ c ≤ maxLen ∧ RdRq24 W A n ps := by
  obtain ⟨A, n, c, rfl, hnc, hcm, hel, hR⟩ := openElemsW (fun cs _ => ∃ p : Rq24, cs = p.cells ∧ OkRq24 W p) 5 Try.underlying61 (by kernel_rfl) (by omega)
    (fun fuel cs x h => by
      obtain ⟨fc, ad, qt, to, A, n, c, xs, rfl, hc, hm, hr, hw, _⟩ := openReq h
      exact ⟨⟨fc, ad, qt, A, n, c, xs, to⟩, rfl, ⟨hc, hm⟩, hr, hw⟩) h
  have hch : ∀ j, j < n → ∃ p : Rq24, ∃ b o, A = some ⟨b, o, none⟩ ∧ b < W.heap.size ∧ (∀ i, i < 5 → W.cell? ⟨b, o + j * 5 + i, none⟩ = p.cells[i]?) ∧ OkRq24 W p := fun j hj => by
    obtain ⟨b, o, e, hb, vs, y, _, ⟨p, e1, h1⟩, hsub, hcell⟩ := hel j hj
    subst e1
    exact ⟨p, b, o, e, hb, hcell, h1⟩
  have : Inhabited Rq24 := ⟨⟨0, 0, 0, none, 0, 0, [], 0⟩⟩
  obtain ⟨f, hf⟩ := choose_lt hch
  refine ⟨A, n, c, (List.range n).map f, rfl, hnc, hcm, ⟨by simp, fun j hj => ?_⟩⟩
  obtain ⟨b, o, e, hb, hc, hok⟩ := hf j hj
  exact ⟨b, o, e, hb, f j, List.mem_map.2 ⟨j, List.mem_range.2 hj, rfl⟩, by simp [hj], hc, hok⟩
end
end Go.Proofs.Ytgagpalffdgjnaa
namespace Go.Proofs.Ytgagpalffdgjnaa
open Go.ChangeShapes Go.WideShapes Go.ChangeAt Go.RowKit Go.Deep
def RdBs (w : World) (B : Nat) (A : Option Addr) (n : Nat) (vs : List Value) : Prop :=
  0 < n → ∃ b o, A = some ⟨b, o, none⟩ ∧ b < B ∧ ∀ j, j < vs.length → w.cell? ⟨b, o + j, none⟩ = vs[j]?
theorem RdBs.bool {w : World} {B : Nat} {A : Option Addr} {xs : List Bool} (h : RdBs w B A xs.length (xs.map Value.bool)) {j : Nat} (hj : j < xs.length) :
    ∃ b o, A = some ⟨b, o, none⟩ ∧ b < B ∧ w.cell? ⟨b, o + j, none⟩ = some (.bool (xs.getD j false)) := by
  obtain ⟨b, o, e, hb, hc⟩ := h (by omega)
  refine ⟨b, o, e, hb, ?_⟩
  rw [hc j (by rw [List.length_map]; exact hj), List.getElem?_map, List.getElem?_eq_getElem hj, List.getD_eq_getElem?_getD, List.getElem?_eq_getElem hj]
  rfl
section
variable {H : Type} {enc : TypeId × Value → H} {W : World} {base : Nat} {sp : Nat → Bool} {hd : Bool}
theorem openBoolsC {fuel : Nat} {cs : List Value} {x : DataW H × List MemPlace} (h : DataW.trod enc Try.prog W base sp hd fuel 22 cs = some x) :
    ∃ (A : Option Addr) (c : Nat) (xs : List Bool), cs = [.slice A xs.length c] ∧ xs.length ≤ maxLen ∧ RdBs W W.heap.size A xs.length (xs.map Value.bool) ∧ ∀ R, (∀ m ∈ x.1.weights Try.prog 22, m ≤ R) → xs.length ≤ R := by
  have hby : Try.prog.bytesOf 4 = 1 := by kernel_rfl
  obtain ⟨A, n, c, rfl, hnc, hcm, hel, hR⟩ := openElems (fun cs => ∃ b, cs = [.bool b]) 1 Try.underlying22 (by kernel_rfl) (by omega)
    (fun fuel cs x h => by obtain ⟨b, e, _⟩ := DataW.trod_bool Try.underlying4 h; exact ⟨b, e⟩) h
  have hch : ∀ j, j < n → ∃ v : Bool, ∃ b o, A = some ⟨b, o, none⟩ ∧ b < W.heap.size ∧ W.cell? ⟨b, o + j, none⟩ = some (.bool v) := fun j hj => by
    obtain ⟨b, o, e, hb, vs, _, ⟨v, e1⟩, hcell⟩ := hel j hj
    have := hcell 0 (by omega)
    rw [Nat.mul_one, Nat.add_zero, e1] at this
    exact ⟨v, b, o, e, hb, this⟩
  obtain ⟨f, hf⟩ := choose_lt hch
  have hl : ((List.range n).map f).length = n := by simp
  refine ⟨A, c, (List.range n).map f, by rw [hl], by omega, fun hn => ?_, fun R h => ?_⟩
  · rw [hl] at hn
    obtain ⟨b, o, e, hb, _⟩ := hf 0 hn
    refine ⟨b, o, e, hb, fun j hj => ?_⟩
    rw [List.length_map, hl] at hj
    obtain ⟨b', o', e', _, hc⟩ := hf j hj
    obtain ⟨rfl, rfl⟩ : b = b' ∧ o = o' := by have := e.symm.trans e'; simpa using this
    rw [hc]
    simp [hj]
  · have := hR R h
    rw [hby, Nat.mul_one] at this
    rw [hl]; exact this
end
end Go.Proofs.Ytgagpalffdgjnaa
