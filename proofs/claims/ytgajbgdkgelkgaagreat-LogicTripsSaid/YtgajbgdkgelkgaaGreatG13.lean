/- Layer 17, and 8: what is read of memory is opened: samples, latches, a state, calls, a matrix. Printed by gen/open17.py. · Lists of numbers, alike or not: the comparisons of layers 8 and 15 (turned by program out of the text for words); one of some. -/
import Derived.Test.YtgajbgdkgelkgaaGreatG01
import Derived.Test.YtgajbgdkgelkgaaGreatCoN
import Derived.Deep.RegionHeld
namespace Go.Proofs.YtgajbgdkgelkgaaGreat
open Go.ChangeShapes Go.WideShapes Go.ChangeAt Go.RowKit Go.Deep

section
variable {H : Type} {enc : TypeId × Value → H} {P : Program} {W : World} {base : Nat} {sp : Nat → Bool} {hd : Bool}
/-- Each element of a slice of structs, as what each reading of it says. -/
theorem openRdC {α : Type} [Inhabited α] {cells : α → List Value} {t e : TypeId} {fuel : Nat} {cs : List Value} {x : DataW H × List MemPlace} (Q : α → Prop) (sz : Nat) (ht : P.underlying t = some (.slice e)) (hc : P.cellsOf e = sz) (h0 : 0 < sz)
    (hQ : ∀ (fuel : Nat) (cs : List Value) (x : DataW H × List MemPlace), DataW.trod enc P W base sp hd fuel e cs = some x → ∃ p, cs = cells p ∧ Q p) (h : DataW.trod enc P W base sp hd fuel t cs = some x) :
    ∃ (A : Option Addr) (n c : Nat) (xs : List α), cs = [.slice A n c] ∧ (n ≤ c ∧ c ≤ maxLen) ∧ RdC cells sz W W.heap.size A n xs ∧ (∀ p ∈ xs, Q p) ∧ ∀ R, (∀ m ∈ x.1.weights P t, m ≤ R) → n * P.bytesOf e ≤ R := by
  obtain ⟨A, n, c, rfl, hnc, hcm, hel, hR⟩ := openElems (fun cs => ∃ p : α, cs = cells p ∧ Q p) sz ht hc h0 hQ h
  have hch : ∀ j, j < n → ∃ p : α, Q p ∧ ∃ b o, A = some ⟨b, o, none⟩ ∧ b < W.heap.size ∧ ∀ i, i < sz → W.cell? ⟨b, o + j * sz + i, none⟩ = (cells p)[i]? := fun j hj => by
    obtain ⟨b, o, e, hb, vs, _, ⟨p, e1, h1⟩, hcell⟩ := hel j hj
    subst e1
    exact ⟨p, h1, b, o, e, hb, hcell⟩
  obtain ⟨f, hf⟩ := choose_lt hch
  refine ⟨A, n, c, (List.range n).map f, rfl, ⟨hnc, hcm⟩, ⟨by simp, fun hn => ?_⟩, fun p hp => ?_, hR⟩
  · obtain ⟨-, b, o, e, hb, -⟩ := hf 0 hn
    refine ⟨b, o, e, hb, fun j p hp i hi => ?_⟩
    rw [List.getElem?_map] at hp
    rcases Nat.lt_or_ge j n with hj | hj
    · rw [List.getElem?_range hj] at hp
      cases hp
      obtain ⟨-, b', o', e', -, hcell⟩ := hf j hj
      obtain ⟨rfl, rfl⟩ : b = b' ∧ o = o' := by have := e.symm.trans e'; simpa using this
      exact hcell i hi
    · rw [List.getElem?_eq_none (by simpa using hj)] at hp
      cases hp
  · obtain ⟨j, hj, rfl⟩ := List.mem_map.1 hp
    exact (hf j (List.mem_range.1 hj)).1
end
section
variable {H : Type} {enc : TypeId × Value → H} {W : World} {base : Nat} {sp : Nat → Bool} {hd : Bool}
theorem split2_17 {α : Type} {cs : List α} (h : cs.length = 2) : ∃ a0 a1, cs = [a0, a1] := by
  match cs, h with
  | [a0, a1], _ => exact ⟨a0, a1, rfl⟩
theorem split3_17 {α : Type} {cs : List α} (h : cs.length = 3) : ∃ a0 a1 a2, cs = [a0, a1, a2] := by
  match cs, h with
  | [a0, a1, a2], _ => exact ⟨a0, a1, a2, rfl⟩
theorem split4_17 {α : Type} {cs : List α} (h : cs.length = 4) : ∃ a0 a1 a2 a3, cs = [a0, a1, a2, a3] := by
  match cs, h with
  | [a0, a1, a2, a3], _ => exact ⟨a0, a1, a2, a3, rfl⟩
theorem split5_17 {α : Type} {cs : List α} (h : cs.length = 5) : ∃ a0 a1 a2 a3 a4, cs = [a0, a1, a2, a3, a4] := by
  match cs, h with
  | [a0, a1, a2, a3, a4], _ => exact ⟨a0, a1, a2, a3, a4, rfl⟩
theorem split6_17 {α : Type} {cs : List α} (h : cs.length = 6) : ∃ a0 a1 a2 a3 a4 a5, cs = [a0, a1, a2, a3, a4, a5] := by
  match cs, h with
  | [a0, a1, a2, a3, a4, a5], _ => exact ⟨a0, a1, a2, a3, a4, a5, rfl⟩
theorem split7_17 {α : Type} {cs : List α} (h : cs.length = 7) : ∃ a0 a1 a2 a3 a4 a5 a6, cs = [a0, a1, a2, a3, a4, a5, a6] := by
  match cs, h with
  | [a0, a1, a2, a3, a4, a5, a6], _ => exact ⟨a0, a1, a2, a3, a4, a5, a6, rfl⟩
theorem split9_17 {α : Type} {cs : List α} (h : cs.length = 9) : ∃ a0 a1 a2 a3 a4 a5 a6 a7 a8, cs = [a0, a1, a2, a3, a4, a5, a6, a7, a8] := by
  match cs, h with
  | [a0, a1, a2, a3, a4, a5, a6, a7, a8], _ => exact ⟨a0, a1, a2, a3, a4, a5, a6, a7, a8, rfl⟩
theorem openSample {fuel : Nat} {cs : List Value} {x : DataW H × List MemPlace} (h : DataW.trod enc Tryz.prog W base sp hd fuel 37 cs = some x) : ∃ p : Sm, cs = smCells p ∧ (Lit.int .i64 p.2).wf = true := by
  have c0 : Tryz.prog.cellsOf 4 = 1 := by kernel_rfl
  have c1 : Tryz.prog.cellsOf 3 = 1 := by kernel_rfl
  have cz : Tryz.prog.cellsOf 37 = 2 := by kernel_rfl
  obtain ⟨ys, m, rfl, rfl, hlen, hl, hf⟩ := DataW.trod_struct Tryz.underlying37 h
  rw [cz] at hlen
  obtain ⟨v0, v1, rfl⟩ := split2_17 hlen
  obtain ⟨y0, y1, rfl⟩ := split2_17 hl
  have h0 := hf 0 _ rfl
  have h1 := hf 1 _ rfl
  simp [c0, c1] at h0 h1
  obtain ⟨x0, e0, -⟩ := DataW.trod_bool Tryz.underlying4 h0
  obtain ⟨x1, e1, rfl, w1⟩ := DataW.trod_int Tryz.underlying3 h1
  simp at e0 e1
  subst e0 e1; exact ⟨(x0, x1), rfl, w1⟩
theorem openSamples {fuel : Nat} {cs : List Value} {x : DataW H × List MemPlace} (h : DataW.trod enc Tryz.prog W base sp hd fuel 33 cs = some x) :
    ∃ (A : Option Addr) (n c : Nat) (xs : List Sm), cs = [.slice A n c] ∧ (n ≤ c ∧ c ≤ maxLen) ∧ RdC smCells 2 W W.heap.size A n xs ∧ (∀ p ∈ xs, (Lit.int .i64 p.2).wf = true) ∧ ∀ R, (∀ m ∈ x.1.weights Tryz.prog 33, m ≤ R) → n * Tryz.prog.bytesOf 37 ≤ R :=
  openRdC (cells := smCells) (fun p => (Lit.int .i64 p.2).wf = true) 2 Tryz.underlying33 (by kernel_rfl) (by omega) (fun fuel cs x h => openSample h) h
theorem openLatch {fuel : Nat} {cs : List Value} {x : DataW H × List MemPlace} (h : DataW.trod enc Tryz.prog W base sp hd fuel 56 cs = some x) : ∃ p : Lt, cs = ltCells p ∧ (Lit.int .i64 p.2.1).wf = true := by
  have c0 : Tryz.prog.cellsOf 4 = 1 := by kernel_rfl
  have c1 : Tryz.prog.cellsOf 2 = 1 := by kernel_rfl
  have cz : Tryz.prog.cellsOf 56 = 3 := by kernel_rfl
  obtain ⟨ys, m, rfl, rfl, hlen, hl, hf⟩ := DataW.trod_struct Tryz.underlying56 h
  rw [cz] at hlen
  obtain ⟨v0, v1, v2, rfl⟩ := split3_17 hlen
  obtain ⟨y0, y1, y2, rfl⟩ := split3_17 hl
  have h0 := hf 0 _ rfl
  have h1 := hf 1 _ rfl
  have h2 := hf 2 _ rfl
  simp [c0, c1] at h0 h1 h2
  obtain ⟨x0, e0, -⟩ := DataW.trod_bool Tryz.underlying4 h0
  obtain ⟨x1, e1, rfl, w1⟩ := DataW.trod_int Tryz.underlying2 h1
  obtain ⟨x2, e2, -⟩ := DataW.trod_bool Tryz.underlying4 h2
  simp at e0 e1 e2
  subst e0 e1 e2; exact ⟨(x0, x1, x2), rfl, w1⟩
theorem openLatches {fuel : Nat} {cs : List Value} {x : DataW H × List MemPlace} (h : DataW.trod enc Tryz.prog W base sp hd fuel 47 cs = some x) :
    ∃ (A : Option Addr) (n c : Nat) (xs : List Lt), cs = [.slice A n c] ∧ (n ≤ c ∧ c ≤ maxLen) ∧ RdC ltCells 3 W W.heap.size A n xs ∧ (∀ p ∈ xs, (Lit.int .i64 p.2.1).wf = true) ∧ ∀ R, (∀ m ∈ x.1.weights Tryz.prog 47, m ≤ R) → n * Tryz.prog.bytesOf 56 ≤ R :=
  openRdC (cells := ltCells) (fun p => (Lit.int .i64 p.2.1).wf = true) 3 Tryz.underlying47 (by kernel_rfl) (by omega) (fun fuel cs x h => openLatch h) h
theorem openState {fuel : Nat} {cs : List Value} {x : DataW H × List MemPlace} (h : DataW.trod enc Tryz.prog W base sp hd fuel 50 cs = some x) : ∃ (A1 : Option Addr) (n1 c1 : Nat) (A2 : Option Addr) (n2 c2 : Nat) (A3 : Option Addr) (n3 c3 : Nat) (s : St), cs = [.slice A1 n1 c1, .slice A2 n2 c2, .slice A3 n3 c3] ∧ (n1 ≤ c1 ∧ c1 ≤ maxLen) ∧ (n2 ≤ c2 ∧ c2 ≤ maxLen) ∧ (n3 ≤ c3 ∧ c3 ≤ maxLen) ∧ RdC ltCells 3 W W.heap.size A1 n1 s.1 ∧ RdC ltCells 3 W W.heap.size A2 n2 s.2.1 ∧ RdI W W.heap.size .i64 A3 n3 s.2.2 ∧ ∀ R, (∀ m ∈ x.1.weights Tryz.prog 50, m ≤ R) → n1 ≤ R ∧ n2 ≤ R ∧ n3 * 8 ≤ R := by
  have c0 : Tryz.prog.cellsOf 47 = 1 := by kernel_rfl
  have c1 : Tryz.prog.cellsOf 48 = 1 := by kernel_rfl
  have cz : Tryz.prog.cellsOf 50 = 3 := by kernel_rfl
  obtain ⟨ys, m, rfl, rfl, hlen, hl, hf⟩ := DataW.trod_struct Tryz.underlying50 h
  rw [cz] at hlen
  obtain ⟨v0, v1, v2, rfl⟩ := split3_17 hlen
  obtain ⟨y0, y1, y2, rfl⟩ := split3_17 hl
  have h0 := hf 0 _ rfl
  have h1 := hf 1 _ rfl
  have h2 := hf 2 _ rfl
  simp [c0, c1] at h0 h1 h2
  obtain ⟨A0, n0, c0_, x0, e0, hc0, hr0, hq0, R0⟩ := openLatches h0
  obtain ⟨A1, n1, c1_, x1, e1, hc1, hr1, hq1, R1⟩ := openLatches h1
  obtain ⟨A2, n2, c2_, x2, e2, hc2, hm2, hr2, hw2, R2⟩ := openSl Tryz.underlying48 Tryz.underlying2 (by kernel_rfl) h2
  simp at e0 e1 e2
  subst e0 e1 e2
  refine ⟨A0, n0, c0_, A1, n1, c1_, A2, n2, c2_, (x0, x1, x2), rfl, hc0, hc1, ⟨hc2, hm2⟩, hr0, hr1, hr2, fun R hR => ?_⟩
  have b0 : Tryz.prog.bytesOf 56 = 24 := by kernel_rfl
  have b2 : Tryz.prog.bytesOf 2 = 8 := by kernel_rfl
  have q0 := R0 R (fun m hm => hR m (by
    simp only [DataW.weights, Tryz.underlying50]
    exact DataW.weights_mem_each (j := 0) rfl rfl m hm))
  have q1 := R1 R (fun m hm => hR m (by
    simp only [DataW.weights, Tryz.underlying50]
    exact DataW.weights_mem_each (j := 1) rfl rfl m hm))
  have q2 := R2 R (fun m hm => hR m (by
    simp only [DataW.weights, Tryz.underlying50]
    exact DataW.weights_mem_each (j := 2) rfl rfl m hm))
  rw [b0] at q0 q1
  rw [b2] at q2
  omega
end
structure Op17 where
  what : Int
  A : Option Addr
  n : Nat
  c : Nat
  l : List Sm
  now : Int
  who : Int
  tk : Int
  key : ByteArray
  A1 : Option Addr
  n1 : Nat
  c1 : Nat
  A2 : Option Addr
  n2 : Nat
  c2 : Nat
  A3 : Option Addr
  n3 : Nat
  c3 : Nat
instance : Inhabited Op17 := ⟨⟨0, none, 0, 0, [], 0, 0, 0, ByteArray.empty, none, 0, 0, none, 0, 0, none, 0, 0⟩⟩
def Op17.cells (p : Op17) : List Value := [.int .i64 p.what, .slice p.A p.n p.c, .int .i64 p.now, .int .i64 p.who, .int .i64 p.tk, .string p.key, .slice p.A1 p.n1 p.c1, .slice p.A2 p.n2 p.c2, .slice p.A3 p.n3 p.c3]
structure OkOp17 (w : World) (p : Op17) : Prop where
  rd : RdC smCells 2 w w.heap.size p.A p.n p.l
  cap : p.n ≤ p.c ∧ p.c ≤ maxLen
  key : p.key.size ≤ maxLen
  who : (Lit.int .i64 p.who).wf = true
  ww : (Lit.int .i64 p.what).wf = true
  wn : (Lit.int .i64 p.now).wf = true
  lens : p.n1 ≤ maxLen ∧ p.n2 ≤ maxLen ∧ p.n3 ≤ maxLen
theorem OkOp17.ext {w w' : World} {p : Op17} (h : OkOp17 w p) (E : Ext w w') : OkOp17 w' p := ⟨h.rd.ext E, h.cap, h.key, h.who, h.ww, h.wn, h.lens⟩
section
variable {H : Type} {enc : TypeId × Value → H} {W : World} {base : Nat} {sp : Nat → Bool} {hd : Bool}
theorem openOp17 {fuel : Nat} {cs : List Value} {x : DataW H × List MemPlace} (h : DataW.trod enc Tryz.prog W base sp hd fuel 52 cs = some x) : ∃ p : Op17, cs = p.cells ∧ OkOp17 W p := by
  have c0 : Tryz.prog.cellsOf 3 = 1 := by kernel_rfl
  have c1 : Tryz.prog.cellsOf 33 = 1 := by kernel_rfl
  have c2 : Tryz.prog.cellsOf 2 = 1 := by kernel_rfl
  have c3 : Tryz.prog.cellsOf 9 = 1 := by kernel_rfl
  have c4 : Tryz.prog.cellsOf 50 = 3 := by kernel_rfl
  have cz : Tryz.prog.cellsOf 52 = 9 := by kernel_rfl
  obtain ⟨ys, m, rfl, rfl, hlen, hl, hf⟩ := DataW.trod_struct Tryz.underlying52 h
  rw [cz] at hlen
  obtain ⟨v0, v1, v2, v3, v4, v5, v6, v7, v8, rfl⟩ := split9_17 hlen
  obtain ⟨y0, y1, y2, y3, y4, y5, y6, rfl⟩ := split7_17 hl
  have h0 := hf 0 _ rfl
  have h1 := hf 1 _ rfl
  have h2 := hf 2 _ rfl
  have h3 := hf 3 _ rfl
  have h4 := hf 4 _ rfl
  have h5 := hf 5 _ rfl
  have h6 := hf 6 _ rfl
  simp [c0, c1, c2, c3, c4] at h0 h1 h2 h3 h4 h5 h6
  obtain ⟨x0, e0, rfl, w0⟩ := DataW.trod_int Tryz.underlying3 h0
  obtain ⟨A1, n1, c1_, x1, e1, hc1, hr1, hq1, R1⟩ := openSamples h1
  obtain ⟨x2, e2, rfl, w2⟩ := DataW.trod_int Tryz.underlying2 h2
  obtain ⟨x3, e3, rfl, w3⟩ := DataW.trod_int Tryz.underlying3 h3
  obtain ⟨x4, e4, rfl, w4⟩ := DataW.trod_int Tryz.underlying2 h4
  obtain ⟨x5, e5, -, w5⟩ := DataW.trod_string Tryz.underlying9 h5
  simp at e0 e1 e2 e3 e4 e5
  obtain ⟨B1, m1, d1, B2, m2, d2, B3, m3, d3, s6, e6, k1, k2, k3, -⟩ := openState h6
  simp at e6
  obtain ⟨e6, e7, e8⟩ := e6
  subst e0 e1 e2 e3 e4 e5 e6 e7 e8
  exact ⟨⟨x0, A1, n1, c1_, x1, x2, x3, x4, x5, B1, m1, d1, B2, m2, d2, B3, m3, d3⟩, rfl, ⟨hr1, hc1, w5, w3, w0, w2, by show m1 ≤ maxLen; omega, by show m2 ≤ maxLen; omega, by show m3 ≤ maxLen; omega⟩⟩
theorem openOps17 {fuel : Nat} {cs : List Value} {x : DataW H × List MemPlace} (h : DataW.trod enc Tryz.prog W base sp hd fuel 45 cs = some x) :
    ∃ (A : Option Addr) (n c : Nat) (xs : List Op17), cs = [.slice A n c] ∧ (n ≤ c ∧ c ≤ maxLen) ∧ RdC Op17.cells 9 W W.heap.size A n xs ∧ (∀ p ∈ xs, OkOp17 W p) ∧ ∀ R, (∀ m ∈ x.1.weights Tryz.prog 45, m ≤ R) → n * Tryz.prog.bytesOf 52 ≤ R :=
  openRdC (cells := Op17.cells) (OkOp17 W) 9 Tryz.underlying45 (by kernel_rfl) (by omega) (fun fuel cs x h => openOp17 h) h
theorem openDev17 {fuel : Nat} {cs : List Value} {x : DataW H × List MemPlace} (h : DataW.trod enc Tryz.prog W base sp hd fuel 89 cs = some x) : ∃ p : Dv, cs = Dv.cells p ∧ True := by
  have c0 : Tryz.prog.cellsOf 9 = 1 := by kernel_rfl
  have c1 : Tryz.prog.cellsOf 3 = 1 := by kernel_rfl
  have cz : Tryz.prog.cellsOf 89 = 3 := by kernel_rfl
  obtain ⟨ys, m, rfl, rfl, hlen, hl, hf⟩ := DataW.trod_struct Tryz.underlying89 h
  rw [cz] at hlen
  obtain ⟨v0, v1, v2, rfl⟩ := split3_17 hlen
  obtain ⟨y0, y1, y2, rfl⟩ := split3_17 hl
  have h0 := hf 0 _ rfl
  have h1 := hf 1 _ rfl
  have h2 := hf 2 _ rfl
  simp [c0, c1] at h0 h1 h2
  obtain ⟨x0, e0, -, w0⟩ := DataW.trod_string Tryz.underlying9 h0
  obtain ⟨x1, e1, rfl, w1⟩ := DataW.trod_int Tryz.underlying3 h1
  obtain ⟨x2, e2, rfl, w2⟩ := DataW.trod_int Tryz.underlying3 h2
  simp at e0 e1 e2
  subst e0 e1 e2; exact ⟨⟨x0, x1, x2⟩, rfl, trivial⟩
theorem openPt17 {fuel : Nat} {cs : List Value} {x : DataW H × List MemPlace} (h : DataW.trod enc Tryz.prog W base sp hd fuel 35 cs = some x) : ∃ p : Pt, cs = Pt.cells p ∧ True := by
  have c0 : Tryz.prog.cellsOf 9 = 1 := by kernel_rfl
  have c1 : Tryz.prog.cellsOf 3 = 1 := by kernel_rfl
  have c2 : Tryz.prog.cellsOf 2 = 1 := by kernel_rfl
  have cz : Tryz.prog.cellsOf 35 = 6 := by kernel_rfl
  obtain ⟨ys, m, rfl, rfl, hlen, hl, hf⟩ := DataW.trod_struct Tryz.underlying35 h
  rw [cz] at hlen
  obtain ⟨v0, v1, v2, v3, v4, v5, rfl⟩ := split6_17 hlen
  obtain ⟨y0, y1, y2, y3, y4, y5, rfl⟩ := split6_17 hl
  have h0 := hf 0 _ rfl
  have h1 := hf 1 _ rfl
  have h2 := hf 2 _ rfl
  have h3 := hf 3 _ rfl
  have h4 := hf 4 _ rfl
  have h5 := hf 5 _ rfl
  simp [c0, c1, c2] at h0 h1 h2 h3 h4 h5
  obtain ⟨x0, e0, -, w0⟩ := DataW.trod_string Tryz.underlying9 h0
  obtain ⟨x1, e1, rfl, w1⟩ := DataW.trod_int Tryz.underlying3 h1
  obtain ⟨x2, e2, rfl, w2⟩ := DataW.trod_int Tryz.underlying3 h2
  obtain ⟨x3, e3, rfl, w3⟩ := DataW.trod_int Tryz.underlying3 h3
  obtain ⟨x4, e4, rfl, w4⟩ := DataW.trod_int Tryz.underlying2 h4
  obtain ⟨x5, e5, rfl, w5⟩ := DataW.trod_int Tryz.underlying2 h5
  simp at e0 e1 e2 e3 e4 e5
  subst e0 e1 e2 e3 e4 e5; exact ⟨⟨x0, x1, x2, x3, x4, x5⟩, rfl, trivial⟩
theorem openCa17 {fuel : Nat} {cs : List Value} {x : DataW H × List MemPlace} (h : DataW.trod enc Tryz.prog W base sp hd fuel 87 cs = some x) : ∃ p : Ca, cs = Ca.cells p ∧ RdI W W.heap.size .i64 p.A p.n p.ps ∧ p.n ≤ p.c ∧ p.c ≤ maxLen := by
  have c0 : Tryz.prog.cellsOf 9 = 1 := by kernel_rfl
  have c1 : Tryz.prog.cellsOf 3 = 1 := by kernel_rfl
  have c2 : Tryz.prog.cellsOf 2 = 1 := by kernel_rfl
  have c3 : Tryz.prog.cellsOf 57 = 1 := by kernel_rfl
  have cz : Tryz.prog.cellsOf 87 = 5 := by kernel_rfl
  obtain ⟨ys, m, rfl, rfl, hlen, hl, hf⟩ := DataW.trod_struct Tryz.underlying87 h
  rw [cz] at hlen
  obtain ⟨v0, v1, v2, v3, v4, rfl⟩ := split5_17 hlen
  obtain ⟨y0, y1, y2, y3, y4, rfl⟩ := split5_17 hl
  have h0 := hf 0 _ rfl
  have h1 := hf 1 _ rfl
  have h2 := hf 2 _ rfl
  have h3 := hf 3 _ rfl
  have h4 := hf 4 _ rfl
  simp [c0, c1, c2, c3] at h0 h1 h2 h3 h4
  obtain ⟨x0, e0, -, w0⟩ := DataW.trod_string Tryz.underlying9 h0
  obtain ⟨x1, e1, rfl, w1⟩ := DataW.trod_int Tryz.underlying3 h1
  obtain ⟨x2, e2, rfl, w2⟩ := DataW.trod_int Tryz.underlying3 h2
  obtain ⟨x3, e3, rfl, w3⟩ := DataW.trod_int Tryz.underlying2 h3
  obtain ⟨A4, n4, c4_, x4, e4, hc4, hm4, hr4, hw4, R4⟩ := openSl Tryz.underlying57 Tryz.underlying3 (by kernel_rfl) h4
  simp at e0 e1 e2 e3 e4
  subst e0 e1 e2 e3 e4; exact ⟨⟨x0, x1, x2, x3, A4, n4, c4_, x4⟩, rfl, hr4, hc4, hm4⟩
theorem openEf17 {fuel : Nat} {cs : List Value} {x : DataW H × List MemPlace} (h : DataW.trod enc Tryz.prog W base sp hd fuel 59 cs = some x) : ∃ p : Ef, cs = Ef.cells p ∧ RdI W W.heap.size .i64 p.A p.n p.ps ∧ p.n ≤ p.c ∧ p.c ≤ maxLen := by
  have c0 : Tryz.prog.cellsOf 9 = 1 := by kernel_rfl
  have c1 : Tryz.prog.cellsOf 3 = 1 := by kernel_rfl
  have c2 : Tryz.prog.cellsOf 57 = 1 := by kernel_rfl
  have cz : Tryz.prog.cellsOf 59 = 5 := by kernel_rfl
  obtain ⟨ys, m, rfl, rfl, hlen, hl, hf⟩ := DataW.trod_struct Tryz.underlying59 h
  rw [cz] at hlen
  obtain ⟨v0, v1, v2, v3, v4, rfl⟩ := split5_17 hlen
  obtain ⟨y0, y1, y2, y3, y4, rfl⟩ := split5_17 hl
  have h0 := hf 0 _ rfl
  have h1 := hf 1 _ rfl
  have h2 := hf 2 _ rfl
  have h3 := hf 3 _ rfl
  have h4 := hf 4 _ rfl
  simp [c0, c1, c2] at h0 h1 h2 h3 h4
  obtain ⟨x0, e0, -, w0⟩ := DataW.trod_string Tryz.underlying9 h0
  obtain ⟨x1, e1, rfl, w1⟩ := DataW.trod_int Tryz.underlying3 h1
  obtain ⟨x2, e2, rfl, w2⟩ := DataW.trod_int Tryz.underlying3 h2
  obtain ⟨x3, e3, rfl, w3⟩ := DataW.trod_int Tryz.underlying3 h3
  obtain ⟨A4, n4, c4_, x4, e4, hc4, hm4, hr4, hw4, R4⟩ := openSl Tryz.underlying57 Tryz.underlying3 (by kernel_rfl) h4
  simp at e0 e1 e2 e3 e4
  subst e0 e1 e2 e3 e4; exact ⟨⟨x0, x1, x2, x3, A4, n4, c4_, x4⟩, rfl, hr4, hc4, hm4⟩
theorem openDevs17 {fuel : Nat} {cs : List Value} {x : DataW H × List MemPlace} (h : DataW.trod enc Tryz.prog W base sp hd fuel 22 cs = some x) :
    ∃ (A : Option Addr) (n c : Nat) (xs : List Dv), cs = [.slice A n c] ∧ (n ≤ c ∧ c ≤ maxLen) ∧ RdC Dv.cells 3 W W.heap.size A n xs ∧ (∀ p ∈ xs, (fun _ => True) p) ∧ ∀ R, (∀ m ∈ x.1.weights Tryz.prog 22, m ≤ R) → n * Tryz.prog.bytesOf 89 ≤ R :=
  have : Inhabited Dv := ⟨⟨ByteArray.empty, 0, 0⟩⟩
  openRdC (cells := Dv.cells) (fun _ => True) 3 Tryz.underlying22 (by kernel_rfl) (by omega) (fun fuel cs x h => openDev17 h) h
theorem openPts17 {fuel : Nat} {cs : List Value} {x : DataW H × List MemPlace} (h : DataW.trod enc Tryz.prog W base sp hd fuel 23 cs = some x) :
    ∃ (A : Option Addr) (n c : Nat) (xs : List Pt), cs = [.slice A n c] ∧ (n ≤ c ∧ c ≤ maxLen) ∧ RdC Pt.cells 6 W W.heap.size A n xs ∧ (∀ p ∈ xs, (fun _ => True) p) ∧ ∀ R, (∀ m ∈ x.1.weights Tryz.prog 23, m ≤ R) → n * Tryz.prog.bytesOf 35 ≤ R :=
  have : Inhabited Pt := ⟨⟨ByteArray.empty, 0, 0, 0, 0, 0⟩⟩
  openRdC (cells := Pt.cells) (fun _ => True) 6 Tryz.underlying23 (by kernel_rfl) (by omega) (fun fuel cs x h => openPt17 h) h
theorem openCas17 {fuel : Nat} {cs : List Value} {x : DataW H × List MemPlace} (h : DataW.trod enc Tryz.prog W base sp hd fuel 24 cs = some x) :
    ∃ (A : Option Addr) (n c : Nat) (xs : List Ca), cs = [.slice A n c] ∧ (n ≤ c ∧ c ≤ maxLen) ∧ RdC Ca.cells 5 W W.heap.size A n xs ∧ (∀ p ∈ xs, (fun p => RdI W W.heap.size .i64 p.A p.n p.ps ∧ p.n ≤ p.c ∧ p.c ≤ maxLen) p) ∧ ∀ R, (∀ m ∈ x.1.weights Tryz.prog 24, m ≤ R) → n * Tryz.prog.bytesOf 87 ≤ R :=
  have : Inhabited Ca := ⟨⟨ByteArray.empty, 0, 0, 0, none, 0, 0, []⟩⟩
  openRdC (cells := Ca.cells) (fun p => RdI W W.heap.size .i64 p.A p.n p.ps ∧ p.n ≤ p.c ∧ p.c ≤ maxLen) 5 Tryz.underlying24 (by kernel_rfl) (by omega) (fun fuel cs x h => openCa17 h) h
theorem openEfs17 {fuel : Nat} {cs : List Value} {x : DataW H × List MemPlace} (h : DataW.trod enc Tryz.prog W base sp hd fuel 25 cs = some x) :
    ∃ (A : Option Addr) (n c : Nat) (xs : List Ef), cs = [.slice A n c] ∧ (n ≤ c ∧ c ≤ maxLen) ∧ RdC Ef.cells 5 W W.heap.size A n xs ∧ (∀ p ∈ xs, (fun p => RdI W W.heap.size .i64 p.A p.n p.ps ∧ p.n ≤ p.c ∧ p.c ≤ maxLen) p) ∧ ∀ R, (∀ m ∈ x.1.weights Tryz.prog 25, m ≤ R) → n * Tryz.prog.bytesOf 59 ≤ R :=
  have : Inhabited Ef := ⟨⟨ByteArray.empty, 0, 0, 0, none, 0, 0, []⟩⟩
  openRdC (cells := Ef.cells) (fun p => RdI W W.heap.size .i64 p.A p.n p.ps ∧ p.n ≤ p.c ∧ p.c ≤ maxLen) 5 Tryz.underlying25 (by kernel_rfl) (by omega) (fun fuel cs x h => openEf17 h) h
theorem openMx {fuel : Nat} {cs : List Value} {x : DataW H × List MemPlace} (h : DataW.trod enc Tryz.prog W base sp hd fuel 27 cs = some x) : ∃ m : Mx, cs = m.cells ∧ OkMx W W.heap.size m ∧ m.key.size ≤ maxLen := by
  have c0 : Tryz.prog.cellsOf 2 = 1 := by kernel_rfl
  have c1 : Tryz.prog.cellsOf 9 = 1 := by kernel_rfl
  have c2 : Tryz.prog.cellsOf 22 = 1 := by kernel_rfl
  have c3 : Tryz.prog.cellsOf 23 = 1 := by kernel_rfl
  have c4 : Tryz.prog.cellsOf 24 = 1 := by kernel_rfl
  have c5 : Tryz.prog.cellsOf 25 = 1 := by kernel_rfl
  have cz : Tryz.prog.cellsOf 27 = 9 := by kernel_rfl
  obtain ⟨ys, m, rfl, rfl, hlen, hl, hf⟩ := DataW.trod_struct Tryz.underlying27 h
  rw [cz] at hlen
  obtain ⟨v0, v1, v2, v3, v4, v5, v6, v7, v8, rfl⟩ := split9_17 hlen
  obtain ⟨y0, y1, y2, y3, y4, y5, y6, y7, y8, rfl⟩ := split9_17 hl
  have h0 := hf 0 _ rfl
  have h1 := hf 1 _ rfl
  have h2 := hf 2 _ rfl
  have h3 := hf 3 _ rfl
  have h4 := hf 4 _ rfl
  have h5 := hf 5 _ rfl
  have h6 := hf 6 _ rfl
  have h7 := hf 7 _ rfl
  have h8 := hf 8 _ rfl
  simp [c0, c1, c2, c3, c4, c5] at h0 h1 h2 h3 h4 h5 h6 h7 h8
  obtain ⟨x0, e0, rfl, w0⟩ := DataW.trod_int Tryz.underlying2 h0
  obtain ⟨x1, e1, rfl, w1⟩ := DataW.trod_int Tryz.underlying2 h1
  obtain ⟨x2, e2, rfl, w2⟩ := DataW.trod_int Tryz.underlying2 h2
  obtain ⟨x3, e3, rfl, w3⟩ := DataW.trod_int Tryz.underlying2 h3
  obtain ⟨x4, e4, -, w4⟩ := DataW.trod_string Tryz.underlying9 h4
  obtain ⟨A5, n5, c5_, x5, e5, hc5, hr5, hq5, R5⟩ := openDevs17 h5
  obtain ⟨A6, n6, c6_, x6, e6, hc6, hr6, hq6, R6⟩ := openPts17 h6
  obtain ⟨A7, n7, c7_, x7, e7, hc7, hr7, hq7, R7⟩ := openCas17 h7
  obtain ⟨A8, n8, c8_, x8, e8, hc8, hr8, hq8, R8⟩ := openEfs17 h8
  simp at e0 e1 e2 e3 e4 e5 e6 e7 e8
  subst e0 e1 e2 e3 e4 e5 e6 e7 e8
  exact ⟨⟨x0, x1, x2, x3, x4, A5, n5, c5_, x5, A6, n6, c6_, x6, A7, n7, c7_, x7, A8, n8, c8_, x8⟩, rfl, ⟨hr5, hr6, hr7, hr8, hq7, hq8, hc5, hc6, hc7, hc8⟩, w4⟩
end
end Go.Proofs.YtgajbgdkgelkgaaGreat
namespace Go.Proofs.YtgajbgdkgelkgaaGreat
open Go.RowKit

set_option maxRecDepth 100000 in
set_option maxHeartbeats 1000000 in
theorem same15_any (A1 A2 : Option Addr) (n1 c1 n2 c2 B : Nat) (xs ys : List Int) (w : World) (h1 : RdI w B .i64 A1 n1 xs) (h2 : RdI w B .i64 A2 n2 ys) (hn1 : n1 ≤ maxLen) (hn2 : n2 ≤ maxLen) :
    Calls Tryz.prog 36 #[.slice A1 n1 c1, .slice A2 n2 c2] w fun e w' => e = .returned (.bool (decide (xs = ys))) ∧ ∃ m, w.drewN m = w' := by
  unfold maxLen at hn1 hn2
  have l1 := Lib.hid h1.len
  have l2 := Lib.hid h2.len
  by_cases hl : n1 = n2
  · subst hl
    go_enter Tryz.func36, Tryz.ntmps36
    go_wp2
    go_loopw [5] (fun i wr => ∃ k : Nat, k ≤ n1 ∧ i = .int .i64 k ∧ (∀ j, j < k → xs.getD j 0 = ys.getD j 0) ∧ ∃ m, w.drewN m = wr) (fun i _ => n1 - (intOf i).toNat)
    case atStart => exact ⟨0, by omega, rfl, fun j hj => absurd hj (by omega), 0, rfl⟩
    case round =>
      obtain ⟨k, hk, rfl, he, m, rfl⟩ := hrel
      have he' := Lib.hid he
      clear he
      by_cases hlt : k < n1
      · obtain ⟨b1, o1, rfl, hb1, hc1⟩ := h1.at_ hlt
        obtain ⟨b2, o2, rfl, hb2, hc2⟩ := h2.at_ hlt
        cases hz : (xs[k]?.getD 0 != ys[k]?.getD 0)
        · have hz' := Lib.hid hz
          go_wp2_with fail
          go_quiet (fail)
          go_wp2
          go_roundw
          case rel =>
            refine ⟨k + 1, by omega, by go_num, fun j hj => ?_, m + nq, rfl⟩
            rcases Nat.lt_succ_iff_lt_or_eq.1 hj with h | rfl
            · exact he'.out j h
            · have := hz'.out; simpa using this
          case measure => simp [intOf]; omega
        · have hz' := Lib.hid hz
          go_wp2_with fail
          go_quiet (fail)
          go_wp2
          go_ret
          refine ⟨?_, m + nq, by simp⟩
          have h : ¬ xs = ys := by rintro rfl; have := hz'.out; simp at this
          simp [h]
      · obtain rfl : k = n1 := by omega
        have e : xs = ys := by
          apply List.ext_getElem?
          intro j
          by_cases hj : j < k
          · have := he'.out j hj
            rw [List.getD_eq_getElem?_getD, List.getD_eq_getElem?_getD, List.getElem?_eq_getElem (by rw [l1.out]; exact hj), List.getElem?_eq_getElem (by rw [l2.out]; exact hj)] at this
            rw [List.getElem?_eq_getElem (by rw [l1.out]; exact hj), List.getElem?_eq_getElem (by rw [l2.out]; exact hj)]
            exact congrArg some this
          · rw [List.getElem?_eq_none (by rw [l1.out]; omega), List.getElem?_eq_none (by rw [l2.out]; omega)]
        have e' := Lib.hid e
        clear e
        go_wp2
        go_ret
        exact ⟨by simp [e'.out], m, rfl⟩
  · have hne : ¬ xs = ys := by rintro rfl; exact hl (l1.out.symm.trans l2.out)
    have hne' := Lib.hid hne
    clear hne
    go_enter Tryz.func36, Tryz.ntmps36
    go_wp2
    go_ret
    exact ⟨by simp [hne'.out], 0, rfl⟩
end Go.Proofs.YtgajbgdkgelkgaaGreat
