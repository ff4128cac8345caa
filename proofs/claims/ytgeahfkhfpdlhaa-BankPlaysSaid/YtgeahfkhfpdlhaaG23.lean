/- Layer 23: a view, opened: what a reading of it says of memory. · Layer 23: calls that are read: opened. · Layer 23: a view opened; how much it is. · Layer 23, the walks: great. -/
import Derived.Test.YtgeahfkhfpdlhaaG17
import Derived.Test.YtgeahfkhfpdlhaaG18
import Derived.Deep.QuietTactic
namespace Go.Proofs.Ytgeahfkhfpdlhaa
open Go.ChangeShapes Go.WideShapes Go.ChangeAt Go.RowKit Go.Deep

section
variable {H : Type} {enc : TypeId × Value → H} {W : World} {base : Nat} {sp : Nat → Bool} {hd : Bool}
theorem openBools {fuel : Nat} {cs : List Value} {x : DataW H × List MemPlace} (h : DataW.trod enc Try.prog W base sp hd fuel 85 cs = some x) :
    ∃ (A : Option Addr) (c : Nat) (xs : List Bool), cs = [.slice A xs.length c] ∧ xs.length ≤ maxLen ∧ RdV W W.heap.size A xs.length (xs.map Value.bool) ∧ ∀ R, (∀ m ∈ x.1.weights Try.prog 85, m ≤ R) → xs.length ≤ R := by
  have hby : Try.prog.bytesOf 4 = 1 := by kernel_rfl
  obtain ⟨A, n, c, rfl, hnc, hcm, hel, hR⟩ := openElems (fun cs => ∃ b, cs = [.bool b]) 1 Try.underlying85 (by kernel_rfl) (by omega)
    (fun fuel cs x h => by obtain ⟨b, e, _⟩ := DataW.trod_bool Try.underlying4 h; exact ⟨b, e⟩) h
  have hch : ∀ j, j < n → ∃ v : Bool, ∃ b o, A = some ⟨b, o, none⟩ ∧ b < W.heap.size ∧ W.cell? ⟨b, o + j, none⟩ = some (.bool v) := fun j hj => by
    obtain ⟨b, o, e, hb, vs, _, ⟨v, e1⟩, hcell⟩ := hel j hj
    have := hcell 0 (by omega)
    rw [Nat.mul_one, Nat.add_zero, e1] at this
    exact ⟨v, b, o, e, hb, this⟩
  obtain ⟨f, hf⟩ := choose_lt hch
  have hl : ((List.range n).map f).length = n := by simp
  refine ⟨A, c, (List.range n).map f, by rw [hl], by omega, fun hn => ?_, fun R h => ?_⟩
  · rw [hl] at hn
    obtain ⟨b, o, e, hb, _⟩ := hf 0 hn
    refine ⟨b, o, e, hb, fun j hj => ?_⟩
    rw [List.length_map, hl] at hj
    obtain ⟨b', o', e', _, hc⟩ := hf j hj
    obtain ⟨rfl, rfl⟩ : b = b' ∧ o = o' := by have := e.symm.trans e'; simpa using this
    rw [hc]
    simp [hj]
  · have := hR R h
    rw [hby, Nat.mul_one] at this
    rw [hl]; exact this
theorem three_of {α : Type} {cs : List α} (h : cs.length = 3) : ∃ a b c, cs = [a, b, c] := by
  match cs, h with
  | [a, b, c], _ => exact ⟨a, b, c, rfl⟩
theorem openNote {fuel : Nat} {cs : List Value} {x : DataW H × List MemPlace} (h : DataW.trod enc Try.prog W base sp hd fuel 105 cs = some x) : ∃ t : Nt, cs = t.cells := by
  have c1 : Try.prog.cellsOf 3 = 1 := by kernel_rfl
  have c2 : Try.prog.cellsOf 2 = 1 := by kernel_rfl
  have c3 : Try.prog.cellsOf 105 = 3 := by kernel_rfl
  obtain ⟨ys, m, rfl, rfl, hlen, hl, hf⟩ := DataW.trod_struct Try.underlying105 h
  rw [c3] at hlen
  obtain ⟨v0, v1, v2, rfl⟩ := three_of hlen
  obtain ⟨y0, y1, y2, rfl⟩ := three_of hl
  have h0 := hf 0 _ rfl
  have h1 := hf 1 _ rfl
  have h2 := hf 2 _ rfl
  simp [c1, c2] at h0 h1 h2
  obtain ⟨x0, e0, rfl, _⟩ := DataW.trod_int Try.underlying3 h0
  obtain ⟨x1, e1, rfl, _⟩ := DataW.trod_int Try.underlying3 h1
  obtain ⟨x2, e2, rfl, _⟩ := DataW.trod_int Try.underlying2 h2
  simp at e0 e1 e2
  subst e0 e1 e2
  exact ⟨⟨x0, x1, x2⟩, rfl⟩
theorem notes_length (l : List Nt) : (l.flatMap Nt.cells).length = 3 * l.length := by
  induction l with
  | nil => rfl
  | cons t l ih => rw [List.flatMap_cons, List.length_append, ih, List.length_cons]; show 3 + _ = _; omega
theorem openNotes {fuel : Nat} {cs : List Value} {x : DataW H × List MemPlace} (h : DataW.trod enc Try.prog W base sp hd fuel 86 cs = some x) :
    ∃ (A : Option Addr) (c : Nat) (xs : List Nt), cs = [.slice A xs.length c] ∧ xs.length ≤ maxLen ∧ RdV W W.heap.size A xs.length (xs.flatMap Nt.cells) ∧ ∀ R, (∀ m ∈ x.1.weights Try.prog 86, m ≤ R) → xs.length ≤ R := by
  have hby : Try.prog.bytesOf 105 = 24 := by kernel_rfl
  obtain ⟨A, n, c, rfl, hnc, hcm, hel, hR⟩ := openElems (fun cs => ∃ t : Nt, cs = t.cells) 3 Try.underlying86 (by kernel_rfl) (by omega) (fun fuel cs x h => openNote h) h
  have hch : ∀ j, j < n → ∃ v : Nt, ∃ b o, A = some ⟨b, o, none⟩ ∧ b < W.heap.size ∧ ∀ i, i < 3 → W.cell? ⟨b, o + j * 3 + i, none⟩ = v.cells[i]? := fun j hj => by
    obtain ⟨b, o, e, hb, vs, _, ⟨v, e1⟩, hcell⟩ := hel j hj
    subst e1
    exact ⟨v, b, o, e, hb, hcell⟩
  have : Inhabited Nt := ⟨⟨0, 0, 0⟩⟩
  obtain ⟨f, hf⟩ := choose_lt hch
  have hl : ((List.range n).map f).length = n := by simp
  refine ⟨A, c, (List.range n).map f, by rw [hl], by omega, fun hn => ?_, fun R h => ?_⟩
  · rw [hl] at hn
    obtain ⟨b, o, e, hb, _⟩ := hf 0 hn
    refine ⟨b, o, e, hb, fun j hj => ?_⟩
    rw [notes_length, hl] at hj
    obtain ⟨b', o', e', _, hc⟩ := hf (j / 3) (by omega)
    obtain ⟨rfl, rfl⟩ : b = b' ∧ o = o' := by have := e.symm.trans e'; simpa using this
    have h1 := hc (j % 3) (by omega)
    rw [show o + j / 3 * 3 + j % 3 = o + j by omega] at h1
    have h2 := flat_get ((List.range n).map f) (j / 3) (j % 3) (by rw [hl]; omega) (by omega)
    rw [show 3 * (j / 3) + j % 3 = j by omega] at h2
    rw [h1, h2]
    simp
  · have := hR R h
    rw [hby] at this
    rw [hl]; omega
theorem seven_of {α : Type} {cs : List α} (h : cs.length = 7) : ∃ a b c d e f g, cs = [a, b, c, d, e, f, g] := by
  match cs, h with
  | [a, b, c, d, e, f, g], _ => exact ⟨a, b, c, d, e, f, g, rfl⟩
def Vw.small (v : Vw) (R : Nat) : Prop := v.looks.length ≤ R ∧ v.cs.length ≤ R ∧ v.es.length ≤ R ∧ v.bs.length ≤ R ∧ v.ts.length ≤ R ∧ v.ns.length ≤ R
theorem openView {fuel : Nat} {cs : List Value} {x : DataW H × List MemPlace} (h : DataW.trod enc Try.prog W base sp hd fuel 88 cs = some x) :
    ∃ v : Vw, cs = v.cells.toList ∧ RdVw W v ∧ ∀ R, (∀ m ∈ x.1.weights Try.prog 88, m ≤ R) → v.small R := by
  have c1 : Try.prog.cellsOf 3 = 1 := by kernel_rfl
  have c2 : Try.prog.cellsOf 71 = 1 := by kernel_rfl
  have c3 : Try.prog.cellsOf 85 = 1 := by kernel_rfl
  have c4 : Try.prog.cellsOf 86 = 1 := by kernel_rfl
  have c5 : Try.prog.cellsOf 88 = 7 := by kernel_rfl
  have hby : Try.prog.bytesOf 3 = 8 := by kernel_rfl
  obtain ⟨ys, m, rfl, rfl, hlen, hl, hf⟩ := DataW.trod_struct Try.underlying88 h
  rw [c5] at hlen
  obtain ⟨v0, v1, v2, v3, v4, v5, v6, rfl⟩ := seven_of hlen
  obtain ⟨y0, y1, y2, y3, y4, y5, y6, rfl⟩ := seven_of hl
  have h0 := hf 0 _ rfl
  have h1 := hf 1 _ rfl
  have h2 := hf 2 _ rfl
  have h3 := hf 3 _ rfl
  have h4 := hf 4 _ rfl
  have h5 := hf 5 _ rfl
  have h6 := hf 6 _ rfl
  simp [c1, c2, c3, c4] at h0 h1 h2 h3 h4 h5 h6
  obtain ⟨A0, n0, k0, xs0, e0, _, hm0, r0, _, R0⟩ := openSl Try.underlying71 Try.underlying3 (by kernel_rfl) h0
  obtain ⟨x1, e1, rfl, _⟩ := DataW.trod_int Try.underlying3 h1
  obtain ⟨A2, k2, xs2, e2, m2, r2, R2⟩ := openBools h2
  obtain ⟨A3, k3, xs3, e3, m3, r3, R3⟩ := openBools h3
  obtain ⟨A4, k4, xs4, e4, m4, r4, R4⟩ := openBools h4
  obtain ⟨A5, k5, xs5, e5, m5, r5, R5⟩ := openBools h5
  obtain ⟨A6, k6, xs6, e6, m6, r6, R6⟩ := openNotes h6
  have hn0 := r0.len
  subst hn0
  simp at e0 e1 e2 e3 e4 e5 e6
  subst e0 e1 e2 e3 e4 e5 e6
  refine ⟨⟨A0, k0, xs0, x1, A2, k2, xs2, A3, k3, xs3, A4, k4, xs4, A5, k5, xs5, A6, k6, xs6⟩, rfl, ⟨r0, r2, r3, r4, r5, r6, by have := r0.len; dsimp only; omega, m2, m3, m4, m5, m6⟩, fun R hR => ?_⟩
  simp only [DataW.weights, Try.underlying88] at hR
  have q0 := R0 R (fun m hm => hR m (DataW.weights_mem_each (j := 0) rfl rfl m hm))
  rw [hby] at q0
  exact ⟨by show xs0.length ≤ R; omega, R2 R (fun m hm => hR m (DataW.weights_mem_each (j := 2) rfl rfl m hm)), R3 R (fun m hm => hR m (DataW.weights_mem_each (j := 3) rfl rfl m hm)), R4 R (fun m hm => hR m (DataW.weights_mem_each (j := 4) rfl rfl m hm)), R5 R (fun m hm => hR m (DataW.weights_mem_each (j := 5) rfl rfl m hm)), R6 R (fun m hm => hR m (DataW.weights_mem_each (j := 6) rfl rfl m hm))⟩
end
end Go.Proofs.Ytgeahfkhfpdlhaa
namespace Go.Proofs.Ytgeahfkhfpdlhaa
open Go.ChangeShapes Go.WideShapes Go.ChangeAt Go.RowKit Go.Deep

section
variable {H : Type} {enc : TypeId × Value → H} {P : Program} {W : World} {base : Nat} {sp : Nat → Bool} {hd : Bool}
theorem weightsAll_in {e : TypeId} : ∀ {l : List (DataW H)} {d : DataW H}, d ∈ l → ∀ n ∈ d.weights P e, n ∈ DataW.weightsAll P e l
  | [], _, h, _, _ => by cases h
  | x :: l, d, h, n, hn => by
    simp only [DataW.weightsAll, List.mem_append]
    rcases List.mem_cons.1 h with rfl | h
    · exact .inl hn
    · exact .inr (weightsAll_in h n hn)
/-- Each element of a slice, by what each reading of it says, with what it weighs. -/
theorem openElemsW {t e : TypeId} {fuel : Nat} {cs : List Value} {x : DataW H × List MemPlace} (Q : List Value → DataW H → Prop) (sz : Nat) (ht : P.underlying t = some (.slice e)) (hc : P.cellsOf e = sz) (h0 : 0 < sz)
    (hQ : ∀ (fuel : Nat) (cs : List Value) (x : DataW H × List MemPlace), DataW.trod enc P W base sp hd fuel e cs = some x → Q cs x.1) (h : DataW.trod enc P W base sp hd fuel t cs = some x) :
    ∃ (A : Option Addr) (n c : Nat), cs = [.slice A n c] ∧ n ≤ c ∧ c ≤ maxLen ∧ (∀ j, j < n → ∃ b o, A = some ⟨b, o, none⟩ ∧ b < W.heap.size ∧ ∃ (vs : List Value) (y : DataW H), vs.length = sz ∧ Q vs y ∧ (∀ m ∈ y.weights P e, m ∈ x.1.weights P t) ∧ ∀ i, i < sz → W.cell? ⟨b, o + j * sz + i, none⟩ = vs[i]?) ∧
      ∀ R, (∀ m ∈ x.1.weights P t, m ≤ R) → n * P.bytesOf e ≤ R := by
  rcases open_slice ht h with ⟨rfl, rfl⟩ | ⟨a, len, cap, m, f, D, Pl, rfl, hb, hl, hm, hmm, rfl, hx⟩
  · exact ⟨none, 0, 0, rfl, Nat.le_refl _, by unfold maxLen; omega, fun j hj => absurd hj (by omega), fun R _ => by omega⟩
  · have hlm : len ≤ m := by rw [hmm]; split <;> omega
    refine ⟨some a, len, cap, rfl, hl, hm, fun j hj => ?_, fun R hR => ?_⟩
    · have ha : ∃ b o, a = ⟨b, o, none⟩ := by
        obtain ⟨vs, h1, h2⟩ := hx 0 (by omega)
        obtain ⟨_, hlen, hcell⟩ := World.cells?_some h1
        rw [hc] at hlen hcell
        have c0 := hcell 0 h0
        rw [add_add, Nat.zero_mul, List.getElem?_eq_getElem (by omega)] at c0
        have e0 : a.add (0 + 0) = a := by cases a; simp [Addr.add]
        rw [e0] at c0
        exact addr_flat c0
      obtain ⟨b, o', rfl⟩ := ha
      obtain ⟨vs, h1, h2⟩ := hx j (by omega)
      obtain ⟨_, hlen, hcell⟩ := World.cells?_some h1
      rw [hc] at hlen hcell
      have c0 := hcell 0 h0
      rw [add_add, addr_add, List.getElem?_eq_getElem (by omega)] at c0
      refine ⟨b, o', rfl, World.block_lt_of_cell? W _ c0, vs, _, hlen, hQ _ _ _ h2, fun k hk => ?_, fun i hi => ?_⟩
      · simp only [DataW.weights, ht]
        refine List.mem_cons_of_mem _ (List.mem_append_left _ (weightsAll_in (d := D j) ?_ k hk))
        exact List.mem_map.2 ⟨j, List.mem_range.2 hj, rfl⟩
      · rw [← hcell i hi, addr_add, addr_add]
    · have := hR ((((List.range len).map D).length + ((List.range (m - len)).map fun j => D (len + j)).length) * P.bytesOf e) (by
        simp only [DataW.weights, ht]; exact List.mem_cons_self ..)
      simp only [List.length_map, List.length_range] at this
      exact Nat.le_trans (Nat.mul_le_mul_right _ (Nat.le_add_right _ _)) this
end
structure Op23 where
  what : Int
  a : Option Addr
  m : Nat
  c : Nat
  xs : List Int
  v : Vw
def Op23.cells (p : Op23) : List Value := .int .i64 p.what :: .slice p.a p.m p.c :: p.v.cells.toList
/-- What is true of a call, and stays so while its memory stands. -/
structure OkOp (w : World) (R : Nat) (p : Op23) : Prop where
  mc : p.m ≤ p.c ∧ p.c ≤ maxLen
  rd : RdI w w.heap.size .u8 p.a p.m p.xs
  wf : ∀ y ∈ p.xs, (Lit.int .u8 y).wf = true
  vw : RdVw w p.v
  small : p.v.small R
/-- The slice value '.slice A n c' reads as those calls. -/
def RdOp23 (w : World) (R : Nat) (A : Option Addr) (n : Nat) (ps : List Op23) : Prop :=
  ps.length = n ∧ ∀ j, j < n → ∃ b o, A = some ⟨b, o, none⟩ ∧ b < w.heap.size ∧ ∃ p ∈ ps, ps[j]? = some p ∧ (∀ i, i < 9 → w.cell? ⟨b, o + j * 9 + i, none⟩ = p.cells[i]?) ∧ OkOp w R p
theorem RdOp23.len {w : World} {R n : Nat} {A : Option Addr} {ps : List Op23} (h : RdOp23 w R A n ps) : ps.length = n := h.1
theorem OkOp.ext {w w' : World} {R : Nat} {p : Op23} (h : OkOp w R p) (E : Ext w w') : OkOp w' R p := ⟨h.mc, h.rd.ext E, h.wf, h.vw.ext E, h.small⟩
theorem RdOp23.ext {w w' : World} {R n : Nat} {A : Option Addr} {ps : List Op23} (h : RdOp23 w R A n ps) (E : Ext w w') : RdOp23 w' R A n ps :=
  ⟨h.1, fun j hj => by
    obtain ⟨b, o, e, hb, p, hp, h1, hc, ho⟩ := h.2 j hj
    exact ⟨b, o, e, Nat.lt_of_lt_of_le hb E.size, p, hp, h1, fun i hi => (E.cell _ hb).trans (hc i hi), ho.ext E⟩⟩
section
variable {H : Type} {enc : TypeId × Value → H} {W : World} {base : Nat} {sp : Nat → Bool} {hd : Bool}
theorem split_nine {α : Type} {cs : List α} (h : cs.length = 9) : ∃ a b c, cs = a :: b :: c ∧ c.length = 7 := by
  match cs, h with
  | a :: b :: c, h => exact ⟨a, b, c, rfl, by simpa using h⟩
theorem openOp23 {fuel : Nat} {cs : List Value} {x : DataW H × List MemPlace} (h : DataW.trod enc Try.prog W base sp hd fuel 94 cs = some x) :
    ∃ p : Op23, cs = p.cells ∧ ∀ R, (∀ m ∈ x.1.weights Try.prog 94, m ≤ R) → OkOp W R p := by
  have c1 : Try.prog.cellsOf 3 = 1 := by kernel_rfl
  have c2 : Try.prog.cellsOf 33 = 1 := by kernel_rfl
  have c3 : Try.prog.cellsOf 88 = 7 := by kernel_rfl
  have c4 : Try.prog.cellsOf 94 = 9 := by kernel_rfl
  obtain ⟨ys, m, rfl, rfl, hlen, hl, hf⟩ := DataW.trod_struct Try.underlying94 h
  rw [c4] at hlen
  obtain ⟨v0, v1, vs, rfl, h7⟩ := split_nine hlen
  obtain ⟨y0, y1, y2, rfl⟩ := three_of hl
  have h0 := hf 0 _ rfl
  have h1 := hf 1 _ rfl
  have h2 := hf 2 _ rfl
  simp [c1, c2, c3] at h0 h1 h2
  obtain ⟨x0, e0, rfl, w0⟩ := DataW.trod_int Try.underlying3 h0
  obtain ⟨A, n, c, xs, e1, hc, hm, hr, hw, _⟩ := openSl Try.underlying33 Try.underlying5 (by kernel_rfl) h1
  rw [List.take_of_length_le (by omega)] at h2
  obtain ⟨v, e2, hv, hs⟩ := openView h2
  simp at e0 e1
  subst e0 e1
  refine ⟨⟨x0, A, n, c, xs, v⟩, by unfold Op23.cells; rw [e2], fun R hR => ⟨⟨hc, hm⟩, hr, hw, hv, hs R fun m hm => ?_⟩⟩
  refine hR m ?_
  simp only [DataW.weights, Try.underlying94]
  exact DataW.weights_mem_each (j := 2) rfl rfl m hm
theorem openOps23 {fuel : Nat} {cs : List Value} {x : DataW H × List MemPlace} (h : DataW.trod enc Try.prog W base sp hd fuel 84 cs = some x) :
    ∃ (A : Option Addr) (n c : Nat) (ps : List Op23), cs = [.slice A n c] ∧ n ≤ c ∧ c ≤ maxLen ∧ ∀ R, (∀ m ∈ x.1.weights Try.prog 84, m ≤ R) → RdOp23 W R A n ps ∧ n * 96 ≤ R := by
  have hby : 96 ≤ Try.prog.bytesOf 94 := by
    have : Try.prog.bytesOf 94 = 184 := by kernel_rfl
    omega
  obtain ⟨A, n, c, rfl, hnc, hcm, hel, hR⟩ := openElemsW (fun cs y => ∃ p : Op23, cs = p.cells ∧ ∀ R, (∀ m ∈ y.weights Try.prog 94, m ≤ R) → OkOp W R p) 9 Try.underlying84 (by kernel_rfl) (by omega)
    (fun fuel cs x h => openOp23 h) h
  have hch : ∀ j, j < n → ∃ p : Op23, ∃ b o, A = some ⟨b, o, none⟩ ∧ b < W.heap.size ∧ (∀ i, i < 9 → W.cell? ⟨b, o + j * 9 + i, none⟩ = p.cells[i]?) ∧ ∀ R, (∀ m ∈ x.1.weights Try.prog 84, m ≤ R) → OkOp W R p := fun j hj => by
    obtain ⟨b, o, e, hb, vs, y, _, ⟨p, e1, h1⟩, hsub, hcell⟩ := hel j hj
    subst e1
    exact ⟨p, b, o, e, hb, hcell, fun R hR => h1 R fun m hm => hR m (hsub m hm)⟩
  have : Inhabited Op23 := ⟨⟨0, none, 0, 0, [], ⟨none, 0, [], 0, none, 0, [], none, 0, [], none, 0, [], none, 0, [], none, 0, []⟩⟩⟩
  obtain ⟨f, hf⟩ := choose_lt hch
  refine ⟨A, n, c, (List.range n).map f, rfl, hnc, hcm, fun R hRw => ⟨⟨by simp, fun j hj => ?_⟩, Nat.le_trans (Nat.mul_le_mul_left n hby) (hR R hRw)⟩⟩
  obtain ⟨b, o, e, hb, hc, hok⟩ := hf j hj
  exact ⟨b, o, e, hb, f j, List.mem_map.2 ⟨j, List.mem_range.2 hj, rfl⟩, by simp [hj], hc, hok R hRw⟩
end
end Go.Proofs.Ytgeahfkhfpdlhaa
namespace Go.Proofs.Ytgeahfkhfpdlhaa
open Go.RowKit

def GVPost (v : Vw) (w : World) (e : Ending) (w' : World) : Prop :=
  ∃ x, e = .returned (.bool x) ∧ (x = false → v.looks.length ≤ 900 ∧ v.cs.length ≤ 900 ∧ v.es.length ≤ 900 ∧ v.bs.length ≤ 900 ∧ v.ts.length ≤ 900 ∧ v.ns.length ≤ 900) ∧ Ext w w'
set_option maxRecDepth 100000 in
set_option maxHeartbeats 1600000 in
theorem greatView_any (v : Vw) (w : World) (h0 : v.looks.length ≤ 1000000000000000) (h1 : v.cs.length ≤ 1000000000000000) (h2 : v.es.length ≤ 1000000000000000) (h3 : v.bs.length ≤ 1000000000000000) (h4 : v.ts.length ≤ 1000000000000000) (h5 : v.ns.length ≤ 1000000000000000) :
    Calls Try.prog 58 #[.agg v.cells] w (GVPost v w) := by
  unfold GVPost Vw.cells
  obtain ⟨aL, cL, looks, horn, aC, cC, cs, aE, cE, es, aB, cB, bs, aT, cT, ts, aN, cN, ns⟩ := v
  dsimp only at *
  generalize looks.length = n0 at *
  generalize cs.length = n1 at *
  generalize es.length = n2 at *
  generalize bs.length = n3 at *
  generalize ts.length = n4 at *
  generalize ns.length = n5 at *
  have c0 := cellsAt (heap_alloc_new w (.cells #[.slice aL n0 cL, .int .i64 horn, .slice aC n1 cC, .slice aE n2 cE, .slice aB n3 cB, .slice aT n4 cT, .slice aN n5 cN] 88))
  have E := (Ext.refl w).goA (.cells #[.slice aL n0 cL, .int .i64 horn, .slice aC n1 cC, .slice aE n2 cE, .slice aB n3 cB, .slice aT n4 cT, .slice aN n5 cN] 88)
  go_enter Try.func58, Try.ntmps58
  go_wp2_with fail
  go_ret
  refine ⟨_, rfl, fun h => ?_, E⟩
  simp at h
  omega
end Go.Proofs.Ytgeahfkhfpdlhaa
namespace Go.Proofs.Ytgeahfkhfpdlhaa
open Go.RowKit

def GrPost (n : Nat) (ps : List Op23) (w : World) (e : Ending) (w' : World) : Prop := ∃ x, e = .returned (.bool x) ∧ (x = false → n ≤ 100 ∧ ∀ p ∈ ps, p.m < 9000) ∧ Ext w w'
set_option maxRecDepth 100000 in
set_option maxHeartbeats 3200000 in
theorem great23_any (A : Option Addr) (n c R : Nat) (ps : List Op23) (w : World) (hx : RdOp23 w R A n ps) (hR : R ≤ 1000000000000000) (hn : n * 96 ≤ 140737488351232) :
    Calls Try.prog 57 #[.slice A n c] w (GrPost n ps w) := by
  have hx' := Lib.hid hx
  have hR' := Lib.hid hR
  clear hx hR
  go_enter Try.func57, Try.ntmps57
  go_wp2_with fail
  go_loopw [3, 4] (fun s i wr => ∃ (k : Nat) (z : Int), k ≤ n ∧ i = .int .i64 k ∧ s = .int .i64 z ∧ 0 ≤ z ∧ z ≤ 1466015503659 + 9000 ∧ (z < 9000 → ∀ p ∈ ps.take k, p.m < 9000) ∧ Ext w wr) (fun _ i _ => n - (intOf i).toNat)
  case atStart => exact ⟨0, (n : Int), by omega, rfl, rfl, by omega, by omega, fun _ p hp => by simp at hp, Ext.refl w⟩
  case round =>
    obtain ⟨k, z, hk, rfl, rfl, hz0, hz1, hm, hE⟩ := hrel
    have hm' := Lib.hid hm
    clear hm
    by_cases hlt : k < n
    · by_cases hz : z < 9000
      · obtain ⟨b, o, rfl, hb, p, hp, hpk, hc, hok⟩ := hx'.out.2 k hlt
        have f1 : decide (z < 9000) = true := by simp; omega
        have hmp : (p.m : Int) ≤ maxLen := by have := hok.mc.1; have := hok.mc.2; omega
        have hsm := hok.small
        unfold Vw.small at hsm
        obtain ⟨s0, s1, s2, s3, s4, s5⟩ := hsm
        have hRR := hR'.out
        have htk : ps.take (k + 1) = ps.take k ++ [p] := by
          have hkl : k < ps.length := by rw [hx'.out.len]; exact hlt
          rw [List.take_succ_eq_append_getElem hkl]
          congr 1
          rw [List.getElem?_eq_getElem hkl] at hpk
          injection hpk with hpk
          rw [hpk]
        have htk' := Lib.hid htk
        have hgv := greatView_any p.v wr (by omega) (by omega) (by omega) (by omega) (by omega) (by omega)
        unfold GVPost Vw.cells at hgv
        have hgv' := Lib.hid hgv
        have c1 : wr.cell? ⟨b, o + k * 9 + 1, none⟩ = some (.slice p.a p.m p.c) := (hE.cell _ hb).trans (hc 1 (by omega))
        have e0 : wr.cell? ⟨b, o + k * 9 + 2, none⟩ = some (.slice p.v.aL p.v.looks.length p.v.cL) := (hE.cell _ hb).trans (hc 2 (by omega))
        have e1 : wr.cell? ⟨b, o + k * 9 + 3, none⟩ = some (.int .i64 p.v.horn) := (hE.cell _ hb).trans (hc 3 (by omega))
        have e2 : wr.cell? ⟨b, o + k * 9 + 4, none⟩ = some (.slice p.v.aC p.v.cs.length p.v.cC) := (hE.cell _ hb).trans (hc 4 (by omega))
        have e3 : wr.cell? ⟨b, o + k * 9 + 5, none⟩ = some (.slice p.v.aE p.v.es.length p.v.cE) := (hE.cell _ hb).trans (hc 5 (by omega))
        have e4 : wr.cell? ⟨b, o + k * 9 + 6, none⟩ = some (.slice p.v.aB p.v.bs.length p.v.cB) := (hE.cell _ hb).trans (hc 6 (by omega))
        have e5 : wr.cell? ⟨b, o + k * 9 + 7, none⟩ = some (.slice p.v.aT p.v.ts.length p.v.cT) := (hE.cell _ hb).trans (hc 7 (by omega))
        have e6 : wr.cell? ⟨b, o + k * 9 + 8, none⟩ = some (.slice p.v.aN p.v.ns.length p.v.cN) := (hE.cell _ hb).trans (hc 8 (by omega))
        clear htk hp hpk hok hc hgv s0 s1 s2 s3 s4 s5 hRR
        unfold maxLen at hmp
        go_wp2_with fail
        refine (hgv'.out).mono ?_
        rintro e W1 ⟨x, rfl, hx1, D1⟩
        cases x
        · go_wp2_with fail
          go_roundw
          case rel =>
            refine ⟨k + 1, z + min (p.m : Int) 9000, by omega, by go_num, rfl, by omega, by omega, fun h q hq => ?_, hE.go D1⟩
            rw [htk'.out, List.mem_append, List.mem_singleton] at hq
            rcases hq with hq | rfl
            · exact hm'.out hz q hq
            · omega
          case measure => simp [intOf]; omega
        · go_wp2_with fail
          go_ret
          exact ⟨_, rfl, fun h => absurd h (by decide), hE.go D1⟩
      · have f1 : decide (z < 9000) = false := by simp; omega
        have f2 : decide (9000 ≤ z) = true := by simp; omega
        go_wp2_with fail
        go_ret
        exact ⟨_, rfl, fun h => absurd h (by decide), hE⟩
    · obtain rfl : k = n := by omega
      by_cases hz : z < 9000
      · have f2 : decide (9000 ≤ z) = false := by simp; omega
        have hall := hm'.out hz
        rw [List.take_of_length_le (by rw [hx'.out.len]; exact Nat.le_refl _)] at hall
        have hall' := Lib.hid hall
        clear hall
        by_cases h3 : 100 < k
        · have f3 : decide (100 < (k : Int)) = true := by simp; omega
          go_wp2_with fail
          go_ret
          exact ⟨_, rfl, fun h => absurd h (by decide), hE⟩
        · have f3 : decide (100 < (k : Int)) = false := by simp; omega
          go_wp2_with fail
          go_ret
          exact ⟨_, rfl, fun _ => ⟨by omega, hall'.out⟩, hE⟩
      · have f2 : decide (9000 ≤ z) = true := by simp; omega
        go_wp2_with fail
        go_ret
        exact ⟨_, rfl, fun h => absurd h (by decide), hE⟩
end Go.Proofs.Ytgeahfkhfpdlhaa
