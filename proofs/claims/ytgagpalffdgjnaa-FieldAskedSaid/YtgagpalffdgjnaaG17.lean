/- Arguments opened: what a reading of a slice of numbers, of a string, of a number says of memory. · A slice of anything, opened; a slice of slices of numbers; an array of four numbers. -/
import Derived.Test.YtgagpalffdgjnaaRows
import Derived.Test.YtgagpalffdgjnaaWords
import Derived.ProofKit
import Derived.OpenShut
import Derived.ShutString
import Derived.ChangeOld
import Derived.SizedLaws
import Derived.Deep.Fields
import Derived.Test.YtgagpalffdgjnaaG61
import Derived.Deep.Slices
import Derived.Laws.IdiomArrays
namespace Go.Proofs.Ytgagpalffdgjnaa
open Go.ChangeShapes Go.WideShapes Go.ChangeAt Go.RowKit Go.Deep

theorem rowOwn : ownKnob Try.prog.godebug = none := by kernel_rfl
theorem rowLaid : laidOutB Try.prog = true := by kernel_rfl

section
variable {H : Type} {enc : TypeId × Value → H} {P : Program} {W : World} {base : Nat} {sp : Nat → Bool} {hd : Bool}
theorem openSl {t e : TypeId} {k : IntKind} {fuel : Nat} {cs : List Value} {x : DataW H × List MemPlace} (ht : P.underlying t = some (.slice e)) (he : P.underlying e = some (.int k)) (hc : P.cellsOf e = 1)
    (h : DataW.trod enc P W base sp hd fuel t cs = some x) :
    ∃ (A : Option Addr) (n c : Nat) (xs : List Int), cs = [.slice A n c] ∧ n ≤ c ∧ c ≤ maxLen ∧ RdI W W.heap.size k A n xs ∧ (∀ y ∈ xs, (Lit.int k y).wf = true) ∧
      ∀ R, (∀ m ∈ x.1.weights P t, m ≤ R) → n * P.bytesOf e ≤ R := by
  rcases open_ints ht he hc h with ⟨rfl, rfl⟩ | ⟨a, len, cap, zs, rfl, _, hl, hm, hz, rfl, hcell, hwz⟩
  · exact ⟨none, 0, 0, [], rfl, Nat.le_refl _, by unfold maxLen; omega, RdI.nil _, fun y hy => (by cases hy), fun R _ => by omega⟩
  · have hlz : len ≤ zs.length := by rw [hz]; split <;> omega
    refine ⟨some a, len, cap, zs.take len, rfl, hl, hm, ⟨by rw [List.length_take]; omega, fun hn => ?_⟩, fun y hy => hwz y (List.mem_of_mem_take hy), fun R hR => ?_⟩
    · have h0 := hcell 0 (by omega)
      have e0 : a.add 0 = a := by cases a; simp [Addr.add]
      rw [e0] at h0
      obtain ⟨b, o, s⟩ := a
      have hs : s = none := by
        cases s with
        | none => rfl
        | some q => simp [World.cell?] at h0; split at h0 <;> cases h0
      subst hs
      refine ⟨b, o, rfl, World.block_lt_of_cell? W _ h0, fun j hj => ?_⟩
      have hadd : (⟨b, o, none⟩ : Addr).add j = ⟨b, o + j, none⟩ := by unfold Addr.add; split <;> simp_all
      rw [← hadd, hcell j (by omega), List.getD_eq_getElem?_getD, List.getD_eq_getElem?_getD, List.getElem?_take, if_pos hj]
    · have := hR ((lits (H := H) k (zs.take len)).length * P.bytesOf e + (lits (H := H) k (zs.drop len)).length * P.bytesOf e) (by
        simp only [DataW.weights, ht, Nat.add_mul]; exact List.mem_cons_self ..)
      have h2 : (lits (H := H) k (zs.take len)).length = len := by simp [lits]; omega
      rw [h2] at this
      omega
end
end Go.Proofs.Ytgagpalffdgjnaa
namespace Go.Proofs.Ytgagpalffdgjnaa
open Go.ChangeShapes Go.WideShapes Go.ChangeAt Go.RowKit Go.Deep

section
variable {H : Type} {enc : TypeId × Value → H} {P : Program} {W : World} {base : Nat} {sp : Nat → Bool} {hd : Bool}
theorem addr_flat {w : World} {a : Addr} {v : Value} (h : w.cell? a = some v) : ∃ b o, a = ⟨b, o, none⟩ := by
  obtain ⟨b, o, s⟩ := a
  cases s with
  | none => exact ⟨b, o, rfl⟩
  | some q => simp [World.cell?] at h; split at h <;> cases h
theorem addr_add (b o j : Nat) : (⟨b, o, none⟩ : Addr).add j = ⟨b, o + j, none⟩ := by unfold Addr.add; split <;> simp_all
/-- Each element of a slice, by what each reading of it says. -/
theorem openElems {t e : TypeId} {fuel : Nat} {cs : List Value} {x : DataW H × List MemPlace} (Q : List Value → Prop) (sz : Nat) (ht : P.underlying t = some (.slice e)) (hc : P.cellsOf e = sz) (h0 : 0 < sz)
    (hQ : ∀ (fuel : Nat) (cs : List Value) (x : DataW H × List MemPlace), DataW.trod enc P W base sp hd fuel e cs = some x → Q cs) (h : DataW.trod enc P W base sp hd fuel t cs = some x) :
    ∃ (A : Option Addr) (n c : Nat), cs = [.slice A n c] ∧ n ≤ c ∧ c ≤ maxLen ∧ (∀ j, j < n → ∃ b o, A = some ⟨b, o, none⟩ ∧ b < W.heap.size ∧ ∃ vs : List Value, vs.length = sz ∧ Q vs ∧ ∀ i, i < sz → W.cell? ⟨b, o + j * sz + i, none⟩ = vs[i]?) ∧
      ∀ R, (∀ m ∈ x.1.weights P t, m ≤ R) → n * P.bytesOf e ≤ R := by
  rcases open_slice ht h with ⟨rfl, rfl⟩ | ⟨a, len, cap, m, f, D, Pl, rfl, hb, hl, hm, hmm, rfl, hx⟩
  · exact ⟨none, 0, 0, rfl, Nat.le_refl _, by unfold maxLen; omega, fun j hj => absurd hj (by omega), fun R _ => by omega⟩
  · have hlm : len ≤ m := by rw [hmm]; split <;> omega
    refine ⟨some a, len, cap, rfl, hl, hm, fun j hj => ?_, fun R hR => ?_⟩
    · have ha : ∃ b o, a = ⟨b, o, none⟩ := by
        obtain ⟨vs, h1, h2⟩ := hx 0 (by omega)
        obtain ⟨_, hlen, hcell⟩ := World.cells?_some h1
        rw [hc] at hlen hcell
        have c0 := hcell 0 h0
        rw [add_add, Nat.zero_mul, List.getElem?_eq_getElem (by omega)] at c0
        have e0 : a.add (0 + 0) = a := by cases a; simp [Addr.add]
        rw [e0] at c0
        exact addr_flat c0
      obtain ⟨b, o', rfl⟩ := ha
      obtain ⟨vs, h1, h2⟩ := hx j (by omega)
      obtain ⟨_, hlen, hcell⟩ := World.cells?_some h1
      rw [hc] at hlen hcell
      have c0 := hcell 0 h0
      rw [add_add, addr_add, List.getElem?_eq_getElem (by omega)] at c0
      refine ⟨b, o', rfl, World.block_lt_of_cell? W _ c0, vs, hlen, hQ _ _ _ h2, fun i hi => ?_⟩
      rw [← hcell i hi, addr_add, addr_add]
    · have := hR ((((List.range len).map D).length + ((List.range (m - len)).map fun j => D (len + j)).length) * P.bytesOf e) (by
        simp only [DataW.weights, ht]; exact List.mem_cons_self ..)
      simp only [List.length_map, List.length_range] at this
      exact Nat.le_trans (Nat.mul_le_mul_right _ (Nat.le_add_right _ _)) this
/-- A slice of slices of numbers. -/
theorem openSlSl {t e q : TypeId} {k : IntKind} {fuel : Nat} {cs : List Value} {x : DataW H × List MemPlace} (ht : P.underlying t = some (.slice e)) (he : P.underlying e = some (.slice q)) (hq : P.underlying q = some (.int k)) (ce : P.cellsOf e = 1) (cq : P.cellsOf q = 1)
    (h : DataW.trod enc P W base sp hd fuel t cs = some x) :
    ∃ (A : Option Addr) (n c : Nat) (zs : List Sl), cs = [.slice A n c] ∧ n ≤ c ∧ c ≤ maxLen ∧ RdSl W W.heap.size k A n zs ∧ ∀ z ∈ zs, ∀ y ∈ z.xs, (Lit.int k y).wf = true := by
  obtain ⟨A, n, c, rfl, hnc, hcm, hel, _⟩ := openElems (fun cs => ∃ z : Sl, cs = [.slice z.a z.n z.c] ∧ (z.n ≤ z.c ∧ z.c ≤ maxLen) ∧ RdI W W.heap.size k z.a z.n z.xs ∧ ∀ y ∈ z.xs, (Lit.int k y).wf = true) 1 ht ce (by omega)
    (fun fuel cs x h => by
      obtain ⟨A, n, c, xs, h1, h2, h3, h4, h5, _⟩ := openSl he hq cq h
      exact ⟨⟨A, n, c, xs⟩, h1, ⟨h2, h3⟩, h4, h5⟩) h
  have hch : ∀ j, j < n → ∃ z : Sl, (z.n ≤ z.c ∧ z.c ≤ maxLen) ∧ RdI W W.heap.size k z.a z.n z.xs ∧ (∀ y ∈ z.xs, (Lit.int k y).wf = true) ∧ ∃ b o, A = some ⟨b, o, none⟩ ∧ b < W.heap.size ∧ W.cell? ⟨b, o + j, none⟩ = some (.slice z.a z.n z.c) := fun j hj => by
    obtain ⟨b, o, e, hb, vs, _, ⟨z, e1, h1, h2, h3⟩, hcell⟩ := hel j hj
    have := hcell 0 (by omega)
    rw [Nat.mul_one, Nat.add_zero, e1] at this
    exact ⟨z, h1, h2, h3, b, o, e, hb, this⟩
  have : Inhabited Sl := ⟨⟨none, 0, 0, []⟩⟩
  obtain ⟨f, hf⟩ := choose_lt hch
  refine ⟨A, n, c, (List.range n).map f, rfl, hnc, hcm, ⟨by simp, fun j hj => ?_⟩, fun z hz => ?_⟩
  · obtain ⟨h1, h2, h3, b, o, e, hb, hcell⟩ := hf j hj
    exact ⟨b, o, e, hb, f j, List.mem_map.2 ⟨j, List.mem_range.2 hj, rfl⟩, hcell, h1, h2⟩
  · obtain ⟨j, hj, rfl⟩ := List.mem_map.1 hz
    exact (hf j (List.mem_range.1 hj)).2.2.1
theorem okWide_array {r : Reach} {b0 n : Nat} {t e : TypeId} {v : Value} (ht : P.underlying t = some (.array n e)) (h : Value.okWide P W r b0 t v) : ∃ cs, v = .agg cs ∧ cs.size = P.cellsOf t := by
  simp only [Value.okWide, ht] at h
  obtain ⟨cs, h1, h2, _⟩ := h
  exact ⟨cs, h1, h2⟩
/-- An array of four numbers. -/
theorem openArr4 {t e : TypeId} {k : IntKind} {fuel : Nat} {cs : List Value} {x : DataW H × List MemPlace} (ht : P.underlying t = some (.array 4 e)) (he : P.underlying e = some (.int k)) (hc : P.cellsOf e = 1) (hl : cs.length = 4)
    (h : DataW.trod enc P W base sp hd fuel t cs = some x) : ∃ a0 a1 a2 a3 : Int, cs = [.int k a0, .int k a1, .int k a2, .int k a3] := by
  match cs, hl with
  | [v0, v1, v2, v3], _ =>
    obtain ⟨y0, y1, y2, y3, n, _, h0, h1, h2, h3⟩ := trod_array4 ht hc h
    obtain ⟨a0, e0, _, _⟩ := DataW.trod_int he h0
    obtain ⟨a1, e1, _, _⟩ := DataW.trod_int he h1
    obtain ⟨a2, e2, _, _⟩ := DataW.trod_int he h2
    obtain ⟨a3, e3, _, _⟩ := DataW.trod_int he h3
    simp at e0 e1 e2 e3
    exact ⟨a0, a1, a2, a3, by rw [e0, e1, e2, e3]⟩
end
end Go.Proofs.Ytgagpalffdgjnaa
