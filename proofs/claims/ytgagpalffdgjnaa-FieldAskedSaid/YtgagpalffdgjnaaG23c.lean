/- Layer 23: words for a view in memory, and what is shown of it. · Layer 23: a view, opened: what a reading of it says of memory. · Layer 23: calls that are read: opened. -/
import Derived.Test.YtgagpalffdgjnaaG01
import Derived.Test.YtgagpalffdgjnaaG17
namespace Go.Proofs.Ytgagpalffdgjnaa
open Go.RowKit

/-- The slice value '.slice A n c' reads as those cells, below block B. -/
def RdV (w : World) (B : Nat) (A : Option Addr) (n : Nat) (vs : List Value) : Prop :=
  0 < n → ∃ b o, A = some ⟨b, o, none⟩ ∧ b < B ∧ ∀ j, j < vs.length → w.cell? ⟨b, o + j, none⟩ = vs[j]?
theorem RdV.ext {w w' : World} {A : Option Addr} {n : Nat} {vs : List Value} (h : RdV w w.heap.size A n vs) (E : Ext w w') : RdV w' w'.heap.size A n vs := fun hn => by
  obtain ⟨b, o, e, hb, hc⟩ := h hn
  exact ⟨b, o, e, Nat.lt_of_lt_of_le hb E.size, fun j hj => (E.cell (o + j) hb).trans (hc j hj)⟩
structure Nt where
  kind : Int
  who : Int
  at_ : Int
def Nt.cells (t : Nt) : List Value := [.int .i64 t.kind, .int .i64 t.who, .int .i64 t.at_]
/-- A view: of each of its slices the address, the capacity, and what it holds. -/
structure Vw where
  aL : Option Addr
  cL : Nat
  looks : List Int
  horn : Int
  aC : Option Addr
  cC : Nat
  cs : List Bool
  aE : Option Addr
  cE : Nat
  es : List Bool
  aB : Option Addr
  cB : Nat
  bs : List Bool
  aT : Option Addr
  cT : Nat
  ts : List Bool
  aN : Option Addr
  cN : Nat
  ns : List Nt
def Vw.cells (v : Vw) : Array Value := #[.slice v.aL v.looks.length v.cL, .int .i64 v.horn, .slice v.aC v.cs.length v.cC, .slice v.aE v.es.length v.cE, .slice v.aB v.bs.length v.cB, .slice v.aT v.ts.length v.cT, .slice v.aN v.ns.length v.cN]
structure RdVw (w : World) (v : Vw) : Prop where
  looks : RdI w w.heap.size .i64 v.aL v.looks.length v.looks
  cs : RdV w w.heap.size v.aC v.cs.length (v.cs.map Value.bool)
  es : RdV w w.heap.size v.aE v.es.length (v.es.map Value.bool)
  bs : RdV w w.heap.size v.aB v.bs.length (v.bs.map Value.bool)
  ts : RdV w w.heap.size v.aT v.ts.length (v.ts.map Value.bool)
  ns : RdV w w.heap.size v.aN v.ns.length (v.ns.flatMap Nt.cells)
  len : v.looks.length ≤ maxLen ∧ v.cs.length ≤ maxLen ∧ v.es.length ≤ maxLen ∧ v.bs.length ≤ maxLen ∧ v.ts.length ≤ maxLen ∧ v.ns.length ≤ maxLen
theorem RdVw.ext {w w' : World} {v : Vw} (h : RdVw w v) (E : Ext w w') : RdVw w' v := ⟨h.looks.ext E, h.cs.ext E, h.es.ext E, h.bs.ext E, h.ts.ext E, h.ns.ext E, h.len⟩
theorem flat_get (ns : List Nt) (j i : Nat) (hj : j < ns.length) (hi : i < 3) : (ns.flatMap Nt.cells)[3 * j + i]? = (ns[j]'hj).cells[i]? := by
  induction ns generalizing j with
  | nil => simp at hj
  | cons t ns ih =>
    rw [List.flatMap_cons]
    cases j with
    | zero =>
      rw [List.getElem?_append_left (by show 3 * 0 + i < 3; omega)]
      simp
    | succ j =>
      rw [List.getElem?_append_right (by show 3 ≤ _; omega)]
      have := ih j (by simpa using hj)
      show (ns.flatMap Nt.cells)[3 * (j + 1) + i - 3]? = _
      rw [show 3 * (j + 1) + i - 3 = 3 * j + i by omega]
      exact this
def noteZ : Nt := ⟨0, 0, 0⟩
theorem RdV.note {w : World} {B : Nat} {A : Option Addr} {ns : List Nt} (h : RdV w B A ns.length (ns.flatMap Nt.cells)) {j : Nat} (hj : j < ns.length) :
    ∃ b o, A = some ⟨b, o, none⟩ ∧ b < B ∧ w.cell? ⟨b, o + j * 3, none⟩ = some (.int .i64 (ns.getD j noteZ).kind) ∧ w.cell? ⟨b, o + j * 3 + 1, none⟩ = some (.int .i64 (ns.getD j noteZ).who) ∧ w.cell? ⟨b, o + j * 3 + 2, none⟩ = some (.int .i64 (ns.getD j noteZ).at_) := by
  obtain ⟨b, o, e, hb, hc⟩ := h (by omega)
  have hlen : ∀ l : List Nt, (l.flatMap Nt.cells).length = 3 * l.length := fun l => by
    induction l with
    | nil => rfl
    | cons t l ih => rw [List.flatMap_cons, List.length_append, ih, List.length_cons]; show 3 + _ = _; omega
  have hg : ns.getD j noteZ = ns[j]'hj := by rw [List.getD_eq_getElem?_getD, List.getElem?_eq_getElem hj]; rfl
  rw [hg, Nat.mul_comm j 3]
  refine ⟨b, o, e, hb, ?_, ?_, ?_⟩
  · have := hc (3 * j) (by rw [hlen]; omega)
    rw [this, show 3 * j = 3 * j + 0 from rfl, flat_get ns j 0 hj (by omega)]; rfl
  · have := hc (3 * j + 1) (by rw [hlen]; omega)
    rw [Nat.add_assoc, this, flat_get ns j 1 hj (by omega)]; rfl
  · have := hc (3 * j + 2) (by rw [hlen]; omega)
    rw [Nat.add_assoc, this, flat_get ns j 2 hj (by omega)]; rfl
theorem RdV.bool {w : World} {B : Nat} {A : Option Addr} {xs : List Bool} (h : RdV w B A xs.length (xs.map Value.bool)) {j : Nat} (hj : j < xs.length) :
    ∃ b o, A = some ⟨b, o, none⟩ ∧ b < B ∧ w.cell? ⟨b, o + j, none⟩ = some (.bool (xs.getD j false)) := by
  obtain ⟨b, o, e, hb, hc⟩ := h (by omega)
  refine ⟨b, o, e, hb, ?_⟩
  rw [hc j (by rw [List.length_map]; exact hj), List.getElem?_map, List.getElem?_eq_getElem hj, List.getD_eq_getElem?_getD, List.getElem?_eq_getElem hj]
  rfl
def wr16 (x : Int) : Int := IntKind.u16.wrap x
theorem wr16_range (x : Int) : 0 ≤ wr16 x ∧ wr16 x ≤ 65535 := by unfold wr16; rw [IntKind.wrap_u16]; omega
def noteF (t : Nt) (i : Nat) : Int := if i = 0 then t.kind else if i = 1 then t.who else t.at_
/-- The words that are shown. -/
def shRegAt (v : Vw) (j : Nat) : Int :=
  if j < 8 then (if j < v.looks.length then wr16 (v.looks.getD j 0) else 0)
  else if j = 8 then wr16 v.horn else if j = 9 then wr16 (v.ns.length : Int)
  else if (j - 10) / 3 < v.ns.length then wr16 (noteF (v.ns.getD (v.ns.length - 1 - (j - 10) / 3) noteZ) ((j - 10) % 3)) else 0
def shRegsTo (v : Vw) (m : Nat) : List Int := (List.range 34).map fun j => if j < m then shRegAt v j else 0
def shRegsL (v : Vw) : List Int := (List.range 34).map (shRegAt v)
/-- The bits that are shown. -/
def vwList (v : Vw) (k : Nat) : List Bool := if k = 0 then v.cs else if k = 1 then v.es else if k = 2 then v.bs else v.ts
def shBitAt (v : Vw) (j : Nat) : Int := if (vwList v (j / 8)).getD (j % 8) false = true then 1 else 0
def shBitsTo (v : Vw) (m : Nat) : List Int := (List.range 32).map fun j => if j < m then shBitAt v j else 0
def shBitsL (v : Vw) : List Int := (List.range 32).map (shBitAt v)
theorem fillR_zero (f : Nat → Int) (n : Nat) : ((List.range n).map fun j => if j < 0 then f j else 0) = zs n := by
  apply List.ext_getElem?
  intro j
  by_cases h : j < n
  · simp [zs, h]
  · rw [List.getElem?_eq_none (by simp; omega), List.getElem?_eq_none (by simp [zs]; omega)]
theorem fillR_set (f : Nat → Int) (n m : Nat) : ((List.range n).map fun j => if j < m then f j else 0).set m (f m) = (List.range n).map fun j => if j < m + 1 then f j else 0 := by
  apply List.ext_getElem?
  intro j
  by_cases h : j < n
  · by_cases e : m = j
    · subst e
      rw [List.getElem?_set_self (by simpa using h)]
      simp [h]
    · rw [List.getElem?_set_ne e]
      simp only [List.getElem?_map, List.getElem?_range h, Option.map_some]
      congr 1
      by_cases h2 : j < m
      · rw [if_pos h2, if_pos (by omega)]
      · rw [if_neg h2, if_neg (by omega)]
  · rw [List.getElem?_eq_none (by simp; omega), List.getElem?_eq_none (by simp; omega)]
theorem fillR_skip (f : Nat → Int) (n m m' : Nat) (h : m ≤ m') (hz : ∀ j, m ≤ j → j < m' → f j = 0) : ((List.range n).map fun j => if j < m then f j else 0) = (List.range n).map fun j => if j < m' then f j else 0 := by
  apply List.map_congr_left
  intro j _
  by_cases h1 : j < m
  · rw [if_pos h1, if_pos (by omega)]
  · rw [if_neg h1]
    by_cases h2 : j < m'
    · rw [if_pos h2, hz j (by omega) h2]
    · rw [if_neg h2]
theorem fillR_all (f : Nat → Int) (n m : Nat) (h : n ≤ m) : ((List.range n).map fun j => if j < m then f j else 0) = (List.range n).map f := by
  apply List.map_congr_left
  intro j hj
  have := List.mem_range.1 hj
  rw [if_pos (by omega)]
theorem shRegsTo_length (v : Vw) (m : Nat) : (shRegsTo v m).length = 34 := by simp [shRegsTo]
theorem shBitsTo_length (v : Vw) (m : Nat) : (shBitsTo v m).length = 32 := by simp [shBitsTo]
theorem shBitAt_range (v : Vw) (j : Nat) : 0 ≤ shBitAt v j ∧ shBitAt v j ≤ 1 := by unfold shBitAt; split <;> omega
theorem shRegAt_range (v : Vw) (j : Nat) : 0 ≤ shRegAt v j ∧ shRegAt v j ≤ 65535 := by
  have h := wr16_range
  unfold shRegAt
  split
  · split
    · exact h _
    · omega
  · split
    · exact h _
    · split
      · exact h _
      · split
        · exact h _
        · omega
end Go.Proofs.Ytgagpalffdgjnaa
namespace Go.Proofs.Ytgagpalffdgjnaa
open Go.ChangeShapes Go.WideShapes Go.ChangeAt Go.RowKit Go.Deep

section
variable {H : Type} {enc : TypeId × Value → H} {W : World} {base : Nat} {sp : Nat → Bool} {hd : Bool}
theorem openBools {fuel : Nat} {cs : List Value} {x : DataW H × List MemPlace} (h : DataW.trod enc Try.prog W base sp hd fuel 22 cs = some x) :
    ∃ (A : Option Addr) (c : Nat) (xs : List Bool), cs = [.slice A xs.length c] ∧ xs.length ≤ maxLen ∧ RdV W W.heap.size A xs.length (xs.map Value.bool) ∧ ∀ R, (∀ m ∈ x.1.weights Try.prog 22, m ≤ R) → xs.length ≤ R := by
  have hby : Try.prog.bytesOf 4 = 1 := by kernel_rfl
  obtain ⟨A, n, c, rfl, hnc, hcm, hel, hR⟩ := openElems (fun cs => ∃ b, cs = [.bool b]) 1 Try.underlying22 (by kernel_rfl) (by omega)
    (fun fuel cs x h => by obtain ⟨b, e, _⟩ := DataW.trod_bool Try.underlying4 h; exact ⟨b, e⟩) h
  have hch : ∀ j, j < n → ∃ v : Bool, ∃ b o, A = some ⟨b, o, none⟩ ∧ b < W.heap.size ∧ W.cell? ⟨b, o + j, none⟩ = some (.bool v) := fun j hj => by
    obtain ⟨b, o, e, hb, vs, _, ⟨v, e1⟩, hcell⟩ := hel j hj
    have := hcell 0 (by omega)
    rw [Nat.mul_one, Nat.add_zero, e1] at this
    exact ⟨v, b, o, e, hb, this⟩
  obtain ⟨f, hf⟩ := choose_lt hch
  have hl : ((List.range n).map f).length = n := by simp
  refine ⟨A, c, (List.range n).map f, by rw [hl], by omega, fun hn => ?_, fun R h => ?_⟩
  · rw [hl] at hn
    obtain ⟨b, o, e, hb, _⟩ := hf 0 hn
    refine ⟨b, o, e, hb, fun j hj => ?_⟩
    rw [List.length_map, hl] at hj
    obtain ⟨b', o', e', _, hc⟩ := hf j hj
    obtain ⟨rfl, rfl⟩ : b = b' ∧ o = o' := by have := e.symm.trans e'; simpa using this
    rw [hc]
    simp [hj]
  · have := hR R h
    rw [hby, Nat.mul_one] at this
    rw [hl]; exact this
theorem three_of {α : Type} {cs : List α} (h : cs.length = 3) : ∃ a b c, cs = [a, b, c] := by
  match cs, h with
  | [a, b, c], _ => exact ⟨a, b, c, rfl⟩
theorem notes_length (l : List Nt) : (l.flatMap Nt.cells).length = 3 * l.length := by
  induction l with
  | nil => rfl
  | cons t l ih => rw [List.flatMap_cons, List.length_append, ih, List.length_cons]; show 3 + _ = _; omega
theorem seven_of {α : Type} {cs : List α} (h : cs.length = 7) : ∃ a b c d e f g, cs = [a, b, c, d, e, f, g] := by
  match cs, h with
  | [a, b, c, d, e, f, g], _ => exact ⟨a, b, c, d, e, f, g, rfl⟩
def Vw.small (v : Vw) (R : Nat) : Prop := v.looks.length ≤ R ∧ v.cs.length ≤ R ∧ v.es.length ≤ R ∧ v.bs.length ≤ R ∧ v.ts.length ≤ R ∧ v.ns.length ≤ R
end
end Go.Proofs.Ytgagpalffdgjnaa
namespace Go.Proofs.Ytgagpalffdgjnaa
open Go.ChangeShapes Go.WideShapes Go.ChangeAt Go.RowKit Go.Deep

section
variable {H : Type} {enc : TypeId × Value → H} {P : Program} {W : World} {base : Nat} {sp : Nat → Bool} {hd : Bool}
theorem weightsAll_in {e : TypeId} : ∀ {l : List (DataW H)} {d : DataW H}, d ∈ l → ∀ n ∈ d.weights P e, n ∈ DataW.weightsAll P e l
  | [], _, h, _, _ => by cases h
  | x :: l, d, h, n, hn => by
    simp only [DataW.weightsAll, List.mem_append]
    rcases List.mem_cons.1 h with rfl | h
    · exact .inl hn
    · exact .inr (weightsAll_in h n hn)
/-- Each element of a slice, by what each reading of it says, with what it weighs. -/
theorem openElemsW {t e : TypeId} {fuel : Nat} {cs : List Value} {x : DataW H × List MemPlace} (Q : List Value → DataW H → Prop) (sz : Nat) (ht : P.underlying t = some (.slice e)) (hc : P.cellsOf e = sz) (h0 : 0 < sz)
    (hQ : ∀ (fuel : Nat) (cs : List Value) (x : DataW H × List MemPlace), DataW.trod enc P W base sp hd fuel e cs = some x → Q cs x.1) (h : DataW.trod enc P W base sp hd fuel t cs = some x) :
    ∃ (A : Option Addr) (n c : Nat), cs = [.slice A n c] ∧ n ≤ c ∧ c ≤ maxLen ∧ (∀ j, j < n → ∃ b o, A = some ⟨b, o, none⟩ ∧ b < W.heap.size ∧ ∃ (vs : List Value) (y : DataW H), vs.length = sz ∧ Q vs y ∧ (∀ m ∈ y.weights P e, m ∈ x.1.weights P t) ∧ ∀ i, i < sz → W.cell? ⟨b, o + j * sz + i, none⟩ = vs[i]?) ∧
      ∀ R, (∀ m ∈ x.1.weights P t, m ≤ R) → n * P.bytesOf e ≤ R := by
  rcases open_slice ht h with ⟨rfl, rfl⟩ | ⟨a, len, cap, m, f, D, Pl, rfl, hb, hl, hm, hmm, rfl, hx⟩
  · exact ⟨none, 0, 0, rfl, Nat.le_refl _, by unfold maxLen; omega, fun j hj => absurd hj (by omega), fun R _ => by omega⟩
  · have hlm : len ≤ m := by rw [hmm]; split <;> omega
    refine ⟨some a, len, cap, rfl, hl, hm, fun j hj => ?_, fun R hR => ?_⟩
    · have ha : ∃ b o, a = ⟨b, o, none⟩ := by
        obtain ⟨vs, h1, h2⟩ := hx 0 (by omega)
        obtain ⟨_, hlen, hcell⟩ := World.cells?_some h1
        rw [hc] at hlen hcell
        have c0 := hcell 0 h0
        rw [add_add, Nat.zero_mul, List.getElem?_eq_getElem (by omega)] at c0
        have e0 : a.add (0 + 0) = a := by cases a; simp [Addr.add]
        rw [e0] at c0
        exact addr_flat c0
      obtain ⟨b, o', rfl⟩ := ha
      obtain ⟨vs, h1, h2⟩ := hx j (by omega)
      obtain ⟨_, hlen, hcell⟩ := World.cells?_some h1
      rw [hc] at hlen hcell
      have c0 := hcell 0 h0
      rw [add_add, addr_add, List.getElem?_eq_getElem (by omega)] at c0
      refine ⟨b, o', rfl, World.block_lt_of_cell? W _ c0, vs, _, hlen, hQ _ _ _ h2, fun k hk => ?_, fun i hi => ?_⟩
      · simp only [DataW.weights, ht]
        refine List.mem_cons_of_mem _ (List.mem_append_left _ (weightsAll_in (d := D j) ?_ k hk))
        exact List.mem_map.2 ⟨j, List.mem_range.2 hj, rfl⟩
      · rw [← hcell i hi, addr_add, addr_add]
    · have := hR ((((List.range len).map D).length + ((List.range (m - len)).map fun j => D (len + j)).length) * P.bytesOf e) (by
        simp only [DataW.weights, ht]; exact List.mem_cons_self ..)
      simp only [List.length_map, List.length_range] at this
      exact Nat.le_trans (Nat.mul_le_mul_right _ (Nat.le_add_right _ _)) this
end
structure Op23 where
  what : Int
  a : Option Addr
  m : Nat
  c : Nat
  xs : List Int
  v : Vw
def Op23.cells (p : Op23) : List Value := .int .i64 p.what :: .slice p.a p.m p.c :: p.v.cells.toList
/-- What is true of a call, and stays so while its memory stands. -/
structure OkOp (w : World) (R : Nat) (p : Op23) : Prop where
  mc : p.m ≤ p.c ∧ p.c ≤ maxLen
  rd : RdI w w.heap.size .u8 p.a p.m p.xs
  wf : ∀ y ∈ p.xs, (Lit.int .u8 y).wf = true
  vw : RdVw w p.v
  small : p.v.small R
/-- The slice value '.slice A n c' reads as those calls. -/
def RdOp23 (w : World) (R : Nat) (A : Option Addr) (n : Nat) (ps : List Op23) : Prop :=
  ps.length = n ∧ ∀ j, j < n → ∃ b o, A = some ⟨b, o, none⟩ ∧ b < w.heap.size ∧ ∃ p ∈ ps, ps[j]? = some p ∧ (∀ i, i < 9 → w.cell? ⟨b, o + j * 9 + i, none⟩ = p.cells[i]?) ∧ OkOp w R p
theorem RdOp23.len {w : World} {R n : Nat} {A : Option Addr} {ps : List Op23} (h : RdOp23 w R A n ps) : ps.length = n := h.1
theorem OkOp.ext {w w' : World} {R : Nat} {p : Op23} (h : OkOp w R p) (E : Ext w w') : OkOp w' R p := ⟨h.mc, h.rd.ext E, h.wf, h.vw.ext E, h.small⟩
theorem RdOp23.ext {w w' : World} {R n : Nat} {A : Option Addr} {ps : List Op23} (h : RdOp23 w R A n ps) (E : Ext w w') : RdOp23 w' R A n ps :=
  ⟨h.1, fun j hj => by
    obtain ⟨b, o, e, hb, p, hp, h1, hc, ho⟩ := h.2 j hj
    exact ⟨b, o, e, Nat.lt_of_lt_of_le hb E.size, p, hp, h1, fun i hi => (E.cell _ hb).trans (hc i hi), ho.ext E⟩⟩
section
variable {H : Type} {enc : TypeId × Value → H} {W : World} {base : Nat} {sp : Nat → Bool} {hd : Bool}
theorem split_nine {α : Type} {cs : List α} (h : cs.length = 9) : ∃ a b c, cs = a :: b :: c ∧ c.length = 7 := by
  match cs, h with
  | a :: b :: c, h => exact ⟨a, b, c, rfl, by simpa using h⟩
end
end Go.Proofs.Ytgagpalffdgjnaa
