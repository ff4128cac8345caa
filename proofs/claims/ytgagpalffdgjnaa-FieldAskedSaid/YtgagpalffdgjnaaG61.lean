/- The steps of a drawn region, said shortly. · Numbers off what may be written. · A slice of slices of numbers that is read. -/
import Derived.Test.YtgagpalffdgjnaaWords
import Derived.Deep.RegionHeld3
namespace Go.Proofs.Ytgagpalffdgjnaa
open Go

theorem gA {α : Type} (xs : List α) (i : Nat) (h : i < xs.toArray.size) : xs.toArray[i] = xs[i]'(by simpa using h) := rfl
theorem gB {α : Type} (x : α) (xs : List α) (i : Nat) (h : i + 1 < (x :: xs).length) : (x :: xs)[i + 1] = xs[i]'(Nat.lt_of_succ_lt_succ h) := rfl
theorem gC {α : Type} (x : α) (xs : List α) (h : 0 < (x :: xs).length) : (x :: xs)[0] = x := rfl
theorem gE {α : Type} (x y : α) (xs : List α) : (x :: xs).set 0 y = y :: xs := rfl
theorem gF {α : Type} (x y : α) (xs : List α) (i : Nat) : (x :: xs).set (i + 1) y = x :: xs.set i y := rfl
section
variable {P : Program} {ops : Array Oper} {Q : Exit → Act → World → Prop} {md : Region.Mode} {S : World → Prop}
theorem tkH (i : Nat) {oi : Oper} {v : Value} {fuel : Nat} {listed : Array Bool} {a : Act} {w : World} (hv : ∀ w, S w → (execOp a.eval oi).run P w = .ok (.value v) w) (h : wpAnyH P md ops Q S fuel (listed.setIfInBounds i true) (a.put oi.dst v) w)
    (hi : ops[i]? = some oi := by exact rfl) (hs : Region.noSelect ops = true := by kernel_rfl) (hf : Region.free md ops listed i = true := by kernel_rfl) (hr : (Region.ready md ops listed).contains i = true := by kernel_rfl)
    (hQ : ∀ c a w, Q (.panic c) (a.put oi.dst v) w → Q (.panic c) a w := by exact fun _ _ _ h => h) (hw : Region.wanted oi (yielded ops a.tmps) = true := by rfl) (hS : S w := by assumption) : wpAnyH P md ops Q S (fuel + 1) listed a w :=
  wpAnyH_take hi hs hf hr hQ (.inl ⟨hw, hv⟩) hS h
theorem tk (i : Nat) {oi : Oper} {v : Value} {fuel : Nat} {listed : Array Bool} {a : Act} {w : World} (h : wpAnyH P md ops Q S fuel (listed.setIfInBounds i true) (a.put oi.dst v) w)
    (hi : ops[i]? = some oi := by exact rfl) (hs : Region.noSelect ops = true := by kernel_rfl) (hf : Region.free md ops listed i = true := by kernel_rfl) (hr : (Region.ready md ops listed).contains i = true := by kernel_rfl)
    (hw : Region.wanted oi (yielded ops a.tmps) = true := by rfl) (hS : S w := by assumption)
    (hv : ∀ w, S w → (execOp a.eval oi).run P w = .ok (.value v) w := by intro w hSw; (try dsimp only at hSw); go_simp; try (with_reducible rfl))
    (hQ : ∀ c a w, Q (.panic c) (a.put oi.dst v) w → Q (.panic c) a w := by exact fun _ _ _ h => h) : wpAnyH P md ops Q S (fuel + 1) listed a w :=
  wpAnyH_take hi hs hf hr hQ (.inl ⟨hw, hv⟩) hS h
theorem gS {α : Type} (xs : List α) (i : Nat) (x : α) : xs.toArray.setIfInBounds i x = (xs.set i x).toArray := by simp
theorem skH (i : Nat) {oi : Oper} {fuel : Nat} {listed : Array Bool} {a : Act} {w : World} (h : wpAnyH P md ops Q S fuel (listed.setIfInBounds i true) (a.put oi.dst undef) w)
    (hi : ops[i]? = some oi := by exact rfl) (hs : Region.noSelect ops = true := by kernel_rfl) (hf : Region.free md ops listed i = true := by kernel_rfl) (hr : (Region.ready md ops listed).contains i = true := by kernel_rfl)
    (hQ : ∀ c a w, Q (.panic c) (a.put oi.dst undef) w → Q (.panic c) a w := by exact fun _ _ _ h => h) (hw : Region.wanted oi (yielded ops a.tmps) = false := by rfl) (hS : S w := by assumption) : wpAnyH P md ops Q S (fuel + 1) listed a w :=
  wpAnyH_take hi hs hf hr hQ (.inr ⟨hw, rfl⟩) hS h
end
end Go.Proofs.Ytgagpalffdgjnaa
namespace Go.Proofs.Ytgagpalffdgjnaa
open Go.RowKit

/-- A slice that lies in none of these blocks. -/
def OffB (S : Nat → Prop) (A : Option Addr) (n : Nat) : Prop := 0 < n → ∀ b o, A = some ⟨b, o, none⟩ → ¬ S b
section
variable {w w' : World} {n : Nat} {S : Nat → Prop} {kd : IntKind} {A : Option Addr} {xs : List Int}
theorem RdI.modS (h : RdI w w.heap.size kd A n xs) (ho : OffB S A n) (m : Mod S w w') : RdI w' w'.heap.size kd A n xs :=
  ⟨h.1, fun hn => by
    obtain ⟨b, o, e, hb, hc⟩ := h.2 hn
    exact ⟨b, o, e, Nat.lt_of_lt_of_le hb m.size, fun i hi => (m.cell (o + i) hb (ho hn b o e)).trans (hc i hi)⟩⟩
theorem OffB.weak {S' : Nat → Prop} (ho : OffB S A n) (h : ∀ i, S' i → S i) : OffB S' A n := fun hn b o e hs => ho hn b o e (h b hs)
end
theorem cell_lt {w : World} {b o : Nat} {v : Value} (h : w.cell? ⟨b, o, none⟩ = some v) : b < w.heap.size := by
  rcases Nat.lt_or_ge b w.heap.size with h1 | h1
  · exact h1
  · have h2 : w.heap[b]? = none := by simp; omega
    simp [World.cell?, h2] at h
theorem sets_block {w : World} {i : Nat} {Q : Array Value} {t : TypeId} (h : w.heap[i]? = some (.cells Q t (0, 0))) (j : Nat) (v : Value) : (w.setCell ⟨i, j, none⟩ v).heap[i]? = some (.cells (Q.setIfInBounds j v) t (0, 0)) := by
  simp [World.setCell, Array.getElem?_modify, h]
end Go.Proofs.Ytgagpalffdgjnaa
namespace Go.Proofs.Ytgagpalffdgjnaa
open Go.RowKit

structure Sl where
  a : Option Addr
  n : Nat
  c : Nat
  xs : List Int
/-- The slice value '.slice A n c' reads as the slices zs, of numbers of kind k, in cells below block B. -/
def RdSl (w : World) (B : Nat) (k : IntKind) (A : Option Addr) (n : Nat) (zs : List Sl) : Prop :=
  zs.length = n ∧ ∀ j, j < n → ∃ b o, A = some ⟨b, o, none⟩ ∧ b < B ∧ ∃ z ∈ zs, w.cell? ⟨b, o + j, none⟩ = some (.slice z.a z.n z.c) ∧ (z.n ≤ z.c ∧ z.c ≤ maxLen) ∧ RdI w B k z.a z.n z.xs
section
variable {w : World} {B n : Nat} {k : IntKind} {A : Option Addr} {zs : List Sl}
theorem RdSl.len (h : RdSl w B k A n zs) : zs.length = n := h.1
theorem RdSl.at_ {j : Nat} (h : RdSl w B k A n zs) (hj : j < n) : ∃ b o, A = some ⟨b, o, none⟩ ∧ b < B ∧ ∃ z ∈ zs, w.cell? ⟨b, o + j, none⟩ = some (.slice z.a z.n z.c) ∧ (z.n ≤ z.c ∧ z.c ≤ maxLen) ∧ RdI w B k z.a z.n z.xs := h.2 j hj
end
end Go.Proofs.Ytgagpalffdgjnaa
