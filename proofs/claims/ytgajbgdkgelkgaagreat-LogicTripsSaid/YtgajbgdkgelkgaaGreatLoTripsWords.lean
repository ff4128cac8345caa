/- Layer 17: what LogicTrips reads. -/
import Derived.Test.YtgajbgdkgelkgaaGreatLoOk
namespace Go.Proofs.YtgajbgdkgelkgaaGreat
open Go.RowKit

theorem sameMx_lens {m M : Mx} {w : World} {B : Nat} (h : SameMx m M) (ok : OkMx w B m) : M.cas.length = m.nc ∧ M.efs.length = m.ne ∧ M.pts.length = m.np ∧ m.cas.length = m.nc ∧ ∀ e x, m.efs[e]? = some x → (efAt M e).ps = x.ps := by
  have h1 := congrArg List.length h.cas
  have h2 := congrArg List.length h.efs
  have h3 := congrArg List.length h.pts
  have k1 := ok.ca.len
  have k2 := ok.ef.len
  have k3 := ok.pt.len
  simp only [List.length_map] at h1 h2
  refine ⟨by omega, by omega, by omega, by omega, fun e x hx => ?_⟩
  have e1 := congrArg (fun l => (l[e]?).map Ef.ps) h.efs
  simp only [List.getElem?_map, hx, Option.map_map, Option.map_some] at e1
  unfold efAt
  rw [List.getD_eq_getElem?_getD]
  cases hM : M.efs[e]? with
  | none => rw [hM] at e1; cases e1
  | some y =>
    rw [hM] at e1
    simp only [Option.map_some, Function.comp, Option.some.injEq] at e1
    exact e1
theorem latchAt_set (r : Lw) (j : Nat) : (latchAt r j).1 = setOf r j := by
  unfold latchAt
  split
  · rename_i h; exact h.symm
  · rename_i h; simpa using h
theorem latch_cell {Z : World} {A : Option Addr} {n : Nat} {r : Lw} (h : RdC ltCells 3 Z Z.heap.size A n (allL r)) {j : Nat} (hj : j < n) : ∃ b o, A = some ⟨b, o, none⟩ ∧ ∀ w', Ext Z w' → w'.cell? ⟨b, o + j * 3, none⟩ = some (.bool (setOf r j)) := by
  obtain ⟨x, hx⟩ := h.get hj
  obtain ⟨b, o, e, hb, hc⟩ := h.at_ hx
  refine ⟨b, o, e, fun w' E => ?_⟩
  have h1 := (E.cell _ hb).trans (hc 0 (by decide))
  have h2 : x = latchAt r j := by
    unfold allL at hx
    rw [List.getElem?_map] at hx
    obtain ⟨y, hy, rfl⟩ := Option.map_eq_some_iff.1 hx
    obtain ⟨_, rfl⟩ := List.getElem?_eq_some_iff.1 hy
    rw [List.getElem_range]
  rw [← latchAt_set, ← h2]
  exact h1
theorem end_cell {Z : World} {A : Option Addr} {n : Nat} {xs : List Int} (h : RdI Z Z.heap.size .i64 A n xs) {j : Nat} (hj : j < n) : ∃ b o, A = some ⟨b, o, none⟩ ∧ ∀ w', Ext Z w' → w'.cell? ⟨b, o + j, none⟩ = some (.int .i64 (xs.getD j 0)) := by
  obtain ⟨b, o, e, hb, hc⟩ := h.at_ hj
  exact ⟨b, o, e, fun w' E => (E.cell _ hb).trans hc⟩
theorem en_nonneg {m : Mx} {c : Co} (h : CoOk m c) (j : Nat) : 0 ≤ c.en.getD j 0 := by
  rw [List.getD_eq_getElem?_getD]
  cases hj : c.en[j]? with
  | none => exact Int.le_refl 0
  | some e =>
    have := h.ok e (List.mem_of_getElem? hj)
    unfold endOk at this
    simp only [Bool.and_eq_true, decide_eq_true_eq] at this
    exact this.1
end Go.Proofs.YtgajbgdkgelkgaaGreat
