
/- Layer 4, the walks: coded, of any request that has what it should have. -/
import Derived.Test.YtgeahfkhfpdlhaaPduCoded3
namespace Go.Proofs.Ytgeahfkhfpdlhaa
open Go.RowKit

theorem shape_cases {fc : Int} {s : Shape} (h : shapeOf fc = some s) : ((fc = 1 ∨ fc = 2) ∧ s = ⟨0, 2000, 0, true⟩) ∨ ((fc = 3 ∨ fc = 4) ∧ s = ⟨0, 125, 0, false⟩) ∨ (fc = 5 ∧ s = ⟨1, 0, 1, true⟩) ∨ (fc = 6 ∧ s = ⟨1, 0, 1, false⟩) ∨ (fc = 15 ∧ s = ⟨2, 1968, 0, true⟩)
    ∨ (fc = 16 ∧ s = ⟨2, 123, 0, false⟩) ∨ (fc = 22 ∧ s = ⟨1, 0, 2, false⟩) ∨ (fc = 23 ∧ s = ⟨3, 125, 121, false⟩) := by
  unfold shapeOf at h
  split at h
  · injection h with h; subst h; exact .inl ⟨.inl ‹_›, rfl⟩
  split at h
  · injection h with h; subst h; exact .inl ⟨.inr ‹_›, rfl⟩
  split at h
  · injection h with h; subst h; exact .inr (.inl ⟨.inl ‹_›, rfl⟩)
  split at h
  · injection h with h; subst h; exact .inr (.inl ⟨.inr ‹_›, rfl⟩)
  split at h
  · injection h with h; subst h; exact .inr (.inr (.inl ⟨‹_›, rfl⟩))
  split at h
  · injection h with h; subst h; exact .inr (.inr (.inr (.inl ⟨‹_›, rfl⟩)))
  split at h
  · injection h with h; subst h; exact .inr (.inr (.inr (.inr (.inl ⟨‹_›, rfl⟩))))
  split at h
  · injection h with h; subst h; exact .inr (.inr (.inr (.inr (.inr (.inl ⟨‹_›, rfl⟩)))))
  split at h
  · injection h with h; subst h; exact .inr (.inr (.inr (.inr (.inr (.inr (.inl ⟨‹_›, rfl⟩))))))
  split at h
  · injection h with h; subst h; exact .inr (.inr (.inr (.inr (.inr (.inr (.inr ⟨‹_›, rfl⟩))))))
  · cases h

/-- What a request that has what it should have has. -/
theorem holds_parts {s : Shape} {ad qt to : Int} {xs : List Int} (h : holdsB s ad qt to xs = true) : (0 ≤ ad ∧ ad ≤ 65535) ∧ (0 ≤ to ∧ to ≤ 65535) ∧ (0 ≤ qt ∧ qt ≤ s.qty) ∧ (qt = 0 ↔ s.form = 1) ∧ (s.form ≠ 3 → to = 0)
    ∧ (s.form = 0 → xs = []) ∧ (s.form = 1 → (xs.length : Int) = s.vals ∧ valuesB s.bits xs = true) ∧ (s.form = 2 → (xs.length : Int) = qt ∧ valuesB s.bits xs = true)
    ∧ (s.form ≠ 0 → s.form ≠ 1 → s.form ≠ 2 → 1 ≤ (xs.length : Int) ∧ (xs.length : Int) ≤ s.vals) := by
  unfold holdsB at h
  split at h
  · cases h
  split at h
  · cases h
  rename_i h1 h2
  have h3 : ¬ ((qt == 0) != (s.form == 1)) = true := fun e => h2 (.inl e)
  have h4 : (qt = 0 ↔ s.form = 1) := by
    by_cases a : qt = 0 <;> by_cases b : s.form = 1 <;> simp_all
  have h5 : s.form ≠ 3 → to = 0 := fun e => Classical.byContradiction fun f => h2 (.inr ⟨e, f⟩)
  refine ⟨by omega, by omega, by omega, h4, h5, ?_, ?_, ?_, ?_⟩
  · intro e; rw [if_pos e] at h; simpa using h
  · intro e; rw [if_neg (by omega), if_pos e] at h; simpa using h
  · intro e; rw [if_neg (by omega), if_neg (by omega), if_pos e] at h; simpa using h
  · intro e0 e1 e2; rw [if_neg e0, if_neg e1, if_neg e2] at h; simpa using h

theorem coded_any (s : Shape) (k fc ad qt to : Int) (hs : shapeOf k = some s) (A : Option Addr) (n c : Nat) (xs : List Int) (w : World) (hx : RdI w w.heap.size .u16 A n xs) (hr : ∀ j : Nat, 0 ≤ xs[j]?.getD 0 ∧ xs[j]?.getD 0 ≤ 65535) (h : holdsB s ad qt to xs = true) :
    Calls Try.prog 115 #[s.val, .agg #[.int .i64 fc, .int .i64 ad, .int .i64 qt, .slice A n c, .int .i64 to]] w (RetI .u8 (codedL s fc ad qt to xs) w) := by
  obtain ⟨⟨a0, a1⟩, ⟨t0, t1⟩, ⟨q0, q1⟩, hq, ht, f0, f1, f2, f3⟩ := holds_parts h
  have hl := hx.len
  rcases shape_cases hs with ⟨_, rfl⟩ | ⟨_, rfl⟩ | ⟨_, rfl⟩ | ⟨_, rfl⟩ | ⟨_, rfl⟩ | ⟨_, rfl⟩ | ⟨_, rfl⟩ | ⟨_, rfl⟩
  · exact coded_reads _ _ fc ad qt to A n c xs w hx a0 a1 q0 (by simp at q1; omega) _
  · exact coded_reads _ _ fc ad qt to A n c xs w hx a0 a1 q0 (by simp at q1; omega) _
  · have hv := f1 rfl
    have h0 := hr 0
    refine coded_bit _ _ fc ad qt to A n c xs w hx a0 a1 q0 (by simp at q1; omega) (by have := hv.1; simp at this; omega) ?_
    have h1 := hv.2
    simp [valuesB] at h1
    obtain ⟨x, l, rfl⟩ : ∃ x l, xs = x :: l := by
      cases xs with
      | nil => have := hv.1; simp at this
      | cons x l => exact ⟨x, l, rfl⟩
    simp at h0 h1 ⊢
    omega
  · exact coded_regs _ _ fc ad qt to A n c xs w hx a0 a1 q0 (by simp at q1; omega) (by have := (f1 rfl).1; simp at this; omega)
  · exact coded_bits _ _ fc ad qt to A n c xs w hx a0 a1 q0 (by simp at q1; omega) (by have := (f2 rfl).1; simp at q1; omega)
  · exact coded_wregs _ _ fc ad qt to A n c xs w hx a0 a1 q0 (by simp at q1; omega) (by have := (f2 rfl).1; simp at q1; omega)
  · exact coded_regs _ _ fc ad qt to A n c xs w hx a0 a1 q0 (by simp at q1; omega) (by have := (f1 rfl).1; simp at this; omega)
  · exact coded_swaps _ _ fc ad qt to A n c xs w hx a0 a1 q0 (by simp at q1; omega) t0 t1 (by have := (f3 (by simp) (by simp) (by simp)).2; simp at this; omega)
end Go.Proofs.Ytgeahfkhfpdlhaa
