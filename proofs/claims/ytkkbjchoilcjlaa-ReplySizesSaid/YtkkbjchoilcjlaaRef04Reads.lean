/- The reference of layer 4: Reads. -/
import Derived.Test.YtkkbjchoilcjlaaPduKindsW
import Derived.Test.YtkkbjchoilcjlaaPduCoded4
namespace Go.Proofs.Ytkkbjchoilcjlaa
open Go.RowKit

theorem reads_other {fc : Int} (h : fc ≠ 1 ∧ fc ≠ 2 ∧ fc ≠ 3 ∧ fc ≠ 4 ∧ fc ≠ 23) : readsB fc = false ∧ readsBits fc = false := by
  unfold readsB readsBits
  cases hs : shapeOf fc with
  | none => exact ⟨rfl, rfl⟩
  | some s =>
    rcases shape_cases hs with ⟨e, rfl⟩ | ⟨e, rfl⟩ | ⟨e, rfl⟩ | ⟨e, rfl⟩ | ⟨e, rfl⟩ | ⟨e, rfl⟩ | ⟨e, rfl⟩ | ⟨e, rfl⟩
    all_goals
      first
        | (exact ⟨rfl, rfl⟩)
        | omega
set_option maxHeartbeats 800000 in
theorem refReads_any (fc : Int) (w : World) : Calls Try.prog 36 #[.int .i64 fc] w fun e w' => e = .returned (.tuple #[.bool (readsB fc), .bool (readsBits fc)]) ∧ w = w' := by
  by_cases h : fc ≠ 1 ∧ fc ≠ 2 ∧ fc ≠ 3 ∧ fc ≠ 4 ∧ fc ≠ 23
  · obtain ⟨k1, k2⟩ := reads_other h
    rw [k1, k2]
    have e1 : (fc == 1) = false := by simp; omega
    have e2 : (fc == 2) = false := by simp; omega
    have e3 : (fc == 3) = false := by simp; omega
    have e4 : (fc == 4) = false := by simp; omega
    have e5 : (fc == 23) = false := by simp; omega
    clear h k1 k2
    go_enter Try.func36, Try.ntmps36
    go_wp2_with fail
    go_ret2
    exact ⟨rfl, rfl⟩
  · rcases (show fc = 1 ∨ fc = 2 ∨ fc = 3 ∨ fc = 4 ∨ fc = 23 by omega) with rfl | rfl | rfl | rfl | rfl
    all_goals
      clear h
      go_enter Try.func36, Try.ntmps36
      go_wp2_with fail
      go_ret2
      exact ⟨rfl, rfl⟩
end Go.Proofs.Ytkkbjchoilcjlaa
