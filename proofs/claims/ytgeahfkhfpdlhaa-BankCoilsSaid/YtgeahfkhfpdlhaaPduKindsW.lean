
/- Layer 4, the walks: what is read, and written, by a number. -/
import Derived.Test.YtgeahfkhfpdlhaaPduEq
namespace Go.Proofs.Ytgeahfkhfpdlhaa
open Go.RowKit

def readsB (fc : Int) : Bool := match shapeOf fc with | some s => s.form == 0 || s.form == 3 | none => false
def readsBits (fc : Int) : Bool := match shapeOf fc with | some s => (s.form == 0 || s.form == 3) && s.bits | none => false
def writesB (fc : Int) : Bool := match shapeOf fc with | some s => s.form != 0 | none => false
def writesBits (fc : Int) : Bool := match shapeOf fc with | some s => s.form != 0 && s.bits | none => false

set_option maxRecDepth 100000 in
set_option maxHeartbeats 800000 in
theorem reads_any (fc : Int) (w : World) : Calls Try.prog 74 #[.int .i64 fc] w fun e w' => e = .returned (.tuple #[.bool (readsB fc), .bool (readsBits fc)]) ∧ Ext w w' := by
  have E0 := (Ext.refl w).goA (.map E10 10)
  have lk := look_any (w := w.alloc (.map E10 10)) (g := w.heap.size) (heap_alloc_new w _) fc
  unfold readsB readsBits
  cases hs : shapeOf fc with
  | none =>
    have hv : lookV fc = shapeZero := by unfold lookV; rw [hs]
    rw [hv, hs] at lk
    clear hv hs
    unfold shapeZero at lk
    rw [show (none : Option Shape).isSome = false from rfl] at lk
    go_enter Try.func74, Try.ntmps74
    go_wp2_with fail
    refine (shapes_any _).mono ?_
    rintro e w1 ⟨rfl, rfl⟩
    go_wp2_with fail
    go_quiet (fail)
    go_wp2_with fail
    go_ret2
    exact ⟨rfl, (E0.goA _).goD _⟩
  | some s =>
    have hv : lookV fc = s.val := by unfold lookV; rw [hs]
    rw [hv, hs] at lk
    clear hv hs
    obtain ⟨f, q, v, b⟩ := s
    unfold Shape.val at lk
    rw [show (some (⟨f, q, v, b⟩ : Shape)).isSome = true from rfl] at lk
    dsimp only at lk ⊢
    by_cases h0 : f = 0
    · subst h0
      go_enter Try.func74, Try.ntmps74
      go_wp2_with fail
      refine (shapes_any _).mono ?_
      rintro e w1 ⟨rfl, rfl⟩
      go_wp2_with fail
      go_quiet (fail)
      go_wp2_with fail
      go_ret2
      exact ⟨by simp, (E0.goA _).goD _⟩
    · have d0 : (f == 0) = false := by simp [h0]
      by_cases h3 : f = 3
      · subst h3
        go_enter Try.func74, Try.ntmps74
        go_wp2_with fail
        refine (shapes_any _).mono ?_
        rintro e w1 ⟨rfl, rfl⟩
        go_wp2_with fail
        go_quiet (fail)
        go_wp2_with fail
        go_ret2
        exact ⟨by simp, (E0.goA _).goD _⟩
      · have d3 : (f == 3) = false := by simp [h3]
        go_enter Try.func74, Try.ntmps74
        go_wp2_with fail
        refine (shapes_any _).mono ?_
        rintro e w1 ⟨rfl, rfl⟩
        go_wp2_with fail
        go_quiet (fail)
        go_wp2_with fail
        go_ret2
        exact ⟨by simp [d0, d3], (E0.goA _).goD _⟩

end Go.Proofs.Ytgeahfkhfpdlhaa
