
/- Layer 4, the walks: shapes, and the look-up in it. -/
import Derived.Test.YtgeahfkhfpdlhaaRows
import Derived.Test.YtgeahfkhfpdlhaaPduPlain
import Derived.Test.YtgeahfkhfpdlhaaMaps
namespace Go.Proofs.Ytgeahfkhfpdlhaa
open Go.RowKit

theorem shape_zero (w : World) : (zeroValue 144).run Try.prog w = .ok shapeZero w := by kernel_rfl
theorem look_any {w : World} {g : Nat} (h : w.heap[g]? = some (.map E10 10)) (k : Int) :
    (Instr.lookup 146 (.map (some g)) (.int .i64 k) true).run Try.prog w = .ok (.tuple #[lookV k, .bool (shapeOf k).isSome]) w := by
  obtain ⟨r, h1, h2, h3⟩ := find_E10 k
  rw [run_look Try.underlying146 Try.underlying3 (shape_zero w) h k h1, h2, h3]

set_option maxRecDepth 100000 in
set_option maxHeartbeats 800000 in
theorem shapes_any (w : World) :
    Calls Try.prog 100 #[] w fun e w' => e = .returned (.map (some w.heap.size)) ∧ w.alloc (.map E10 10) = w' := by
  have hmm := @run_makeMap Try.prog
  have ins := fun es c k v hf => run_insert_new (P := Try.prog) Try.underlying146 Try.underlying3 w es c w.heap.size rfl k v hf
  have i1 := ins #[] 0 1 (ent 1 0 2000 0 true 0).val rfl
  have i2 := ins E1 1 2 (ent 2 0 2000 0 true 0).val rfl
  have i3 := ins E2 2 3 (ent 3 0 125 0 false 0).val rfl
  have i4 := ins E3 3 4 (ent 4 0 125 0 false 0).val rfl
  have i5 := ins E4 4 5 (ent 5 1 0 1 true 0).val rfl
  have i6 := ins E5 5 6 (ent 6 1 0 1 false 0).val rfl
  have i7 := ins E6 6 15 (ent 15 2 1968 0 true 0).val rfl
  have i8 := ins E7 7 16 (ent 16 2 123 0 false 0).val rfl
  have i9 := ins E8 8 22 (ent 22 1 0 2 false 0).val rfl
  have i10 := ins E9 9 23 (ent 23 3 125 121 false 0).val rfl
  clear ins
  rw [show (#[] : Array MapEntry).push ⟨.int .i64 1, (ent 1 0 2000 0 true 0).val, 0⟩ = E1 from rfl] at i1
  rw [show E1.push ⟨.int .i64 2, (ent 2 0 2000 0 true 0).val, 1⟩ = E2 from rfl] at i2
  rw [show E2.push ⟨.int .i64 3, (ent 3 0 125 0 false 0).val, 2⟩ = E3 from rfl] at i3
  rw [show E3.push ⟨.int .i64 4, (ent 4 0 125 0 false 0).val, 3⟩ = E4 from rfl] at i4
  rw [show E4.push ⟨.int .i64 5, (ent 5 1 0 1 true 0).val, 4⟩ = E5 from rfl] at i5
  rw [show E5.push ⟨.int .i64 6, (ent 6 1 0 1 false 0).val, 5⟩ = E6 from rfl] at i6
  rw [show E6.push ⟨.int .i64 15, (ent 15 2 1968 0 true 0).val, 6⟩ = E7 from rfl] at i7
  rw [show E7.push ⟨.int .i64 16, (ent 16 2 123 0 false 0).val, 7⟩ = E8 from rfl] at i8
  rw [show E8.push ⟨.int .i64 22, (ent 22 1 0 2 false 0).val, 8⟩ = E9 from rfl] at i9
  rw [show E9.push ⟨.int .i64 23, (ent 23 3 125 121 false 0).val, 9⟩ = E10 from rfl] at i10
  simp only [ent] at i1 i2 i3 i4 i5 i6 i7 i8 i9 i10
  go_enter Try.func100, Try.ntmps100
  go_wp2
  go_ret
  exact ⟨rfl, rfl⟩
end Go.Proofs.Ytgeahfkhfpdlhaa
