/- Layer 16, the walks: Sum, Match. -/
import Derived.Test.YtkkbjchoilcjlaaKeyWalks
import Derived.Laws.EntriesVeiled
namespace Go.Proofs.Ytkkbjchoilcjlaa
open Go.RowKit

set_option maxHeartbeats 800000 in
theorem sum_any (s : ByteArray) (w : World) (hs : s.size ≤ maxLen) :
    Calls Try.prog 17 #[.string s] w fun e w' => e = .returned (.string (sumS s)) ∧ Ext w w' := by
  unfold maxLen at hs
  cases hr : rightB s
  · have hr' := Lib.hid hr
    go_enter Try.func17, Try.ntmps17
    go_wp2_with (go_at_call 41; refine (right_any _ _ hs).mono ?_; rintro e w' ⟨rfl, rfl⟩)
    go_ret
    exact ⟨by simp [sumS, hr'.out], (Ext.refl _).goA _⟩
  · have hr' := Lib.hid hr
    go_enter Try.func17, Try.ntmps17
    go_wp2_with (go_at_call 41; refine (right_any _ _ hs).mono ?_; rintro e w' ⟨rfl, rfl⟩)
    go_loopw [12] (fun i wr => ∃ k : Nat, k ≤ 64 ∧ i = .int .u64 k ∧ wr.cell? ⟨w.heap.size, 0, none⟩ = some (.string s) ∧ wr.cell? ⟨w.heap.size + 1 + 1, 0, none⟩ = some (.func (.func 42) #[] #[.pointer (some ⟨w.heap.size + 1, 0, none⟩)]) ∧
        wr.cell? ⟨w.heap.size + 1, 0, none⟩ = some (.int .u64 (sumTo s k)) ∧ wr.frozen? ⟨w.heap.size + 1, 0, none⟩ = false ∧ Ext w wr) (fun i _ => 64 - (intOf i).toNat)
    case atStart => exact ⟨0, by omega, rfl, by go_simp, by go_simp, by go_simp; rfl, by go_simp, (((Ext.refl _).goA _).goA _).goA _⟩
    case round =>
      obtain ⟨k, hk, rfl, c0, c2, c1, hf, hw⟩ := hrel
      by_cases hlt : k < 64
      · have l0 := World.block_lt_of_cell? wr _ c0
        have l2 := World.block_lt_of_cell? wr _ c2
        go_wp2_with (go_at_call 43; refine (round_any _ _ s _ _ _ _ hs c0 c2 c1 hf (by omega) (by omega)).mono ?_; rintro e w' ⟨rfl, d1, d2, d3⟩)
        go_roundw
        case rel =>
          exact ⟨k + 1, by omega, by go_num, (d3.cell 0 (by omega) (by omega)).trans c0, (d3.cell 0 (by omega) (by omega)).trans c2, d1, d2, hw.goM d3 (fun i hi => by omega)⟩
        case measure => simp [intOf]; omega
      · obtain rfl : k = 64 := by omega
        go_wp2_with (go_at_call 44; refine (told_any _ _).mono ?_; rintro e w' ⟨rfl, d1⟩)
        go_ret
        exact ⟨by simp [sumS, hr'.out], hw.go d1⟩

set_option maxHeartbeats 800000 in
theorem match_any (t s : ByteArray) (w : World) (hs : s.size ≤ maxLen) :
    Calls Try.prog 19 #[.string t, .string s] w fun e w' => e = .returned (.bool (rightB s && t.toList == (sumS s).toList)) ∧ Ext w w' := by
  go_enter Try.func19, Try.ntmps19
  go_wp2_with (first | (go_at_call 41; refine (right_any _ _ hs).mono ?_; rintro e w' ⟨rfl, rfl⟩) | (go_at_call 17; refine (sum_any _ _ hs).mono ?_; rintro e w' ⟨rfl, d⟩))
  · have hr : rightB s = true := by assumption
    go_ret
    exact ⟨by simp [hr], d⟩
  · have hr : ¬ rightB s = true := by assumption
    go_ret
    exact ⟨by simp [hr], Ext.refl _⟩
end Go.Proofs.Ytkkbjchoilcjlaa
