
/- Layer 4, the walks: values, holds, fits; and the reference's Same. -/
import Derived.Test.YtgeahfkhfpdlhaaPduMap
import Derived.Test.YtgeahfkhfpdlhaaRef04
namespace Go.Proofs.Ytgeahfkhfpdlhaa
open Go.RowKit

set_option maxRecDepth 100000 in
set_option maxHeartbeats 800000 in
theorem values_any (s : Shape) (A : Option Addr) (n c B : Nat) (xs : List Int) (w : World) (hx : RdI w B .u16 A n xs) (hB : B ≤ w.heap.size) (hn : n ≤ maxLen) :
    Calls Try.prog 119 #[s.val, .slice A n c] w fun e w' => e = .returned (.bool (valuesB s.bits xs)) ∧ Ext w w' := by
  obtain ⟨f, q, v, b⟩ := s
  unfold maxLen at hn
  have hl := Lib.hid hx.len
  unfold Shape.val
  cases b
  · go_enter Try.func119, Try.ntmps119
    go_wp2
    go_ret
    exact ⟨rfl, (Ext.refl _).goA _⟩
  · go_enter Try.func119, Try.ntmps119
    go_wp2
    go_loop [12] (fun i => ∃ k : Nat, k ≤ n ∧ i = .int .i64 k ∧ ∀ j, j < k → xs.getD j 0 ≤ 1) (fun i => n - (intOf i).toNat)
    case atStart => exact ⟨0, by omega, rfl, fun j hj => absurd hj (by omega)⟩
    case round =>
      obtain ⟨k, hk, rfl, hz⟩ := hrel
      have hz' := Lib.hid hz
      clear hz
      by_cases hlt : k < n
      · obtain ⟨b, o, rfl, hb, hc⟩ := hx.at_ hlt
        have hc' := ((Ext.refl w).goA (.cells #[.int .i64 f, .int .i64 q, .int .i64 v, .bool true] 144)).cell (o + k) (by omega : b < w.heap.size) |>.trans hc
        by_cases h1 : xs[k]?.getD 0 ≤ 1
        · go_wp2
          go_round
          case rel =>
            refine ⟨k + 1, by omega, by go_num, fun j hj => ?_⟩
            rcases Nat.lt_succ_iff_lt_or_eq.1 hj with h | rfl
            · exact hz'.out j h
            · rw [List.getD_eq_getElem?_getD]; exact h1
          case measure => simp [intOf]; omega
        · have hv : valuesB true xs = false := by
            have hk' : k < xs.length := by rw [hl.out]; exact hlt
            unfold valuesB
            simp only [Bool.not_true, Bool.false_or]
            rw [List.all_eq_false]
            refine ⟨xs[k]'hk', List.getElem_mem _, ?_⟩
            rw [List.getElem?_eq_getElem hk'] at h1
            simpa using h1
          have hv' := Lib.hid hv
          clear hv
          go_wp2
          go_ret
          exact ⟨by rw [hv'.out]; rfl, (Ext.refl _).goA _⟩
      · obtain rfl : k = n := by omega
        have hv : valuesB true xs = true := by
          unfold valuesB
          simp only [Bool.not_true, Bool.false_or, List.all_eq_true, decide_eq_true_eq]
          intro x hx'
          obtain ⟨j, hj, rfl⟩ := List.getElem_of_mem hx'
          have := hz'.out j (by rw [← hl.out]; exact hj)
          rwa [List.getD_eq_getElem?_getD, List.getElem?_eq_getElem hj] at this
        have hv' := Lib.hid hv
        clear hv
        go_wp2
        go_ret
        exact ⟨by rw [hv'.out]; rfl, (Ext.refl _).goA _⟩

set_option maxRecDepth 100000 in
set_option maxHeartbeats 800000 in
theorem fits_any (fc ad qt to : Int) (A : Option Addr) (n c : Nat) (w : World) (h1 : 0 ≤ ad) (h2 : ad < 65536) (h3 : 0 ≤ to) (h4 : to < 65536) (h5 : 0 ≤ qt) (h6 : qt ≤ 65535) (hn : n ≤ 65536) :
    Calls Try.prog 102 #[.agg #[.int .i64 fc, .int .i64 ad, .int .i64 qt, .slice A n c, .int .i64 to]] w fun e w' => e = .returned (.bool (fitsB ad qt to n)) ∧ Ext w w' := by
  by_cases hf : ad + max qt 1 ≤ 65536
  · have e := Lib.hid (show fitsB ad qt to n = decide (to + (n : Int) ≤ 65536) by unfold fitsB; rw [decide_eq_true hf, Bool.true_and])
    rcases (show (qt < 1 ∧ ad + 1 ≤ 65536) ∨ (1 ≤ qt ∧ ad + qt ≤ 65536) by omega) with ⟨h7, h8⟩ | ⟨h7, h8⟩
    all_goals
      clear hf
      go_enter Try.func102, Try.ntmps102
      go_wp2
      go_ret
      exact ⟨by rw [e.out]; rfl, (Ext.refl _).goA _⟩
  · have e := Lib.hid (show fitsB ad qt to n = false by unfold fitsB; rw [decide_eq_false hf, Bool.false_and])
    obtain ⟨h7, h8⟩ : 1 ≤ qt ∧ 65536 < ad + qt := by omega
    all_goals
      clear hf
      go_enter Try.func102, Try.ntmps102
      go_wp2
      go_ret
      exact ⟨by rw [e.out]; rfl, (Ext.refl _).goA _⟩

end Go.Proofs.Ytgeahfkhfpdlhaa
