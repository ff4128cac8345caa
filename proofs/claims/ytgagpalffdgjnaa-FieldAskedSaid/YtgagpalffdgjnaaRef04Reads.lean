/- The reference of layer 4: Reads, Most, place, single, bits. -/
import Derived.Test.YtgagpalffdgjnaaG06
import Derived.Test.YtgagpalffdgjnaaG03
namespace Go.Proofs.Ytgagpalffdgjnaa
open Go.RowKit

theorem reads_other {fc : Int} (h : fc ≠ 1 ∧ fc ≠ 2 ∧ fc ≠ 3 ∧ fc ≠ 4 ∧ fc ≠ 23) : readsB fc = false ∧ readsBits fc = false := by
  unfold readsB readsBits
  cases hs : shapeOf fc with
  | none => exact ⟨rfl, rfl⟩
  | some s =>
    rcases shape_cases hs with ⟨e, rfl⟩ | ⟨e, rfl⟩ | ⟨e, rfl⟩ | ⟨e, rfl⟩ | ⟨e, rfl⟩ | ⟨e, rfl⟩ | ⟨e, rfl⟩ | ⟨e, rfl⟩
    all_goals
      first
        | (exact ⟨rfl, rfl⟩)
        | omega
set_option maxRecDepth 100000 in
set_option maxHeartbeats 800000 in
theorem refReads_any (fc : Int) (w : World) : Calls Try.prog 52 #[.int .i64 fc] w fun e w' => e = .returned (.tuple #[.bool (readsB fc), .bool (readsBits fc)]) ∧ w = w' := by
  by_cases h : fc ≠ 1 ∧ fc ≠ 2 ∧ fc ≠ 3 ∧ fc ≠ 4 ∧ fc ≠ 23
  · obtain ⟨k1, k2⟩ := reads_other h
    rw [k1, k2]
    have e1 : (fc == 1) = false := by simp; omega
    have e2 : (fc == 2) = false := by simp; omega
    have e3 : (fc == 3) = false := by simp; omega
    have e4 : (fc == 4) = false := by simp; omega
    have e5 : (fc == 23) = false := by simp; omega
    clear h k1 k2
    go_enter Try.func52, Try.ntmps52
    go_wp2_with fail
    go_ret2
    exact ⟨rfl, rfl⟩
  · rcases (show fc = 1 ∨ fc = 2 ∨ fc = 3 ∨ fc = 4 ∨ fc = 23 by omega) with rfl | rfl | rfl | rfl | rfl
    all_goals
      clear h
      go_enter Try.func52, Try.ntmps52
      go_wp2_with fail
      go_ret2
      exact ⟨rfl, rfl⟩
def mostV (fc : Int) : Int := if fc = 1 ∨ fc = 2 then 2000 else if fc = 3 ∨ fc = 4 ∨ fc = 23 then 125 else if fc = 15 then 1968 else if fc = 16 then 123 else if fc = 5 ∨ fc = 6 ∨ fc = 22 then 1 else 0
def singleB (fc : Int) : Bool := (fc == 5) || (fc == 6) || (fc == 22)
def placeB (x : Int) : Bool := decide (0 ≤ x) && decide (x ≤ 65535)
theorem fc_cases (fc : Int) : (fc ≠ 1 ∧ fc ≠ 2 ∧ fc ≠ 3 ∧ fc ≠ 4 ∧ fc ≠ 5 ∧ fc ≠ 6 ∧ fc ≠ 15 ∧ fc ≠ 16 ∧ fc ≠ 22 ∧ fc ≠ 23) ∨ fc = 1 ∨ fc = 2 ∨ fc = 3 ∨ fc = 4 ∨ fc = 5 ∨ fc = 6 ∨ fc = 15 ∨ fc = 16 ∨ fc = 22 ∨ fc = 23 := by omega
set_option maxRecDepth 100000 in
set_option maxHeartbeats 800000 in
theorem most_any (fc : Int) (w : World) : Calls Try.prog 95 #[.int .i64 fc] w fun e w' => e = .returned (.int .i64 (mostV fc)) ∧ w = w' := by
  rcases fc_cases fc with h | rfl | rfl | rfl | rfl | rfl | rfl | rfl | rfl | rfl | rfl
  · have hm : mostV fc = 0 := by unfold mostV; rw [if_neg (by omega), if_neg (by omega), if_neg (by omega), if_neg (by omega), if_neg (by omega)]
    rw [hm]
    have e1 : (fc == 1) = false := by simp; omega
    have e2 : (fc == 2) = false := by simp; omega
    have e3 : (fc == 3) = false := by simp; omega
    have e4 : (fc == 4) = false := by simp; omega
    have e5 : (fc == 5) = false := by simp; omega
    have e6 : (fc == 6) = false := by simp; omega
    have e7 : (fc == 15) = false := by simp; omega
    have e8 : (fc == 16) = false := by simp; omega
    have e9 : (fc == 22) = false := by simp; omega
    have e10 : (fc == 23) = false := by simp; omega
    clear h hm
    go_enter Try.func95, Try.ntmps95
    go_wp2_with fail
    go_ret
    exact ⟨rfl, rfl⟩
  all_goals
    go_enter Try.func95, Try.ntmps95
    go_wp2_with fail
    go_ret
    exact ⟨rfl, rfl⟩
set_option maxRecDepth 100000 in
set_option maxHeartbeats 800000 in
theorem place_any (x : Int) (w : World) : Calls Try.prog 96 #[.int .i64 x] w fun e w' => e = .returned (.bool (placeB x)) ∧ w = w' := by
  unfold placeB
  cases h : decide (0 ≤ x)
  all_goals
    go_enter Try.func96, Try.ntmps96
    go_wp2_with fail
    go_ret
    exact ⟨rfl, rfl⟩
set_option maxRecDepth 100000 in
set_option maxHeartbeats 800000 in
theorem single_any (fc : Int) (w : World) : Calls Try.prog 97 #[.int .i64 fc] w fun e w' => e = .returned (.bool (singleB fc)) ∧ w = w' := by
  unfold singleB
  cases h1 : (fc == 5)
  · cases h2 : (fc == 6)
    · go_enter Try.func97, Try.ntmps97
      go_wp2_with fail
      go_ret
      exact ⟨rfl, rfl⟩
    · go_enter Try.func97, Try.ntmps97
      go_wp2_with fail
      go_ret
      exact ⟨rfl, rfl⟩
  · go_enter Try.func97, Try.ntmps97
    go_wp2_with fail
    go_ret
    exact ⟨rfl, rfl⟩
set_option maxRecDepth 100000 in
set_option maxHeartbeats 800000 in
theorem bits04_any (A : Option Addr) (n c B : Nat) (xs : List Int) (w : World) (hx : RdI w B .u16 A n xs) (hn : n ≤ maxLen) :
    Calls Try.prog 98 #[.slice A n c] w fun e w' => e = .returned (.bool (valuesB true xs)) ∧ w = w' := by
  unfold maxLen at hn
  have hl := Lib.hid hx.len
  go_enter Try.func98, Try.ntmps98
  go_wp2
  go_loop [3] (fun i => ∃ k : Nat, k ≤ n ∧ i = .int .i64 k ∧ ∀ j, j < k → xs.getD j 0 ≤ 1) (fun i => n - (intOf i).toNat)
  case atStart => exact ⟨0, by omega, rfl, fun j hj => absurd hj (by omega)⟩
  case round =>
    obtain ⟨k, hk, rfl, hz⟩ := hrel
    have hz' := Lib.hid hz
    clear hz
    by_cases hlt : k < n
    · obtain ⟨b, o, rfl, hb, hc⟩ := hx.at_ hlt
      by_cases h1 : xs[k]?.getD 0 ≤ 1
      · go_wp2
        go_round
        case rel =>
          refine ⟨k + 1, by omega, by go_num, fun j hj => ?_⟩
          rcases Nat.lt_succ_iff_lt_or_eq.1 hj with h | rfl
          · exact hz'.out j h
          · rw [List.getD_eq_getElem?_getD]; exact h1
        case measure => simp [intOf]; omega
      · have hv : valuesB true xs = false := by
          have hk' : k < xs.length := by rw [hl.out]; exact hlt
          unfold valuesB
          simp only [Bool.not_true, Bool.false_or]
          rw [List.all_eq_false]
          refine ⟨xs[k]'hk', List.getElem_mem _, ?_⟩
          rw [List.getElem?_eq_getElem hk'] at h1
          simpa using h1
        have hv' := Lib.hid hv
        clear hv
        go_wp2
        go_ret
        exact ⟨by rw [hv'.out]; rfl, rfl⟩
    · obtain rfl : k = n := by omega
      have hv : valuesB true xs = true := by
        unfold valuesB
        simp only [Bool.not_true, Bool.false_or, List.all_eq_true, decide_eq_true_eq]
        intro x hx'
        obtain ⟨j, hj, rfl⟩ := List.getElem_of_mem hx'
        have := hz'.out j (by rw [← hl.out]; exact hj)
        rwa [List.getD_eq_getElem?_getD, List.getElem?_eq_getElem hj] at this
      have hv' := Lib.hid hv
      clear hv
      go_wp2
      go_ret
      exact ⟨by rw [hv'.out]; rfl, rfl⟩
end Go.Proofs.Ytgagpalffdgjnaa
