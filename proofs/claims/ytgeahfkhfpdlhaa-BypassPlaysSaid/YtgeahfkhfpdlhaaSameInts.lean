/- Lists of numbers, alike or not: the comparisons of layers 8 and 15 (turned by program out of the text for words); one of some. -/
import Derived.Test.YtgeahfkhfpdlhaaBypWords
import Derived.Deep.RegionHeld
namespace Go.Proofs.Ytgeahfkhfpdlhaa
open Go.RowKit

set_option maxRecDepth 100000 in
set_option maxHeartbeats 1000000 in
theorem sameInts_any (A1 A2 : Option Addr) (n1 c1 n2 c2 B : Nat) (xs ys : List Int) (w : World) (h1 : RdI w B .i64 A1 n1 xs) (h2 : RdI w B .i64 A2 n2 ys) (hn1 : n1 ≤ maxLen) (hn2 : n2 ≤ maxLen) :
    Calls Try.prog 42 #[.slice A1 n1 c1, .slice A2 n2 c2] w fun e w' => e = .returned (.bool (decide (xs = ys))) ∧ ∃ m, w.drewN m = w' := by
  unfold maxLen at hn1 hn2
  have l1 := Lib.hid h1.len
  have l2 := Lib.hid h2.len
  by_cases hl : n1 = n2
  · subst hl
    go_enter Try.func42, Try.ntmps42
    go_wp2
    go_loopw [5] (fun i wr => ∃ k : Nat, k ≤ n1 ∧ i = .int .i64 k ∧ (∀ j, j < k → xs.getD j 0 = ys.getD j 0) ∧ ∃ m, w.drewN m = wr) (fun i _ => n1 - (intOf i).toNat)
    case atStart => exact ⟨0, by omega, rfl, fun j hj => absurd hj (by omega), 0, rfl⟩
    case round =>
      obtain ⟨k, hk, rfl, he, m, rfl⟩ := hrel
      have he' := Lib.hid he
      clear he
      by_cases hlt : k < n1
      · obtain ⟨b1, o1, rfl, hb1, hc1⟩ := h1.at_ hlt
        obtain ⟨b2, o2, rfl, hb2, hc2⟩ := h2.at_ hlt
        cases hz : (xs[k]?.getD 0 != ys[k]?.getD 0)
        · have hz' := Lib.hid hz
          go_wp2_with fail
          go_quiet (fail)
          go_wp2
          go_roundw
          case rel =>
            refine ⟨k + 1, by omega, by go_num, fun j hj => ?_, m + nq, rfl⟩
            rcases Nat.lt_succ_iff_lt_or_eq.1 hj with h | rfl
            · exact he'.out j h
            · have := hz'.out; simpa using this
          case measure => simp [intOf]; omega
        · have hz' := Lib.hid hz
          go_wp2_with fail
          go_quiet (fail)
          go_wp2
          go_ret
          refine ⟨?_, m + nq, by simp⟩
          have h : ¬ xs = ys := by rintro rfl; have := hz'.out; simp at this
          simp [h]
      · obtain rfl : k = n1 := by omega
        have e : xs = ys := by
          apply List.ext_getElem?
          intro j
          by_cases hj : j < k
          · have := he'.out j hj
            rw [List.getD_eq_getElem?_getD, List.getD_eq_getElem?_getD, List.getElem?_eq_getElem (by rw [l1.out]; exact hj), List.getElem?_eq_getElem (by rw [l2.out]; exact hj)] at this
            rw [List.getElem?_eq_getElem (by rw [l1.out]; exact hj), List.getElem?_eq_getElem (by rw [l2.out]; exact hj)]
            exact congrArg some this
          · rw [List.getElem?_eq_none (by rw [l1.out]; omega), List.getElem?_eq_none (by rw [l2.out]; omega)]
        have e' := Lib.hid e
        clear e
        go_wp2
        go_ret
        exact ⟨by simp [e'.out], m, rfl⟩
  · have hne : ¬ xs = ys := by rintro rfl; exact hl (l1.out.symm.trans l2.out)
    have hne' := Lib.hid hne
    clear hne
    go_enter Try.func42, Try.ntmps42
    go_wp2
    go_ret
    exact ⟨by simp [hne'.out], 0, rfl⟩
set_option maxRecDepth 100000 in
set_option maxHeartbeats 1000000 in
theorem same15_any (A1 A2 : Option Addr) (n1 c1 n2 c2 B : Nat) (xs ys : List Int) (w : World) (h1 : RdI w B .i64 A1 n1 xs) (h2 : RdI w B .i64 A2 n2 ys) (hn1 : n1 ≤ maxLen) (hn2 : n2 ≤ maxLen) :
    Calls Try.prog 51 #[.slice A1 n1 c1, .slice A2 n2 c2] w fun e w' => e = .returned (.bool (decide (xs = ys))) ∧ ∃ m, w.drewN m = w' := by
  unfold maxLen at hn1 hn2
  have l1 := Lib.hid h1.len
  have l2 := Lib.hid h2.len
  by_cases hl : n1 = n2
  · subst hl
    go_enter Try.func51, Try.ntmps51
    go_wp2
    go_loopw [5] (fun i wr => ∃ k : Nat, k ≤ n1 ∧ i = .int .i64 k ∧ (∀ j, j < k → xs.getD j 0 = ys.getD j 0) ∧ ∃ m, w.drewN m = wr) (fun i _ => n1 - (intOf i).toNat)
    case atStart => exact ⟨0, by omega, rfl, fun j hj => absurd hj (by omega), 0, rfl⟩
    case round =>
      obtain ⟨k, hk, rfl, he, m, rfl⟩ := hrel
      have he' := Lib.hid he
      clear he
      by_cases hlt : k < n1
      · obtain ⟨b1, o1, rfl, hb1, hc1⟩ := h1.at_ hlt
        obtain ⟨b2, o2, rfl, hb2, hc2⟩ := h2.at_ hlt
        cases hz : (xs[k]?.getD 0 != ys[k]?.getD 0)
        · have hz' := Lib.hid hz
          go_wp2_with fail
          go_quiet (fail)
          go_wp2
          go_roundw
          case rel =>
            refine ⟨k + 1, by omega, by go_num, fun j hj => ?_, m + nq, rfl⟩
            rcases Nat.lt_succ_iff_lt_or_eq.1 hj with h | rfl
            · exact he'.out j h
            · have := hz'.out; simpa using this
          case measure => simp [intOf]; omega
        · have hz' := Lib.hid hz
          go_wp2_with fail
          go_quiet (fail)
          go_wp2
          go_ret
          refine ⟨?_, m + nq, by simp⟩
          have h : ¬ xs = ys := by rintro rfl; have := hz'.out; simp at this
          simp [h]
      · obtain rfl : k = n1 := by omega
        have e : xs = ys := by
          apply List.ext_getElem?
          intro j
          by_cases hj : j < k
          · have := he'.out j hj
            rw [List.getD_eq_getElem?_getD, List.getD_eq_getElem?_getD, List.getElem?_eq_getElem (by rw [l1.out]; exact hj), List.getElem?_eq_getElem (by rw [l2.out]; exact hj)] at this
            rw [List.getElem?_eq_getElem (by rw [l1.out]; exact hj), List.getElem?_eq_getElem (by rw [l2.out]; exact hj)]
            exact congrArg some this
          · rw [List.getElem?_eq_none (by rw [l1.out]; omega), List.getElem?_eq_none (by rw [l2.out]; omega)]
        have e' := Lib.hid e
        clear e
        go_wp2
        go_ret
        exact ⟨by simp [e'.out], m, rfl⟩
  · have hne : ¬ xs = ys := by rintro rfl; exact hl (l1.out.symm.trans l2.out)
    have hne' := Lib.hid hne
    clear hne
    go_enter Try.func51, Try.ntmps51
    go_wp2
    go_ret
    exact ⟨by simp [hne'.out], 0, rfl⟩
end Go.Proofs.Ytgeahfkhfpdlhaa
