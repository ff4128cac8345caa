/- Layer 16, the walks: Words, Text. -/
import Derived.Test.YtkkbjchoilcjlaaKeySum
namespace Go.Proofs.Ytkkbjchoilcjlaa
open Go.RowKit

set_option maxHeartbeats 800000 in
theorem words_no (s : ByteArray) (w : World) (hs : s.size ≤ maxLen) (hr : rightB s = false) :
    Calls Try.prog 16 #[.string s] w fun e w' => e = .returned (.slice none 0 0) ∧ w = w' := by
  have hr' := Lib.hid hr
  go_enter Try.func16, Try.ntmps16
  go_wp2_with (go_at_call 41; refine (right_any _ _ hs).mono ?_; rintro e w' ⟨rfl, rfl⟩)
  go_ret
  exact ⟨rfl, rfl⟩

set_option maxHeartbeats 800000 in
theorem words_yes (s : ByteArray) (w : World) (hs : s.size ≤ 32) (hr : rightB s = true) :
    Calls Try.prog 16 #[.string s] w fun e w' => e = .returned (.slice (some ⟨w.heap.size, 0, none⟩) ((s.size + 1) / 2) ((s.size + 1) / 2)) ∧ Blk w' w.heap.size 28 .u16 (wordsTo s s.size) ∧ Ext w w' := by
  have hmk := fun w => run_mkI Try.underlying22 info_u16 (((s.size : Int) + 1) / 2) ((s.size + 1) / 2) (by omega) (by omega) (by omega) w
  go_enter Try.func16, Try.ntmps16
  go_wp2_with (go_at_call 41; refine (right_any _ _ (by unfold maxLen; omega)).mono ?_; rintro e w' ⟨rfl, rfl⟩)
  go_loopw [15] (fun i wr => ∃ k : Nat, k ≤ s.size ∧ i = .int .i64 k ∧ Blk wr w.heap.size 28 .u16 (wordsTo s k) ∧ Ext w wr) (fun i _ => s.size - (intOf i).toNat)
  case atStart => exact ⟨0, by omega, rfl, by rw [wordsTo_zero]; exact Blk.new _ _ _ _, (Ext.refl _).goA _⟩
  case round =>
    obtain ⟨k, hk, rfl, hb, hw⟩ := hrel
    by_cases hlt : k < s.size
    · have hc : wr.cell? ⟨w.heap.size, k / 2, none⟩ = some (.int .u16 ((wordsTo s k).getD (k / 2) 0)) := hb.cell _ (by rw [wordsTo_length]; omega)
      have hf := hb.frozen (k / 2)
      by_cases h2 : k % 2 = 0
      · go_wp2
        go_roundw
        case rel =>
          refine ⟨k + 1, by omega, by go_num, ?_, hw.goS (Nat.le_refl _) _⟩
          rw [word_hi _ (by omega) (by have := (s[k]'hlt).toNat_lt; omega)]
          have hv := wordsTo_step s k hlt (((s[k]'hlt).toNat : Int) * 256) (by rw [if_pos h2, bs_getD s k hlt])
          have := hb.set_ (k / 2) (((s[k]'hlt).toNat : Int) * 256)
          rw [hv] at this
          exact this
        case measure => simp [intOf]; omega
      · have hold : (wordsTo s k).getD (k / 2) 0 = (bs s).getD (k - 1) 0 * 256 := by
          have e : 2 * (k / 2) = k - 1 := by omega
          rw [wordsTo_getD s k (k / 2) (by omega), if_pos (by omega), if_neg (by omega), e]; simp
        have hold' := Lib.hid hold
        clear hold
        go_wp2
        go_region
        go_wp2
        go_roundw
        case rel =>
          refine ⟨k + 1, by omega, by go_num, ?_, (hw.goS (Nat.le_refl _) _).god⟩
          have hr2 := byte_range s (k - 1)
          have hv := wordsTo_step s k hlt ((bs s).getD (k - 1) 0 * 256 + ((s[k]'hlt).toNat : Int)) (by rw [if_neg h2, hold'.out, bs_getD s k hlt])
          have := hb.set_ (k / 2) ((bs s).getD (k - 1) 0 * 256 + ((s[k]'hlt).toNat : Int))
          rw [hv, ← word_or _ ((s[k]'hlt).toNat : Int) (by omega) (by have := (s[k]'hlt).toNat_lt; omega) hr2.1 hr2.2, ← hold'.out, List.getD_eq_getElem?_getD] at this
          exact this
        case measure => simp [intOf]; omega
    · obtain rfl : k = s.size := by omega
      go_wp2
      go_ret
      exact ⟨rfl, hb, hw⟩
set_option maxHeartbeats 2000000 in
theorem text_any (A : Option Addr) (n c B : Nat) (xs : List Int) (w : World) (hr : RdI w B .u16 A n xs) (hB : B ≤ w.heap.size) (hn : n ≤ maxLen) :
    Calls Try.prog 18 #[.slice A n c] w fun e w' => e = .returned (.string (textS xs n)) ∧ Ext w w' := by
  unfold maxLen at hn
  have hlx := hr.len
  have hm : 2 * min n 32 ≤ 64 := by omega
  go_enter Try.func18, Try.ntmps18
  go_wp2
  go_loopw [3, 10] (fun v i wr => ∃ k : Nat, k ≤ 2 * min n 32 ∧ i = .int .i64 k ∧ wr.ownsRow w.heap.size 5 1 v k ((textTo xs k).map (Value.int .u8)) ∧ (∀ j, j < k → byteAt xs j ≠ 0) ∧ Ext w wr) (fun _ i _ => 2 * min n 32 - (intOf i).toNat)
  case atStart => exact ⟨0, by omega, rfl, World.ownsRow_nil _ _ _ _, fun j hj => absurd hj (by omega), Ext.refl _⟩
  case round =>
    obtain ⟨k, hk, rfl, hown, hne, hw⟩ := hrel
    have hne' := Lib.hid hne
    clear hne
    by_cases hlt : k < 2 * min n 32
    · obtain ⟨b, o, rfl, hb, hc0⟩ := hr.at_ (j := k / 2) (by omega)
      have hc := (hw.cell (o + k / 2) (by omega)).trans hc0
      have hc0' := Lib.hid hc0
      clear hc0
      by_cases h2 : k % 2 = 1
      · have e2 := Lib.hid (show byteAt xs k = xs[k / 2]?.getD 0 % 256 by unfold byteAt; rw [if_pos h2, List.getD_eq_getElem?_getD])
        cases hz : (xs[k / 2]?.getD 0 % 256 == 0)
        · have hz' := Lib.hid hz
          go_wp2_with (at_builtin; refine wpList_appI rfl (.tmp 31) (.tmp 33) _ rfl Try.underlying30 info_u8 (hown.alloc _) rfl (RdI.one _ _ _ _) rfl (by omega) (by omega) (by simp; have := hw.size; omega) ?_)
          intro v' w1 hown' hg _
          go_wp2
          go_roundw
          case rel =>
            refine ⟨k + 1, by omega, by go_num, ?_, ?_, ?_⟩
            · rw [textTo_succ, e2.out]; simpa using hown'
            · intro j hj
              rcases Nat.lt_succ_iff_lt_or_eq.1 hj with h | rfl
              · exact hne'.out j h
              · rw [e2.out]; simpa using hz'.out
            · exact (hw.goA _).goG hg (fun g hg => (hown.lt g hg).1)
          case measure => simp [intOf]; omega
        · have hz' := Lib.hid hz
          have ht := Lib.hid (textL_stop xs _ k hk hne'.out (.inr (by rw [e2.out]; simpa using hz'.out)))
          obtain ⟨A', c', rfl, _, hrd⟩ := own_rd hown
          have hcv := hrd.convert (P := Try.prog) Try.underlying30 Try.underlying5 Try.underlying9 c'
          have hsz : (strOfNums (textTo xs k)).size ≤ maxLen := by rw [strOfNums_size, textTo_length]; unfold maxLen; omega
          cases hq : rightB (strOfNums (textTo xs k))
          all_goals
            have hq' := Lib.hid hq
            go_wp2_with (go_at_call 41; refine (right_any _ _ hsz).mono ?_; rintro e w' ⟨rfl, rfl⟩)
            go_ret
            exact ⟨by simp [textS, ht.out, hq'.out], hw⟩
      · have e2 := Lib.hid (show byteAt xs k = xs[k / 2]?.getD 0 / 256 % 256 by unfold byteAt; rw [if_neg h2, List.getD_eq_getElem?_getD])
        cases hz : (xs[k / 2]?.getD 0 / 256 % 256 == 0)
        · have hz' := Lib.hid hz
          go_wp2_with (at_builtin; refine wpList_appI rfl (.tmp 31) (.tmp 33) _ rfl Try.underlying30 info_u8 (hown.alloc _) rfl (RdI.one _ _ _ _) rfl (by omega) (by omega) (by simp; have := hw.size; omega) ?_)
          intro v' w1 hown' hg _
          go_wp2
          go_roundw
          case rel =>
            refine ⟨k + 1, by omega, by go_num, ?_, ?_, ?_⟩
            · rw [textTo_succ, e2.out]; simpa using hown'
            · intro j hj
              rcases Nat.lt_succ_iff_lt_or_eq.1 hj with h | rfl
              · exact hne'.out j h
              · rw [e2.out]; simpa using hz'.out
            · exact (hw.goA _).goG hg (fun g hg => (hown.lt g hg).1)
          case measure => simp [intOf]; omega
        · have hz' := Lib.hid hz
          have ht := Lib.hid (textL_stop xs _ k hk hne'.out (.inr (by rw [e2.out]; simpa using hz'.out)))
          obtain ⟨A', c', rfl, _, hrd⟩ := own_rd hown
          have hcv := hrd.convert (P := Try.prog) Try.underlying30 Try.underlying5 Try.underlying9 c'
          have hsz : (strOfNums (textTo xs k)).size ≤ maxLen := by rw [strOfNums_size, textTo_length]; unfold maxLen; omega
          cases hq : rightB (strOfNums (textTo xs k))
          all_goals
            have hq' := Lib.hid hq
            go_wp2_with (go_at_call 41; refine (right_any _ _ hsz).mono ?_; rintro e w' ⟨rfl, rfl⟩)
            go_ret
            exact ⟨by simp [textS, ht.out, hq'.out], hw⟩
    · obtain hkm : k = 2 * min n 32 := by omega
      have hkm' := Lib.hid hkm
      clear hkm
      have ht := Lib.hid (textL_stop xs _ k hk hne'.out (.inl hkm'.out))
      obtain ⟨A', c', rfl, _, hrd⟩ := own_rd hown
      have hcv := hrd.convert (P := Try.prog) Try.underlying30 Try.underlying5 Try.underlying9 c'
      have hsz : (strOfNums (textTo xs k)).size ≤ maxLen := by rw [strOfNums_size, textTo_length]; unfold maxLen; omega
      cases hq : rightB (strOfNums (textTo xs k))
      all_goals
        have hq' := Lib.hid hq
        go_wp2_with (go_at_call 41; refine (right_any _ _ hsz).mono ?_; rintro e w' ⟨rfl, rfl⟩)
        go_ret
        exact ⟨by simp [textS, ht.out, hq'.out], hw⟩
end Go.Proofs.Ytkkbjchoilcjlaa
