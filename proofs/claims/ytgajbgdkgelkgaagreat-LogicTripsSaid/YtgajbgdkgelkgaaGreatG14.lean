/- Layer 16, the walks: Words, Text. · Layer 16, the reference's Sum: the same as the program's. -/
import Derived.Test.YtgajbgdkgelkgaaGreatG11
namespace Go.Proofs.YtgajbgdkgelkgaaGreat
open Go.RowKit

end Go.Proofs.YtgajbgdkgelkgaaGreat
namespace Go.Proofs.YtgajbgdkgelkgaaGreat
open Go.RowKit

theorem indexByte_neg (l : List UInt8) (c : UInt8) : Lib.indexByte l c < 0 ↔ c ∉ l := by
  induction l with
  | nil => simp [Lib.indexByte]
  | cons b l ih =>
    have hge := Lib.indexByte_ge l c
    simp only [Lib.indexByte]
    by_cases h : b = c
    · subst h; simp
    · have hb : (b == c) = false := by simp [h]
      rw [hb]
      simp only [Bool.false_eq_true, if_false, List.mem_cons, not_or]
      by_cases h1 : Lib.indexByte l c = -1
      · rw [h1]; simp; exact ⟨fun e => h e.symm, ih.1 (by omega)⟩
      · have h2 : (Lib.indexByte l c == -1) = false := by simp [h1]
        rw [h2]; simp only [Bool.false_eq_true, if_false]
        constructor
        · intro h3; omega
        · rintro ⟨_, h3⟩; have := ih.2 h3; omega
theorem no_zero (s : ByteArray) : Lib.indexByte s.data.toList 0 < 0 ↔ ∀ j, (h : j < s.size) → (s[j]'h).toNat ≠ 0 := by
  rw [indexByte_neg]
  constructor
  · intro h j hj e
    apply h
    have : s[j]'hj ∈ s.data.toList := by
      have : s[j]'hj = s.data.toList[j]'(by simpa using hj) := rfl
      rw [this]; exact List.getElem_mem _
    have e2 : s[j]'hj = 0 := UInt8.toNat_inj.1 (by simpa using e)
    rwa [e2] at this
  · intro h hm
    obtain ⟨j, hj, e⟩ := List.getElem_of_mem hm
    have hj' : j < s.size := by simpa using hj
    have : s[j]'hj' = 0 := e
    exact h j hj' (by rw [this]; rfl)

set_option maxRecDepth 100000 in
set_option maxHeartbeats 800000 in
theorem refKey_any (s : ByteArray) (w : World) (hs : s.size ≤ maxLen) :
    Calls Tryz.prog 42 #[.string s] w fun e w' => e = .returned (.bool (rightB s)) ∧ w = w' := by
  unfold maxLen at hs
  go_enter Tryz.func42, Tryz.ntmps42
  go_wp2
  go_loop [3] (fun i => ∃ k : Nat, k ≤ s.size ∧ i = .int .i64 k ∧ ∀ j, (h : j < s.size) → j < k → (s[j]'h).toNat ≠ 0) (fun i => s.size - (intOf i).toNat)
  case atStart => exact ⟨0, by omega, rfl, fun j _ hj => absurd hj (by omega)⟩
  case round =>
    obtain ⟨k, hk, rfl, hz⟩ := hrel
    have hz' := Lib.hid hz
    clear hz
    by_cases hlt : k < s.size
    · cases hb : (((s[k]'hlt).toNat : Int) == 0)
      · have hb' := Lib.hid hb
        go_wp2
        go_round
        case rel =>
          refine ⟨k + 1, by omega, by go_num, fun j h hj => ?_⟩
          rcases Nat.lt_succ_iff_lt_or_eq.1 hj with h1 | rfl
          · exact hz'.out j h h1
          · have := hb'.out; intro e; rw [e] at this; simp at this
        case measure => simp [intOf]; omega
      · have hb' := Lib.hid hb
        have hr : rightB s = false := by
          have : ¬ Lib.indexByte s.data.toList 0 < 0 := fun h => (no_zero s).1 h k hlt (by have := hb'.out; simpa using this)
          simp [rightB]; intros; omega
        have hr' := Lib.hid hr
        clear hr
        go_wp2
        go_ret
        exact ⟨by rw [hr'.out]; rfl, rfl⟩
    · obtain rfl : k = s.size := by omega
      have h0 : Lib.indexByte s.data.toList 0 < 0 := (no_zero s).2 fun j h => hz'.out j h h
      have h0' := Lib.hid h0
      clear h0
      go_wp2
      · have h1 : 1 ≤ s.size := by omega
        go_ret
        exact ⟨by simp [rightB, h1, h0'.out]; omega, rfl⟩
      · have h1 : ¬ 1 ≤ s.size := by omega
        go_ret
        exact ⟨by simp [rightB, h1], rfl⟩

theorem mix_range (h x : Int) : 0 ≤ mix h x ∧ mix h x < 18446744073709551616 := by
  unfold mix; rw [IntKind.wrap_u64]; omega
theorem sumTo_range (s : ByteArray) (t : Nat) : 0 ≤ sumTo s t ∧ sumTo s t < 18446744073709551616 := by
  cases t with
  | zero => unfold sumTo start; omega
  | succ t => exact mix_range _ _
/-- The digit as the reference makes it. -/
theorem hx_digit (d : Int) (h0 : 0 ≤ d) (h1 : d < 16) : hx d = if d < 10 then 48 + d else 97 + d - 10 := by
  have : d = 0 ∨ d = 1 ∨ d = 2 ∨ d = 3 ∨ d = 4 ∨ d = 5 ∨ d = 6 ∨ d = 7 ∨ d = 8 ∨ d = 9 ∨ d = 10 ∨ d = 11 ∨ d = 12 ∨ d = 13 ∨ d = 14 ∨ d = 15 := by omega
  rcases this with rfl | rfl | rfl | rfl | rfl | rfl | rfl | rfl | rfl | rfl | rfl | rfl | rfl | rfl | rfl | rfl <;> decide
theorem nib_mod (n : Int) (k : Nat) (h0 : 0 ≤ n) (h1 : n < 18446744073709551616) : nib n k = n / 2 ^ (4 * k) % 16 := by
  unfold nib
  have hp : (0 : Int) < 2 ^ (4 * k) := Int.pow_pos (by omega)
  have a0 : 0 ≤ n / 2 ^ (4 * k) := Int.ediv_nonneg h0 (by omega)
  have a1 : n / 2 ^ (4 * k) ≤ n := Int.ediv_le_self _ h0
  rw [u64_and _ 15 a0 (by omega) (by omega) (by omega)]
  show ((_ &&& 15 : Nat) : Int) = _
  rw [nat_mask4]; omega

set_option maxRecDepth 100000 in
set_option maxHeartbeats 1600000 in
theorem refSum_any (s : ByteArray) (w : World) (hs : s.size ≤ maxLen) :
    Calls Tryz.prog 43 #[.string s] w fun e w' => e = .returned (.string (sumS s)) ∧ Ext w w' := by
  cases hr : rightB s
  all_goals have hr' := Lib.hid hr
  all_goals unfold maxLen at hs
  · go_enter Tryz.func43, Tryz.ntmps43
    go_wp2_with (go_at_call 42; refine (refKey_any _ _ hs).mono ?_; rintro e w' ⟨rfl, rfl⟩)
    go_ret
    exact ⟨by simp [sumS, hr'.out], Ext.refl _⟩
  · have hmk := fun w => run_mkI Tryz.underlying145 info_u8 16 16 rfl (by omega) (by omega) w
    go_enter Tryz.func43, Tryz.ntmps43
    go_wp2_with (go_at_call 42; refine (refKey_any _ _ hs).mono ?_; rintro e w' ⟨rfl, rfl⟩)
    go_loop [3, 4] (fun h t => ∃ k : Nat, k ≤ 64 ∧ t = .int .i64 k ∧ h = .int .u64 (sumTo s k)) (fun _ t => 64 - (intOf t).toNat)
    case atStart => exact ⟨0, by omega, rfl, rfl⟩
    case round =>
      obtain ⟨k, hk, rfl, rfl⟩ := hrel
      by_cases hlt : k < 64
      · go_wp2
        go_loop [3, 5] (fun h i => ∃ j : Nat, j ≤ s.size ∧ i = .int .i64 j ∧ h = .int .u64 (roundTo s (sumTo s k) j)) (fun _ i => s.size - (intOf i).toNat)
        case atStart => exact ⟨0, by omega, rfl, rfl⟩
        case round =>
          obtain ⟨j, hj, rfl, rfl⟩ := hrel
          by_cases hlj : j < s.size
          · have hb := Lib.hid (bs_getD s j hlj)
            have hwb : IntKind.u64.wrap ((s[j]'hlj).toNat : Int) = ((s[j]'hlj).toNat : Int) := by
              rw [IntKind.wrap_u64]; have := (s[j]'hlj).toNat_lt; omega
            go_wp2
            go_round
            case rel => exact ⟨j + 1, by omega, by go_num, by rw [roundTo, hb.out]; rfl⟩
            case measure => simp [intOf]; omega
          · obtain rfl : j = s.size := by omega
            go_wp2
            go_round
            case rel => exact ⟨k + 1, by omega, by go_num, rfl⟩
            case measure => simp [intOf]; omega
      · obtain rfl : k = 64 := by omega
        have hH := sumTo_range s 64
        generalize hHe : sumTo s 64 = H at *
        have hHe' := Lib.hid hHe
        clear hHe
        go_wp2
        go_loopw [3, 7] (fun h i wr => ∃ k : Nat, k ≤ 16 ∧ i = .int .i64 (15 - k) ∧ h = .int .u64 (H / 2 ^ (4 * k)) ∧ Blk wr w.heap.size 5 .u8 (toldTo H k) ∧ Ext w wr) (fun _ i _ => (intOf i + 1).toNat)
        case atStart => exact ⟨0, by omega, rfl, by simp, by rw [toldTo_zero]; exact Blk.new _ _ _ _, (Ext.refl _).goA _⟩
        case round =>
          obtain ⟨k, hk, rfl, rfl, hb, hw⟩ := hrel
          have hp : (0 : Int) < 2 ^ (4 * k) := Int.pow_pos (by omega)
          have a0 : 0 ≤ H / 2 ^ (4 * k) := Int.ediv_nonneg hH.1 (by omega)
          have a1 : H / 2 ^ (4 * k) ≤ H := Int.ediv_le_self _ hH.1
          have hstep := Lib.hid (show H / 2 ^ (4 * k) / 16 = H / 2 ^ (4 * (k + 1)) by
            rw [Int.ediv_ediv_of_nonneg (by omega), show (2 : Int) ^ (4 * (k + 1)) = 2 ^ (4 * k) * 16 by rw [show 4 * (k + 1) = 4 * k + 4 by omega, Int.pow_add]; rfl])
          have hnib := Lib.hid (nib_mod H k hH.1 hH.2)
          have hnr := nib_range H k
          generalize H / 2 ^ (4 * k) = G at *
          by_cases hlt : k < 16
          · have hc : wr.cell? ⟨w.heap.size, 15 - k, none⟩ = some (.int .u8 ((toldTo H k).getD (15 - k) 0)) := hb.cell _ (by rw [toldTo_length]; omega)
            have hf := hb.frozen (15 - k)
            by_cases h10 : G % 16 < 10
            · go_wp2
              go_roundw
              case rel =>
                refine ⟨k + 1, by omega, by go_num, by rw [hstep.out], ?_, hw.goS (Nat.le_refl _) _⟩
                have := hb.set_ (15 - k) (hx (nib H k))
                rw [toldTo_step H k hlt, hnib.out, hx_digit _ (by omega) (by omega), if_pos h10] at this
                exact this
              case measure => simp [intOf]; omega
            · go_wp2
              go_roundw
              case rel =>
                refine ⟨k + 1, by omega, by go_num, by rw [hstep.out], ?_, hw.goS (Nat.le_refl _) _⟩
                have := hb.set_ (15 - k) (hx (nib H k))
                rw [toldTo_step H k hlt, hnib.out, hx_digit _ (by omega) (by omega), if_neg h10] at this
                exact this
              case measure => simp [intOf]; omega
          · obtain rfl : k = 16 := by omega
            have hcv := (hb.rd (Nat.lt_succ_self _)).convert (P := Tryz.prog) Tryz.underlying145 Tryz.underlying5 Tryz.underlying9 16
            rw [toldTo_length, toldTo_all] at hcv
            go_wp2
            go_ret
            exact ⟨by simp [sumS, hr'.out, hHe'.out], hw⟩
end Go.Proofs.YtgajbgdkgelkgaaGreat
