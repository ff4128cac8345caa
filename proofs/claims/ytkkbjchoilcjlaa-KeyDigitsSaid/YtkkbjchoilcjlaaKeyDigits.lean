/- Layer 16: the law KeyDigits, walked. -/
import Derived.Test.YtkkbjchoilcjlaaKeyHead
namespace Go.Proofs.Ytkkbjchoilcjlaa
open Go.RowKit

theorem sum_bytes (s : ByteArray) (h : rightB s = true) (i : Nat) (hi : i < (sumS s).size) : (48 ≤ (((sumS s)[i]'hi).toNat : Int) ∧ (((sumS s)[i]'hi).toNat : Int) ≤ 57) ∨ (97 ≤ (((sumS s)[i]'hi).toNat : Int) ∧ (((sumS s)[i]'hi).toNat : Int) ≤ 102) := by
  have h16 : i < 16 := by rw [sum_size s h] at hi; exact hi
  have e1 : (bs (sumS s)).getD i 0 = hx (nib (sumTo s 64) (15 - i)) := by
    unfold bs sumS
    rw [if_pos h, strOfNums_data, List.getD_eq_getElem?_getD, List.getElem?_map, List.getElem?_map]
    unfold toldL
    rw [List.getElem?_map, List.getElem?_range h16]
    simp only [Option.map_some, Option.getD_some]
    have hr := nib_range (sumTo s 64) (15 - i)
    rw [hx_digit _ hr.1 hr.2]
    split <;> (rw [UInt8.toNat_ofNat']; omega)
  rw [bs_getD _ _ hi] at e1
  rw [e1]
  have hr := nib_range (sumTo s 64) (15 - i)
  rw [hx_digit _ hr.1 hr.2]
  split <;> omega

theorem sum_some (s : ByteArray) (h : rightB s = true) : (sumS s).toList.isEmpty = false := by
  have h5 := sum_size s h
  rw [Lib.toList_data]
  cases h : (sumS s).data.toList with
  | nil => have : (sumS s).data.toList.length = 16 := h5; rw [h] at this; cases this
  | cons => rfl
/-- A string whose number k is turned is another one. -/
theorem turned_ne (x : ByteArray) (k : Nat) (hk : k < x.size) (v : Int) (h0 : 0 ≤ v) (h1 : v ≤ 255) (hv : v ≠ (bs x).getD k 0) : ((strOfNums ((bs x).set k v)).toList == x.toList) = false := by
  rw [beq_eq_false_iff_ne]
  intro e
  rw [Lib.toList_data, Lib.toList_data, strOfNums_data] at e
  apply hv
  have : ((((bs x).set k v).map fun n => UInt8.ofNat n.toNat)[k]?) = x.data.toList[k]? := by rw [e]
  rw [List.getElem?_map, List.getElem?_set_self (by rw [bs_length]; exact hk), List.getElem?_eq_getElem (show k < x.data.toList.length from hk)] at this
  simp only [Option.map_some, Option.some.injEq] at this
  rw [bs_getD x k hk]
  have e2 : x[k]'hk = x.data.toList[k]'(show k < x.data.toList.length from hk) := rfl
  rw [e2, ← this, UInt8.toNat_ofNat']
  omega

theorem size_ne (x y : ByteArray) (h : x.size ≠ y.size) : (x.toList == y.toList) = false := by
  rw [beq_eq_false_iff_ne]
  intro e
  rw [Lib.toList_data, Lib.toList_data] at e
  apply h
  have := congrArg List.length e
  exact this

set_option maxHeartbeats 1600000 in
theorem digits_any (s : ByteArray) (a : Int) (w : World) (hs : s.size ≤ maxLen) (ha : 0 ≤ a) (hb : a ≤ 255) :
    Calls Try.prog 4 #[.string s, .int .u8 a] w fun e w' => e = .returned (.bool true) ∧ Ext w w' := by
  cases hr : rightB s
  · have h5 := sum_none s hr
    clear hr
    unfold maxLen at hs
    go_enter Try.func4, Try.ntmps4
    go_wp2_with (first | (go_at_call 15; refine (keyHead_any _).mono ?_; rintro e w1 ⟨rfl, d1⟩) | (go_at_call 17; refine (sum_any _ _ hs).mono ?_; rintro e w2 ⟨rfl, d2⟩))
    all_goals go_ret
    all_goals exact ⟨rfl, d1.go d2⟩
  · have h5 : (sumS s).size = 16 := sum_size s hr
    have h6 := sum_some s hr
    have hb5 : s.size ≤ 32 := by simp [rightB] at hr; omega
    have hr' := Lib.hid hr
    clear hr
    obtain ⟨k, rfl⟩ := Int.eq_ofNat_of_zero_le ha
    go_enter Try.func4, Try.ntmps4
    go_wp2_with (first | (go_at_call 15; refine (keyHead_any _).mono ?_; rintro e w1 ⟨rfl, d1⟩) | (go_at_call 17; refine (sum_any _ _ hs).mono ?_; rintro e w2 ⟨rfl, d2⟩))
    go_loop [7] (fun i => ∃ k : Nat, k ≤ 16 ∧ i = .int .i64 k) (fun i => 16 - (intOf i).toNat)
    case atStart => exact ⟨0, by omega, rfl⟩
    case round =>
      obtain ⟨j, hj, rfl⟩ := hrel
      by_cases hlt : j < 16
      · have hd := sum_bytes s hr'.out j (by omega)
        rcases hd with hd | hd
        all_goals
          go_wp2
          go_round
          case rel => exact ⟨j + 1, by omega, by go_num⟩
          case measure => simp [intOf]; omega
      · obtain rfl : j = 16 := by omega
        obtain ⟨c, w3, hrun, hc, harr, d3, hlw⟩ := run_toBytes (P := Try.prog) Try.underlying9 Try.underlying30 Try.underlying5 w2 (sumS s)
        have hk : k % 16 < (bs (sumS s)).length := by rw [bs_length]; omega
        have c1 := harr.cell (k % 16) hk
        have c2 := harr.frozen (k % 16) hk
        rw [h5] at hrun
        obtain ⟨d, hd⟩ : ∃ d, d = (bs (sumS s)).getD (k % 16) 0 := ⟨_, rfl⟩
        rw [← hd] at c1
        have hd' := Lib.hid hd
        clear hd
        cases hz : (d == 48)
        all_goals have hz' := Lib.hid hz
        · have hset := harr.set_ (k % 16) 48 hk
          have hne := turned_ne (sumS s) (k % 16) (by omega) 48 (by omega) (by omega) (by rw [← hd'.out]; have := hz'.out; simp at this; omega)
          clear hk
          go_wp2_with fail
          refine (match_any _ _ _ hs).mono ?_; rintro e w4 ⟨rfl, d4⟩
          have hcv := ((hset.rd (n := 16) (B := w3.heap.size) hlw (by rw [List.length_set, bs_length, h5])).keep (w' := w4) (fun b hb => d4.block b (by simpa [World.setCell] using hb))).convert (P := Try.prog) Try.underlying30 Try.underlying5 Try.underlying9 c
          have m1 := hr'.out
          go_wp2_with fail
          refine (match_any _ _ _ hs).mono ?_; rintro e w5 ⟨rfl, d5⟩
          have m2 := size_ne ((sumS s).extract 0 15) (sumS s) (by rw [ByteArray.size_extract, h5]; decide)
          go_wp2_with fail
          refine (match_any _ _ _ hs).mono ?_; rintro e w6 ⟨rfl, d6⟩
          have m3 := size_ne (sumS s ++ ⟨#[48]⟩) (sumS s) (by rw [ByteArray.size_append]; exact Nat.ne_of_gt (Nat.lt_add_of_pos_right (by decide)))
          go_wp2_with fail
          refine (match_any _ _ _ hs).mono ?_; rintro e w7 ⟨rfl, d7⟩
          go_wp2_with fail
          go_ret
          exact ⟨rfl, ((((((d1.go d2).go d3).goS (d1.go d2).size _).go d4).go d5).go d6).go d7⟩
        · have hset := harr.set_ (k % 16) 49 hk
          have hne := turned_ne (sumS s) (k % 16) (by omega) 49 (by omega) (by omega) (by rw [← hd'.out]; have := hz'.out; simp at this; omega)
          clear hk
          go_wp2_with fail
          refine (match_any _ _ _ hs).mono ?_; rintro e w4 ⟨rfl, d4⟩
          have hcv := ((hset.rd (n := 16) (B := w3.heap.size) hlw (by rw [List.length_set, bs_length, h5])).keep (w' := w4) (fun b hb => d4.block b (by simpa [World.setCell] using hb))).convert (P := Try.prog) Try.underlying30 Try.underlying5 Try.underlying9 c
          have m1 := hr'.out
          go_wp2_with fail
          refine (match_any _ _ _ hs).mono ?_; rintro e w5 ⟨rfl, d5⟩
          have m2 := size_ne ((sumS s).extract 0 15) (sumS s) (by rw [ByteArray.size_extract, h5]; decide)
          go_wp2_with fail
          refine (match_any _ _ _ hs).mono ?_; rintro e w6 ⟨rfl, d6⟩
          have m3 := size_ne (sumS s ++ ⟨#[48]⟩) (sumS s) (by rw [ByteArray.size_append]; exact Nat.ne_of_gt (Nat.lt_add_of_pos_right (by decide)))
          go_wp2_with fail
          refine (match_any _ _ _ hs).mono ?_; rintro e w7 ⟨rfl, d7⟩
          go_wp2_with fail
          go_ret
          exact ⟨rfl, ((((((d1.go d2).go d3).goS (d1.go d2).size _).go d4).go d5).go d6).go d7⟩
end Go.Proofs.Ytkkbjchoilcjlaa
