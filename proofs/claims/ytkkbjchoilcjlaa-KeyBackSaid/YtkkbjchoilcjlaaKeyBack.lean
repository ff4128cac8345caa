/- Layer 16: the law KeyBack, walked. -/
import Derived.Test.YtkkbjchoilcjlaaKeyBounds
namespace Go.Proofs.Ytkkbjchoilcjlaa
open Go.RowKit

theorem strOfNums_bs (s : ByteArray) : strOfNums (bs s) = s := by
  have : (strOfNums (bs s)).data.toList = s.data.toList := by
    rw [strOfNums_data]
    unfold bs
    rw [List.map_map]
    conv => rhs; rw [← List.map_id s.data.toList]
    apply List.map_congr_left
    intro b _
    show UInt8.ofNat ((b.toNat : Int)).toNat = b
    rw [Int.toNat_natCast, UInt8.ofNat_toNat]
  have h2 : (strOfNums (bs s)).data = s.data := Array.toList_inj.1 this
  cases s
  cases h : strOfNums (bs _)
  simp_all
theorem right_size {s : ByteArray} (h : rightB s = true) : 1 ≤ s.size ∧ s.size ≤ 32 := by simp [rightB] at h; omega
theorem right_byte {s : ByteArray} (h : rightB s = true) (j : Nat) (hj : j < s.size) : (bs s).getD j 0 ≠ 0 := by
  have h0 : Lib.indexByte s.data.toList 0 < 0 := by simp [rightB] at h; omega
  rw [bs_getD s j hj]
  have := (no_zero s).1 h0 j hj
  omega
/-- The words of a key tell it, with whatever behind a 0. -/
theorem text_words (s : ByteArray) (ys : List Int) (h : rightB s = true) (hy : ys = [] ∨ ys.getD 0 0 = 0) : textS (wordsTo s s.size ++ ys) ((s.size + 1) / 2 + ys.length) = s := by
  have hs := right_size h
  have hw : (wordsTo s s.size).length = (s.size + 1) / 2 := wordsTo_length _ _
  have get : ∀ i, i < (s.size + 1) / 2 → (wordsTo s s.size ++ ys).getD i 0 = (bs s).getD (2 * i) 0 * 256 + (if 2 * i + 1 < s.size then (bs s).getD (2 * i + 1) 0 else 0) := by
    intro i hi
    rw [List.getD_eq_getElem?_getD, List.getElem?_append_left (by omega), ← List.getD_eq_getElem?_getD, wordsTo_getD s _ i hi, if_pos (by omega)]
  have hb : ∀ j, j < s.size → byteAt (wordsTo s s.size ++ ys) j = (bs s).getD j 0 := by
    intro j hj
    unfold byteAt
    rw [get (j / 2) (by omega)]
    have r1 := byte_range s (2 * (j / 2))
    have r2 := byte_range s (2 * (j / 2) + 1)
    by_cases h2 : j % 2 = 1
    · rw [if_pos h2, if_pos (by omega)]
      have e : 2 * (j / 2) + 1 = j := by omega
      rw [e] at r2 ⊢; omega
    · rw [if_neg h2]
      have e : 2 * (j / 2) = j := by omega
      rw [e] at r1 r2 ⊢
      split <;> omega
  have hl : textL (wordsTo s s.size ++ ys) (2 * min ((s.size + 1) / 2 + ys.length) 32) = textTo (wordsTo s s.size ++ ys) s.size := by
    apply textL_stop _ _ _ (by omega) (fun j hj => by rw [hb j hj]; exact right_byte h j hj)
    by_cases h2 : s.size % 2 = 1
    · right
      unfold byteAt
      rw [if_pos h2, get (s.size / 2) (by omega), if_neg (by omega)]
      omega
    · rcases hy with rfl | hy
      · left; simp; omega
      · right
        unfold byteAt
        rw [if_neg h2, List.getD_eq_getElem?_getD, List.getElem?_append_right (by omega)]
        have e : s.size / 2 - (wordsTo s s.size).length = 0 := by omega
        rw [e, ← List.getD_eq_getElem?_getD, hy]; rfl
  have hT : textTo (wordsTo s s.size ++ ys) s.size = bs s := by
    unfold textTo
    apply List.ext_getElem
    · simp [bs_length]
    · intro j h1 h2
      rw [List.getElem_map, List.getElem_range, hb j (by simpa using h1), List.getD_eq_getElem?_getD, List.getElem?_eq_getElem h2]; rfl
  unfold textS
  rw [hl, hT, strOfNums_bs, if_pos h]
/-- What words tell is a key, or nothing. -/
theorem text_right (xs : List Int) (n : Nat) : textS xs n = ⟨#[]⟩ ∨ rightB (textS xs n) = true := by
  unfold textS
  split
  · right; assumption
  · left; rfl

theorem not_empty (s : ByteArray) (h : 1 ≤ s.size) : s.toList.isEmpty = false := by
  rw [Lib.toList_data]
  cases e : s.data.toList with
  | nil => have : s.data.toList.length = s.size := rfl; rw [e] at this; simp at this; omega
  | cons => rfl
/-- Whether the first k bytes leave it a key. -/
def fineTo (s : ByteArray) (k : Nat) : Bool := decide (1 ≤ (s.size : Int)) && decide ((s.size : Int) ≤ 32) && decide (∀ j, (h : j < s.size) → j < k → (s[j]'h).toNat ≠ 0)
theorem fine_step (s : ByteArray) (k : Nat) (hk : k < s.size) : fineTo s (k + 1) = (fineTo s k && (((s[k]'hk).toNat : Int) != 0)) := by
  unfold fineTo
  generalize (decide (1 ≤ (s.size : Int)) && decide ((s.size : Int) ≤ 32)) = F
  rw [Bool.and_assoc]
  congr 1
  rw [Bool.eq_iff_iff]
  simp only [decide_eq_true_eq, Bool.and_eq_true, bne_iff_ne, ne_eq]
  constructor
  · intro h
    exact ⟨fun j h1 h2 => h j h1 (by omega), by have := h k hk (by omega); omega⟩
  · rintro ⟨h1, h2⟩ j hj hjk
    rcases Nat.lt_succ_iff_lt_or_eq.1 hjk with h | rfl
    · exact h1 j hj h
    · omega
theorem fine_all (s : ByteArray) : fineTo s s.size = rightB s := by
  unfold fineTo rightB
  have e : (decide (∀ j, (h : j < s.size) → j < s.size → (s[j]'h).toNat ≠ 0)) = decide (Lib.indexByte s.data.toList 0 < 0) := by
    rw [decide_eq_decide, no_zero]
    exact ⟨fun h j hj => h j hj hj, fun h j hj _ => h j hj⟩
  rw [e]
  congr 2 <;> (rw [decide_eq_decide]; omega)
theorem fine_zero (s : ByteArray) : fineTo s 0 = (decide (1 ≤ (s.size : Int)) && decide ((s.size : Int) ≤ 32)) := by
  unfold fineTo
  rw [decide_eq_true (p := ∀ j, (h : j < s.size) → j < 0 → (s[j]'h).toNat ≠ 0) (fun j _ h => absurd h (by omega)), Bool.and_true]

set_option maxHeartbeats 3200000 in
theorem back_big (s : ByteArray) (A : Option Addr) (n c : Nat) (w : World) (hs : s.size ≤ 140737488351232) (hn : n ≤ 140737488351232) (hbig : 5000 < s.size + n) :
    Calls Try.prog 3 #[.string s, .slice A n c] w fun e w' => e = .returned (.bool true) ∧ Ext w w' := by
  go_enter Try.func3, Try.ntmps3
  go_wp2_with (go_at_call 15; refine (keyHead_any _).mono ?_; rintro e w1 ⟨rfl, d1⟩)
  go_ret
  exact ⟨rfl, d1⟩

set_option maxHeartbeats 3200000 in
theorem back_no (s : ByteArray) (A : Option Addr) (n c : Nat) (xs : List Int) (w : World) (hsmall : s.size + n ≤ 5000) (hx : RdI w w.heap.size .u16 A n xs) (hr : rightB s = false) :
    Calls Try.prog 3 #[.string s, .slice A n c] w fun e w' => e = .returned (.bool true) ∧ Ext w w' := by
  have hs : s.size ≤ maxLen := by unfold maxLen; omega
  have hs' := Lib.hid hs
  have hr' := Lib.hid hr
  have hf0 := Lib.hid (fine_zero s)
  have h5 := sum_none s hr
  clear hs hr
  go_enter Try.func3, Try.ntmps3
  rcases (show s.size < 1 ∨ (1 ≤ s.size ∧ s.size ≤ 32) ∨ 32 < s.size by omega) with h0 | h0 | h0
  rotate_left
  obtain ⟨h0, h00⟩ := h0
  rotate_left
  rotate_left
  all_goals
    go_wp2_with (go_at_call 15; refine (keyHead_any _).mono ?_; rintro e w1 ⟨rfl, d1⟩)
    go_loop [6, 7] (fun f i => ∃ k : Nat, k ≤ s.size ∧ i = .int .i64 k ∧ f = .bool (fineTo s k)) (fun _ i => s.size - (intOf i).toNat)
    case atStart =>
      refine ⟨0, by omega, rfl, ?_⟩
      rw [hf0.out]; congr 1; simp; try omega
    case round =>
      obtain ⟨k, hk, rfl, rfl⟩ := hrel
      by_cases hlt : k < s.size
      · have hstep := Lib.hid (fine_step s k hlt)
        cases hf : fineTo s k
        all_goals
          have hf' := Lib.hid hf
          go_wp2
          go_round
          case rel => exact ⟨k + 1, by omega, by go_num, by rw [hstep.out, hf'.out]; simp⟩
          case measure => simp [intOf]; omega
      · obtain rfl : k = s.size := by omega
        have hfa : fineTo s s.size = false := (fine_all s).trans hr'.out
        have hx1 := hx.below d1
        go_wp2_with fail
        refine (words_no _ _ hs'.out hr'.out).mono ?_; rintro e w' ⟨rfl, rfl⟩
        go_wp2_with fail
        refine (sum_any _ _ hs'.out).mono ?_; rintro e w2 ⟨rfl, d2⟩
        go_wp2_with fail
        refine (text_any _ _ _ _ _ _ (hx1.below (d2.mono d1.size)) (Nat.le_trans d1.size d2.size) (by unfold maxLen; omega)).mono ?_; rintro e w3 ⟨rfl, d3⟩
        rcases text_right xs n with ht | ht
        · go_wp2_with fail
          go_ret
          exact ⟨rfl, (d1.go d2).go d3⟩
        · have ht1 := sum_some _ ht
          obtain ⟨ht2, ht3⟩ := right_size ht
          have ht4 := not_empty _ ht2
          have ht5 := Lib.hid ht
          have ht6 : (((textS xs n).size : Int) ≤ 32) := by omega
          clear ht ht2
          go_wp2_with fail
          refine (sum_any _ _ (by unfold maxLen; omega)).mono ?_; rintro e w4 ⟨rfl, d4⟩
          go_wp2_with fail
          go_ret
          exact ⟨rfl, ((d1.go d2).go d3).go d4⟩

set_option maxHeartbeats 3200000 in
theorem back_yes (s : ByteArray) (A : Option Addr) (n c : Nat) (xs : List Int) (w : World) (hsmall : s.size + n ≤ 5000) (hx : RdI w w.heap.size .u16 A n xs) (hr : rightB s = true) :
    Calls Try.prog 3 #[.string s, .slice A n c] w fun e w' => e = .returned (.bool true) ∧ Ext w w' := by
  have hs : s.size ≤ maxLen := by unfold maxLen; omega
  have hs' := Lib.hid hs
  have hr' := Lib.hid hr
  have hf0 := Lib.hid (fine_zero s)
  have h5 := sum_size s hr
  have h6 := sum_some s hr
  obtain ⟨h0, h00⟩ := right_size hr
  clear hs hr
  go_enter Try.func3, Try.ntmps3
  go_wp2_with (go_at_call 15; refine (keyHead_any _).mono ?_; rintro e w1 ⟨rfl, d1⟩)
  go_loop [6, 7] (fun f i => ∃ k : Nat, k ≤ s.size ∧ i = .int .i64 k ∧ f = .bool (fineTo s k)) (fun _ i => s.size - (intOf i).toNat)
  case atStart =>
    refine ⟨0, by omega, rfl, ?_⟩
    rw [hf0.out]; congr 1; simp; try omega
  case round =>
    obtain ⟨k, hk, rfl, rfl⟩ := hrel
    by_cases hlt : k < s.size
    · have hstep := Lib.hid (fine_step s k hlt)
      cases hf : fineTo s k
      all_goals
        have hf' := Lib.hid hf
        go_wp2
        go_round
        case rel => exact ⟨k + 1, by omega, by go_num, by rw [hstep.out, hf'.out]; simp⟩
        case measure => simp [intOf]; omega
    · obtain rfl : k = s.size := by omega
      have hfa : fineTo s s.size = true := (fine_all s).trans hr'.out
      have hx1 := hx.below d1
      have hg : (decide (0 < ((s.size : Int) + 1) / 2)) = true := by simp; omega
      have hself : (s.toList == s.toList) = true := beq_self_eq_true _
      go_wp2_with fail
      refine (words_yes _ _ h00 hr'.out).mono ?_; rintro e w2 ⟨rfl, b2, d2⟩
      go_wp2_with fail
      refine (sum_any _ _ hs'.out).mono ?_; rintro e w3 ⟨rfl, d3⟩
      have b3 := (b2.below d3 b2.lt).rd b2.lt
      rw [wordsTo_length] at b3
      have e1 := text_words s [] hr'.out (.inl rfl)
      rw [List.append_nil, List.length_nil, Nat.add_zero] at e1
      have m1 := hr'.out
      go_wp2_with fail
      refine (text_any _ _ _ _ _ _ b3 d3.size (by unfold maxLen; omega)).mono ?_; rintro e w4 ⟨rfl, d4⟩
      go_wp2_with fail
      refine (sum_any _ _ hs'.out).mono ?_; rintro e w5 ⟨rfl, d5⟩
      go_wp2_with fail
      refine (match_any _ _ _ hs'.out).mono ?_; rintro e w6 ⟨rfl, d6⟩
      have b6 := ((((b2.rd b2.lt).ext d3).ext d4).ext d5).ext d6
      rw [wordsTo_length] at b6
      have x6 := (((((hx.ext d1).ext d2).ext d3).ext d4).ext d5).ext d6
      have hb6 : w.heap.size ≤ w6.heap.size := (((((d1.go d2).go d3).go d4).go d5).go d6).size
      have own6 := own_empty (w := w6) (base := w6.heap.size) 28 .u16 rfl (Nat.le_refl _)
      go_wp2_with (first
        | (at_builtin; refine wpList_appI rfl (.tmp 80) (.tmp 81) _ rfl Try.underlying22 info_u16 own6 rfl (b6.alloc (Nat.le_refl _) _) rfl (by omega) (by omega) (by simp) ?_; intro v7 w7 hown7 hg7 hat7; have e7 : Ext w6 w7 := ((Ext.refl w6).goA _).goG hg7 (fun k hk => (own6.lt k hk).1))
        | (at_builtin; refine wpList_appI rfl (.tmp 82) (.tmp 83) _ rfl Try.underlying22 info_u16 (hown7.alloc _) rfl (RdI.one _ _ _ _) rfl (by omega) (by omega) (by have := e7.size; simp; omega) ?_; intro v8 w8 hown8 hg8 hat8; have e8 : Ext w6 w8 := (e7.goA _).goG hg8 (fun k hk => (hown7.lt k hk).1))
        | (at_builtin; refine wpList_appI rfl (.tmp 84) (.tmp 85) _ rfl Try.underlying22 info_u16 hown8 rfl (x6.ext e8) rfl (by omega) (by omega) e8.size ?_; intro v9 w9 hown9 hg9 hat9; have e9 : Ext w6 w9 := e8.goG hg9 (fun k hk => (hown8.lt k hk).1); obtain ⟨A9, c9, rfl, hc9, r9⟩ := own_rd hown9)
        | (at_builtin; fail))
      have e2 : textS ([] ++ wordsTo s s.size ++ [0] ++ xs) (0 + (s.size + 1) / 2 + 1 + n) = s := by
        have h := text_words s ([0] ++ xs) hr'.out (.inr rfl)
        have hl : (s.size + 1) / 2 + ([0] ++ xs).length = 0 + (s.size + 1) / 2 + 1 + n := by have := hx.len; simp; omega
        rw [hl, ← List.append_assoc] at h
        exact h
      rw [Nat.zero_add] at r9 e2
      refine (text_any _ _ _ _ _ _ r9 (Nat.le_refl _) (by unfold maxLen; omega)).mono ?_; rintro e w10 ⟨rfl, d10⟩
      rw [e2]
      go_wp2_with fail
      have E10 : Ext w w10 := (((((((d1.go d2).go d3).go d4).go d5).go d6).go e9)).go d10
      have x10 := hx.ext E10
      clear hown7 hown8 hown9 hg7 hg8 hg9 hat7 hat8 hat9 r9 hc9
      refine (text_any _ _ _ _ _ _ x10 (Nat.le_refl _) (by unfold maxLen; omega)).mono ?_; rintro e w11 ⟨rfl, d11⟩
      rcases text_right xs n with ht | ht
      · go_wp2_with fail
        go_ret
        exact ⟨rfl, E10.go d11⟩
      · have ht1 := sum_some _ ht
        obtain ⟨ht2, ht3⟩ := right_size ht
        have ht4 := not_empty _ ht2
        have ht5 := Lib.hid ht
        have ht6 : (((textS xs n).size : Int) ≤ 32) := by omega
        clear ht ht2
        go_wp2_with fail
        refine (sum_any _ _ (by unfold maxLen; omega)).mono ?_; rintro e w12 ⟨rfl, d12⟩
        go_wp2_with fail
        go_ret
        exact ⟨rfl, (E10.go d11).go d12⟩

theorem back_any (s : ByteArray) (A : Option Addr) (n c : Nat) (xs : List Int) (w : World) (hs : s.size ≤ 140737488351232) (hn : n ≤ 140737488351232) (hx : RdI w w.heap.size .u16 A n xs) :
    Calls Try.prog 3 #[.string s, .slice A n c] w fun e w' => e = .returned (.bool true) ∧ Ext w w' := by
  by_cases hbig : 5000 < s.size + n
  · exact back_big s A n c w hs hn hbig
  · cases hr : rightB s
    · exact back_no s A n c xs w (by omega) hx hr
    · exact back_yes s A n c xs w (by omega) hx hr
end Go.Proofs.Ytkkbjchoilcjlaa
