/- Layers 7 and 8, the walks: letter, Word, keyed, picks, times. -/
import Derived.Test.YtgajbgdkgelkgaaGreatMtxA
namespace Go.Proofs.YtgajbgdkgelkgaaGreat
open Go.RowKit

theorem bytes_all (s : ByteArray) (p : UInt8 → Bool) : s.data.toList.all p = true ↔ ∀ j, (h : j < s.size) → p (s[j]'h) = true := by
  rw [List.all_eq_true]
  constructor
  · intro h j hj
    refine h _ ?_
    have : s[j]'hj = s.data.toList[j]'(by simpa using hj) := rfl
    rw [this]; exact List.getElem_mem _
  · intro h x hm
    obtain ⟨j, hj, rfl⟩ := List.getElem_of_mem hm
    exact h j (by simpa using hj)
theorem bytes_not (s : ByteArray) (p : UInt8 → Bool) {j : Nat} (h : j < s.size) (hp : p (s[j]'h) = false) : s.data.toList.all p = false := by
  cases e : s.data.toList.all p with
  | false => rfl
  | true => rw [(bytes_all s p).1 e j h] at hp; cases hp
def letI8 (v : Int) : Bool := (decide (97 ≤ v) && decide (v ≤ 122)) || (decide (48 ≤ v) && decide (v ≤ 57))
theorem letI8_of (c : UInt8) : letI8 (c.toNat : Int) = letB c := by
  unfold letI8 letB
  congr 1 <;> congr 1 <;> apply decide_eq_decide.2 <;> omega
set_option maxRecDepth 100000 in
set_option maxHeartbeats 800000 in
theorem letter_any (v : Int) (w : World) : Calls Tryz.prog 112 #[.int .u8 v] w fun e w' => e = .returned (.bool (letI8 v)) ∧ w = w' := by
  unfold letI8
  rcases (show v < 48 ∨ (48 ≤ v ∧ v ≤ 57) ∨ (57 < v ∧ v < 97) ∨ (97 ≤ v ∧ v ≤ 122) ∨ 122 < v by omega) with h | h | h | h | h
  all_goals
    have c1 : (decide (97 ≤ v) = true ∧ 97 ≤ v) ∨ (decide (97 ≤ v) = false ∧ ¬ 97 ≤ v) := by by_cases h : 97 ≤ v <;> simp [h]
    have c2 : (decide (v ≤ 122) = true ∧ v ≤ 122) ∨ (decide (v ≤ 122) = false ∧ ¬ v ≤ 122) := by by_cases h : v ≤ 122 <;> simp [h]
    have c3 : (decide (48 ≤ v) = true ∧ 48 ≤ v) ∨ (decide (48 ≤ v) = false ∧ ¬ 48 ≤ v) := by by_cases h : 48 ≤ v <;> simp [h]
    have c4 : (decide (v ≤ 57) = true ∧ v ≤ 57) ∨ (decide (v ≤ 57) = false ∧ ¬ v ≤ 57) := by by_cases h : v ≤ 57 <;> simp [h]
    obtain ⟨c1, h1⟩ | ⟨c1, h1⟩ := c1 <;> first | omega | skip
    all_goals obtain ⟨c2, h2⟩ | ⟨c2, h2⟩ := c2 <;> first | omega | skip
    all_goals obtain ⟨c3, h3⟩ | ⟨c3, h3⟩ := c3 <;> first | omega | skip
    all_goals obtain ⟨c4, h4⟩ | ⟨c4, h4⟩ := c4 <;> first | omega | skip
    all_goals
      clear h h1 h2 h3 h4
      rw [c1, c2, c3, c4]
      go_enter Tryz.func112, Tryz.ntmps112
      go_wp2_with fail
      go_ret
      exact ⟨rfl, rfl⟩
set_option maxRecDepth 100000 in
set_option maxHeartbeats 800000 in
theorem word_any (s : ByteArray) (w : World) : Calls Tryz.prog 83 #[.string s] w fun e w' => e = .returned (.bool (wordB s)) ∧ w = w' := by
  unfold wordB
  by_cases h1 : s.size = 0
  · have d1 : ((s.size : Int) == 0) = true := by rw [beq_iff_eq]; omega
    rw [show decide (1 ≤ s.size) = false from decide_eq_false (by omega)]
    go_enter Tryz.func83, Tryz.ntmps83
    go_wp2_with fail
    go_ret
    exact ⟨rfl, rfl⟩
  have d1 : ((s.size : Int) == 0) = false := by rw [beq_eq_false_iff_ne]; omega
  by_cases h2 : 16 < s.size
  · have d2 : decide ((16 : Int) < (s.size : Int)) = true := by simp; omega
    rw [show decide (s.size ≤ 16) = false from decide_eq_false (by omega), Bool.and_false, Bool.false_and]
    go_enter Tryz.func83, Tryz.ntmps83
    go_wp2_with fail
    go_ret
    exact ⟨rfl, rfl⟩
  have d2 : decide ((16 : Int) < (s.size : Int)) = false := by simp; omega
  have hs : s.size ≤ 9223372036854775807 := by omega
  rw [show decide (s.size ≤ 16) = true from decide_eq_true (by omega), show decide (1 ≤ s.size) = true from decide_eq_true (by omega), Bool.true_and, Bool.true_and]
  go_enter Tryz.func83, Tryz.ntmps83
  go_wp2_with fail
  go_loopw [14] (fun i wr => ∃ k : Nat, k ≤ s.size ∧ i = .int .i64 k ∧ (∀ j, (h : j < s.size) → j < k → letB (s[j]'h) = true) ∧ w = wr) (fun i _ => s.size - (intOf i).toNat)
  case atStart => exact ⟨0, by omega, rfl, fun j _ hj => absurd hj (by omega), rfl⟩
  case round =>
    obtain ⟨k, hk, rfl, hz, rfl⟩ := hrel
    have hz' := Lib.hid hz
    clear hz
    by_cases hlt : k < s.size
    · have e3 : (k : Int) < (s.size : Int) := by omega
      cases hb : letB (s[k]'hlt)
      · have hb' := Lib.hid hb
        have hr : letI8 ((s[k]'hlt).toNat : Int) = false := by rw [letI8_of]; exact hb
        clear hb
        go_wp2_with (go_at_call 112; refine (letter_any _ _).mono ?_; rintro e w' ⟨rfl, rfl⟩)
        go_ret
        exact ⟨by rw [bytes_not s letB hlt hb'.out]; rfl, rfl⟩
      · have hb' := Lib.hid hb
        have hr : letI8 ((s[k]'hlt).toNat : Int) = true := by rw [letI8_of]; exact hb
        clear hb
        go_wp2_with (go_at_call 112; refine (letter_any _ _).mono ?_; rintro e w' ⟨rfl, rfl⟩)
        go_roundw
        case rel =>
          refine ⟨k + 1, by omega, by go_num, fun j h hj => ?_, trivial⟩
          rcases Nat.lt_succ_iff_lt_or_eq.1 hj with h1 | rfl
          · exact hz'.out j h h1
          · exact hb'.out
        case measure => simp [intOf]; omega
    · obtain rfl : k = s.size := by omega
      have hr := Lib.hid ((bytes_all s letB).2 fun j h => hz'.out j h h)
      go_wp2_with fail
      go_ret
      exact ⟨by rw [hr.out]; rfl, rfl⟩
set_option maxRecDepth 100000 in
set_option maxHeartbeats 1600000 in
theorem keyed_any (s : ByteArray) (w : World) : Calls Tryz.prog 51 #[.string s] w fun e w' => e = .returned (.bool (keyedB s)) ∧ w = w' := by
  unfold keyedB
  by_cases h1 : s.size = 16
  · have d1 : ((s.size : Int) != 16) = false := by simp; omega
    have hsz : s.size ≤ 9223372036854775807 := by omega
    rw [show decide (s.size = 16) = true from decide_eq_true (by omega), Bool.true_and]
    have h1' := Lib.hid h1
    clear h1
    go_enter Tryz.func51, Tryz.ntmps51
    go_wp2_with fail
    go_loopw [10] (fun i wr => ∃ k : Nat, k ≤ s.size ∧ i = .int .i64 k ∧ (∀ j, (h : j < s.size) → j < k → hexB (s[j]'h) = true) ∧ w = wr) (fun i _ => s.size - (intOf i).toNat)
    case atStart => exact ⟨0, by omega, rfl, fun j _ hj => absurd hj (by omega), rfl⟩
    case round =>
      obtain ⟨k, hk, rfl, hz, rfl⟩ := hrel
      have hz' := Lib.hid hz
      clear hz
      by_cases hlt : k < s.size
      · have e3 : (k : Int) < (s.size : Int) := by omega
        have hx : hexB (s[k]'hlt) = ((decide (48 ≤ (s[k]'hlt).toNat) && decide ((s[k]'hlt).toNat ≤ 57)) || (decide (97 ≤ (s[k]'hlt).toNat) && decide ((s[k]'hlt).toNat ≤ 102))) := rfl
        have hgo : ∀ b : Bool, hexB (s[k]'hlt) = b → Hid (hexB (s[k]'hlt) = b) := fun b h => Lib.hid h
        rcases (show (s[k]'hlt).toNat < 48 ∨ (48 ≤ (s[k]'hlt).toNat ∧ (s[k]'hlt).toNat ≤ 57) ∨ (57 < (s[k]'hlt).toNat ∧ (s[k]'hlt).toNat < 97) ∨ (97 ≤ (s[k]'hlt).toNat ∧ (s[k]'hlt).toNat ≤ 102) ∨ 102 < (s[k]'hlt).toNat by omega) with h | h | h | h | h
        · have c1 : decide (((s[k]'hlt).toNat : Int) < 48) = true := by simp; omega
          have c3 : decide (((s[k]'hlt).toNat : Int) < 97) = true := by simp; omega
          have hb' := hgo false (by rw [hx]; simp; omega)
          clear h hx hgo
          go_wp2_with fail
          go_ret
          exact ⟨by rw [bytes_not s hexB hlt hb'.out]; rfl, rfl⟩
        · have c1 : decide (((s[k]'hlt).toNat : Int) < 48) = false := by simp; omega
          have c2 : decide ((57 : Int) < ((s[k]'hlt).toNat : Int)) = false := by simp; omega
          have hb' := hgo true (by rw [hx]; simp; omega)
          clear h hx hgo
          go_wp2_with fail
          go_roundw
          case rel =>
            refine ⟨k + 1, by omega, by go_num, fun j h hj => ?_, trivial⟩
            rcases Nat.lt_succ_iff_lt_or_eq.1 hj with h1 | rfl
            · exact hz'.out j h h1
            · exact hb'.out
          case measure => simp [intOf]; omega
        · have c1 : decide (((s[k]'hlt).toNat : Int) < 48) = false := by simp; omega
          have c2 : decide ((57 : Int) < ((s[k]'hlt).toNat : Int)) = true := by simp; omega
          have c3 : decide (((s[k]'hlt).toNat : Int) < 97) = true := by simp; omega
          have hb' := hgo false (by rw [hx]; simp; omega)
          clear h hx hgo
          go_wp2_with fail
          go_ret
          exact ⟨by rw [bytes_not s hexB hlt hb'.out]; rfl, rfl⟩
        · have c1 : decide (((s[k]'hlt).toNat : Int) < 48) = false := by simp; omega
          have c2 : decide ((57 : Int) < ((s[k]'hlt).toNat : Int)) = true := by simp; omega
          have c3 : decide (((s[k]'hlt).toNat : Int) < 97) = false := by simp; omega
          have c4 : decide ((102 : Int) < ((s[k]'hlt).toNat : Int)) = false := by simp; omega
          have hb' := hgo true (by rw [hx]; simp; omega)
          clear h hx hgo
          go_wp2_with fail
          go_roundw
          case rel =>
            refine ⟨k + 1, by omega, by go_num, fun j h hj => ?_, trivial⟩
            rcases Nat.lt_succ_iff_lt_or_eq.1 hj with h1 | rfl
            · exact hz'.out j h h1
            · exact hb'.out
          case measure => simp [intOf]; omega
        · have c1 : decide (((s[k]'hlt).toNat : Int) < 48) = false := by simp; omega
          have c2 : decide ((57 : Int) < ((s[k]'hlt).toNat : Int)) = true := by simp; omega
          have c3 : decide (((s[k]'hlt).toNat : Int) < 97) = false := by simp; omega
          have c4 : decide ((102 : Int) < ((s[k]'hlt).toNat : Int)) = true := by simp; omega
          have hb' := hgo false (by rw [hx]; simp; omega)
          clear h hx hgo
          go_wp2_with fail
          go_ret
          exact ⟨by rw [bytes_not s hexB hlt hb'.out]; rfl, rfl⟩
      · obtain rfl : k = s.size := by omega
        have hr := Lib.hid ((bytes_all s hexB).2 fun j h => hz'.out j h h)
        go_wp2_with fail
        go_ret
        exact ⟨by rw [hr.out]; rfl, rfl⟩
  · have d1 : ((s.size : Int) != 16) = true := by simp; omega
    rw [show decide (s.size = 16) = false from decide_eq_false (by omega), Bool.false_and]
    go_enter Tryz.func51, Tryz.ntmps51
    go_wp2_with fail
    go_ret
    exact ⟨rfl, rfl⟩
set_option maxRecDepth 100000 in
set_option maxHeartbeats 1600000 in
theorem picks_any (A : Option Addr) (n c : Nat) (xs : List Int) (most many : Int) (w : World) (hx : RdI w w.heap.size .i64 A n xs) (hcm : n ≤ c ∧ c ≤ maxLen) (hm : 0 ≤ many ∧ many ≤ 9223372036854775807) :
    Calls Tryz.prog 91 #[.slice A n c, .int .i64 most, .int .i64 many] w fun e w' => e = .returned (.bool (picksB xs most many)) ∧ Ext w w' := by
  have hnm : n ≤ 9223372036854775807 := by have := hcm; unfold maxLen at this; omega
  have hlen := hx.len
  have hw : wrap64 (many - 1) = many - 1 := Go.IntWalk.wrap64_in _ ⟨by omega, by omega⟩
  have hpb : picksB xs most many = (wiB (n : Int) 1 most && xs.all (fun i => wiB i 0 (many - 1)) && !twinsB (fun a b => a == b) xs) := by unfold picksB; rw [hlen]
  rw [hpb]
  have hx' := Lib.hid hx
  have hcm' := Lib.hid hcm
  have hlen' := Lib.hid hlen
  clear hx hcm hpb hlen
  cases hw1 : wiB (n : Int) 1 most
  · rw [Bool.false_and, Bool.false_and]
    go_enter Tryz.func91, Tryz.ntmps91
    go_wp2_with (go_at_call 86; refine (withinI_any _ _ _ _).mono ?_; rintro e w' ⟨rfl, rfl⟩)
    go_ret
    exact ⟨rfl, Ext.refl _⟩
  rw [Bool.true_and]
  go_enter Tryz.func91, Tryz.ntmps91
  go_wp2_with (go_at_call 86; refine (withinI_any _ _ _ _).mono ?_; rintro e w' ⟨rfl, rfl⟩)
  go_loopw [16] (fun i wr => ∃ k : Nat, k ≤ n ∧ i = .int .i64 k ∧ (∀ (j : Nat) (x : Int), xs[j]? = some x → j < k → wiB x 0 (many - 1) = true) ∧ w = wr) (fun i _ => n - (intOf i).toNat)
  case atStart => exact ⟨0, by omega, rfl, fun j _ _ hj => absurd hj (by omega), rfl⟩
  case round =>
    obtain ⟨k, hk, rfl, hz, rfl⟩ := hrel
    have hz' := Lib.hid hz
    clear hz
    by_cases hlt : k < n
    · have e3 : (k : Int) < (n : Int) := by omega
      obtain ⟨b, o, rfl, hb, hc⟩ := hx'.out.at_ hlt
      have hxk : xs[k]? = some (xs.getD k 0) := by rw [List.getD_eq_getElem?_getD, List.getElem?_eq_getElem (by have := hlen'.out; omega)]; rfl
      have hxk' := Lib.hid hxk
      clear hxk hb
      generalize xs.getD k 0 = x at *
      cases hb : wiB x 0 (many - 1)
      · have hr : xs.all (fun i => wiB i 0 (many - 1)) = false := by
          cases e : xs.all (fun i => wiB i 0 (many - 1)) with
          | false => rfl
          | true => rw [List.all_eq_true.1 e x (List.mem_of_getElem? hxk'.out)] at hb; cases hb
        have hr' := Lib.hid hr
        clear hr
        go_wp2_with (go_at_call 86; refine (withinI_any _ _ _ _).mono ?_; rintro e w' ⟨rfl, rfl⟩)
        go_ret
        exact ⟨by rw [hr'.out]; rfl, Ext.refl _⟩
      · have hb' := Lib.hid hb
        go_wp2_with (go_at_call 86; refine (withinI_any _ _ _ _).mono ?_; rintro e w' ⟨rfl, rfl⟩)
        go_roundw
        case rel =>
          refine ⟨k + 1, by omega, by go_num, fun j y hy hj => ?_, trivial⟩
          rcases Nat.lt_succ_iff_lt_or_eq.1 hj with h1 | rfl
          · exact hz'.out j y hy h1
          · rw [hxk'.out] at hy; cases hy; exact hb'.out
        case measure => simp [intOf]; omega
    · obtain rfl : k = n := by omega
      have hr := Lib.hid (List.all_eq_true.2 fun x hx => by
        obtain ⟨j, hj, e⟩ := List.getElem_of_mem hx
        exact hz'.out j x (by rw [List.getElem?_eq_getElem hj, e]) (by have := hlen'.out; omega))
      go_wp2_with (go_at_call 113; refine (twinsInt_any _ _ _ _ _ hx'.out.rdC hcm'.out).mono ?_; rintro e w' ⟨rfl, E1⟩)
      go_ret
      exact ⟨by rw [hr.out]; rfl, E1⟩
end Go.Proofs.YtgajbgdkgelkgaaGreat
