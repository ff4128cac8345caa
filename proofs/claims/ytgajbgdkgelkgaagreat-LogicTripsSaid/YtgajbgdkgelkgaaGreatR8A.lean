/- Layers 7 and 8, the reference: letter, Word, Key, within, some, names. Printed by gen/r8a.py. -/
import Derived.Test.YtgajbgdkgelkgaaGreatMtxE
import Derived.Test.YtgajbgdkgelkgaaGreatG03
namespace Go.Proofs.YtgajbgdkgelkgaaGreat
open Go.RowKit

set_option maxRecDepth 100000 in
set_option maxHeartbeats 800000 in
theorem rLetter_any (v : Int) (w : World) : Calls Tryz.prog 127 #[.int .u8 v] w fun e w' => e = .returned (.bool (letI8 v)) ∧ w = w' := by
  unfold letI8
  rcases (show v < 48 ∨ (48 ≤ v ∧ v ≤ 57) ∨ (57 < v ∧ v < 97) ∨ (97 ≤ v ∧ v ≤ 122) ∨ 122 < v by omega) with h | h | h | h | h
  all_goals
    have c1 : (decide (97 ≤ v) = true ∧ 97 ≤ v) ∨ (decide (97 ≤ v) = false ∧ ¬ 97 ≤ v) := by by_cases h : 97 ≤ v <;> simp [h]
    have c2 : (decide (v ≤ 122) = true ∧ v ≤ 122) ∨ (decide (v ≤ 122) = false ∧ ¬ v ≤ 122) := by by_cases h : v ≤ 122 <;> simp [h]
    have c3 : (decide (48 ≤ v) = true ∧ 48 ≤ v) ∨ (decide (48 ≤ v) = false ∧ ¬ 48 ≤ v) := by by_cases h : 48 ≤ v <;> simp [h]
    have c4 : (decide (v ≤ 57) = true ∧ v ≤ 57) ∨ (decide (v ≤ 57) = false ∧ ¬ v ≤ 57) := by by_cases h : v ≤ 57 <;> simp [h]
    obtain ⟨c1, h1⟩ | ⟨c1, h1⟩ := c1 <;> first | omega | skip
    all_goals obtain ⟨c2, h2⟩ | ⟨c2, h2⟩ := c2 <;> first | omega | skip
    all_goals obtain ⟨c3, h3⟩ | ⟨c3, h3⟩ := c3 <;> first | omega | skip
    all_goals obtain ⟨c4, h4⟩ | ⟨c4, h4⟩ := c4 <;> first | omega | skip
    all_goals
      clear h h1 h2 h3 h4
      rw [c1, c2, c3, c4]
      go_enter Tryz.func127, Tryz.ntmps127
      go_wp2_with fail
      go_ret
      exact ⟨rfl, rfl⟩
set_option maxRecDepth 100000 in
set_option maxHeartbeats 800000 in
theorem rWord_any (s : ByteArray) (w : World) (hs : s.size ≤ maxLen) : Calls Tryz.prog 154 #[.string s] w fun e w' => e = .returned (.bool (wordB s)) ∧ w = w' := by
  unfold maxLen at hs
  have hw0 : wordB s = (decide (1 ≤ s.size) && decide (s.size ≤ 16) && s.data.toList.all letB) := rfl
  have hwb := Lib.hid hw0
  clear hw0
  go_enter Tryz.func154, Tryz.ntmps154
  go_wp2_with fail
  go_loopw [3] (fun i wr => ∃ k : Nat, k ≤ s.size ∧ i = .int .i64 k ∧ (∀ j, (h : j < s.size) → j < k → letB (s[j]'h) = true) ∧ w = wr) (fun i _ => s.size - (intOf i).toNat)
  case atStart => exact ⟨0, by omega, rfl, fun j _ hj => absurd hj (by omega), rfl⟩
  case round =>
    obtain ⟨k, hk, rfl, hz, rfl⟩ := hrel
    have hz' := Lib.hid hz
    clear hz
    by_cases hlt : k < s.size
    · have e3 : (k : Int) < (s.size : Int) := by omega
      cases hb : letB (s[k]'hlt)
      · have hb' := Lib.hid hb
        have hr : letI8 ((s[k]'hlt).toNat : Int) = false := by rw [letI8_of]; exact hb
        clear hb
        go_wp2_with (go_at_call 127; refine (rLetter_any _ _).mono ?_; rintro e w' ⟨rfl, rfl⟩)
        go_ret
        exact ⟨by rw [hwb.out, bytes_not s letB hlt hb'.out, Bool.and_false]; rfl, rfl⟩
      · have hb' := Lib.hid hb
        have hr : letI8 ((s[k]'hlt).toNat : Int) = true := by rw [letI8_of]; exact hb
        clear hb
        go_wp2_with (go_at_call 127; refine (rLetter_any _ _).mono ?_; rintro e w' ⟨rfl, rfl⟩)
        go_roundw
        case rel =>
          refine ⟨k + 1, by omega, by go_num, fun j h hj => ?_, trivial⟩
          rcases Nat.lt_succ_iff_lt_or_eq.1 hj with h1 | rfl
          · exact hz'.out j h h1
          · exact hb'.out
        case measure => simp [intOf]; omega
    · obtain rfl : k = s.size := by omega
      have hr := Lib.hid ((bytes_all s letB).2 fun j h => hz'.out j h h)
      have hf : Hid (wordB s = (decide ((1 : Int) ≤ (s.size : Int)) && decide ((s.size : Int) ≤ 16))) := Lib.hid (by
        rw [hwb.out, hr.out, Bool.and_true]
        congr 1 <;> apply decide_eq_decide.2 <;> omega)
      by_cases h1 : (1 : Int) ≤ (s.size : Int)
      · have d1 : decide ((1 : Int) ≤ (s.size : Int)) = true := decide_eq_true h1
        clear h1
        go_wp2_with fail
        go_ret
        exact ⟨by rw [hf.out, d1, Bool.true_and]; rfl, rfl⟩
      · have d1 : decide ((1 : Int) ≤ (s.size : Int)) = false := decide_eq_false h1
        clear h1
        go_wp2_with fail
        go_ret
        exact ⟨by rw [hf.out, d1, Bool.false_and]; rfl, rfl⟩
set_option maxRecDepth 100000 in
set_option maxHeartbeats 1600000 in
theorem rKey_any (s : ByteArray) (w : World) (hs : s.size ≤ maxLen) : Calls Tryz.prog 136 #[.string s] w fun e w' => e = .returned (.bool (keyedB s)) ∧ w = w' := by
  unfold maxLen at hs
  have hw0 : keyedB s = (decide (s.size = 16) && s.data.toList.all hexB) := rfl
  have hwb := Lib.hid hw0
  clear hw0
  go_enter Tryz.func136, Tryz.ntmps136
  go_wp2_with fail
  go_loopw [3] (fun i wr => ∃ k : Nat, k ≤ s.size ∧ i = .int .i64 k ∧ (∀ j, (h : j < s.size) → j < k → hexB (s[j]'h) = true) ∧ w = wr) (fun i _ => s.size - (intOf i).toNat)
  case atStart => exact ⟨0, by omega, rfl, fun j _ hj => absurd hj (by omega), rfl⟩
  case round =>
    obtain ⟨k, hk, rfl, hz, rfl⟩ := hrel
    have hz' := Lib.hid hz
    clear hz
    by_cases hlt : k < s.size
    · have e3 : (k : Int) < (s.size : Int) := by omega
      have hx : hexB (s[k]'hlt) = ((decide (48 ≤ (s[k]'hlt).toNat) && decide ((s[k]'hlt).toNat ≤ 57)) || (decide (97 ≤ (s[k]'hlt).toNat) && decide ((s[k]'hlt).toNat ≤ 102))) := rfl
      have hgo : ∀ b : Bool, hexB (s[k]'hlt) = b → Hid (hexB (s[k]'hlt) = b) := fun b h => Lib.hid h
      rcases (show (s[k]'hlt).toNat < 48 ∨ (48 ≤ (s[k]'hlt).toNat ∧ (s[k]'hlt).toNat ≤ 57) ∨ (57 < (s[k]'hlt).toNat ∧ (s[k]'hlt).toNat < 97) ∨ (97 ≤ (s[k]'hlt).toNat ∧ (s[k]'hlt).toNat ≤ 102) ∨ 102 < (s[k]'hlt).toNat by omega) with h | h | h | h | h
      · have c0 : decide (((s[k]'hlt).toNat : Int) < 48) = true := by simp; omega
        have c1 : decide (((s[k]'hlt).toNat : Int) < 97) = true := by simp; omega
        have hb' := hgo false (by rw [hx]; simp; omega)
        clear h hx hgo
        go_wp2_with fail
        go_ret
        exact ⟨by rw [hwb.out, bytes_not s hexB hlt hb'.out, Bool.and_false]; rfl, rfl⟩
      · have c0 : decide (((s[k]'hlt).toNat : Int) < 48) = false := by simp; omega
        have c1 : decide ((57 : Int) < ((s[k]'hlt).toNat : Int)) = false := by simp; omega
        have hb' := hgo true (by rw [hx]; simp; omega)
        clear h hx hgo
        go_wp2_with fail
        go_roundw
        case rel =>
          refine ⟨k + 1, by omega, by go_num, fun j h hj => ?_, trivial⟩
          rcases Nat.lt_succ_iff_lt_or_eq.1 hj with h1 | rfl
          · exact hz'.out j h h1
          · exact hb'.out
        case measure => simp [intOf]; omega
      · have c0 : decide (((s[k]'hlt).toNat : Int) < 48) = false := by simp; omega
        have c1 : decide ((57 : Int) < ((s[k]'hlt).toNat : Int)) = true := by simp; omega
        have c2 : decide (((s[k]'hlt).toNat : Int) < 97) = true := by simp; omega
        have hb' := hgo false (by rw [hx]; simp; omega)
        clear h hx hgo
        go_wp2_with fail
        go_ret
        exact ⟨by rw [hwb.out, bytes_not s hexB hlt hb'.out, Bool.and_false]; rfl, rfl⟩
      · have c0 : decide (((s[k]'hlt).toNat : Int) < 48) = false := by simp; omega
        have c1 : decide ((57 : Int) < ((s[k]'hlt).toNat : Int)) = true := by simp; omega
        have c2 : decide (((s[k]'hlt).toNat : Int) < 97) = false := by simp; omega
        have c3 : decide ((102 : Int) < ((s[k]'hlt).toNat : Int)) = false := by simp; omega
        have hb' := hgo true (by rw [hx]; simp; omega)
        clear h hx hgo
        go_wp2_with fail
        go_roundw
        case rel =>
          refine ⟨k + 1, by omega, by go_num, fun j h hj => ?_, trivial⟩
          rcases Nat.lt_succ_iff_lt_or_eq.1 hj with h1 | rfl
          · exact hz'.out j h h1
          · exact hb'.out
        case measure => simp [intOf]; omega
      · have c0 : decide (((s[k]'hlt).toNat : Int) < 48) = false := by simp; omega
        have c1 : decide ((57 : Int) < ((s[k]'hlt).toNat : Int)) = true := by simp; omega
        have c2 : decide (((s[k]'hlt).toNat : Int) < 97) = false := by simp; omega
        have c3 : decide ((102 : Int) < ((s[k]'hlt).toNat : Int)) = true := by simp; omega
        have hb' := hgo false (by rw [hx]; simp; omega)
        clear h hx hgo
        go_wp2_with fail
        go_ret
        exact ⟨by rw [hwb.out, bytes_not s hexB hlt hb'.out, Bool.and_false]; rfl, rfl⟩
    · obtain rfl : k = s.size := by omega
      have hr := Lib.hid ((bytes_all s hexB).2 fun j h => hz'.out j h h)
      have hf : ((s.size : Int) == 16) = keyedB s := by
        rw [hwb.out, hr.out, Bool.and_true, Bool.eq_iff_iff]; simp; omega
      go_wp2_with fail
      go_ret
      exact ⟨by rw [← hf]; rfl, rfl⟩
set_option maxRecDepth 100000 in
set_option maxHeartbeats 800000 in
theorem rWithin_any (v a b : Int) (w : World) : Calls Tryz.prog 135 #[.int .i64 v, .int .i64 a, .int .i64 b] w fun e w' => e = .returned (.bool (wiB v a b)) ∧ w = w' := by
  unfold wiB
  by_cases h : a ≤ v
  · rw [show decide (a ≤ v) = true by simpa using h, Bool.true_and]
    go_enter Tryz.func135, Tryz.ntmps135
    go_wp2_with fail
    go_ret
    exact ⟨rfl, rfl⟩
  · rw [show decide (a ≤ v) = false by simpa using h, Bool.false_and]
    go_enter Tryz.func135, Tryz.ntmps135
    go_wp2_with fail
    go_ret
    exact ⟨rfl, rfl⟩
/-- No two of the first k are one, and the next one is none of the first j. -/
theorem twins_next {α : Type} {one : α → α → Bool} {l : List α} {k : Nat} (h : twinsTo one l k = false) (hj : (List.range k).any (oneAt one l k) = false) : twinsTo one l (k + 1) = false := by rw [twinsTo_succ, h, hj]; rfl
theorem any_next {α : Type} {one : α → α → Bool} {l : List α} {k j : Nat} {x y : α} (h : (List.range j).any (oneAt one l k) = false) (hx : l[j]? = some x) (hy : l[k]? = some y) (hb : one x y = false) : (List.range (j + 1)).any (oneAt one l k) = false := by
  rw [any_range_succ, h, Bool.false_or]
  unfold oneAt
  rw [hx, hy]
  exact hb
set_option maxRecDepth 100000 in
set_option maxHeartbeats 3200000 in
theorem rSome_any (A : Option Addr) (n c B : Nat) (xs : List Int) (most size : Int) (w : World) (hx : RdI w B .i64 A n xs) (hn : n ≤ maxLen) :
    Calls Tryz.prog 153 #[.slice A n c, .int .i64 most, .int .i64 size] w fun e w' => e = .returned (.bool (picksB xs most size)) ∧ Ext w w' := by
  unfold maxLen at hn
  have hp0 : picksB xs most size = (wiB (n : Int) 1 most && xs.all (fun i => wiB i 0 (size - 1)) && !twinsB (fun a b => a == b) xs) := by unfold picksB; rw [hx.len]
  have hpb := Lib.hid hp0
  clear hp0
  have hl' := Lib.hid hx.len
  have hx' := Lib.hid hx
  clear hx
  go_enter Tryz.func153, Tryz.ntmps153
  go_wp2_with fail
  go_loopw [7] (fun i wr => ∃ k d : Nat, k ≤ n ∧ i = .int .i64 k ∧ (∀ (j : Nat) (x : Int), xs[j]? = some x → j < k → wiB x 0 (size - 1) = true) ∧ twinsTo (fun a b => a == b) xs k = false ∧ w.drewN d = wr) (fun i _ => n - (intOf i).toNat)
  case atStart => exact ⟨0, 0, by omega, rfl, fun j _ _ hj => absurd hj (by omega), rfl, rfl⟩
  case round =>
    obtain ⟨k, d, hk, rfl, hz, ht, rfl⟩ := hrel
    have hz' := Lib.hid hz
    have ht' := Lib.hid ht
    clear hz ht
    by_cases hlt : k < n
    · have e3 : (k : Int) < (n : Int) := by omega
      obtain ⟨b1, o1, rfl, hb1, hc1⟩ := hx'.out.at_ hlt
      have hxk : xs[k]? = some (xs.getD k 0) := by rw [List.getD_eq_getElem?_getD, List.getElem?_eq_getElem (by have := hl'.out; omega)]; rfl
      have hxk' := Lib.hid hxk
      clear hxk hb1
      generalize xs.getD k 0 = x at *
      go_wp2_with fail
      go_loopw [8] (fun i wq => ∃ j d2 : Nat, j ≤ k ∧ i = .int .i64 j ∧ (List.range j).any (oneAt (fun a b => a == b) xs k) = false ∧ w.drewN d2 = wq) (fun i _ => k - (intOf i).toNat)
      case atStart => exact ⟨0, d, by omega, rfl, rfl, rfl⟩
      case round =>
        obtain ⟨j, d2, hj, rfl, ha, rfl⟩ := hrel
        have ha' := Lib.hid ha
        clear ha
        by_cases hjk : j < k
        · have e4 : (j : Int) < (k : Int) := by omega
          have e5 : (j : Int) < (n : Int) := by omega
          obtain ⟨b2, o2, e2, hb2, hc2⟩ := hx'.out.at_ (show j < n by omega)
          obtain ⟨rfl, rfl⟩ : b1 = b2 ∧ o1 = o2 := by simpa using e2
          have hxj : xs[j]? = some (xs.getD j 0) := by rw [List.getD_eq_getElem?_getD, List.getElem?_eq_getElem (by have := hl'.out; omega)]; rfl
          have hxj' := Lib.hid hxj
          clear hxj e2 hb2
          generalize xs.getD j 0 = y at *
          cases hb : (x == y)
          · have hb' := Lib.hid (show (y == x) = false by rw [Bool.beq_comm] at hb; exact hb)
            go_wp2_with fail
            go_quiet (fail)
            go_wp2_with fail
            go_roundw
            case rel => exact ⟨j + 1, _, by omega, by go_num, any_next ha'.out hxj'.out hxk'.out hb'.out, rfl⟩
            case measure => simp [intOf]; omega
          · have hb' := Lib.hid (show (y == x) = true by rw [Bool.beq_comm] at hb; exact hb)
            go_wp2_with fail
            go_quiet (fail)
            go_wp2_with fail
            go_ret
            exact ⟨by rw [hpb.out, twins_hit hjk hxj'.out hxk'.out hb'.out, Bool.not_true, Bool.and_false]; rfl, ((Ext.refl w).goD _).goD _⟩
        · obtain rfl : j = k := by omega
          have hq : wiB x 0 (size - 1) = (decide (0 ≤ x) && decide (x ≤ size - 1)) := rfl
          have hq' := Lib.hid hq
          clear hq
          by_cases h0 : x < 0
          · have d0 : decide (x < 0) = true := decide_eq_true h0
            have hb : Hid (xs.all (fun i => wiB i 0 (size - 1)) = false) := Lib.hid (all_not hxk'.out (by rw [hq'.out, decide_eq_false (by omega)]; rfl))
            clear h0
            go_wp2_with fail
            go_ret
            exact ⟨by rw [hpb.out, hb.out, Bool.and_false, Bool.false_and]; rfl, (Ext.refl w).goD _⟩
          · have d0 : decide (x < 0) = false := decide_eq_false h0
            by_cases h1 : size ≤ x
            · have d1 : decide (size ≤ x) = true := decide_eq_true h1
              have hb : Hid (xs.all (fun i => wiB i 0 (size - 1)) = false) := Lib.hid (all_not hxk'.out (by rw [hq'.out, decide_eq_false (show ¬ x ≤ size - 1 by omega), Bool.and_false]))
              clear h0 h1
              go_wp2_with fail
              go_ret
              exact ⟨by rw [hpb.out, hb.out, Bool.and_false, Bool.false_and]; rfl, (Ext.refl w).goD _⟩
            · have d1 : decide (size ≤ x) = false := decide_eq_false h1
              have hb : Hid (wiB x 0 (size - 1) = true) := Lib.hid (by rw [hq'.out, decide_eq_true (show 0 ≤ x by omega), decide_eq_true (show x ≤ size - 1 by omega)]; rfl)
              clear h0 h1
              go_wp2_with fail
              go_roundw
              case rel => exact ⟨j + 1, _, by omega, by go_num, all_more hz'.out hxk'.out hb.out, twins_next ht'.out ha'.out, rfl⟩
              case measure => simp [intOf]; omega
    · obtain rfl : k = n := by omega
      have hall : Hid (xs.all (fun i => wiB i 0 (size - 1)) = true) := Lib.hid (all_of hl'.out hz'.out)
      have htw : Hid (twinsB (fun a b => a == b) xs = false) := Lib.hid (by unfold twinsB; rw [hl'.out]; exact ht'.out)
      have hf : Hid (picksB xs most size = (decide ((1 : Int) ≤ (k : Int)) && decide ((k : Int) ≤ most))) := Lib.hid (by rw [hpb.out, hall.out, htw.out, Bool.and_true, Bool.not_false, Bool.and_true]; rfl)
      by_cases h1 : (1 : Int) ≤ (k : Int)
      · have d1 : decide ((1 : Int) ≤ (k : Int)) = true := decide_eq_true h1
        clear h1
        go_wp2_with fail
        go_ret
        exact ⟨by rw [hf.out, d1, Bool.true_and]; rfl, (Ext.refl w).goD _⟩
      · have d1 : decide ((1 : Int) ≤ (k : Int)) = false := decide_eq_false h1
        clear h1
        go_wp2_with fail
        go_ret
        exact ⟨by rw [hf.out, d1, Bool.false_and]; rfl, (Ext.refl w).goD _⟩
/-- Names: words, no two of them one. -/
def namesB (l : List ByteArray) : Bool := l.all wordB && !twinsB strEq l
set_option maxRecDepth 100000 in
set_option maxHeartbeats 3200000 in
theorem rNames_any (A : Option Addr) (n c B : Nat) (xs : List ByteArray) (w : World) (hx : RdC strCells 1 w B A n xs) (hn : n ≤ maxLen) (hsz : ∀ s ∈ xs, s.size ≤ maxLen) :
    Calls Tryz.prog 141 #[.slice A n c] w fun e w' => e = .returned (.bool (namesB xs)) ∧ Ext w w' := by
  unfold maxLen at hn
  have hp0 : namesB xs = (xs.all wordB && !twinsB strEq xs) := rfl
  have hpb := Lib.hid hp0
  clear hp0
  have hl' := Lib.hid hx.len
  have hx' := Lib.hid hx
  have hsz' := Lib.hid hsz
  clear hx hsz
  go_enter Tryz.func141, Tryz.ntmps141
  go_wp2_with fail
  go_loopw [3] (fun i wr => ∃ k d : Nat, k ≤ n ∧ i = .int .i64 k ∧ (∀ (j : Nat) (x : ByteArray), xs[j]? = some x → j < k → wordB x = true) ∧ twinsTo strEq xs k = false ∧ w.drewN d = wr) (fun i _ => n - (intOf i).toNat)
  case atStart => exact ⟨0, 0, by omega, rfl, fun j _ _ hj => absurd hj (by omega), rfl, rfl⟩
  case round =>
    obtain ⟨k, d, hk, rfl, hz, ht, rfl⟩ := hrel
    have hz' := Lib.hid hz
    have ht' := Lib.hid ht
    clear hz ht
    by_cases hlt : k < n
    · have e3 : (k : Int) < (n : Int) := by omega
      obtain ⟨x, hxk⟩ := hx'.out.get hlt
      obtain ⟨b1, o1, rfl, hb1, hcc⟩ := hx'.out.at_ hxk
      have hc1 : w.cell? ⟨b1, o1 + k, none⟩ = some (.string x) := by have := hcc 0 (by decide); rw [Nat.mul_one, Nat.add_zero] at this; exact this
      have hxk' := Lib.hid hxk
      have hxs := hsz'.out x (List.mem_of_getElem? hxk)
      clear hxk hb1 hcc
      go_wp2_with fail
      go_loopw [4] (fun i wq => ∃ j d2 : Nat, j ≤ k ∧ i = .int .i64 j ∧ (List.range j).any (oneAt strEq xs k) = false ∧ w.drewN d2 = wq) (fun i _ => k - (intOf i).toNat)
      case atStart => exact ⟨0, d, by omega, rfl, rfl, rfl⟩
      case round =>
        obtain ⟨j, d2, hj, rfl, ha, rfl⟩ := hrel
        have ha' := Lib.hid ha
        clear ha
        by_cases hjk : j < k
        · have e4 : (j : Int) < (k : Int) := by omega
          have e5 : (j : Int) < (n : Int) := by omega
          obtain ⟨y, hxj⟩ := hx'.out.get (show j < n by omega)
          obtain ⟨b2, o2, e2, hb2, hcc⟩ := hx'.out.at_ hxj
          obtain ⟨rfl, rfl⟩ : b1 = b2 ∧ o1 = o2 := by simpa using e2
          have hc2 : w.cell? ⟨b1, o1 + j, none⟩ = some (.string y) := by have := hcc 0 (by decide); rw [Nat.mul_one, Nat.add_zero] at this; exact this
          have hxj' := Lib.hid hxj
          clear hxj e2 hb2 hcc
          cases hb : (x.toList == y.toList)
          · have hb' := Lib.hid (show strEq y x = false by unfold strEq; rw [Bool.beq_comm]; exact hb)
            go_wp2_with fail
            go_quiet (fail)
            go_wp2_with fail
            go_roundw
            case rel => exact ⟨j + 1, _, by omega, by go_num, any_next ha'.out hxj'.out hxk'.out hb'.out, rfl⟩
            case measure => simp [intOf]; omega
          · have hb' := Lib.hid (show strEq y x = true by unfold strEq; rw [Bool.beq_comm]; exact hb)
            go_wp2_with fail
            go_quiet (fail)
            go_wp2_with fail
            go_ret
            exact ⟨by rw [hpb.out, twins_hit hjk hxj'.out hxk'.out hb'.out, Bool.not_true, Bool.and_false]; rfl, ((Ext.refl w).goD _).goD _⟩
        · obtain rfl : j = k := by omega
          cases hb : wordB x
          · have hf : Hid (xs.all wordB = false) := Lib.hid (all_not hxk'.out hb)
            go_wp2_with (go_at_call 154; refine (rWord_any _ _ hxs).mono ?_; rintro e w' ⟨rfl, rfl⟩)
            go_ret
            exact ⟨by rw [hpb.out, hf.out, Bool.false_and]; rfl, (Ext.refl w).goD _⟩
          · have hf := Lib.hid hb
            go_wp2_with (go_at_call 154; refine (rWord_any _ _ hxs).mono ?_; rintro e w' ⟨rfl, rfl⟩)
            go_roundw
            case rel => exact ⟨j + 1, _, by omega, by go_num, all_more hz'.out hxk'.out hf.out, twins_next ht'.out ha'.out, rfl⟩
            case measure => simp [intOf]; omega
    · obtain rfl : k = n := by omega
      have hall : Hid (xs.all wordB = true) := Lib.hid (all_of hl'.out hz'.out)
      have htw : Hid (twinsB strEq xs = false) := Lib.hid (by unfold twinsB; rw [hl'.out]; exact ht'.out)
      go_wp2_with fail
      go_ret
      exact ⟨by rw [hpb.out, hall.out, htw.out]; rfl, (Ext.refl w).goD _⟩
end Go.Proofs.YtgajbgdkgelkgaaGreat
