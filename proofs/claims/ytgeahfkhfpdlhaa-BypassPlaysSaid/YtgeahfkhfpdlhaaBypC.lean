/- Layer 15, the walks: Load. -/
import Derived.Test.YtgeahfkhfpdlhaaBypB
namespace Go.Proofs.Ytgeahfkhfpdlhaa
open Go.RowKit

/-- May an end not be that? -/
def wrongE (e : Int) : Bool := decide (e < 0) || decide (2199023255552 < e)
set_option maxRecDepth 100000 in
set_option maxHeartbeats 800000 in
theorem bypWrong_any (x : Int) (w : World) : Calls Try.prog 89 #[.int .i64 x] w fun e w' => e = .returned (.bool (wrongE x)) ∧ w = w' := by
  by_cases h0 : x < 0
  · have hv : wrongE x = true := by unfold wrongE; rw [decide_eq_true h0]; rfl
    have t0 : decide (x < 0) = true := by simp; omega
    rw [hv]
    clear hv
    go_enter Try.func89, Try.ntmps89
    go_wp2_with fail
    go_ret
    exact ⟨rfl, rfl⟩
  · have t0 : decide (x < 0) = false := by simp; omega
    have hv : wrongE x = decide (2199023255552 < x) := by unfold wrongE; rw [t0, Bool.false_or]
    rw [hv]
    clear hv
    go_enter Try.func89, Try.ntmps89
    go_wp2_with fail
    go_ret
    exact ⟨rfl, rfl⟩
/-- Some number that is 0 or more just if one of them may not be. -/
def IdxPost (xs : List Int) (w : World) (e : Ending) (w' : World) : Prop := ∃ r : Int, e = .returned (.int .i64 r) ∧ decide (0 ≤ r) = xs.any wrongE ∧ w = w'
theorem IdxPost.mk {xs : List Int} {w : World} {r : Int} (h : decide (0 ≤ r) = xs.any wrongE) : IdxPost xs w (.returned (.int .i64 r)) w := ⟨r, rfl, h, rfl⟩
set_option maxRecDepth 100000 in
set_option maxHeartbeats 1600000 in
theorem bypIndex_any (A : Option Addr) (n c B : Nat) (xs : List Int) (w : World) (hx : RdI w B .i64 A n xs) (hn : n ≤ maxLen) :
    Calls Try.prog 110 #[.slice A n c, .func (.func 89) #[] #[]] w (IdxPost xs w) := by
  unfold maxLen at hn
  have hl := Lib.hid hx.len
  have hx' := Lib.hid hx
  clear hx
  go_enter Try.func110, Try.ntmps110
  go_wp2_with fail
  go_loop [8] (fun i => ∃ k : Nat, k ≤ n ∧ i = .int .i64 k ∧ (xs.take k).any wrongE = false) (fun i => n - (intOf i).toNat)
  case atStart => exact ⟨0, by omega, rfl, rfl⟩
  case round =>
    obtain ⟨k, hk, rfl, hno⟩ := hrel
    have hno' := Lib.hid hno
    clear hno
    by_cases hlt : k < n
    · obtain ⟨b, o, rfl, hb, hc⟩ := hx'.out.at_ hlt
      have htk : xs.take (k + 1) = xs.take k ++ [xs.getD k 0] := by
        have hkl : k < xs.length := by rw [hl.out]; exact hlt
        rw [List.take_succ_eq_append_getElem hkl, List.getD_eq_getElem?_getD, List.getElem?_eq_getElem hkl]; rfl
      have hmem : xs.getD k 0 ∈ xs := by
        have hkl : k < xs.length := by rw [hl.out]; exact hlt
        rw [List.getD_eq_getElem?_getD, List.getElem?_eq_getElem hkl]; exact List.getElem_mem hkl
      generalize xs.getD k 0 = x at *
      have htk' := Lib.hid htk
      have hmem' := Lib.hid hmem
      clear htk hmem
      cases hw : wrongE x
      · have hw' := Lib.hid hw
        clear hw
        go_wp2_with fail
        refine (bypWrong_any x _).mono ?_
        rw [hw'.out]
        rintro e w2 ⟨rfl, rfl⟩
        go_wp2_with fail
        go_round
        case rel => exact ⟨k + 1, by omega, by go_num, by rw [htk'.out, List.any_append, hno'.out, Bool.false_or]; simp [hw'.out]⟩
        case measure => simp [intOf]; omega
      · have hw' := Lib.hid hw
        clear hw
        go_wp2_with fail
        refine (bypWrong_any x _).mono ?_
        rw [hw'.out]
        rintro e w2 ⟨rfl, rfl⟩
        go_wp2_with fail
        go_ret
        exact IdxPost.mk (by rw [decide_eq_true (by omega)]; exact (List.any_eq_true.2 ⟨x, hmem'.out, hw'.out⟩).symm)
    · obtain rfl : k = n := by omega
      go_wp2_with fail
      go_ret
      exact IdxPost.mk (by have := hno'.out; rw [List.take_of_length_le (by rw [hl.out]; exact Nat.le_refl _)] at this; rw [this]; rfl)
set_option maxRecDepth 100000 in
set_option maxHeartbeats 800000 in
theorem bypContains_any (A : Option Addr) (n c B : Nat) (xs : List Int) (w : World) (hx : RdI w B .i64 A n xs) (hn : n ≤ maxLen) :
    Calls Try.prog 90 #[.slice A n c, .func (.func 89) #[] #[]] w fun e w' => e = .returned (.bool (xs.any wrongE)) ∧ w = w' := by
  go_enter Try.func90, Try.ntmps90
  go_wp2_with fail
  refine (bypIndex_any A n c B xs w hx hn).mono ?_
  cases hv : xs.any wrongE
  · rintro e w1 ⟨r, rfl, hr, rfl⟩
    rw [hv] at hr
    go_wp2_with fail
    go_ret
    exact ⟨by rw [hv]; rfl, rfl⟩
  · rintro e w1 ⟨r, rfl, hr, rfl⟩
    rw [hv] at hr
    go_wp2_with fail
    go_ret
    exact ⟨by rw [hv]; rfl, rfl⟩
def loadB (n : Nat) (xs : List Int) : Bool := (xs.length == n) && !xs.any wrongE
theorem until_take (xs : List Int) (k : Nat) (_hk : k < xs.length) (j : Int) : fupd (untilE (xs.take k)) (k : Int) (xs.getD k 0) j = untilE (xs.take (k + 1)) j := by
  by_cases e : j = k
  · subst e
    rw [fupd_same, untilE_of, List.getD_eq_getElem?_getD, List.getD_eq_getElem?_getD, List.getElem?_take_of_lt (by omega)]
  · rw [fupd_other _ _ e]
    unfold untilE
    split
    · by_cases h : j.toNat < k
      · rw [List.getElem?_take_of_lt h, List.getElem?_take_of_lt (by omega)]
      · rw [List.getElem?_take, if_neg h, List.getElem?_take, if_neg (by omega)]
    · rfl
theorem until_take_zero (xs : List Int) (k : Nat) (hk : k < xs.length) (h0 : xs.getD k 0 = 0) (j : Int) : untilE (xs.take k) j = untilE (xs.take (k + 1)) j := by
  rw [← until_take xs k hk j, h0]
  by_cases e : j = k
  · subst e
    rw [fupd_same, untilE_of, List.getD_eq_getElem?_getD, List.getElem?_take, if_neg (by omega)]; rfl
  · rw [fupd_other _ _ e]
theorem wrong_range {xs : List Int} (h : xs.any wrongE = false) : RngE xs := by
  refine rng_of (by omega) (by omega) fun y hy => ?_
  have := List.any_eq_false.1 h y hy
  unfold wrongE at this
  simp at this
  omega
set_option maxRecDepth 100000 in
set_option maxHeartbeats 3200000 in
theorem bypLoad_any (g gl gm N : Nat) (lims E : List Int) (A : Option Addr) (n c : Nat) (xs : List Int) (w : World) (hb : Tb w g gl gm N lims E) (hx : RdI w w.heap.size .i64 A n xs) (hn : n ≤ 140737488351232) (hne : 0 < n → ∀ b o, A = some ⟨b, o, none⟩ → b ≠ gm) :
    Calls Try.prog 43 #[.pointer (some ⟨g, 0, none⟩), .slice A n c] w (TurnPost (.bool (loadB lims.length xs)) g gl gm (max N n) lims (if loadB lims.length xs = true then xs else E) w) := by
  have hc := cellsAt hb.head
  have hl := hx.len
  have hv : loadB lims.length xs = ((n == lims.length) && !xs.any wrongE) := by unfold loadB; rw [hl]
  rw [hv]
  have hfit := hb.fit
  have hb' := Lib.hid hb
  have hx' := Lib.hid hx
  have hl' := Lib.hid hl
  clear hb hx hl hv
  by_cases hnl : n = lims.length
  · have hcon := bypContains_any A n c w.heap.size xs w hx'.out (by unfold maxLen; omega)
    have t1 : ((n : Int) != (lims.length : Int)) = false := by simp; omega
    have t2 : (n != lims.length) = false := by simp; omega
    have e1 : (n == lims.length) = true := by simp; omega
    rw [e1, Bool.true_and]
    clear e1
    cases hw : xs.any wrongE
    · rw [hw] at hcon
      have hcon' := Lib.hid hcon
      have hr := wrong_range hw
      have hr' := Lib.hid hr
      have hnl' := Lib.hid hnl
      clear hw hcon hr
      have hm' := Lib.hid hb'.out.map
      generalize hz : lims.length = z at *
      have hz' := Lib.hid hz
      clear hz hnl
      go_enter Try.func43, Try.ntmps43
      go_wp2_with fail
      refine hcon'.out.mono ?_
      rintro e w1 ⟨rfl, rfl⟩
      go_wp2_with ((with_reducible refine wpList_clearI rfl (.tmp 24) rfl rfl hm'.out ?_); intro w1 hm1 hM1)
      have hm1' := Lib.hid hm1
      clear hm1
      go_loopw [27] (fun i wr => ∃ k : Nat, k ≤ n ∧ i = .int .i64 k ∧ MapI wr gm k (untilE (xs.take k)) ∧ Mod (fun i => i = gm) w wr) (fun i _ => n - (intOf i).toNat)
      case atStart => exact ⟨0, by omega, rfl, hm1'.out.congr (fun i => by unfold untilE; simp), hM1⟩
      case round =>
        obtain ⟨k, hk, rfl, hmk, hM⟩ := hrel
        have hmk' := Lib.hid hmk
        clear hmk
        by_cases hlt : k < n
        · have hkl : k < xs.length := by rw [hl'.out]; exact hlt
          have hst := until_take xs k hkl
          have hsz := until_take_zero xs k hkl
          have hxr := hr'.out k
          rw [← List.getD_eq_getElem?_getD] at hxr
          obtain ⟨b, o, rfl, hbl, hc0⟩ := hx'.out.at_ hlt
          have hc1 := (hM.cell (o + k) hbl (hne (by omega) b o rfl)).trans hc0
          have hhd := (hM.block g (hb'.out.old (.inl rfl)) hb'.out.n1).trans hb'.out.head
          have hc2 := cellsAt hhd
          generalize xs.getD k 0 = x at *
          have hst' := Lib.hid hst
          have hsz' := Lib.hid hsz
          have hxr' := Lib.hid hxr
          have wk := Lib.hid (WalkArith.wf_i64 (n := (k : Int)) ⟨by omega, by omega⟩)
          have wx := Lib.hid (WalkArith.wf_i64 (n := x) ⟨by omega, by omega⟩)
          clear hst hsz hhd hc0
          by_cases hx0 : 0 < x
          · have t3 : decide (0 < x) = true := by simp; omega
            have hx0' : Hid (x ≠ 0) := Lib.hid (by omega)
            go_wp2_with ((with_reducible refine wpList_storeI rfl (.tmp 37) (.tmp 38) (.tmp 39) rfl rfl rfl rfl hmk'.out (by unfold maxLen; omega) wk.out wx.out hx0'.out ?_); intro w2 hm2 hM2)
            go_roundw
            case rel => exact ⟨k + 1, by omega, by go_num, hm2.congr hst'.out, hM.trans hM2⟩
            case measure => simp [intOf]; omega
          · have t3 : decide (0 < x) = false := by simp; omega
            go_wp2_with fail
            go_roundw
            case rel => exact ⟨k + 1, by omega, by go_num, (hmk'.out.congr (hsz'.out (by omega))).mono (by omega), hM⟩
            case measure => simp [intOf]; omega
        · obtain rfl : k = n := by omega
          go_wp2_with fail
          go_ret
          have hmk := hmk'.out
          rw [List.take_of_length_le (by rw [hl'.out]; exact Nat.le_refl _)] at hmk
          exact ⟨rfl, (hb'.out.turn (hmk.mono (by omega)) (by rw [hl'.out, hb'.out.len]; have := hz'.out; have := hnl'.out; omega) hr'.out hM), hM⟩
    · rw [hw] at hcon
      have hcon' := Lib.hid hcon
      clear hw hcon hnl
      go_enter Try.func43, Try.ntmps43
      go_wp2_with fail
      refine hcon'.out.mono ?_
      rintro e w1 ⟨rfl, rfl⟩
      go_wp2_with fail
      go_ret
      exact ⟨rfl, hb'.out.mono (by omega), Mod.refl _ _⟩
  · have t1 : ((n : Int) != (lims.length : Int)) = true := by simp; omega
    have t2 : (n != lims.length) = true := by simp; omega
    have e1 : (n == lims.length) = false := by simp; omega
    rw [e1, Bool.false_and]
    clear e1 hnl
    go_enter Try.func43, Try.ntmps43
    go_wp2_with fail
    go_ret
    exact ⟨rfl, hb'.out.mono (by omega), Mod.refl _ _⟩
end Go.Proofs.Ytgeahfkhfpdlhaa
