/- Layer 4: the law PduBits, walked. -/
import Derived.Test.YtkkbjchoilcjlaaPduHead
import Derived.Test.YtkkbjchoilcjlaaPduInv
import Derived.Deep.RegionHeld
namespace Go.Proofs.Ytkkbjchoilcjlaa
open Go.RowKit

theorem unbits_int (A : Option Addr) (m c : Nat) (bs : List Int) (w : World) (hx : RdI w w.heap.size .u8 A m bs) (hb : ByteL bs) (hm : m ≤ 3000) :
    Calls Try.prog 26 #[.slice A m c, .int .i64 (8 * (m : Int))] w fun e w' => e = .returned (.slice (some ⟨w.heap.size, 0, none⟩) (8 * m) (8 * m)) ∧ Blk w' w.heap.size 28 .u16 (unbitsL bs (8 * m)) ∧ Ext w w' :=
  unbits_any A m c (8 * m) bs w hx (by unfold maxLen; omega) (by omega) hb

theorem bits8_length (bs : List Int) (m : Nat) : (bitsL (unbitsL bs (8 * m))).length = (8 * m + 7) / 8 := by
  unfold bitsL
  rw [bitsTo_length, unbitsL_length]
theorem bitsL_range (xs : List Int) : ByteL (bitsL xs) := by
  intro j
  unfold bitsL bitsTo
  refine rng_map _ _ (by omega) (by omega) (fun x => ?_) j
  have h := bitN_range (bitAt xs x) (min 8 (xs.length - 8 * x))
  have h2 : (2 : Int) ^ (min 8 (xs.length - 8 * x)) ≤ 2 ^ 8 := by
    have := Nat.pow_le_pow_right (n := 2) (by omega) (Nat.min_le_left 8 (xs.length - 8 * x))
    exact_mod_cast this
  omega
set_option maxHeartbeats 1600000 in
theorem pduBits_big (A A' : Option Addr) (n c m c' : Nat) (w : World) (h : 3000 < n ∨ 3000 < m) :
    Calls Try.prog 8 #[.slice A n c, .slice A' m c'] w fun e w' => e = .returned (.bool true) ∧ Ext w w' := by
  by_cases h1 : 3000 < n
  · have t1 : decide (3000 < (n : Int)) = true := by simp; omega
    clear h h1
    go_enter Try.func8, Try.ntmps8
    go_wp2_with fail
    refine (pduHead_any w).mono ?_
    rintro e w1 ⟨rfl, D1⟩
    go_wp2_with fail
    go_ret
    exact ⟨rfl, D1⟩
  · have t1 : decide (3000 < (n : Int)) = false := by simp; omega
    have t2 : decide (3000 < (m : Int)) = true := by simp; omega
    clear h h1
    go_enter Try.func8, Try.ntmps8
    go_wp2_with fail
    refine (pduHead_any w).mono ?_
    rintro e w1 ⟨rfl, D1⟩
    go_wp2_with fail
    go_ret
    exact ⟨rfl, D1⟩

set_option maxHeartbeats 3200000 in
theorem pduBits_small (A A' : Option Addr) (n c m c' : Nat) (xs bs : List Int) (w : World) (hx : RdI w w.heap.size .u16 A n xs) (hy : RdI w w.heap.size .u8 A' m bs) (hb : ByteL bs) (hn : n ≤ 3000) (hm : m ≤ 3000) :
    Calls Try.prog 8 #[.slice A n c, .slice A' m c'] w fun e w' => e = .returned (.bool true) ∧ Ext w w' := by
  have t1 : decide (3000 < (n : Int)) = false := by simp; omega
  have t2 : decide (3000 < (m : Int)) = false := by simp; omega
  have hx' := Lib.hid hx
  have hy' := Lib.hid hy
  have hb' := Lib.hid hb
  have hl := hx.len
  have hl2 := hy.len
  have u1 : IntKind.i64.wrap ((n : Int) + 7) = (n : Int) + 7 := by rw [IntKind.wrap_i64]; omega
  have u2 : ((n : Int) + 7).tdiv 8 = (((n + 7) / 8 : Nat) : Int) := by rw [Int.tdiv_eq_ediv_of_nonneg (by omega)]; omega
  have u3 : IntKind.i64.wrap ((((n + 7) / 8 : Nat) : Int)) = (((n + 7) / 8 : Nat) : Int) := by rw [IntKind.wrap_i64]; omega
  clear hx hy hb
  go_enter Try.func8, Try.ntmps8
  go_wp2_with fail
  refine (pduHead_any w).mono ?_
  rintro e w1 ⟨rfl, D1⟩
  go_wp2_with fail
  refine (bits_any A n c xs w1 (hx'.out.ext D1) (by omega)).mono ?_
  rintro e w2 ⟨rfl, b2, D2⟩
  have E2 := D1.go D2
  have l2 : (bitsL xs).length = (n + 7) / 8 := by rw [← hl]; exact bitsTo_length _ _
  have r2 : RdI w2 w2.heap.size .u8 (some ⟨w1.heap.size, 0, none⟩) ((n + 7) / 8) (bitsL xs) := by have := b2.rd (B := w2.heap.size) b2.lt; rw [l2] at this; exact this
  go_wp2_with fail
  refine (unbits_any _ _ _ n (bitsL xs) w2 r2 (by unfold maxLen; omega) (by omega) (fun j => ?_)).mono ?_
  · have := bitsL_range xs j
    exact this
  rintro e w3 ⟨rfl, b3, D3⟩
  have E3 := E2.go D3
  have l3 : (unbitsL (bitsL xs) n).length = n := unbitsL_length _ _
  have hz := Lib.hid (unbits_bits xs)
  have hx3 := Lib.hid (hx'.out.ext E3)
  have hy3 := Lib.hid (hy'.out.ext E3)
  have b3' := Lib.hid b3
  have D3' := Lib.hid D3
  have hu := Lib.hid (fun w' (E : Ext w w') => unbits_int A' m c' bs w' (hy'.out.ext E) hb'.out hm)
  have hi := Lib.hid (bits_unbits bs hb'.out)
  clear b2 r2 b3 l2 hb'
  go_wp2_with fail
  go_loopw [8] (fun i wr => ∃ k : Nat, k ≤ n ∧ i = .int .i64 k ∧ ∃ m, w3.drewN m = wr) (fun i _ => n - (intOf i).toNat)
  case atStart => exact ⟨0, by omega, rfl, 0, rfl⟩
  case round =>
    obtain ⟨k, hk, rfl, q, rfl⟩ := hrel
    by_cases hlt : k < n
    · obtain ⟨bb, o, rfl, hbb, hc1⟩ := hx3.out.at_ hlt
      have hc2 := b3'.out.cell k (by rw [l3]; exact hlt)
      have hz2 := hz.out k (by rw [hl]; exact hlt)
      rw [hl] at hz2
      rw [hz2] at hc2
      generalize xs.getD k 0 = x at hc1 hc2 hz2
      clear hz2
      by_cases hx0 : x = 0
      · subst hx0
        rw [if_pos rfl] at hc2
        go_wp2_with fail
        go_quiet (fail)
        go_wp2
        go_roundw
        case rel => exact ⟨k + 1, by omega, by go_num, q + nq, rfl⟩
        case measure => simp [intOf]; omega
      · rw [if_neg hx0] at hc2
        have hx1 : (x == 0) = false := by simp; exact hx0
        have hx2 : (x != 0) = true := by simp; exact hx0
        clear hx0
        go_wp2_with fail
        go_quiet (fail)
        go_wp2
        go_roundw
        case rel => exact ⟨k + 1, by omega, by go_num, q + nq, rfl⟩
        case measure => simp [intOf]; omega
    · obtain rfl : k = n := by omega
      have E4 := E3.goD q
      clear hx3 hy3 hz D3' b3' D1 D2 D3 E2 E3 l3
      generalize w3.drewN q = W at *
      have hcv : ∀ w', Ext W w' → Sem.run Try.prog (convert 30 9 (.slice A' m c')) w' = .ok (.string (strOfNums bs)) w' := fun w' h => (hy'.out.ext (E4.go h)).convert Try.underlying30 Try.underlying5 Try.underlying9 c'
      have wm : IntKind.i64.wrap (8 * (m : Int)) = 8 * (m : Int) := by rw [IntKind.wrap_i64]; omega
      have D0 : Ext W W.drew := (Ext.refl _).god
      have hm' := Lib.hid hm
      clear hm
      go_wp2_with fail
      refine wp_region_held_drew (S := fun w' => Ext W w') (by kernel_rfl) D0 (fun hHeld => ?_)
      refine wpAnyH_take (i := 0) (oi := _) (v := ?_) rfl (by kernel_rfl) (by kernel_rfl) (by kernel_rfl) (fun _ _ _ h => h) (Or.inl ⟨by rfl, ?_⟩) (by assumption) ?_
      rotate_left
      · intro w hSw
        (try dsimp only at hSw)
        go_simp
        try (with_reducible rfl)
      try simp only [Act.put, List.getElem_toArray, List.getElem_cons_succ, List.getElem_cons_zero, List.setIfInBounds_toArray, List.set_cons_zero, List.set_cons_succ]
      refine wpAnyH_take (i := 1) (oi := _) (v := ?_) rfl (by kernel_rfl) (by kernel_rfl) (by kernel_rfl) (fun _ _ _ h => h) (Or.inl ⟨by rfl, ?_⟩) (by assumption) ?_
      rotate_left
      · intro w hSw
        (try dsimp only at hSw)
        go_simp
        try (with_reducible rfl)
      try simp only [Act.put, List.getElem_toArray, List.getElem_cons_succ, List.getElem_cons_zero, List.setIfInBounds_toArray, List.set_cons_zero, List.set_cons_succ]
      refine wpAnyH_take (i := 2) (oi := _) (v := ?_) rfl (by kernel_rfl) (by kernel_rfl) (by kernel_rfl) (fun _ _ _ h => h) (Or.inl ⟨by rfl, ?_⟩) (by assumption) ?_
      rotate_left
      · intro w hSw
        (try dsimp only at hSw)
        go_simp
        try (with_reducible rfl)
      try simp only [Act.put, List.getElem_toArray, List.getElem_cons_succ, List.getElem_cons_zero, List.setIfInBounds_toArray, List.set_cons_zero, List.set_cons_succ]
      refine wpAnyH_take (i := 3) (oi := _) (v := ?_) rfl (by kernel_rfl) (by kernel_rfl) (by kernel_rfl) (fun _ _ _ h => h) (Or.inl ⟨by rfl, ?_⟩) (by assumption) ?_
      rotate_left
      · intro w hSw
        (try dsimp only at hSw)
        go_simp
        try (with_reducible rfl)
      try simp only [Act.put, List.getElem_toArray, List.getElem_cons_succ, List.getElem_cons_zero, List.setIfInBounds_toArray, List.set_cons_zero, List.set_cons_succ]
      refine wpAnyH_take (i := 4) (oi := _) (v := ?_) rfl (by kernel_rfl) (by kernel_rfl) (by kernel_rfl) (fun _ _ _ h => h) (Or.inl ⟨by rfl, ?_⟩) (by assumption) ?_
      rotate_left
      · intro w hSw
        (try dsimp only at hSw)
        go_simp
        try (with_reducible rfl)
      try simp only [Act.put, List.getElem_toArray, List.getElem_cons_succ, List.getElem_cons_zero, List.setIfInBounds_toArray, List.set_cons_zero, List.set_cons_succ]
      refine wpAnyH_take (i := 5) (oi := _) (v := ?_) rfl (by kernel_rfl) (by kernel_rfl) (by kernel_rfl) (fun _ _ _ h => h) (Or.inl ⟨by rfl, ?_⟩) (by assumption) ?_
      rotate_left
      · intro w hSw
        (try dsimp only at hSw)
        go_simp
        try (with_reducible rfl)
      try simp only [Act.put, List.getElem_toArray, List.getElem_cons_succ, List.getElem_cons_zero, List.setIfInBounds_toArray, List.set_cons_zero, List.set_cons_succ]
      refine wpAnyH_take (i := 9) (oi := _) (v := ?_) rfl (by kernel_rfl) (by kernel_rfl) (by kernel_rfl) (fun _ _ _ h => h) (Or.inl ⟨by rfl, ?_⟩) (by assumption) ?_
      rotate_left
      · intro w hSw
        (try dsimp only at hSw)
        go_simp
        try (with_reducible rfl)
      try simp only [Act.put, List.getElem_toArray, List.getElem_cons_succ, List.getElem_cons_zero, List.setIfInBounds_toArray, List.set_cons_zero, List.set_cons_succ]
      refine wpAnyH_take (i := 10) (oi := _) (v := ?_) rfl (by kernel_rfl) (by kernel_rfl) (by kernel_rfl) (fun _ _ _ h => h) (Or.inl ⟨by rfl, ?_⟩) (by assumption) ?_
      rotate_left
      · intro w hSw
        (try dsimp only at hSw)
        go_simp
        try (with_reducible rfl)
      try simp only [Act.put, List.getElem_toArray, List.getElem_cons_succ, List.getElem_cons_zero, List.setIfInBounds_toArray, List.set_cons_zero, List.set_cons_succ]
      refine wpAnyH_ready (rs := [6]) (by kernel_rfl) (by simp) ?_
      refine AllReadyH.cons rfl (fun K hK => ?_) ?_
      rotate_left
      · exact AllReadyH.nil
      go_simp
      go_at_call 26
      refine (hu.out _ (E4.go D0)).mono ?_
      rintro e w4 ⟨rfl, b4, d4⟩
      have D1 := D0.go d4
      have r4 := b4.rd b4.lt
      rw [unbitsL_length] at r4
      clear d4 b4
      try dsimp only
      refine hK.out _ _ ?_ (fun hHeld => ?_)
      · first | assumption | (dsimp only; assumption)
      clear hK K
      try simp only [Act.put, List.getElem_toArray, List.getElem_cons_succ, List.getElem_cons_zero, List.setIfInBounds_toArray, List.set_cons_zero, List.set_cons_succ]
      refine wpAnyH_ready (rs := [7]) (by kernel_rfl) (by simp) ?_
      refine AllReadyH.cons rfl (fun K hK => ?_) ?_
      rotate_left
      · exact AllReadyH.nil
      go_simp
      go_at_call 25
      refine (bits_any _ _ _ _ _ r4 (by have := hm'.out; omega)).mono ?_
      rintro e w5 ⟨rfl, b5, d5⟩
      have D2 := D1.go d5
      have cs5 := (b5.rd b5.lt).convert Try.underlying30 Try.underlying5 Try.underlying9 ((8 * m + 7) / 8)
      rw [bits8_length bs m, ← hl2, hi.out, hl2] at cs5
      clear d5 b5 r4
      try dsimp only
      refine hK.out _ _ ?_ (fun hHeld => ?_)
      · first | assumption | (dsimp only; assumption)
      clear hK K
      try simp only [Act.put, List.getElem_toArray, List.getElem_cons_succ, List.getElem_cons_zero, List.setIfInBounds_toArray, List.set_cons_zero, List.set_cons_succ]
      refine wpAnyH_ready (rs := [8]) (by kernel_rfl) (by simp) ?_
      refine AllReadyH.cons rfl (fun K hK => ?_) ?_
      rotate_left
      · exact AllReadyH.nil
      go_simp
      refine hK.out _ _ ?_ (fun hHeld => ?_)
      · first | assumption | (dsimp only; assumption)
      clear hK K
      try simp only [Act.put, List.getElem_toArray, List.getElem_cons_succ, List.getElem_cons_zero, List.setIfInBounds_toArray, List.set_cons_zero, List.set_cons_succ]
      refine wpAnyH_take (i := 11) (oi := _) (v := ?_) rfl (by kernel_rfl) (by kernel_rfl) (by kernel_rfl) (fun _ _ _ h => h) (Or.inl ⟨by rfl, ?_⟩) (by assumption) ?_
      rotate_left
      · intro w hSw
        (try dsimp only at hSw)
        go_simp
        try (with_reducible rfl)
      try simp only [Act.put, List.getElem_toArray, List.getElem_cons_succ, List.getElem_cons_zero, List.setIfInBounds_toArray, List.set_cons_zero, List.set_cons_succ]
      refine wpAnyH_take (i := 12) (oi := _) (v := ?_) rfl (by kernel_rfl) (by kernel_rfl) (by kernel_rfl) (fun _ _ _ h => h) (Or.inl ⟨by rfl, ?_⟩) (by assumption) ?_
      rotate_left
      · intro w hSw
        (try dsimp only at hSw)
        go_simp
        try (with_reducible rfl)
      try simp only [Act.put, List.getElem_toArray, List.getElem_cons_succ, List.getElem_cons_zero, List.setIfInBounds_toArray, List.set_cons_zero, List.set_cons_succ]
      refine wpAnyH_take (i := 13) (oi := _) (v := ?_) rfl (by kernel_rfl) (by kernel_rfl) (by kernel_rfl) (fun _ _ _ h => h) (Or.inl ⟨by rfl, ?_⟩) (by assumption) ?_
      rotate_left
      · intro w hSw
        (try dsimp only at hSw)
        go_simp
        try (with_reducible rfl)
      try simp only [Act.put, List.getElem_toArray, List.getElem_cons_succ, List.getElem_cons_zero, List.setIfInBounds_toArray, List.set_cons_zero, List.set_cons_succ]
      refine wpAnyH_take (i := 14) (oi := _) (v := ?_) rfl (by kernel_rfl) (by kernel_rfl) (by kernel_rfl) (fun _ _ _ h => h) (Or.inl ⟨by rfl, ?_⟩) (by assumption) ?_
      rotate_left
      · intro w hSw
        (try dsimp only at hSw)
        go_simp
        try (with_reducible rfl)
      try simp only [Act.put, List.getElem_toArray, List.getElem_cons_succ, List.getElem_cons_zero, List.setIfInBounds_toArray, List.set_cons_zero, List.set_cons_succ]
      refine wpAnyH_ready (rs := [15]) (by kernel_rfl) (by simp) ?_
      refine AllReadyH.cons rfl (fun K hK => ?_) ?_
      rotate_left
      · exact AllReadyH.nil
      go_simp
      go_at_call 26
      refine (unbits_no _ _ _ _ _ (.inl (by decide))).mono ?_
      rintro e w6 ⟨rfl, rfl⟩
      try dsimp only
      refine hK.out _ _ ?_ (fun hHeld => ?_)
      · first | assumption | (dsimp only; assumption)
      clear hK K
      try simp only [Act.put, List.getElem_toArray, List.getElem_cons_succ, List.getElem_cons_zero, List.setIfInBounds_toArray, List.set_cons_zero, List.set_cons_succ]
      refine wpAnyH_take (i := 16) (oi := _) (v := ?_) rfl (by kernel_rfl) (by kernel_rfl) (by kernel_rfl) (fun _ _ _ h => h) (Or.inl ⟨by rfl, ?_⟩) (by assumption) ?_
      rotate_left
      · intro w hSw
        (try dsimp only at hSw)
        go_simp
        try (with_reducible rfl)
      try simp only [Act.put, List.getElem_toArray, List.getElem_cons_succ, List.getElem_cons_zero, List.setIfInBounds_toArray, List.set_cons_zero, List.set_cons_succ]
      refine wpAnyH_take (i := 17) (oi := _) (v := ?_) rfl (by kernel_rfl) (by kernel_rfl) (by kernel_rfl) (fun _ _ _ h => h) (Or.inl ⟨by rfl, ?_⟩) (by assumption) ?_
      rotate_left
      · intro w hSw
        (try dsimp only at hSw)
        go_simp
        try (with_reducible rfl)
      try simp only [Act.put, List.getElem_toArray, List.getElem_cons_succ, List.getElem_cons_zero, List.setIfInBounds_toArray, List.set_cons_zero, List.set_cons_succ]
      refine wpAnyH_take (i := 18) (oi := _) (v := ?_) rfl (by kernel_rfl) (by kernel_rfl) (by kernel_rfl) (fun _ _ _ h => h) (Or.inl ⟨by rfl, ?_⟩) (by assumption) ?_
      rotate_left
      · intro w hSw
        (try dsimp only at hSw)
        go_simp
        try (with_reducible rfl)
      try simp only [Act.put, List.getElem_toArray, List.getElem_cons_succ, List.getElem_cons_zero, List.setIfInBounds_toArray, List.set_cons_zero, List.set_cons_succ]
      refine wpAnyH_take (i := 19) (oi := _) (v := ?_) rfl (by kernel_rfl) (by kernel_rfl) (by kernel_rfl) (fun _ _ _ h => h) (Or.inl ⟨by rfl, ?_⟩) (by assumption) ?_
      rotate_left
      · intro w hSw
        (try dsimp only at hSw)
        go_simp
        try (with_reducible rfl)
      try simp only [Act.put, List.getElem_toArray, List.getElem_cons_succ, List.getElem_cons_zero, List.setIfInBounds_toArray, List.set_cons_zero, List.set_cons_succ]
      refine wpAnyH_done (by kernel_rfl) ?_ _
      go_wp2_with fail
      go_ret
      exact ⟨rfl, E4.go D2⟩
theorem pduBits_law (A A' : Option Addr) (n c m c' : Nat) (xs bs : List Int) (w : World) (hx : RdI w w.heap.size .u16 A n xs) (hy : RdI w w.heap.size .u8 A' m bs) (hb : ByteL bs) :
    Calls Try.prog 8 #[.slice A n c, .slice A' m c'] w fun e w' => e = .returned (.bool true) ∧ Ext w w' := by
  by_cases h : 3000 < n ∨ 3000 < m
  · exact pduBits_big A A' n c m c' w h
  · exact pduBits_small A A' n c m c' xs bs w hx hy hb (by omega) (by omega)
end Go.Proofs.Ytkkbjchoilcjlaa
