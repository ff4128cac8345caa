
/- Layer 4, the walks: Bits, Unbits. -/
import Derived.Test.YtgeahfkhfpdlhaaPduWords
namespace Go.Proofs.Ytgeahfkhfpdlhaa
open Go.RowKit

set_option maxRecDepth 100000 in
set_option maxHeartbeats 1000000 in
theorem bits_any (A : Option Addr) (n c : Nat) (xs : List Int) (w : World) (hx : RdI w w.heap.size .u16 A n xs) (hn : n ≤ 1048576) :
    Calls Try.prog 136 #[.slice A n c] w fun e w' => e = .returned (.slice (some ⟨w.heap.size, 0, none⟩) ((n + 7) / 8) ((n + 7) / 8)) ∧ Blk w' w.heap.size 5 .u8 (bitsL xs) ∧ Ext w w' := by
  have hl := hx.len
  have hmk := fun w => run_mkI Try.underlying33 info_u8 ((n : Int) / 8 + ((n : Int) % 8 + 7) / 8) ((n + 7) / 8) (by omega) (by omega) (by omega) w
  have hl' := Lib.hid hl
  clear hl
  go_enter Try.func136, Try.ntmps136
  go_wp2
  go_loopw [18] (fun i wr => ∃ k : Nat, k ≤ n ∧ i = .int .i64 k ∧ Blk wr w.heap.size 5 .u8 (bitsTo xs k) ∧ Ext w wr) (fun i _ => n - (intOf i).toNat)
  case atStart => exact ⟨0, by omega, rfl, by rw [bitsTo_zero, hl'.out]; exact Blk.new _ _ _ _, (Ext.refl _).goA _⟩
  case round =>
    obtain ⟨k, hk, rfl, hb, hw⟩ := hrel
    by_cases hlt : k < n
    · obtain ⟨b, o, rfl, hbb, hc0⟩ := hx.at_ hlt
      have hc := (hw.cell (o + k) hbb).trans hc0
      have hc0' := Lib.hid hc0
      clear hc0
      have hkl : k < xs.length := by rw [hl'.out]; exact hlt
      have c1 := hb.cell (k / 8) (by rw [bitsTo_length]; omega)
      have c2 := hb.frozen (k / 8)
      have hset := Lib.hid (bitsTo_set xs k hkl)
      have hsame := Lib.hid (bitsTo_same xs k hkl)
      have hold := bitN_range (bitAt xs (k / 8)) (k % 8)
      have hg := bitsTo_getD xs k (k / 8) (by omega)
      rw [show min 8 (k - 8 * (k / 8)) = k % 8 by omega] at hg
      rw [← hg] at hold
      clear hg
      have hb' := hb
      obtain ⟨d, hd⟩ : ∃ d, d = (bitsTo xs k).getD (k / 8) 0 := ⟨_, rfl⟩
      rw [← hd] at c1 hold
      have hset2 := hb.set_ (k / 8) (d + 2 ^ (k % 8))
      have hd' := Lib.hid hd
      clear hd hkl
      cases hz : (xs[k]?.getD 0 != 0)
      · have hz' := Lib.hid hz
        go_wp2
        go_roundw
        case rel => exact ⟨k + 1, by omega, by go_num, by rw [← hsame.out (by rw [List.getD_eq_getElem?_getD]; simpa using hz'.out)]; exact hb', hw⟩
        case measure => simp [intOf]; omega
      · have hz' := Lib.hid hz
        go_wp2
        go_region
        go_wp2
        go_roundw
        case rel =>
          refine ⟨k + 1, by omega, by go_num, ?_, (hw.goS (Nat.le_refl _) _).god⟩
          rw [bit_or' d (k % 8) hold.1 hold.2 (by omega)]
          have hs := hset.out (by have := hz'.out; rw [List.getD_eq_getElem?_getD]; simpa using this)
          rw [← hd'.out] at hs
          rw [← hs]; exact hset2
        case measure => simp [intOf]; omega
    · obtain rfl : k = n := by omega
      go_wp2
      go_ret
      refine ⟨rfl, ?_, hw⟩
      unfold bitsL
      rw [hl'.out]; exact hb

set_option maxRecDepth 100000 in
set_option maxHeartbeats 1000000 in
theorem unbits_no (A : Option Addr) (m c : Nat) (n : Int) (w : World) (h : n < 0 ∨ 65536 < n) :
    Calls Try.prog 133 #[.slice A m c, .int .i64 n] w fun e w' => e = .returned (.slice none 0 0) ∧ w = w' := by
  rcases h with h | h
  all_goals
    go_enter Try.func133, Try.ntmps133
    go_wp2
    go_ret
    exact ⟨rfl, rfl⟩

set_option maxRecDepth 100000 in
set_option maxHeartbeats 1000000 in
theorem unbits_any (A : Option Addr) (m c n : Nat) (bs : List Int) (w : World) (hx : RdI w w.heap.size .u8 A m bs) (hm : m ≤ maxLen) (hn : n ≤ 65536) (hr : ∀ j : Nat, 0 ≤ bs[j]?.getD 0 ∧ bs[j]?.getD 0 ≤ 255) :
    Calls Try.prog 133 #[.slice A m c, .int .i64 n] w fun e w' => e = .returned (.slice (some ⟨w.heap.size, 0, none⟩) n n) ∧ Blk w' w.heap.size 34 .u16 (unbitsL bs n) ∧ Ext w w' := by
  unfold maxLen at hm
  have hl' := Lib.hid hx.len
  have hmk := fun w => run_mkI Try.underlying30 info_u16 (n : Int) n rfl (by omega) (by omega) w
  have hr' := Lib.hid hr
  clear hr
  go_enter Try.func133, Try.ntmps133
  go_wp2
  go_loopw [17] (fun i wr => ∃ k : Nat, k ≤ n ∧ k ≤ 8 * m ∧ i = .int .i64 k ∧ Blk wr w.heap.size 34 .u16 (unbitsTo bs n k) ∧ Ext w wr) (fun i _ => n - (intOf i).toNat)
  case atStart => exact ⟨0, by omega, by omega, rfl, by rw [unbitsTo_zero]; exact Blk.new _ _ _ _, (Ext.refl _).goA _⟩
  case round =>
    obtain ⟨k, hk, hk8, rfl, hb, hw⟩ := hrel
    by_cases hlt : k < n
    · rcases (show k / 8 < m ∨ k = 8 * m by omega) with h8 | h8
      · obtain ⟨b, o, rfl, hbb, hc0⟩ := hx.at_ h8
        have hc := (hw.cell (o + k / 8) hbb).trans hc0
        have hc0' := Lib.hid hc0
        clear hc0
        have c1 := hb.cell k (by rw [unbitsTo_length]; omega)
        have c2 := hb.frozen k
        have hset := Lib.hid (unbitsTo_set bs n k hlt (by rw [hl'.out]; exact h8))
        have hset2 := hb.set_ k (bs.getD (k / 8) 0 / 2 ^ (k % 8) % 2)
        obtain ⟨r0, r1⟩ := hr'.out (k / 8)
        have hz : (((k : Int) / 8) == (m : Int)) = false := by simp; omega
        go_wp2
        go_roundw
        case rel =>
          refine ⟨k + 1, by omega, by omega, by go_num, ?_, hw.goS (Nat.le_refl _) _⟩
          rw [unbit_val _ (k % 8) r0 r1, ← List.getD_eq_getElem?_getD, ← hset.out]; exact hset2
        case measure => simp [intOf]; omega
      · have hz : (((k : Int) / 8) == (m : Int)) = true := by simp; omega
        have h8' := Lib.hid h8
        clear h8
        go_wp2
        go_ret
        refine ⟨rfl, ?_, hw⟩
        rw [unbitsTo_all bs n k (.inr (by rw [hl'.out]; have := h8'.out; omega))] at hb
        exact hb
    · obtain rfl : k = n := by omega
      go_wp2
      go_ret
      refine ⟨rfl, ?_, hw⟩
      rw [unbitsTo_all bs k k (.inl (Nat.le_refl _))] at hb
      exact hb
end Go.Proofs.Ytgeahfkhfpdlhaa
