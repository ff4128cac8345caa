/- Layer 16, the walks: what the functions of package key compute. -/
import Derived.Test.YtkkbjchoilcjlaaRows
import Derived.Test.YtkkbjchoilcjlaaKeyPlain
import Derived.Test.YtkkbjchoilcjlaaShelf
import Derived.Deep.RegionWith
namespace Go.Proofs.Ytkkbjchoilcjlaa
open Go.RowKit
theorem info_u8 : (Try.prog.info? 5).map (fun i => (i.zero, i.size, i.bytes)) = some (some (.int .u8 0), 1, 1) := by kernel_rfl
theorem info_u16 : (Try.prog.info? 28).map (fun i => (i.zero, i.size, i.bytes)) = some (some (.int .u16 0), 1, 2) := by kernel_rfl

set_option maxHeartbeats 400000 in
theorem right_any (s : ByteArray) (w : World) (hs : s.size ≤ maxLen) :
    Calls Try.prog 41 #[.string s] w fun e w' => e = .returned (.bool (rightB s)) ∧ w = w' := by
  unfold maxLen at hs
  go_enter Try.func41, Try.ntmps41
  go_wp2_with (go_at_call 61; refine (idx_any _ _ _).mono ?_; rintro e w' ⟨rfl, rfl⟩)
  all_goals go_ret
  · have h1 : 1 ≤ s.size := by omega
    have h2 : s.size ≤ 32 := by omega
    exact ⟨by simp [rightB, h1, h2], rfl⟩
  · have h1 : ¬ s.size ≤ 32 := by omega
    exact ⟨by simp [rightB, h1], rfl⟩
  · have h1 : ¬ 1 ≤ s.size := by omega
    exact ⟨by simp [rightB, h1], rfl⟩

set_option maxHeartbeats 400000 in
theorem mix_any (x h : Int) (b : Nat) (w : World) (hc : w.cell? ⟨b, 0, none⟩ = some (.int .u64 h)) (hf : w.frozen? ⟨b, 0, none⟩ = false) :
    Calls Try.prog 42 #[.int .u64 x, .pointer (some ⟨b, 0, none⟩)] w fun e w' => e = .returned (.tuple #[]) ∧ w.setCell ⟨b, 0, none⟩ (.int .u64 (mix h x)) = w' := by
  go_enter Try.func42, Try.ntmps42
  go_wp2
  go_end0
  exact ⟨rfl, rfl⟩

set_option maxHeartbeats 400000 in
theorem told_any (n : Int) (w : World) :
    Calls Try.prog 44 #[.int .u64 n] w fun e w' => e = .returned (.string (strOfNums (toldL n))) ∧ Ext w w' := by
  have hmk := fun w => run_mkI Try.underlying30 info_u8 16 16 rfl (by omega) (by omega) w
  go_enter Try.func44, Try.ntmps44
  go_wp2
  go_loopw [6] (fun i wr => ∃ k : Nat, k ≤ 16 ∧ i = .int .i64 k ∧ Blk wr w.heap.size 5 .u8 (toldTo n k) ∧ Ext w wr) (fun i _ => 16 - (intOf i).toNat)
  case atStart => exact ⟨0, by omega, rfl, by rw [toldTo_zero]; exact Blk.new _ _ _ _, (Ext.refl _).goA _⟩
  case round =>
    obtain ⟨k, hk, rfl, hb, hw⟩ := hrel
    by_cases hlt : k < 16
    · have hc : wr.cell? ⟨w.heap.size, 15 - k, none⟩ = some (.int .u8 ((toldTo n k).getD (15 - k) 0)) := hb.cell _ (by rw [toldTo_length]; omega)
      have hf := hb.frozen (15 - k)
      have hnib := nib_range n k
      unfold nib at hnib
      go_wp2
      go_roundw
      case rel =>
        refine ⟨k + 1, by omega, by go_num, ?_, hw.goS (Nat.le_refl _) _⟩
        have := hb.set_ (15 - k) (hx (nib n k))
        rw [toldTo_step n k hlt] at this
        rw [← hex_at (nib n k) (by have := nib_range n k; show _ < 16; omega)] at this
        exact this
      case measure => simp [intOf]; omega
    · obtain rfl : k = 16 := by omega
      have hcv := (hb.rd (Nat.lt_succ_self _)).convert (P := Try.prog) Try.underlying30 Try.underlying5 Try.underlying9 16
      rw [toldTo_length, toldTo_all] at hcv
      go_wp2
      go_ret
      exact ⟨rfl, hw⟩
/-- The byte k of a string, in the walk's spelling. -/
theorem bs_getD (s : ByteArray) (k : Nat) (h : k < s.size) : (bs s).getD k 0 = ((s[k]'h).toNat : Int) := by
  unfold bs
  rw [List.getD_eq_getElem?_getD, List.getElem?_map, List.getElem?_eq_getElem (show k < s.data.toList.length from h)]
  rfl

set_option maxHeartbeats 800000 in
theorem round_any (t h : Int) (s : ByteArray) (bk bm bh : Nat) (w : World) (hs : s.size ≤ maxLen) (hk : w.cell? ⟨bk, 0, none⟩ = some (.string s)) (hm : w.cell? ⟨bm, 0, none⟩ = some (.func (.func 42) #[] #[.pointer (some ⟨bh, 0, none⟩)]))
    (hh : w.cell? ⟨bh, 0, none⟩ = some (.int .u64 h)) (hf : w.frozen? ⟨bh, 0, none⟩ = false) (h1 : bk ≠ bh) (h2 : bm ≠ bh) :
    Calls Try.prog 43 #[.int .u64 t, .pointer (some ⟨bk, 0, none⟩), .pointer (some ⟨bm, 0, none⟩)] w fun e w' => e = .returned (.tuple #[]) ∧
      w'.cell? ⟨bh, 0, none⟩ = some (.int .u64 (mix (roundTo s h s.size) t)) ∧ w'.frozen? ⟨bh, 0, none⟩ = false ∧ Mod (fun i => i = bh) w w' := by
  unfold maxLen at hs
  have lk := World.block_lt_of_cell? w _ hk
  have lm := World.block_lt_of_cell? w _ hm
  have lh := World.block_lt_of_cell? w _ hh
  go_enter Try.func43, Try.ntmps43
  go_wp2
  go_loopw [7] (fun i wr => ∃ k : Nat, k ≤ s.size ∧ i = .int .i64 k ∧ wr.cell? ⟨bh, 0, none⟩ = some (.int .u64 (roundTo s h k)) ∧ wr.frozen? ⟨bh, 0, none⟩ = false ∧ Mod (fun i => i = bh) w wr) (fun i _ => s.size - (intOf i).toNat)
  case atStart => exact ⟨0, by omega, rfl, hh, hf, Mod.refl _ _⟩
  case round =>
    obtain ⟨k, hk', rfl, hc, hf', hw⟩ := hrel
    have ck := (hw.cell 0 lk h1).trans hk
    have cm := (hw.cell 0 lm h2).trans hm
    by_cases hlt : k < s.size
    · have hb := Lib.hid (bs_getD s k hlt)
      have hwb : IntKind.u64.wrap ((s[k]'hlt).toNat : Int) = ((s[k]'hlt).toNat : Int) := by
        rw [IntKind.wrap_u64]; have := (s[k]'hlt).toNat_lt; omega
      go_wp2_with fail
      go_region_with (go_at_call 42; refine (mix_any _ _ _ wr.drew hc hf').mono ?_; rintro e w' ⟨rfl, rfl⟩)
      all_goals go_wp2
      all_goals
        go_roundw
        case rel => exact ⟨k + 1, by omega, by go_num, by rw [roundTo, hb.out]; exact World.cell?_setCell_same _ _ _ hc, by simpa using hf', (hw.setCell (.inl rfl) _).drew⟩
        case measure => simp [intOf]; omega
    · obtain rfl : k = s.size := by omega
      go_wp2_with (go_at_call 42; refine (mix_any _ _ _ _ hc hf').mono ?_; rintro e w' ⟨rfl, rfl⟩)
      go_end0
      exact ⟨rfl, World.cell?_setCell_same _ _ _ hc, by simpa using hf', hw.setCell (.inl rfl) _⟩

end Go.Proofs.Ytkkbjchoilcjlaa
