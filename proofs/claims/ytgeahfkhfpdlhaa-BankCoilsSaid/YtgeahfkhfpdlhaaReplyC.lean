
/- Layer 5, the walks: the bytes of what was read. -/
import Derived.Test.YtgeahfkhfpdlhaaReplyA
import Derived.Test.YtgeahfkhfpdlhaaPduCoded
namespace Go.Proofs.Ytgeahfkhfpdlhaa
open Go.RowKit

theorem run_mk0 {P : Program} {t e : TypeId} {k : IntKind} {by_ : Nat} (ht : P.underlying t = some (.slice e)) (hi : (P.info? e).map (fun i => (i.zero, i.size, i.bytes)) = some (some (.int k 0), 1, by_))
    (z : Int) (n : Nat) (hz : z = n) (hb : n * by_ ≤ 281474976710656) (hn : n ≤ 9223372036854775807) (w : World) :
    (Instr.makeSlice t (.int .i64 0) (.int .i64 z)).run P w = .ok (.slice (some ⟨w.heap.size, 0, none⟩) 0 n) (w.alloc (.cells (row k (zs n)) e)) := by
  obtain ⟨i, h1, h2, h3, h4⟩ := info_parts hi
  have hh : (i.bytes : Int) * (n : Int) ≤ 281474976710656 := by
    rw [h4]
    have : ((n * by_ : Nat) : Int) ≤ 281474976710656 := by omega
    rwa [Int.natCast_mul, Int.mul_comm] at this
  subst hz
  have := run_make (P := P) w t e i _ ht h1 h2 .i64 .i64 0 (n : Int) (by omega) (by omega) hh (by omega)
  rw [h3] at this
  simpa only [Int.toNat_natCast, Int.toNat_zero, Nat.mul_one, madeCells_int] using this
theorem own_cap {w : World} {base g n : Nat} {e : TypeId} {k : IntKind} {xs : List Int} (h : Blk w g e k xs) (hb : base ≤ g) (hn : xs.length = n) (hm : n ≤ 9223372036854775807) : w.ownsRow base e 1 (.slice (some ⟨g, 0, none⟩) 0 n) 0 (([] : List Int).map (Value.int k)) := by
  subst hn
  exact ⟨by simp, .inr ⟨g, xs.length, row k xs, rfl, hb, h, Nat.zero_le _, by unfold maxLen; omega, by rw [row_size]; omega, by simp⟩⟩
/-- The bytes of what was read. -/
def bodyL (b : Bool) (ys : List Int) : List Int := if b then bitsL ys else wordsL ys

set_option maxRecDepth 100000 in
set_option maxHeartbeats 3200000 in
theorem body_any (fc ad qt to code : Int) (A A2 : Option Addr) (n c n2 c2 : Nat) (r b : Bool) (ys : List Int) (w : World) (hy : RdI w w.heap.size .u16 A2 n2 ys) (hyr : ∀ j : Nat, 0 ≤ ys[j]?.getD 0 ∧ ys[j]?.getD 0 ≤ 65535) (hn2 : n2 ≤ 3000) :
    Calls Try.prog 117 #[.agg #[.int .i64 fc, .int .i64 ad, .int .i64 qt, .slice A n c, .int .i64 to, .bool r, .bool b, .int .i64 code, .slice A2 n2 c2]] w (RetI .u8 (bodyL b ys) w) := by
  have E0 := (Ext.refl w).goA (.cells #[.int .i64 fc, .int .i64 ad, .int .i64 qt, .slice A n c, .int .i64 to, .bool r, .bool b, .int .i64 code, .slice A2 n2 c2] 140)
  have hl := Lib.hid hy.len
  have hy' := Lib.hid hy
  clear hy
  cases b
  · have hmk := fun w => run_mk0 Try.underlying33 info_u8 (2 * (n2 : Int)) (2 * n2) (by omega) (by omega) (by omega) w
    have wm : IntKind.i64.wrap (2 * (n2 : Int)) = 2 * (n2 : Int) := by rw [IntKind.wrap_i64]; omega
    have hyr' := Lib.hid hyr
    clear hyr
    go_enter Try.func117, Try.ntmps117
    go_wp2_with fail
    go_loopw [3, 23] (fun u i wr => ∃ k : Nat, k ≤ n2 ∧ i = .int .i64 k ∧ wr.ownsRow w.heap.size 5 1 u (2 * k) ((wordsL (ys.take k)).map (Value.int .u8)) ∧ Ext w wr) (fun _ i _ => n2 - (intOf i).toNat)
    case atStart =>
      have hb := (Blk.new (w.alloc (.cells #[.int .i64 fc, .int .i64 ad, .int .i64 qt, .slice A n c, .int .i64 to, .bool r, .bool false, .int .i64 code, .slice A2 n2 c2] 140)) 5 .u8 (zs (2 * n2)))
      rw [alloc_size] at hb
      exact ⟨0, by omega, rfl, by simpa [wordsL] using own_cap hb (by omega) (zs_length _) (by omega), E0.goA _⟩
    case round =>
      obtain ⟨k, hk, rfl, hown, hw⟩ := hrel
      by_cases hlt : k < n2
      · obtain ⟨bb, o, rfl, hbb, hc0⟩ := hy'.out.at_ hlt
        have hc := (hw.cell (o + k) hbb).trans hc0
        have hr0 := hyr'.out k
        have hc0' := Lib.hid hc0
        clear hc0
        go_wp2_with (at_builtin; refine wpList_appI rfl (.tmp 27) (.tmp 33) _ rfl Try.underlying33 info_u8 (hown.alloc _) rfl (RdI.pair _ _ _ _ _) rfl (by omega) (by omega) (by have := hw.size; simp; omega) ?_; intro v' w1 hown1 hg1 hat1)
        go_roundw
        case rel =>
          refine ⟨k + 1, by omega, by go_num, ?_, (hw.goA _).goG hg1 (fun g hg => (hown.lt g hg).1)⟩
          rw [wordsL_take ys k (by rw [hl.out]; exact hlt), List.getD_eq_getElem?_getD, show 2 * (k + 1) = 2 * k + 2 by omega, hiLo_small _ hr0.1 hr0.2]; exact hown1
        case measure => simp [intOf]; omega
      · obtain rfl : k = n2 := by omega
        go_wp2
        go_ret
        obtain ⟨A', c', rfl, ⟨hc1, hc2⟩, r'⟩ := own_rd hown
        rw [List.take_of_length_le (by rw [hl.out]; exact Nat.le_refl _)] at r'
        exact ⟨A', _, c', rfl, hc1, hc2, r', hw⟩
  · clear hyr
    go_enter Try.func117, Try.ntmps117
    go_wp2_with fail
    refine (bits_any A2 n2 c2 ys _ (hy'.out.ext E0) (by omega)).mono ?_
    rintro e w1 ⟨rfl, b1, D1⟩
    have r1 := b1.rd b1.lt
    have l2 : (bitsL ys).length = (n2 + 7) / 8 := by rw [← hl.out]; exact bitsTo_length _ _
    rw [l2, alloc_size] at r1
    have E1 := E0.go D1
    clear b1
    go_wp2_with fail
    go_ret
    exact ⟨_, _, _, rfl, Nat.le_refl _, by unfold maxLen; omega, r1, E1⟩
end Go.Proofs.Ytgeahfkhfpdlhaa
