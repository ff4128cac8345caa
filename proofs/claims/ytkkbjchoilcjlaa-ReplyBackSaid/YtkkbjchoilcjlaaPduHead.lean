/- Layer 4: the live question. -/
import Derived.Test.YtkkbjchoilcjlaaPduGetAny
import Derived.Test.YtkkbjchoilcjlaaPduPut
import Derived.Test.YtkkbjchoilcjlaaPduKindsW
import Derived.Test.YtkkbjchoilcjlaaRef04Same
namespace Go.Proofs.Ytkkbjchoilcjlaa
open Go.RowKit

theorem hd_put : putL 3 1 2 0 [] = [3, 0, 1, 0, 2] := by kernel_rfl
theorem hd_get1 : getR [15, 0, 19, 0, 10, 2, 205, 1] = (⟨15, 19, 10, 0, [1, 0, 1, 1, 0, 0, 1, 1, 1, 0]⟩, 0) := by kernel_rfl
theorem hd_get2 : getR [7] = (Rq.none, 1) := by kernel_rfl
theorem hd_get3 : getR [3, 0, 1, 0, 126] = (Rq.none, 3) := by kernel_rfl
theorem hd_get4 : getR [3, 255, 255, 0, 2] = (Rq.none, 2) := by kernel_rfl
theorem hd_right : rightB' 15 19 10 0 [1, 0, 1, 1, 0, 0, 1, 1, 1, 0] = true := by kernel_rfl
theorem hd_right0 : rightB' 0 0 0 0 [] = false := by kernel_rfl
theorem hd_str : strOfNums [3, 0, 1, 0, 2] = ByteArray.mk #[3, 0, 1, 0, 2] := by kernel_rfl
theorem hd_kinds : readsB 23 = true ∧ readsBits 23 = false ∧ writesB 5 = true ∧ writesBits 5 = true := ⟨by kernel_rfl, by kernel_rfl, by kernel_rfl, by kernel_rfl⟩

theorem nums_bytes : ByteL [15, 0, 19, 0, 10, 2, 205, 1] ∧ ByteL [7] ∧ ByteL [3, 0, 1, 0, 126] ∧ ByteL [3, 255, 255, 0, 2] :=
  ⟨rng_of (by omega) (by omega) (by decide), rng_of (by omega) (by omega) (by decide), rng_of (by omega) (by omega) (by decide), rng_of (by omega) (by omega) (by decide)⟩

set_option maxHeartbeats 3200000 in
theorem pduHead_any (w : World) :
    Calls Try.prog 20 #[] w fun e w' => e = .returned (.bool true) ∧ Ext w w' := by
  obtain ⟨y1, y2, y3, y4⟩ := nums_bytes
  have y1' := Lib.hid y1
  have y2' := Lib.hid y2
  have y3' := Lib.hid y3
  have y4' := Lib.hid y4
  clear y1 y2 y3 y4
  go_enter Try.func20, Try.ntmps20
  go_wp2_with fail
  refine (pduPut_any 3 1 2 0 none 0 0 [] w (RdI.nil _) (by simp) (by decide)).mono ?_
  rintro e w1 ⟨A1, n1, c1, rfl, _, _, r1, D1⟩
  rw [hd_put] at r1
  go_wp2_with fail
  refine (pduGet_any _ 8 8 [15, 0, 19, 0, 10, 2, 205, 1] _ (by rw [alloc_size]; exact RdI.new [15, 0, 19, 0, 10, 2, 205, 1] rfl rfl rfl) y1'.out (by decide) (by decide)).mono ?_
  rw [hd_get1]
  rintro e w2 ⟨A2, n2, c2, rfl, g1, g2, r2, D2⟩
  dsimp only at r2 ⊢
  go_wp2_with fail
  refine (pduGet_any _ 1 1 [7] _ (by rw [alloc_size, alloc_size]; exact RdI.new [7] (by simp) rfl rfl) y2'.out (by decide) (by decide)).mono ?_
  rw [hd_get2]
  rintro e w3 ⟨A3, n3, c3, rfl, _, _, _, D3⟩
  unfold Rq.none
  dsimp only
  go_wp2_with fail
  refine (pduGet_any _ 5 5 [3, 0, 1, 0, 126] _ (by rw [alloc_size, alloc_size]; exact RdI.new [3, 0, 1, 0, 126] (by simp) rfl rfl) y3'.out (by decide) (by decide)).mono ?_
  rw [hd_get3]
  rintro e w4 ⟨A4, n4, c4, rfl, _, _, _, D4⟩
  unfold Rq.none
  dsimp only
  go_wp2_with fail
  refine (pduGet_any _ 5 5 [3, 255, 255, 0, 2] _ (by rw [alloc_size, alloc_size]; exact RdI.new [3, 255, 255, 0, 2] (by simp) rfl rfl) y4'.out (by decide) (by decide)).mono ?_
  rw [hd_get4]
  rintro e w5 ⟨A5, n5, c5, rfl, _, _, _, D5⟩
  unfold Rq.none
  dsimp only
  go_wp2_with fail
  refine (reads_any 23 _).mono ?_
  rintro e w6 ⟨rfl, D6⟩
  go_wp2_with fail
  refine (writes_any 5 _).mono ?_
  rintro e w7 ⟨rfl, D7⟩
  have X2 := (((((((((((Ext.refl (w2.alloc (.cells #[.int .i64 15, .int .i64 19, .int .i64 10, .slice A2 n2 c2, .int .i64 0] 34))).goA _).go D3).goA _).goA _).go D4).goA _).goA _).go D5).goA _).go D6).go D7
  have X1 := (((Ext.refl w1).goA _).go D2).goA (.cells #[.int .i64 15, .int .i64 19, .int .i64 10, .slice A2 n2 c2, .int .i64 0] 34) |>.go X2
  have Q7 := (X2.block _ (by simp)).trans (heap_alloc_new w2 _)
  have q7 := cellsAt Q7
  have b7 := (r1.ext X1).convert Try.underlying30 Try.underlying5 Try.underlying9 c1
  rw [hd_str] at b7
  obtain ⟨k1, k2, k3, k4⟩ := hd_kinds
  have r7 := (r2.ext ((Ext.refl w2).goA _)).ext X2
  have Q7' := Lib.hid Q7
  clear Q7
  have G := (Ext.refl w7).goA (.cells #[.int .u16 1, .int .u16 0, .int .u16 1, .int .u16 1, .int .u16 0, .int .u16 0, .int .u16 1, .int .u16 1, .int .u16 1, .int .u16 0] 28)
  go_wp2_with fail
  refine (same_any _ _ _ _ _ _ _ _ _ _ _ _ _ _ _ _ _ _ (r7.ext G) ((RdI.new [1, 0, 1, 1, 0, 0, 1, 1, 1, 0] rfl rfl rfl).more (by rw [alloc_size]; exact Nat.le_refl _)) (Nat.le_refl _) (Nat.le_trans g1 g2) (by decide)).mono ?_
  rintro e w8 ⟨rfl, D8⟩
  have X3 := G.go D8
  have q8 := cellsAt ((X3.block _ (lt_of_block Q7'.out)).trans Q7'.out)
  rw [show ((15 : Int) == 15 && ((19 : Int) == 19 && ((10 : Int) == 10 && ((0 : Int) == 0 && decide ([(1 : Int), 0, 1, 1, 0, 0, 1, 1, 1, 0] = [1, 0, 1, 1, 0, 0, 1, 1, 1, 0]))))) = true by rfl]
  go_wp2_with fail
  refine (pduRight_any 15 19 10 0 A2 n2 c2 _ _ (r7.ext X3) (Nat.le_trans g1 g2)).mono ?_
  rw [hd_right]
  rintro e w9 ⟨rfl, D9⟩
  go_wp2_with fail
  refine (pduRight_any 0 0 0 0 none 0 0 [] _ (RdI.nil _) (by decide)).mono ?_
  rw [hd_right0]
  rintro e w10 ⟨rfl, D10⟩
  go_wp2_with fail
  go_ret
  exact ⟨rfl, ((((D1.go X1).go X3).go D9).go D10)⟩
end Go.Proofs.Ytkkbjchoilcjlaa
