/- Layer 5: the live question. -/
import Derived.Test.YtkkbjchoilcjlaaReplyLaw
namespace Go.Proofs.Ytkkbjchoilcjlaa
open Go.RowKit

theorem h5_put : rputL 3 0 1 0 [] 0 [7] = [3, 2, 0, 7] := by kernel_rfl
theorem h5_get1 : rgetR 3 0 1 0 [] [131, 2] = (2, [], 52) := by kernel_rfl
theorem h5_get2 : rgetR 1 0 3 0 [] [1, 1, 5] = (0, [1, 0, 1], 0) := by kernel_rfl
theorem h5_get3 : rgetR 1 0 3 0 [] [1, 1, 13] = (0, [], 51) := by kernel_rfl
theorem h5_alarm : alarmL [7, 1] 1 = [135, 1] := by kernel_rfl
theorem h5_right : ansR 3 0 1 0 [] 4 [] = true := by kernel_rfl
theorem h5_right0 : ansR 3 0 1 0 [] 0 [] = false := by kernel_rfl
theorem h5_str : strOfNums [3, 2, 0, 7] = ByteArray.mk #[3, 2, 0, 7] := by kernel_rfl
theorem h5_str2 : strOfNums [135, 1] = ByteArray.mk #[135, 1] := by kernel_rfl
theorem h5_bytes : ByteL [131, 2] ∧ ByteL [1, 1, 5] ∧ ByteL [1, 1, 13] :=
  ⟨rng_of (by omega) (by omega) (by decide), rng_of (by omega) (by omega) (by decide), rng_of (by omega) (by omega) (by decide)⟩
theorem h5_vals : ∀ j : Nat, 0 ≤ ([7] : List Int)[j]?.getD 0 ∧ ([7] : List Int)[j]?.getD 0 ≤ 65535 := rng_of (by omega) (by omega) (by decide)

set_option maxHeartbeats 3200000 in
theorem replyHead_any (w : World) :
    Calls Try.prog 29 #[] w fun e w' => e = .returned (.bool true) ∧ Ext w w' := by
  obtain ⟨y1, y2, y3⟩ := h5_bytes
  have y1' := Lib.hid y1
  have y2' := Lib.hid y2
  have y3' := Lib.hid y3
  have hq : ∀ w', Ext (w.alloc (.cells #[.int .i64 3, .int .i64 0, .int .i64 1, .slice none 0 0, .int .i64 0] 34)) w' → ∀ o, w'.cell? ⟨w.heap.size, o, none⟩ = _ := fun w' D => cellsAt ((D.block w.heap.size (by simp)).trans (heap_alloc_new w _))
  have hq' := Lib.hid hq
  clear y1 y2 y3 hq
  have X0 := Ext.refl (w.alloc (.cells #[.int .i64 3, .int .i64 0, .int .i64 1, .slice none 0 0, .int .i64 0] 34))
  have E0 := (Ext.refl w).goA (.cells #[.int .i64 3, .int .i64 0, .int .i64 1, .slice none 0 0, .int .i64 0] 34)
  go_enter Try.func29, Try.ntmps29
  go_wp2_with fail
  refine (rPut_any 3 0 1 0 0 none _ 0 0 1 1 [] [7] _ (RdI.nil _) (by simp) (by decide) (by rw [alloc_size, alloc_size]; exact RdI.new [7] (by simp) rfl rfl) h5_vals (by decide)).mono ?_
  rw [h5_put]
  rintro e w1 ⟨A1, n1, c1, rfl, _, _, r1, D1⟩
  have X1 := (X0.goA _).go D1
  have q1 := hq'.out w1 X1
  go_wp2_with fail
  refine (rget_any 3 0 1 0 none _ 0 0 2 2 [] [131, 2] _ (RdI.nil _) (by simp) (by decide) (by rw [alloc_size]; exact RdI.new [131, 2] rfl rfl rfl) y1'.out (by decide) (by decide)).mono ?_
  rw [h5_get1]
  rintro e w2 ⟨A2, n2, c2, rfl, _, _, _, D2⟩
  dsimp only
  have p2 := heap_alloc_new w2 (.cells #[.int .i64 2, .slice A2 n2 c2] 50)
  go_wp2_with fail
  refine (rget_any 1 0 3 0 none _ 0 0 3 3 [] [1, 1, 5] _ (RdI.nil _) (by simp) (by decide) (by rw [alloc_size, alloc_size]; exact RdI.new [1, 1, 5] (by simp) rfl rfl) y2'.out (by decide) (by decide)).mono ?_
  rw [h5_get2]
  rintro e w3 ⟨A3, n3, c3, rfl, g3, g3', r3, D3⟩
  dsimp only at r3 ⊢
  have p3 := heap_alloc_new w3 (.cells #[.int .i64 0, .slice A3 n3 c3] 50)
  go_wp2_with fail
  refine (rget_any 1 0 3 0 none _ 0 0 3 3 [] [1, 1, 13] _ (RdI.nil _) (by simp) (by decide) (by rw [alloc_size, alloc_size]; exact RdI.new [1, 1, 13] (by simp) rfl rfl) y3'.out (by decide) (by decide)).mono ?_
  rw [h5_get3]
  rintro e w4 ⟨A4, n4, c4, rfl, _, _, _, D4⟩
  dsimp only
  go_wp2_with fail
  refine (alarm_any _ 2 2 [7, 1] 1 _ (by rw [alloc_size, alloc_size]; exact RdI.new [7, 1] (by simp) rfl rfl)).mono ?_
  rw [h5_alarm]
  rintro e w5 ⟨A5, n5, c5, rfl, _, _, r5, D5⟩
  have Y3 := (((((Ext.refl (w3.alloc (.cells #[.int .i64 0, .slice A3 n3 c3] 50))).goA _).go D4).goA _).goA _).go D5
  have Y2 := ((((Ext.refl (w2.alloc (.cells #[.int .i64 2, .slice A2 n2 c2] 50))).goA _).go D3).goA _).go Y3
  have Y1 := ((((Ext.refl w1).goA _).go D2).goA _).go Y2
  have q5 := hq'.out w5 (X1.go Y1)
  have c3' := cellsAt ((Y3.block _ (lt_of_block p3)).trans p3)
  have c2' := cellsAt ((Y2.block _ (lt_of_block p2)).trans p2)
  have b5 := (r1.ext Y1).convert Try.underlying30 Try.underlying5 Try.underlying9 c1
  rw [h5_str] at b5
  have r3' := (r3.ext ((Ext.refl w3).goA _)).ext Y3
  have G := (Ext.refl w5).goA (.cells #[.int .u16 1, .int .u16 0, .int .u16 1] 28)
  have r5' := Lib.hid r5
  clear q1 p2 p3 r1 r5
  go_wp2_with fail
  refine (sameVals_any _ _ _ _ _ _ _ _ _ _ (r3'.ext G) ((RdI.new [1, 0, 1] rfl rfl rfl).more (by rw [alloc_size]; exact Nat.le_refl _)) (Nat.le_trans g3 g3') (by decide)).mono ?_
  rintro e w6 ⟨rfl, k, rfl⟩
  rw [show decide (([1, 0, 1] : List Int) = [1, 0, 1]) = true from rfl]
  have X6 := (X1.go Y1).go (G.goD k)
  have q6 := hq'.out _ X6
  have b6 := ((r5'.out.ext (G.goD k))).convert Try.underlying30 Try.underlying5 Try.underlying9 c5
  rw [h5_str2] at b6
  go_wp2_with fail
  refine (rRight_any 3 0 1 0 4 none none 0 0 0 0 [] [] _ (RdI.nil _) (RdI.nil _) (by decide) (by decide)).mono ?_
  rw [h5_right]
  rintro e w7 ⟨rfl, D7⟩
  have q7 := hq'.out _ (X6.go D7)
  go_wp2_with fail
  refine (rRight_any 3 0 1 0 0 none none 0 0 0 0 [] [] _ (RdI.nil _) (RdI.nil _) (by decide) (by decide)).mono ?_
  rw [h5_right0]
  rintro e w8 ⟨rfl, D8⟩
  go_wp2_with fail
  go_ret
  exact ⟨rfl, ((E0.go X6).go D7).go D8⟩
end Go.Proofs.Ytkkbjchoilcjlaa
