/- Layer 15: the live question. -/
import Derived.Test.YtgeahfkhfpdlhaaBypE
import Derived.Test.YtgeahfkhfpdlhaaSameInts
namespace Go.Proofs.Ytgeahfkhfpdlhaa
open Go.RowKit

theorem h15_puts : putC [5, 0] [0, 0] 0 5 10 = 0 ∧ putE [5, 0] [0, 0] 0 5 10 = [15, 0] ∧ putC [5, 0] [15, 0] 0 1 14 = 4 ∧ putE [5, 0] [15, 0] 0 1 14 = [15, 0] ∧ putC [5, 0] [15, 0] 1 1 0 = 1 ∧ putE [5, 0] [15, 0] 1 1 0 = [15, 0]
    ∧ putC [5, 0] [15, 0] 0 6 20 = 1 ∧ putE [5, 0] [15, 0] 0 6 20 = [15, 0] ∧ putC [5, 0] [15, 0] 2 1 0 = 3 ∧ putE [5, 0] [15, 0] 2 1 0 = [15, 0] := ⟨by kernel_rfl, by kernel_rfl, by kernel_rfl, by kernel_rfl, by kernel_rfl, by kernel_rfl, by kernel_rfl, by kernel_rfl, by kernel_rfl, by kernel_rfl⟩
theorem h15_is : isB [15, 0] 0 14 = true ∧ isB [15, 0] 0 15 = false := ⟨by kernel_rfl, by kernel_rfl⟩
theorem h15_lapse : lapseL [15, 0] 14 = [] ∧ lapseE [15, 0] 14 = [15, 0] ∧ lapseL [15, 0] 15 = [0] ∧ lapseE [15, 0] 15 = [0, 0] := ⟨by kernel_rfl, by kernel_rfl, by kernel_rfl, by kernel_rfl⟩
theorem h15_rest : untilE [0, 0] 0 = 0 ∧ setE [0, 0] 0 0 = [0, 0] ∧ loadB 2 [7, 8] = true ∧ loadB 2 [] = false := ⟨by kernel_rfl, by kernel_rfl, by kernel_rfl, by kernel_rfl⟩
set_option maxRecDepth 100000 in
set_option maxHeartbeats 6400000 in
theorem bypHead_any (w : World) : Calls Try.prog 34 #[] w fun e w' => e = .returned (.bool true) ∧ Ext w w' := by
  obtain ⟨p1, p2, p3, p4, p5, p6, p7, p8, p9, p10⟩ := h15_puts
  obtain ⟨i1, i2⟩ := h15_is
  obtain ⟨l1, l2, l3, l4⟩ := h15_lapse
  obtain ⟨r1, r2, r3, r4⟩ := h15_rest
  have p1' := Lib.hid p1
  have p2' := Lib.hid p2
  have p3' := Lib.hid p3
  have p4' := Lib.hid p4
  have p5' := Lib.hid p5
  have p6' := Lib.hid p6
  have p7' := Lib.hid p7
  have p8' := Lib.hid p8
  have p9' := Lib.hid p9
  have p10' := Lib.hid p10
  have i1' := Lib.hid i1
  have i2' := Lib.hid i2
  have l1' := Lib.hid l1
  have l2' := Lib.hid l2
  have l3' := Lib.hid l3
  have l4' := Lib.hid l4
  have r1' := Lib.hid r1
  have r2' := Lib.hid r2
  have r3' := Lib.hid r3
  have r4' := Lib.hid r4
  clear p1 p2 p3 p4 p5 p6 p7 p8 p9 p10 i1 i2 l1 l2 l3 l4 r1 r2 r3 r4
  go_enter Try.func34, Try.ntmps34
  go_wp2_with fail
  have E0 := (Ext.refl w).goA (.cells #[.int .i64 5, .int .i64 0] 2)
  refine (bypNew_any _ 2 2 [5, 0] _ (RdI.new (w := w) [5, 0] rfl rfl rfl |>.more (by simp)) (by omega)).mono ?_
  rintro e w1 ⟨g, gl, gm, rfl, T1, E1, hg, hgl, hgm⟩
  have E01 := E0.go E1
  have hgm' : w.heap.size ≤ gm := by simp at hgm; omega
  have T1' : Hid (Tb w1 g gl gm 0 [5, 0] [0, 0]) := Lib.hid T1
  clear T1 hg hgl hgm E0 E1
  go_wp2_with fail
  refine (bypPut_any g gl gm 0 [5, 0] [0, 0] 0 5 10 w1 T1'.out (by decide) (by unfold maxLen; omega)).mono ?_
  rw [p1'.out, p2'.out]
  rintro e w2 ⟨rfl, T2, M2⟩
  have T2' := Lib.hid T2
  have E02 := E01.goM M2 (fun i hi => by omega)
  clear T2 M2
  go_wp2_with fail
  refine (bypPut_any g gl gm 1 [5, 0] [15, 0] 0 1 14 w2 T2'.out (by decide) (by unfold maxLen; omega)).mono ?_
  rw [p3'.out, p4'.out]
  rintro e w3 ⟨rfl, T3, M3⟩
  have T3' := Lib.hid T3
  have E03 := E02.goM M3 (fun i hi => by omega)
  clear T3 M3
  go_wp2_with fail
  refine (bypPut_any g gl gm 2 [5, 0] [15, 0] 1 1 0 w3 T3'.out (by decide) (by unfold maxLen; omega)).mono ?_
  rw [p5'.out, p6'.out]
  rintro e w4 ⟨rfl, T4, M4⟩
  have T4' := Lib.hid T4
  have E04 := E03.goM M4 (fun i hi => by omega)
  clear T4 M4
  go_wp2_with fail
  refine (bypPut_any g gl gm 3 [5, 0] [15, 0] 0 6 20 w4 T4'.out (by decide) (by unfold maxLen; omega)).mono ?_
  rw [p7'.out, p8'.out]
  rintro e w5 ⟨rfl, T5, M5⟩
  have T5' := Lib.hid T5
  have E05 := E04.goM M5 (fun i hi => by omega)
  clear T5 M5
  go_wp2_with fail
  refine (bypPut_any g gl gm 4 [5, 0] [15, 0] 2 1 0 w5 T5'.out (by decide) (by unfold maxLen; omega)).mono ?_
  rw [p9'.out, p10'.out]
  rintro e w6 ⟨rfl, T6, M6⟩
  have T6' := Lib.hid T6
  have E06 := E05.goM M6 (fun i hi => by omega)
  clear T6 M6
  go_wp2_with fail
  refine (bypIs_any g gl gm 5 [5, 0] [15, 0] 0 14 _ T6'.out (by decide)).mono ?_
  rw [i1'.out]
  rintro e w7 ⟨rfl, rfl⟩
  go_wp2_with fail
  refine (bypIs_any g gl gm 5 [5, 0] [15, 0] 0 15 _ T6'.out (by decide)).mono ?_
  rw [i2'.out]
  rintro e w7 ⟨rfl, rfl⟩
  go_wp2_with fail
  refine (bypLapse_any g gl gm 5 [5, 0] [15, 0] 14 _ T6'.out (by omega)).mono ?_
  rintro e w7 ⟨A7, n7, c7, rfl, g7, g7', r7, fr7, T7, M7⟩
  rw [l1'.out] at r7
  rw [l2'.out] at T7
  obtain rfl : n7 = 0 := r7.len.symm
  have T7' := Lib.hid T7
  have E07 := E06.goM M7 (fun i hi => by omega)
  clear T7 M7 r7 fr7
  go_wp2_with fail
  refine (bypLapse_any g gl gm 5 [5, 0] [15, 0] 15 _ T7'.out (by omega)).mono ?_
  rintro e w8 ⟨A8, n8, c8, rfl, g8, g8', r8, fr8, T8, M8⟩
  rw [l3'.out] at r8
  rw [l4'.out] at T8
  obtain rfl : n8 = 1 := r8.len.symm
  have T8' := Lib.hid T8
  have E08 := E07.goM M8 (fun i hi => by omega)
  clear T8 M8 fr8
  go_wp2_with fail
  have X8 := (Ext.refl w8).goA (.cells #[.int .i64 0] 3)
  refine (sameInts_any A8 _ 1 c8 1 1 _ [0] [0] _ (r8.ext X8) (RdI.new (w := w8) [0] rfl rfl rfl |>.more (by simp)) (by decide) (by decide)).mono ?_
  rw [show decide (([0] : List Int) = [0]) = true from rfl]
  rintro e w9 ⟨rfl, m9, rfl⟩
  have D9 := X8.goD m9
  have T9' := Lib.hid (T8'.out.ext D9)
  have E09 := E08.go D9
  clear r8 X8 D9
  generalize (w8.alloc (.cells #[.int .i64 0] 3)).drewN m9 = w9 at *
  go_wp2_with fail
  refine (bypUntil_any g gl gm 5 [5, 0] [0, 0] 0 w9 T9'.out (by decide)).mono ?_
  rw [r1'.out]
  rintro e w10 ⟨rfl, rfl⟩
  go_wp2_with fail
  refine (bypDrop_any g gl gm 5 [5, 0] [0, 0] 0 w9 T9'.out (by decide)).mono ?_
  rw [r1'.out, r2'.out]
  rintro e w10 ⟨rfl, T10, M10⟩
  have T10' := Lib.hid T10
  have E010 := E09.goM M10 (fun i hi => by omega)
  clear T10 M10
  go_wp2_with fail
  have X10 := (Ext.refl w10).goA (.cells #[.int .i64 7, .int .i64 8] 2)
  have hgmw := T10'.out.old (.inr (.inr rfl))
  refine (bypLoad_any g gl gm 5 [5, 0] [0, 0] _ 2 2 [7, 8] _ (T10'.out.ext X10) (RdI.new (w := w10) [7, 8] rfl rfl rfl |>.more (by simp)) (by omega) (fun _ b o e => by injection e with e; injection e with e; omega)).mono ?_
  rw [show ([5, 0] : List Int).length = 2 from rfl, r3'.out, if_pos rfl]
  rintro e w11 ⟨rfl, T11, M11⟩
  have T11' := Lib.hid T11
  have E011 := (E010.go X10).goM M11 (fun i hi => by omega)
  clear T11 M11 X10 hgmw
  go_wp2_with fail
  refine (bypAll_any g gl gm _ [5, 0] [7, 8] w11 T11'.out (by decide)).mono ?_
  rintro e w12 ⟨A12, n12, c12, rfl, g12, g12', r12, D12, fr12⟩
  obtain rfl : n12 = 2 := r12.len.symm
  go_wp2_with fail
  have X12 := (Ext.refl w12).goA (.cells #[.int .i64 7, .int .i64 8] 2)
  refine (same15_any A12 _ 2 c12 2 2 _ [7, 8] [7, 8] _ (r12.ext X12) (RdI.new (w := w12) [7, 8] rfl rfl rfl |>.more (by simp)) (by decide) (by decide)).mono ?_
  rw [show decide (([7, 8] : List Int) = [7, 8]) = true from rfl]
  rintro e w13 ⟨rfl, m13, rfl⟩
  have D13 := (D12.go X12).goD m13
  have T13' := Lib.hid (T11'.out.ext D13)
  have E013 := E011.go D13
  clear r12 X12 D13 D12 fr12
  generalize (w12.alloc (.cells #[.int .i64 7, .int .i64 8] 2)).drewN m13 = w13 at *
  go_wp2_with fail
  refine (bypLoad_any g gl gm _ [5, 0] [7, 8] none 0 0 [] w13 T13'.out (RdI.nil _) (by omega) (fun _ b o e => (nomatch e))).mono ?_
  rw [show ([5, 0] : List Int).length = 2 from rfl, r4'.out]
  rintro e w14 ⟨rfl, T14, M14⟩
  clear T14
  go_wp2_with fail
  go_ret
  exact ⟨rfl, E013.goM M14 (fun i hi => by omega)⟩
end Go.Proofs.Ytgeahfkhfpdlhaa
