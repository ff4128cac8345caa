/- The reference of layer 4: read, walked: fifteen. (Printed by wip/gen/read04.py C.) · The reference of layer 4: read, whole. · The reference of layer 4: Get, walked. -/
import Derived.Test.YtgagpalffdgjnaaRef04ReadB
import Derived.Test.YtgagpalffdgjnaaG61
import Derived.Test.YtgagpalffdgjnaaG09
namespace Go.Proofs.Ytgagpalffdgjnaa
open Go.RowKit

set_option maxRecDepth 100000 in
set_option maxHeartbeats 6400000 in
theorem read_long15 (A : Option Addr) (m c : Nat) (l : List Int) (w : World) (hx : RdI w w.heap.size .u8 A m l) (hl : ByteL l) (hm0 : 0 < m) (hm : m ≤ 9000) (hmc : m ≤ c) (_hcm : c ≤ maxLen) (hf : l.getD 0 0 = 15) (hk : 6 < m) :
    Calls Try.prog 103 #[.slice A m c] w (TakenPost (refReadR l).fc (refReadR l).ad (refReadR l).qt (refReadR l).to (refReadR l).xs w) := by
  have R0 : (w.alloc (.cells #[.int .i64 0, .int .i64 0, .int .i64 0, .slice none 0 0, .int .i64 0] 30)).heap[w.heap.size]? = some (.cells #[.int .i64 0, .int .i64 0, .int .i64 0, .slice none 0 0, .int .i64 0] 30 (0, 0)) := heap_alloc_new w _
  have E0 := (Ext.refl w).goA (.cells #[.int .i64 0, .int .i64 0, .int .i64 0, .slice none 0 0, .int .i64 0] 30)
  have hll := hx.len
  obtain ⟨bb, oo, rfl, hbb, c0⟩ := hx.at_ (j := 0) hm0
  rw [Nat.add_zero] at c0
  have x0 := hl 0
  rw [← List.getD_eq_getElem?_getD] at x0
  have w1r := wordAt_range l hl 1
  have w3r := wordAt_range l hl 3
  have w5r := wordAt_range l hl 5
  have hxl := Lib.hid (fun w' (E : Ext w w') => hx.ext E)
  have hlb := Lib.hid hl
  have hat := Lib.hid (fun w' (E : Ext w w') i (hi : i ≤ 1048576) => refAt_any (some ⟨bb, oo, none⟩) i m c w'.heap.size l w' (hx.ext E) hl hi (by unfold maxLen; omega))
  have C0 := (E0.cell oo hbb).trans c0
  have hfin : refReadR l = ⟨l.getD 0 0, wordAt l 1, wordAt l 3, 0, unbitsL (l.drop 6) (wordAt l 3).toNat⟩ := by
    unfold refReadR
    have hn : 6 < l.length := by omega
    rw [hf]
    simp [hn]
  rw [hfin]
  have hll' := Lib.hid hll
  have u0 : IntKind.i64.wrap (l.getD 0 0) = l.getD 0 0 := by rw [IntKind.wrap_i64]; omega
  have R0' := Lib.hid R0
  clear hx hl c0 hfin R0 hll
  generalize hw1 : wordAt l 1 = ad at *
  generalize hw3 : wordAt l 3 = q3 at *
  generalize hw5 : wordAt l 5 = q5 at *
  have hw1' := Lib.hid hw1
  have hw3' := Lib.hid hw3
  have hw5' := Lib.hid hw5
  clear hw1 hw3 hw5
  rw [hf] at *
  clear hf
  obtain ⟨N, hN⟩ := Int.eq_ofNat_of_zero_le w3r.1
  subst hN
  rw [Int.toNat_natCast]
  have hb8 : ByteL (l.drop 6) := fun j => by rw [List.getElem?_drop]; exact hlb.out _
  have hb8h := Lib.hid hb8
  clear hb8
  have sU : (w.alloc (.cells #[.int .i64 0, .int .i64 0, .int .i64 0, .slice none 0 0, .int .i64 0] 30)).heap.size = w.heap.size + 1 := by simp
  go_enter Try.func103, Try.ntmps103
  go_wp2_with fail
  generalize w.alloc (.cells #[.int .i64 0, .int .i64 0, .int .i64 0, .slice none 0 0, .int .i64 0] 30) = U at *
  have dU : Ext U U.drew := (Ext.refl U).god
  have Cw : ∀ w', Ext U w' → w'.cell? ⟨bb, oo, none⟩ = some (.int .u8 15) := fun w' D => (D.cell oo (by omega)).trans C0
  clear C0
  refine wp_region_held_drew (S := fun w' => Ext U w') (by kernel_rfl) dU (fun hHeld => ?_)
  refine tk 0 ?_
  try simp only [Act.put, gA, gC, List.setIfInBounds_toArray, gE, gF]
  refine tk 1 ?_
  try simp only [Act.put, gA, gB, gC, List.setIfInBounds_toArray, gE, gF]
  refine tk 2 ?_
  try simp only [Act.put, gA, gB, gC, List.setIfInBounds_toArray, gE, gF]
  refine tk 3 ?_
  try simp only [Act.put, gA, gB, gC, List.setIfInBounds_toArray, gE, gF]
  refine tk 4 ?_
  try simp only [Act.put, gA, gB, gC, List.setIfInBounds_toArray, gE, gF]
  refine wpAnyH_ready (rs := [5, 7]) (by kernel_rfl) (by simp) ?_
  refine AllReadyH.cons rfl (fun K hK => ?_) (AllReadyH.cons rfl (fun K hK => ?_) (AllReadyH.nil))
  · go_simp
    go_at_call 106
    refine (hat.out _ (E0.go dU) 1 (by omega)).mono ?_
    rw [hw1'.out]
    rintro e w3 ⟨rfl, k3, rfl⟩
    have d3 := dU.goD k3
    have d4 := (Ext.refl U).goD (1 + k3)
    try dsimp only
    refine hK.out _ _ ?_ (fun hHeld => ?_)
    · first | assumption | (dsimp only; assumption)
    clear hK K
    try simp only [Act.put, gA, gB, gC, List.setIfInBounds_toArray, gE, gF]
    refine tk 6 ?_
    try simp only [Act.put, gA, gB, gC, List.setIfInBounds_toArray, gE, gF]
    refine wpAnyH_ready (rs := [7]) (by kernel_rfl) (by simp) ?_
    refine AllReadyH.cons rfl (fun K hK => ?_) ?_
    rotate_left
    · exact AllReadyH.nil
    go_simp
    refine hK.out _ _ ?_ (fun hHeld => ?_)
    · exact d4.goA _
    clear hK K
    try simp only [Act.put, gA, gB, gC, List.setIfInBounds_toArray, gE, gF]
    refine wpAnyH_ready (rs := [8]) (by kernel_rfl) (by simp) ?_
    refine AllReadyH.cons rfl (fun K hK => ?_) ?_
    rotate_left
    · exact AllReadyH.nil
    go_simp
    refine hK.out _ _ ?_ (fun hHeld => ?_)
    · exact d4.goA _
    clear hK K
    try simp only [Act.put, gA, gB, gC, List.setIfInBounds_toArray, gE, gF]
    refine wpAnyH_done (by kernel_rfl) ?_ _
    have EV := (E0.go d4).goA (.cells #[.int .i64 15, .int .i64 ad, .int .i64 0, .slice none 0 0, .int .i64 0] 30)
    have RV := ((d4.goA (.cells #[.int .i64 15, .int .i64 ad, .int .i64 0, .slice none 0 0, .int .i64 0] 30)).block w.heap.size (by omega)).trans R0'.out
    have QV := heap_alloc_new (U.drewN (1 + k3)) (.cells #[.int .i64 15, .int .i64 ad, .int .i64 0, .slice none 0 0, .int .i64 0] 30)
    rw [show (U.drewN (1 + k3)).heap.size = w.heap.size + 1 from sU] at QV
    clear Cw R0'
    generalize (U.drewN (1 + k3)).alloc (.cells #[.int .i64 15, .int .i64 ad, .int .i64 0, .slice none 0 0, .int .i64 0] 30) = V at *
    clear d3 d4 dU
    have tl : decide (6 < m) = true := by simp; omega
    have tl2 : (6 : Int) < m := by omega
    have tl3 : 6 < m := by omega
    have p4 : ¬ c = 6 := by omega
    have p5 : 6 ≤ m := by omega
    have p6 : (6 : Int) ≤ (m : Int) := by omega
    have q0 := cellsAt QV
    have f0 := frozen_block QV
    have RV' := Lib.hid RV
    have QV' := Lib.hid QV
    clear RV QV
    go_wp2_with fail
    refine (hat.out _ EV 3 (by omega)).mono ?_
    rw [hw3'.out]
    rintro e w5 ⟨rfl, k5, e5⟩
    have D5 : Ext V w5 := e5 ▸ (Ext.refl V).goD k5
    have Q5 := (D5.block _ (lt_of_block QV'.out)).trans QV'.out
    have R5 := (D5.block _ (lt_of_block RV'.out)).trans RV'.out
    have QX : (w5.setCell ⟨w.heap.size + 1, 2, none⟩ (.int .i64 (N : Int))).heap[w.heap.size + 1]? = some (.cells #[.int .i64 15, .int .i64 ad, .int .i64 (N : Int), .slice none 0 0, .int .i64 0] 30 (0, 0)) := set_block Q5 2 (.int .i64 (N : Int))
    have RX := (Below.heap_setCell w5 ⟨w.heap.size + 1, 2, none⟩ (.int .i64 (N : Int)) w.heap.size (by simp)).trans R5
    have EX := (EV.go D5).goS (p := ⟨w.heap.size + 1, 2, none⟩) (by simp) (.int .i64 (N : Int))
    have q1 := cellsAt QX
    have q5c := cellsAt Q5
    have f5c := frozen_block Q5
    have f1 := frozen_block QX
    have QX' := Lib.hid QX
    have RX' := Lib.hid RX
    clear QX RX e5 q0 f0 D5 Q5 R5
    go_wp2_with fail
    generalize w5.setCell ⟨w.heap.size + 1, 2, none⟩ (.int .i64 (N : Int)) = VX at *
    have hQd : VX.drew.heap[w.heap.size + 1]? = some (.cells #[.int .i64 15, .int .i64 ad, .int .i64 (N : Int), .slice none 0 0, .int .i64 0] 30 (0, 0)) := QX'.out
    have bqS : VX.drew.cell? ⟨w.heap.size + 1, 2, none⟩ = some (.int .i64 (N : Int)) := cellsAt hQd 2
    have hcut := Lib.hid ((hxl.out _ EX.god).drop p5)
    have lq := lt_of_block QX'.out
    have lr := lt_of_block RX'.out
    refine wp_region_held_drew (S := fun w' => w'.cell? ⟨w.heap.size + 1, 2, none⟩ = some (.int .i64 (N : Int))) (by kernel_rfl) bqS (fun hHeld => ?_)
    refine tk 0 ?_
    try simp only [Act.put, gA, gC, List.setIfInBounds_toArray, gE, gF]
    refine tk 1 ?_
    try simp only [Act.put, gA, gB, gC, List.setIfInBounds_toArray, gE, gF]
    refine tk 2 ?_
    try simp only [Act.put, gA, gB, gC, List.setIfInBounds_toArray, gE, gF]
    refine tk 3 ?_
    try simp only [Act.put, gA, gB, gC, List.setIfInBounds_toArray, gE, gF]
    refine wpAnyH_ready (rs := [4]) (by kernel_rfl) (by simp) ?_
    refine AllReadyH.cons rfl (fun K hK => ?_) ?_
    rotate_left
    · exact AllReadyH.nil
    go_simp
    go_at_call 72
    refine (refUnbits_any _ (m - 6) _ _ N _ VX.drew hcut.out (Nat.le_refl _) hb8h.out (by unfold maxLen; omega) (by omega)).mono ?_
    rintro e w7 ⟨A7, n7, c7, rfl, g7, g7', r7, D7, fr7⟩
    have Q7 := (D7.block (w.heap.size + 1) lq).trans hQd
    have R7 := (D7.block w.heap.size lr).trans (show VX.drew.heap[w.heap.size]? = _ from RX'.out)
    have q7 := cellsAt Q7
    have f7 := frozen_block Q7
    have q72 : w7.cell? ⟨w.heap.size + 1, 2, none⟩ = some (.int .i64 (N : Int)) := q7 2
    try dsimp only
    refine hK.out _ _ ?_ (fun hHeld => ?_)
    · first | assumption | (dsimp only; assumption)
    clear hK K
    try simp only [Act.put, gA, gB, gC, List.setIfInBounds_toArray, gE, gF]
    refine tk 5 ?_
    try simp only [Act.put, gA, gB, gC, List.setIfInBounds_toArray, gE, gF]
    refine wpAnyH_ready (rs := [6]) (by kernel_rfl) (by simp) ?_
    refine AllReadyH.cons rfl (fun K hK => ?_) ?_
    rotate_left
    · exact AllReadyH.nil
    go_simp
    refine hK.out _ _ ?_ (fun hHeld => ?_)
    · exact cellsAt (set_block Q7 3 (.slice A7 n7 c7)) 2
    clear hK K
    try simp only [Act.put, gA, gB, gC, List.setIfInBounds_toArray, gE, gF]
    refine wpAnyH_done (by kernel_rfl) ?_ _
    replace fr7 : ∀ b o, A7 = some ⟨b, o, none⟩ → VX.heap.size ≤ b := fr7
    replace EX := EX.god
    have QZ : (w7.setCell ⟨w.heap.size + 1, 3, none⟩ (.slice A7 n7 c7)).heap[w.heap.size + 1]? = some (.cells #[.int .i64 15, .int .i64 ad, .int .i64 (N : Int), .slice A7 n7 c7, .int .i64 0] 30 (0, 0)) := set_block Q7 3 (.slice A7 n7 c7)
    have RZ := (Below.heap_setCell w7 ⟨w.heap.size + 1, 3, none⟩ (.slice A7 n7 c7) w.heap.size (by simp)).trans R7
    have EZ := (EX.go D7).goS (p := ⟨w.heap.size + 1, 3, none⟩) (by simp) (.slice A7 n7 c7)
    have r8 := Lib.hid (set_rd r7 (Nat.le_refl _) ⟨w.heap.size + 1, 3, none⟩ (fun _ b o e => by have := fr7 b o e; simp only; omega) (.slice A7 n7 c7))
    have q8 := cellsAt QZ
    have s8 := cellsAt RZ
    have g8 := frozen_block RZ
    have RZ' := Lib.hid RZ
    clear QZ RZ Q7 R7 r7 q7 f7 q72 bqS
    go_wp2_with fail
    obtain ⟨z0, z1, z2, z3, z4⟩ := five_reads RZ'.out (.int .i64 15) (.int .i64 ad) (.int .i64 (N : Int)) (.slice A7 n7 c7) (.int .i64 0)
    refine bodyPost_ret (v := .agg #[.int .i64 15, .int .i64 ad, .int .i64 (N : Int), .slice A7 n7 c7, .int .i64 0]) (by simp [results, Try.results103, go_sem, z0, z1, z2, z3, z4]) rfl ?_
    exact ⟨_, _, _, rfl, g7, g7', five_rd r8.out (Nat.le_refl _) _ (fun hn b o e => by have := fr7 b o e; omega) _ _ _ _ _, EZ.five (Nat.le_refl _) _ _ _ _ _, fun b o e => by have := fr7 b o e; omega⟩
  · go_simp
    refine hK.out _ _ ?_ (fun hHeld => ?_)
    · exact dU.goA _
    clear hK K
    try simp only [Act.put, gA, gB, gC, List.setIfInBounds_toArray, gE, gF]
    refine wpAnyH_ready (rs := [5]) (by kernel_rfl) (by simp) ?_
    refine AllReadyH.cons rfl (fun K hK => ?_) ?_
    rotate_left
    · exact AllReadyH.nil
    go_simp
    go_at_call 106
    refine (hat.out _ (E0.go (dU.goA _)) 1 (by omega)).mono ?_
    rw [hw1'.out]
    rintro e w3 ⟨rfl, k3, rfl⟩
    have d3 := (dU.goA (.cells #[.int .i64 0, .int .i64 0, .int .i64 0, .slice none 0 0, .int .i64 0] 30)).goD k3
    have d4 := (dU.goA (.cells #[.int .i64 0, .int .i64 0, .int .i64 0, .slice none 0 0, .int .i64 0] 30)).goD k3
    try dsimp only
    refine hK.out _ _ ?_ (fun hHeld => ?_)
    · first | assumption | (dsimp only; assumption)
    clear hK K
    try simp only [Act.put, gA, gB, gC, List.setIfInBounds_toArray, gE, gF]
    have RY := (d4.block w.heap.size (by omega)).trans R0'.out
    have QY : ((U.drew.alloc (.cells #[.int .i64 0, .int .i64 0, .int .i64 0, .slice none 0 0, .int .i64 0] 30)).drewN k3).heap[U.heap.size]? = some (.cells #[.int .i64 0, .int .i64 0, .int .i64 0, .slice none 0 0, .int .i64 0] 30 (0, 0)) := heap_alloc_new U (.cells #[.int .i64 0, .int .i64 0, .int .i64 0, .slice none 0 0, .int .i64 0] 30)
    rw [sU] at QY
    refine tk 6 ?_
    try simp only [Act.put, gA, gB, gC, List.setIfInBounds_toArray, gE, gF]
    clear Cw R0' d3
    generalize (U.drew.alloc (.cells #[.int .i64 0, .int .i64 0, .int .i64 0, .slice none 0 0, .int .i64 0] 30)).drewN k3 = Y at *
    have q0 := cellsAt QY
    have f0 := frozen_block QY
    have RY' := Lib.hid RY
    have QY' := Lib.hid QY
    clear RY QY
    refine wpAnyH_ready (rs := [8]) (by kernel_rfl) (by simp) ?_
    refine AllReadyH.cons rfl (fun K hK => ?_) ?_
    rotate_left
    · exact AllReadyH.nil
    go_simp
    refine hK.out _ _ ?_ (fun hHeld => ?_)
    · exact d4.five (by omega) _ _ _ _ _
    clear hK K
    try simp only [Act.put, gA, gB, gC, List.setIfInBounds_toArray, gE, gF]
    refine wpAnyH_done (by kernel_rfl) ?_ _
    have EV := (E0.go d4).five (i := w.heap.size + 1) (by omega) (.int .i64 15) (.int .i64 ad) (.int .i64 0) (.slice none 0 0) (.int .i64 0)
    have RV := (five_keep Y (w.heap.size + 1) w.heap.size (by omega) (.int .i64 15) (.int .i64 ad) (.int .i64 0) (.slice none 0 0) (.int .i64 0)).trans RY'.out
    have QV := five_block QY'.out (.int .i64 15) (.int .i64 ad) (.int .i64 0) (.slice none 0 0) (.int .i64 0)
    clear q0 f0
    generalize (((((Y.setCell ⟨w.heap.size + 1, 0, none⟩ (.int .i64 15)).setCell ⟨w.heap.size + 1, 1, none⟩ (.int .i64 ad)).setCell ⟨w.heap.size + 1, 2, none⟩ (.int .i64 0)).setCell ⟨w.heap.size + 1, 3, none⟩ (.slice none 0 0)).setCell ⟨w.heap.size + 1, 4, none⟩ (.int .i64 0)) = V at *
    clear d4 dU
    have tl : decide (6 < m) = true := by simp; omega
    have tl2 : (6 : Int) < m := by omega
    have tl3 : 6 < m := by omega
    have p4 : ¬ c = 6 := by omega
    have p5 : 6 ≤ m := by omega
    have p6 : (6 : Int) ≤ (m : Int) := by omega
    have q0 := cellsAt QV
    have f0 := frozen_block QV
    have RV' := Lib.hid RV
    have QV' := Lib.hid QV
    clear RV QV
    go_wp2_with fail
    refine (hat.out _ EV 3 (by omega)).mono ?_
    rw [hw3'.out]
    rintro e w5 ⟨rfl, k5, e5⟩
    have D5 : Ext V w5 := e5 ▸ (Ext.refl V).goD k5
    have Q5 := (D5.block _ (lt_of_block QV'.out)).trans QV'.out
    have R5 := (D5.block _ (lt_of_block RV'.out)).trans RV'.out
    have QX : (w5.setCell ⟨w.heap.size + 1, 2, none⟩ (.int .i64 (N : Int))).heap[w.heap.size + 1]? = some (.cells #[.int .i64 15, .int .i64 ad, .int .i64 (N : Int), .slice none 0 0, .int .i64 0] 30 (0, 0)) := set_block Q5 2 (.int .i64 (N : Int))
    have RX := (Below.heap_setCell w5 ⟨w.heap.size + 1, 2, none⟩ (.int .i64 (N : Int)) w.heap.size (by simp)).trans R5
    have EX := (EV.go D5).goS (p := ⟨w.heap.size + 1, 2, none⟩) (by simp) (.int .i64 (N : Int))
    have q1 := cellsAt QX
    have q5c := cellsAt Q5
    have f5c := frozen_block Q5
    have f1 := frozen_block QX
    have QX' := Lib.hid QX
    have RX' := Lib.hid RX
    clear QX RX e5 q0 f0 D5 Q5 R5
    go_wp2_with fail
    generalize w5.setCell ⟨w.heap.size + 1, 2, none⟩ (.int .i64 (N : Int)) = VX at *
    have hQd : VX.drew.heap[w.heap.size + 1]? = some (.cells #[.int .i64 15, .int .i64 ad, .int .i64 (N : Int), .slice none 0 0, .int .i64 0] 30 (0, 0)) := QX'.out
    have bqS : VX.drew.cell? ⟨w.heap.size + 1, 2, none⟩ = some (.int .i64 (N : Int)) := cellsAt hQd 2
    have hcut := Lib.hid ((hxl.out _ EX.god).drop p5)
    have lq := lt_of_block QX'.out
    have lr := lt_of_block RX'.out
    refine wp_region_held_drew (S := fun w' => w'.cell? ⟨w.heap.size + 1, 2, none⟩ = some (.int .i64 (N : Int))) (by kernel_rfl) bqS (fun hHeld => ?_)
    refine tk 0 ?_
    try simp only [Act.put, gA, gC, List.setIfInBounds_toArray, gE, gF]
    refine tk 1 ?_
    try simp only [Act.put, gA, gB, gC, List.setIfInBounds_toArray, gE, gF]
    refine tk 2 ?_
    try simp only [Act.put, gA, gB, gC, List.setIfInBounds_toArray, gE, gF]
    refine tk 3 ?_
    try simp only [Act.put, gA, gB, gC, List.setIfInBounds_toArray, gE, gF]
    refine wpAnyH_ready (rs := [4]) (by kernel_rfl) (by simp) ?_
    refine AllReadyH.cons rfl (fun K hK => ?_) ?_
    rotate_left
    · exact AllReadyH.nil
    go_simp
    go_at_call 72
    refine (refUnbits_any _ (m - 6) _ _ N _ VX.drew hcut.out (Nat.le_refl _) hb8h.out (by unfold maxLen; omega) (by omega)).mono ?_
    rintro e w7 ⟨A7, n7, c7, rfl, g7, g7', r7, D7, fr7⟩
    have Q7 := (D7.block (w.heap.size + 1) lq).trans hQd
    have R7 := (D7.block w.heap.size lr).trans (show VX.drew.heap[w.heap.size]? = _ from RX'.out)
    have q7 := cellsAt Q7
    have f7 := frozen_block Q7
    have q72 : w7.cell? ⟨w.heap.size + 1, 2, none⟩ = some (.int .i64 (N : Int)) := q7 2
    try dsimp only
    refine hK.out _ _ ?_ (fun hHeld => ?_)
    · first | assumption | (dsimp only; assumption)
    clear hK K
    try simp only [Act.put, gA, gB, gC, List.setIfInBounds_toArray, gE, gF]
    refine tk 5 ?_
    try simp only [Act.put, gA, gB, gC, List.setIfInBounds_toArray, gE, gF]
    refine wpAnyH_ready (rs := [6]) (by kernel_rfl) (by simp) ?_
    refine AllReadyH.cons rfl (fun K hK => ?_) ?_
    rotate_left
    · exact AllReadyH.nil
    go_simp
    refine hK.out _ _ ?_ (fun hHeld => ?_)
    · exact cellsAt (set_block Q7 3 (.slice A7 n7 c7)) 2
    clear hK K
    try simp only [Act.put, gA, gB, gC, List.setIfInBounds_toArray, gE, gF]
    refine wpAnyH_done (by kernel_rfl) ?_ _
    replace fr7 : ∀ b o, A7 = some ⟨b, o, none⟩ → VX.heap.size ≤ b := fr7
    replace EX := EX.god
    have QZ : (w7.setCell ⟨w.heap.size + 1, 3, none⟩ (.slice A7 n7 c7)).heap[w.heap.size + 1]? = some (.cells #[.int .i64 15, .int .i64 ad, .int .i64 (N : Int), .slice A7 n7 c7, .int .i64 0] 30 (0, 0)) := set_block Q7 3 (.slice A7 n7 c7)
    have RZ := (Below.heap_setCell w7 ⟨w.heap.size + 1, 3, none⟩ (.slice A7 n7 c7) w.heap.size (by simp)).trans R7
    have EZ := (EX.go D7).goS (p := ⟨w.heap.size + 1, 3, none⟩) (by simp) (.slice A7 n7 c7)
    have r8 := Lib.hid (set_rd r7 (Nat.le_refl _) ⟨w.heap.size + 1, 3, none⟩ (fun _ b o e => by have := fr7 b o e; simp only; omega) (.slice A7 n7 c7))
    have q8 := cellsAt QZ
    have s8 := cellsAt RZ
    have g8 := frozen_block RZ
    have RZ' := Lib.hid RZ
    clear QZ RZ Q7 R7 r7 q7 f7 q72 bqS
    go_wp2_with fail
    obtain ⟨z0, z1, z2, z3, z4⟩ := five_reads RZ'.out (.int .i64 15) (.int .i64 ad) (.int .i64 (N : Int)) (.slice A7 n7 c7) (.int .i64 0)
    refine bodyPost_ret (v := .agg #[.int .i64 15, .int .i64 ad, .int .i64 (N : Int), .slice A7 n7 c7, .int .i64 0]) (by simp [results, Try.results103, go_sem, z0, z1, z2, z3, z4]) rfl ?_
    exact ⟨_, _, _, rfl, g7, g7', five_rd r8.out (Nat.le_refl _) _ (fun hn b o e => by have := fr7 b o e; omega) _ _ _ _ _, EZ.five (Nat.le_refl _) _ _ _ _ _, fun b o e => by have := fr7 b o e; omega⟩
end Go.Proofs.Ytgagpalffdgjnaa
namespace Go.Proofs.Ytgagpalffdgjnaa
open Go.RowKit

theorem refRead_any (A : Option Addr) (m c : Nat) (l : List Int) (w : World) (hx : RdI w w.heap.size .u8 A m l) (hl : ByteL l) (hm0 : 0 < m) (hm : m ≤ 9000) (hmc : m ≤ c) (hcm : c ≤ maxLen) :
    Calls Try.prog 103 #[.slice A m c] w (TakenPost (refReadR l).fc (refReadR l).ad (refReadR l).qt (refReadR l).to (refReadR l).xs w) := by
  by_cases h5 : l.getD 0 0 = 5
  · by_cases hz : wordAt l 3 = 0
    · exact read_off A m c l w hx hl hm0 hm hmc hcm h5 hz
    · exact read_on A m c l w hx hl hm0 hm hmc hcm h5 hz
  by_cases h6 : l.getD 0 0 = 6
  · exact read_six A m c l w hx hl hm0 hm hmc hcm h6
  by_cases h22 : l.getD 0 0 = 22
  · exact read_mask A m c l w hx hl hm0 hm hmc hcm h22
  by_cases h15 : l.getD 0 0 = 15
  · by_cases hk : m ≤ 6
    · exact read_short15 A m c l w hx hl hm0 hm hmc hcm h15 hk
    · exact read_long15 A m c l w hx hl hm0 hm hmc hcm h15 (by omega)
  by_cases h16 : l.getD 0 0 = 16
  · by_cases hk : m ≤ 6
    · exact read_short16 A m c l w hx hl hm0 hm hmc hcm h16 hk
    · exact read_long16 A m c l w hx hl hm0 hm hmc hcm h16 (by omega)
  by_cases h23 : l.getD 0 0 = 23
  · by_cases hk : m ≤ 10
    · exact read_short23 A m c l w hx hl hm0 hm hmc hcm h23 hk
    · exact read_long23 A m c l w hx hl hm0 hm hmc hcm h23 (by omega)
  exact read_other A m c l w hx hl hm0 hm hmc hcm _ rfl h5 h6 h22 h15 h16 h23
end Go.Proofs.Ytgagpalffdgjnaa
namespace Go.Proofs.Ytgagpalffdgjnaa
open Go.RowKit

set_option maxRecDepth 100000 in
set_option maxHeartbeats 1600000 in
theorem ref04Get_empty (A : Option Addr) (c : Nat) (w : World) :
    Calls Try.prog 65 #[.slice A 0 c] w (GetPost 0 0 0 0 [] 1 w) := by
  have h0 : (w.alloc (.cells #[.int .i64 0, .int .i64 0, .int .i64 0, .slice none 0 0, .int .i64 0] 30)).heap[w.heap.size]? = some (.cells #[.int .i64 0, .int .i64 0, .int .i64 0, .slice none 0 0, .int .i64 0] 30 (0, 0)) := heap_alloc_new w _
  have E1 := (Ext.refl w).goA (.cells #[.int .i64 0, .int .i64 0, .int .i64 0, .slice none 0 0, .int .i64 0] 30)
  have h0' := Lib.hid h0
  clear h0
  go_enter Try.func65, Try.ntmps65
  go_wp2_with fail
  have z := cellsAt h0'.out
  refine bodyPost_ret (v := .tuple #[.agg #[.int .i64 0, .int .i64 0, .int .i64 0, .slice none 0 0, .int .i64 0], .int .i64 1]) (by simp [results, Try.results65, go_sem, z]) rfl ?_
  exact ⟨_, _, _, rfl, Nat.le_refl _, by decide, RdI.nil _, E1, fun b o e => (nomatch e)⟩
set_option maxRecDepth 100000 in
set_option maxHeartbeats 1600000 in
theorem ref04Get_none (A : Option Addr) (n c : Nat) (l : List Int) (w : World) (hx : RdI w w.heap.size .u8 A n l) (hl : ByteL l) (hn : 0 < n) (hs : mostV (l.getD 0 0) = 0) :
    Calls Try.prog 65 #[.slice A n c] w (GetPost 0 0 0 0 [] 1 w) := by
  have h0 : (w.alloc (.cells #[.int .i64 0, .int .i64 0, .int .i64 0, .slice none 0 0, .int .i64 0] 30)).heap[w.heap.size]? = some (.cells #[.int .i64 0, .int .i64 0, .int .i64 0, .slice none 0 0, .int .i64 0] 30 (0, 0)) := heap_alloc_new w _
  have E1 := (Ext.refl w).goA (.cells #[.int .i64 0, .int .i64 0, .int .i64 0, .slice none 0 0, .int .i64 0] 30)
  obtain ⟨bb, o, rfl, hb, hc⟩ := hx.at_ hn
  rw [Nat.add_zero] at hc
  have c0 := (E1.cell o hb).trans hc
  have x0 := hl 0
  rw [← List.getD_eq_getElem?_getD] at x0
  have hmost := fun w' => most_any (l.getD 0 0) w'
  generalize l.getD 0 0 = x at *
  rw [hs] at hmost
  have hmost' := Lib.hid hmost
  have x1 : IntKind.i64.wrap x = x := by rw [IntKind.wrap_i64]; omega
  have h1 : (0 : Int) < n := by omega
  have h2 : ((n : Int) == 0) = false := by simp; omega
  have h0' := Lib.hid h0
  clear h0 hx hl hs hmost hc
  go_enter Try.func65, Try.ntmps65
  go_wp2_with fail
  refine (hmost'.out _).mono ?_
  rintro e w1 ⟨rfl, rfl⟩
  go_wp2_with fail
  have z := cellsAt h0'.out
  refine bodyPost_ret (v := .tuple #[.agg #[.int .i64 0, .int .i64 0, .int .i64 0, .slice none 0 0, .int .i64 0], .int .i64 1]) (by simp [results, Try.results65, go_sem, z]) rfl ?_
  exact ⟨_, _, _, rfl, Nat.le_refl _, by decide, RdI.nil _, E1, fun b o e => (nomatch e)⟩
set_option maxRecDepth 100000 in
set_option maxHeartbeats 3200000 in
theorem ref04Get_walk (x ad qt to : Int) (L C : List Int) (vh ve vf : Bool) (A : Option Addr) (n c : Nat) (l : List Int) (w : World) (P : Ending → World → Prop) (hm : mostV x ≠ 0)
    (hx : RdI w w.heap.size .u8 A n l) (hn : 0 < n) (ex : l.getD 0 0 = x) (x0 : 0 ≤ x ∧ x ≤ 255)
    (ht : ∀ w', Ext w w' → Calls Try.prog 103 #[.slice A n c] w' (TakenPost x ad qt to L w'))
    (hh : ∀ (A' : Option Addr) (n' c' : Nat) (w' : World), RdI w' w'.heap.size .u16 A' n' L → n' ≤ maxLen → Calls Try.prog 60 #[.agg #[.int .i64 x, .int .i64 ad, .int .i64 qt, .slice A' n' c', .int .i64 to]] w' fun e w2 => e = .returned (.bool vh) ∧ Ext w' w2)
    (hd : vh = true → ∀ (A' : Option Addr) (n' c' : Nat) (w' : World), RdI w' w'.heap.size .u16 A' n' L → Calls Try.prog 51 #[.agg #[.int .i64 x, .int .i64 ad, .int .i64 qt, .slice A' n' c', .int .i64 to]] w' (RetI .u8 C w'))
    (he : ((strOfNums C).toList == (strOfNums l).toList) = ve)
    (hf : vh = true → ∀ (A' : Option Addr) (n' c' : Nat) (w' : World), L.length = n' → Calls Try.prog 61 #[.agg #[.int .i64 x, .int .i64 ad, .int .i64 qt, .slice A' n' c', .int .i64 to]] w' fun e w2 => e = .returned (.bool vf) ∧ Ext w' w2)
    (hP1 : (vh && ve) = false → ∀ e w', GetPost 0 0 0 0 [] 3 w e w' → P e w')
    (hP2 : (vh && ve) = true → vf = false → ∀ e w', GetPost 0 0 0 0 [] 2 w e w' → P e w')
    (hP3 : (vh && ve) = true → vf = true → ∀ e w', GetPost x ad qt to L 0 w e w' → P e w') :
    Calls Try.prog 65 #[.slice A n c] w P := by
  have E1 := (Ext.refl w).goA (.cells #[.int .i64 0, .int .i64 0, .int .i64 0, .slice none 0 0, .int .i64 0] 30)
  have F1 := Ext.refl (w.alloc (.cells #[.int .i64 0, .int .i64 0, .int .i64 0, .slice none 0 0, .int .i64 0] 30))
  have hx' := Lib.hid hx
  obtain ⟨bb, o, rfl, hb, hc⟩ := hx.at_ hn
  rw [Nat.add_zero, ex] at hc
  have c0 := (E1.cell o hb).trans hc
  have hmost := fun w' => most_any x w'
  generalize mostV x = M at *
  have t0 : (M == 0) = false := by simp; exact hm
  have x1 : IntKind.i64.wrap x = x := by rw [IntKind.wrap_i64]; omega
  have h1 : (0 : Int) < n := by omega
  have h2 : ((n : Int) == 0) = false := by simp; omega
  have ht' := Lib.hid ht
  have hh' := Lib.hid hh
  have hd' := Lib.hid hd
  have he' := Lib.hid he
  have hf' := Lib.hid hf
  have hP1' := Lib.hid hP1
  have hP2' := Lib.hid hP2
  have hP3' := Lib.hid hP3
  have hmost' := Lib.hid hmost
  clear hx ex x0 ht hh hd he hf hP1 hP2 hP3 hmost hm hc
  go_enter Try.func65, Try.ntmps65
  go_wp2_with fail
  refine (hmost'.out _).mono ?_
  rintro e w1 ⟨rfl, rfl⟩
  clear c0
  go_wp2_with fail
  refine (ht'.out _ E1).mono ?_
  rintro e w1 ⟨A', n', c', rfl, g1, g2, r1, D1, fr1⟩
  have E3 := E1.go D1
  have hR := (D1.block w.heap.size (by simp)).trans (heap_alloc_new w _)
  have nm : n' ≤ maxLen := Nat.le_trans g1 g2
  have G4 := (Ext.refl w1).goA (.cells #[.int .i64 x, .int .i64 ad, .int .i64 qt, .slice A' n' c', .int .i64 to] 30)
  have E4 := E3.goA (.cells #[.int .i64 x, .int .i64 ad, .int .i64 qt, .slice A' n' c', .int .i64 to] 30)
  have hQ := heap_alloc_new w1 (.cells #[.int .i64 x, .int .i64 ad, .int .i64 qt, .slice A' n' c', .int .i64 to] 30)
  have hR' := Lib.hid ((G4.block _ (lt_of_block hR)).trans hR)
  have hQ' := Lib.hid hQ
  have r1' := Lib.hid (r1.ext G4)
  have rl := Lib.hid r1.len
  clear hR hQ r1 F1
  go_wp2_with fail
  generalize w1.alloc (.cells #[.int .i64 x, .int .i64 ad, .int .i64 qt, .slice A' n' c', .int .i64 to] 30) = W at *
  have dV : Ext W W.drew := (Ext.refl _).god
  have bq : ∀ w', Ext W w' → ∀ o, w'.cell? ⟨w1.heap.size, o, none⟩ = _ := fun w' D => cellsAt ((D.block _ (lt_of_block hQ'.out)).trans hQ'.out)
  have hcv : ∀ w', Ext W w' → Sem.run Try.prog (convert 34 9 (.slice (some ⟨bb, o, none⟩) n c)) w' = .ok (.string (strOfNums l)) w' := fun w' h => (hx'.out.ext (E4.go h)).convert Try.underlying34 Try.underlying5 Try.underlying9 c
  cases hvh : vh
  · refine wp_region_held_drew (S := fun w' => Ext W w') (by kernel_rfl) dV (fun hHeld => ?_)
    refine tk 0 ?_
    try simp only [Act.put, gA, gC, List.setIfInBounds_toArray, gE, gF]
    refine wpAnyH_ready (rs := [1]) (by kernel_rfl) (by simp) ?_
    refine AllReadyH.cons rfl (fun K hK => ?_) ?_
    rotate_left
    · exact AllReadyH.nil
    go_simp
    go_at_call 60
    refine (hh'.out A' n' c' _ (r1'.out.ext dV) nm).mono ?_
    rw [hvh]
    rintro e w9 ⟨rfl, D9⟩
    have d9 := dV.go D9
    try dsimp only
    refine hK.out _ _ ?_ (fun hHeld => ?_)
    · first | assumption | (dsimp only; assumption)
    clear hK K
    try simp only [Act.put, gA, gB, gC, List.setIfInBounds_toArray, gE, gF]
    refine tk 2 ?_
    try simp only [Act.put, gA, gB, gC, List.setIfInBounds_toArray, gE, gF]
    refine tk 3 ?_
    try simp only [Act.put, gA, gB, gC, List.setIfInBounds_toArray, gE, gF]
    refine skH 4 ?_
    try simp only [Act.put, gA, gB, gC, List.setIfInBounds_toArray, gE, gF]
    refine skH 5 ?_
    try simp only [Act.put, gA, gB, gC, List.setIfInBounds_toArray, gE, gF]
    refine skH 6 ?_
    try simp only [Act.put, gA, gB, gC, List.setIfInBounds_toArray, gE, gF]
    refine skH 7 ?_
    try simp only [Act.put, gA, gB, gC, List.setIfInBounds_toArray, gE, gF]
    refine skH 8 ?_
    try simp only [Act.put, gA, gB, gC, List.setIfInBounds_toArray, gE, gF]
    refine skH 9 ?_
    try simp only [Act.put, gA, gB, gC, List.setIfInBounds_toArray, gE, gF]
    refine tk 10 ?_
    try simp only [Act.put, gA, gB, gC, List.setIfInBounds_toArray, gE, gF]
    refine wpAnyH_done (by kernel_rfl) ?_ _
    have R2 := (d9.block _ (lt_of_block hR'.out)).trans hR'.out
    have f2 := frozen_block R2
    have p2 := cellsAt R2
    have R2' := Lib.hid R2
    clear R2 hcv bq
    go_wp2_with fail
    obtain ⟨z0, z1, z2, z3, z4⟩ := five_reads R2'.out (.int .i64 0) (.int .i64 0) (.int .i64 0) (.slice none 0 0) (.int .i64 0)
    refine bodyPost_ret (v := .tuple #[.agg #[.int .i64 0, .int .i64 0, .int .i64 0, .slice none 0 0, .int .i64 0], .int .i64 3]) (by simp [results, Try.results65, go_sem, z0, z1, z2, z3, z4]) rfl ?_
    exact hP1'.out (by rw [hvh]; rfl) _ _ ⟨_, _, _, rfl, Nat.le_refl _, by decide, RdI.nil _, (E4.go d9).five (by simp) _ _ _ _ _, fun b o e => (nomatch e)⟩
  · cases hve : ve
    · have hw := he'.out
      rw [hve] at hw
      have hw2 : ((strOfNums C).toList != (strOfNums l).toList) = true := by rw [bne, hw]; rfl
      refine wp_region_held_drew (S := fun w' => Ext W w') (by kernel_rfl) dV (fun hHeld => ?_)
      refine tk 0 ?_
      try simp only [Act.put, gA, gC, List.setIfInBounds_toArray, gE, gF]
      refine wpAnyH_ready (rs := [1]) (by kernel_rfl) (by simp) ?_
      refine AllReadyH.cons rfl (fun K hK => ?_) ?_
      rotate_left
      · exact AllReadyH.nil
      go_simp
      go_at_call 60
      refine (hh'.out A' n' c' _ (r1'.out.ext dV) nm).mono ?_
      rw [hvh]
      rintro e w9 ⟨rfl, D9⟩
      have d9 := dV.go D9
      try dsimp only
      refine hK.out _ _ ?_ (fun hHeld => ?_)
      · first | assumption | (dsimp only; assumption)
      clear hK K
      try simp only [Act.put, gA, gB, gC, List.setIfInBounds_toArray, gE, gF]
      refine tk 2 ?_
      try simp only [Act.put, gA, gB, gC, List.setIfInBounds_toArray, gE, gF]
      refine tk 3 ?_
      try simp only [Act.put, gA, gB, gC, List.setIfInBounds_toArray, gE, gF]
      refine tk 4 ?_
      try simp only [Act.put, gA, gB, gC, List.setIfInBounds_toArray, gE, gF]
      refine tk 7 ?_
      try simp only [Act.put, gA, gB, gC, List.setIfInBounds_toArray, gE, gF]
      refine tk 8 ?_
      try simp only [Act.put, gA, gB, gC, List.setIfInBounds_toArray, gE, gF]
      refine wpAnyH_ready (rs := [5]) (by kernel_rfl) (by simp) ?_
      refine AllReadyH.cons rfl (fun K hK => ?_) ?_
      rotate_left
      · exact AllReadyH.nil
      go_simp
      go_at_call 51
      refine (hd'.out hvh A' n' c' _ (r1'.out.ext d9)).mono ?_
      rintro e w10 ⟨A10, n10, c10, rfl, _, _, r10, D10⟩
      have d10 := d9.go D10
      have cs10 := r10.convert Try.underlying34 Try.underlying5 Try.underlying9 c10
      clear r10
      try dsimp only
      refine hK.out _ _ ?_ (fun hHeld => ?_)
      · first | assumption | (dsimp only; assumption)
      clear hK K
      try simp only [Act.put, gA, gB, gC, List.setIfInBounds_toArray, gE, gF]
      refine wpAnyH_ready (rs := [6]) (by kernel_rfl) (by simp) ?_
      refine AllReadyH.cons rfl (fun K hK => ?_) ?_
      rotate_left
      · exact AllReadyH.nil
      go_simp
      refine hK.out _ _ ?_ (fun hHeld => ?_)
      · first | assumption | (dsimp only; assumption)
      clear hK K
      try simp only [Act.put, gA, gB, gC, List.setIfInBounds_toArray, gE, gF]
      refine tk 9 ?_
      try simp only [Act.put, gA, gB, gC, List.setIfInBounds_toArray, gE, gF]
      refine tk 10 ?_
      try simp only [Act.put, gA, gB, gC, List.setIfInBounds_toArray, gE, gF]
      refine wpAnyH_done (by kernel_rfl) ?_ _
      have R2 := (d10.block _ (lt_of_block hR'.out)).trans hR'.out
      have f2 := frozen_block R2
      have p2 := cellsAt R2
      have R2' := Lib.hid R2
      clear R2 hcv bq cs10
      go_wp2_with fail
      obtain ⟨z0, z1, z2, z3, z4⟩ := five_reads R2'.out (.int .i64 0) (.int .i64 0) (.int .i64 0) (.slice none 0 0) (.int .i64 0)
      refine bodyPost_ret (v := .tuple #[.agg #[.int .i64 0, .int .i64 0, .int .i64 0, .slice none 0 0, .int .i64 0], .int .i64 3]) (by simp [results, Try.results65, go_sem, z0, z1, z2, z3, z4]) rfl ?_
      exact hP1'.out (by rw [hvh, hve]; rfl) _ _ ⟨_, _, _, rfl, Nat.le_refl _, by decide, RdI.nil _, (E4.go d10).five (by simp) _ _ _ _ _, fun b o e => (nomatch e)⟩
    · have hw := he'.out
      rw [hve] at hw
      have hw2 : ((strOfNums C).toList != (strOfNums l).toList) = false := by rw [bne, hw]; rfl
      refine wp_region_held_drew (S := fun w' => Ext W w') (by kernel_rfl) dV (fun hHeld => ?_)
      refine tk 0 ?_
      try simp only [Act.put, gA, gC, List.setIfInBounds_toArray, gE, gF]
      refine wpAnyH_ready (rs := [1]) (by kernel_rfl) (by simp) ?_
      refine AllReadyH.cons rfl (fun K hK => ?_) ?_
      rotate_left
      · exact AllReadyH.nil
      go_simp
      go_at_call 60
      refine (hh'.out A' n' c' _ (r1'.out.ext dV) nm).mono ?_
      rw [hvh]
      rintro e w9 ⟨rfl, D9⟩
      have d9 := dV.go D9
      try dsimp only
      refine hK.out _ _ ?_ (fun hHeld => ?_)
      · first | assumption | (dsimp only; assumption)
      clear hK K
      try simp only [Act.put, gA, gB, gC, List.setIfInBounds_toArray, gE, gF]
      refine tk 2 ?_
      try simp only [Act.put, gA, gB, gC, List.setIfInBounds_toArray, gE, gF]
      refine tk 3 ?_
      try simp only [Act.put, gA, gB, gC, List.setIfInBounds_toArray, gE, gF]
      refine tk 4 ?_
      try simp only [Act.put, gA, gB, gC, List.setIfInBounds_toArray, gE, gF]
      refine tk 7 ?_
      try simp only [Act.put, gA, gB, gC, List.setIfInBounds_toArray, gE, gF]
      refine tk 8 ?_
      try simp only [Act.put, gA, gB, gC, List.setIfInBounds_toArray, gE, gF]
      refine wpAnyH_ready (rs := [5]) (by kernel_rfl) (by simp) ?_
      refine AllReadyH.cons rfl (fun K hK => ?_) ?_
      rotate_left
      · exact AllReadyH.nil
      go_simp
      go_at_call 51
      refine (hd'.out hvh A' n' c' _ (r1'.out.ext d9)).mono ?_
      rintro e w10 ⟨A10, n10, c10, rfl, _, _, r10, D10⟩
      have d10 := d9.go D10
      have cs10 := r10.convert Try.underlying34 Try.underlying5 Try.underlying9 c10
      clear r10
      try dsimp only
      refine hK.out _ _ ?_ (fun hHeld => ?_)
      · first | assumption | (dsimp only; assumption)
      clear hK K
      try simp only [Act.put, gA, gB, gC, List.setIfInBounds_toArray, gE, gF]
      refine wpAnyH_ready (rs := [6]) (by kernel_rfl) (by simp) ?_
      refine AllReadyH.cons rfl (fun K hK => ?_) ?_
      rotate_left
      · exact AllReadyH.nil
      go_simp
      refine hK.out _ _ ?_ (fun hHeld => ?_)
      · first | assumption | (dsimp only; assumption)
      clear hK K
      try simp only [Act.put, gA, gB, gC, List.setIfInBounds_toArray, gE, gF]
      refine tk 9 ?_
      try simp only [Act.put, gA, gB, gC, List.setIfInBounds_toArray, gE, gF]
      refine tk 10 ?_
      try simp only [Act.put, gA, gB, gC, List.setIfInBounds_toArray, gE, gF]
      refine wpAnyH_done (by kernel_rfl) ?_ _
      have q10 := bq w10 d10
      clear hcv bq cs10
      go_wp2_with fail
      refine (hf'.out hvh A' n' c' _ rl.out).mono ?_
      rintro e w5 ⟨rfl, D5⟩
      have d5 := d10.go D5
      have R5 := (d5.block _ (lt_of_block hR'.out)).trans hR'.out
      have Q5 := (d5.block _ (lt_of_block hQ'.out)).trans hQ'.out
      have f5 := frozen_block R5
      have p5 := cellsAt R5
      have q5 := cellsAt Q5
      have R5' := Lib.hid R5
      clear R5 Q5 q10
      cases hvf : vf
      · go_wp2_with fail
        obtain ⟨z0, z1, z2, z3, z4⟩ := five_reads R5'.out (.int .i64 0) (.int .i64 0) (.int .i64 0) (.slice none 0 0) (.int .i64 0)
        refine bodyPost_ret (v := .tuple #[.agg #[.int .i64 0, .int .i64 0, .int .i64 0, .slice none 0 0, .int .i64 0], .int .i64 2]) (by simp [results, Try.results65, go_sem, z0, z1, z2, z3, z4]) rfl ?_
        exact hP2'.out (by rw [hvh, hve]; rfl) hvf _ _ ⟨_, _, _, rfl, Nat.le_refl _, by decide, RdI.nil _, (E4.go d5).five (by simp) _ _ _ _ _, fun b o e => (nomatch e)⟩
      · go_wp2_with fail
        obtain ⟨z0, z1, z2, z3, z4⟩ := five_reads R5'.out (.int .i64 x) (.int .i64 ad) (.int .i64 qt) (.slice A' n' c') (.int .i64 to)
        refine bodyPost_ret (v := .tuple #[.agg #[.int .i64 x, .int .i64 ad, .int .i64 qt, .slice A' n' c', .int .i64 to], .int .i64 0]) (by simp [results, Try.results65, go_sem, z0, z1, z2, z3, z4]) rfl ?_
        have r5 := r1'.out.ext d5
        exact hP3'.out (by rw [hvh, hve]; rfl) hvf _ _ ⟨_, _, _, rfl, g1, g2, five_rd r5 (Nat.le_refl _) _ (zero_far R5'.out r5) _ _ _ _ _, (E4.go d5).five (by simp) _ _ _ _ _, fun b o e => by have := fr1 b o e; simp at this; omega⟩
theorem most_shape (x : Int) : (mostV x = 0) ↔ shapeOf x = none := by
  rcases fc_cases x with h | rfl | rfl | rfl | rfl | rfl | rfl | rfl | rfl | rfl | rfl
  · have hm : mostV x = 0 := by unfold mostV; rw [if_neg (by omega), if_neg (by omega), if_neg (by omega), if_neg (by omega), if_neg (by omega)]
    refine ⟨fun _ => ?_, fun _ => hm⟩
    cases hs : shapeOf x with
    | none => rfl
    | some s => rcases shape_cases hs with ⟨e, _⟩ | ⟨e, _⟩ | ⟨e, _⟩ | ⟨e, _⟩ | ⟨e, _⟩ | ⟨e, _⟩ | ⟨e, _⟩ | ⟨e, _⟩ <;> omega
  all_goals exact ⟨fun h => absurd h (by decide), fun h => absurd h (by decide)⟩
theorem ref04Get_any (A : Option Addr) (n c : Nat) (l : List Int) (w : World) (hx : RdI w w.heap.size .u8 A n l) (hl : ByteL l) (hm : n ≤ 9000) (hnc : n ≤ c) (hcm : c ≤ maxLen) :
    Calls Try.prog 65 #[.slice A n c] w (GetPost (getR l).1.fc (getR l).1.ad (getR l).1.qt (getR l).1.to (getR l).1.xs (getR l).2 w) := by
  rw [← refGet_eq l hl]
  have hlen := hx.len
  rcases Nat.eq_zero_or_pos n with h0 | h0
  · subst h0
    have e : refGetR l = (Rq.none, 1) := by unfold refGetR; rw [if_pos hlen]
    rw [e]
    exact ref04Get_empty A c w
  · cases hs : shapeOf (l.getD 0 0) with
    | none =>
      have e : refGetR l = (Rq.none, 1) := by unfold refGetR; rw [if_neg (by omega), hs]
      rw [e]
      exact ref04Get_none A n c l w hx hl h0 ((most_shape _).2 hs)
    | some s =>
      have hsv : ∀ qt, shapeHB (l.getD 0 0) (refReadR l).ad qt (refReadR l).to (refReadR l).xs = holdsB s (refReadR l).ad qt (refReadR l).to (refReadR l).xs := fun qt => by unfold shapeHB; rw [hs]
      have e : refGetR l = if (holdsB s (refReadR l).ad (refReadR l).qt (refReadR l).to (refReadR l).xs && ((strOfNums (codedL s (refReadR l).fc (refReadR l).ad (refReadR l).qt (refReadR l).to (refReadR l).xs)).toList == (strOfNums l).toList)) = true
          then (if fitsB (refReadR l).ad (refReadR l).qt (refReadR l).to (refReadR l).xs.length then (refReadR l, 0) else (Rq.none, 2)) else (Rq.none, 3) := by unfold refGetR; rw [if_neg (by omega), hs]
      have x0 := hl 0
      rw [← List.getD_eq_getElem?_getD] at x0
      have b := shape_bounds hs
      have hrr := refRead_range l hl
      refine ref04Get_walk (l.getD 0 0) (refReadR l).ad (refReadR l).qt (refReadR l).to (refReadR l).xs (codedL s (l.getD 0 0) (refReadR l).ad (refReadR l).qt (refReadR l).to (refReadR l).xs)
        (holdsB s (refReadR l).ad (refReadR l).qt (refReadR l).to (refReadR l).xs) _ (fitsB (refReadR l).ad (refReadR l).qt (refReadR l).to (refReadR l).xs.length) A n c l w _ (fun h => by rw [(most_shape _).1 h] at hs; cases hs) hx h0 rfl x0 ?_ ?_ ?_ rfl ?_ ?_ ?_ ?_
      · exact fun w' E => refRead_any A n c l w' (hx.ext E) hl h0 hm hnc hcm
      · exact fun A' n' c' w' r hn => by
          have := shape04_any (l.getD 0 0) (refReadR l).ad (refReadR l).qt (refReadR l).to A' n' c' (refReadR l).xs w' r hn
          rwa [hsv] at this
      · exact fun h A' n' c' w' r => refBytes_any s _ _ _ _ hs A' n' c' _ w' r hrr h
      · intro h A' n' c' w' hn
        obtain ⟨⟨a0, a1⟩, ⟨t0, t1⟩, ⟨q0, q1⟩, _, _, _⟩ := holds_parts h
        have h3 := holds_len b h
        have b2 := b.2.2.1
        have := ends04_any (l.getD 0 0) (refReadR l).ad (refReadR l).qt (refReadR l).to A' n' c' w' ⟨a0, by omega⟩ ⟨t0, by omega⟩ ⟨q0, by omega⟩ (by omega)
        rw [← hn] at this
        rw [ends_fits (by rw [hsv]; exact h)] at this
        rw [← hn]
        exact this
      · intro h e' w' hp
        rw [e, if_neg (by rw [show (refReadR l).fc = l.getD 0 0 from rfl, h]; decide)]
        exact hp
      · intro h h2 e' w' hp
        rw [e, if_pos (by rw [show (refReadR l).fc = l.getD 0 0 from rfl]; exact h), if_neg (by rw [h2]; decide)]
        exact hp
      · intro h h2 e' w' hp
        rw [e, if_pos (by rw [show (refReadR l).fc = l.getD 0 0 from rfl]; exact h), if_pos h2]
        exact hp
end Go.Proofs.Ytgagpalffdgjnaa
