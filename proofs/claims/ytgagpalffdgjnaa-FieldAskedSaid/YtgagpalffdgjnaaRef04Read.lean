/- The reference of layer 4: read, walked. (Printed by wip/gen/read04.py.) -/
import Derived.Test.YtgagpalffdgjnaaRef04Law
import Derived.Test.YtgagpalffdgjnaaG61
import Derived.StillTailTactics
namespace Go.Proofs.Ytgagpalffdgjnaa
open Go.RowKit

theorem five_block {w : World} {i : Nat} {t : TypeId} {a0 a1 a2 a3 a4 : Value} (h : w.heap[i]? = some (.cells #[a0, a1, a2, a3, a4] t (0, 0))) (b0 b1 b2 b3 b4 : Value) :
    (((((w.setCell ⟨i, 0, none⟩ b0).setCell ⟨i, 1, none⟩ b1).setCell ⟨i, 2, none⟩ b2).setCell ⟨i, 3, none⟩ b3).setCell ⟨i, 4, none⟩ b4).heap[i]? = some (.cells #[b0, b1, b2, b3, b4] t (0, 0)) := by
  have h0 : (w.setCell ⟨i, 0, none⟩ b0).heap[i]? = some (.cells #[b0, a1, a2, a3, a4] t (0, 0)) := set_block h 0 b0
  have h1 : ((w.setCell ⟨i, 0, none⟩ b0).setCell ⟨i, 1, none⟩ b1).heap[i]? = some (.cells #[b0, b1, a2, a3, a4] t (0, 0)) := set_block h0 1 b1
  have h2 : (((w.setCell ⟨i, 0, none⟩ b0).setCell ⟨i, 1, none⟩ b1).setCell ⟨i, 2, none⟩ b2).heap[i]? = some (.cells #[b0, b1, b2, a3, a4] t (0, 0)) := set_block h1 2 b2
  have h3 : ((((w.setCell ⟨i, 0, none⟩ b0).setCell ⟨i, 1, none⟩ b1).setCell ⟨i, 2, none⟩ b2).setCell ⟨i, 3, none⟩ b3).heap[i]? = some (.cells #[b0, b1, b2, b3, a4] t (0, 0)) := set_block h2 3 b3
  have h4 : (((((w.setCell ⟨i, 0, none⟩ b0).setCell ⟨i, 1, none⟩ b1).setCell ⟨i, 2, none⟩ b2).setCell ⟨i, 3, none⟩ b3).setCell ⟨i, 4, none⟩ b4).heap[i]? = some (.cells #[b0, b1, b2, b3, b4] t (0, 0)) := set_block h3 4 b4
  exact h4
set_option maxRecDepth 100000 in
set_option maxHeartbeats 6400000 in
theorem read_other (A : Option Addr) (m c : Nat) (l : List Int) (w : World) (hx : RdI w w.heap.size .u8 A m l) (hl : ByteL l) (hm0 : 0 < m) (hm : m ≤ 9000) (_hmc : m ≤ c) (_hcm : c ≤ maxLen) (x : Int) (hf : l.getD 0 0 = x) (h5 : x ≠ 5) (h6 : x ≠ 6) (h22 : x ≠ 22) (h15 : x ≠ 15) (h16 : x ≠ 16) (h23 : x ≠ 23) :
    Calls Try.prog 103 #[.slice A m c] w (TakenPost (refReadR l).fc (refReadR l).ad (refReadR l).qt (refReadR l).to (refReadR l).xs w) := by
  have R0 : (w.alloc (.cells #[.int .i64 0, .int .i64 0, .int .i64 0, .slice none 0 0, .int .i64 0] 30)).heap[w.heap.size]? = some (.cells #[.int .i64 0, .int .i64 0, .int .i64 0, .slice none 0 0, .int .i64 0] 30 (0, 0)) := heap_alloc_new w _
  have E0 := (Ext.refl w).goA (.cells #[.int .i64 0, .int .i64 0, .int .i64 0, .slice none 0 0, .int .i64 0] 30)
  have hll := hx.len
  obtain ⟨bb, oo, rfl, hbb, c0⟩ := hx.at_ (j := 0) hm0
  rw [Nat.add_zero] at c0
  have x0 := hl 0
  rw [← List.getD_eq_getElem?_getD] at x0
  have w1r := wordAt_range l hl 1
  have w3r := wordAt_range l hl 3
  have w5r := wordAt_range l hl 5
  have hxl := Lib.hid (fun w' (E : Ext w w') => hx.ext E)
  have hlb := Lib.hid hl
  have hat := Lib.hid (fun w' (E : Ext w w') i (hi : i ≤ 1048576) => refAt_any (some ⟨bb, oo, none⟩) i m c w'.heap.size l w' (hx.ext E) hl hi (by unfold maxLen; omega))
  have C0 := (E0.cell oo hbb).trans c0
  have hfin : refReadR l = ⟨l.getD 0 0, wordAt l 1, wordAt l 3, 0, []⟩ := by
    unfold refReadR
    rw [hf, if_neg (by omega), if_neg (by omega), if_neg (by omega), if_neg (by omega), if_neg (by omega), if_neg (by omega), if_neg (by omega), if_neg (by omega)]
  rw [hfin]
  have hll' := Lib.hid hll
  have u0 : IntKind.i64.wrap (l.getD 0 0) = l.getD 0 0 := by rw [IntKind.wrap_i64]; omega
  have R0' := Lib.hid R0
  clear hx hl c0 hfin R0 hll
  generalize hw1 : wordAt l 1 = ad at *
  generalize hw3 : wordAt l 3 = q3 at *
  generalize hw5 : wordAt l 5 = q5 at *
  have hw1' := Lib.hid hw1
  have hw3' := Lib.hid hw3
  have hw5' := Lib.hid hw5
  clear hw1 hw3 hw5
  rw [hf] at *
  clear hf
  have sU : (w.alloc (.cells #[.int .i64 0, .int .i64 0, .int .i64 0, .slice none 0 0, .int .i64 0] 30)).heap.size = w.heap.size + 1 := by simp
  go_enter Try.func103, Try.ntmps103
  go_wp2_with fail
  generalize w.alloc (.cells #[.int .i64 0, .int .i64 0, .int .i64 0, .slice none 0 0, .int .i64 0] 30) = U at *
  have dU : Ext U U.drew := (Ext.refl U).god
  have Cw : ∀ w', Ext U w' → w'.cell? ⟨bb, oo, none⟩ = some (.int .u8 x) := fun w' D => (D.cell oo (by omega)).trans C0
  clear C0
  refine wp_region_held_drew (S := fun w' => Ext U w') (by kernel_rfl) dU (fun hHeld => ?_)
  refine tk 0 ?_
  try simp only [Act.put, gA, gC, List.setIfInBounds_toArray, gE, gF]
  refine tk 1 ?_
  try simp only [Act.put, gA, gB, gC, List.setIfInBounds_toArray, gE, gF]
  refine tk 2 ?_
  try simp only [Act.put, gA, gB, gC, List.setIfInBounds_toArray, gE, gF]
  refine tk 3 ?_
  try simp only [Act.put, gA, gB, gC, List.setIfInBounds_toArray, gE, gF]
  refine tk 4 ?_
  try simp only [Act.put, gA, gB, gC, List.setIfInBounds_toArray, gE, gF]
  refine wpAnyH_ready (rs := [5, 7]) (by kernel_rfl) (by simp) ?_
  refine AllReadyH.cons rfl (fun K hK => ?_) (AllReadyH.cons rfl (fun K hK => ?_) (AllReadyH.nil))
  · go_simp
    go_at_call 106
    refine (hat.out _ (E0.go dU) 1 (by omega)).mono ?_
    rw [hw1'.out]
    rintro e w3 ⟨rfl, k3, rfl⟩
    have d3 := dU.goD k3
    have d4 := (Ext.refl U).goD (1 + k3)
    try dsimp only
    refine hK.out _ _ ?_ (fun hHeld => ?_)
    · first | assumption | (dsimp only; assumption)
    clear hK K
    try simp only [Act.put, gA, gB, gC, List.setIfInBounds_toArray, gE, gF]
    refine tk 6 ?_
    try simp only [Act.put, gA, gB, gC, List.setIfInBounds_toArray, gE, gF]
    refine wpAnyH_ready (rs := [7]) (by kernel_rfl) (by simp) ?_
    refine AllReadyH.cons rfl (fun K hK => ?_) ?_
    rotate_left
    · exact AllReadyH.nil
    go_simp
    refine hK.out _ _ ?_ (fun hHeld => ?_)
    · exact d4.goA _
    clear hK K
    try simp only [Act.put, gA, gB, gC, List.setIfInBounds_toArray, gE, gF]
    refine wpAnyH_ready (rs := [8]) (by kernel_rfl) (by simp) ?_
    refine AllReadyH.cons rfl (fun K hK => ?_) ?_
    rotate_left
    · exact AllReadyH.nil
    go_simp
    refine hK.out _ _ ?_ (fun hHeld => ?_)
    · exact d4.goA _
    clear hK K
    try simp only [Act.put, gA, gB, gC, List.setIfInBounds_toArray, gE, gF]
    refine wpAnyH_done (by kernel_rfl) ?_ _
    have EV := (E0.go d4).goA (.cells #[.int .i64 x, .int .i64 ad, .int .i64 0, .slice none 0 0, .int .i64 0] 30)
    have RV := ((d4.goA (.cells #[.int .i64 x, .int .i64 ad, .int .i64 0, .slice none 0 0, .int .i64 0] 30)).block w.heap.size (by omega)).trans R0'.out
    have QV := heap_alloc_new (U.drewN (1 + k3)) (.cells #[.int .i64 x, .int .i64 ad, .int .i64 0, .slice none 0 0, .int .i64 0] 30)
    rw [show (U.drewN (1 + k3)).heap.size = w.heap.size + 1 from sU] at QV
    clear Cw R0'
    generalize (U.drewN (1 + k3)).alloc (.cells #[.int .i64 x, .int .i64 ad, .int .i64 0, .slice none 0 0, .int .i64 0] 30) = V at *
    clear d3 d4 dU

    have t5 : (x == 5) = false := by simp; exact h5
    have t6 : (x == 6) = false := by simp; exact h6
    have t22 : (x == 22) = false := by simp; exact h22
    have t15 : (x == 15) = false := by simp; exact h15
    have t16 : (x == 16) = false := by simp; exact h16
    have t23 : (x == 23) = false := by simp; exact h23
    clear h5 h6 h22 h15 h16 h23
    have q0 := cellsAt QV
    have f0 := frozen_block QV
    have RV' := Lib.hid RV
    have QV' := Lib.hid QV
    clear RV QV
    go_wp2_with fail
    refine (hat.out _ EV 3 (by omega)).mono ?_
    rw [hw3'.out]
    rintro e w5 ⟨rfl, k5, rfl⟩
    have QX : ((V.drewN k5).setCell ⟨w.heap.size + 1, 2, none⟩ (.int .i64 q3)).heap[w.heap.size + 1]? = some (.cells #[.int .i64 x, .int .i64 ad, .int .i64 q3, .slice none 0 0, .int .i64 0] 30 (0, 0)) := set_block (w := V.drewN k5) QV'.out 2 (.int .i64 q3)
    have RX := Lib.hid ((Below.heap_setCell (V.drewN k5) ⟨w.heap.size + 1, 2, none⟩ (.int .i64 q3) w.heap.size (by simp)).trans RV'.out)
    have EX := (EV.goD k5).goS (p := ⟨w.heap.size + 1, 2, none⟩) (by simp) (.int .i64 q3)
    have q1 := cellsAt QX
    have r1 := cellsAt RX.out
    have g1 := frozen_block RX.out
    clear QX
    go_wp2_with fail
    obtain ⟨z0, z1, z2, z3, z4⟩ := five_reads RX.out (.int .i64 x) (.int .i64 ad) (.int .i64 q3) (.slice none 0 0) (.int .i64 0)
    refine bodyPost_ret (v := .agg #[.int .i64 x, .int .i64 ad, .int .i64 q3, .slice none 0 0, .int .i64 0]) (by simp [results, Try.results103, go_sem, z0, z1, z2, z3, z4]) rfl ?_
    exact ⟨_, _, _, rfl, Nat.le_refl _, by unfold maxLen; omega, RdI.nil _, EX.five (Nat.le_refl _) _ _ _ _ _, fun b o e => (nomatch e)⟩
  · go_simp
    refine hK.out _ _ ?_ (fun hHeld => ?_)
    · exact dU.goA _
    clear hK K
    try simp only [Act.put, gA, gB, gC, List.setIfInBounds_toArray, gE, gF]
    refine wpAnyH_ready (rs := [5]) (by kernel_rfl) (by simp) ?_
    refine AllReadyH.cons rfl (fun K hK => ?_) ?_
    rotate_left
    · exact AllReadyH.nil
    go_simp
    go_at_call 106
    refine (hat.out _ (E0.go (dU.goA _)) 1 (by omega)).mono ?_
    rw [hw1'.out]
    rintro e w3 ⟨rfl, k3, rfl⟩
    have d3 := (dU.goA (.cells #[.int .i64 0, .int .i64 0, .int .i64 0, .slice none 0 0, .int .i64 0] 30)).goD k3
    have d4 := (dU.goA (.cells #[.int .i64 0, .int .i64 0, .int .i64 0, .slice none 0 0, .int .i64 0] 30)).goD k3
    try dsimp only
    refine hK.out _ _ ?_ (fun hHeld => ?_)
    · first | assumption | (dsimp only; assumption)
    clear hK K
    try simp only [Act.put, gA, gB, gC, List.setIfInBounds_toArray, gE, gF]
    have RY := (d4.block w.heap.size (by omega)).trans R0'.out
    have QY : ((U.drew.alloc (.cells #[.int .i64 0, .int .i64 0, .int .i64 0, .slice none 0 0, .int .i64 0] 30)).drewN k3).heap[U.heap.size]? = some (.cells #[.int .i64 0, .int .i64 0, .int .i64 0, .slice none 0 0, .int .i64 0] 30 (0, 0)) := heap_alloc_new U (.cells #[.int .i64 0, .int .i64 0, .int .i64 0, .slice none 0 0, .int .i64 0] 30)
    rw [sU] at QY
    refine tk 6 ?_
    try simp only [Act.put, gA, gB, gC, List.setIfInBounds_toArray, gE, gF]
    clear Cw R0' d3
    generalize (U.drew.alloc (.cells #[.int .i64 0, .int .i64 0, .int .i64 0, .slice none 0 0, .int .i64 0] 30)).drewN k3 = Y at *
    have q0 := cellsAt QY
    have f0 := frozen_block QY
    have RY' := Lib.hid RY
    have QY' := Lib.hid QY
    clear RY QY
    refine wpAnyH_ready (rs := [8]) (by kernel_rfl) (by simp) ?_
    refine AllReadyH.cons rfl (fun K hK => ?_) ?_
    rotate_left
    · exact AllReadyH.nil
    go_simp
    refine hK.out _ _ ?_ (fun hHeld => ?_)
    · exact d4.five (by omega) _ _ _ _ _
    clear hK K
    try simp only [Act.put, gA, gB, gC, List.setIfInBounds_toArray, gE, gF]
    refine wpAnyH_done (by kernel_rfl) ?_ _
    have EV := (E0.go d4).five (i := w.heap.size + 1) (by omega) (.int .i64 x) (.int .i64 ad) (.int .i64 0) (.slice none 0 0) (.int .i64 0)
    have RV := (five_keep Y (w.heap.size + 1) w.heap.size (by omega) (.int .i64 x) (.int .i64 ad) (.int .i64 0) (.slice none 0 0) (.int .i64 0)).trans RY'.out
    have QV := five_block QY'.out (.int .i64 x) (.int .i64 ad) (.int .i64 0) (.slice none 0 0) (.int .i64 0)
    clear q0 f0
    generalize (((((Y.setCell ⟨w.heap.size + 1, 0, none⟩ (.int .i64 x)).setCell ⟨w.heap.size + 1, 1, none⟩ (.int .i64 ad)).setCell ⟨w.heap.size + 1, 2, none⟩ (.int .i64 0)).setCell ⟨w.heap.size + 1, 3, none⟩ (.slice none 0 0)).setCell ⟨w.heap.size + 1, 4, none⟩ (.int .i64 0)) = V at *
    clear d4 dU

    have t5 : (x == 5) = false := by simp; exact h5
    have t6 : (x == 6) = false := by simp; exact h6
    have t22 : (x == 22) = false := by simp; exact h22
    have t15 : (x == 15) = false := by simp; exact h15
    have t16 : (x == 16) = false := by simp; exact h16
    have t23 : (x == 23) = false := by simp; exact h23
    clear h5 h6 h22 h15 h16 h23
    have q0 := cellsAt QV
    have f0 := frozen_block QV
    have RV' := Lib.hid RV
    have QV' := Lib.hid QV
    clear RV QV
    go_wp2_with fail
    refine (hat.out _ EV 3 (by omega)).mono ?_
    rw [hw3'.out]
    rintro e w5 ⟨rfl, k5, rfl⟩
    have QX : ((V.drewN k5).setCell ⟨w.heap.size + 1, 2, none⟩ (.int .i64 q3)).heap[w.heap.size + 1]? = some (.cells #[.int .i64 x, .int .i64 ad, .int .i64 q3, .slice none 0 0, .int .i64 0] 30 (0, 0)) := set_block (w := V.drewN k5) QV'.out 2 (.int .i64 q3)
    have RX := Lib.hid ((Below.heap_setCell (V.drewN k5) ⟨w.heap.size + 1, 2, none⟩ (.int .i64 q3) w.heap.size (by simp)).trans RV'.out)
    have EX := (EV.goD k5).goS (p := ⟨w.heap.size + 1, 2, none⟩) (by simp) (.int .i64 q3)
    have q1 := cellsAt QX
    have r1 := cellsAt RX.out
    have g1 := frozen_block RX.out
    clear QX
    go_wp2_with fail
    obtain ⟨z0, z1, z2, z3, z4⟩ := five_reads RX.out (.int .i64 x) (.int .i64 ad) (.int .i64 q3) (.slice none 0 0) (.int .i64 0)
    refine bodyPost_ret (v := .agg #[.int .i64 x, .int .i64 ad, .int .i64 q3, .slice none 0 0, .int .i64 0]) (by simp [results, Try.results103, go_sem, z0, z1, z2, z3, z4]) rfl ?_
    exact ⟨_, _, _, rfl, Nat.le_refl _, by unfold maxLen; omega, RdI.nil _, EX.five (Nat.le_refl _) _ _ _ _ _, fun b o e => (nomatch e)⟩
set_option maxRecDepth 100000 in
set_option maxHeartbeats 6400000 in
theorem read_six (A : Option Addr) (m c : Nat) (l : List Int) (w : World) (hx : RdI w w.heap.size .u8 A m l) (hl : ByteL l) (hm0 : 0 < m) (hm : m ≤ 9000) (_hmc : m ≤ c) (_hcm : c ≤ maxLen) (hf : l.getD 0 0 = 6) :
    Calls Try.prog 103 #[.slice A m c] w (TakenPost (refReadR l).fc (refReadR l).ad (refReadR l).qt (refReadR l).to (refReadR l).xs w) := by
  have R0 : (w.alloc (.cells #[.int .i64 0, .int .i64 0, .int .i64 0, .slice none 0 0, .int .i64 0] 30)).heap[w.heap.size]? = some (.cells #[.int .i64 0, .int .i64 0, .int .i64 0, .slice none 0 0, .int .i64 0] 30 (0, 0)) := heap_alloc_new w _
  have E0 := (Ext.refl w).goA (.cells #[.int .i64 0, .int .i64 0, .int .i64 0, .slice none 0 0, .int .i64 0] 30)
  have hll := hx.len
  obtain ⟨bb, oo, rfl, hbb, c0⟩ := hx.at_ (j := 0) hm0
  rw [Nat.add_zero] at c0
  have x0 := hl 0
  rw [← List.getD_eq_getElem?_getD] at x0
  have w1r := wordAt_range l hl 1
  have w3r := wordAt_range l hl 3
  have w5r := wordAt_range l hl 5
  have hxl := Lib.hid (fun w' (E : Ext w w') => hx.ext E)
  have hlb := Lib.hid hl
  have hat := Lib.hid (fun w' (E : Ext w w') i (hi : i ≤ 1048576) => refAt_any (some ⟨bb, oo, none⟩) i m c w'.heap.size l w' (hx.ext E) hl hi (by unfold maxLen; omega))
  have C0 := (E0.cell oo hbb).trans c0
  have hfin : refReadR l = ⟨l.getD 0 0, wordAt l 1, 0, 0, [wordAt l 3]⟩ := by
    unfold refReadR
    rw [hf]; rfl
  rw [hfin]
  have hll' := Lib.hid hll
  have u0 : IntKind.i64.wrap (l.getD 0 0) = l.getD 0 0 := by rw [IntKind.wrap_i64]; omega
  have R0' := Lib.hid R0
  clear hx hl c0 hfin R0 hll
  generalize hw1 : wordAt l 1 = ad at *
  generalize hw3 : wordAt l 3 = q3 at *
  generalize hw5 : wordAt l 5 = q5 at *
  have hw1' := Lib.hid hw1
  have hw3' := Lib.hid hw3
  have hw5' := Lib.hid hw5
  clear hw1 hw3 hw5
  rw [hf] at *
  clear hf
  have sU : (w.alloc (.cells #[.int .i64 0, .int .i64 0, .int .i64 0, .slice none 0 0, .int .i64 0] 30)).heap.size = w.heap.size + 1 := by simp
  go_enter Try.func103, Try.ntmps103
  go_wp2_with fail
  generalize w.alloc (.cells #[.int .i64 0, .int .i64 0, .int .i64 0, .slice none 0 0, .int .i64 0] 30) = U at *
  have dU : Ext U U.drew := (Ext.refl U).god
  have Cw : ∀ w', Ext U w' → w'.cell? ⟨bb, oo, none⟩ = some (.int .u8 6) := fun w' D => (D.cell oo (by omega)).trans C0
  clear C0
  refine wp_region_held_drew (S := fun w' => Ext U w') (by kernel_rfl) dU (fun hHeld => ?_)
  refine tk 0 ?_
  try simp only [Act.put, gA, gC, List.setIfInBounds_toArray, gE, gF]
  refine tk 1 ?_
  try simp only [Act.put, gA, gB, gC, List.setIfInBounds_toArray, gE, gF]
  refine tk 2 ?_
  try simp only [Act.put, gA, gB, gC, List.setIfInBounds_toArray, gE, gF]
  refine tk 3 ?_
  try simp only [Act.put, gA, gB, gC, List.setIfInBounds_toArray, gE, gF]
  refine tk 4 ?_
  try simp only [Act.put, gA, gB, gC, List.setIfInBounds_toArray, gE, gF]
  refine wpAnyH_ready (rs := [5, 7]) (by kernel_rfl) (by simp) ?_
  refine AllReadyH.cons rfl (fun K hK => ?_) (AllReadyH.cons rfl (fun K hK => ?_) (AllReadyH.nil))
  · go_simp
    go_at_call 106
    refine (hat.out _ (E0.go dU) 1 (by omega)).mono ?_
    rw [hw1'.out]
    rintro e w3 ⟨rfl, k3, rfl⟩
    have d3 := dU.goD k3
    have d4 := (Ext.refl U).goD (1 + k3)
    try dsimp only
    refine hK.out _ _ ?_ (fun hHeld => ?_)
    · first | assumption | (dsimp only; assumption)
    clear hK K
    try simp only [Act.put, gA, gB, gC, List.setIfInBounds_toArray, gE, gF]
    refine tk 6 ?_
    try simp only [Act.put, gA, gB, gC, List.setIfInBounds_toArray, gE, gF]
    refine wpAnyH_ready (rs := [7]) (by kernel_rfl) (by simp) ?_
    refine AllReadyH.cons rfl (fun K hK => ?_) ?_
    rotate_left
    · exact AllReadyH.nil
    go_simp
    refine hK.out _ _ ?_ (fun hHeld => ?_)
    · exact d4.goA _
    clear hK K
    try simp only [Act.put, gA, gB, gC, List.setIfInBounds_toArray, gE, gF]
    refine wpAnyH_ready (rs := [8]) (by kernel_rfl) (by simp) ?_
    refine AllReadyH.cons rfl (fun K hK => ?_) ?_
    rotate_left
    · exact AllReadyH.nil
    go_simp
    refine hK.out _ _ ?_ (fun hHeld => ?_)
    · exact d4.goA _
    clear hK K
    try simp only [Act.put, gA, gB, gC, List.setIfInBounds_toArray, gE, gF]
    refine wpAnyH_done (by kernel_rfl) ?_ _
    have EV := (E0.go d4).goA (.cells #[.int .i64 6, .int .i64 ad, .int .i64 0, .slice none 0 0, .int .i64 0] 30)
    have RV := ((d4.goA (.cells #[.int .i64 6, .int .i64 ad, .int .i64 0, .slice none 0 0, .int .i64 0] 30)).block w.heap.size (by omega)).trans R0'.out
    have QV := heap_alloc_new (U.drewN (1 + k3)) (.cells #[.int .i64 6, .int .i64 ad, .int .i64 0, .slice none 0 0, .int .i64 0] 30)
    rw [show (U.drewN (1 + k3)).heap.size = w.heap.size + 1 from sU] at QV
    clear Cw R0'
    generalize (U.drewN (1 + k3)).alloc (.cells #[.int .i64 6, .int .i64 ad, .int .i64 0, .slice none 0 0, .int .i64 0] 30) = V at *
    clear d3 d4 dU
    have uq : IntKind.u16.wrap q3 = q3 := by rw [IntKind.wrap_u16]; omega
    have q0 := cellsAt QV
    have f0 := frozen_block QV
    have RV' := Lib.hid RV
    have QV' := Lib.hid QV
    clear RV QV
    go_wp2_with fail
    refine (hat.out _ EV 3 (by omega)).mono ?_
    rw [hw3'.out]
    rintro e w5 ⟨rfl, k5, e5⟩
    have D5 : Ext V w5 := e5 ▸ (Ext.refl V).goD k5
    have QX := (D5.block _ (lt_of_block QV'.out)).trans QV'.out
    have RX := (D5.block _ (lt_of_block RV'.out)).trans RV'.out
    have EX := EV.go D5
    clear e5 q0 f0
    have q1 := cellsAt QX
    have f1 := frozen_block QX
    have lw := lt_of_block QX
    have hQY : (w5.setCell ⟨w.heap.size + 1, 3, none⟩ (.slice (some ⟨w5.heap.size, 0, none⟩) 1 1)).heap[w.heap.size + 1]? = some (.cells #[.int .i64 6, .int .i64 ad, .int .i64 0, .slice (some ⟨w5.heap.size, 0, none⟩) 1 1, .int .i64 0] 30 (0, 0)) := set_block QX 3 _
    have hRY : (w5.setCell ⟨w.heap.size + 1, 3, none⟩ (.slice (some ⟨w5.heap.size, 0, none⟩) 1 1)).heap[w.heap.size]? = _ := (Below.heap_setCell w5 ⟨w.heap.size + 1, 3, none⟩ _ w.heap.size (by simp)).trans RX
    have DZ := (Ext.refl (w5.setCell ⟨w.heap.size + 1, 3, none⟩ (.slice (some ⟨w5.heap.size, 0, none⟩) 1 1))).goA (.cells #[.int .u16 q3] 43)
    have QZ := (DZ.block _ (lt_of_block hQY)).trans hQY
    have RZ := (DZ.block _ (lt_of_block hRY)).trans hRY
    have EZ := ((EX.goS (p := ⟨w.heap.size + 1, 3, none⟩) (by simp) (.slice (some ⟨w5.heap.size, 0, none⟩) 1 1)).goA (.cells #[.int .u16 q3] 43))
    have q2 := cellsAt QZ
    have r2 := cellsAt RZ
    have g2 := frozen_block RZ
    have RZ' := Lib.hid RZ
    clear QX RX hQY hRY QZ RZ DZ
    go_wp2_with fail
    obtain ⟨z0, z1, z2, z3, z4⟩ := five_reads RZ'.out (.int .i64 6) (.int .i64 ad) (.int .i64 0) (.slice (some ⟨w5.heap.size, 0, none⟩) 1 1) (.int .i64 0)
    refine bodyPost_ret (v := .agg #[.int .i64 6, .int .i64 ad, .int .i64 0, .slice (some ⟨w5.heap.size, 0, none⟩) 1 1, .int .i64 0]) (by simp [results, Try.results103, go_sem, z0, z1, z2, z3, z4]) rfl ?_
    have r6 : RdI ((w5.setCell ⟨w.heap.size + 1, 3, none⟩ (.slice (some ⟨w5.heap.size, 0, none⟩) 1 1)).alloc (.cells #[.int .u16 q3] 43)) (w5.heap.size + 1) .u16 (some ⟨w5.heap.size, 0, none⟩) 1 [q3] := RdI.new [q3] (setCell_size _ _ _).symm rfl rfl
    exact ⟨_, _, _, rfl, Nat.le_refl _, by unfold maxLen; omega, five_rd r6 (by rw [alloc_size, setCell_size]; omega) _ (fun _ b o e => by injection e with e; injection e with e; omega) _ _ _ _ _, EZ.five (Nat.le_refl _) _ _ _ _ _, fun b o e => by injection e with e; injection e with e; omega⟩
  · go_simp
    refine hK.out _ _ ?_ (fun hHeld => ?_)
    · exact dU.goA _
    clear hK K
    try simp only [Act.put, gA, gB, gC, List.setIfInBounds_toArray, gE, gF]
    refine wpAnyH_ready (rs := [5]) (by kernel_rfl) (by simp) ?_
    refine AllReadyH.cons rfl (fun K hK => ?_) ?_
    rotate_left
    · exact AllReadyH.nil
    go_simp
    go_at_call 106
    refine (hat.out _ (E0.go (dU.goA _)) 1 (by omega)).mono ?_
    rw [hw1'.out]
    rintro e w3 ⟨rfl, k3, rfl⟩
    have d3 := (dU.goA (.cells #[.int .i64 0, .int .i64 0, .int .i64 0, .slice none 0 0, .int .i64 0] 30)).goD k3
    have d4 := (dU.goA (.cells #[.int .i64 0, .int .i64 0, .int .i64 0, .slice none 0 0, .int .i64 0] 30)).goD k3
    try dsimp only
    refine hK.out _ _ ?_ (fun hHeld => ?_)
    · first | assumption | (dsimp only; assumption)
    clear hK K
    try simp only [Act.put, gA, gB, gC, List.setIfInBounds_toArray, gE, gF]
    have RY := (d4.block w.heap.size (by omega)).trans R0'.out
    have QY : ((U.drew.alloc (.cells #[.int .i64 0, .int .i64 0, .int .i64 0, .slice none 0 0, .int .i64 0] 30)).drewN k3).heap[U.heap.size]? = some (.cells #[.int .i64 0, .int .i64 0, .int .i64 0, .slice none 0 0, .int .i64 0] 30 (0, 0)) := heap_alloc_new U (.cells #[.int .i64 0, .int .i64 0, .int .i64 0, .slice none 0 0, .int .i64 0] 30)
    rw [sU] at QY
    refine tk 6 ?_
    try simp only [Act.put, gA, gB, gC, List.setIfInBounds_toArray, gE, gF]
    clear Cw R0' d3
    generalize (U.drew.alloc (.cells #[.int .i64 0, .int .i64 0, .int .i64 0, .slice none 0 0, .int .i64 0] 30)).drewN k3 = Y at *
    have q0 := cellsAt QY
    have f0 := frozen_block QY
    have RY' := Lib.hid RY
    have QY' := Lib.hid QY
    clear RY QY
    refine wpAnyH_ready (rs := [8]) (by kernel_rfl) (by simp) ?_
    refine AllReadyH.cons rfl (fun K hK => ?_) ?_
    rotate_left
    · exact AllReadyH.nil
    go_simp
    refine hK.out _ _ ?_ (fun hHeld => ?_)
    · exact d4.five (by omega) _ _ _ _ _
    clear hK K
    try simp only [Act.put, gA, gB, gC, List.setIfInBounds_toArray, gE, gF]
    refine wpAnyH_done (by kernel_rfl) ?_ _
    have EV := (E0.go d4).five (i := w.heap.size + 1) (by omega) (.int .i64 6) (.int .i64 ad) (.int .i64 0) (.slice none 0 0) (.int .i64 0)
    have RV := (five_keep Y (w.heap.size + 1) w.heap.size (by omega) (.int .i64 6) (.int .i64 ad) (.int .i64 0) (.slice none 0 0) (.int .i64 0)).trans RY'.out
    have QV := five_block QY'.out (.int .i64 6) (.int .i64 ad) (.int .i64 0) (.slice none 0 0) (.int .i64 0)
    clear q0 f0
    generalize (((((Y.setCell ⟨w.heap.size + 1, 0, none⟩ (.int .i64 6)).setCell ⟨w.heap.size + 1, 1, none⟩ (.int .i64 ad)).setCell ⟨w.heap.size + 1, 2, none⟩ (.int .i64 0)).setCell ⟨w.heap.size + 1, 3, none⟩ (.slice none 0 0)).setCell ⟨w.heap.size + 1, 4, none⟩ (.int .i64 0)) = V at *
    clear d4 dU
    have uq : IntKind.u16.wrap q3 = q3 := by rw [IntKind.wrap_u16]; omega
    have q0 := cellsAt QV
    have f0 := frozen_block QV
    have RV' := Lib.hid RV
    have QV' := Lib.hid QV
    clear RV QV
    go_wp2_with fail
    refine (hat.out _ EV 3 (by omega)).mono ?_
    rw [hw3'.out]
    rintro e w5 ⟨rfl, k5, e5⟩
    have D5 : Ext V w5 := e5 ▸ (Ext.refl V).goD k5
    have QX := (D5.block _ (lt_of_block QV'.out)).trans QV'.out
    have RX := (D5.block _ (lt_of_block RV'.out)).trans RV'.out
    have EX := EV.go D5
    clear e5 q0 f0
    have q1 := cellsAt QX
    have f1 := frozen_block QX
    have lw := lt_of_block QX
    have hQY : (w5.setCell ⟨w.heap.size + 1, 3, none⟩ (.slice (some ⟨w5.heap.size, 0, none⟩) 1 1)).heap[w.heap.size + 1]? = some (.cells #[.int .i64 6, .int .i64 ad, .int .i64 0, .slice (some ⟨w5.heap.size, 0, none⟩) 1 1, .int .i64 0] 30 (0, 0)) := set_block QX 3 _
    have hRY : (w5.setCell ⟨w.heap.size + 1, 3, none⟩ (.slice (some ⟨w5.heap.size, 0, none⟩) 1 1)).heap[w.heap.size]? = _ := (Below.heap_setCell w5 ⟨w.heap.size + 1, 3, none⟩ _ w.heap.size (by simp)).trans RX
    have DZ := (Ext.refl (w5.setCell ⟨w.heap.size + 1, 3, none⟩ (.slice (some ⟨w5.heap.size, 0, none⟩) 1 1))).goA (.cells #[.int .u16 q3] 43)
    have QZ := (DZ.block _ (lt_of_block hQY)).trans hQY
    have RZ := (DZ.block _ (lt_of_block hRY)).trans hRY
    have EZ := ((EX.goS (p := ⟨w.heap.size + 1, 3, none⟩) (by simp) (.slice (some ⟨w5.heap.size, 0, none⟩) 1 1)).goA (.cells #[.int .u16 q3] 43))
    have q2 := cellsAt QZ
    have r2 := cellsAt RZ
    have g2 := frozen_block RZ
    have RZ' := Lib.hid RZ
    clear QX RX hQY hRY QZ RZ DZ
    go_wp2_with fail
    obtain ⟨z0, z1, z2, z3, z4⟩ := five_reads RZ'.out (.int .i64 6) (.int .i64 ad) (.int .i64 0) (.slice (some ⟨w5.heap.size, 0, none⟩) 1 1) (.int .i64 0)
    refine bodyPost_ret (v := .agg #[.int .i64 6, .int .i64 ad, .int .i64 0, .slice (some ⟨w5.heap.size, 0, none⟩) 1 1, .int .i64 0]) (by simp [results, Try.results103, go_sem, z0, z1, z2, z3, z4]) rfl ?_
    have r6 : RdI ((w5.setCell ⟨w.heap.size + 1, 3, none⟩ (.slice (some ⟨w5.heap.size, 0, none⟩) 1 1)).alloc (.cells #[.int .u16 q3] 43)) (w5.heap.size + 1) .u16 (some ⟨w5.heap.size, 0, none⟩) 1 [q3] := RdI.new [q3] (setCell_size _ _ _).symm rfl rfl
    exact ⟨_, _, _, rfl, Nat.le_refl _, by unfold maxLen; omega, five_rd r6 (by rw [alloc_size, setCell_size]; omega) _ (fun _ b o e => by injection e with e; injection e with e; omega) _ _ _ _ _, EZ.five (Nat.le_refl _) _ _ _ _ _, fun b o e => by injection e with e; injection e with e; omega⟩
set_option maxRecDepth 100000 in
set_option maxHeartbeats 6400000 in
theorem read_mask (A : Option Addr) (m c : Nat) (l : List Int) (w : World) (hx : RdI w w.heap.size .u8 A m l) (hl : ByteL l) (hm0 : 0 < m) (hm : m ≤ 9000) (_hmc : m ≤ c) (_hcm : c ≤ maxLen) (hf : l.getD 0 0 = 22) :
    Calls Try.prog 103 #[.slice A m c] w (TakenPost (refReadR l).fc (refReadR l).ad (refReadR l).qt (refReadR l).to (refReadR l).xs w) := by
  have R0 : (w.alloc (.cells #[.int .i64 0, .int .i64 0, .int .i64 0, .slice none 0 0, .int .i64 0] 30)).heap[w.heap.size]? = some (.cells #[.int .i64 0, .int .i64 0, .int .i64 0, .slice none 0 0, .int .i64 0] 30 (0, 0)) := heap_alloc_new w _
  have E0 := (Ext.refl w).goA (.cells #[.int .i64 0, .int .i64 0, .int .i64 0, .slice none 0 0, .int .i64 0] 30)
  have hll := hx.len
  obtain ⟨bb, oo, rfl, hbb, c0⟩ := hx.at_ (j := 0) hm0
  rw [Nat.add_zero] at c0
  have x0 := hl 0
  rw [← List.getD_eq_getElem?_getD] at x0
  have w1r := wordAt_range l hl 1
  have w3r := wordAt_range l hl 3
  have w5r := wordAt_range l hl 5
  have hxl := Lib.hid (fun w' (E : Ext w w') => hx.ext E)
  have hlb := Lib.hid hl
  have hat := Lib.hid (fun w' (E : Ext w w') i (hi : i ≤ 1048576) => refAt_any (some ⟨bb, oo, none⟩) i m c w'.heap.size l w' (hx.ext E) hl hi (by unfold maxLen; omega))
  have C0 := (E0.cell oo hbb).trans c0
  have hfin : refReadR l = ⟨l.getD 0 0, wordAt l 1, 0, 0, [wordAt l 3, wordAt l 5]⟩ := by
    unfold refReadR
    rw [hf]; rfl
  rw [hfin]
  have hll' := Lib.hid hll
  have u0 : IntKind.i64.wrap (l.getD 0 0) = l.getD 0 0 := by rw [IntKind.wrap_i64]; omega
  have R0' := Lib.hid R0
  clear hx hl c0 hfin R0 hll
  generalize hw1 : wordAt l 1 = ad at *
  generalize hw3 : wordAt l 3 = q3 at *
  generalize hw5 : wordAt l 5 = q5 at *
  have hw1' := Lib.hid hw1
  have hw3' := Lib.hid hw3
  have hw5' := Lib.hid hw5
  clear hw1 hw3 hw5
  rw [hf] at *
  clear hf
  have sU : (w.alloc (.cells #[.int .i64 0, .int .i64 0, .int .i64 0, .slice none 0 0, .int .i64 0] 30)).heap.size = w.heap.size + 1 := by simp
  go_enter Try.func103, Try.ntmps103
  go_wp2_with fail
  generalize w.alloc (.cells #[.int .i64 0, .int .i64 0, .int .i64 0, .slice none 0 0, .int .i64 0] 30) = U at *
  have dU : Ext U U.drew := (Ext.refl U).god
  have Cw : ∀ w', Ext U w' → w'.cell? ⟨bb, oo, none⟩ = some (.int .u8 22) := fun w' D => (D.cell oo (by omega)).trans C0
  clear C0
  refine wp_region_held_drew (S := fun w' => Ext U w') (by kernel_rfl) dU (fun hHeld => ?_)
  refine tk 0 ?_
  try simp only [Act.put, gA, gC, List.setIfInBounds_toArray, gE, gF]
  refine tk 1 ?_
  try simp only [Act.put, gA, gB, gC, List.setIfInBounds_toArray, gE, gF]
  refine tk 2 ?_
  try simp only [Act.put, gA, gB, gC, List.setIfInBounds_toArray, gE, gF]
  refine tk 3 ?_
  try simp only [Act.put, gA, gB, gC, List.setIfInBounds_toArray, gE, gF]
  refine tk 4 ?_
  try simp only [Act.put, gA, gB, gC, List.setIfInBounds_toArray, gE, gF]
  refine wpAnyH_ready (rs := [5, 7]) (by kernel_rfl) (by simp) ?_
  refine AllReadyH.cons rfl (fun K hK => ?_) (AllReadyH.cons rfl (fun K hK => ?_) (AllReadyH.nil))
  · go_simp
    go_at_call 106
    refine (hat.out _ (E0.go dU) 1 (by omega)).mono ?_
    rw [hw1'.out]
    rintro e w3 ⟨rfl, k3, rfl⟩
    have d3 := dU.goD k3
    have d4 := (Ext.refl U).goD (1 + k3)
    try dsimp only
    refine hK.out _ _ ?_ (fun hHeld => ?_)
    · first | assumption | (dsimp only; assumption)
    clear hK K
    try simp only [Act.put, gA, gB, gC, List.setIfInBounds_toArray, gE, gF]
    refine tk 6 ?_
    try simp only [Act.put, gA, gB, gC, List.setIfInBounds_toArray, gE, gF]
    refine wpAnyH_ready (rs := [7]) (by kernel_rfl) (by simp) ?_
    refine AllReadyH.cons rfl (fun K hK => ?_) ?_
    rotate_left
    · exact AllReadyH.nil
    go_simp
    refine hK.out _ _ ?_ (fun hHeld => ?_)
    · exact d4.goA _
    clear hK K
    try simp only [Act.put, gA, gB, gC, List.setIfInBounds_toArray, gE, gF]
    refine wpAnyH_ready (rs := [8]) (by kernel_rfl) (by simp) ?_
    refine AllReadyH.cons rfl (fun K hK => ?_) ?_
    rotate_left
    · exact AllReadyH.nil
    go_simp
    refine hK.out _ _ ?_ (fun hHeld => ?_)
    · exact d4.goA _
    clear hK K
    try simp only [Act.put, gA, gB, gC, List.setIfInBounds_toArray, gE, gF]
    refine wpAnyH_done (by kernel_rfl) ?_ _
    have EV := (E0.go d4).goA (.cells #[.int .i64 22, .int .i64 ad, .int .i64 0, .slice none 0 0, .int .i64 0] 30)
    have RV := ((d4.goA (.cells #[.int .i64 22, .int .i64 ad, .int .i64 0, .slice none 0 0, .int .i64 0] 30)).block w.heap.size (by omega)).trans R0'.out
    have QV := heap_alloc_new (U.drewN (1 + k3)) (.cells #[.int .i64 22, .int .i64 ad, .int .i64 0, .slice none 0 0, .int .i64 0] 30)
    rw [show (U.drewN (1 + k3)).heap.size = w.heap.size + 1 from sU] at QV
    clear Cw R0'
    generalize (U.drewN (1 + k3)).alloc (.cells #[.int .i64 22, .int .i64 ad, .int .i64 0, .slice none 0 0, .int .i64 0] 30) = V at *
    clear d3 d4 dU
    have uq : IntKind.u16.wrap q3 = q3 := by rw [IntKind.wrap_u16]; omega
    have uq5 : IntKind.u16.wrap q5 = q5 := by rw [IntKind.wrap_u16]; omega
    have q0 := cellsAt QV
    have f0 := frozen_block QV
    have RV' := Lib.hid RV
    have QV' := Lib.hid QV
    clear RV QV
    go_wp2_with fail
    refine (hat.out _ EV 3 (by omega)).mono ?_
    rw [hw3'.out]
    rintro e w5 ⟨rfl, k5, e5⟩
    have D5 : Ext V w5 := e5 ▸ (Ext.refl V).goD k5
    have QX := (D5.block _ (lt_of_block QV'.out)).trans QV'.out
    have RX := (D5.block _ (lt_of_block RV'.out)).trans RV'.out
    have EX := EV.go D5
    clear e5 q0 f0
    have q1 := cellsAt QX
    have QX' := Lib.hid QX
    have RX' := Lib.hid RX
    clear QX RX
    go_wp2_with fail
    refine (hat.out _ EX 5 (by omega)).mono ?_
    rw [hw5'.out]
    rintro e w6 ⟨rfl, k6, e6⟩
    have D6 : Ext w5 w6 := e6 ▸ (Ext.refl w5).goD k6
    have QX := (D6.block _ (lt_of_block QX'.out)).trans QX'.out
    have RX := (D6.block _ (lt_of_block RX'.out)).trans RX'.out
    replace EX := EX.go D6
    clear e6 q1 QX' RX'
    have q1 := cellsAt QX
    have f1 := frozen_block QX
    have lw := lt_of_block QX
    have hQY : (w6.setCell ⟨w.heap.size + 1, 3, none⟩ (.slice (some ⟨w6.heap.size, 0, none⟩) 2 2)).heap[w.heap.size + 1]? = some (.cells #[.int .i64 22, .int .i64 ad, .int .i64 0, .slice (some ⟨w6.heap.size, 0, none⟩) 2 2, .int .i64 0] 30 (0, 0)) := set_block QX 3 _
    have hRY : (w6.setCell ⟨w.heap.size + 1, 3, none⟩ (.slice (some ⟨w6.heap.size, 0, none⟩) 2 2)).heap[w.heap.size]? = _ := (Below.heap_setCell w6 ⟨w.heap.size + 1, 3, none⟩ _ w.heap.size (by simp)).trans RX
    have DZ := (Ext.refl (w6.setCell ⟨w.heap.size + 1, 3, none⟩ (.slice (some ⟨w6.heap.size, 0, none⟩) 2 2))).goA (.cells #[.int .u16 q3, .int .u16 q5] 43)
    have QZ := (DZ.block _ (lt_of_block hQY)).trans hQY
    have RZ := (DZ.block _ (lt_of_block hRY)).trans hRY
    have EZ := ((EX.goS (p := ⟨w.heap.size + 1, 3, none⟩) (by simp) (.slice (some ⟨w6.heap.size, 0, none⟩) 2 2)).goA (.cells #[.int .u16 q3, .int .u16 q5] 43))
    have q2 := cellsAt QZ
    have r2 := cellsAt RZ
    have g2 := frozen_block RZ
    have RZ' := Lib.hid RZ
    clear QX RX hQY hRY QZ RZ DZ
    go_wp2_with fail
    obtain ⟨z0, z1, z2, z3, z4⟩ := five_reads RZ'.out (.int .i64 22) (.int .i64 ad) (.int .i64 0) (.slice (some ⟨w6.heap.size, 0, none⟩) 2 2) (.int .i64 0)
    refine bodyPost_ret (v := .agg #[.int .i64 22, .int .i64 ad, .int .i64 0, .slice (some ⟨w6.heap.size, 0, none⟩) 2 2, .int .i64 0]) (by simp [results, Try.results103, go_sem, z0, z1, z2, z3, z4]) rfl ?_
    have r6 : RdI ((w6.setCell ⟨w.heap.size + 1, 3, none⟩ (.slice (some ⟨w6.heap.size, 0, none⟩) 2 2)).alloc (.cells #[.int .u16 q3, .int .u16 q5] 43)) (w6.heap.size + 1) .u16 (some ⟨w6.heap.size, 0, none⟩) 2 [q3, q5] := RdI.new [q3, q5] (setCell_size _ _ _).symm rfl rfl
    exact ⟨_, _, _, rfl, Nat.le_refl _, by unfold maxLen; omega, five_rd r6 (by rw [alloc_size, setCell_size]; omega) _ (fun _ b o e => by injection e with e; injection e with e; omega) _ _ _ _ _, EZ.five (Nat.le_refl _) _ _ _ _ _, fun b o e => by injection e with e; injection e with e; omega⟩
  · go_simp
    refine hK.out _ _ ?_ (fun hHeld => ?_)
    · exact dU.goA _
    clear hK K
    try simp only [Act.put, gA, gB, gC, List.setIfInBounds_toArray, gE, gF]
    refine wpAnyH_ready (rs := [5]) (by kernel_rfl) (by simp) ?_
    refine AllReadyH.cons rfl (fun K hK => ?_) ?_
    rotate_left
    · exact AllReadyH.nil
    go_simp
    go_at_call 106
    refine (hat.out _ (E0.go (dU.goA _)) 1 (by omega)).mono ?_
    rw [hw1'.out]
    rintro e w3 ⟨rfl, k3, rfl⟩
    have d3 := (dU.goA (.cells #[.int .i64 0, .int .i64 0, .int .i64 0, .slice none 0 0, .int .i64 0] 30)).goD k3
    have d4 := (dU.goA (.cells #[.int .i64 0, .int .i64 0, .int .i64 0, .slice none 0 0, .int .i64 0] 30)).goD k3
    try dsimp only
    refine hK.out _ _ ?_ (fun hHeld => ?_)
    · first | assumption | (dsimp only; assumption)
    clear hK K
    try simp only [Act.put, gA, gB, gC, List.setIfInBounds_toArray, gE, gF]
    have RY := (d4.block w.heap.size (by omega)).trans R0'.out
    have QY : ((U.drew.alloc (.cells #[.int .i64 0, .int .i64 0, .int .i64 0, .slice none 0 0, .int .i64 0] 30)).drewN k3).heap[U.heap.size]? = some (.cells #[.int .i64 0, .int .i64 0, .int .i64 0, .slice none 0 0, .int .i64 0] 30 (0, 0)) := heap_alloc_new U (.cells #[.int .i64 0, .int .i64 0, .int .i64 0, .slice none 0 0, .int .i64 0] 30)
    rw [sU] at QY
    refine tk 6 ?_
    try simp only [Act.put, gA, gB, gC, List.setIfInBounds_toArray, gE, gF]
    clear Cw R0' d3
    generalize (U.drew.alloc (.cells #[.int .i64 0, .int .i64 0, .int .i64 0, .slice none 0 0, .int .i64 0] 30)).drewN k3 = Y at *
    have q0 := cellsAt QY
    have f0 := frozen_block QY
    have RY' := Lib.hid RY
    have QY' := Lib.hid QY
    clear RY QY
    refine wpAnyH_ready (rs := [8]) (by kernel_rfl) (by simp) ?_
    refine AllReadyH.cons rfl (fun K hK => ?_) ?_
    rotate_left
    · exact AllReadyH.nil
    go_simp
    refine hK.out _ _ ?_ (fun hHeld => ?_)
    · exact d4.five (by omega) _ _ _ _ _
    clear hK K
    try simp only [Act.put, gA, gB, gC, List.setIfInBounds_toArray, gE, gF]
    refine wpAnyH_done (by kernel_rfl) ?_ _
    have EV := (E0.go d4).five (i := w.heap.size + 1) (by omega) (.int .i64 22) (.int .i64 ad) (.int .i64 0) (.slice none 0 0) (.int .i64 0)
    have RV := (five_keep Y (w.heap.size + 1) w.heap.size (by omega) (.int .i64 22) (.int .i64 ad) (.int .i64 0) (.slice none 0 0) (.int .i64 0)).trans RY'.out
    have QV := five_block QY'.out (.int .i64 22) (.int .i64 ad) (.int .i64 0) (.slice none 0 0) (.int .i64 0)
    clear q0 f0
    generalize (((((Y.setCell ⟨w.heap.size + 1, 0, none⟩ (.int .i64 22)).setCell ⟨w.heap.size + 1, 1, none⟩ (.int .i64 ad)).setCell ⟨w.heap.size + 1, 2, none⟩ (.int .i64 0)).setCell ⟨w.heap.size + 1, 3, none⟩ (.slice none 0 0)).setCell ⟨w.heap.size + 1, 4, none⟩ (.int .i64 0)) = V at *
    clear d4 dU
    have uq : IntKind.u16.wrap q3 = q3 := by rw [IntKind.wrap_u16]; omega
    have uq5 : IntKind.u16.wrap q5 = q5 := by rw [IntKind.wrap_u16]; omega
    have q0 := cellsAt QV
    have f0 := frozen_block QV
    have RV' := Lib.hid RV
    have QV' := Lib.hid QV
    clear RV QV
    go_wp2_with fail
    refine (hat.out _ EV 3 (by omega)).mono ?_
    rw [hw3'.out]
    rintro e w5 ⟨rfl, k5, e5⟩
    have D5 : Ext V w5 := e5 ▸ (Ext.refl V).goD k5
    have QX := (D5.block _ (lt_of_block QV'.out)).trans QV'.out
    have RX := (D5.block _ (lt_of_block RV'.out)).trans RV'.out
    have EX := EV.go D5
    clear e5 q0 f0
    have q1 := cellsAt QX
    have QX' := Lib.hid QX
    have RX' := Lib.hid RX
    clear QX RX
    go_wp2_with fail
    refine (hat.out _ EX 5 (by omega)).mono ?_
    rw [hw5'.out]
    rintro e w6 ⟨rfl, k6, e6⟩
    have D6 : Ext w5 w6 := e6 ▸ (Ext.refl w5).goD k6
    have QX := (D6.block _ (lt_of_block QX'.out)).trans QX'.out
    have RX := (D6.block _ (lt_of_block RX'.out)).trans RX'.out
    replace EX := EX.go D6
    clear e6 q1 QX' RX'
    have q1 := cellsAt QX
    have f1 := frozen_block QX
    have lw := lt_of_block QX
    have hQY : (w6.setCell ⟨w.heap.size + 1, 3, none⟩ (.slice (some ⟨w6.heap.size, 0, none⟩) 2 2)).heap[w.heap.size + 1]? = some (.cells #[.int .i64 22, .int .i64 ad, .int .i64 0, .slice (some ⟨w6.heap.size, 0, none⟩) 2 2, .int .i64 0] 30 (0, 0)) := set_block QX 3 _
    have hRY : (w6.setCell ⟨w.heap.size + 1, 3, none⟩ (.slice (some ⟨w6.heap.size, 0, none⟩) 2 2)).heap[w.heap.size]? = _ := (Below.heap_setCell w6 ⟨w.heap.size + 1, 3, none⟩ _ w.heap.size (by simp)).trans RX
    have DZ := (Ext.refl (w6.setCell ⟨w.heap.size + 1, 3, none⟩ (.slice (some ⟨w6.heap.size, 0, none⟩) 2 2))).goA (.cells #[.int .u16 q3, .int .u16 q5] 43)
    have QZ := (DZ.block _ (lt_of_block hQY)).trans hQY
    have RZ := (DZ.block _ (lt_of_block hRY)).trans hRY
    have EZ := ((EX.goS (p := ⟨w.heap.size + 1, 3, none⟩) (by simp) (.slice (some ⟨w6.heap.size, 0, none⟩) 2 2)).goA (.cells #[.int .u16 q3, .int .u16 q5] 43))
    have q2 := cellsAt QZ
    have r2 := cellsAt RZ
    have g2 := frozen_block RZ
    have RZ' := Lib.hid RZ
    clear QX RX hQY hRY QZ RZ DZ
    go_wp2_with fail
    obtain ⟨z0, z1, z2, z3, z4⟩ := five_reads RZ'.out (.int .i64 22) (.int .i64 ad) (.int .i64 0) (.slice (some ⟨w6.heap.size, 0, none⟩) 2 2) (.int .i64 0)
    refine bodyPost_ret (v := .agg #[.int .i64 22, .int .i64 ad, .int .i64 0, .slice (some ⟨w6.heap.size, 0, none⟩) 2 2, .int .i64 0]) (by simp [results, Try.results103, go_sem, z0, z1, z2, z3, z4]) rfl ?_
    have r6 : RdI ((w6.setCell ⟨w.heap.size + 1, 3, none⟩ (.slice (some ⟨w6.heap.size, 0, none⟩) 2 2)).alloc (.cells #[.int .u16 q3, .int .u16 q5] 43)) (w6.heap.size + 1) .u16 (some ⟨w6.heap.size, 0, none⟩) 2 [q3, q5] := RdI.new [q3, q5] (setCell_size _ _ _).symm rfl rfl
    exact ⟨_, _, _, rfl, Nat.le_refl _, by unfold maxLen; omega, five_rd r6 (by rw [alloc_size, setCell_size]; omega) _ (fun _ b o e => by injection e with e; injection e with e; omega) _ _ _ _ _, EZ.five (Nat.le_refl _) _ _ _ _ _, fun b o e => by injection e with e; injection e with e; omega⟩
set_option maxRecDepth 100000 in
set_option maxHeartbeats 6400000 in
theorem read_on (A : Option Addr) (m c : Nat) (l : List Int) (w : World) (hx : RdI w w.heap.size .u8 A m l) (hl : ByteL l) (hm0 : 0 < m) (hm : m ≤ 9000) (_hmc : m ≤ c) (_hcm : c ≤ maxLen) (hf : l.getD 0 0 = 5) (hz : wordAt l 3 ≠ 0) :
    Calls Try.prog 103 #[.slice A m c] w (TakenPost (refReadR l).fc (refReadR l).ad (refReadR l).qt (refReadR l).to (refReadR l).xs w) := by
  have R0 : (w.alloc (.cells #[.int .i64 0, .int .i64 0, .int .i64 0, .slice none 0 0, .int .i64 0] 30)).heap[w.heap.size]? = some (.cells #[.int .i64 0, .int .i64 0, .int .i64 0, .slice none 0 0, .int .i64 0] 30 (0, 0)) := heap_alloc_new w _
  have E0 := (Ext.refl w).goA (.cells #[.int .i64 0, .int .i64 0, .int .i64 0, .slice none 0 0, .int .i64 0] 30)
  have hll := hx.len
  obtain ⟨bb, oo, rfl, hbb, c0⟩ := hx.at_ (j := 0) hm0
  rw [Nat.add_zero] at c0
  have x0 := hl 0
  rw [← List.getD_eq_getElem?_getD] at x0
  have w1r := wordAt_range l hl 1
  have w3r := wordAt_range l hl 3
  have w5r := wordAt_range l hl 5
  have hxl := Lib.hid (fun w' (E : Ext w w') => hx.ext E)
  have hlb := Lib.hid hl
  have hat := Lib.hid (fun w' (E : Ext w w') i (hi : i ≤ 1048576) => refAt_any (some ⟨bb, oo, none⟩) i m c w'.heap.size l w' (hx.ext E) hl hi (by unfold maxLen; omega))
  have C0 := (E0.cell oo hbb).trans c0
  have hfin : refReadR l = ⟨l.getD 0 0, wordAt l 1, 0, 0, [1]⟩ := by
    unfold refReadR
    rw [hf, if_pos hz]; rfl
  rw [hfin]
  have hll' := Lib.hid hll
  have u0 : IntKind.i64.wrap (l.getD 0 0) = l.getD 0 0 := by rw [IntKind.wrap_i64]; omega
  have R0' := Lib.hid R0
  clear hx hl c0 hfin R0 hll
  generalize hw1 : wordAt l 1 = ad at *
  generalize hw3 : wordAt l 3 = q3 at *
  generalize hw5 : wordAt l 5 = q5 at *
  have hw1' := Lib.hid hw1
  have hw3' := Lib.hid hw3
  have hw5' := Lib.hid hw5
  clear hw1 hw3 hw5
  rw [hf] at *
  clear hf
  have sU : (w.alloc (.cells #[.int .i64 0, .int .i64 0, .int .i64 0, .slice none 0 0, .int .i64 0] 30)).heap.size = w.heap.size + 1 := by simp
  go_enter Try.func103, Try.ntmps103
  go_wp2_with fail
  generalize w.alloc (.cells #[.int .i64 0, .int .i64 0, .int .i64 0, .slice none 0 0, .int .i64 0] 30) = U at *
  have dU : Ext U U.drew := (Ext.refl U).god
  have Cw : ∀ w', Ext U w' → w'.cell? ⟨bb, oo, none⟩ = some (.int .u8 5) := fun w' D => (D.cell oo (by omega)).trans C0
  clear C0
  refine wp_region_held_drew (S := fun w' => Ext U w') (by kernel_rfl) dU (fun hHeld => ?_)
  refine tk 0 ?_
  try simp only [Act.put, gA, gC, List.setIfInBounds_toArray, gE, gF]
  refine tk 1 ?_
  try simp only [Act.put, gA, gB, gC, List.setIfInBounds_toArray, gE, gF]
  refine tk 2 ?_
  try simp only [Act.put, gA, gB, gC, List.setIfInBounds_toArray, gE, gF]
  refine tk 3 ?_
  try simp only [Act.put, gA, gB, gC, List.setIfInBounds_toArray, gE, gF]
  refine tk 4 ?_
  try simp only [Act.put, gA, gB, gC, List.setIfInBounds_toArray, gE, gF]
  refine wpAnyH_ready (rs := [5, 7]) (by kernel_rfl) (by simp) ?_
  refine AllReadyH.cons rfl (fun K hK => ?_) (AllReadyH.cons rfl (fun K hK => ?_) (AllReadyH.nil))
  · go_simp
    go_at_call 106
    refine (hat.out _ (E0.go dU) 1 (by omega)).mono ?_
    rw [hw1'.out]
    rintro e w3 ⟨rfl, k3, rfl⟩
    have d3 := dU.goD k3
    have d4 := (Ext.refl U).goD (1 + k3)
    try dsimp only
    refine hK.out _ _ ?_ (fun hHeld => ?_)
    · first | assumption | (dsimp only; assumption)
    clear hK K
    try simp only [Act.put, gA, gB, gC, List.setIfInBounds_toArray, gE, gF]
    refine tk 6 ?_
    try simp only [Act.put, gA, gB, gC, List.setIfInBounds_toArray, gE, gF]
    refine wpAnyH_ready (rs := [7]) (by kernel_rfl) (by simp) ?_
    refine AllReadyH.cons rfl (fun K hK => ?_) ?_
    rotate_left
    · exact AllReadyH.nil
    go_simp
    refine hK.out _ _ ?_ (fun hHeld => ?_)
    · exact d4.goA _
    clear hK K
    try simp only [Act.put, gA, gB, gC, List.setIfInBounds_toArray, gE, gF]
    refine wpAnyH_ready (rs := [8]) (by kernel_rfl) (by simp) ?_
    refine AllReadyH.cons rfl (fun K hK => ?_) ?_
    rotate_left
    · exact AllReadyH.nil
    go_simp
    refine hK.out _ _ ?_ (fun hHeld => ?_)
    · exact d4.goA _
    clear hK K
    try simp only [Act.put, gA, gB, gC, List.setIfInBounds_toArray, gE, gF]
    refine wpAnyH_done (by kernel_rfl) ?_ _
    have EV := (E0.go d4).goA (.cells #[.int .i64 5, .int .i64 ad, .int .i64 0, .slice none 0 0, .int .i64 0] 30)
    have RV := ((d4.goA (.cells #[.int .i64 5, .int .i64 ad, .int .i64 0, .slice none 0 0, .int .i64 0] 30)).block w.heap.size (by omega)).trans R0'.out
    have QV := heap_alloc_new (U.drewN (1 + k3)) (.cells #[.int .i64 5, .int .i64 ad, .int .i64 0, .slice none 0 0, .int .i64 0] 30)
    rw [show (U.drewN (1 + k3)).heap.size = w.heap.size + 1 from sU] at QV
    clear Cw R0'
    generalize (U.drewN (1 + k3)).alloc (.cells #[.int .i64 5, .int .i64 ad, .int .i64 0, .slice none 0 0, .int .i64 0] 30) = V at *
    clear d3 d4 dU
    have tq : (q3 != 0) = true := by simp; exact hz
    have q0 := cellsAt QV
    have f0 := frozen_block QV
    have RV' := Lib.hid RV
    have QV' := Lib.hid QV
    clear RV QV
    go_wp2_with fail
    refine (hat.out _ EV 3 (by omega)).mono ?_
    rw [hw3'.out]
    rintro e w5 ⟨rfl, k5, e5⟩
    have D5 : Ext V w5 := e5 ▸ (Ext.refl V).goD k5
    have QX := (D5.block _ (lt_of_block QV'.out)).trans QV'.out
    have RX := (D5.block _ (lt_of_block RV'.out)).trans RV'.out
    have EX := EV.go D5
    clear e5 q0 f0
    have q1 := cellsAt QX
    have f1 := frozen_block QX
    have lw := lt_of_block QX
    have hQY : (w5.setCell ⟨w.heap.size + 1, 3, none⟩ (.slice (some ⟨w5.heap.size, 0, none⟩) 1 1)).heap[w.heap.size + 1]? = some (.cells #[.int .i64 5, .int .i64 ad, .int .i64 0, .slice (some ⟨w5.heap.size, 0, none⟩) 1 1, .int .i64 0] 30 (0, 0)) := set_block QX 3 _
    have hRY : (w5.setCell ⟨w.heap.size + 1, 3, none⟩ (.slice (some ⟨w5.heap.size, 0, none⟩) 1 1)).heap[w.heap.size]? = _ := (Below.heap_setCell w5 ⟨w.heap.size + 1, 3, none⟩ _ w.heap.size (by simp)).trans RX
    have DZ := (Ext.refl (w5.setCell ⟨w.heap.size + 1, 3, none⟩ (.slice (some ⟨w5.heap.size, 0, none⟩) 1 1))).goA (.cells #[.int .u16 1] 43)
    have QZ := (DZ.block _ (lt_of_block hQY)).trans hQY
    have RZ := (DZ.block _ (lt_of_block hRY)).trans hRY
    have EZ := ((EX.goS (p := ⟨w.heap.size + 1, 3, none⟩) (by simp) (.slice (some ⟨w5.heap.size, 0, none⟩) 1 1)).goA (.cells #[.int .u16 1] 43))
    have q2 := cellsAt QZ
    have r2 := cellsAt RZ
    have g2 := frozen_block RZ
    have RZ' := Lib.hid RZ
    clear QX RX hQY hRY QZ RZ DZ
    go_wp2_with fail
    obtain ⟨z0, z1, z2, z3, z4⟩ := five_reads RZ'.out (.int .i64 5) (.int .i64 ad) (.int .i64 0) (.slice (some ⟨w5.heap.size, 0, none⟩) 1 1) (.int .i64 0)
    refine bodyPost_ret (v := .agg #[.int .i64 5, .int .i64 ad, .int .i64 0, .slice (some ⟨w5.heap.size, 0, none⟩) 1 1, .int .i64 0]) (by simp [results, Try.results103, go_sem, z0, z1, z2, z3, z4]) rfl ?_
    have r6 : RdI ((w5.setCell ⟨w.heap.size + 1, 3, none⟩ (.slice (some ⟨w5.heap.size, 0, none⟩) 1 1)).alloc (.cells #[.int .u16 1] 43)) (w5.heap.size + 1) .u16 (some ⟨w5.heap.size, 0, none⟩) 1 [1] := RdI.new [1] (setCell_size _ _ _).symm rfl rfl
    exact ⟨_, _, _, rfl, Nat.le_refl _, by unfold maxLen; omega, five_rd r6 (by rw [alloc_size, setCell_size]; omega) _ (fun _ b o e => by injection e with e; injection e with e; omega) _ _ _ _ _, EZ.five (Nat.le_refl _) _ _ _ _ _, fun b o e => by injection e with e; injection e with e; omega⟩
  · go_simp
    refine hK.out _ _ ?_ (fun hHeld => ?_)
    · exact dU.goA _
    clear hK K
    try simp only [Act.put, gA, gB, gC, List.setIfInBounds_toArray, gE, gF]
    refine wpAnyH_ready (rs := [5]) (by kernel_rfl) (by simp) ?_
    refine AllReadyH.cons rfl (fun K hK => ?_) ?_
    rotate_left
    · exact AllReadyH.nil
    go_simp
    go_at_call 106
    refine (hat.out _ (E0.go (dU.goA _)) 1 (by omega)).mono ?_
    rw [hw1'.out]
    rintro e w3 ⟨rfl, k3, rfl⟩
    have d3 := (dU.goA (.cells #[.int .i64 0, .int .i64 0, .int .i64 0, .slice none 0 0, .int .i64 0] 30)).goD k3
    have d4 := (dU.goA (.cells #[.int .i64 0, .int .i64 0, .int .i64 0, .slice none 0 0, .int .i64 0] 30)).goD k3
    try dsimp only
    refine hK.out _ _ ?_ (fun hHeld => ?_)
    · first | assumption | (dsimp only; assumption)
    clear hK K
    try simp only [Act.put, gA, gB, gC, List.setIfInBounds_toArray, gE, gF]
    have RY := (d4.block w.heap.size (by omega)).trans R0'.out
    have QY : ((U.drew.alloc (.cells #[.int .i64 0, .int .i64 0, .int .i64 0, .slice none 0 0, .int .i64 0] 30)).drewN k3).heap[U.heap.size]? = some (.cells #[.int .i64 0, .int .i64 0, .int .i64 0, .slice none 0 0, .int .i64 0] 30 (0, 0)) := heap_alloc_new U (.cells #[.int .i64 0, .int .i64 0, .int .i64 0, .slice none 0 0, .int .i64 0] 30)
    rw [sU] at QY
    refine tk 6 ?_
    try simp only [Act.put, gA, gB, gC, List.setIfInBounds_toArray, gE, gF]
    clear Cw R0' d3
    generalize (U.drew.alloc (.cells #[.int .i64 0, .int .i64 0, .int .i64 0, .slice none 0 0, .int .i64 0] 30)).drewN k3 = Y at *
    have q0 := cellsAt QY
    have f0 := frozen_block QY
    have RY' := Lib.hid RY
    have QY' := Lib.hid QY
    clear RY QY
    refine wpAnyH_ready (rs := [8]) (by kernel_rfl) (by simp) ?_
    refine AllReadyH.cons rfl (fun K hK => ?_) ?_
    rotate_left
    · exact AllReadyH.nil
    go_simp
    refine hK.out _ _ ?_ (fun hHeld => ?_)
    · exact d4.five (by omega) _ _ _ _ _
    clear hK K
    try simp only [Act.put, gA, gB, gC, List.setIfInBounds_toArray, gE, gF]
    refine wpAnyH_done (by kernel_rfl) ?_ _
    have EV := (E0.go d4).five (i := w.heap.size + 1) (by omega) (.int .i64 5) (.int .i64 ad) (.int .i64 0) (.slice none 0 0) (.int .i64 0)
    have RV := (five_keep Y (w.heap.size + 1) w.heap.size (by omega) (.int .i64 5) (.int .i64 ad) (.int .i64 0) (.slice none 0 0) (.int .i64 0)).trans RY'.out
    have QV := five_block QY'.out (.int .i64 5) (.int .i64 ad) (.int .i64 0) (.slice none 0 0) (.int .i64 0)
    clear q0 f0
    generalize (((((Y.setCell ⟨w.heap.size + 1, 0, none⟩ (.int .i64 5)).setCell ⟨w.heap.size + 1, 1, none⟩ (.int .i64 ad)).setCell ⟨w.heap.size + 1, 2, none⟩ (.int .i64 0)).setCell ⟨w.heap.size + 1, 3, none⟩ (.slice none 0 0)).setCell ⟨w.heap.size + 1, 4, none⟩ (.int .i64 0)) = V at *
    clear d4 dU
    have tq : (q3 != 0) = true := by simp; exact hz
    have q0 := cellsAt QV
    have f0 := frozen_block QV
    have RV' := Lib.hid RV
    have QV' := Lib.hid QV
    clear RV QV
    go_wp2_with fail
    refine (hat.out _ EV 3 (by omega)).mono ?_
    rw [hw3'.out]
    rintro e w5 ⟨rfl, k5, e5⟩
    have D5 : Ext V w5 := e5 ▸ (Ext.refl V).goD k5
    have QX := (D5.block _ (lt_of_block QV'.out)).trans QV'.out
    have RX := (D5.block _ (lt_of_block RV'.out)).trans RV'.out
    have EX := EV.go D5
    clear e5 q0 f0
    have q1 := cellsAt QX
    have f1 := frozen_block QX
    have lw := lt_of_block QX
    have hQY : (w5.setCell ⟨w.heap.size + 1, 3, none⟩ (.slice (some ⟨w5.heap.size, 0, none⟩) 1 1)).heap[w.heap.size + 1]? = some (.cells #[.int .i64 5, .int .i64 ad, .int .i64 0, .slice (some ⟨w5.heap.size, 0, none⟩) 1 1, .int .i64 0] 30 (0, 0)) := set_block QX 3 _
    have hRY : (w5.setCell ⟨w.heap.size + 1, 3, none⟩ (.slice (some ⟨w5.heap.size, 0, none⟩) 1 1)).heap[w.heap.size]? = _ := (Below.heap_setCell w5 ⟨w.heap.size + 1, 3, none⟩ _ w.heap.size (by simp)).trans RX
    have DZ := (Ext.refl (w5.setCell ⟨w.heap.size + 1, 3, none⟩ (.slice (some ⟨w5.heap.size, 0, none⟩) 1 1))).goA (.cells #[.int .u16 1] 43)
    have QZ := (DZ.block _ (lt_of_block hQY)).trans hQY
    have RZ := (DZ.block _ (lt_of_block hRY)).trans hRY
    have EZ := ((EX.goS (p := ⟨w.heap.size + 1, 3, none⟩) (by simp) (.slice (some ⟨w5.heap.size, 0, none⟩) 1 1)).goA (.cells #[.int .u16 1] 43))
    have q2 := cellsAt QZ
    have r2 := cellsAt RZ
    have g2 := frozen_block RZ
    have RZ' := Lib.hid RZ
    clear QX RX hQY hRY QZ RZ DZ
    go_wp2_with fail
    obtain ⟨z0, z1, z2, z3, z4⟩ := five_reads RZ'.out (.int .i64 5) (.int .i64 ad) (.int .i64 0) (.slice (some ⟨w5.heap.size, 0, none⟩) 1 1) (.int .i64 0)
    refine bodyPost_ret (v := .agg #[.int .i64 5, .int .i64 ad, .int .i64 0, .slice (some ⟨w5.heap.size, 0, none⟩) 1 1, .int .i64 0]) (by simp [results, Try.results103, go_sem, z0, z1, z2, z3, z4]) rfl ?_
    have r6 : RdI ((w5.setCell ⟨w.heap.size + 1, 3, none⟩ (.slice (some ⟨w5.heap.size, 0, none⟩) 1 1)).alloc (.cells #[.int .u16 1] 43)) (w5.heap.size + 1) .u16 (some ⟨w5.heap.size, 0, none⟩) 1 [1] := RdI.new [1] (setCell_size _ _ _).symm rfl rfl
    exact ⟨_, _, _, rfl, Nat.le_refl _, by unfold maxLen; omega, five_rd r6 (by rw [alloc_size, setCell_size]; omega) _ (fun _ b o e => by injection e with e; injection e with e; omega) _ _ _ _ _, EZ.five (Nat.le_refl _) _ _ _ _ _, fun b o e => by injection e with e; injection e with e; omega⟩
set_option maxRecDepth 100000 in
set_option maxHeartbeats 6400000 in
theorem read_off (A : Option Addr) (m c : Nat) (l : List Int) (w : World) (hx : RdI w w.heap.size .u8 A m l) (hl : ByteL l) (hm0 : 0 < m) (hm : m ≤ 9000) (_hmc : m ≤ c) (_hcm : c ≤ maxLen) (hf : l.getD 0 0 = 5) (hz : wordAt l 3 = 0) :
    Calls Try.prog 103 #[.slice A m c] w (TakenPost (refReadR l).fc (refReadR l).ad (refReadR l).qt (refReadR l).to (refReadR l).xs w) := by
  have R0 : (w.alloc (.cells #[.int .i64 0, .int .i64 0, .int .i64 0, .slice none 0 0, .int .i64 0] 30)).heap[w.heap.size]? = some (.cells #[.int .i64 0, .int .i64 0, .int .i64 0, .slice none 0 0, .int .i64 0] 30 (0, 0)) := heap_alloc_new w _
  have E0 := (Ext.refl w).goA (.cells #[.int .i64 0, .int .i64 0, .int .i64 0, .slice none 0 0, .int .i64 0] 30)
  have hll := hx.len
  obtain ⟨bb, oo, rfl, hbb, c0⟩ := hx.at_ (j := 0) hm0
  rw [Nat.add_zero] at c0
  have x0 := hl 0
  rw [← List.getD_eq_getElem?_getD] at x0
  have w1r := wordAt_range l hl 1
  have w3r := wordAt_range l hl 3
  have w5r := wordAt_range l hl 5
  have hxl := Lib.hid (fun w' (E : Ext w w') => hx.ext E)
  have hlb := Lib.hid hl
  have hat := Lib.hid (fun w' (E : Ext w w') i (hi : i ≤ 1048576) => refAt_any (some ⟨bb, oo, none⟩) i m c w'.heap.size l w' (hx.ext E) hl hi (by unfold maxLen; omega))
  have C0 := (E0.cell oo hbb).trans c0
  have hfin : refReadR l = ⟨l.getD 0 0, wordAt l 1, 0, 0, [0]⟩ := by
    unfold refReadR
    rw [hf, hz]; rfl
  rw [hfin]
  have hll' := Lib.hid hll
  have u0 : IntKind.i64.wrap (l.getD 0 0) = l.getD 0 0 := by rw [IntKind.wrap_i64]; omega
  have R0' := Lib.hid R0
  clear hx hl c0 hfin R0 hll
  generalize hw1 : wordAt l 1 = ad at *
  generalize hw3 : wordAt l 3 = q3 at *
  generalize hw5 : wordAt l 5 = q5 at *
  have hw1' := Lib.hid hw1
  have hw3' := Lib.hid hw3
  have hw5' := Lib.hid hw5
  clear hw1 hw3 hw5
  rw [hf] at *
  clear hf
  have sU : (w.alloc (.cells #[.int .i64 0, .int .i64 0, .int .i64 0, .slice none 0 0, .int .i64 0] 30)).heap.size = w.heap.size + 1 := by simp
  go_enter Try.func103, Try.ntmps103
  go_wp2_with fail
  generalize w.alloc (.cells #[.int .i64 0, .int .i64 0, .int .i64 0, .slice none 0 0, .int .i64 0] 30) = U at *
  have dU : Ext U U.drew := (Ext.refl U).god
  have Cw : ∀ w', Ext U w' → w'.cell? ⟨bb, oo, none⟩ = some (.int .u8 5) := fun w' D => (D.cell oo (by omega)).trans C0
  clear C0
  refine wp_region_held_drew (S := fun w' => Ext U w') (by kernel_rfl) dU (fun hHeld => ?_)
  refine tk 0 ?_
  try simp only [Act.put, gA, gC, List.setIfInBounds_toArray, gE, gF]
  refine tk 1 ?_
  try simp only [Act.put, gA, gB, gC, List.setIfInBounds_toArray, gE, gF]
  refine tk 2 ?_
  try simp only [Act.put, gA, gB, gC, List.setIfInBounds_toArray, gE, gF]
  refine tk 3 ?_
  try simp only [Act.put, gA, gB, gC, List.setIfInBounds_toArray, gE, gF]
  refine tk 4 ?_
  try simp only [Act.put, gA, gB, gC, List.setIfInBounds_toArray, gE, gF]
  refine wpAnyH_ready (rs := [5, 7]) (by kernel_rfl) (by simp) ?_
  refine AllReadyH.cons rfl (fun K hK => ?_) (AllReadyH.cons rfl (fun K hK => ?_) (AllReadyH.nil))
  · go_simp
    go_at_call 106
    refine (hat.out _ (E0.go dU) 1 (by omega)).mono ?_
    rw [hw1'.out]
    rintro e w3 ⟨rfl, k3, rfl⟩
    have d3 := dU.goD k3
    have d4 := (Ext.refl U).goD (1 + k3)
    try dsimp only
    refine hK.out _ _ ?_ (fun hHeld => ?_)
    · first | assumption | (dsimp only; assumption)
    clear hK K
    try simp only [Act.put, gA, gB, gC, List.setIfInBounds_toArray, gE, gF]
    refine tk 6 ?_
    try simp only [Act.put, gA, gB, gC, List.setIfInBounds_toArray, gE, gF]
    refine wpAnyH_ready (rs := [7]) (by kernel_rfl) (by simp) ?_
    refine AllReadyH.cons rfl (fun K hK => ?_) ?_
    rotate_left
    · exact AllReadyH.nil
    go_simp
    refine hK.out _ _ ?_ (fun hHeld => ?_)
    · exact d4.goA _
    clear hK K
    try simp only [Act.put, gA, gB, gC, List.setIfInBounds_toArray, gE, gF]
    refine wpAnyH_ready (rs := [8]) (by kernel_rfl) (by simp) ?_
    refine AllReadyH.cons rfl (fun K hK => ?_) ?_
    rotate_left
    · exact AllReadyH.nil
    go_simp
    refine hK.out _ _ ?_ (fun hHeld => ?_)
    · exact d4.goA _
    clear hK K
    try simp only [Act.put, gA, gB, gC, List.setIfInBounds_toArray, gE, gF]
    refine wpAnyH_done (by kernel_rfl) ?_ _
    have EV := (E0.go d4).goA (.cells #[.int .i64 5, .int .i64 ad, .int .i64 0, .slice none 0 0, .int .i64 0] 30)
    have RV := ((d4.goA (.cells #[.int .i64 5, .int .i64 ad, .int .i64 0, .slice none 0 0, .int .i64 0] 30)).block w.heap.size (by omega)).trans R0'.out
    have QV := heap_alloc_new (U.drewN (1 + k3)) (.cells #[.int .i64 5, .int .i64 ad, .int .i64 0, .slice none 0 0, .int .i64 0] 30)
    rw [show (U.drewN (1 + k3)).heap.size = w.heap.size + 1 from sU] at QV
    clear Cw R0'
    generalize (U.drewN (1 + k3)).alloc (.cells #[.int .i64 5, .int .i64 ad, .int .i64 0, .slice none 0 0, .int .i64 0] 30) = V at *
    clear d3 d4 dU
    have tq : (q3 != 0) = false := by simp; exact hz
    have q0 := cellsAt QV
    have f0 := frozen_block QV
    have RV' := Lib.hid RV
    have QV' := Lib.hid QV
    clear RV QV
    go_wp2_with fail
    refine (hat.out _ EV 3 (by omega)).mono ?_
    rw [hw3'.out]
    rintro e w5 ⟨rfl, k5, e5⟩
    have D5 : Ext V w5 := e5 ▸ (Ext.refl V).goD k5
    have QX := (D5.block _ (lt_of_block QV'.out)).trans QV'.out
    have RX := (D5.block _ (lt_of_block RV'.out)).trans RV'.out
    have EX := EV.go D5
    clear e5 q0 f0
    have q1 := cellsAt QX
    have f1 := frozen_block QX
    have lw := lt_of_block QX
    have hQY : (w5.setCell ⟨w.heap.size + 1, 3, none⟩ (.slice (some ⟨w5.heap.size, 0, none⟩) 1 1)).heap[w.heap.size + 1]? = some (.cells #[.int .i64 5, .int .i64 ad, .int .i64 0, .slice (some ⟨w5.heap.size, 0, none⟩) 1 1, .int .i64 0] 30 (0, 0)) := set_block QX 3 _
    have hRY : (w5.setCell ⟨w.heap.size + 1, 3, none⟩ (.slice (some ⟨w5.heap.size, 0, none⟩) 1 1)).heap[w.heap.size]? = _ := (Below.heap_setCell w5 ⟨w.heap.size + 1, 3, none⟩ _ w.heap.size (by simp)).trans RX
    have DZ := (Ext.refl (w5.setCell ⟨w.heap.size + 1, 3, none⟩ (.slice (some ⟨w5.heap.size, 0, none⟩) 1 1))).goA (.cells #[.int .u16 0] 43)
    have QZ := (DZ.block _ (lt_of_block hQY)).trans hQY
    have RZ := (DZ.block _ (lt_of_block hRY)).trans hRY
    have EZ := ((EX.goS (p := ⟨w.heap.size + 1, 3, none⟩) (by simp) (.slice (some ⟨w5.heap.size, 0, none⟩) 1 1)).goA (.cells #[.int .u16 0] 43))
    have q2 := cellsAt QZ
    have r2 := cellsAt RZ
    have g2 := frozen_block RZ
    have RZ' := Lib.hid RZ
    clear QX RX hQY hRY QZ RZ DZ
    go_wp2_with fail
    obtain ⟨z0, z1, z2, z3, z4⟩ := five_reads RZ'.out (.int .i64 5) (.int .i64 ad) (.int .i64 0) (.slice (some ⟨w5.heap.size, 0, none⟩) 1 1) (.int .i64 0)
    refine bodyPost_ret (v := .agg #[.int .i64 5, .int .i64 ad, .int .i64 0, .slice (some ⟨w5.heap.size, 0, none⟩) 1 1, .int .i64 0]) (by simp [results, Try.results103, go_sem, z0, z1, z2, z3, z4]) rfl ?_
    have r6 : RdI ((w5.setCell ⟨w.heap.size + 1, 3, none⟩ (.slice (some ⟨w5.heap.size, 0, none⟩) 1 1)).alloc (.cells #[.int .u16 0] 43)) (w5.heap.size + 1) .u16 (some ⟨w5.heap.size, 0, none⟩) 1 [0] := RdI.new [0] (setCell_size _ _ _).symm rfl rfl
    exact ⟨_, _, _, rfl, Nat.le_refl _, by unfold maxLen; omega, five_rd r6 (by rw [alloc_size, setCell_size]; omega) _ (fun _ b o e => by injection e with e; injection e with e; omega) _ _ _ _ _, EZ.five (Nat.le_refl _) _ _ _ _ _, fun b o e => by injection e with e; injection e with e; omega⟩
  · go_simp
    refine hK.out _ _ ?_ (fun hHeld => ?_)
    · exact dU.goA _
    clear hK K
    try simp only [Act.put, gA, gB, gC, List.setIfInBounds_toArray, gE, gF]
    refine wpAnyH_ready (rs := [5]) (by kernel_rfl) (by simp) ?_
    refine AllReadyH.cons rfl (fun K hK => ?_) ?_
    rotate_left
    · exact AllReadyH.nil
    go_simp
    go_at_call 106
    refine (hat.out _ (E0.go (dU.goA _)) 1 (by omega)).mono ?_
    rw [hw1'.out]
    rintro e w3 ⟨rfl, k3, rfl⟩
    have d3 := (dU.goA (.cells #[.int .i64 0, .int .i64 0, .int .i64 0, .slice none 0 0, .int .i64 0] 30)).goD k3
    have d4 := (dU.goA (.cells #[.int .i64 0, .int .i64 0, .int .i64 0, .slice none 0 0, .int .i64 0] 30)).goD k3
    try dsimp only
    refine hK.out _ _ ?_ (fun hHeld => ?_)
    · first | assumption | (dsimp only; assumption)
    clear hK K
    try simp only [Act.put, gA, gB, gC, List.setIfInBounds_toArray, gE, gF]
    have RY := (d4.block w.heap.size (by omega)).trans R0'.out
    have QY : ((U.drew.alloc (.cells #[.int .i64 0, .int .i64 0, .int .i64 0, .slice none 0 0, .int .i64 0] 30)).drewN k3).heap[U.heap.size]? = some (.cells #[.int .i64 0, .int .i64 0, .int .i64 0, .slice none 0 0, .int .i64 0] 30 (0, 0)) := heap_alloc_new U (.cells #[.int .i64 0, .int .i64 0, .int .i64 0, .slice none 0 0, .int .i64 0] 30)
    rw [sU] at QY
    refine tk 6 ?_
    try simp only [Act.put, gA, gB, gC, List.setIfInBounds_toArray, gE, gF]
    clear Cw R0' d3
    generalize (U.drew.alloc (.cells #[.int .i64 0, .int .i64 0, .int .i64 0, .slice none 0 0, .int .i64 0] 30)).drewN k3 = Y at *
    have q0 := cellsAt QY
    have f0 := frozen_block QY
    have RY' := Lib.hid RY
    have QY' := Lib.hid QY
    clear RY QY
    refine wpAnyH_ready (rs := [8]) (by kernel_rfl) (by simp) ?_
    refine AllReadyH.cons rfl (fun K hK => ?_) ?_
    rotate_left
    · exact AllReadyH.nil
    go_simp
    refine hK.out _ _ ?_ (fun hHeld => ?_)
    · exact d4.five (by omega) _ _ _ _ _
    clear hK K
    try simp only [Act.put, gA, gB, gC, List.setIfInBounds_toArray, gE, gF]
    refine wpAnyH_done (by kernel_rfl) ?_ _
    have EV := (E0.go d4).five (i := w.heap.size + 1) (by omega) (.int .i64 5) (.int .i64 ad) (.int .i64 0) (.slice none 0 0) (.int .i64 0)
    have RV := (five_keep Y (w.heap.size + 1) w.heap.size (by omega) (.int .i64 5) (.int .i64 ad) (.int .i64 0) (.slice none 0 0) (.int .i64 0)).trans RY'.out
    have QV := five_block QY'.out (.int .i64 5) (.int .i64 ad) (.int .i64 0) (.slice none 0 0) (.int .i64 0)
    clear q0 f0
    generalize (((((Y.setCell ⟨w.heap.size + 1, 0, none⟩ (.int .i64 5)).setCell ⟨w.heap.size + 1, 1, none⟩ (.int .i64 ad)).setCell ⟨w.heap.size + 1, 2, none⟩ (.int .i64 0)).setCell ⟨w.heap.size + 1, 3, none⟩ (.slice none 0 0)).setCell ⟨w.heap.size + 1, 4, none⟩ (.int .i64 0)) = V at *
    clear d4 dU
    have tq : (q3 != 0) = false := by simp; exact hz
    have q0 := cellsAt QV
    have f0 := frozen_block QV
    have RV' := Lib.hid RV
    have QV' := Lib.hid QV
    clear RV QV
    go_wp2_with fail
    refine (hat.out _ EV 3 (by omega)).mono ?_
    rw [hw3'.out]
    rintro e w5 ⟨rfl, k5, e5⟩
    have D5 : Ext V w5 := e5 ▸ (Ext.refl V).goD k5
    have QX := (D5.block _ (lt_of_block QV'.out)).trans QV'.out
    have RX := (D5.block _ (lt_of_block RV'.out)).trans RV'.out
    have EX := EV.go D5
    clear e5 q0 f0
    have q1 := cellsAt QX
    have f1 := frozen_block QX
    have lw := lt_of_block QX
    have hQY : (w5.setCell ⟨w.heap.size + 1, 3, none⟩ (.slice (some ⟨w5.heap.size, 0, none⟩) 1 1)).heap[w.heap.size + 1]? = some (.cells #[.int .i64 5, .int .i64 ad, .int .i64 0, .slice (some ⟨w5.heap.size, 0, none⟩) 1 1, .int .i64 0] 30 (0, 0)) := set_block QX 3 _
    have hRY : (w5.setCell ⟨w.heap.size + 1, 3, none⟩ (.slice (some ⟨w5.heap.size, 0, none⟩) 1 1)).heap[w.heap.size]? = _ := (Below.heap_setCell w5 ⟨w.heap.size + 1, 3, none⟩ _ w.heap.size (by simp)).trans RX
    have DZ := (Ext.refl (w5.setCell ⟨w.heap.size + 1, 3, none⟩ (.slice (some ⟨w5.heap.size, 0, none⟩) 1 1))).goA (.cells #[.int .u16 0] 43)
    have QZ := (DZ.block _ (lt_of_block hQY)).trans hQY
    have RZ := (DZ.block _ (lt_of_block hRY)).trans hRY
    have EZ := ((EX.goS (p := ⟨w.heap.size + 1, 3, none⟩) (by simp) (.slice (some ⟨w5.heap.size, 0, none⟩) 1 1)).goA (.cells #[.int .u16 0] 43))
    have q2 := cellsAt QZ
    have r2 := cellsAt RZ
    have g2 := frozen_block RZ
    have RZ' := Lib.hid RZ
    clear QX RX hQY hRY QZ RZ DZ
    go_wp2_with fail
    obtain ⟨z0, z1, z2, z3, z4⟩ := five_reads RZ'.out (.int .i64 5) (.int .i64 ad) (.int .i64 0) (.slice (some ⟨w5.heap.size, 0, none⟩) 1 1) (.int .i64 0)
    refine bodyPost_ret (v := .agg #[.int .i64 5, .int .i64 ad, .int .i64 0, .slice (some ⟨w5.heap.size, 0, none⟩) 1 1, .int .i64 0]) (by simp [results, Try.results103, go_sem, z0, z1, z2, z3, z4]) rfl ?_
    have r6 : RdI ((w5.setCell ⟨w.heap.size + 1, 3, none⟩ (.slice (some ⟨w5.heap.size, 0, none⟩) 1 1)).alloc (.cells #[.int .u16 0] 43)) (w5.heap.size + 1) .u16 (some ⟨w5.heap.size, 0, none⟩) 1 [0] := RdI.new [0] (setCell_size _ _ _).symm rfl rfl
    exact ⟨_, _, _, rfl, Nat.le_refl _, by unfold maxLen; omega, five_rd r6 (by rw [alloc_size, setCell_size]; omega) _ (fun _ b o e => by injection e with e; injection e with e; omega) _ _ _ _ _, EZ.five (Nat.le_refl _) _ _ _ _ _, fun b o e => by injection e with e; injection e with e; omega⟩
end Go.Proofs.Ytgagpalffdgjnaa
