/- The reference of layer 4: read, walked: codes with a body. (Printed by wip/gen/read04.py B.) -/
import Derived.Test.YtgagpalffdgjnaaRef04Read
import Derived.Test.YtgagpalffdgjnaaG61
namespace Go.Proofs.Ytgagpalffdgjnaa
open Go.RowKit

set_option maxRecDepth 100000 in
set_option maxHeartbeats 6400000 in
theorem read_short15 (A : Option Addr) (m c : Nat) (l : List Int) (w : World) (hx : RdI w w.heap.size .u8 A m l) (hl : ByteL l) (hm0 : 0 < m) (hm : m ≤ 9000) (_hmc : m ≤ c) (_hcm : c ≤ maxLen) (hf : l.getD 0 0 = 15) (hk : m ≤ 6) :
    Calls Try.prog 103 #[.slice A m c] w (TakenPost (refReadR l).fc (refReadR l).ad (refReadR l).qt (refReadR l).to (refReadR l).xs w) := by
  have R0 : (w.alloc (.cells #[.int .i64 0, .int .i64 0, .int .i64 0, .slice none 0 0, .int .i64 0] 30)).heap[w.heap.size]? = some (.cells #[.int .i64 0, .int .i64 0, .int .i64 0, .slice none 0 0, .int .i64 0] 30 (0, 0)) := heap_alloc_new w _
  have E0 := (Ext.refl w).goA (.cells #[.int .i64 0, .int .i64 0, .int .i64 0, .slice none 0 0, .int .i64 0] 30)
  have hll := hx.len
  obtain ⟨bb, oo, rfl, hbb, c0⟩ := hx.at_ (j := 0) hm0
  rw [Nat.add_zero] at c0
  have x0 := hl 0
  rw [← List.getD_eq_getElem?_getD] at x0
  have w1r := wordAt_range l hl 1
  have w3r := wordAt_range l hl 3
  have w5r := wordAt_range l hl 5
  have hxl := Lib.hid (fun w' (E : Ext w w') => hx.ext E)
  have hlb := Lib.hid hl
  have hat := Lib.hid (fun w' (E : Ext w w') i (hi : i ≤ 1048576) => refAt_any (some ⟨bb, oo, none⟩) i m c w'.heap.size l w' (hx.ext E) hl hi (by unfold maxLen; omega))
  have C0 := (E0.cell oo hbb).trans c0
  have hfin : refReadR l = ⟨l.getD 0 0, wordAt l 1, wordAt l 3, 0, []⟩ := by
    unfold refReadR
    have hn : ¬ 6 < l.length := by omega
    rw [hf]
    simp [hn]
  rw [hfin]
  have hll' := Lib.hid hll
  have u0 : IntKind.i64.wrap (l.getD 0 0) = l.getD 0 0 := by rw [IntKind.wrap_i64]; omega
  have R0' := Lib.hid R0
  clear hx hl c0 hfin R0 hll
  generalize hw1 : wordAt l 1 = ad at *
  generalize hw3 : wordAt l 3 = q3 at *
  generalize hw5 : wordAt l 5 = q5 at *
  have hw1' := Lib.hid hw1
  have hw3' := Lib.hid hw3
  have hw5' := Lib.hid hw5
  clear hw1 hw3 hw5
  rw [hf] at *
  clear hf
  have sU : (w.alloc (.cells #[.int .i64 0, .int .i64 0, .int .i64 0, .slice none 0 0, .int .i64 0] 30)).heap.size = w.heap.size + 1 := by simp
  go_enter Try.func103, Try.ntmps103
  go_wp2_with fail
  generalize w.alloc (.cells #[.int .i64 0, .int .i64 0, .int .i64 0, .slice none 0 0, .int .i64 0] 30) = U at *
  have dU : Ext U U.drew := (Ext.refl U).god
  have Cw : ∀ w', Ext U w' → w'.cell? ⟨bb, oo, none⟩ = some (.int .u8 15) := fun w' D => (D.cell oo (by omega)).trans C0
  clear C0
  refine wp_region_held_drew (S := fun w' => Ext U w') (by kernel_rfl) dU (fun hHeld => ?_)
  refine tk 0 ?_
  try simp only [Act.put, gA, gC, List.setIfInBounds_toArray, gE, gF]
  refine tk 1 ?_
  try simp only [Act.put, gA, gB, gC, List.setIfInBounds_toArray, gE, gF]
  refine tk 2 ?_
  try simp only [Act.put, gA, gB, gC, List.setIfInBounds_toArray, gE, gF]
  refine tk 3 ?_
  try simp only [Act.put, gA, gB, gC, List.setIfInBounds_toArray, gE, gF]
  refine tk 4 ?_
  try simp only [Act.put, gA, gB, gC, List.setIfInBounds_toArray, gE, gF]
  refine wpAnyH_ready (rs := [5, 7]) (by kernel_rfl) (by simp) ?_
  refine AllReadyH.cons rfl (fun K hK => ?_) (AllReadyH.cons rfl (fun K hK => ?_) (AllReadyH.nil))
  · go_simp
    go_at_call 106
    refine (hat.out _ (E0.go dU) 1 (by omega)).mono ?_
    rw [hw1'.out]
    rintro e w3 ⟨rfl, k3, rfl⟩
    have d3 := dU.goD k3
    have d4 := (Ext.refl U).goD (1 + k3)
    try dsimp only
    refine hK.out _ _ ?_ (fun hHeld => ?_)
    · first | assumption | (dsimp only; assumption)
    clear hK K
    try simp only [Act.put, gA, gB, gC, List.setIfInBounds_toArray, gE, gF]
    refine tk 6 ?_
    try simp only [Act.put, gA, gB, gC, List.setIfInBounds_toArray, gE, gF]
    refine wpAnyH_ready (rs := [7]) (by kernel_rfl) (by simp) ?_
    refine AllReadyH.cons rfl (fun K hK => ?_) ?_
    rotate_left
    · exact AllReadyH.nil
    go_simp
    refine hK.out _ _ ?_ (fun hHeld => ?_)
    · exact d4.goA _
    clear hK K
    try simp only [Act.put, gA, gB, gC, List.setIfInBounds_toArray, gE, gF]
    refine wpAnyH_ready (rs := [8]) (by kernel_rfl) (by simp) ?_
    refine AllReadyH.cons rfl (fun K hK => ?_) ?_
    rotate_left
    · exact AllReadyH.nil
    go_simp
    refine hK.out _ _ ?_ (fun hHeld => ?_)
    · exact d4.goA _
    clear hK K
    try simp only [Act.put, gA, gB, gC, List.setIfInBounds_toArray, gE, gF]
    refine wpAnyH_done (by kernel_rfl) ?_ _
    have EV := (E0.go d4).goA (.cells #[.int .i64 15, .int .i64 ad, .int .i64 0, .slice none 0 0, .int .i64 0] 30)
    have RV := ((d4.goA (.cells #[.int .i64 15, .int .i64 ad, .int .i64 0, .slice none 0 0, .int .i64 0] 30)).block w.heap.size (by omega)).trans R0'.out
    have QV := heap_alloc_new (U.drewN (1 + k3)) (.cells #[.int .i64 15, .int .i64 ad, .int .i64 0, .slice none 0 0, .int .i64 0] 30)
    rw [show (U.drewN (1 + k3)).heap.size = w.heap.size + 1 from sU] at QV
    clear Cw R0'
    generalize (U.drewN (1 + k3)).alloc (.cells #[.int .i64 15, .int .i64 ad, .int .i64 0, .slice none 0 0, .int .i64 0] 30) = V at *
    clear d3 d4 dU
    have tl : decide (6 < m) = false := by simp; omega
    have tl2 : ¬ (6 : Int) < m := by omega
    have tl3 : ¬ 6 < m := by omega
    have q0 := cellsAt QV
    have f0 := frozen_block QV
    have RV' := Lib.hid RV
    have QV' := Lib.hid QV
    clear RV QV
    go_wp2_with fail
    refine (hat.out _ EV 3 (by omega)).mono ?_
    rw [hw3'.out]
    rintro e w5 ⟨rfl, k5, rfl⟩
    have QX : ((V.drewN k5).setCell ⟨w.heap.size + 1, 2, none⟩ (.int .i64 q3)).heap[w.heap.size + 1]? = some (.cells #[.int .i64 15, .int .i64 ad, .int .i64 q3, .slice none 0 0, .int .i64 0] 30 (0, 0)) := set_block (w := V.drewN k5) QV'.out 2 (.int .i64 q3)
    have RX := Lib.hid ((Below.heap_setCell (V.drewN k5) ⟨w.heap.size + 1, 2, none⟩ (.int .i64 q3) w.heap.size (by simp)).trans RV'.out)
    have EX := (EV.goD k5).goS (p := ⟨w.heap.size + 1, 2, none⟩) (by simp) (.int .i64 q3)
    have q1 := cellsAt QX
    have r1 := cellsAt RX.out
    have g1 := frozen_block RX.out
    clear QX
    go_wp2_with fail
    obtain ⟨z0, z1, z2, z3, z4⟩ := five_reads RX.out (.int .i64 15) (.int .i64 ad) (.int .i64 q3) (.slice none 0 0) (.int .i64 0)
    refine bodyPost_ret (v := .agg #[.int .i64 15, .int .i64 ad, .int .i64 q3, .slice none 0 0, .int .i64 0]) (by simp [results, Try.results103, go_sem, z0, z1, z2, z3, z4]) rfl ?_
    exact ⟨_, _, _, rfl, Nat.le_refl _, by unfold maxLen; omega, RdI.nil _, EX.five (Nat.le_refl _) _ _ _ _ _, fun b o e => (nomatch e)⟩
  · go_simp
    refine hK.out _ _ ?_ (fun hHeld => ?_)
    · exact dU.goA _
    clear hK K
    try simp only [Act.put, gA, gB, gC, List.setIfInBounds_toArray, gE, gF]
    refine wpAnyH_ready (rs := [5]) (by kernel_rfl) (by simp) ?_
    refine AllReadyH.cons rfl (fun K hK => ?_) ?_
    rotate_left
    · exact AllReadyH.nil
    go_simp
    go_at_call 106
    refine (hat.out _ (E0.go (dU.goA _)) 1 (by omega)).mono ?_
    rw [hw1'.out]
    rintro e w3 ⟨rfl, k3, rfl⟩
    have d3 := (dU.goA (.cells #[.int .i64 0, .int .i64 0, .int .i64 0, .slice none 0 0, .int .i64 0] 30)).goD k3
    have d4 := (dU.goA (.cells #[.int .i64 0, .int .i64 0, .int .i64 0, .slice none 0 0, .int .i64 0] 30)).goD k3
    try dsimp only
    refine hK.out _ _ ?_ (fun hHeld => ?_)
    · first | assumption | (dsimp only; assumption)
    clear hK K
    try simp only [Act.put, gA, gB, gC, List.setIfInBounds_toArray, gE, gF]
    have RY := (d4.block w.heap.size (by omega)).trans R0'.out
    have QY : ((U.drew.alloc (.cells #[.int .i64 0, .int .i64 0, .int .i64 0, .slice none 0 0, .int .i64 0] 30)).drewN k3).heap[U.heap.size]? = some (.cells #[.int .i64 0, .int .i64 0, .int .i64 0, .slice none 0 0, .int .i64 0] 30 (0, 0)) := heap_alloc_new U (.cells #[.int .i64 0, .int .i64 0, .int .i64 0, .slice none 0 0, .int .i64 0] 30)
    rw [sU] at QY
    refine tk 6 ?_
    try simp only [Act.put, gA, gB, gC, List.setIfInBounds_toArray, gE, gF]
    clear Cw R0' d3
    generalize (U.drew.alloc (.cells #[.int .i64 0, .int .i64 0, .int .i64 0, .slice none 0 0, .int .i64 0] 30)).drewN k3 = Y at *
    have q0 := cellsAt QY
    have f0 := frozen_block QY
    have RY' := Lib.hid RY
    have QY' := Lib.hid QY
    clear RY QY
    refine wpAnyH_ready (rs := [8]) (by kernel_rfl) (by simp) ?_
    refine AllReadyH.cons rfl (fun K hK => ?_) ?_
    rotate_left
    · exact AllReadyH.nil
    go_simp
    refine hK.out _ _ ?_ (fun hHeld => ?_)
    · exact d4.five (by omega) _ _ _ _ _
    clear hK K
    try simp only [Act.put, gA, gB, gC, List.setIfInBounds_toArray, gE, gF]
    refine wpAnyH_done (by kernel_rfl) ?_ _
    have EV := (E0.go d4).five (i := w.heap.size + 1) (by omega) (.int .i64 15) (.int .i64 ad) (.int .i64 0) (.slice none 0 0) (.int .i64 0)
    have RV := (five_keep Y (w.heap.size + 1) w.heap.size (by omega) (.int .i64 15) (.int .i64 ad) (.int .i64 0) (.slice none 0 0) (.int .i64 0)).trans RY'.out
    have QV := five_block QY'.out (.int .i64 15) (.int .i64 ad) (.int .i64 0) (.slice none 0 0) (.int .i64 0)
    clear q0 f0
    generalize (((((Y.setCell ⟨w.heap.size + 1, 0, none⟩ (.int .i64 15)).setCell ⟨w.heap.size + 1, 1, none⟩ (.int .i64 ad)).setCell ⟨w.heap.size + 1, 2, none⟩ (.int .i64 0)).setCell ⟨w.heap.size + 1, 3, none⟩ (.slice none 0 0)).setCell ⟨w.heap.size + 1, 4, none⟩ (.int .i64 0)) = V at *
    clear d4 dU
    have tl : decide (6 < m) = false := by simp; omega
    have tl2 : ¬ (6 : Int) < m := by omega
    have tl3 : ¬ 6 < m := by omega
    have q0 := cellsAt QV
    have f0 := frozen_block QV
    have RV' := Lib.hid RV
    have QV' := Lib.hid QV
    clear RV QV
    go_wp2_with fail
    refine (hat.out _ EV 3 (by omega)).mono ?_
    rw [hw3'.out]
    rintro e w5 ⟨rfl, k5, rfl⟩
    have QX : ((V.drewN k5).setCell ⟨w.heap.size + 1, 2, none⟩ (.int .i64 q3)).heap[w.heap.size + 1]? = some (.cells #[.int .i64 15, .int .i64 ad, .int .i64 q3, .slice none 0 0, .int .i64 0] 30 (0, 0)) := set_block (w := V.drewN k5) QV'.out 2 (.int .i64 q3)
    have RX := Lib.hid ((Below.heap_setCell (V.drewN k5) ⟨w.heap.size + 1, 2, none⟩ (.int .i64 q3) w.heap.size (by simp)).trans RV'.out)
    have EX := (EV.goD k5).goS (p := ⟨w.heap.size + 1, 2, none⟩) (by simp) (.int .i64 q3)
    have q1 := cellsAt QX
    have r1 := cellsAt RX.out
    have g1 := frozen_block RX.out
    clear QX
    go_wp2_with fail
    obtain ⟨z0, z1, z2, z3, z4⟩ := five_reads RX.out (.int .i64 15) (.int .i64 ad) (.int .i64 q3) (.slice none 0 0) (.int .i64 0)
    refine bodyPost_ret (v := .agg #[.int .i64 15, .int .i64 ad, .int .i64 q3, .slice none 0 0, .int .i64 0]) (by simp [results, Try.results103, go_sem, z0, z1, z2, z3, z4]) rfl ?_
    exact ⟨_, _, _, rfl, Nat.le_refl _, by unfold maxLen; omega, RdI.nil _, EX.five (Nat.le_refl _) _ _ _ _ _, fun b o e => (nomatch e)⟩
set_option maxRecDepth 100000 in
set_option maxHeartbeats 6400000 in
theorem read_short16 (A : Option Addr) (m c : Nat) (l : List Int) (w : World) (hx : RdI w w.heap.size .u8 A m l) (hl : ByteL l) (hm0 : 0 < m) (hm : m ≤ 9000) (_hmc : m ≤ c) (_hcm : c ≤ maxLen) (hf : l.getD 0 0 = 16) (hk : m ≤ 6) :
    Calls Try.prog 103 #[.slice A m c] w (TakenPost (refReadR l).fc (refReadR l).ad (refReadR l).qt (refReadR l).to (refReadR l).xs w) := by
  have R0 : (w.alloc (.cells #[.int .i64 0, .int .i64 0, .int .i64 0, .slice none 0 0, .int .i64 0] 30)).heap[w.heap.size]? = some (.cells #[.int .i64 0, .int .i64 0, .int .i64 0, .slice none 0 0, .int .i64 0] 30 (0, 0)) := heap_alloc_new w _
  have E0 := (Ext.refl w).goA (.cells #[.int .i64 0, .int .i64 0, .int .i64 0, .slice none 0 0, .int .i64 0] 30)
  have hll := hx.len
  obtain ⟨bb, oo, rfl, hbb, c0⟩ := hx.at_ (j := 0) hm0
  rw [Nat.add_zero] at c0
  have x0 := hl 0
  rw [← List.getD_eq_getElem?_getD] at x0
  have w1r := wordAt_range l hl 1
  have w3r := wordAt_range l hl 3
  have w5r := wordAt_range l hl 5
  have hxl := Lib.hid (fun w' (E : Ext w w') => hx.ext E)
  have hlb := Lib.hid hl
  have hat := Lib.hid (fun w' (E : Ext w w') i (hi : i ≤ 1048576) => refAt_any (some ⟨bb, oo, none⟩) i m c w'.heap.size l w' (hx.ext E) hl hi (by unfold maxLen; omega))
  have C0 := (E0.cell oo hbb).trans c0
  have hfin : refReadR l = ⟨l.getD 0 0, wordAt l 1, wordAt l 3, 0, []⟩ := by
    unfold refReadR
    have hn : ¬ 6 < l.length := by omega
    rw [hf]
    simp [hn]
  rw [hfin]
  have hll' := Lib.hid hll
  have u0 : IntKind.i64.wrap (l.getD 0 0) = l.getD 0 0 := by rw [IntKind.wrap_i64]; omega
  have R0' := Lib.hid R0
  clear hx hl c0 hfin R0 hll
  generalize hw1 : wordAt l 1 = ad at *
  generalize hw3 : wordAt l 3 = q3 at *
  generalize hw5 : wordAt l 5 = q5 at *
  have hw1' := Lib.hid hw1
  have hw3' := Lib.hid hw3
  have hw5' := Lib.hid hw5
  clear hw1 hw3 hw5
  rw [hf] at *
  clear hf
  have sU : (w.alloc (.cells #[.int .i64 0, .int .i64 0, .int .i64 0, .slice none 0 0, .int .i64 0] 30)).heap.size = w.heap.size + 1 := by simp
  go_enter Try.func103, Try.ntmps103
  go_wp2_with fail
  generalize w.alloc (.cells #[.int .i64 0, .int .i64 0, .int .i64 0, .slice none 0 0, .int .i64 0] 30) = U at *
  have dU : Ext U U.drew := (Ext.refl U).god
  have Cw : ∀ w', Ext U w' → w'.cell? ⟨bb, oo, none⟩ = some (.int .u8 16) := fun w' D => (D.cell oo (by omega)).trans C0
  clear C0
  refine wp_region_held_drew (S := fun w' => Ext U w') (by kernel_rfl) dU (fun hHeld => ?_)
  refine tk 0 ?_
  try simp only [Act.put, gA, gC, List.setIfInBounds_toArray, gE, gF]
  refine tk 1 ?_
  try simp only [Act.put, gA, gB, gC, List.setIfInBounds_toArray, gE, gF]
  refine tk 2 ?_
  try simp only [Act.put, gA, gB, gC, List.setIfInBounds_toArray, gE, gF]
  refine tk 3 ?_
  try simp only [Act.put, gA, gB, gC, List.setIfInBounds_toArray, gE, gF]
  refine tk 4 ?_
  try simp only [Act.put, gA, gB, gC, List.setIfInBounds_toArray, gE, gF]
  refine wpAnyH_ready (rs := [5, 7]) (by kernel_rfl) (by simp) ?_
  refine AllReadyH.cons rfl (fun K hK => ?_) (AllReadyH.cons rfl (fun K hK => ?_) (AllReadyH.nil))
  · go_simp
    go_at_call 106
    refine (hat.out _ (E0.go dU) 1 (by omega)).mono ?_
    rw [hw1'.out]
    rintro e w3 ⟨rfl, k3, rfl⟩
    have d3 := dU.goD k3
    have d4 := (Ext.refl U).goD (1 + k3)
    try dsimp only
    refine hK.out _ _ ?_ (fun hHeld => ?_)
    · first | assumption | (dsimp only; assumption)
    clear hK K
    try simp only [Act.put, gA, gB, gC, List.setIfInBounds_toArray, gE, gF]
    refine tk 6 ?_
    try simp only [Act.put, gA, gB, gC, List.setIfInBounds_toArray, gE, gF]
    refine wpAnyH_ready (rs := [7]) (by kernel_rfl) (by simp) ?_
    refine AllReadyH.cons rfl (fun K hK => ?_) ?_
    rotate_left
    · exact AllReadyH.nil
    go_simp
    refine hK.out _ _ ?_ (fun hHeld => ?_)
    · exact d4.goA _
    clear hK K
    try simp only [Act.put, gA, gB, gC, List.setIfInBounds_toArray, gE, gF]
    refine wpAnyH_ready (rs := [8]) (by kernel_rfl) (by simp) ?_
    refine AllReadyH.cons rfl (fun K hK => ?_) ?_
    rotate_left
    · exact AllReadyH.nil
    go_simp
    refine hK.out _ _ ?_ (fun hHeld => ?_)
    · exact d4.goA _
    clear hK K
    try simp only [Act.put, gA, gB, gC, List.setIfInBounds_toArray, gE, gF]
    refine wpAnyH_done (by kernel_rfl) ?_ _
    have EV := (E0.go d4).goA (.cells #[.int .i64 16, .int .i64 ad, .int .i64 0, .slice none 0 0, .int .i64 0] 30)
    have RV := ((d4.goA (.cells #[.int .i64 16, .int .i64 ad, .int .i64 0, .slice none 0 0, .int .i64 0] 30)).block w.heap.size (by omega)).trans R0'.out
    have QV := heap_alloc_new (U.drewN (1 + k3)) (.cells #[.int .i64 16, .int .i64 ad, .int .i64 0, .slice none 0 0, .int .i64 0] 30)
    rw [show (U.drewN (1 + k3)).heap.size = w.heap.size + 1 from sU] at QV
    clear Cw R0'
    generalize (U.drewN (1 + k3)).alloc (.cells #[.int .i64 16, .int .i64 ad, .int .i64 0, .slice none 0 0, .int .i64 0] 30) = V at *
    clear d3 d4 dU
    have tl : decide (6 < m) = false := by simp; omega
    have tl2 : ¬ (6 : Int) < m := by omega
    have tl3 : ¬ 6 < m := by omega
    have q0 := cellsAt QV
    have f0 := frozen_block QV
    have RV' := Lib.hid RV
    have QV' := Lib.hid QV
    clear RV QV
    go_wp2_with fail
    refine (hat.out _ EV 3 (by omega)).mono ?_
    rw [hw3'.out]
    rintro e w5 ⟨rfl, k5, rfl⟩
    have QX : ((V.drewN k5).setCell ⟨w.heap.size + 1, 2, none⟩ (.int .i64 q3)).heap[w.heap.size + 1]? = some (.cells #[.int .i64 16, .int .i64 ad, .int .i64 q3, .slice none 0 0, .int .i64 0] 30 (0, 0)) := set_block (w := V.drewN k5) QV'.out 2 (.int .i64 q3)
    have RX := Lib.hid ((Below.heap_setCell (V.drewN k5) ⟨w.heap.size + 1, 2, none⟩ (.int .i64 q3) w.heap.size (by simp)).trans RV'.out)
    have EX := (EV.goD k5).goS (p := ⟨w.heap.size + 1, 2, none⟩) (by simp) (.int .i64 q3)
    have q1 := cellsAt QX
    have r1 := cellsAt RX.out
    have g1 := frozen_block RX.out
    clear QX
    go_wp2_with fail
    obtain ⟨z0, z1, z2, z3, z4⟩ := five_reads RX.out (.int .i64 16) (.int .i64 ad) (.int .i64 q3) (.slice none 0 0) (.int .i64 0)
    refine bodyPost_ret (v := .agg #[.int .i64 16, .int .i64 ad, .int .i64 q3, .slice none 0 0, .int .i64 0]) (by simp [results, Try.results103, go_sem, z0, z1, z2, z3, z4]) rfl ?_
    exact ⟨_, _, _, rfl, Nat.le_refl _, by unfold maxLen; omega, RdI.nil _, EX.five (Nat.le_refl _) _ _ _ _ _, fun b o e => (nomatch e)⟩
  · go_simp
    refine hK.out _ _ ?_ (fun hHeld => ?_)
    · exact dU.goA _
    clear hK K
    try simp only [Act.put, gA, gB, gC, List.setIfInBounds_toArray, gE, gF]
    refine wpAnyH_ready (rs := [5]) (by kernel_rfl) (by simp) ?_
    refine AllReadyH.cons rfl (fun K hK => ?_) ?_
    rotate_left
    · exact AllReadyH.nil
    go_simp
    go_at_call 106
    refine (hat.out _ (E0.go (dU.goA _)) 1 (by omega)).mono ?_
    rw [hw1'.out]
    rintro e w3 ⟨rfl, k3, rfl⟩
    have d3 := (dU.goA (.cells #[.int .i64 0, .int .i64 0, .int .i64 0, .slice none 0 0, .int .i64 0] 30)).goD k3
    have d4 := (dU.goA (.cells #[.int .i64 0, .int .i64 0, .int .i64 0, .slice none 0 0, .int .i64 0] 30)).goD k3
    try dsimp only
    refine hK.out _ _ ?_ (fun hHeld => ?_)
    · first | assumption | (dsimp only; assumption)
    clear hK K
    try simp only [Act.put, gA, gB, gC, List.setIfInBounds_toArray, gE, gF]
    have RY := (d4.block w.heap.size (by omega)).trans R0'.out
    have QY : ((U.drew.alloc (.cells #[.int .i64 0, .int .i64 0, .int .i64 0, .slice none 0 0, .int .i64 0] 30)).drewN k3).heap[U.heap.size]? = some (.cells #[.int .i64 0, .int .i64 0, .int .i64 0, .slice none 0 0, .int .i64 0] 30 (0, 0)) := heap_alloc_new U (.cells #[.int .i64 0, .int .i64 0, .int .i64 0, .slice none 0 0, .int .i64 0] 30)
    rw [sU] at QY
    refine tk 6 ?_
    try simp only [Act.put, gA, gB, gC, List.setIfInBounds_toArray, gE, gF]
    clear Cw R0' d3
    generalize (U.drew.alloc (.cells #[.int .i64 0, .int .i64 0, .int .i64 0, .slice none 0 0, .int .i64 0] 30)).drewN k3 = Y at *
    have q0 := cellsAt QY
    have f0 := frozen_block QY
    have RY' := Lib.hid RY
    have QY' := Lib.hid QY
    clear RY QY
    refine wpAnyH_ready (rs := [8]) (by kernel_rfl) (by simp) ?_
    refine AllReadyH.cons rfl (fun K hK => ?_) ?_
    rotate_left
    · exact AllReadyH.nil
    go_simp
    refine hK.out _ _ ?_ (fun hHeld => ?_)
    · exact d4.five (by omega) _ _ _ _ _
    clear hK K
    try simp only [Act.put, gA, gB, gC, List.setIfInBounds_toArray, gE, gF]
    refine wpAnyH_done (by kernel_rfl) ?_ _
    have EV := (E0.go d4).five (i := w.heap.size + 1) (by omega) (.int .i64 16) (.int .i64 ad) (.int .i64 0) (.slice none 0 0) (.int .i64 0)
    have RV := (five_keep Y (w.heap.size + 1) w.heap.size (by omega) (.int .i64 16) (.int .i64 ad) (.int .i64 0) (.slice none 0 0) (.int .i64 0)).trans RY'.out
    have QV := five_block QY'.out (.int .i64 16) (.int .i64 ad) (.int .i64 0) (.slice none 0 0) (.int .i64 0)
    clear q0 f0
    generalize (((((Y.setCell ⟨w.heap.size + 1, 0, none⟩ (.int .i64 16)).setCell ⟨w.heap.size + 1, 1, none⟩ (.int .i64 ad)).setCell ⟨w.heap.size + 1, 2, none⟩ (.int .i64 0)).setCell ⟨w.heap.size + 1, 3, none⟩ (.slice none 0 0)).setCell ⟨w.heap.size + 1, 4, none⟩ (.int .i64 0)) = V at *
    clear d4 dU
    have tl : decide (6 < m) = false := by simp; omega
    have tl2 : ¬ (6 : Int) < m := by omega
    have tl3 : ¬ 6 < m := by omega
    have q0 := cellsAt QV
    have f0 := frozen_block QV
    have RV' := Lib.hid RV
    have QV' := Lib.hid QV
    clear RV QV
    go_wp2_with fail
    refine (hat.out _ EV 3 (by omega)).mono ?_
    rw [hw3'.out]
    rintro e w5 ⟨rfl, k5, rfl⟩
    have QX : ((V.drewN k5).setCell ⟨w.heap.size + 1, 2, none⟩ (.int .i64 q3)).heap[w.heap.size + 1]? = some (.cells #[.int .i64 16, .int .i64 ad, .int .i64 q3, .slice none 0 0, .int .i64 0] 30 (0, 0)) := set_block (w := V.drewN k5) QV'.out 2 (.int .i64 q3)
    have RX := Lib.hid ((Below.heap_setCell (V.drewN k5) ⟨w.heap.size + 1, 2, none⟩ (.int .i64 q3) w.heap.size (by simp)).trans RV'.out)
    have EX := (EV.goD k5).goS (p := ⟨w.heap.size + 1, 2, none⟩) (by simp) (.int .i64 q3)
    have q1 := cellsAt QX
    have r1 := cellsAt RX.out
    have g1 := frozen_block RX.out
    clear QX
    go_wp2_with fail
    obtain ⟨z0, z1, z2, z3, z4⟩ := five_reads RX.out (.int .i64 16) (.int .i64 ad) (.int .i64 q3) (.slice none 0 0) (.int .i64 0)
    refine bodyPost_ret (v := .agg #[.int .i64 16, .int .i64 ad, .int .i64 q3, .slice none 0 0, .int .i64 0]) (by simp [results, Try.results103, go_sem, z0, z1, z2, z3, z4]) rfl ?_
    exact ⟨_, _, _, rfl, Nat.le_refl _, by unfold maxLen; omega, RdI.nil _, EX.five (Nat.le_refl _) _ _ _ _ _, fun b o e => (nomatch e)⟩
set_option maxRecDepth 100000 in
set_option maxHeartbeats 6400000 in
theorem read_short23 (A : Option Addr) (m c : Nat) (l : List Int) (w : World) (hx : RdI w w.heap.size .u8 A m l) (hl : ByteL l) (hm0 : 0 < m) (hm : m ≤ 9000) (_hmc : m ≤ c) (_hcm : c ≤ maxLen) (hf : l.getD 0 0 = 23) (hk : m ≤ 10) :
    Calls Try.prog 103 #[.slice A m c] w (TakenPost (refReadR l).fc (refReadR l).ad (refReadR l).qt (refReadR l).to (refReadR l).xs w) := by
  have R0 : (w.alloc (.cells #[.int .i64 0, .int .i64 0, .int .i64 0, .slice none 0 0, .int .i64 0] 30)).heap[w.heap.size]? = some (.cells #[.int .i64 0, .int .i64 0, .int .i64 0, .slice none 0 0, .int .i64 0] 30 (0, 0)) := heap_alloc_new w _
  have E0 := (Ext.refl w).goA (.cells #[.int .i64 0, .int .i64 0, .int .i64 0, .slice none 0 0, .int .i64 0] 30)
  have hll := hx.len
  obtain ⟨bb, oo, rfl, hbb, c0⟩ := hx.at_ (j := 0) hm0
  rw [Nat.add_zero] at c0
  have x0 := hl 0
  rw [← List.getD_eq_getElem?_getD] at x0
  have w1r := wordAt_range l hl 1
  have w3r := wordAt_range l hl 3
  have w5r := wordAt_range l hl 5
  have hxl := Lib.hid (fun w' (E : Ext w w') => hx.ext E)
  have hlb := Lib.hid hl
  have hat := Lib.hid (fun w' (E : Ext w w') i (hi : i ≤ 1048576) => refAt_any (some ⟨bb, oo, none⟩) i m c w'.heap.size l w' (hx.ext E) hl hi (by unfold maxLen; omega))
  have C0 := (E0.cell oo hbb).trans c0
  have hfin : refReadR l = ⟨l.getD 0 0, wordAt l 1, wordAt l 3, 0, []⟩ := by
    unfold refReadR
    have hn : ¬ 10 < l.length := by omega
    rw [hf]
    simp [hn]
  rw [hfin]
  have hll' := Lib.hid hll
  have u0 : IntKind.i64.wrap (l.getD 0 0) = l.getD 0 0 := by rw [IntKind.wrap_i64]; omega
  have R0' := Lib.hid R0
  clear hx hl c0 hfin R0 hll
  generalize hw1 : wordAt l 1 = ad at *
  generalize hw3 : wordAt l 3 = q3 at *
  generalize hw5 : wordAt l 5 = q5 at *
  have hw1' := Lib.hid hw1
  have hw3' := Lib.hid hw3
  have hw5' := Lib.hid hw5
  clear hw1 hw3 hw5
  rw [hf] at *
  clear hf
  have sU : (w.alloc (.cells #[.int .i64 0, .int .i64 0, .int .i64 0, .slice none 0 0, .int .i64 0] 30)).heap.size = w.heap.size + 1 := by simp
  go_enter Try.func103, Try.ntmps103
  go_wp2_with fail
  generalize w.alloc (.cells #[.int .i64 0, .int .i64 0, .int .i64 0, .slice none 0 0, .int .i64 0] 30) = U at *
  have dU : Ext U U.drew := (Ext.refl U).god
  have Cw : ∀ w', Ext U w' → w'.cell? ⟨bb, oo, none⟩ = some (.int .u8 23) := fun w' D => (D.cell oo (by omega)).trans C0
  clear C0
  refine wp_region_held_drew (S := fun w' => Ext U w') (by kernel_rfl) dU (fun hHeld => ?_)
  refine tk 0 ?_
  try simp only [Act.put, gA, gC, List.setIfInBounds_toArray, gE, gF]
  refine tk 1 ?_
  try simp only [Act.put, gA, gB, gC, List.setIfInBounds_toArray, gE, gF]
  refine tk 2 ?_
  try simp only [Act.put, gA, gB, gC, List.setIfInBounds_toArray, gE, gF]
  refine tk 3 ?_
  try simp only [Act.put, gA, gB, gC, List.setIfInBounds_toArray, gE, gF]
  refine tk 4 ?_
  try simp only [Act.put, gA, gB, gC, List.setIfInBounds_toArray, gE, gF]
  refine wpAnyH_ready (rs := [5, 7]) (by kernel_rfl) (by simp) ?_
  refine AllReadyH.cons rfl (fun K hK => ?_) (AllReadyH.cons rfl (fun K hK => ?_) (AllReadyH.nil))
  · go_simp
    go_at_call 106
    refine (hat.out _ (E0.go dU) 1 (by omega)).mono ?_
    rw [hw1'.out]
    rintro e w3 ⟨rfl, k3, rfl⟩
    have d3 := dU.goD k3
    have d4 := (Ext.refl U).goD (1 + k3)
    try dsimp only
    refine hK.out _ _ ?_ (fun hHeld => ?_)
    · first | assumption | (dsimp only; assumption)
    clear hK K
    try simp only [Act.put, gA, gB, gC, List.setIfInBounds_toArray, gE, gF]
    refine tk 6 ?_
    try simp only [Act.put, gA, gB, gC, List.setIfInBounds_toArray, gE, gF]
    refine wpAnyH_ready (rs := [7]) (by kernel_rfl) (by simp) ?_
    refine AllReadyH.cons rfl (fun K hK => ?_) ?_
    rotate_left
    · exact AllReadyH.nil
    go_simp
    refine hK.out _ _ ?_ (fun hHeld => ?_)
    · exact d4.goA _
    clear hK K
    try simp only [Act.put, gA, gB, gC, List.setIfInBounds_toArray, gE, gF]
    refine wpAnyH_ready (rs := [8]) (by kernel_rfl) (by simp) ?_
    refine AllReadyH.cons rfl (fun K hK => ?_) ?_
    rotate_left
    · exact AllReadyH.nil
    go_simp
    refine hK.out _ _ ?_ (fun hHeld => ?_)
    · exact d4.goA _
    clear hK K
    try simp only [Act.put, gA, gB, gC, List.setIfInBounds_toArray, gE, gF]
    refine wpAnyH_done (by kernel_rfl) ?_ _
    have EV := (E0.go d4).goA (.cells #[.int .i64 23, .int .i64 ad, .int .i64 0, .slice none 0 0, .int .i64 0] 30)
    have RV := ((d4.goA (.cells #[.int .i64 23, .int .i64 ad, .int .i64 0, .slice none 0 0, .int .i64 0] 30)).block w.heap.size (by omega)).trans R0'.out
    have QV := heap_alloc_new (U.drewN (1 + k3)) (.cells #[.int .i64 23, .int .i64 ad, .int .i64 0, .slice none 0 0, .int .i64 0] 30)
    rw [show (U.drewN (1 + k3)).heap.size = w.heap.size + 1 from sU] at QV
    clear Cw R0'
    generalize (U.drewN (1 + k3)).alloc (.cells #[.int .i64 23, .int .i64 ad, .int .i64 0, .slice none 0 0, .int .i64 0] 30) = V at *
    clear d3 d4 dU
    have tl : decide (10 < m) = false := by simp; omega
    have tl2 : ¬ (10 : Int) < m := by omega
    have tl3 : ¬ 10 < m := by omega
    have q0 := cellsAt QV
    have f0 := frozen_block QV
    have RV' := Lib.hid RV
    have QV' := Lib.hid QV
    clear RV QV
    go_wp2_with fail
    refine (hat.out _ EV 3 (by omega)).mono ?_
    rw [hw3'.out]
    rintro e w5 ⟨rfl, k5, rfl⟩
    have QX : ((V.drewN k5).setCell ⟨w.heap.size + 1, 2, none⟩ (.int .i64 q3)).heap[w.heap.size + 1]? = some (.cells #[.int .i64 23, .int .i64 ad, .int .i64 q3, .slice none 0 0, .int .i64 0] 30 (0, 0)) := set_block (w := V.drewN k5) QV'.out 2 (.int .i64 q3)
    have RX := Lib.hid ((Below.heap_setCell (V.drewN k5) ⟨w.heap.size + 1, 2, none⟩ (.int .i64 q3) w.heap.size (by simp)).trans RV'.out)
    have EX := (EV.goD k5).goS (p := ⟨w.heap.size + 1, 2, none⟩) (by simp) (.int .i64 q3)
    have q1 := cellsAt QX
    have r1 := cellsAt RX.out
    have g1 := frozen_block RX.out
    clear QX
    go_wp2_with fail
    obtain ⟨z0, z1, z2, z3, z4⟩ := five_reads RX.out (.int .i64 23) (.int .i64 ad) (.int .i64 q3) (.slice none 0 0) (.int .i64 0)
    refine bodyPost_ret (v := .agg #[.int .i64 23, .int .i64 ad, .int .i64 q3, .slice none 0 0, .int .i64 0]) (by simp [results, Try.results103, go_sem, z0, z1, z2, z3, z4]) rfl ?_
    exact ⟨_, _, _, rfl, Nat.le_refl _, by unfold maxLen; omega, RdI.nil _, EX.five (Nat.le_refl _) _ _ _ _ _, fun b o e => (nomatch e)⟩
  · go_simp
    refine hK.out _ _ ?_ (fun hHeld => ?_)
    · exact dU.goA _
    clear hK K
    try simp only [Act.put, gA, gB, gC, List.setIfInBounds_toArray, gE, gF]
    refine wpAnyH_ready (rs := [5]) (by kernel_rfl) (by simp) ?_
    refine AllReadyH.cons rfl (fun K hK => ?_) ?_
    rotate_left
    · exact AllReadyH.nil
    go_simp
    go_at_call 106
    refine (hat.out _ (E0.go (dU.goA _)) 1 (by omega)).mono ?_
    rw [hw1'.out]
    rintro e w3 ⟨rfl, k3, rfl⟩
    have d3 := (dU.goA (.cells #[.int .i64 0, .int .i64 0, .int .i64 0, .slice none 0 0, .int .i64 0] 30)).goD k3
    have d4 := (dU.goA (.cells #[.int .i64 0, .int .i64 0, .int .i64 0, .slice none 0 0, .int .i64 0] 30)).goD k3
    try dsimp only
    refine hK.out _ _ ?_ (fun hHeld => ?_)
    · first | assumption | (dsimp only; assumption)
    clear hK K
    try simp only [Act.put, gA, gB, gC, List.setIfInBounds_toArray, gE, gF]
    have RY := (d4.block w.heap.size (by omega)).trans R0'.out
    have QY : ((U.drew.alloc (.cells #[.int .i64 0, .int .i64 0, .int .i64 0, .slice none 0 0, .int .i64 0] 30)).drewN k3).heap[U.heap.size]? = some (.cells #[.int .i64 0, .int .i64 0, .int .i64 0, .slice none 0 0, .int .i64 0] 30 (0, 0)) := heap_alloc_new U (.cells #[.int .i64 0, .int .i64 0, .int .i64 0, .slice none 0 0, .int .i64 0] 30)
    rw [sU] at QY
    refine tk 6 ?_
    try simp only [Act.put, gA, gB, gC, List.setIfInBounds_toArray, gE, gF]
    clear Cw R0' d3
    generalize (U.drew.alloc (.cells #[.int .i64 0, .int .i64 0, .int .i64 0, .slice none 0 0, .int .i64 0] 30)).drewN k3 = Y at *
    have q0 := cellsAt QY
    have f0 := frozen_block QY
    have RY' := Lib.hid RY
    have QY' := Lib.hid QY
    clear RY QY
    refine wpAnyH_ready (rs := [8]) (by kernel_rfl) (by simp) ?_
    refine AllReadyH.cons rfl (fun K hK => ?_) ?_
    rotate_left
    · exact AllReadyH.nil
    go_simp
    refine hK.out _ _ ?_ (fun hHeld => ?_)
    · exact d4.five (by omega) _ _ _ _ _
    clear hK K
    try simp only [Act.put, gA, gB, gC, List.setIfInBounds_toArray, gE, gF]
    refine wpAnyH_done (by kernel_rfl) ?_ _
    have EV := (E0.go d4).five (i := w.heap.size + 1) (by omega) (.int .i64 23) (.int .i64 ad) (.int .i64 0) (.slice none 0 0) (.int .i64 0)
    have RV := (five_keep Y (w.heap.size + 1) w.heap.size (by omega) (.int .i64 23) (.int .i64 ad) (.int .i64 0) (.slice none 0 0) (.int .i64 0)).trans RY'.out
    have QV := five_block QY'.out (.int .i64 23) (.int .i64 ad) (.int .i64 0) (.slice none 0 0) (.int .i64 0)
    clear q0 f0
    generalize (((((Y.setCell ⟨w.heap.size + 1, 0, none⟩ (.int .i64 23)).setCell ⟨w.heap.size + 1, 1, none⟩ (.int .i64 ad)).setCell ⟨w.heap.size + 1, 2, none⟩ (.int .i64 0)).setCell ⟨w.heap.size + 1, 3, none⟩ (.slice none 0 0)).setCell ⟨w.heap.size + 1, 4, none⟩ (.int .i64 0)) = V at *
    clear d4 dU
    have tl : decide (10 < m) = false := by simp; omega
    have tl2 : ¬ (10 : Int) < m := by omega
    have tl3 : ¬ 10 < m := by omega
    have q0 := cellsAt QV
    have f0 := frozen_block QV
    have RV' := Lib.hid RV
    have QV' := Lib.hid QV
    clear RV QV
    go_wp2_with fail
    refine (hat.out _ EV 3 (by omega)).mono ?_
    rw [hw3'.out]
    rintro e w5 ⟨rfl, k5, rfl⟩
    have QX : ((V.drewN k5).setCell ⟨w.heap.size + 1, 2, none⟩ (.int .i64 q3)).heap[w.heap.size + 1]? = some (.cells #[.int .i64 23, .int .i64 ad, .int .i64 q3, .slice none 0 0, .int .i64 0] 30 (0, 0)) := set_block (w := V.drewN k5) QV'.out 2 (.int .i64 q3)
    have RX := Lib.hid ((Below.heap_setCell (V.drewN k5) ⟨w.heap.size + 1, 2, none⟩ (.int .i64 q3) w.heap.size (by simp)).trans RV'.out)
    have EX := (EV.goD k5).goS (p := ⟨w.heap.size + 1, 2, none⟩) (by simp) (.int .i64 q3)
    have q1 := cellsAt QX
    have r1 := cellsAt RX.out
    have g1 := frozen_block RX.out
    clear QX
    go_wp2_with fail
    obtain ⟨z0, z1, z2, z3, z4⟩ := five_reads RX.out (.int .i64 23) (.int .i64 ad) (.int .i64 q3) (.slice none 0 0) (.int .i64 0)
    refine bodyPost_ret (v := .agg #[.int .i64 23, .int .i64 ad, .int .i64 q3, .slice none 0 0, .int .i64 0]) (by simp [results, Try.results103, go_sem, z0, z1, z2, z3, z4]) rfl ?_
    exact ⟨_, _, _, rfl, Nat.le_refl _, by unfold maxLen; omega, RdI.nil _, EX.five (Nat.le_refl _) _ _ _ _ _, fun b o e => (nomatch e)⟩
set_option maxRecDepth 100000 in
set_option maxHeartbeats 6400000 in
theorem read_long16 (A : Option Addr) (m c : Nat) (l : List Int) (w : World) (hx : RdI w w.heap.size .u8 A m l) (hl : ByteL l) (hm0 : 0 < m) (hm : m ≤ 9000) (hmc : m ≤ c) (_hcm : c ≤ maxLen) (hf : l.getD 0 0 = 16) (hk : 6 < m) :
    Calls Try.prog 103 #[.slice A m c] w (TakenPost (refReadR l).fc (refReadR l).ad (refReadR l).qt (refReadR l).to (refReadR l).xs w) := by
  have R0 : (w.alloc (.cells #[.int .i64 0, .int .i64 0, .int .i64 0, .slice none 0 0, .int .i64 0] 30)).heap[w.heap.size]? = some (.cells #[.int .i64 0, .int .i64 0, .int .i64 0, .slice none 0 0, .int .i64 0] 30 (0, 0)) := heap_alloc_new w _
  have E0 := (Ext.refl w).goA (.cells #[.int .i64 0, .int .i64 0, .int .i64 0, .slice none 0 0, .int .i64 0] 30)
  have hll := hx.len
  obtain ⟨bb, oo, rfl, hbb, c0⟩ := hx.at_ (j := 0) hm0
  rw [Nat.add_zero] at c0
  have x0 := hl 0
  rw [← List.getD_eq_getElem?_getD] at x0
  have w1r := wordAt_range l hl 1
  have w3r := wordAt_range l hl 3
  have w5r := wordAt_range l hl 5
  have hxl := Lib.hid (fun w' (E : Ext w w') => hx.ext E)
  have hlb := Lib.hid hl
  have hat := Lib.hid (fun w' (E : Ext w w') i (hi : i ≤ 1048576) => refAt_any (some ⟨bb, oo, none⟩) i m c w'.heap.size l w' (hx.ext E) hl hi (by unfold maxLen; omega))
  have C0 := (E0.cell oo hbb).trans c0
  have hfin : refReadR l = ⟨l.getD 0 0, wordAt l 1, wordAt l 3, 0, unwordsL (l.drop 6)⟩ := by
    unfold refReadR
    have hn : 6 < l.length := by omega
    rw [hf]
    simp [hn]
  rw [hfin]
  have hll' := Lib.hid hll
  have u0 : IntKind.i64.wrap (l.getD 0 0) = l.getD 0 0 := by rw [IntKind.wrap_i64]; omega
  have R0' := Lib.hid R0
  clear hx hl c0 hfin R0 hll
  generalize hw1 : wordAt l 1 = ad at *
  generalize hw3 : wordAt l 3 = q3 at *
  generalize hw5 : wordAt l 5 = q5 at *
  have hw1' := Lib.hid hw1
  have hw3' := Lib.hid hw3
  have hw5' := Lib.hid hw5
  clear hw1 hw3 hw5
  rw [hf] at *
  clear hf
  have hb8 : ByteL (l.drop 6) := fun j => by rw [List.getElem?_drop]; exact hlb.out _
  have hb8h := Lib.hid hb8
  clear hb8
  have sU : (w.alloc (.cells #[.int .i64 0, .int .i64 0, .int .i64 0, .slice none 0 0, .int .i64 0] 30)).heap.size = w.heap.size + 1 := by simp
  go_enter Try.func103, Try.ntmps103
  go_wp2_with fail
  generalize w.alloc (.cells #[.int .i64 0, .int .i64 0, .int .i64 0, .slice none 0 0, .int .i64 0] 30) = U at *
  have dU : Ext U U.drew := (Ext.refl U).god
  have Cw : ∀ w', Ext U w' → w'.cell? ⟨bb, oo, none⟩ = some (.int .u8 16) := fun w' D => (D.cell oo (by omega)).trans C0
  clear C0
  refine wp_region_held_drew (S := fun w' => Ext U w') (by kernel_rfl) dU (fun hHeld => ?_)
  refine tk 0 ?_
  try simp only [Act.put, gA, gC, List.setIfInBounds_toArray, gE, gF]
  refine tk 1 ?_
  try simp only [Act.put, gA, gB, gC, List.setIfInBounds_toArray, gE, gF]
  refine tk 2 ?_
  try simp only [Act.put, gA, gB, gC, List.setIfInBounds_toArray, gE, gF]
  refine tk 3 ?_
  try simp only [Act.put, gA, gB, gC, List.setIfInBounds_toArray, gE, gF]
  refine tk 4 ?_
  try simp only [Act.put, gA, gB, gC, List.setIfInBounds_toArray, gE, gF]
  refine wpAnyH_ready (rs := [5, 7]) (by kernel_rfl) (by simp) ?_
  refine AllReadyH.cons rfl (fun K hK => ?_) (AllReadyH.cons rfl (fun K hK => ?_) (AllReadyH.nil))
  · go_simp
    go_at_call 106
    refine (hat.out _ (E0.go dU) 1 (by omega)).mono ?_
    rw [hw1'.out]
    rintro e w3 ⟨rfl, k3, rfl⟩
    have d3 := dU.goD k3
    have d4 := (Ext.refl U).goD (1 + k3)
    try dsimp only
    refine hK.out _ _ ?_ (fun hHeld => ?_)
    · first | assumption | (dsimp only; assumption)
    clear hK K
    try simp only [Act.put, gA, gB, gC, List.setIfInBounds_toArray, gE, gF]
    refine tk 6 ?_
    try simp only [Act.put, gA, gB, gC, List.setIfInBounds_toArray, gE, gF]
    refine wpAnyH_ready (rs := [7]) (by kernel_rfl) (by simp) ?_
    refine AllReadyH.cons rfl (fun K hK => ?_) ?_
    rotate_left
    · exact AllReadyH.nil
    go_simp
    refine hK.out _ _ ?_ (fun hHeld => ?_)
    · exact d4.goA _
    clear hK K
    try simp only [Act.put, gA, gB, gC, List.setIfInBounds_toArray, gE, gF]
    refine wpAnyH_ready (rs := [8]) (by kernel_rfl) (by simp) ?_
    refine AllReadyH.cons rfl (fun K hK => ?_) ?_
    rotate_left
    · exact AllReadyH.nil
    go_simp
    refine hK.out _ _ ?_ (fun hHeld => ?_)
    · exact d4.goA _
    clear hK K
    try simp only [Act.put, gA, gB, gC, List.setIfInBounds_toArray, gE, gF]
    refine wpAnyH_done (by kernel_rfl) ?_ _
    have EV := (E0.go d4).goA (.cells #[.int .i64 16, .int .i64 ad, .int .i64 0, .slice none 0 0, .int .i64 0] 30)
    have RV := ((d4.goA (.cells #[.int .i64 16, .int .i64 ad, .int .i64 0, .slice none 0 0, .int .i64 0] 30)).block w.heap.size (by omega)).trans R0'.out
    have QV := heap_alloc_new (U.drewN (1 + k3)) (.cells #[.int .i64 16, .int .i64 ad, .int .i64 0, .slice none 0 0, .int .i64 0] 30)
    rw [show (U.drewN (1 + k3)).heap.size = w.heap.size + 1 from sU] at QV
    clear Cw R0'
    generalize (U.drewN (1 + k3)).alloc (.cells #[.int .i64 16, .int .i64 ad, .int .i64 0, .slice none 0 0, .int .i64 0] 30) = V at *
    clear d3 d4 dU
    have tl : decide (6 < m) = true := by simp; omega
    have tl2 : (6 : Int) < m := by omega
    have tl3 : 6 < m := by omega
    have p4 : ¬ c = 6 := by omega
    have p5 : 6 ≤ m := by omega
    have p6 : (6 : Int) ≤ (m : Int) := by omega
    have q0 := cellsAt QV
    have f0 := frozen_block QV
    have RV' := Lib.hid RV
    have QV' := Lib.hid QV
    clear RV QV
    go_wp2_with fail
    refine (hat.out _ EV 3 (by omega)).mono ?_
    rw [hw3'.out]
    rintro e w5 ⟨rfl, k5, e5⟩
    have D5 : Ext V w5 := e5 ▸ (Ext.refl V).goD k5
    have Q5 := (D5.block _ (lt_of_block QV'.out)).trans QV'.out
    have R5 := (D5.block _ (lt_of_block RV'.out)).trans RV'.out
    have QX : (w5.setCell ⟨w.heap.size + 1, 2, none⟩ (.int .i64 q3)).heap[w.heap.size + 1]? = some (.cells #[.int .i64 16, .int .i64 ad, .int .i64 q3, .slice none 0 0, .int .i64 0] 30 (0, 0)) := set_block Q5 2 (.int .i64 q3)
    have RX := (Below.heap_setCell w5 ⟨w.heap.size + 1, 2, none⟩ (.int .i64 q3) w.heap.size (by simp)).trans R5
    have EX := (EV.go D5).goS (p := ⟨w.heap.size + 1, 2, none⟩) (by simp) (.int .i64 q3)
    have q1 := cellsAt QX
    have q5c := cellsAt Q5
    have f5c := frozen_block Q5
    have f1 := frozen_block QX
    have QX' := Lib.hid QX
    have RX' := Lib.hid RX
    clear QX RX e5 q0 f0 D5 Q5 R5
    go_wp2_with fail
    refine (refUnwords_any _ (m - 6) _ _ _ _ ((hxl.out _ EX).drop p5) (Nat.le_refl _) hb8h.out (by omega)).mono ?_
    rintro e w7 ⟨A7, n7, c7, rfl, g7, g7', r7, D7, fr7⟩
    have Q7 := (D7.block _ (lt_of_block QX'.out)).trans QX'.out
    have R7 := (D7.block _ (lt_of_block RX'.out)).trans RX'.out
    have lq := lt_of_block QX'.out
    have QZ : (w7.setCell ⟨w.heap.size + 1, 3, none⟩ (.slice A7 n7 c7)).heap[w.heap.size + 1]? = some (.cells #[.int .i64 16, .int .i64 ad, .int .i64 q3, .slice A7 n7 c7, .int .i64 0] 30 (0, 0)) := set_block Q7 3 (.slice A7 n7 c7)
    have RZ := (Below.heap_setCell w7 ⟨w.heap.size + 1, 3, none⟩ (.slice A7 n7 c7) w.heap.size (by simp)).trans R7
    have EZ := (EX.go D7).goS (p := ⟨w.heap.size + 1, 3, none⟩) (by simp) (.slice A7 n7 c7)
    have r8 := Lib.hid (set_rd r7 (Nat.le_refl _) ⟨w.heap.size + 1, 3, none⟩ (fun _ b o e => by have := fr7 b o e; simp only; omega) (.slice A7 n7 c7))
    have q7 := cellsAt Q7
    have f7 := frozen_block Q7
    have q8 := cellsAt QZ
    have s8 := cellsAt RZ
    have g8 := frozen_block RZ
    have RZ' := Lib.hid RZ
    clear QZ RZ Q7 R7 r7
    go_wp2_with fail
    obtain ⟨z0, z1, z2, z3, z4⟩ := five_reads RZ'.out (.int .i64 16) (.int .i64 ad) (.int .i64 q3) (.slice A7 n7 c7) (.int .i64 0)
    refine bodyPost_ret (v := .agg #[.int .i64 16, .int .i64 ad, .int .i64 q3, .slice A7 n7 c7, .int .i64 0]) (by simp [results, Try.results103, go_sem, z0, z1, z2, z3, z4]) rfl ?_
    exact ⟨_, _, _, rfl, g7, g7', five_rd r8.out (Nat.le_refl _) _ (fun hn b o e => by have := fr7 b o e; omega) _ _ _ _ _, EZ.five (Nat.le_refl _) _ _ _ _ _, fun b o e => by have := fr7 b o e; omega⟩
  · go_simp
    refine hK.out _ _ ?_ (fun hHeld => ?_)
    · exact dU.goA _
    clear hK K
    try simp only [Act.put, gA, gB, gC, List.setIfInBounds_toArray, gE, gF]
    refine wpAnyH_ready (rs := [5]) (by kernel_rfl) (by simp) ?_
    refine AllReadyH.cons rfl (fun K hK => ?_) ?_
    rotate_left
    · exact AllReadyH.nil
    go_simp
    go_at_call 106
    refine (hat.out _ (E0.go (dU.goA _)) 1 (by omega)).mono ?_
    rw [hw1'.out]
    rintro e w3 ⟨rfl, k3, rfl⟩
    have d3 := (dU.goA (.cells #[.int .i64 0, .int .i64 0, .int .i64 0, .slice none 0 0, .int .i64 0] 30)).goD k3
    have d4 := (dU.goA (.cells #[.int .i64 0, .int .i64 0, .int .i64 0, .slice none 0 0, .int .i64 0] 30)).goD k3
    try dsimp only
    refine hK.out _ _ ?_ (fun hHeld => ?_)
    · first | assumption | (dsimp only; assumption)
    clear hK K
    try simp only [Act.put, gA, gB, gC, List.setIfInBounds_toArray, gE, gF]
    have RY := (d4.block w.heap.size (by omega)).trans R0'.out
    have QY : ((U.drew.alloc (.cells #[.int .i64 0, .int .i64 0, .int .i64 0, .slice none 0 0, .int .i64 0] 30)).drewN k3).heap[U.heap.size]? = some (.cells #[.int .i64 0, .int .i64 0, .int .i64 0, .slice none 0 0, .int .i64 0] 30 (0, 0)) := heap_alloc_new U (.cells #[.int .i64 0, .int .i64 0, .int .i64 0, .slice none 0 0, .int .i64 0] 30)
    rw [sU] at QY
    refine tk 6 ?_
    try simp only [Act.put, gA, gB, gC, List.setIfInBounds_toArray, gE, gF]
    clear Cw R0' d3
    generalize (U.drew.alloc (.cells #[.int .i64 0, .int .i64 0, .int .i64 0, .slice none 0 0, .int .i64 0] 30)).drewN k3 = Y at *
    have q0 := cellsAt QY
    have f0 := frozen_block QY
    have RY' := Lib.hid RY
    have QY' := Lib.hid QY
    clear RY QY
    refine wpAnyH_ready (rs := [8]) (by kernel_rfl) (by simp) ?_
    refine AllReadyH.cons rfl (fun K hK => ?_) ?_
    rotate_left
    · exact AllReadyH.nil
    go_simp
    refine hK.out _ _ ?_ (fun hHeld => ?_)
    · exact d4.five (by omega) _ _ _ _ _
    clear hK K
    try simp only [Act.put, gA, gB, gC, List.setIfInBounds_toArray, gE, gF]
    refine wpAnyH_done (by kernel_rfl) ?_ _
    have EV := (E0.go d4).five (i := w.heap.size + 1) (by omega) (.int .i64 16) (.int .i64 ad) (.int .i64 0) (.slice none 0 0) (.int .i64 0)
    have RV := (five_keep Y (w.heap.size + 1) w.heap.size (by omega) (.int .i64 16) (.int .i64 ad) (.int .i64 0) (.slice none 0 0) (.int .i64 0)).trans RY'.out
    have QV := five_block QY'.out (.int .i64 16) (.int .i64 ad) (.int .i64 0) (.slice none 0 0) (.int .i64 0)
    clear q0 f0
    generalize (((((Y.setCell ⟨w.heap.size + 1, 0, none⟩ (.int .i64 16)).setCell ⟨w.heap.size + 1, 1, none⟩ (.int .i64 ad)).setCell ⟨w.heap.size + 1, 2, none⟩ (.int .i64 0)).setCell ⟨w.heap.size + 1, 3, none⟩ (.slice none 0 0)).setCell ⟨w.heap.size + 1, 4, none⟩ (.int .i64 0)) = V at *
    clear d4 dU
    have tl : decide (6 < m) = true := by simp; omega
    have tl2 : (6 : Int) < m := by omega
    have tl3 : 6 < m := by omega
    have p4 : ¬ c = 6 := by omega
    have p5 : 6 ≤ m := by omega
    have p6 : (6 : Int) ≤ (m : Int) := by omega
    have q0 := cellsAt QV
    have f0 := frozen_block QV
    have RV' := Lib.hid RV
    have QV' := Lib.hid QV
    clear RV QV
    go_wp2_with fail
    refine (hat.out _ EV 3 (by omega)).mono ?_
    rw [hw3'.out]
    rintro e w5 ⟨rfl, k5, e5⟩
    have D5 : Ext V w5 := e5 ▸ (Ext.refl V).goD k5
    have Q5 := (D5.block _ (lt_of_block QV'.out)).trans QV'.out
    have R5 := (D5.block _ (lt_of_block RV'.out)).trans RV'.out
    have QX : (w5.setCell ⟨w.heap.size + 1, 2, none⟩ (.int .i64 q3)).heap[w.heap.size + 1]? = some (.cells #[.int .i64 16, .int .i64 ad, .int .i64 q3, .slice none 0 0, .int .i64 0] 30 (0, 0)) := set_block Q5 2 (.int .i64 q3)
    have RX := (Below.heap_setCell w5 ⟨w.heap.size + 1, 2, none⟩ (.int .i64 q3) w.heap.size (by simp)).trans R5
    have EX := (EV.go D5).goS (p := ⟨w.heap.size + 1, 2, none⟩) (by simp) (.int .i64 q3)
    have q1 := cellsAt QX
    have q5c := cellsAt Q5
    have f5c := frozen_block Q5
    have f1 := frozen_block QX
    have QX' := Lib.hid QX
    have RX' := Lib.hid RX
    clear QX RX e5 q0 f0 D5 Q5 R5
    go_wp2_with fail
    refine (refUnwords_any _ (m - 6) _ _ _ _ ((hxl.out _ EX).drop p5) (Nat.le_refl _) hb8h.out (by omega)).mono ?_
    rintro e w7 ⟨A7, n7, c7, rfl, g7, g7', r7, D7, fr7⟩
    have Q7 := (D7.block _ (lt_of_block QX'.out)).trans QX'.out
    have R7 := (D7.block _ (lt_of_block RX'.out)).trans RX'.out
    have lq := lt_of_block QX'.out
    have QZ : (w7.setCell ⟨w.heap.size + 1, 3, none⟩ (.slice A7 n7 c7)).heap[w.heap.size + 1]? = some (.cells #[.int .i64 16, .int .i64 ad, .int .i64 q3, .slice A7 n7 c7, .int .i64 0] 30 (0, 0)) := set_block Q7 3 (.slice A7 n7 c7)
    have RZ := (Below.heap_setCell w7 ⟨w.heap.size + 1, 3, none⟩ (.slice A7 n7 c7) w.heap.size (by simp)).trans R7
    have EZ := (EX.go D7).goS (p := ⟨w.heap.size + 1, 3, none⟩) (by simp) (.slice A7 n7 c7)
    have r8 := Lib.hid (set_rd r7 (Nat.le_refl _) ⟨w.heap.size + 1, 3, none⟩ (fun _ b o e => by have := fr7 b o e; simp only; omega) (.slice A7 n7 c7))
    have q7 := cellsAt Q7
    have f7 := frozen_block Q7
    have q8 := cellsAt QZ
    have s8 := cellsAt RZ
    have g8 := frozen_block RZ
    have RZ' := Lib.hid RZ
    clear QZ RZ Q7 R7 r7
    go_wp2_with fail
    obtain ⟨z0, z1, z2, z3, z4⟩ := five_reads RZ'.out (.int .i64 16) (.int .i64 ad) (.int .i64 q3) (.slice A7 n7 c7) (.int .i64 0)
    refine bodyPost_ret (v := .agg #[.int .i64 16, .int .i64 ad, .int .i64 q3, .slice A7 n7 c7, .int .i64 0]) (by simp [results, Try.results103, go_sem, z0, z1, z2, z3, z4]) rfl ?_
    exact ⟨_, _, _, rfl, g7, g7', five_rd r8.out (Nat.le_refl _) _ (fun hn b o e => by have := fr7 b o e; omega) _ _ _ _ _, EZ.five (Nat.le_refl _) _ _ _ _ _, fun b o e => by have := fr7 b o e; omega⟩
set_option maxRecDepth 100000 in
set_option maxHeartbeats 6400000 in
theorem read_long23 (A : Option Addr) (m c : Nat) (l : List Int) (w : World) (hx : RdI w w.heap.size .u8 A m l) (hl : ByteL l) (hm0 : 0 < m) (hm : m ≤ 9000) (hmc : m ≤ c) (_hcm : c ≤ maxLen) (hf : l.getD 0 0 = 23) (hk : 10 < m) :
    Calls Try.prog 103 #[.slice A m c] w (TakenPost (refReadR l).fc (refReadR l).ad (refReadR l).qt (refReadR l).to (refReadR l).xs w) := by
  have R0 : (w.alloc (.cells #[.int .i64 0, .int .i64 0, .int .i64 0, .slice none 0 0, .int .i64 0] 30)).heap[w.heap.size]? = some (.cells #[.int .i64 0, .int .i64 0, .int .i64 0, .slice none 0 0, .int .i64 0] 30 (0, 0)) := heap_alloc_new w _
  have E0 := (Ext.refl w).goA (.cells #[.int .i64 0, .int .i64 0, .int .i64 0, .slice none 0 0, .int .i64 0] 30)
  have hll := hx.len
  obtain ⟨bb, oo, rfl, hbb, c0⟩ := hx.at_ (j := 0) hm0
  rw [Nat.add_zero] at c0
  have x0 := hl 0
  rw [← List.getD_eq_getElem?_getD] at x0
  have w1r := wordAt_range l hl 1
  have w3r := wordAt_range l hl 3
  have w5r := wordAt_range l hl 5
  have hxl := Lib.hid (fun w' (E : Ext w w') => hx.ext E)
  have hlb := Lib.hid hl
  have hat := Lib.hid (fun w' (E : Ext w w') i (hi : i ≤ 1048576) => refAt_any (some ⟨bb, oo, none⟩) i m c w'.heap.size l w' (hx.ext E) hl hi (by unfold maxLen; omega))
  have C0 := (E0.cell oo hbb).trans c0
  have hfin : refReadR l = ⟨l.getD 0 0, wordAt l 1, wordAt l 3, wordAt l 5, unwordsL (l.drop 10)⟩ := by
    unfold refReadR
    have hn : 10 < l.length := by omega
    rw [hf]
    simp [hn]
  rw [hfin]
  have hll' := Lib.hid hll
  have u0 : IntKind.i64.wrap (l.getD 0 0) = l.getD 0 0 := by rw [IntKind.wrap_i64]; omega
  have R0' := Lib.hid R0
  clear hx hl c0 hfin R0 hll
  generalize hw1 : wordAt l 1 = ad at *
  generalize hw3 : wordAt l 3 = q3 at *
  generalize hw5 : wordAt l 5 = q5 at *
  have hw1' := Lib.hid hw1
  have hw3' := Lib.hid hw3
  have hw5' := Lib.hid hw5
  clear hw1 hw3 hw5
  rw [hf] at *
  clear hf
  have hb8 : ByteL (l.drop 10) := fun j => by rw [List.getElem?_drop]; exact hlb.out _
  have hb8h := Lib.hid hb8
  clear hb8
  have sU : (w.alloc (.cells #[.int .i64 0, .int .i64 0, .int .i64 0, .slice none 0 0, .int .i64 0] 30)).heap.size = w.heap.size + 1 := by simp
  go_enter Try.func103, Try.ntmps103
  go_wp2_with fail
  generalize w.alloc (.cells #[.int .i64 0, .int .i64 0, .int .i64 0, .slice none 0 0, .int .i64 0] 30) = U at *
  have dU : Ext U U.drew := (Ext.refl U).god
  have Cw : ∀ w', Ext U w' → w'.cell? ⟨bb, oo, none⟩ = some (.int .u8 23) := fun w' D => (D.cell oo (by omega)).trans C0
  clear C0
  refine wp_region_held_drew (S := fun w' => Ext U w') (by kernel_rfl) dU (fun hHeld => ?_)
  refine tk 0 ?_
  try simp only [Act.put, gA, gC, List.setIfInBounds_toArray, gE, gF]
  refine tk 1 ?_
  try simp only [Act.put, gA, gB, gC, List.setIfInBounds_toArray, gE, gF]
  refine tk 2 ?_
  try simp only [Act.put, gA, gB, gC, List.setIfInBounds_toArray, gE, gF]
  refine tk 3 ?_
  try simp only [Act.put, gA, gB, gC, List.setIfInBounds_toArray, gE, gF]
  refine tk 4 ?_
  try simp only [Act.put, gA, gB, gC, List.setIfInBounds_toArray, gE, gF]
  refine wpAnyH_ready (rs := [5, 7]) (by kernel_rfl) (by simp) ?_
  refine AllReadyH.cons rfl (fun K hK => ?_) (AllReadyH.cons rfl (fun K hK => ?_) (AllReadyH.nil))
  · go_simp
    go_at_call 106
    refine (hat.out _ (E0.go dU) 1 (by omega)).mono ?_
    rw [hw1'.out]
    rintro e w3 ⟨rfl, k3, rfl⟩
    have d3 := dU.goD k3
    have d4 := (Ext.refl U).goD (1 + k3)
    try dsimp only
    refine hK.out _ _ ?_ (fun hHeld => ?_)
    · first | assumption | (dsimp only; assumption)
    clear hK K
    try simp only [Act.put, gA, gB, gC, List.setIfInBounds_toArray, gE, gF]
    refine tk 6 ?_
    try simp only [Act.put, gA, gB, gC, List.setIfInBounds_toArray, gE, gF]
    refine wpAnyH_ready (rs := [7]) (by kernel_rfl) (by simp) ?_
    refine AllReadyH.cons rfl (fun K hK => ?_) ?_
    rotate_left
    · exact AllReadyH.nil
    go_simp
    refine hK.out _ _ ?_ (fun hHeld => ?_)
    · exact d4.goA _
    clear hK K
    try simp only [Act.put, gA, gB, gC, List.setIfInBounds_toArray, gE, gF]
    refine wpAnyH_ready (rs := [8]) (by kernel_rfl) (by simp) ?_
    refine AllReadyH.cons rfl (fun K hK => ?_) ?_
    rotate_left
    · exact AllReadyH.nil
    go_simp
    refine hK.out _ _ ?_ (fun hHeld => ?_)
    · exact d4.goA _
    clear hK K
    try simp only [Act.put, gA, gB, gC, List.setIfInBounds_toArray, gE, gF]
    refine wpAnyH_done (by kernel_rfl) ?_ _
    have EV := (E0.go d4).goA (.cells #[.int .i64 23, .int .i64 ad, .int .i64 0, .slice none 0 0, .int .i64 0] 30)
    have RV := ((d4.goA (.cells #[.int .i64 23, .int .i64 ad, .int .i64 0, .slice none 0 0, .int .i64 0] 30)).block w.heap.size (by omega)).trans R0'.out
    have QV := heap_alloc_new (U.drewN (1 + k3)) (.cells #[.int .i64 23, .int .i64 ad, .int .i64 0, .slice none 0 0, .int .i64 0] 30)
    rw [show (U.drewN (1 + k3)).heap.size = w.heap.size + 1 from sU] at QV
    clear Cw R0'
    generalize (U.drewN (1 + k3)).alloc (.cells #[.int .i64 23, .int .i64 ad, .int .i64 0, .slice none 0 0, .int .i64 0] 30) = V at *
    clear d3 d4 dU
    have tl : decide (10 < m) = true := by simp; omega
    have tl2 : (10 : Int) < m := by omega
    have tl3 : 10 < m := by omega
    have p4 : ¬ c = 10 := by omega
    have p5 : 10 ≤ m := by omega
    have p6 : (10 : Int) ≤ (m : Int) := by omega
    have q0 := cellsAt QV
    have f0 := frozen_block QV
    have RV' := Lib.hid RV
    have QV' := Lib.hid QV
    clear RV QV
    go_wp2_with fail
    refine (hat.out _ EV 3 (by omega)).mono ?_
    rw [hw3'.out]
    rintro e w5 ⟨rfl, k5, e5⟩
    have D5 : Ext V w5 := e5 ▸ (Ext.refl V).goD k5
    have Q5 := (D5.block _ (lt_of_block QV'.out)).trans QV'.out
    have R5 := (D5.block _ (lt_of_block RV'.out)).trans RV'.out
    have QX : (w5.setCell ⟨w.heap.size + 1, 2, none⟩ (.int .i64 q3)).heap[w.heap.size + 1]? = some (.cells #[.int .i64 23, .int .i64 ad, .int .i64 q3, .slice none 0 0, .int .i64 0] 30 (0, 0)) := set_block Q5 2 (.int .i64 q3)
    have RX := (Below.heap_setCell w5 ⟨w.heap.size + 1, 2, none⟩ (.int .i64 q3) w.heap.size (by simp)).trans R5
    have EX := (EV.go D5).goS (p := ⟨w.heap.size + 1, 2, none⟩) (by simp) (.int .i64 q3)
    have q1 := cellsAt QX
    have q5c := cellsAt Q5
    have f5c := frozen_block Q5
    have f1 := frozen_block QX
    have QX' := Lib.hid QX
    have RX' := Lib.hid RX
    clear QX RX e5 q0 f0 D5 Q5 R5
    go_wp2_with fail
    refine (hat.out _ EX 5 (by omega)).mono ?_
    rw [hw5'.out]
    rintro e w6 ⟨rfl, k6, e6⟩
    have D6 : Ext (w5.setCell ⟨w.heap.size + 1, 2, none⟩ (.int .i64 q3)) w6 := e6 ▸ (Ext.refl _).goD k6
    have Q6 := (D6.block _ (lt_of_block QX'.out)).trans QX'.out
    have R6 := (D6.block _ (lt_of_block RX'.out)).trans RX'.out
    have QY : (w6.setCell ⟨w.heap.size + 1, 4, none⟩ (.int .i64 q5)).heap[w.heap.size + 1]? = some (.cells #[.int .i64 23, .int .i64 ad, .int .i64 q3, .slice none 0 0, .int .i64 q5] 30 (0, 0)) := set_block Q6 4 (.int .i64 q5)
    have RY := (Below.heap_setCell w6 ⟨w.heap.size + 1, 4, none⟩ (.int .i64 q5) w.heap.size (by simp)).trans R6
    have EY := (EX.go D6).goS (p := ⟨w.heap.size + 1, 4, none⟩) (by simp) (.int .i64 q5)
    have q6c := cellsAt Q6
    have f6c := frozen_block Q6
    have QY' := Lib.hid QY
    have RY' := Lib.hid RY
    clear QY RY e6 q1 f1 D6 Q6 R6 q5c f5c
    go_wp2_with fail
    refine (refUnwords_any _ (m - 10) _ _ _ _ ((hxl.out _ EY).drop p5) (Nat.le_refl _) hb8h.out (by omega)).mono ?_
    rintro e w7 ⟨A7, n7, c7, rfl, g7, g7', r7, D7, fr7⟩
    have Q7 := (D7.block _ (lt_of_block QY'.out)).trans QY'.out
    have R7 := (D7.block _ (lt_of_block RY'.out)).trans RY'.out
    have lq := lt_of_block QY'.out
    have QZ : (w7.setCell ⟨w.heap.size + 1, 3, none⟩ (.slice A7 n7 c7)).heap[w.heap.size + 1]? = some (.cells #[.int .i64 23, .int .i64 ad, .int .i64 q3, .slice A7 n7 c7, .int .i64 q5] 30 (0, 0)) := set_block Q7 3 (.slice A7 n7 c7)
    have RZ := (Below.heap_setCell w7 ⟨w.heap.size + 1, 3, none⟩ (.slice A7 n7 c7) w.heap.size (by simp)).trans R7
    have EZ := (EY.go D7).goS (p := ⟨w.heap.size + 1, 3, none⟩) (by simp) (.slice A7 n7 c7)
    have r8 := Lib.hid (set_rd r7 (Nat.le_refl _) ⟨w.heap.size + 1, 3, none⟩ (fun _ b o e => by have := fr7 b o e; simp only; omega) (.slice A7 n7 c7))
    have q7 := cellsAt Q7
    have f7 := frozen_block Q7
    have q8 := cellsAt QZ
    have s8 := cellsAt RZ
    have g8 := frozen_block RZ
    have RZ' := Lib.hid RZ
    clear QZ RZ Q7 R7 r7
    go_wp2_with fail
    obtain ⟨z0, z1, z2, z3, z4⟩ := five_reads RZ'.out (.int .i64 23) (.int .i64 ad) (.int .i64 q3) (.slice A7 n7 c7) (.int .i64 q5)
    refine bodyPost_ret (v := .agg #[.int .i64 23, .int .i64 ad, .int .i64 q3, .slice A7 n7 c7, .int .i64 q5]) (by simp [results, Try.results103, go_sem, z0, z1, z2, z3, z4]) rfl ?_
    exact ⟨_, _, _, rfl, g7, g7', five_rd r8.out (Nat.le_refl _) _ (fun hn b o e => by have := fr7 b o e; omega) _ _ _ _ _, EZ.five (Nat.le_refl _) _ _ _ _ _, fun b o e => by have := fr7 b o e; omega⟩
  · go_simp
    refine hK.out _ _ ?_ (fun hHeld => ?_)
    · exact dU.goA _
    clear hK K
    try simp only [Act.put, gA, gB, gC, List.setIfInBounds_toArray, gE, gF]
    refine wpAnyH_ready (rs := [5]) (by kernel_rfl) (by simp) ?_
    refine AllReadyH.cons rfl (fun K hK => ?_) ?_
    rotate_left
    · exact AllReadyH.nil
    go_simp
    go_at_call 106
    refine (hat.out _ (E0.go (dU.goA _)) 1 (by omega)).mono ?_
    rw [hw1'.out]
    rintro e w3 ⟨rfl, k3, rfl⟩
    have d3 := (dU.goA (.cells #[.int .i64 0, .int .i64 0, .int .i64 0, .slice none 0 0, .int .i64 0] 30)).goD k3
    have d4 := (dU.goA (.cells #[.int .i64 0, .int .i64 0, .int .i64 0, .slice none 0 0, .int .i64 0] 30)).goD k3
    try dsimp only
    refine hK.out _ _ ?_ (fun hHeld => ?_)
    · first | assumption | (dsimp only; assumption)
    clear hK K
    try simp only [Act.put, gA, gB, gC, List.setIfInBounds_toArray, gE, gF]
    have RY := (d4.block w.heap.size (by omega)).trans R0'.out
    have QY : ((U.drew.alloc (.cells #[.int .i64 0, .int .i64 0, .int .i64 0, .slice none 0 0, .int .i64 0] 30)).drewN k3).heap[U.heap.size]? = some (.cells #[.int .i64 0, .int .i64 0, .int .i64 0, .slice none 0 0, .int .i64 0] 30 (0, 0)) := heap_alloc_new U (.cells #[.int .i64 0, .int .i64 0, .int .i64 0, .slice none 0 0, .int .i64 0] 30)
    rw [sU] at QY
    refine tk 6 ?_
    try simp only [Act.put, gA, gB, gC, List.setIfInBounds_toArray, gE, gF]
    clear Cw R0' d3
    generalize (U.drew.alloc (.cells #[.int .i64 0, .int .i64 0, .int .i64 0, .slice none 0 0, .int .i64 0] 30)).drewN k3 = Y at *
    have q0 := cellsAt QY
    have f0 := frozen_block QY
    have RY' := Lib.hid RY
    have QY' := Lib.hid QY
    clear RY QY
    refine wpAnyH_ready (rs := [8]) (by kernel_rfl) (by simp) ?_
    refine AllReadyH.cons rfl (fun K hK => ?_) ?_
    rotate_left
    · exact AllReadyH.nil
    go_simp
    refine hK.out _ _ ?_ (fun hHeld => ?_)
    · exact d4.five (by omega) _ _ _ _ _
    clear hK K
    try simp only [Act.put, gA, gB, gC, List.setIfInBounds_toArray, gE, gF]
    refine wpAnyH_done (by kernel_rfl) ?_ _
    have EV := (E0.go d4).five (i := w.heap.size + 1) (by omega) (.int .i64 23) (.int .i64 ad) (.int .i64 0) (.slice none 0 0) (.int .i64 0)
    have RV := (five_keep Y (w.heap.size + 1) w.heap.size (by omega) (.int .i64 23) (.int .i64 ad) (.int .i64 0) (.slice none 0 0) (.int .i64 0)).trans RY'.out
    have QV := five_block QY'.out (.int .i64 23) (.int .i64 ad) (.int .i64 0) (.slice none 0 0) (.int .i64 0)
    clear q0 f0
    generalize (((((Y.setCell ⟨w.heap.size + 1, 0, none⟩ (.int .i64 23)).setCell ⟨w.heap.size + 1, 1, none⟩ (.int .i64 ad)).setCell ⟨w.heap.size + 1, 2, none⟩ (.int .i64 0)).setCell ⟨w.heap.size + 1, 3, none⟩ (.slice none 0 0)).setCell ⟨w.heap.size + 1, 4, none⟩ (.int .i64 0)) = V at *
    clear d4 dU
    have tl : decide (10 < m) = true := by simp; omega
    have tl2 : (10 : Int) < m := by omega
    have tl3 : 10 < m := by omega
    have p4 : ¬ c = 10 := by omega
    have p5 : 10 ≤ m := by omega
    have p6 : (10 : Int) ≤ (m : Int) := by omega
    have q0 := cellsAt QV
    have f0 := frozen_block QV
    have RV' := Lib.hid RV
    have QV' := Lib.hid QV
    clear RV QV
    go_wp2_with fail
    refine (hat.out _ EV 3 (by omega)).mono ?_
    rw [hw3'.out]
    rintro e w5 ⟨rfl, k5, e5⟩
    have D5 : Ext V w5 := e5 ▸ (Ext.refl V).goD k5
    have Q5 := (D5.block _ (lt_of_block QV'.out)).trans QV'.out
    have R5 := (D5.block _ (lt_of_block RV'.out)).trans RV'.out
    have QX : (w5.setCell ⟨w.heap.size + 1, 2, none⟩ (.int .i64 q3)).heap[w.heap.size + 1]? = some (.cells #[.int .i64 23, .int .i64 ad, .int .i64 q3, .slice none 0 0, .int .i64 0] 30 (0, 0)) := set_block Q5 2 (.int .i64 q3)
    have RX := (Below.heap_setCell w5 ⟨w.heap.size + 1, 2, none⟩ (.int .i64 q3) w.heap.size (by simp)).trans R5
    have EX := (EV.go D5).goS (p := ⟨w.heap.size + 1, 2, none⟩) (by simp) (.int .i64 q3)
    have q1 := cellsAt QX
    have q5c := cellsAt Q5
    have f5c := frozen_block Q5
    have f1 := frozen_block QX
    have QX' := Lib.hid QX
    have RX' := Lib.hid RX
    clear QX RX e5 q0 f0 D5 Q5 R5
    go_wp2_with fail
    refine (hat.out _ EX 5 (by omega)).mono ?_
    rw [hw5'.out]
    rintro e w6 ⟨rfl, k6, e6⟩
    have D6 : Ext (w5.setCell ⟨w.heap.size + 1, 2, none⟩ (.int .i64 q3)) w6 := e6 ▸ (Ext.refl _).goD k6
    have Q6 := (D6.block _ (lt_of_block QX'.out)).trans QX'.out
    have R6 := (D6.block _ (lt_of_block RX'.out)).trans RX'.out
    have QY : (w6.setCell ⟨w.heap.size + 1, 4, none⟩ (.int .i64 q5)).heap[w.heap.size + 1]? = some (.cells #[.int .i64 23, .int .i64 ad, .int .i64 q3, .slice none 0 0, .int .i64 q5] 30 (0, 0)) := set_block Q6 4 (.int .i64 q5)
    have RY := (Below.heap_setCell w6 ⟨w.heap.size + 1, 4, none⟩ (.int .i64 q5) w.heap.size (by simp)).trans R6
    have EY := (EX.go D6).goS (p := ⟨w.heap.size + 1, 4, none⟩) (by simp) (.int .i64 q5)
    have q6c := cellsAt Q6
    have f6c := frozen_block Q6
    have QY' := Lib.hid QY
    have RY' := Lib.hid RY
    clear QY RY e6 q1 f1 D6 Q6 R6 q5c f5c
    go_wp2_with fail
    refine (refUnwords_any _ (m - 10) _ _ _ _ ((hxl.out _ EY).drop p5) (Nat.le_refl _) hb8h.out (by omega)).mono ?_
    rintro e w7 ⟨A7, n7, c7, rfl, g7, g7', r7, D7, fr7⟩
    have Q7 := (D7.block _ (lt_of_block QY'.out)).trans QY'.out
    have R7 := (D7.block _ (lt_of_block RY'.out)).trans RY'.out
    have lq := lt_of_block QY'.out
    have QZ : (w7.setCell ⟨w.heap.size + 1, 3, none⟩ (.slice A7 n7 c7)).heap[w.heap.size + 1]? = some (.cells #[.int .i64 23, .int .i64 ad, .int .i64 q3, .slice A7 n7 c7, .int .i64 q5] 30 (0, 0)) := set_block Q7 3 (.slice A7 n7 c7)
    have RZ := (Below.heap_setCell w7 ⟨w.heap.size + 1, 3, none⟩ (.slice A7 n7 c7) w.heap.size (by simp)).trans R7
    have EZ := (EY.go D7).goS (p := ⟨w.heap.size + 1, 3, none⟩) (by simp) (.slice A7 n7 c7)
    have r8 := Lib.hid (set_rd r7 (Nat.le_refl _) ⟨w.heap.size + 1, 3, none⟩ (fun _ b o e => by have := fr7 b o e; simp only; omega) (.slice A7 n7 c7))
    have q7 := cellsAt Q7
    have f7 := frozen_block Q7
    have q8 := cellsAt QZ
    have s8 := cellsAt RZ
    have g8 := frozen_block RZ
    have RZ' := Lib.hid RZ
    clear QZ RZ Q7 R7 r7
    go_wp2_with fail
    obtain ⟨z0, z1, z2, z3, z4⟩ := five_reads RZ'.out (.int .i64 23) (.int .i64 ad) (.int .i64 q3) (.slice A7 n7 c7) (.int .i64 q5)
    refine bodyPost_ret (v := .agg #[.int .i64 23, .int .i64 ad, .int .i64 q3, .slice A7 n7 c7, .int .i64 q5]) (by simp [results, Try.results103, go_sem, z0, z1, z2, z3, z4]) rfl ?_
    exact ⟨_, _, _, rfl, g7, g7', five_rd r8.out (Nat.le_refl _) _ (fun hn b o e => by have := fr7 b o e; omega) _ _ _ _ _, EZ.five (Nat.le_refl _) _ _ _ _ _, fun b o e => by have := fr7 b o e; omega⟩
end Go.Proofs.Ytgagpalffdgjnaa
