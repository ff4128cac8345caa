/- The reference of layer 4: shape. (Printed by wip/gen/shape04.py.) -/
import Derived.Test.YtgagpalffdgjnaaRef04Reads
import Derived.Test.YtgagpalffdgjnaaG61
import Derived.Deep.RegionHeld
namespace Go.Proofs.Ytgagpalffdgjnaa
open Go.RowKit

set_option maxRecDepth 100000 in
set_option maxHeartbeats 1600000 in
theorem shape_none04 (fc ad qt to M : Int) (A : Option Addr) (n c : Nat) (w : World) (hm : mostV fc = M) (h0 : M = 0) :
    Calls Try.prog 60 #[.agg #[.int .i64 fc, .int .i64 ad, .int .i64 qt, .slice A n c, .int .i64 to]] w fun e w' => e = .returned (.bool false) ∧ Ext w w' := by
  have bq : ∀ w', Ext (w.alloc (.cells #[.int .i64 fc, .int .i64 ad, .int .i64 qt, .slice A n c, .int .i64 to] 30)) w' → ∀ o, w'.cell? ⟨w.heap.size, o, none⟩ = _ := fun w' D => cellsAt ((D.block w.heap.size (by simp)).trans (heap_alloc_new w _))
  have E0 := (Ext.refl w).goA (.cells #[.int .i64 fc, .int .i64 ad, .int .i64 qt, .slice A n c, .int .i64 to] 30)
  subst h0
  have bq' := Lib.hid bq
  clear bq
  go_enter Try.func60, Try.ntmps60
  go_wp2_with fail
  refine (most_any fc _).mono ?_
  rw [hm]
  rintro e w1 ⟨rfl, rfl⟩
  go_wp2_with fail
  go_ret
  exact ⟨rfl, E0⟩
set_option maxRecDepth 100000 in
set_option maxHeartbeats 1600000 in
theorem shape_ad04 (fc ad qt to M : Int) (A : Option Addr) (n c : Nat) (w : World) (hm : mostV fc = M) (h0 : M ≠ 0) (ha : placeB ad = false) :
    Calls Try.prog 60 #[.agg #[.int .i64 fc, .int .i64 ad, .int .i64 qt, .slice A n c, .int .i64 to]] w fun e w' => e = .returned (.bool false) ∧ Ext w w' := by
  have bq : ∀ w', Ext (w.alloc (.cells #[.int .i64 fc, .int .i64 ad, .int .i64 qt, .slice A n c, .int .i64 to] 30)) w' → ∀ o, w'.cell? ⟨w.heap.size, o, none⟩ = _ := fun w' D => cellsAt ((D.block w.heap.size (by simp)).trans (heap_alloc_new w _))
  have E0 := (Ext.refl w).goA (.cells #[.int .i64 fc, .int .i64 ad, .int .i64 qt, .slice A n c, .int .i64 to] 30)
  have t1 : (M == 0) = false := by simp; exact h0
  clear h0
  have bq' := Lib.hid bq
  clear bq
  go_enter Try.func60, Try.ntmps60
  go_wp2_with fail
  refine (most_any fc _).mono ?_
  rw [hm]
  rintro e w1 ⟨rfl, rfl⟩
  go_wp2_with fail
  refine (place_any ad _).mono ?_
  rw [ha]
  rintro e w1 ⟨rfl, rfl⟩
  go_wp2_with fail
  go_ret
  exact ⟨rfl, E0⟩
set_option maxRecDepth 100000 in
set_option maxHeartbeats 1600000 in
theorem shape_to04 (fc ad qt to M : Int) (A : Option Addr) (n c : Nat) (w : World) (hm : mostV fc = M) (h0 : M ≠ 0) (ha : placeB ad = true) (ht : placeB to = false) :
    Calls Try.prog 60 #[.agg #[.int .i64 fc, .int .i64 ad, .int .i64 qt, .slice A n c, .int .i64 to]] w fun e w' => e = .returned (.bool false) ∧ Ext w w' := by
  have bq : ∀ w', Ext (w.alloc (.cells #[.int .i64 fc, .int .i64 ad, .int .i64 qt, .slice A n c, .int .i64 to] 30)) w' → ∀ o, w'.cell? ⟨w.heap.size, o, none⟩ = _ := fun w' D => cellsAt ((D.block w.heap.size (by simp)).trans (heap_alloc_new w _))
  have E0 := (Ext.refl w).goA (.cells #[.int .i64 fc, .int .i64 ad, .int .i64 qt, .slice A n c, .int .i64 to] 30)
  have t1 : (M == 0) = false := by simp; exact h0
  clear h0
  have bq' := Lib.hid bq
  clear bq
  go_enter Try.func60, Try.ntmps60
  go_wp2_with fail
  refine (most_any fc _).mono ?_
  rw [hm]
  rintro e w1 ⟨rfl, rfl⟩
  go_wp2_with fail
  refine (place_any ad _).mono ?_
  rw [ha]
  rintro e w1 ⟨rfl, rfl⟩
  go_wp2_with fail
  refine (place_any to _).mono ?_
  rw [ht]
  rintro e w1 ⟨rfl, rfl⟩
  go_wp2_with fail
  go_ret
  exact ⟨rfl, E0⟩
set_option maxRecDepth 100000 in
set_option maxHeartbeats 1600000 in
theorem shape_zero04 (fc ad qt to M : Int) (A : Option Addr) (n c : Nat) (w : World) (hm : mostV fc = M) (h0 : M ≠ 0) (ha : placeB ad = true) (ht : placeB to = true) (hf : fc ≠ 23) (hz : to ≠ 0) :
    Calls Try.prog 60 #[.agg #[.int .i64 fc, .int .i64 ad, .int .i64 qt, .slice A n c, .int .i64 to]] w fun e w' => e = .returned (.bool false) ∧ Ext w w' := by
  have bq : ∀ w', Ext (w.alloc (.cells #[.int .i64 fc, .int .i64 ad, .int .i64 qt, .slice A n c, .int .i64 to] 30)) w' → ∀ o, w'.cell? ⟨w.heap.size, o, none⟩ = _ := fun w' D => cellsAt ((D.block w.heap.size (by simp)).trans (heap_alloc_new w _))
  have E0 := (Ext.refl w).goA (.cells #[.int .i64 fc, .int .i64 ad, .int .i64 qt, .slice A n c, .int .i64 to] 30)
  have t1 : (M == 0) = false := by simp; exact h0
  clear h0
  have t2 : (fc != 23) = true := by simp; exact hf
  have t3 : (to != 0) = true := by simp; exact hz
  have t4 : (fc == 23) = false := by simp; exact hf
  have t5 : (to == 0) = false := by simp; exact hz
  clear hf hz
  have bq' := Lib.hid bq
  clear bq
  go_enter Try.func60, Try.ntmps60
  go_wp2_with fail
  refine (most_any fc _).mono ?_
  rw [hm]
  rintro e w1 ⟨rfl, rfl⟩
  go_wp2_with fail
  refine (place_any ad _).mono ?_
  rw [ha]
  rintro e w1 ⟨rfl, rfl⟩
  go_wp2_with fail
  refine (place_any to _).mono ?_
  rw [ht]
  rintro e w1 ⟨rfl, rfl⟩
  go_wp2_with fail
  go_ret
  exact ⟨rfl, E0⟩
set_option maxRecDepth 100000 in
set_option maxHeartbeats 1600000 in
theorem shape_single04 (fc ad qt to M : Int) (A : Option Addr) (n c : Nat) (w : World) (hm : mostV fc = M) (h0 : M ≠ 0) (ha : placeB ad = true) (ht : placeB to = true) (hz : fc = 23 ∨ fc ≠ 23 ∧ to = 0) (hs : singleB fc = true) (hq : qt ≠ 0) :
    Calls Try.prog 60 #[.agg #[.int .i64 fc, .int .i64 ad, .int .i64 qt, .slice A n c, .int .i64 to]] w fun e w' => e = .returned (.bool false) ∧ Ext w w' := by
  have bq : ∀ w', Ext (w.alloc (.cells #[.int .i64 fc, .int .i64 ad, .int .i64 qt, .slice A n c, .int .i64 to] 30)) w' → ∀ o, w'.cell? ⟨w.heap.size, o, none⟩ = _ := fun w' D => cellsAt ((D.block w.heap.size (by simp)).trans (heap_alloc_new w _))
  have E0 := (Ext.refl w).goA (.cells #[.int .i64 fc, .int .i64 ad, .int .i64 qt, .slice A n c, .int .i64 to] 30)
  have t1 : (M == 0) = false := by simp; exact h0
  clear h0
  rcases hz with rfl | ⟨hf, rfl⟩
  · have q1 : (qt == 0) = false := by simp; exact hq
    have q2 : (qt != 0) = true := by simp; exact hq
    clear hq
    have bq' := Lib.hid bq
    clear bq
    go_enter Try.func60, Try.ntmps60
    go_wp2_with fail
    refine (most_any 23 _).mono ?_
    rw [hm]
    rintro e w1 ⟨rfl, rfl⟩
    go_wp2_with fail
    refine (place_any ad _).mono ?_
    rw [ha]
    rintro e w1 ⟨rfl, rfl⟩
    go_wp2_with fail
    refine (place_any to _).mono ?_
    rw [ht]
    rintro e w1 ⟨rfl, rfl⟩
    go_wp2_with fail
    generalize w.alloc (.cells #[.int .i64 23, .int .i64 ad, .int .i64 qt, .slice A n c, .int .i64 to] 30) = W at *
    have bq := bq'.out
    have d0 : Ext W W.drew := (Ext.refl _).god
    refine wp_region_held_drew (S := fun w' => Ext W w') (by kernel_rfl) d0 (fun hHeld => ?_)
    refine tk 0 ?_
    try simp only [Act.put, gA, gC, List.setIfInBounds_toArray, gE, gF]
    refine tk 1 ?_
    try simp only [Act.put, gA, gB, gC, List.setIfInBounds_toArray, gE, gF]
    refine wpAnyH_ready (rs := [2]) (by kernel_rfl) (by simp) ?_
    refine AllReadyH.cons rfl (fun K hK => ?_) ?_
    rotate_left
    · exact AllReadyH.nil
    go_simp
    go_at_call 97
    refine (single_any 23 _).mono ?_
    rw [hs]
    rintro e w2 ⟨rfl, rfl⟩
    try dsimp only
    refine hK.out _ _ ?_ (fun hHeld => ?_)
    · first | assumption | (dsimp only; assumption)
    clear hK K
    try simp only [Act.put, gA, gB, gC, List.setIfInBounds_toArray, gE, gF]
    refine tk 3 ?_
    try simp only [Act.put, gA, gB, gC, List.setIfInBounds_toArray, gE, gF]
    refine tk 4 ?_
    try simp only [Act.put, gA, gB, gC, List.setIfInBounds_toArray, gE, gF]
    refine tk 5 ?_
    try simp only [Act.put, gA, gB, gC, List.setIfInBounds_toArray, gE, gF]
    refine tk 6 ?_
    try simp only [Act.put, gA, gB, gC, List.setIfInBounds_toArray, gE, gF]
    refine tk 7 ?_
    try simp only [Act.put, gA, gB, gC, List.setIfInBounds_toArray, gE, gF]
    refine tk 8 ?_
    try simp only [Act.put, gA, gB, gC, List.setIfInBounds_toArray, gE, gF]
    refine skH 9 ?_
    try simp only [Act.put, gA, gB, gC, List.setIfInBounds_toArray, gE, gF]
    refine skH 10 ?_
    try simp only [Act.put, gA, gB, gC, List.setIfInBounds_toArray, gE, gF]
    refine skH 11 ?_
    try simp only [Act.put, gA, gB, gC, List.setIfInBounds_toArray, gE, gF]
    refine skH 12 ?_
    try simp only [Act.put, gA, gB, gC, List.setIfInBounds_toArray, gE, gF]
    refine skH 13 ?_
    try simp only [Act.put, gA, gB, gC, List.setIfInBounds_toArray, gE, gF]
    refine skH 14 ?_
    try simp only [Act.put, gA, gB, gC, List.setIfInBounds_toArray, gE, gF]
    refine skH 15 ?_
    try simp only [Act.put, gA, gB, gC, List.setIfInBounds_toArray, gE, gF]
    refine skH 16 ?_
    try simp only [Act.put, gA, gB, gC, List.setIfInBounds_toArray, gE, gF]
    refine skH 17 ?_
    try simp only [Act.put, gA, gB, gC, List.setIfInBounds_toArray, gE, gF]
    refine skH 18 ?_
    try simp only [Act.put, gA, gB, gC, List.setIfInBounds_toArray, gE, gF]
    refine skH 19 ?_
    try simp only [Act.put, gA, gB, gC, List.setIfInBounds_toArray, gE, gF]
    refine skH 20 ?_
    try simp only [Act.put, gA, gB, gC, List.setIfInBounds_toArray, gE, gF]
    refine skH 21 ?_
    try simp only [Act.put, gA, gB, gC, List.setIfInBounds_toArray, gE, gF]
    refine skH 22 ?_
    try simp only [Act.put, gA, gB, gC, List.setIfInBounds_toArray, gE, gF]
    refine skH 23 ?_
    try simp only [Act.put, gA, gB, gC, List.setIfInBounds_toArray, gE, gF]
    refine skH 24 ?_
    try simp only [Act.put, gA, gB, gC, List.setIfInBounds_toArray, gE, gF]
    refine skH 25 ?_
    try simp only [Act.put, gA, gB, gC, List.setIfInBounds_toArray, gE, gF]
    refine tk 26 ?_
    try simp only [Act.put, gA, gB, gC, List.setIfInBounds_toArray, gE, gF]
    refine wpAnyH_done (by kernel_rfl) ?_ _
    go_wp2_with fail
    go_ret
    exact ⟨rfl, E0.god⟩
  · have t2 : (fc != 23) = true := by simp; exact hf
    have t4 : (fc == 23) = false := by simp; exact hf
    clear hf
    have q1 : (qt == 0) = false := by simp; exact hq
    have q2 : (qt != 0) = true := by simp; exact hq
    clear hq
    have bq' := Lib.hid bq
    clear bq
    go_enter Try.func60, Try.ntmps60
    go_wp2_with fail
    refine (most_any fc _).mono ?_
    rw [hm]
    rintro e w1 ⟨rfl, rfl⟩
    go_wp2_with fail
    refine (place_any ad _).mono ?_
    rw [ha]
    rintro e w1 ⟨rfl, rfl⟩
    go_wp2_with fail
    refine (place_any 0 _).mono ?_
    rw [ht]
    rintro e w1 ⟨rfl, rfl⟩
    go_wp2_with fail
    generalize w.alloc (.cells #[.int .i64 fc, .int .i64 ad, .int .i64 qt, .slice A n c, .int .i64 0] 30) = W at *
    have bq := bq'.out
    have d0 : Ext W W.drew := (Ext.refl _).god
    refine wp_region_held_drew (S := fun w' => Ext W w') (by kernel_rfl) d0 (fun hHeld => ?_)
    refine tk 0 ?_
    try simp only [Act.put, gA, gC, List.setIfInBounds_toArray, gE, gF]
    refine tk 1 ?_
    try simp only [Act.put, gA, gB, gC, List.setIfInBounds_toArray, gE, gF]
    refine wpAnyH_ready (rs := [2]) (by kernel_rfl) (by simp) ?_
    refine AllReadyH.cons rfl (fun K hK => ?_) ?_
    rotate_left
    · exact AllReadyH.nil
    go_simp
    go_at_call 97
    refine (single_any fc _).mono ?_
    rw [hs]
    rintro e w2 ⟨rfl, rfl⟩
    try dsimp only
    refine hK.out _ _ ?_ (fun hHeld => ?_)
    · first | assumption | (dsimp only; assumption)
    clear hK K
    try simp only [Act.put, gA, gB, gC, List.setIfInBounds_toArray, gE, gF]
    refine tk 3 ?_
    try simp only [Act.put, gA, gB, gC, List.setIfInBounds_toArray, gE, gF]
    refine tk 4 ?_
    try simp only [Act.put, gA, gB, gC, List.setIfInBounds_toArray, gE, gF]
    refine tk 5 ?_
    try simp only [Act.put, gA, gB, gC, List.setIfInBounds_toArray, gE, gF]
    refine tk 6 ?_
    try simp only [Act.put, gA, gB, gC, List.setIfInBounds_toArray, gE, gF]
    refine tk 7 ?_
    try simp only [Act.put, gA, gB, gC, List.setIfInBounds_toArray, gE, gF]
    refine tk 8 ?_
    try simp only [Act.put, gA, gB, gC, List.setIfInBounds_toArray, gE, gF]
    refine skH 9 ?_
    try simp only [Act.put, gA, gB, gC, List.setIfInBounds_toArray, gE, gF]
    refine skH 10 ?_
    try simp only [Act.put, gA, gB, gC, List.setIfInBounds_toArray, gE, gF]
    refine skH 11 ?_
    try simp only [Act.put, gA, gB, gC, List.setIfInBounds_toArray, gE, gF]
    refine skH 12 ?_
    try simp only [Act.put, gA, gB, gC, List.setIfInBounds_toArray, gE, gF]
    refine skH 13 ?_
    try simp only [Act.put, gA, gB, gC, List.setIfInBounds_toArray, gE, gF]
    refine skH 14 ?_
    try simp only [Act.put, gA, gB, gC, List.setIfInBounds_toArray, gE, gF]
    refine skH 15 ?_
    try simp only [Act.put, gA, gB, gC, List.setIfInBounds_toArray, gE, gF]
    refine skH 16 ?_
    try simp only [Act.put, gA, gB, gC, List.setIfInBounds_toArray, gE, gF]
    refine skH 17 ?_
    try simp only [Act.put, gA, gB, gC, List.setIfInBounds_toArray, gE, gF]
    refine skH 18 ?_
    try simp only [Act.put, gA, gB, gC, List.setIfInBounds_toArray, gE, gF]
    refine skH 19 ?_
    try simp only [Act.put, gA, gB, gC, List.setIfInBounds_toArray, gE, gF]
    refine skH 20 ?_
    try simp only [Act.put, gA, gB, gC, List.setIfInBounds_toArray, gE, gF]
    refine skH 21 ?_
    try simp only [Act.put, gA, gB, gC, List.setIfInBounds_toArray, gE, gF]
    refine skH 22 ?_
    try simp only [Act.put, gA, gB, gC, List.setIfInBounds_toArray, gE, gF]
    refine skH 23 ?_
    try simp only [Act.put, gA, gB, gC, List.setIfInBounds_toArray, gE, gF]
    refine skH 24 ?_
    try simp only [Act.put, gA, gB, gC, List.setIfInBounds_toArray, gE, gF]
    refine skH 25 ?_
    try simp only [Act.put, gA, gB, gC, List.setIfInBounds_toArray, gE, gF]
    refine tk 26 ?_
    try simp only [Act.put, gA, gB, gC, List.setIfInBounds_toArray, gE, gF]
    refine wpAnyH_done (by kernel_rfl) ?_ _
    go_wp2_with fail
    go_ret
    exact ⟨rfl, E0.god⟩
set_option maxRecDepth 100000 in
set_option maxHeartbeats 1600000 in
theorem shape_low04 (fc ad qt to M : Int) (A : Option Addr) (n c : Nat) (w : World) (hm : mostV fc = M) (h0 : M ≠ 0) (ha : placeB ad = true) (ht : placeB to = true) (hz : fc = 23 ∨ fc ≠ 23 ∧ to = 0) (hs : singleB fc = false) (hq : qt < 1) :
    Calls Try.prog 60 #[.agg #[.int .i64 fc, .int .i64 ad, .int .i64 qt, .slice A n c, .int .i64 to]] w fun e w' => e = .returned (.bool false) ∧ Ext w w' := by
  have bq : ∀ w', Ext (w.alloc (.cells #[.int .i64 fc, .int .i64 ad, .int .i64 qt, .slice A n c, .int .i64 to] 30)) w' → ∀ o, w'.cell? ⟨w.heap.size, o, none⟩ = _ := fun w' D => cellsAt ((D.block w.heap.size (by simp)).trans (heap_alloc_new w _))
  have E0 := (Ext.refl w).goA (.cells #[.int .i64 fc, .int .i64 ad, .int .i64 qt, .slice A n c, .int .i64 to] 30)
  have t1 : (M == 0) = false := by simp; exact h0
  clear h0
  rcases hz with rfl | ⟨hf, rfl⟩
  · have q1 : decide (qt < 1) = true := by simp; omega
    clear hq
    have bq' := Lib.hid bq
    clear bq
    go_enter Try.func60, Try.ntmps60
    go_wp2_with fail
    refine (most_any 23 _).mono ?_
    rw [hm]
    rintro e w1 ⟨rfl, rfl⟩
    go_wp2_with fail
    refine (place_any ad _).mono ?_
    rw [ha]
    rintro e w1 ⟨rfl, rfl⟩
    go_wp2_with fail
    refine (place_any to _).mono ?_
    rw [ht]
    rintro e w1 ⟨rfl, rfl⟩
    go_wp2_with fail
    generalize w.alloc (.cells #[.int .i64 23, .int .i64 ad, .int .i64 qt, .slice A n c, .int .i64 to] 30) = W at *
    have bq := bq'.out
    have d0 : Ext W W.drew := (Ext.refl _).god
    refine wp_region_held_drew (S := fun w' => Ext W w') (by kernel_rfl) d0 (fun hHeld => ?_)
    refine tk 0 ?_
    try simp only [Act.put, gA, gC, List.setIfInBounds_toArray, gE, gF]
    refine tk 1 ?_
    try simp only [Act.put, gA, gB, gC, List.setIfInBounds_toArray, gE, gF]
    refine wpAnyH_ready (rs := [2]) (by kernel_rfl) (by simp) ?_
    refine AllReadyH.cons rfl (fun K hK => ?_) ?_
    rotate_left
    · exact AllReadyH.nil
    go_simp
    go_at_call 97
    refine (single_any 23 _).mono ?_
    rw [hs]
    rintro e w2 ⟨rfl, rfl⟩
    try dsimp only
    refine hK.out _ _ ?_ (fun hHeld => ?_)
    · first | assumption | (dsimp only; assumption)
    clear hK K
    try simp only [Act.put, gA, gB, gC, List.setIfInBounds_toArray, gE, gF]
    refine tk 3 ?_
    try simp only [Act.put, gA, gB, gC, List.setIfInBounds_toArray, gE, gF]
    refine skH 4 ?_
    try simp only [Act.put, gA, gB, gC, List.setIfInBounds_toArray, gE, gF]
    refine skH 5 ?_
    try simp only [Act.put, gA, gB, gC, List.setIfInBounds_toArray, gE, gF]
    refine skH 6 ?_
    try simp only [Act.put, gA, gB, gC, List.setIfInBounds_toArray, gE, gF]
    refine tk 7 ?_
    try simp only [Act.put, gA, gB, gC, List.setIfInBounds_toArray, gE, gF]
    refine tk 8 ?_
    try simp only [Act.put, gA, gB, gC, List.setIfInBounds_toArray, gE, gF]
    refine tk 9 ?_
    try simp only [Act.put, gA, gB, gC, List.setIfInBounds_toArray, gE, gF]
    refine tk 10 ?_
    try simp only [Act.put, gA, gB, gC, List.setIfInBounds_toArray, gE, gF]
    refine wpAnyH_ready (rs := [11]) (by kernel_rfl) (by simp) ?_
    refine AllReadyH.cons rfl (fun K hK => ?_) ?_
    rotate_left
    · exact AllReadyH.nil
    go_simp
    go_at_call 97
    refine (single_any 23 _).mono ?_
    rw [hs]
    rintro e w2 ⟨rfl, rfl⟩
    try dsimp only
    refine hK.out _ _ ?_ (fun hHeld => ?_)
    · first | assumption | (dsimp only; assumption)
    clear hK K
    try simp only [Act.put, gA, gB, gC, List.setIfInBounds_toArray, gE, gF]
    refine tk 12 ?_
    try simp only [Act.put, gA, gB, gC, List.setIfInBounds_toArray, gE, gF]
    refine tk 13 ?_
    try simp only [Act.put, gA, gB, gC, List.setIfInBounds_toArray, gE, gF]
    refine tk 14 ?_
    try simp only [Act.put, gA, gB, gC, List.setIfInBounds_toArray, gE, gF]
    refine tk 15 ?_
    try simp only [Act.put, gA, gB, gC, List.setIfInBounds_toArray, gE, gF]
    refine tk 16 ?_
    try simp only [Act.put, gA, gB, gC, List.setIfInBounds_toArray, gE, gF]
    refine tk 17 ?_
    try simp only [Act.put, gA, gB, gC, List.setIfInBounds_toArray, gE, gF]
    refine skH 18 ?_
    try simp only [Act.put, gA, gB, gC, List.setIfInBounds_toArray, gE, gF]
    refine skH 19 ?_
    try simp only [Act.put, gA, gB, gC, List.setIfInBounds_toArray, gE, gF]
    refine skH 20 ?_
    try simp only [Act.put, gA, gB, gC, List.setIfInBounds_toArray, gE, gF]
    refine skH 21 ?_
    try simp only [Act.put, gA, gB, gC, List.setIfInBounds_toArray, gE, gF]
    refine skH 22 ?_
    try simp only [Act.put, gA, gB, gC, List.setIfInBounds_toArray, gE, gF]
    refine skH 23 ?_
    try simp only [Act.put, gA, gB, gC, List.setIfInBounds_toArray, gE, gF]
    refine tk 24 ?_
    try simp only [Act.put, gA, gB, gC, List.setIfInBounds_toArray, gE, gF]
    refine tk 25 ?_
    try simp only [Act.put, gA, gB, gC, List.setIfInBounds_toArray, gE, gF]
    refine tk 26 ?_
    try simp only [Act.put, gA, gB, gC, List.setIfInBounds_toArray, gE, gF]
    refine wpAnyH_done (by kernel_rfl) ?_ _
    go_wp2_with fail
    go_ret
    exact ⟨rfl, E0.god⟩
  · have t2 : (fc != 23) = true := by simp; exact hf
    have t4 : (fc == 23) = false := by simp; exact hf
    clear hf
    have q1 : decide (qt < 1) = true := by simp; omega
    clear hq
    have bq' := Lib.hid bq
    clear bq
    go_enter Try.func60, Try.ntmps60
    go_wp2_with fail
    refine (most_any fc _).mono ?_
    rw [hm]
    rintro e w1 ⟨rfl, rfl⟩
    go_wp2_with fail
    refine (place_any ad _).mono ?_
    rw [ha]
    rintro e w1 ⟨rfl, rfl⟩
    go_wp2_with fail
    refine (place_any 0 _).mono ?_
    rw [ht]
    rintro e w1 ⟨rfl, rfl⟩
    go_wp2_with fail
    generalize w.alloc (.cells #[.int .i64 fc, .int .i64 ad, .int .i64 qt, .slice A n c, .int .i64 0] 30) = W at *
    have bq := bq'.out
    have d0 : Ext W W.drew := (Ext.refl _).god
    refine wp_region_held_drew (S := fun w' => Ext W w') (by kernel_rfl) d0 (fun hHeld => ?_)
    refine tk 0 ?_
    try simp only [Act.put, gA, gC, List.setIfInBounds_toArray, gE, gF]
    refine tk 1 ?_
    try simp only [Act.put, gA, gB, gC, List.setIfInBounds_toArray, gE, gF]
    refine wpAnyH_ready (rs := [2]) (by kernel_rfl) (by simp) ?_
    refine AllReadyH.cons rfl (fun K hK => ?_) ?_
    rotate_left
    · exact AllReadyH.nil
    go_simp
    go_at_call 97
    refine (single_any fc _).mono ?_
    rw [hs]
    rintro e w2 ⟨rfl, rfl⟩
    try dsimp only
    refine hK.out _ _ ?_ (fun hHeld => ?_)
    · first | assumption | (dsimp only; assumption)
    clear hK K
    try simp only [Act.put, gA, gB, gC, List.setIfInBounds_toArray, gE, gF]
    refine tk 3 ?_
    try simp only [Act.put, gA, gB, gC, List.setIfInBounds_toArray, gE, gF]
    refine skH 4 ?_
    try simp only [Act.put, gA, gB, gC, List.setIfInBounds_toArray, gE, gF]
    refine skH 5 ?_
    try simp only [Act.put, gA, gB, gC, List.setIfInBounds_toArray, gE, gF]
    refine skH 6 ?_
    try simp only [Act.put, gA, gB, gC, List.setIfInBounds_toArray, gE, gF]
    refine tk 7 ?_
    try simp only [Act.put, gA, gB, gC, List.setIfInBounds_toArray, gE, gF]
    refine tk 8 ?_
    try simp only [Act.put, gA, gB, gC, List.setIfInBounds_toArray, gE, gF]
    refine tk 9 ?_
    try simp only [Act.put, gA, gB, gC, List.setIfInBounds_toArray, gE, gF]
    refine tk 10 ?_
    try simp only [Act.put, gA, gB, gC, List.setIfInBounds_toArray, gE, gF]
    refine wpAnyH_ready (rs := [11]) (by kernel_rfl) (by simp) ?_
    refine AllReadyH.cons rfl (fun K hK => ?_) ?_
    rotate_left
    · exact AllReadyH.nil
    go_simp
    go_at_call 97
    refine (single_any fc _).mono ?_
    rw [hs]
    rintro e w2 ⟨rfl, rfl⟩
    try dsimp only
    refine hK.out _ _ ?_ (fun hHeld => ?_)
    · first | assumption | (dsimp only; assumption)
    clear hK K
    try simp only [Act.put, gA, gB, gC, List.setIfInBounds_toArray, gE, gF]
    refine tk 12 ?_
    try simp only [Act.put, gA, gB, gC, List.setIfInBounds_toArray, gE, gF]
    refine tk 13 ?_
    try simp only [Act.put, gA, gB, gC, List.setIfInBounds_toArray, gE, gF]
    refine tk 14 ?_
    try simp only [Act.put, gA, gB, gC, List.setIfInBounds_toArray, gE, gF]
    refine tk 15 ?_
    try simp only [Act.put, gA, gB, gC, List.setIfInBounds_toArray, gE, gF]
    refine tk 16 ?_
    try simp only [Act.put, gA, gB, gC, List.setIfInBounds_toArray, gE, gF]
    refine tk 17 ?_
    try simp only [Act.put, gA, gB, gC, List.setIfInBounds_toArray, gE, gF]
    refine skH 18 ?_
    try simp only [Act.put, gA, gB, gC, List.setIfInBounds_toArray, gE, gF]
    refine skH 19 ?_
    try simp only [Act.put, gA, gB, gC, List.setIfInBounds_toArray, gE, gF]
    refine skH 20 ?_
    try simp only [Act.put, gA, gB, gC, List.setIfInBounds_toArray, gE, gF]
    refine skH 21 ?_
    try simp only [Act.put, gA, gB, gC, List.setIfInBounds_toArray, gE, gF]
    refine skH 22 ?_
    try simp only [Act.put, gA, gB, gC, List.setIfInBounds_toArray, gE, gF]
    refine skH 23 ?_
    try simp only [Act.put, gA, gB, gC, List.setIfInBounds_toArray, gE, gF]
    refine tk 24 ?_
    try simp only [Act.put, gA, gB, gC, List.setIfInBounds_toArray, gE, gF]
    refine tk 25 ?_
    try simp only [Act.put, gA, gB, gC, List.setIfInBounds_toArray, gE, gF]
    refine tk 26 ?_
    try simp only [Act.put, gA, gB, gC, List.setIfInBounds_toArray, gE, gF]
    refine wpAnyH_done (by kernel_rfl) ?_ _
    go_wp2_with fail
    go_ret
    exact ⟨rfl, E0.god⟩
set_option maxRecDepth 100000 in
set_option maxHeartbeats 1600000 in
theorem shape_high04 (fc ad qt to M : Int) (A : Option Addr) (n c : Nat) (w : World) (hm : mostV fc = M) (h0 : M ≠ 0) (ha : placeB ad = true) (ht : placeB to = true) (hz : fc = 23 ∨ fc ≠ 23 ∧ to = 0) (hs : singleB fc = false) (hq : 1 ≤ qt) (hq2 : M < qt) :
    Calls Try.prog 60 #[.agg #[.int .i64 fc, .int .i64 ad, .int .i64 qt, .slice A n c, .int .i64 to]] w fun e w' => e = .returned (.bool false) ∧ Ext w w' := by
  have bq : ∀ w', Ext (w.alloc (.cells #[.int .i64 fc, .int .i64 ad, .int .i64 qt, .slice A n c, .int .i64 to] 30)) w' → ∀ o, w'.cell? ⟨w.heap.size, o, none⟩ = _ := fun w' D => cellsAt ((D.block w.heap.size (by simp)).trans (heap_alloc_new w _))
  have E0 := (Ext.refl w).goA (.cells #[.int .i64 fc, .int .i64 ad, .int .i64 qt, .slice A n c, .int .i64 to] 30)
  have t1 : (M == 0) = false := by simp; exact h0
  clear h0
  rcases hz with rfl | ⟨hf, rfl⟩
  · have q1 : decide (qt < 1) = false := by simp; omega
    have q2 : decide (M < qt) = true := by simp; omega
    clear hq hq2
    have bq' := Lib.hid bq
    clear bq
    go_enter Try.func60, Try.ntmps60
    go_wp2_with fail
    refine (most_any 23 _).mono ?_
    rw [hm]
    rintro e w1 ⟨rfl, rfl⟩
    go_wp2_with fail
    refine (place_any ad _).mono ?_
    rw [ha]
    rintro e w1 ⟨rfl, rfl⟩
    go_wp2_with fail
    refine (place_any to _).mono ?_
    rw [ht]
    rintro e w1 ⟨rfl, rfl⟩
    go_wp2_with fail
    generalize w.alloc (.cells #[.int .i64 23, .int .i64 ad, .int .i64 qt, .slice A n c, .int .i64 to] 30) = W at *
    have bq := bq'.out
    have d0 : Ext W W.drew := (Ext.refl _).god
    refine wp_region_held_drew (S := fun w' => Ext W w') (by kernel_rfl) d0 (fun hHeld => ?_)
    refine tk 0 ?_
    try simp only [Act.put, gA, gC, List.setIfInBounds_toArray, gE, gF]
    refine tk 1 ?_
    try simp only [Act.put, gA, gB, gC, List.setIfInBounds_toArray, gE, gF]
    refine wpAnyH_ready (rs := [2]) (by kernel_rfl) (by simp) ?_
    refine AllReadyH.cons rfl (fun K hK => ?_) ?_
    rotate_left
    · exact AllReadyH.nil
    go_simp
    go_at_call 97
    refine (single_any 23 _).mono ?_
    rw [hs]
    rintro e w2 ⟨rfl, rfl⟩
    try dsimp only
    refine hK.out _ _ ?_ (fun hHeld => ?_)
    · first | assumption | (dsimp only; assumption)
    clear hK K
    try simp only [Act.put, gA, gB, gC, List.setIfInBounds_toArray, gE, gF]
    refine tk 3 ?_
    try simp only [Act.put, gA, gB, gC, List.setIfInBounds_toArray, gE, gF]
    refine skH 4 ?_
    try simp only [Act.put, gA, gB, gC, List.setIfInBounds_toArray, gE, gF]
    refine skH 5 ?_
    try simp only [Act.put, gA, gB, gC, List.setIfInBounds_toArray, gE, gF]
    refine skH 6 ?_
    try simp only [Act.put, gA, gB, gC, List.setIfInBounds_toArray, gE, gF]
    refine tk 7 ?_
    try simp only [Act.put, gA, gB, gC, List.setIfInBounds_toArray, gE, gF]
    refine tk 8 ?_
    try simp only [Act.put, gA, gB, gC, List.setIfInBounds_toArray, gE, gF]
    refine tk 9 ?_
    try simp only [Act.put, gA, gB, gC, List.setIfInBounds_toArray, gE, gF]
    refine tk 10 ?_
    try simp only [Act.put, gA, gB, gC, List.setIfInBounds_toArray, gE, gF]
    refine wpAnyH_ready (rs := [11]) (by kernel_rfl) (by simp) ?_
    refine AllReadyH.cons rfl (fun K hK => ?_) ?_
    rotate_left
    · exact AllReadyH.nil
    go_simp
    go_at_call 97
    refine (single_any 23 _).mono ?_
    rw [hs]
    rintro e w2 ⟨rfl, rfl⟩
    try dsimp only
    refine hK.out _ _ ?_ (fun hHeld => ?_)
    · first | assumption | (dsimp only; assumption)
    clear hK K
    try simp only [Act.put, gA, gB, gC, List.setIfInBounds_toArray, gE, gF]
    refine tk 12 ?_
    try simp only [Act.put, gA, gB, gC, List.setIfInBounds_toArray, gE, gF]
    refine tk 13 ?_
    try simp only [Act.put, gA, gB, gC, List.setIfInBounds_toArray, gE, gF]
    refine tk 14 ?_
    try simp only [Act.put, gA, gB, gC, List.setIfInBounds_toArray, gE, gF]
    refine tk 15 ?_
    try simp only [Act.put, gA, gB, gC, List.setIfInBounds_toArray, gE, gF]
    refine tk 16 ?_
    try simp only [Act.put, gA, gB, gC, List.setIfInBounds_toArray, gE, gF]
    refine tk 17 ?_
    try simp only [Act.put, gA, gB, gC, List.setIfInBounds_toArray, gE, gF]
    refine tk 18 ?_
    try simp only [Act.put, gA, gB, gC, List.setIfInBounds_toArray, gE, gF]
    refine tk 19 ?_
    try simp only [Act.put, gA, gB, gC, List.setIfInBounds_toArray, gE, gF]
    refine tk 20 ?_
    try simp only [Act.put, gA, gB, gC, List.setIfInBounds_toArray, gE, gF]
    refine tk 21 ?_
    try simp only [Act.put, gA, gB, gC, List.setIfInBounds_toArray, gE, gF]
    refine wpAnyH_ready (rs := [22]) (by kernel_rfl) (by simp) ?_
    refine AllReadyH.cons rfl (fun K hK => ?_) ?_
    rotate_left
    · exact AllReadyH.nil
    go_simp
    go_at_call 95
    refine (most_any 23 _).mono ?_
    rw [hm]
    rintro e w2 ⟨rfl, rfl⟩
    try dsimp only
    refine hK.out _ _ ?_ (fun hHeld => ?_)
    · first | assumption | (dsimp only; assumption)
    clear hK K
    try simp only [Act.put, gA, gB, gC, List.setIfInBounds_toArray, gE, gF]
    refine tk 23 ?_
    try simp only [Act.put, gA, gB, gC, List.setIfInBounds_toArray, gE, gF]
    refine tk 24 ?_
    try simp only [Act.put, gA, gB, gC, List.setIfInBounds_toArray, gE, gF]
    refine tk 25 ?_
    try simp only [Act.put, gA, gB, gC, List.setIfInBounds_toArray, gE, gF]
    refine tk 26 ?_
    try simp only [Act.put, gA, gB, gC, List.setIfInBounds_toArray, gE, gF]
    refine wpAnyH_done (by kernel_rfl) ?_ _
    go_wp2_with fail
    go_ret
    exact ⟨rfl, E0.god⟩
  · have t2 : (fc != 23) = true := by simp; exact hf
    have t4 : (fc == 23) = false := by simp; exact hf
    clear hf
    have q1 : decide (qt < 1) = false := by simp; omega
    have q2 : decide (M < qt) = true := by simp; omega
    clear hq hq2
    have bq' := Lib.hid bq
    clear bq
    go_enter Try.func60, Try.ntmps60
    go_wp2_with fail
    refine (most_any fc _).mono ?_
    rw [hm]
    rintro e w1 ⟨rfl, rfl⟩
    go_wp2_with fail
    refine (place_any ad _).mono ?_
    rw [ha]
    rintro e w1 ⟨rfl, rfl⟩
    go_wp2_with fail
    refine (place_any 0 _).mono ?_
    rw [ht]
    rintro e w1 ⟨rfl, rfl⟩
    go_wp2_with fail
    generalize w.alloc (.cells #[.int .i64 fc, .int .i64 ad, .int .i64 qt, .slice A n c, .int .i64 0] 30) = W at *
    have bq := bq'.out
    have d0 : Ext W W.drew := (Ext.refl _).god
    refine wp_region_held_drew (S := fun w' => Ext W w') (by kernel_rfl) d0 (fun hHeld => ?_)
    refine tk 0 ?_
    try simp only [Act.put, gA, gC, List.setIfInBounds_toArray, gE, gF]
    refine tk 1 ?_
    try simp only [Act.put, gA, gB, gC, List.setIfInBounds_toArray, gE, gF]
    refine wpAnyH_ready (rs := [2]) (by kernel_rfl) (by simp) ?_
    refine AllReadyH.cons rfl (fun K hK => ?_) ?_
    rotate_left
    · exact AllReadyH.nil
    go_simp
    go_at_call 97
    refine (single_any fc _).mono ?_
    rw [hs]
    rintro e w2 ⟨rfl, rfl⟩
    try dsimp only
    refine hK.out _ _ ?_ (fun hHeld => ?_)
    · first | assumption | (dsimp only; assumption)
    clear hK K
    try simp only [Act.put, gA, gB, gC, List.setIfInBounds_toArray, gE, gF]
    refine tk 3 ?_
    try simp only [Act.put, gA, gB, gC, List.setIfInBounds_toArray, gE, gF]
    refine skH 4 ?_
    try simp only [Act.put, gA, gB, gC, List.setIfInBounds_toArray, gE, gF]
    refine skH 5 ?_
    try simp only [Act.put, gA, gB, gC, List.setIfInBounds_toArray, gE, gF]
    refine skH 6 ?_
    try simp only [Act.put, gA, gB, gC, List.setIfInBounds_toArray, gE, gF]
    refine tk 7 ?_
    try simp only [Act.put, gA, gB, gC, List.setIfInBounds_toArray, gE, gF]
    refine tk 8 ?_
    try simp only [Act.put, gA, gB, gC, List.setIfInBounds_toArray, gE, gF]
    refine tk 9 ?_
    try simp only [Act.put, gA, gB, gC, List.setIfInBounds_toArray, gE, gF]
    refine tk 10 ?_
    try simp only [Act.put, gA, gB, gC, List.setIfInBounds_toArray, gE, gF]
    refine wpAnyH_ready (rs := [11]) (by kernel_rfl) (by simp) ?_
    refine AllReadyH.cons rfl (fun K hK => ?_) ?_
    rotate_left
    · exact AllReadyH.nil
    go_simp
    go_at_call 97
    refine (single_any fc _).mono ?_
    rw [hs]
    rintro e w2 ⟨rfl, rfl⟩
    try dsimp only
    refine hK.out _ _ ?_ (fun hHeld => ?_)
    · first | assumption | (dsimp only; assumption)
    clear hK K
    try simp only [Act.put, gA, gB, gC, List.setIfInBounds_toArray, gE, gF]
    refine tk 12 ?_
    try simp only [Act.put, gA, gB, gC, List.setIfInBounds_toArray, gE, gF]
    refine tk 13 ?_
    try simp only [Act.put, gA, gB, gC, List.setIfInBounds_toArray, gE, gF]
    refine tk 14 ?_
    try simp only [Act.put, gA, gB, gC, List.setIfInBounds_toArray, gE, gF]
    refine tk 15 ?_
    try simp only [Act.put, gA, gB, gC, List.setIfInBounds_toArray, gE, gF]
    refine tk 16 ?_
    try simp only [Act.put, gA, gB, gC, List.setIfInBounds_toArray, gE, gF]
    refine tk 17 ?_
    try simp only [Act.put, gA, gB, gC, List.setIfInBounds_toArray, gE, gF]
    refine tk 18 ?_
    try simp only [Act.put, gA, gB, gC, List.setIfInBounds_toArray, gE, gF]
    refine tk 19 ?_
    try simp only [Act.put, gA, gB, gC, List.setIfInBounds_toArray, gE, gF]
    refine tk 20 ?_
    try simp only [Act.put, gA, gB, gC, List.setIfInBounds_toArray, gE, gF]
    refine tk 21 ?_
    try simp only [Act.put, gA, gB, gC, List.setIfInBounds_toArray, gE, gF]
    refine wpAnyH_ready (rs := [22]) (by kernel_rfl) (by simp) ?_
    refine AllReadyH.cons rfl (fun K hK => ?_) ?_
    rotate_left
    · exact AllReadyH.nil
    go_simp
    go_at_call 95
    refine (most_any fc _).mono ?_
    rw [hm]
    rintro e w2 ⟨rfl, rfl⟩
    try dsimp only
    refine hK.out _ _ ?_ (fun hHeld => ?_)
    · first | assumption | (dsimp only; assumption)
    clear hK K
    try simp only [Act.put, gA, gB, gC, List.setIfInBounds_toArray, gE, gF]
    refine tk 23 ?_
    try simp only [Act.put, gA, gB, gC, List.setIfInBounds_toArray, gE, gF]
    refine tk 24 ?_
    try simp only [Act.put, gA, gB, gC, List.setIfInBounds_toArray, gE, gF]
    refine tk 25 ?_
    try simp only [Act.put, gA, gB, gC, List.setIfInBounds_toArray, gE, gF]
    refine tk 26 ?_
    try simp only [Act.put, gA, gB, gC, List.setIfInBounds_toArray, gE, gF]
    refine wpAnyH_done (by kernel_rfl) ?_ _
    go_wp2_with fail
    go_ret
    exact ⟨rfl, E0.god⟩
end Go.Proofs.Ytgagpalffdgjnaa
