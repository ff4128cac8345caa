/- The reference of layer 4: shape, where its head is met. (Printed by wip/gen/shape04ok.py.) -/
import Derived.Test.YtgagpalffdgjnaaRef04Reads
import Derived.Test.YtgagpalffdgjnaaG61
import Derived.Deep.RegionHeld
namespace Go.Proofs.Ytgagpalffdgjnaa
open Go.RowKit

set_option maxRecDepth 100000 in
set_option maxHeartbeats 3200000 in
theorem shape_ok04_1 (ad qt : Int) (A : Option Addr) (n c : Nat) (w : World) (ha : placeB ad = true) (hq : 1 ≤ qt) (hq2 : qt ≤ 2000) :
    Calls Try.prog 60 #[.agg #[.int .i64 1, .int .i64 ad, .int .i64 qt, .slice A n c, .int .i64 0]] w fun e w' => e = .returned (.bool ((n : Int) == 0)) ∧ Ext w w' := by
  have bq : ∀ w', Ext (w.alloc (.cells #[.int .i64 1, .int .i64 ad, .int .i64 qt, .slice A n c, .int .i64 0] 30)) w' → ∀ o, w'.cell? ⟨w.heap.size, o, none⟩ = _ := fun w' D => cellsAt ((D.block w.heap.size (by simp)).trans (heap_alloc_new w _))
  have E0 := (Ext.refl w).goA (.cells #[.int .i64 1, .int .i64 ad, .int .i64 qt, .slice A n c, .int .i64 0] 30)
  have hm : mostV 1 = 2000 := rfl
  have hs : singleB 1 = false := rfl
  have ht : placeB 0 = true := rfl
  have q1 : decide (qt < 1) = false := by simp; omega
  have q2 : decide (2000 < qt) = false := by simp; omega
  clear hq hq2
  have bq' := Lib.hid bq
  clear bq
  go_enter Try.func60, Try.ntmps60
  go_wp2_with fail
  refine (most_any 1 _).mono ?_
  rw [hm]
  rintro e w1 ⟨rfl, rfl⟩
  go_wp2_with fail
  refine (place_any ad _).mono ?_
  rw [ha]
  rintro e w1 ⟨rfl, rfl⟩
  go_wp2_with fail
  refine (place_any 0 _).mono ?_
  rw [ht]
  rintro e w1 ⟨rfl, rfl⟩
  go_wp2_with fail
  generalize w.alloc (.cells #[.int .i64 1, .int .i64 ad, .int .i64 qt, .slice A n c, .int .i64 0] 30) = W at *
  have bq := bq'.out
  have d0 : Ext W W.drew := (Ext.refl _).god
  refine wp_region_held_drew (S := fun w' => Ext W w') (by kernel_rfl) d0 (fun hHeld => ?_)
  refine tk 0 ?_
  try simp only [Act.put, gA, gC, List.setIfInBounds_toArray, gE, gF]
  refine tk 1 ?_
  try simp only [Act.put, gA, gB, gC, List.setIfInBounds_toArray, gE, gF]
  refine wpAnyH_ready (rs := [2]) (by kernel_rfl) (by simp) ?_
  refine AllReadyH.cons rfl (fun K hK => ?_) ?_
  rotate_left
  · exact AllReadyH.nil
  go_simp
  go_at_call 97
  refine (single_any 1 _).mono ?_
  rw [hs]
  rintro e w2 ⟨rfl, rfl⟩
  try dsimp only
  refine hK.out _ _ ?_ (fun hHeld => ?_)
  · first | assumption | (dsimp only; assumption)
  clear hK K
  try simp only [Act.put, gA, gB, gC, List.setIfInBounds_toArray, gE, gF]
  refine tk 3 ?_
  try simp only [Act.put, gA, gB, gC, List.setIfInBounds_toArray, gE, gF]
  refine skH 4 ?_
  try simp only [Act.put, gA, gB, gC, List.setIfInBounds_toArray, gE, gF]
  refine skH 5 ?_
  try simp only [Act.put, gA, gB, gC, List.setIfInBounds_toArray, gE, gF]
  refine skH 6 ?_
  try simp only [Act.put, gA, gB, gC, List.setIfInBounds_toArray, gE, gF]
  refine tk 7 ?_
  try simp only [Act.put, gA, gB, gC, List.setIfInBounds_toArray, gE, gF]
  refine tk 8 ?_
  try simp only [Act.put, gA, gB, gC, List.setIfInBounds_toArray, gE, gF]
  refine tk 9 ?_
  try simp only [Act.put, gA, gB, gC, List.setIfInBounds_toArray, gE, gF]
  refine tk 10 ?_
  try simp only [Act.put, gA, gB, gC, List.setIfInBounds_toArray, gE, gF]
  refine wpAnyH_ready (rs := [11]) (by kernel_rfl) (by simp) ?_
  refine AllReadyH.cons rfl (fun K hK => ?_) ?_
  rotate_left
  · exact AllReadyH.nil
  go_simp
  go_at_call 97
  refine (single_any 1 _).mono ?_
  rw [hs]
  rintro e w2 ⟨rfl, rfl⟩
  try dsimp only
  refine hK.out _ _ ?_ (fun hHeld => ?_)
  · first | assumption | (dsimp only; assumption)
  clear hK K
  try simp only [Act.put, gA, gB, gC, List.setIfInBounds_toArray, gE, gF]
  refine tk 12 ?_
  try simp only [Act.put, gA, gB, gC, List.setIfInBounds_toArray, gE, gF]
  refine tk 13 ?_
  try simp only [Act.put, gA, gB, gC, List.setIfInBounds_toArray, gE, gF]
  refine tk 14 ?_
  try simp only [Act.put, gA, gB, gC, List.setIfInBounds_toArray, gE, gF]
  refine tk 15 ?_
  try simp only [Act.put, gA, gB, gC, List.setIfInBounds_toArray, gE, gF]
  refine tk 16 ?_
  try simp only [Act.put, gA, gB, gC, List.setIfInBounds_toArray, gE, gF]
  refine tk 17 ?_
  try simp only [Act.put, gA, gB, gC, List.setIfInBounds_toArray, gE, gF]
  refine tk 18 ?_
  try simp only [Act.put, gA, gB, gC, List.setIfInBounds_toArray, gE, gF]
  refine tk 19 ?_
  try simp only [Act.put, gA, gB, gC, List.setIfInBounds_toArray, gE, gF]
  refine tk 20 ?_
  try simp only [Act.put, gA, gB, gC, List.setIfInBounds_toArray, gE, gF]
  refine tk 21 ?_
  try simp only [Act.put, gA, gB, gC, List.setIfInBounds_toArray, gE, gF]
  refine wpAnyH_ready (rs := [22]) (by kernel_rfl) (by simp) ?_
  refine AllReadyH.cons rfl (fun K hK => ?_) ?_
  rotate_left
  · exact AllReadyH.nil
  go_simp
  go_at_call 95
  refine (most_any 1 _).mono ?_
  rw [hm]
  rintro e w2 ⟨rfl, rfl⟩
  try dsimp only
  refine hK.out _ _ ?_ (fun hHeld => ?_)
  · first | assumption | (dsimp only; assumption)
  clear hK K
  try simp only [Act.put, gA, gB, gC, List.setIfInBounds_toArray, gE, gF]
  refine tk 23 ?_
  try simp only [Act.put, gA, gB, gC, List.setIfInBounds_toArray, gE, gF]
  refine tk 24 ?_
  try simp only [Act.put, gA, gB, gC, List.setIfInBounds_toArray, gE, gF]
  refine tk 25 ?_
  try simp only [Act.put, gA, gB, gC, List.setIfInBounds_toArray, gE, gF]
  refine tk 26 ?_
  try simp only [Act.put, gA, gB, gC, List.setIfInBounds_toArray, gE, gF]
  refine wpAnyH_done (by kernel_rfl) ?_ _
  have b0 := bq _ d0
  clear bq
  go_wp2_with fail
  go_ret
  exact ⟨rfl, E0.god⟩
set_option maxRecDepth 100000 in
set_option maxHeartbeats 3200000 in
theorem shape_ok04_2 (ad qt : Int) (A : Option Addr) (n c : Nat) (w : World) (ha : placeB ad = true) (hq : 1 ≤ qt) (hq2 : qt ≤ 2000) :
    Calls Try.prog 60 #[.agg #[.int .i64 2, .int .i64 ad, .int .i64 qt, .slice A n c, .int .i64 0]] w fun e w' => e = .returned (.bool ((n : Int) == 0)) ∧ Ext w w' := by
  have bq : ∀ w', Ext (w.alloc (.cells #[.int .i64 2, .int .i64 ad, .int .i64 qt, .slice A n c, .int .i64 0] 30)) w' → ∀ o, w'.cell? ⟨w.heap.size, o, none⟩ = _ := fun w' D => cellsAt ((D.block w.heap.size (by simp)).trans (heap_alloc_new w _))
  have E0 := (Ext.refl w).goA (.cells #[.int .i64 2, .int .i64 ad, .int .i64 qt, .slice A n c, .int .i64 0] 30)
  have hm : mostV 2 = 2000 := rfl
  have hs : singleB 2 = false := rfl
  have ht : placeB 0 = true := rfl
  have q1 : decide (qt < 1) = false := by simp; omega
  have q2 : decide (2000 < qt) = false := by simp; omega
  clear hq hq2
  have bq' := Lib.hid bq
  clear bq
  go_enter Try.func60, Try.ntmps60
  go_wp2_with fail
  refine (most_any 2 _).mono ?_
  rw [hm]
  rintro e w1 ⟨rfl, rfl⟩
  go_wp2_with fail
  refine (place_any ad _).mono ?_
  rw [ha]
  rintro e w1 ⟨rfl, rfl⟩
  go_wp2_with fail
  refine (place_any 0 _).mono ?_
  rw [ht]
  rintro e w1 ⟨rfl, rfl⟩
  go_wp2_with fail
  generalize w.alloc (.cells #[.int .i64 2, .int .i64 ad, .int .i64 qt, .slice A n c, .int .i64 0] 30) = W at *
  have bq := bq'.out
  have d0 : Ext W W.drew := (Ext.refl _).god
  refine wp_region_held_drew (S := fun w' => Ext W w') (by kernel_rfl) d0 (fun hHeld => ?_)
  refine tk 0 ?_
  try simp only [Act.put, gA, gC, List.setIfInBounds_toArray, gE, gF]
  refine tk 1 ?_
  try simp only [Act.put, gA, gB, gC, List.setIfInBounds_toArray, gE, gF]
  refine wpAnyH_ready (rs := [2]) (by kernel_rfl) (by simp) ?_
  refine AllReadyH.cons rfl (fun K hK => ?_) ?_
  rotate_left
  · exact AllReadyH.nil
  go_simp
  go_at_call 97
  refine (single_any 2 _).mono ?_
  rw [hs]
  rintro e w2 ⟨rfl, rfl⟩
  try dsimp only
  refine hK.out _ _ ?_ (fun hHeld => ?_)
  · first | assumption | (dsimp only; assumption)
  clear hK K
  try simp only [Act.put, gA, gB, gC, List.setIfInBounds_toArray, gE, gF]
  refine tk 3 ?_
  try simp only [Act.put, gA, gB, gC, List.setIfInBounds_toArray, gE, gF]
  refine skH 4 ?_
  try simp only [Act.put, gA, gB, gC, List.setIfInBounds_toArray, gE, gF]
  refine skH 5 ?_
  try simp only [Act.put, gA, gB, gC, List.setIfInBounds_toArray, gE, gF]
  refine skH 6 ?_
  try simp only [Act.put, gA, gB, gC, List.setIfInBounds_toArray, gE, gF]
  refine tk 7 ?_
  try simp only [Act.put, gA, gB, gC, List.setIfInBounds_toArray, gE, gF]
  refine tk 8 ?_
  try simp only [Act.put, gA, gB, gC, List.setIfInBounds_toArray, gE, gF]
  refine tk 9 ?_
  try simp only [Act.put, gA, gB, gC, List.setIfInBounds_toArray, gE, gF]
  refine tk 10 ?_
  try simp only [Act.put, gA, gB, gC, List.setIfInBounds_toArray, gE, gF]
  refine wpAnyH_ready (rs := [11]) (by kernel_rfl) (by simp) ?_
  refine AllReadyH.cons rfl (fun K hK => ?_) ?_
  rotate_left
  · exact AllReadyH.nil
  go_simp
  go_at_call 97
  refine (single_any 2 _).mono ?_
  rw [hs]
  rintro e w2 ⟨rfl, rfl⟩
  try dsimp only
  refine hK.out _ _ ?_ (fun hHeld => ?_)
  · first | assumption | (dsimp only; assumption)
  clear hK K
  try simp only [Act.put, gA, gB, gC, List.setIfInBounds_toArray, gE, gF]
  refine tk 12 ?_
  try simp only [Act.put, gA, gB, gC, List.setIfInBounds_toArray, gE, gF]
  refine tk 13 ?_
  try simp only [Act.put, gA, gB, gC, List.setIfInBounds_toArray, gE, gF]
  refine tk 14 ?_
  try simp only [Act.put, gA, gB, gC, List.setIfInBounds_toArray, gE, gF]
  refine tk 15 ?_
  try simp only [Act.put, gA, gB, gC, List.setIfInBounds_toArray, gE, gF]
  refine tk 16 ?_
  try simp only [Act.put, gA, gB, gC, List.setIfInBounds_toArray, gE, gF]
  refine tk 17 ?_
  try simp only [Act.put, gA, gB, gC, List.setIfInBounds_toArray, gE, gF]
  refine tk 18 ?_
  try simp only [Act.put, gA, gB, gC, List.setIfInBounds_toArray, gE, gF]
  refine tk 19 ?_
  try simp only [Act.put, gA, gB, gC, List.setIfInBounds_toArray, gE, gF]
  refine tk 20 ?_
  try simp only [Act.put, gA, gB, gC, List.setIfInBounds_toArray, gE, gF]
  refine tk 21 ?_
  try simp only [Act.put, gA, gB, gC, List.setIfInBounds_toArray, gE, gF]
  refine wpAnyH_ready (rs := [22]) (by kernel_rfl) (by simp) ?_
  refine AllReadyH.cons rfl (fun K hK => ?_) ?_
  rotate_left
  · exact AllReadyH.nil
  go_simp
  go_at_call 95
  refine (most_any 2 _).mono ?_
  rw [hm]
  rintro e w2 ⟨rfl, rfl⟩
  try dsimp only
  refine hK.out _ _ ?_ (fun hHeld => ?_)
  · first | assumption | (dsimp only; assumption)
  clear hK K
  try simp only [Act.put, gA, gB, gC, List.setIfInBounds_toArray, gE, gF]
  refine tk 23 ?_
  try simp only [Act.put, gA, gB, gC, List.setIfInBounds_toArray, gE, gF]
  refine tk 24 ?_
  try simp only [Act.put, gA, gB, gC, List.setIfInBounds_toArray, gE, gF]
  refine tk 25 ?_
  try simp only [Act.put, gA, gB, gC, List.setIfInBounds_toArray, gE, gF]
  refine tk 26 ?_
  try simp only [Act.put, gA, gB, gC, List.setIfInBounds_toArray, gE, gF]
  refine wpAnyH_done (by kernel_rfl) ?_ _
  have b0 := bq _ d0
  clear bq
  go_wp2_with fail
  go_ret
  exact ⟨rfl, E0.god⟩
set_option maxRecDepth 100000 in
set_option maxHeartbeats 3200000 in
theorem shape_ok04_3 (ad qt : Int) (A : Option Addr) (n c : Nat) (w : World) (ha : placeB ad = true) (hq : 1 ≤ qt) (hq2 : qt ≤ 125) :
    Calls Try.prog 60 #[.agg #[.int .i64 3, .int .i64 ad, .int .i64 qt, .slice A n c, .int .i64 0]] w fun e w' => e = .returned (.bool ((n : Int) == 0)) ∧ Ext w w' := by
  have bq : ∀ w', Ext (w.alloc (.cells #[.int .i64 3, .int .i64 ad, .int .i64 qt, .slice A n c, .int .i64 0] 30)) w' → ∀ o, w'.cell? ⟨w.heap.size, o, none⟩ = _ := fun w' D => cellsAt ((D.block w.heap.size (by simp)).trans (heap_alloc_new w _))
  have E0 := (Ext.refl w).goA (.cells #[.int .i64 3, .int .i64 ad, .int .i64 qt, .slice A n c, .int .i64 0] 30)
  have hm : mostV 3 = 125 := rfl
  have hs : singleB 3 = false := rfl
  have ht : placeB 0 = true := rfl
  have q1 : decide (qt < 1) = false := by simp; omega
  have q2 : decide (125 < qt) = false := by simp; omega
  clear hq hq2
  have bq' := Lib.hid bq
  clear bq
  go_enter Try.func60, Try.ntmps60
  go_wp2_with fail
  refine (most_any 3 _).mono ?_
  rw [hm]
  rintro e w1 ⟨rfl, rfl⟩
  go_wp2_with fail
  refine (place_any ad _).mono ?_
  rw [ha]
  rintro e w1 ⟨rfl, rfl⟩
  go_wp2_with fail
  refine (place_any 0 _).mono ?_
  rw [ht]
  rintro e w1 ⟨rfl, rfl⟩
  go_wp2_with fail
  generalize w.alloc (.cells #[.int .i64 3, .int .i64 ad, .int .i64 qt, .slice A n c, .int .i64 0] 30) = W at *
  have bq := bq'.out
  have d0 : Ext W W.drew := (Ext.refl _).god
  refine wp_region_held_drew (S := fun w' => Ext W w') (by kernel_rfl) d0 (fun hHeld => ?_)
  refine tk 0 ?_
  try simp only [Act.put, gA, gC, List.setIfInBounds_toArray, gE, gF]
  refine tk 1 ?_
  try simp only [Act.put, gA, gB, gC, List.setIfInBounds_toArray, gE, gF]
  refine wpAnyH_ready (rs := [2]) (by kernel_rfl) (by simp) ?_
  refine AllReadyH.cons rfl (fun K hK => ?_) ?_
  rotate_left
  · exact AllReadyH.nil
  go_simp
  go_at_call 97
  refine (single_any 3 _).mono ?_
  rw [hs]
  rintro e w2 ⟨rfl, rfl⟩
  try dsimp only
  refine hK.out _ _ ?_ (fun hHeld => ?_)
  · first | assumption | (dsimp only; assumption)
  clear hK K
  try simp only [Act.put, gA, gB, gC, List.setIfInBounds_toArray, gE, gF]
  refine tk 3 ?_
  try simp only [Act.put, gA, gB, gC, List.setIfInBounds_toArray, gE, gF]
  refine skH 4 ?_
  try simp only [Act.put, gA, gB, gC, List.setIfInBounds_toArray, gE, gF]
  refine skH 5 ?_
  try simp only [Act.put, gA, gB, gC, List.setIfInBounds_toArray, gE, gF]
  refine skH 6 ?_
  try simp only [Act.put, gA, gB, gC, List.setIfInBounds_toArray, gE, gF]
  refine tk 7 ?_
  try simp only [Act.put, gA, gB, gC, List.setIfInBounds_toArray, gE, gF]
  refine tk 8 ?_
  try simp only [Act.put, gA, gB, gC, List.setIfInBounds_toArray, gE, gF]
  refine tk 9 ?_
  try simp only [Act.put, gA, gB, gC, List.setIfInBounds_toArray, gE, gF]
  refine tk 10 ?_
  try simp only [Act.put, gA, gB, gC, List.setIfInBounds_toArray, gE, gF]
  refine wpAnyH_ready (rs := [11]) (by kernel_rfl) (by simp) ?_
  refine AllReadyH.cons rfl (fun K hK => ?_) ?_
  rotate_left
  · exact AllReadyH.nil
  go_simp
  go_at_call 97
  refine (single_any 3 _).mono ?_
  rw [hs]
  rintro e w2 ⟨rfl, rfl⟩
  try dsimp only
  refine hK.out _ _ ?_ (fun hHeld => ?_)
  · first | assumption | (dsimp only; assumption)
  clear hK K
  try simp only [Act.put, gA, gB, gC, List.setIfInBounds_toArray, gE, gF]
  refine tk 12 ?_
  try simp only [Act.put, gA, gB, gC, List.setIfInBounds_toArray, gE, gF]
  refine tk 13 ?_
  try simp only [Act.put, gA, gB, gC, List.setIfInBounds_toArray, gE, gF]
  refine tk 14 ?_
  try simp only [Act.put, gA, gB, gC, List.setIfInBounds_toArray, gE, gF]
  refine tk 15 ?_
  try simp only [Act.put, gA, gB, gC, List.setIfInBounds_toArray, gE, gF]
  refine tk 16 ?_
  try simp only [Act.put, gA, gB, gC, List.setIfInBounds_toArray, gE, gF]
  refine tk 17 ?_
  try simp only [Act.put, gA, gB, gC, List.setIfInBounds_toArray, gE, gF]
  refine tk 18 ?_
  try simp only [Act.put, gA, gB, gC, List.setIfInBounds_toArray, gE, gF]
  refine tk 19 ?_
  try simp only [Act.put, gA, gB, gC, List.setIfInBounds_toArray, gE, gF]
  refine tk 20 ?_
  try simp only [Act.put, gA, gB, gC, List.setIfInBounds_toArray, gE, gF]
  refine tk 21 ?_
  try simp only [Act.put, gA, gB, gC, List.setIfInBounds_toArray, gE, gF]
  refine wpAnyH_ready (rs := [22]) (by kernel_rfl) (by simp) ?_
  refine AllReadyH.cons rfl (fun K hK => ?_) ?_
  rotate_left
  · exact AllReadyH.nil
  go_simp
  go_at_call 95
  refine (most_any 3 _).mono ?_
  rw [hm]
  rintro e w2 ⟨rfl, rfl⟩
  try dsimp only
  refine hK.out _ _ ?_ (fun hHeld => ?_)
  · first | assumption | (dsimp only; assumption)
  clear hK K
  try simp only [Act.put, gA, gB, gC, List.setIfInBounds_toArray, gE, gF]
  refine tk 23 ?_
  try simp only [Act.put, gA, gB, gC, List.setIfInBounds_toArray, gE, gF]
  refine tk 24 ?_
  try simp only [Act.put, gA, gB, gC, List.setIfInBounds_toArray, gE, gF]
  refine tk 25 ?_
  try simp only [Act.put, gA, gB, gC, List.setIfInBounds_toArray, gE, gF]
  refine tk 26 ?_
  try simp only [Act.put, gA, gB, gC, List.setIfInBounds_toArray, gE, gF]
  refine wpAnyH_done (by kernel_rfl) ?_ _
  have b0 := bq _ d0
  clear bq
  go_wp2_with fail
  go_ret
  exact ⟨rfl, E0.god⟩
set_option maxRecDepth 100000 in
set_option maxHeartbeats 3200000 in
theorem shape_ok04_4 (ad qt : Int) (A : Option Addr) (n c : Nat) (w : World) (ha : placeB ad = true) (hq : 1 ≤ qt) (hq2 : qt ≤ 125) :
    Calls Try.prog 60 #[.agg #[.int .i64 4, .int .i64 ad, .int .i64 qt, .slice A n c, .int .i64 0]] w fun e w' => e = .returned (.bool ((n : Int) == 0)) ∧ Ext w w' := by
  have bq : ∀ w', Ext (w.alloc (.cells #[.int .i64 4, .int .i64 ad, .int .i64 qt, .slice A n c, .int .i64 0] 30)) w' → ∀ o, w'.cell? ⟨w.heap.size, o, none⟩ = _ := fun w' D => cellsAt ((D.block w.heap.size (by simp)).trans (heap_alloc_new w _))
  have E0 := (Ext.refl w).goA (.cells #[.int .i64 4, .int .i64 ad, .int .i64 qt, .slice A n c, .int .i64 0] 30)
  have hm : mostV 4 = 125 := rfl
  have hs : singleB 4 = false := rfl
  have ht : placeB 0 = true := rfl
  have q1 : decide (qt < 1) = false := by simp; omega
  have q2 : decide (125 < qt) = false := by simp; omega
  clear hq hq2
  have bq' := Lib.hid bq
  clear bq
  go_enter Try.func60, Try.ntmps60
  go_wp2_with fail
  refine (most_any 4 _).mono ?_
  rw [hm]
  rintro e w1 ⟨rfl, rfl⟩
  go_wp2_with fail
  refine (place_any ad _).mono ?_
  rw [ha]
  rintro e w1 ⟨rfl, rfl⟩
  go_wp2_with fail
  refine (place_any 0 _).mono ?_
  rw [ht]
  rintro e w1 ⟨rfl, rfl⟩
  go_wp2_with fail
  generalize w.alloc (.cells #[.int .i64 4, .int .i64 ad, .int .i64 qt, .slice A n c, .int .i64 0] 30) = W at *
  have bq := bq'.out
  have d0 : Ext W W.drew := (Ext.refl _).god
  refine wp_region_held_drew (S := fun w' => Ext W w') (by kernel_rfl) d0 (fun hHeld => ?_)
  refine tk 0 ?_
  try simp only [Act.put, gA, gC, List.setIfInBounds_toArray, gE, gF]
  refine tk 1 ?_
  try simp only [Act.put, gA, gB, gC, List.setIfInBounds_toArray, gE, gF]
  refine wpAnyH_ready (rs := [2]) (by kernel_rfl) (by simp) ?_
  refine AllReadyH.cons rfl (fun K hK => ?_) ?_
  rotate_left
  · exact AllReadyH.nil
  go_simp
  go_at_call 97
  refine (single_any 4 _).mono ?_
  rw [hs]
  rintro e w2 ⟨rfl, rfl⟩
  try dsimp only
  refine hK.out _ _ ?_ (fun hHeld => ?_)
  · first | assumption | (dsimp only; assumption)
  clear hK K
  try simp only [Act.put, gA, gB, gC, List.setIfInBounds_toArray, gE, gF]
  refine tk 3 ?_
  try simp only [Act.put, gA, gB, gC, List.setIfInBounds_toArray, gE, gF]
  refine skH 4 ?_
  try simp only [Act.put, gA, gB, gC, List.setIfInBounds_toArray, gE, gF]
  refine skH 5 ?_
  try simp only [Act.put, gA, gB, gC, List.setIfInBounds_toArray, gE, gF]
  refine skH 6 ?_
  try simp only [Act.put, gA, gB, gC, List.setIfInBounds_toArray, gE, gF]
  refine tk 7 ?_
  try simp only [Act.put, gA, gB, gC, List.setIfInBounds_toArray, gE, gF]
  refine tk 8 ?_
  try simp only [Act.put, gA, gB, gC, List.setIfInBounds_toArray, gE, gF]
  refine tk 9 ?_
  try simp only [Act.put, gA, gB, gC, List.setIfInBounds_toArray, gE, gF]
  refine tk 10 ?_
  try simp only [Act.put, gA, gB, gC, List.setIfInBounds_toArray, gE, gF]
  refine wpAnyH_ready (rs := [11]) (by kernel_rfl) (by simp) ?_
  refine AllReadyH.cons rfl (fun K hK => ?_) ?_
  rotate_left
  · exact AllReadyH.nil
  go_simp
  go_at_call 97
  refine (single_any 4 _).mono ?_
  rw [hs]
  rintro e w2 ⟨rfl, rfl⟩
  try dsimp only
  refine hK.out _ _ ?_ (fun hHeld => ?_)
  · first | assumption | (dsimp only; assumption)
  clear hK K
  try simp only [Act.put, gA, gB, gC, List.setIfInBounds_toArray, gE, gF]
  refine tk 12 ?_
  try simp only [Act.put, gA, gB, gC, List.setIfInBounds_toArray, gE, gF]
  refine tk 13 ?_
  try simp only [Act.put, gA, gB, gC, List.setIfInBounds_toArray, gE, gF]
  refine tk 14 ?_
  try simp only [Act.put, gA, gB, gC, List.setIfInBounds_toArray, gE, gF]
  refine tk 15 ?_
  try simp only [Act.put, gA, gB, gC, List.setIfInBounds_toArray, gE, gF]
  refine tk 16 ?_
  try simp only [Act.put, gA, gB, gC, List.setIfInBounds_toArray, gE, gF]
  refine tk 17 ?_
  try simp only [Act.put, gA, gB, gC, List.setIfInBounds_toArray, gE, gF]
  refine tk 18 ?_
  try simp only [Act.put, gA, gB, gC, List.setIfInBounds_toArray, gE, gF]
  refine tk 19 ?_
  try simp only [Act.put, gA, gB, gC, List.setIfInBounds_toArray, gE, gF]
  refine tk 20 ?_
  try simp only [Act.put, gA, gB, gC, List.setIfInBounds_toArray, gE, gF]
  refine tk 21 ?_
  try simp only [Act.put, gA, gB, gC, List.setIfInBounds_toArray, gE, gF]
  refine wpAnyH_ready (rs := [22]) (by kernel_rfl) (by simp) ?_
  refine AllReadyH.cons rfl (fun K hK => ?_) ?_
  rotate_left
  · exact AllReadyH.nil
  go_simp
  go_at_call 95
  refine (most_any 4 _).mono ?_
  rw [hm]
  rintro e w2 ⟨rfl, rfl⟩
  try dsimp only
  refine hK.out _ _ ?_ (fun hHeld => ?_)
  · first | assumption | (dsimp only; assumption)
  clear hK K
  try simp only [Act.put, gA, gB, gC, List.setIfInBounds_toArray, gE, gF]
  refine tk 23 ?_
  try simp only [Act.put, gA, gB, gC, List.setIfInBounds_toArray, gE, gF]
  refine tk 24 ?_
  try simp only [Act.put, gA, gB, gC, List.setIfInBounds_toArray, gE, gF]
  refine tk 25 ?_
  try simp only [Act.put, gA, gB, gC, List.setIfInBounds_toArray, gE, gF]
  refine tk 26 ?_
  try simp only [Act.put, gA, gB, gC, List.setIfInBounds_toArray, gE, gF]
  refine wpAnyH_done (by kernel_rfl) ?_ _
  have b0 := bq _ d0
  clear bq
  go_wp2_with fail
  go_ret
  exact ⟨rfl, E0.god⟩
set_option maxRecDepth 100000 in
set_option maxHeartbeats 3200000 in
theorem shape_ok04_5 (ad : Int) (A : Option Addr) (n c : Nat) (xs : List Int) (w : World) (hx : RdI w w.heap.size .u16 A n xs) (nm : n ≤ maxLen) (ha : placeB ad = true) :
    Calls Try.prog 60 #[.agg #[.int .i64 5, .int .i64 ad, .int .i64 0, .slice A n c, .int .i64 0]] w fun e w' => e = .returned (.bool (((n : Int) == 1) && valuesB true xs)) ∧ Ext w w' := by
  have bq : ∀ w', Ext (w.alloc (.cells #[.int .i64 5, .int .i64 ad, .int .i64 0, .slice A n c, .int .i64 0] 30)) w' → ∀ o, w'.cell? ⟨w.heap.size, o, none⟩ = _ := fun w' D => cellsAt ((D.block w.heap.size (by simp)).trans (heap_alloc_new w _))
  have E0 := (Ext.refl w).goA (.cells #[.int .i64 5, .int .i64 ad, .int .i64 0, .slice A n c, .int .i64 0] 30)
  have hm : mostV 5 = 1 := rfl
  have hs : singleB 5 = true := rfl
  have ht : placeB 0 = true := rfl
  have bq' := Lib.hid bq
  have hx' := Lib.hid (hx.ext E0)
  clear bq hx
  cases t9 : ((n : Int) == 1)
  · go_enter Try.func60, Try.ntmps60
    go_wp2_with fail
    refine (most_any 5 _).mono ?_
    rw [hm]
    rintro e w1 ⟨rfl, rfl⟩
    go_wp2_with fail
    refine (place_any ad _).mono ?_
    rw [ha]
    rintro e w1 ⟨rfl, rfl⟩
    go_wp2_with fail
    refine (place_any 0 _).mono ?_
    rw [ht]
    rintro e w1 ⟨rfl, rfl⟩
    go_wp2_with fail
    generalize w.alloc (.cells #[.int .i64 5, .int .i64 ad, .int .i64 0, .slice A n c, .int .i64 0] 30) = W at *
    have bq := bq'.out
    have d0 : Ext W W.drew := (Ext.refl _).god
    refine wp_region_held_drew (S := fun w' => Ext W w') (by kernel_rfl) d0 (fun hHeld => ?_)
    refine tk 0 ?_
    try simp only [Act.put, gA, gC, List.setIfInBounds_toArray, gE, gF]
    refine tk 1 ?_
    try simp only [Act.put, gA, gB, gC, List.setIfInBounds_toArray, gE, gF]
    refine wpAnyH_ready (rs := [2]) (by kernel_rfl) (by simp) ?_
    refine AllReadyH.cons rfl (fun K hK => ?_) ?_
    rotate_left
    · exact AllReadyH.nil
    go_simp
    go_at_call 97
    refine (single_any 5 _).mono ?_
    rw [hs]
    rintro e w2 ⟨rfl, rfl⟩
    try dsimp only
    refine hK.out _ _ ?_ (fun hHeld => ?_)
    · first | assumption | (dsimp only; assumption)
    clear hK K
    try simp only [Act.put, gA, gB, gC, List.setIfInBounds_toArray, gE, gF]
    refine tk 3 ?_
    try simp only [Act.put, gA, gB, gC, List.setIfInBounds_toArray, gE, gF]
    refine tk 4 ?_
    try simp only [Act.put, gA, gB, gC, List.setIfInBounds_toArray, gE, gF]
    refine tk 5 ?_
    try simp only [Act.put, gA, gB, gC, List.setIfInBounds_toArray, gE, gF]
    refine tk 6 ?_
    try simp only [Act.put, gA, gB, gC, List.setIfInBounds_toArray, gE, gF]
    refine tk 7 ?_
    try simp only [Act.put, gA, gB, gC, List.setIfInBounds_toArray, gE, gF]
    refine tk 8 ?_
    try simp only [Act.put, gA, gB, gC, List.setIfInBounds_toArray, gE, gF]
    refine tk 9 ?_
    try simp only [Act.put, gA, gB, gC, List.setIfInBounds_toArray, gE, gF]
    refine tk 10 ?_
    try simp only [Act.put, gA, gB, gC, List.setIfInBounds_toArray, gE, gF]
    refine wpAnyH_ready (rs := [11]) (by kernel_rfl) (by simp) ?_
    refine AllReadyH.cons rfl (fun K hK => ?_) ?_
    rotate_left
    · exact AllReadyH.nil
    go_simp
    go_at_call 97
    refine (single_any 5 _).mono ?_
    rw [hs]
    rintro e w2 ⟨rfl, rfl⟩
    try dsimp only
    refine hK.out _ _ ?_ (fun hHeld => ?_)
    · first | assumption | (dsimp only; assumption)
    clear hK K
    try simp only [Act.put, gA, gB, gC, List.setIfInBounds_toArray, gE, gF]
    refine tk 12 ?_
    try simp only [Act.put, gA, gB, gC, List.setIfInBounds_toArray, gE, gF]
    refine tk 13 ?_
    try simp only [Act.put, gA, gB, gC, List.setIfInBounds_toArray, gE, gF]
    refine skH 14 ?_
    try simp only [Act.put, gA, gB, gC, List.setIfInBounds_toArray, gE, gF]
    refine skH 15 ?_
    try simp only [Act.put, gA, gB, gC, List.setIfInBounds_toArray, gE, gF]
    refine skH 16 ?_
    try simp only [Act.put, gA, gB, gC, List.setIfInBounds_toArray, gE, gF]
    refine skH 17 ?_
    try simp only [Act.put, gA, gB, gC, List.setIfInBounds_toArray, gE, gF]
    refine skH 18 ?_
    try simp only [Act.put, gA, gB, gC, List.setIfInBounds_toArray, gE, gF]
    refine skH 19 ?_
    try simp only [Act.put, gA, gB, gC, List.setIfInBounds_toArray, gE, gF]
    refine skH 20 ?_
    try simp only [Act.put, gA, gB, gC, List.setIfInBounds_toArray, gE, gF]
    refine skH 21 ?_
    try simp only [Act.put, gA, gB, gC, List.setIfInBounds_toArray, gE, gF]
    refine skH 22 ?_
    try simp only [Act.put, gA, gB, gC, List.setIfInBounds_toArray, gE, gF]
    refine skH 23 ?_
    try simp only [Act.put, gA, gB, gC, List.setIfInBounds_toArray, gE, gF]
    refine skH 24 ?_
    try simp only [Act.put, gA, gB, gC, List.setIfInBounds_toArray, gE, gF]
    refine tk 25 ?_
    try simp only [Act.put, gA, gB, gC, List.setIfInBounds_toArray, gE, gF]
    refine tk 26 ?_
    try simp only [Act.put, gA, gB, gC, List.setIfInBounds_toArray, gE, gF]
    refine wpAnyH_done (by kernel_rfl) ?_ _
    have b0 := bq _ d0
    clear bq
    go_wp2_with fail
    go_ret
    exact ⟨rfl, E0.god⟩
  · go_enter Try.func60, Try.ntmps60
    go_wp2_with fail
    refine (most_any 5 _).mono ?_
    rw [hm]
    rintro e w1 ⟨rfl, rfl⟩
    go_wp2_with fail
    refine (place_any ad _).mono ?_
    rw [ha]
    rintro e w1 ⟨rfl, rfl⟩
    go_wp2_with fail
    refine (place_any 0 _).mono ?_
    rw [ht]
    rintro e w1 ⟨rfl, rfl⟩
    go_wp2_with fail
    generalize w.alloc (.cells #[.int .i64 5, .int .i64 ad, .int .i64 0, .slice A n c, .int .i64 0] 30) = W at *
    have bq := bq'.out
    have d0 : Ext W W.drew := (Ext.refl _).god
    refine wp_region_held_drew (S := fun w' => Ext W w') (by kernel_rfl) d0 (fun hHeld => ?_)
    refine tk 0 ?_
    try simp only [Act.put, gA, gC, List.setIfInBounds_toArray, gE, gF]
    refine tk 1 ?_
    try simp only [Act.put, gA, gB, gC, List.setIfInBounds_toArray, gE, gF]
    refine wpAnyH_ready (rs := [2]) (by kernel_rfl) (by simp) ?_
    refine AllReadyH.cons rfl (fun K hK => ?_) ?_
    rotate_left
    · exact AllReadyH.nil
    go_simp
    go_at_call 97
    refine (single_any 5 _).mono ?_
    rw [hs]
    rintro e w2 ⟨rfl, rfl⟩
    try dsimp only
    refine hK.out _ _ ?_ (fun hHeld => ?_)
    · first | assumption | (dsimp only; assumption)
    clear hK K
    try simp only [Act.put, gA, gB, gC, List.setIfInBounds_toArray, gE, gF]
    refine tk 3 ?_
    try simp only [Act.put, gA, gB, gC, List.setIfInBounds_toArray, gE, gF]
    refine tk 4 ?_
    try simp only [Act.put, gA, gB, gC, List.setIfInBounds_toArray, gE, gF]
    refine tk 5 ?_
    try simp only [Act.put, gA, gB, gC, List.setIfInBounds_toArray, gE, gF]
    refine tk 6 ?_
    try simp only [Act.put, gA, gB, gC, List.setIfInBounds_toArray, gE, gF]
    refine tk 7 ?_
    try simp only [Act.put, gA, gB, gC, List.setIfInBounds_toArray, gE, gF]
    refine tk 8 ?_
    try simp only [Act.put, gA, gB, gC, List.setIfInBounds_toArray, gE, gF]
    refine tk 9 ?_
    try simp only [Act.put, gA, gB, gC, List.setIfInBounds_toArray, gE, gF]
    refine tk 10 ?_
    try simp only [Act.put, gA, gB, gC, List.setIfInBounds_toArray, gE, gF]
    refine wpAnyH_ready (rs := [11]) (by kernel_rfl) (by simp) ?_
    refine AllReadyH.cons rfl (fun K hK => ?_) ?_
    rotate_left
    · exact AllReadyH.nil
    go_simp
    go_at_call 97
    refine (single_any 5 _).mono ?_
    rw [hs]
    rintro e w2 ⟨rfl, rfl⟩
    try dsimp only
    refine hK.out _ _ ?_ (fun hHeld => ?_)
    · first | assumption | (dsimp only; assumption)
    clear hK K
    try simp only [Act.put, gA, gB, gC, List.setIfInBounds_toArray, gE, gF]
    refine tk 12 ?_
    try simp only [Act.put, gA, gB, gC, List.setIfInBounds_toArray, gE, gF]
    refine tk 13 ?_
    try simp only [Act.put, gA, gB, gC, List.setIfInBounds_toArray, gE, gF]
    refine skH 14 ?_
    try simp only [Act.put, gA, gB, gC, List.setIfInBounds_toArray, gE, gF]
    refine skH 15 ?_
    try simp only [Act.put, gA, gB, gC, List.setIfInBounds_toArray, gE, gF]
    refine skH 16 ?_
    try simp only [Act.put, gA, gB, gC, List.setIfInBounds_toArray, gE, gF]
    refine skH 17 ?_
    try simp only [Act.put, gA, gB, gC, List.setIfInBounds_toArray, gE, gF]
    refine skH 18 ?_
    try simp only [Act.put, gA, gB, gC, List.setIfInBounds_toArray, gE, gF]
    refine skH 19 ?_
    try simp only [Act.put, gA, gB, gC, List.setIfInBounds_toArray, gE, gF]
    refine skH 20 ?_
    try simp only [Act.put, gA, gB, gC, List.setIfInBounds_toArray, gE, gF]
    refine skH 21 ?_
    try simp only [Act.put, gA, gB, gC, List.setIfInBounds_toArray, gE, gF]
    refine skH 22 ?_
    try simp only [Act.put, gA, gB, gC, List.setIfInBounds_toArray, gE, gF]
    refine skH 23 ?_
    try simp only [Act.put, gA, gB, gC, List.setIfInBounds_toArray, gE, gF]
    refine skH 24 ?_
    try simp only [Act.put, gA, gB, gC, List.setIfInBounds_toArray, gE, gF]
    refine tk 25 ?_
    try simp only [Act.put, gA, gB, gC, List.setIfInBounds_toArray, gE, gF]
    refine tk 26 ?_
    try simp only [Act.put, gA, gB, gC, List.setIfInBounds_toArray, gE, gF]
    refine wpAnyH_done (by kernel_rfl) ?_ _
    have b0 := bq _ d0
    clear bq
    go_wp2_with fail
    refine (bits04_any A n c W.heap.size xs _ (hx'.out.below d0) nm).mono ?_
    rintro e w2 ⟨rfl, rfl⟩
    go_wp2_with fail
    go_ret
    exact ⟨rfl, E0.god⟩
set_option maxRecDepth 100000 in
set_option maxHeartbeats 3200000 in
theorem shape_ok04_6 (ad : Int) (A : Option Addr) (n c : Nat) (w : World) (ha : placeB ad = true) :
    Calls Try.prog 60 #[.agg #[.int .i64 6, .int .i64 ad, .int .i64 0, .slice A n c, .int .i64 0]] w fun e w' => e = .returned (.bool ((n : Int) == 1)) ∧ Ext w w' := by
  have bq : ∀ w', Ext (w.alloc (.cells #[.int .i64 6, .int .i64 ad, .int .i64 0, .slice A n c, .int .i64 0] 30)) w' → ∀ o, w'.cell? ⟨w.heap.size, o, none⟩ = _ := fun w' D => cellsAt ((D.block w.heap.size (by simp)).trans (heap_alloc_new w _))
  have E0 := (Ext.refl w).goA (.cells #[.int .i64 6, .int .i64 ad, .int .i64 0, .slice A n c, .int .i64 0] 30)
  have hm : mostV 6 = 1 := rfl
  have hs : singleB 6 = true := rfl
  have ht : placeB 0 = true := rfl
  have bq' := Lib.hid bq
  clear bq
  go_enter Try.func60, Try.ntmps60
  go_wp2_with fail
  refine (most_any 6 _).mono ?_
  rw [hm]
  rintro e w1 ⟨rfl, rfl⟩
  go_wp2_with fail
  refine (place_any ad _).mono ?_
  rw [ha]
  rintro e w1 ⟨rfl, rfl⟩
  go_wp2_with fail
  refine (place_any 0 _).mono ?_
  rw [ht]
  rintro e w1 ⟨rfl, rfl⟩
  go_wp2_with fail
  generalize w.alloc (.cells #[.int .i64 6, .int .i64 ad, .int .i64 0, .slice A n c, .int .i64 0] 30) = W at *
  have bq := bq'.out
  have d0 : Ext W W.drew := (Ext.refl _).god
  refine wp_region_held_drew (S := fun w' => Ext W w') (by kernel_rfl) d0 (fun hHeld => ?_)
  refine tk 0 ?_
  try simp only [Act.put, gA, gC, List.setIfInBounds_toArray, gE, gF]
  refine tk 1 ?_
  try simp only [Act.put, gA, gB, gC, List.setIfInBounds_toArray, gE, gF]
  refine wpAnyH_ready (rs := [2]) (by kernel_rfl) (by simp) ?_
  refine AllReadyH.cons rfl (fun K hK => ?_) ?_
  rotate_left
  · exact AllReadyH.nil
  go_simp
  go_at_call 97
  refine (single_any 6 _).mono ?_
  rw [hs]
  rintro e w2 ⟨rfl, rfl⟩
  try dsimp only
  refine hK.out _ _ ?_ (fun hHeld => ?_)
  · first | assumption | (dsimp only; assumption)
  clear hK K
  try simp only [Act.put, gA, gB, gC, List.setIfInBounds_toArray, gE, gF]
  refine tk 3 ?_
  try simp only [Act.put, gA, gB, gC, List.setIfInBounds_toArray, gE, gF]
  refine tk 4 ?_
  try simp only [Act.put, gA, gB, gC, List.setIfInBounds_toArray, gE, gF]
  refine tk 5 ?_
  try simp only [Act.put, gA, gB, gC, List.setIfInBounds_toArray, gE, gF]
  refine tk 6 ?_
  try simp only [Act.put, gA, gB, gC, List.setIfInBounds_toArray, gE, gF]
  refine tk 7 ?_
  try simp only [Act.put, gA, gB, gC, List.setIfInBounds_toArray, gE, gF]
  refine tk 8 ?_
  try simp only [Act.put, gA, gB, gC, List.setIfInBounds_toArray, gE, gF]
  refine tk 9 ?_
  try simp only [Act.put, gA, gB, gC, List.setIfInBounds_toArray, gE, gF]
  refine tk 10 ?_
  try simp only [Act.put, gA, gB, gC, List.setIfInBounds_toArray, gE, gF]
  refine wpAnyH_ready (rs := [11]) (by kernel_rfl) (by simp) ?_
  refine AllReadyH.cons rfl (fun K hK => ?_) ?_
  rotate_left
  · exact AllReadyH.nil
  go_simp
  go_at_call 97
  refine (single_any 6 _).mono ?_
  rw [hs]
  rintro e w2 ⟨rfl, rfl⟩
  try dsimp only
  refine hK.out _ _ ?_ (fun hHeld => ?_)
  · first | assumption | (dsimp only; assumption)
  clear hK K
  try simp only [Act.put, gA, gB, gC, List.setIfInBounds_toArray, gE, gF]
  refine tk 12 ?_
  try simp only [Act.put, gA, gB, gC, List.setIfInBounds_toArray, gE, gF]
  refine tk 13 ?_
  try simp only [Act.put, gA, gB, gC, List.setIfInBounds_toArray, gE, gF]
  refine skH 14 ?_
  try simp only [Act.put, gA, gB, gC, List.setIfInBounds_toArray, gE, gF]
  refine skH 15 ?_
  try simp only [Act.put, gA, gB, gC, List.setIfInBounds_toArray, gE, gF]
  refine skH 16 ?_
  try simp only [Act.put, gA, gB, gC, List.setIfInBounds_toArray, gE, gF]
  refine skH 17 ?_
  try simp only [Act.put, gA, gB, gC, List.setIfInBounds_toArray, gE, gF]
  refine skH 18 ?_
  try simp only [Act.put, gA, gB, gC, List.setIfInBounds_toArray, gE, gF]
  refine skH 19 ?_
  try simp only [Act.put, gA, gB, gC, List.setIfInBounds_toArray, gE, gF]
  refine skH 20 ?_
  try simp only [Act.put, gA, gB, gC, List.setIfInBounds_toArray, gE, gF]
  refine skH 21 ?_
  try simp only [Act.put, gA, gB, gC, List.setIfInBounds_toArray, gE, gF]
  refine skH 22 ?_
  try simp only [Act.put, gA, gB, gC, List.setIfInBounds_toArray, gE, gF]
  refine skH 23 ?_
  try simp only [Act.put, gA, gB, gC, List.setIfInBounds_toArray, gE, gF]
  refine skH 24 ?_
  try simp only [Act.put, gA, gB, gC, List.setIfInBounds_toArray, gE, gF]
  refine tk 25 ?_
  try simp only [Act.put, gA, gB, gC, List.setIfInBounds_toArray, gE, gF]
  refine tk 26 ?_
  try simp only [Act.put, gA, gB, gC, List.setIfInBounds_toArray, gE, gF]
  refine wpAnyH_done (by kernel_rfl) ?_ _
  have b0 := bq _ d0
  clear bq
  go_wp2_with fail
  go_ret
  exact ⟨rfl, E0.god⟩
set_option maxRecDepth 100000 in
set_option maxHeartbeats 3200000 in
theorem shape_ok04_15 (ad qt : Int) (A : Option Addr) (n c : Nat) (xs : List Int) (w : World) (hx : RdI w w.heap.size .u16 A n xs) (nm : n ≤ maxLen) (ha : placeB ad = true) (hq : 1 ≤ qt) (hq2 : qt ≤ 1968) :
    Calls Try.prog 60 #[.agg #[.int .i64 15, .int .i64 ad, .int .i64 qt, .slice A n c, .int .i64 0]] w fun e w' => e = .returned (.bool (((n : Int) == qt) && valuesB true xs)) ∧ Ext w w' := by
  have bq : ∀ w', Ext (w.alloc (.cells #[.int .i64 15, .int .i64 ad, .int .i64 qt, .slice A n c, .int .i64 0] 30)) w' → ∀ o, w'.cell? ⟨w.heap.size, o, none⟩ = _ := fun w' D => cellsAt ((D.block w.heap.size (by simp)).trans (heap_alloc_new w _))
  have E0 := (Ext.refl w).goA (.cells #[.int .i64 15, .int .i64 ad, .int .i64 qt, .slice A n c, .int .i64 0] 30)
  have hm : mostV 15 = 1968 := rfl
  have hs : singleB 15 = false := rfl
  have ht : placeB 0 = true := rfl
  have q1 : decide (qt < 1) = false := by simp; omega
  have q2 : decide (1968 < qt) = false := by simp; omega
  clear hq hq2
  have bq' := Lib.hid bq
  have hx' := Lib.hid (hx.ext E0)
  clear bq hx
  cases t9 : ((n : Int) == qt)
  · go_enter Try.func60, Try.ntmps60
    go_wp2_with fail
    refine (most_any 15 _).mono ?_
    rw [hm]
    rintro e w1 ⟨rfl, rfl⟩
    go_wp2_with fail
    refine (place_any ad _).mono ?_
    rw [ha]
    rintro e w1 ⟨rfl, rfl⟩
    go_wp2_with fail
    refine (place_any 0 _).mono ?_
    rw [ht]
    rintro e w1 ⟨rfl, rfl⟩
    go_wp2_with fail
    generalize w.alloc (.cells #[.int .i64 15, .int .i64 ad, .int .i64 qt, .slice A n c, .int .i64 0] 30) = W at *
    have bq := bq'.out
    have d0 : Ext W W.drew := (Ext.refl _).god
    refine wp_region_held_drew (S := fun w' => Ext W w') (by kernel_rfl) d0 (fun hHeld => ?_)
    refine tk 0 ?_
    try simp only [Act.put, gA, gC, List.setIfInBounds_toArray, gE, gF]
    refine tk 1 ?_
    try simp only [Act.put, gA, gB, gC, List.setIfInBounds_toArray, gE, gF]
    refine wpAnyH_ready (rs := [2]) (by kernel_rfl) (by simp) ?_
    refine AllReadyH.cons rfl (fun K hK => ?_) ?_
    rotate_left
    · exact AllReadyH.nil
    go_simp
    go_at_call 97
    refine (single_any 15 _).mono ?_
    rw [hs]
    rintro e w2 ⟨rfl, rfl⟩
    try dsimp only
    refine hK.out _ _ ?_ (fun hHeld => ?_)
    · first | assumption | (dsimp only; assumption)
    clear hK K
    try simp only [Act.put, gA, gB, gC, List.setIfInBounds_toArray, gE, gF]
    refine tk 3 ?_
    try simp only [Act.put, gA, gB, gC, List.setIfInBounds_toArray, gE, gF]
    refine skH 4 ?_
    try simp only [Act.put, gA, gB, gC, List.setIfInBounds_toArray, gE, gF]
    refine skH 5 ?_
    try simp only [Act.put, gA, gB, gC, List.setIfInBounds_toArray, gE, gF]
    refine skH 6 ?_
    try simp only [Act.put, gA, gB, gC, List.setIfInBounds_toArray, gE, gF]
    refine tk 7 ?_
    try simp only [Act.put, gA, gB, gC, List.setIfInBounds_toArray, gE, gF]
    refine tk 8 ?_
    try simp only [Act.put, gA, gB, gC, List.setIfInBounds_toArray, gE, gF]
    refine tk 9 ?_
    try simp only [Act.put, gA, gB, gC, List.setIfInBounds_toArray, gE, gF]
    refine tk 10 ?_
    try simp only [Act.put, gA, gB, gC, List.setIfInBounds_toArray, gE, gF]
    refine wpAnyH_ready (rs := [11]) (by kernel_rfl) (by simp) ?_
    refine AllReadyH.cons rfl (fun K hK => ?_) ?_
    rotate_left
    · exact AllReadyH.nil
    go_simp
    go_at_call 97
    refine (single_any 15 _).mono ?_
    rw [hs]
    rintro e w2 ⟨rfl, rfl⟩
    try dsimp only
    refine hK.out _ _ ?_ (fun hHeld => ?_)
    · first | assumption | (dsimp only; assumption)
    clear hK K
    try simp only [Act.put, gA, gB, gC, List.setIfInBounds_toArray, gE, gF]
    refine tk 12 ?_
    try simp only [Act.put, gA, gB, gC, List.setIfInBounds_toArray, gE, gF]
    refine tk 13 ?_
    try simp only [Act.put, gA, gB, gC, List.setIfInBounds_toArray, gE, gF]
    refine tk 14 ?_
    try simp only [Act.put, gA, gB, gC, List.setIfInBounds_toArray, gE, gF]
    refine tk 15 ?_
    try simp only [Act.put, gA, gB, gC, List.setIfInBounds_toArray, gE, gF]
    refine tk 16 ?_
    try simp only [Act.put, gA, gB, gC, List.setIfInBounds_toArray, gE, gF]
    refine tk 17 ?_
    try simp only [Act.put, gA, gB, gC, List.setIfInBounds_toArray, gE, gF]
    refine tk 18 ?_
    try simp only [Act.put, gA, gB, gC, List.setIfInBounds_toArray, gE, gF]
    refine tk 19 ?_
    try simp only [Act.put, gA, gB, gC, List.setIfInBounds_toArray, gE, gF]
    refine tk 20 ?_
    try simp only [Act.put, gA, gB, gC, List.setIfInBounds_toArray, gE, gF]
    refine tk 21 ?_
    try simp only [Act.put, gA, gB, gC, List.setIfInBounds_toArray, gE, gF]
    refine wpAnyH_ready (rs := [22]) (by kernel_rfl) (by simp) ?_
    refine AllReadyH.cons rfl (fun K hK => ?_) ?_
    rotate_left
    · exact AllReadyH.nil
    go_simp
    go_at_call 95
    refine (most_any 15 _).mono ?_
    rw [hm]
    rintro e w2 ⟨rfl, rfl⟩
    try dsimp only
    refine hK.out _ _ ?_ (fun hHeld => ?_)
    · first | assumption | (dsimp only; assumption)
    clear hK K
    try simp only [Act.put, gA, gB, gC, List.setIfInBounds_toArray, gE, gF]
    refine tk 23 ?_
    try simp only [Act.put, gA, gB, gC, List.setIfInBounds_toArray, gE, gF]
    refine tk 24 ?_
    try simp only [Act.put, gA, gB, gC, List.setIfInBounds_toArray, gE, gF]
    refine tk 25 ?_
    try simp only [Act.put, gA, gB, gC, List.setIfInBounds_toArray, gE, gF]
    refine tk 26 ?_
    try simp only [Act.put, gA, gB, gC, List.setIfInBounds_toArray, gE, gF]
    refine wpAnyH_done (by kernel_rfl) ?_ _
    have b0 := bq _ d0
    clear bq
    go_wp2_with fail
    go_ret
    exact ⟨rfl, E0.god⟩
  · go_enter Try.func60, Try.ntmps60
    go_wp2_with fail
    refine (most_any 15 _).mono ?_
    rw [hm]
    rintro e w1 ⟨rfl, rfl⟩
    go_wp2_with fail
    refine (place_any ad _).mono ?_
    rw [ha]
    rintro e w1 ⟨rfl, rfl⟩
    go_wp2_with fail
    refine (place_any 0 _).mono ?_
    rw [ht]
    rintro e w1 ⟨rfl, rfl⟩
    go_wp2_with fail
    generalize w.alloc (.cells #[.int .i64 15, .int .i64 ad, .int .i64 qt, .slice A n c, .int .i64 0] 30) = W at *
    have bq := bq'.out
    have d0 : Ext W W.drew := (Ext.refl _).god
    refine wp_region_held_drew (S := fun w' => Ext W w') (by kernel_rfl) d0 (fun hHeld => ?_)
    refine tk 0 ?_
    try simp only [Act.put, gA, gC, List.setIfInBounds_toArray, gE, gF]
    refine tk 1 ?_
    try simp only [Act.put, gA, gB, gC, List.setIfInBounds_toArray, gE, gF]
    refine wpAnyH_ready (rs := [2]) (by kernel_rfl) (by simp) ?_
    refine AllReadyH.cons rfl (fun K hK => ?_) ?_
    rotate_left
    · exact AllReadyH.nil
    go_simp
    go_at_call 97
    refine (single_any 15 _).mono ?_
    rw [hs]
    rintro e w2 ⟨rfl, rfl⟩
    try dsimp only
    refine hK.out _ _ ?_ (fun hHeld => ?_)
    · first | assumption | (dsimp only; assumption)
    clear hK K
    try simp only [Act.put, gA, gB, gC, List.setIfInBounds_toArray, gE, gF]
    refine tk 3 ?_
    try simp only [Act.put, gA, gB, gC, List.setIfInBounds_toArray, gE, gF]
    refine skH 4 ?_
    try simp only [Act.put, gA, gB, gC, List.setIfInBounds_toArray, gE, gF]
    refine skH 5 ?_
    try simp only [Act.put, gA, gB, gC, List.setIfInBounds_toArray, gE, gF]
    refine skH 6 ?_
    try simp only [Act.put, gA, gB, gC, List.setIfInBounds_toArray, gE, gF]
    refine tk 7 ?_
    try simp only [Act.put, gA, gB, gC, List.setIfInBounds_toArray, gE, gF]
    refine tk 8 ?_
    try simp only [Act.put, gA, gB, gC, List.setIfInBounds_toArray, gE, gF]
    refine tk 9 ?_
    try simp only [Act.put, gA, gB, gC, List.setIfInBounds_toArray, gE, gF]
    refine tk 10 ?_
    try simp only [Act.put, gA, gB, gC, List.setIfInBounds_toArray, gE, gF]
    refine wpAnyH_ready (rs := [11]) (by kernel_rfl) (by simp) ?_
    refine AllReadyH.cons rfl (fun K hK => ?_) ?_
    rotate_left
    · exact AllReadyH.nil
    go_simp
    go_at_call 97
    refine (single_any 15 _).mono ?_
    rw [hs]
    rintro e w2 ⟨rfl, rfl⟩
    try dsimp only
    refine hK.out _ _ ?_ (fun hHeld => ?_)
    · first | assumption | (dsimp only; assumption)
    clear hK K
    try simp only [Act.put, gA, gB, gC, List.setIfInBounds_toArray, gE, gF]
    refine tk 12 ?_
    try simp only [Act.put, gA, gB, gC, List.setIfInBounds_toArray, gE, gF]
    refine tk 13 ?_
    try simp only [Act.put, gA, gB, gC, List.setIfInBounds_toArray, gE, gF]
    refine tk 14 ?_
    try simp only [Act.put, gA, gB, gC, List.setIfInBounds_toArray, gE, gF]
    refine tk 15 ?_
    try simp only [Act.put, gA, gB, gC, List.setIfInBounds_toArray, gE, gF]
    refine tk 16 ?_
    try simp only [Act.put, gA, gB, gC, List.setIfInBounds_toArray, gE, gF]
    refine tk 17 ?_
    try simp only [Act.put, gA, gB, gC, List.setIfInBounds_toArray, gE, gF]
    refine tk 18 ?_
    try simp only [Act.put, gA, gB, gC, List.setIfInBounds_toArray, gE, gF]
    refine tk 19 ?_
    try simp only [Act.put, gA, gB, gC, List.setIfInBounds_toArray, gE, gF]
    refine tk 20 ?_
    try simp only [Act.put, gA, gB, gC, List.setIfInBounds_toArray, gE, gF]
    refine tk 21 ?_
    try simp only [Act.put, gA, gB, gC, List.setIfInBounds_toArray, gE, gF]
    refine wpAnyH_ready (rs := [22]) (by kernel_rfl) (by simp) ?_
    refine AllReadyH.cons rfl (fun K hK => ?_) ?_
    rotate_left
    · exact AllReadyH.nil
    go_simp
    go_at_call 95
    refine (most_any 15 _).mono ?_
    rw [hm]
    rintro e w2 ⟨rfl, rfl⟩
    try dsimp only
    refine hK.out _ _ ?_ (fun hHeld => ?_)
    · first | assumption | (dsimp only; assumption)
    clear hK K
    try simp only [Act.put, gA, gB, gC, List.setIfInBounds_toArray, gE, gF]
    refine tk 23 ?_
    try simp only [Act.put, gA, gB, gC, List.setIfInBounds_toArray, gE, gF]
    refine tk 24 ?_
    try simp only [Act.put, gA, gB, gC, List.setIfInBounds_toArray, gE, gF]
    refine tk 25 ?_
    try simp only [Act.put, gA, gB, gC, List.setIfInBounds_toArray, gE, gF]
    refine tk 26 ?_
    try simp only [Act.put, gA, gB, gC, List.setIfInBounds_toArray, gE, gF]
    refine wpAnyH_done (by kernel_rfl) ?_ _
    have b0 := bq _ d0
    clear bq
    go_wp2_with fail
    refine (bits04_any A n c W.heap.size xs _ (hx'.out.below d0) nm).mono ?_
    rintro e w2 ⟨rfl, rfl⟩
    go_wp2_with fail
    go_ret
    exact ⟨rfl, E0.god⟩
set_option maxRecDepth 100000 in
set_option maxHeartbeats 3200000 in
theorem shape_ok04_16 (ad qt : Int) (A : Option Addr) (n c : Nat) (w : World) (ha : placeB ad = true) (hq : 1 ≤ qt) (hq2 : qt ≤ 123) :
    Calls Try.prog 60 #[.agg #[.int .i64 16, .int .i64 ad, .int .i64 qt, .slice A n c, .int .i64 0]] w fun e w' => e = .returned (.bool ((n : Int) == qt)) ∧ Ext w w' := by
  have bq : ∀ w', Ext (w.alloc (.cells #[.int .i64 16, .int .i64 ad, .int .i64 qt, .slice A n c, .int .i64 0] 30)) w' → ∀ o, w'.cell? ⟨w.heap.size, o, none⟩ = _ := fun w' D => cellsAt ((D.block w.heap.size (by simp)).trans (heap_alloc_new w _))
  have E0 := (Ext.refl w).goA (.cells #[.int .i64 16, .int .i64 ad, .int .i64 qt, .slice A n c, .int .i64 0] 30)
  have hm : mostV 16 = 123 := rfl
  have hs : singleB 16 = false := rfl
  have ht : placeB 0 = true := rfl
  have q1 : decide (qt < 1) = false := by simp; omega
  have q2 : decide (123 < qt) = false := by simp; omega
  clear hq hq2
  have bq' := Lib.hid bq
  clear bq
  go_enter Try.func60, Try.ntmps60
  go_wp2_with fail
  refine (most_any 16 _).mono ?_
  rw [hm]
  rintro e w1 ⟨rfl, rfl⟩
  go_wp2_with fail
  refine (place_any ad _).mono ?_
  rw [ha]
  rintro e w1 ⟨rfl, rfl⟩
  go_wp2_with fail
  refine (place_any 0 _).mono ?_
  rw [ht]
  rintro e w1 ⟨rfl, rfl⟩
  go_wp2_with fail
  generalize w.alloc (.cells #[.int .i64 16, .int .i64 ad, .int .i64 qt, .slice A n c, .int .i64 0] 30) = W at *
  have bq := bq'.out
  have d0 : Ext W W.drew := (Ext.refl _).god
  refine wp_region_held_drew (S := fun w' => Ext W w') (by kernel_rfl) d0 (fun hHeld => ?_)
  refine tk 0 ?_
  try simp only [Act.put, gA, gC, List.setIfInBounds_toArray, gE, gF]
  refine tk 1 ?_
  try simp only [Act.put, gA, gB, gC, List.setIfInBounds_toArray, gE, gF]
  refine wpAnyH_ready (rs := [2]) (by kernel_rfl) (by simp) ?_
  refine AllReadyH.cons rfl (fun K hK => ?_) ?_
  rotate_left
  · exact AllReadyH.nil
  go_simp
  go_at_call 97
  refine (single_any 16 _).mono ?_
  rw [hs]
  rintro e w2 ⟨rfl, rfl⟩
  try dsimp only
  refine hK.out _ _ ?_ (fun hHeld => ?_)
  · first | assumption | (dsimp only; assumption)
  clear hK K
  try simp only [Act.put, gA, gB, gC, List.setIfInBounds_toArray, gE, gF]
  refine tk 3 ?_
  try simp only [Act.put, gA, gB, gC, List.setIfInBounds_toArray, gE, gF]
  refine skH 4 ?_
  try simp only [Act.put, gA, gB, gC, List.setIfInBounds_toArray, gE, gF]
  refine skH 5 ?_
  try simp only [Act.put, gA, gB, gC, List.setIfInBounds_toArray, gE, gF]
  refine skH 6 ?_
  try simp only [Act.put, gA, gB, gC, List.setIfInBounds_toArray, gE, gF]
  refine tk 7 ?_
  try simp only [Act.put, gA, gB, gC, List.setIfInBounds_toArray, gE, gF]
  refine tk 8 ?_
  try simp only [Act.put, gA, gB, gC, List.setIfInBounds_toArray, gE, gF]
  refine tk 9 ?_
  try simp only [Act.put, gA, gB, gC, List.setIfInBounds_toArray, gE, gF]
  refine tk 10 ?_
  try simp only [Act.put, gA, gB, gC, List.setIfInBounds_toArray, gE, gF]
  refine wpAnyH_ready (rs := [11]) (by kernel_rfl) (by simp) ?_
  refine AllReadyH.cons rfl (fun K hK => ?_) ?_
  rotate_left
  · exact AllReadyH.nil
  go_simp
  go_at_call 97
  refine (single_any 16 _).mono ?_
  rw [hs]
  rintro e w2 ⟨rfl, rfl⟩
  try dsimp only
  refine hK.out _ _ ?_ (fun hHeld => ?_)
  · first | assumption | (dsimp only; assumption)
  clear hK K
  try simp only [Act.put, gA, gB, gC, List.setIfInBounds_toArray, gE, gF]
  refine tk 12 ?_
  try simp only [Act.put, gA, gB, gC, List.setIfInBounds_toArray, gE, gF]
  refine tk 13 ?_
  try simp only [Act.put, gA, gB, gC, List.setIfInBounds_toArray, gE, gF]
  refine tk 14 ?_
  try simp only [Act.put, gA, gB, gC, List.setIfInBounds_toArray, gE, gF]
  refine tk 15 ?_
  try simp only [Act.put, gA, gB, gC, List.setIfInBounds_toArray, gE, gF]
  refine tk 16 ?_
  try simp only [Act.put, gA, gB, gC, List.setIfInBounds_toArray, gE, gF]
  refine tk 17 ?_
  try simp only [Act.put, gA, gB, gC, List.setIfInBounds_toArray, gE, gF]
  refine tk 18 ?_
  try simp only [Act.put, gA, gB, gC, List.setIfInBounds_toArray, gE, gF]
  refine tk 19 ?_
  try simp only [Act.put, gA, gB, gC, List.setIfInBounds_toArray, gE, gF]
  refine tk 20 ?_
  try simp only [Act.put, gA, gB, gC, List.setIfInBounds_toArray, gE, gF]
  refine tk 21 ?_
  try simp only [Act.put, gA, gB, gC, List.setIfInBounds_toArray, gE, gF]
  refine wpAnyH_ready (rs := [22]) (by kernel_rfl) (by simp) ?_
  refine AllReadyH.cons rfl (fun K hK => ?_) ?_
  rotate_left
  · exact AllReadyH.nil
  go_simp
  go_at_call 95
  refine (most_any 16 _).mono ?_
  rw [hm]
  rintro e w2 ⟨rfl, rfl⟩
  try dsimp only
  refine hK.out _ _ ?_ (fun hHeld => ?_)
  · first | assumption | (dsimp only; assumption)
  clear hK K
  try simp only [Act.put, gA, gB, gC, List.setIfInBounds_toArray, gE, gF]
  refine tk 23 ?_
  try simp only [Act.put, gA, gB, gC, List.setIfInBounds_toArray, gE, gF]
  refine tk 24 ?_
  try simp only [Act.put, gA, gB, gC, List.setIfInBounds_toArray, gE, gF]
  refine tk 25 ?_
  try simp only [Act.put, gA, gB, gC, List.setIfInBounds_toArray, gE, gF]
  refine tk 26 ?_
  try simp only [Act.put, gA, gB, gC, List.setIfInBounds_toArray, gE, gF]
  refine wpAnyH_done (by kernel_rfl) ?_ _
  have b0 := bq _ d0
  clear bq
  go_wp2_with fail
  go_ret
  exact ⟨rfl, E0.god⟩
set_option maxRecDepth 100000 in
set_option maxHeartbeats 3200000 in
theorem shape_ok04_22 (ad : Int) (A : Option Addr) (n c : Nat) (w : World) (ha : placeB ad = true) :
    Calls Try.prog 60 #[.agg #[.int .i64 22, .int .i64 ad, .int .i64 0, .slice A n c, .int .i64 0]] w fun e w' => e = .returned (.bool ((n : Int) == 2)) ∧ Ext w w' := by
  have bq : ∀ w', Ext (w.alloc (.cells #[.int .i64 22, .int .i64 ad, .int .i64 0, .slice A n c, .int .i64 0] 30)) w' → ∀ o, w'.cell? ⟨w.heap.size, o, none⟩ = _ := fun w' D => cellsAt ((D.block w.heap.size (by simp)).trans (heap_alloc_new w _))
  have E0 := (Ext.refl w).goA (.cells #[.int .i64 22, .int .i64 ad, .int .i64 0, .slice A n c, .int .i64 0] 30)
  have hm : mostV 22 = 1 := rfl
  have hs : singleB 22 = true := rfl
  have ht : placeB 0 = true := rfl
  have bq' := Lib.hid bq
  clear bq
  go_enter Try.func60, Try.ntmps60
  go_wp2_with fail
  refine (most_any 22 _).mono ?_
  rw [hm]
  rintro e w1 ⟨rfl, rfl⟩
  go_wp2_with fail
  refine (place_any ad _).mono ?_
  rw [ha]
  rintro e w1 ⟨rfl, rfl⟩
  go_wp2_with fail
  refine (place_any 0 _).mono ?_
  rw [ht]
  rintro e w1 ⟨rfl, rfl⟩
  go_wp2_with fail
  generalize w.alloc (.cells #[.int .i64 22, .int .i64 ad, .int .i64 0, .slice A n c, .int .i64 0] 30) = W at *
  have bq := bq'.out
  have d0 : Ext W W.drew := (Ext.refl _).god
  refine wp_region_held_drew (S := fun w' => Ext W w') (by kernel_rfl) d0 (fun hHeld => ?_)
  refine tk 0 ?_
  try simp only [Act.put, gA, gC, List.setIfInBounds_toArray, gE, gF]
  refine tk 1 ?_
  try simp only [Act.put, gA, gB, gC, List.setIfInBounds_toArray, gE, gF]
  refine wpAnyH_ready (rs := [2]) (by kernel_rfl) (by simp) ?_
  refine AllReadyH.cons rfl (fun K hK => ?_) ?_
  rotate_left
  · exact AllReadyH.nil
  go_simp
  go_at_call 97
  refine (single_any 22 _).mono ?_
  rw [hs]
  rintro e w2 ⟨rfl, rfl⟩
  try dsimp only
  refine hK.out _ _ ?_ (fun hHeld => ?_)
  · first | assumption | (dsimp only; assumption)
  clear hK K
  try simp only [Act.put, gA, gB, gC, List.setIfInBounds_toArray, gE, gF]
  refine tk 3 ?_
  try simp only [Act.put, gA, gB, gC, List.setIfInBounds_toArray, gE, gF]
  refine tk 4 ?_
  try simp only [Act.put, gA, gB, gC, List.setIfInBounds_toArray, gE, gF]
  refine tk 5 ?_
  try simp only [Act.put, gA, gB, gC, List.setIfInBounds_toArray, gE, gF]
  refine tk 6 ?_
  try simp only [Act.put, gA, gB, gC, List.setIfInBounds_toArray, gE, gF]
  refine tk 7 ?_
  try simp only [Act.put, gA, gB, gC, List.setIfInBounds_toArray, gE, gF]
  refine tk 8 ?_
  try simp only [Act.put, gA, gB, gC, List.setIfInBounds_toArray, gE, gF]
  refine tk 9 ?_
  try simp only [Act.put, gA, gB, gC, List.setIfInBounds_toArray, gE, gF]
  refine tk 10 ?_
  try simp only [Act.put, gA, gB, gC, List.setIfInBounds_toArray, gE, gF]
  refine wpAnyH_ready (rs := [11]) (by kernel_rfl) (by simp) ?_
  refine AllReadyH.cons rfl (fun K hK => ?_) ?_
  rotate_left
  · exact AllReadyH.nil
  go_simp
  go_at_call 97
  refine (single_any 22 _).mono ?_
  rw [hs]
  rintro e w2 ⟨rfl, rfl⟩
  try dsimp only
  refine hK.out _ _ ?_ (fun hHeld => ?_)
  · first | assumption | (dsimp only; assumption)
  clear hK K
  try simp only [Act.put, gA, gB, gC, List.setIfInBounds_toArray, gE, gF]
  refine tk 12 ?_
  try simp only [Act.put, gA, gB, gC, List.setIfInBounds_toArray, gE, gF]
  refine tk 13 ?_
  try simp only [Act.put, gA, gB, gC, List.setIfInBounds_toArray, gE, gF]
  refine skH 14 ?_
  try simp only [Act.put, gA, gB, gC, List.setIfInBounds_toArray, gE, gF]
  refine skH 15 ?_
  try simp only [Act.put, gA, gB, gC, List.setIfInBounds_toArray, gE, gF]
  refine skH 16 ?_
  try simp only [Act.put, gA, gB, gC, List.setIfInBounds_toArray, gE, gF]
  refine skH 17 ?_
  try simp only [Act.put, gA, gB, gC, List.setIfInBounds_toArray, gE, gF]
  refine skH 18 ?_
  try simp only [Act.put, gA, gB, gC, List.setIfInBounds_toArray, gE, gF]
  refine skH 19 ?_
  try simp only [Act.put, gA, gB, gC, List.setIfInBounds_toArray, gE, gF]
  refine skH 20 ?_
  try simp only [Act.put, gA, gB, gC, List.setIfInBounds_toArray, gE, gF]
  refine skH 21 ?_
  try simp only [Act.put, gA, gB, gC, List.setIfInBounds_toArray, gE, gF]
  refine skH 22 ?_
  try simp only [Act.put, gA, gB, gC, List.setIfInBounds_toArray, gE, gF]
  refine skH 23 ?_
  try simp only [Act.put, gA, gB, gC, List.setIfInBounds_toArray, gE, gF]
  refine skH 24 ?_
  try simp only [Act.put, gA, gB, gC, List.setIfInBounds_toArray, gE, gF]
  refine tk 25 ?_
  try simp only [Act.put, gA, gB, gC, List.setIfInBounds_toArray, gE, gF]
  refine tk 26 ?_
  try simp only [Act.put, gA, gB, gC, List.setIfInBounds_toArray, gE, gF]
  refine wpAnyH_done (by kernel_rfl) ?_ _
  have b0 := bq _ d0
  clear bq
  go_wp2_with fail
  go_ret
  exact ⟨rfl, E0.god⟩
set_option maxRecDepth 100000 in
set_option maxHeartbeats 3200000 in
theorem shape_ok04_23 (ad qt to : Int) (A : Option Addr) (n c : Nat) (w : World) (ha : placeB ad = true) (ht : placeB to = true) (hq : 1 ≤ qt) (hq2 : qt ≤ 125) :
    Calls Try.prog 60 #[.agg #[.int .i64 23, .int .i64 ad, .int .i64 qt, .slice A n c, .int .i64 to]] w fun e w' => e = .returned (.bool (decide (1 ≤ (n : Int)) && decide ((n : Int) ≤ 121))) ∧ Ext w w' := by
  have bq : ∀ w', Ext (w.alloc (.cells #[.int .i64 23, .int .i64 ad, .int .i64 qt, .slice A n c, .int .i64 to] 30)) w' → ∀ o, w'.cell? ⟨w.heap.size, o, none⟩ = _ := fun w' D => cellsAt ((D.block w.heap.size (by simp)).trans (heap_alloc_new w _))
  have E0 := (Ext.refl w).goA (.cells #[.int .i64 23, .int .i64 ad, .int .i64 qt, .slice A n c, .int .i64 to] 30)
  have hm : mostV 23 = 125 := rfl
  have hs : singleB 23 = false := rfl
  have q1 : decide (qt < 1) = false := by simp; omega
  have q2 : decide (125 < qt) = false := by simp; omega
  clear hq hq2
  have bq' := Lib.hid bq
  clear bq
  cases t9 : decide (1 ≤ (n : Int))
  · go_enter Try.func60, Try.ntmps60
    go_wp2_with fail
    refine (most_any 23 _).mono ?_
    rw [hm]
    rintro e w1 ⟨rfl, rfl⟩
    go_wp2_with fail
    refine (place_any ad _).mono ?_
    rw [ha]
    rintro e w1 ⟨rfl, rfl⟩
    go_wp2_with fail
    refine (place_any to _).mono ?_
    rw [ht]
    rintro e w1 ⟨rfl, rfl⟩
    go_wp2_with fail
    generalize w.alloc (.cells #[.int .i64 23, .int .i64 ad, .int .i64 qt, .slice A n c, .int .i64 to] 30) = W at *
    have bq := bq'.out
    have d0 : Ext W W.drew := (Ext.refl _).god
    refine wp_region_held_drew (S := fun w' => Ext W w') (by kernel_rfl) d0 (fun hHeld => ?_)
    refine tk 0 ?_
    try simp only [Act.put, gA, gC, List.setIfInBounds_toArray, gE, gF]
    refine tk 1 ?_
    try simp only [Act.put, gA, gB, gC, List.setIfInBounds_toArray, gE, gF]
    refine wpAnyH_ready (rs := [2]) (by kernel_rfl) (by simp) ?_
    refine AllReadyH.cons rfl (fun K hK => ?_) ?_
    rotate_left
    · exact AllReadyH.nil
    go_simp
    go_at_call 97
    refine (single_any 23 _).mono ?_
    rw [hs]
    rintro e w2 ⟨rfl, rfl⟩
    try dsimp only
    refine hK.out _ _ ?_ (fun hHeld => ?_)
    · first | assumption | (dsimp only; assumption)
    clear hK K
    try simp only [Act.put, gA, gB, gC, List.setIfInBounds_toArray, gE, gF]
    refine tk 3 ?_
    try simp only [Act.put, gA, gB, gC, List.setIfInBounds_toArray, gE, gF]
    refine skH 4 ?_
    try simp only [Act.put, gA, gB, gC, List.setIfInBounds_toArray, gE, gF]
    refine skH 5 ?_
    try simp only [Act.put, gA, gB, gC, List.setIfInBounds_toArray, gE, gF]
    refine skH 6 ?_
    try simp only [Act.put, gA, gB, gC, List.setIfInBounds_toArray, gE, gF]
    refine tk 7 ?_
    try simp only [Act.put, gA, gB, gC, List.setIfInBounds_toArray, gE, gF]
    refine tk 8 ?_
    try simp only [Act.put, gA, gB, gC, List.setIfInBounds_toArray, gE, gF]
    refine tk 9 ?_
    try simp only [Act.put, gA, gB, gC, List.setIfInBounds_toArray, gE, gF]
    refine tk 10 ?_
    try simp only [Act.put, gA, gB, gC, List.setIfInBounds_toArray, gE, gF]
    refine wpAnyH_ready (rs := [11]) (by kernel_rfl) (by simp) ?_
    refine AllReadyH.cons rfl (fun K hK => ?_) ?_
    rotate_left
    · exact AllReadyH.nil
    go_simp
    go_at_call 97
    refine (single_any 23 _).mono ?_
    rw [hs]
    rintro e w2 ⟨rfl, rfl⟩
    try dsimp only
    refine hK.out _ _ ?_ (fun hHeld => ?_)
    · first | assumption | (dsimp only; assumption)
    clear hK K
    try simp only [Act.put, gA, gB, gC, List.setIfInBounds_toArray, gE, gF]
    refine tk 12 ?_
    try simp only [Act.put, gA, gB, gC, List.setIfInBounds_toArray, gE, gF]
    refine tk 13 ?_
    try simp only [Act.put, gA, gB, gC, List.setIfInBounds_toArray, gE, gF]
    refine tk 14 ?_
    try simp only [Act.put, gA, gB, gC, List.setIfInBounds_toArray, gE, gF]
    refine tk 15 ?_
    try simp only [Act.put, gA, gB, gC, List.setIfInBounds_toArray, gE, gF]
    refine tk 16 ?_
    try simp only [Act.put, gA, gB, gC, List.setIfInBounds_toArray, gE, gF]
    refine tk 17 ?_
    try simp only [Act.put, gA, gB, gC, List.setIfInBounds_toArray, gE, gF]
    refine tk 18 ?_
    try simp only [Act.put, gA, gB, gC, List.setIfInBounds_toArray, gE, gF]
    refine tk 19 ?_
    try simp only [Act.put, gA, gB, gC, List.setIfInBounds_toArray, gE, gF]
    refine tk 20 ?_
    try simp only [Act.put, gA, gB, gC, List.setIfInBounds_toArray, gE, gF]
    refine tk 21 ?_
    try simp only [Act.put, gA, gB, gC, List.setIfInBounds_toArray, gE, gF]
    refine wpAnyH_ready (rs := [22]) (by kernel_rfl) (by simp) ?_
    refine AllReadyH.cons rfl (fun K hK => ?_) ?_
    rotate_left
    · exact AllReadyH.nil
    go_simp
    go_at_call 95
    refine (most_any 23 _).mono ?_
    rw [hm]
    rintro e w2 ⟨rfl, rfl⟩
    try dsimp only
    refine hK.out _ _ ?_ (fun hHeld => ?_)
    · first | assumption | (dsimp only; assumption)
    clear hK K
    try simp only [Act.put, gA, gB, gC, List.setIfInBounds_toArray, gE, gF]
    refine tk 23 ?_
    try simp only [Act.put, gA, gB, gC, List.setIfInBounds_toArray, gE, gF]
    refine tk 24 ?_
    try simp only [Act.put, gA, gB, gC, List.setIfInBounds_toArray, gE, gF]
    refine tk 25 ?_
    try simp only [Act.put, gA, gB, gC, List.setIfInBounds_toArray, gE, gF]
    refine tk 26 ?_
    try simp only [Act.put, gA, gB, gC, List.setIfInBounds_toArray, gE, gF]
    refine wpAnyH_done (by kernel_rfl) ?_ _
    have b0 := bq _ d0
    clear bq
    go_wp2_with fail
    go_ret
    exact ⟨rfl, E0.god⟩
  · go_enter Try.func60, Try.ntmps60
    go_wp2_with fail
    refine (most_any 23 _).mono ?_
    rw [hm]
    rintro e w1 ⟨rfl, rfl⟩
    go_wp2_with fail
    refine (place_any ad _).mono ?_
    rw [ha]
    rintro e w1 ⟨rfl, rfl⟩
    go_wp2_with fail
    refine (place_any to _).mono ?_
    rw [ht]
    rintro e w1 ⟨rfl, rfl⟩
    go_wp2_with fail
    generalize w.alloc (.cells #[.int .i64 23, .int .i64 ad, .int .i64 qt, .slice A n c, .int .i64 to] 30) = W at *
    have bq := bq'.out
    have d0 : Ext W W.drew := (Ext.refl _).god
    refine wp_region_held_drew (S := fun w' => Ext W w') (by kernel_rfl) d0 (fun hHeld => ?_)
    refine tk 0 ?_
    try simp only [Act.put, gA, gC, List.setIfInBounds_toArray, gE, gF]
    refine tk 1 ?_
    try simp only [Act.put, gA, gB, gC, List.setIfInBounds_toArray, gE, gF]
    refine wpAnyH_ready (rs := [2]) (by kernel_rfl) (by simp) ?_
    refine AllReadyH.cons rfl (fun K hK => ?_) ?_
    rotate_left
    · exact AllReadyH.nil
    go_simp
    go_at_call 97
    refine (single_any 23 _).mono ?_
    rw [hs]
    rintro e w2 ⟨rfl, rfl⟩
    try dsimp only
    refine hK.out _ _ ?_ (fun hHeld => ?_)
    · first | assumption | (dsimp only; assumption)
    clear hK K
    try simp only [Act.put, gA, gB, gC, List.setIfInBounds_toArray, gE, gF]
    refine tk 3 ?_
    try simp only [Act.put, gA, gB, gC, List.setIfInBounds_toArray, gE, gF]
    refine skH 4 ?_
    try simp only [Act.put, gA, gB, gC, List.setIfInBounds_toArray, gE, gF]
    refine skH 5 ?_
    try simp only [Act.put, gA, gB, gC, List.setIfInBounds_toArray, gE, gF]
    refine skH 6 ?_
    try simp only [Act.put, gA, gB, gC, List.setIfInBounds_toArray, gE, gF]
    refine tk 7 ?_
    try simp only [Act.put, gA, gB, gC, List.setIfInBounds_toArray, gE, gF]
    refine tk 8 ?_
    try simp only [Act.put, gA, gB, gC, List.setIfInBounds_toArray, gE, gF]
    refine tk 9 ?_
    try simp only [Act.put, gA, gB, gC, List.setIfInBounds_toArray, gE, gF]
    refine tk 10 ?_
    try simp only [Act.put, gA, gB, gC, List.setIfInBounds_toArray, gE, gF]
    refine wpAnyH_ready (rs := [11]) (by kernel_rfl) (by simp) ?_
    refine AllReadyH.cons rfl (fun K hK => ?_) ?_
    rotate_left
    · exact AllReadyH.nil
    go_simp
    go_at_call 97
    refine (single_any 23 _).mono ?_
    rw [hs]
    rintro e w2 ⟨rfl, rfl⟩
    try dsimp only
    refine hK.out _ _ ?_ (fun hHeld => ?_)
    · first | assumption | (dsimp only; assumption)
    clear hK K
    try simp only [Act.put, gA, gB, gC, List.setIfInBounds_toArray, gE, gF]
    refine tk 12 ?_
    try simp only [Act.put, gA, gB, gC, List.setIfInBounds_toArray, gE, gF]
    refine tk 13 ?_
    try simp only [Act.put, gA, gB, gC, List.setIfInBounds_toArray, gE, gF]
    refine tk 14 ?_
    try simp only [Act.put, gA, gB, gC, List.setIfInBounds_toArray, gE, gF]
    refine tk 15 ?_
    try simp only [Act.put, gA, gB, gC, List.setIfInBounds_toArray, gE, gF]
    refine tk 16 ?_
    try simp only [Act.put, gA, gB, gC, List.setIfInBounds_toArray, gE, gF]
    refine tk 17 ?_
    try simp only [Act.put, gA, gB, gC, List.setIfInBounds_toArray, gE, gF]
    refine tk 18 ?_
    try simp only [Act.put, gA, gB, gC, List.setIfInBounds_toArray, gE, gF]
    refine tk 19 ?_
    try simp only [Act.put, gA, gB, gC, List.setIfInBounds_toArray, gE, gF]
    refine tk 20 ?_
    try simp only [Act.put, gA, gB, gC, List.setIfInBounds_toArray, gE, gF]
    refine tk 21 ?_
    try simp only [Act.put, gA, gB, gC, List.setIfInBounds_toArray, gE, gF]
    refine wpAnyH_ready (rs := [22]) (by kernel_rfl) (by simp) ?_
    refine AllReadyH.cons rfl (fun K hK => ?_) ?_
    rotate_left
    · exact AllReadyH.nil
    go_simp
    go_at_call 95
    refine (most_any 23 _).mono ?_
    rw [hm]
    rintro e w2 ⟨rfl, rfl⟩
    try dsimp only
    refine hK.out _ _ ?_ (fun hHeld => ?_)
    · first | assumption | (dsimp only; assumption)
    clear hK K
    try simp only [Act.put, gA, gB, gC, List.setIfInBounds_toArray, gE, gF]
    refine tk 23 ?_
    try simp only [Act.put, gA, gB, gC, List.setIfInBounds_toArray, gE, gF]
    refine tk 24 ?_
    try simp only [Act.put, gA, gB, gC, List.setIfInBounds_toArray, gE, gF]
    refine tk 25 ?_
    try simp only [Act.put, gA, gB, gC, List.setIfInBounds_toArray, gE, gF]
    refine tk 26 ?_
    try simp only [Act.put, gA, gB, gC, List.setIfInBounds_toArray, gE, gF]
    refine wpAnyH_done (by kernel_rfl) ?_ _
    have b0 := bq _ d0
    clear bq
    go_wp2_with fail
    go_ret
    exact ⟨rfl, E0.god⟩
end Go.Proofs.Ytgagpalffdgjnaa
