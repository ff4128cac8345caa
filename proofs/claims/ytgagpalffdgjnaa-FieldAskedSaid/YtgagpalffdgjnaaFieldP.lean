/- Layer 24, the law's head: the walk. -/
import Derived.Test.YtgagpalffdgjnaaG44f
import Derived.Test.YtgagpalffdgjnaaG61
namespace Go.Proofs.Ytgagpalffdgjnaa
open Go.RowKit

theorem word16_nil : ∀ j : Nat, 0 ≤ ([] : List Int)[j]?.getD 0 ∧ ([] : List Int)[j]?.getD 0 ≤ 65535 := fun j => by simp
theorem word16_one : ∀ j : Nat, 0 ≤ ([1] : List Int)[j]?.getD 0 ∧ ([1] : List Int)[j]?.getD 0 ≤ 65535 := rng_of (by omega) (by omega) (fun y hy => by simp at hy; omega)
theorem rd_one (w : World) : RdI (w.alloc (.cells #[.int .u16 1] 43)) (w.alloc (.cells #[.int .u16 1] 43)).heap.size .u16 (some ⟨w.heap.size, 0, none⟩) 1 [1] := by
  rw [alloc_size]; exact RdI.one w _ _ _
theorem hF_ok : FOk hF1 0 ∧ FOk hF2 1 ∧ FOk hF3 1 ∧ FOk hF4 1 ∧ FOk hF5 1 ∧ FOk hF6 2 ∧ FOk hF7 2 ∧ FOk hF8 2 ∧ FOk hF9 2 ∧ FOk hF10 3 := by
  have h1 : FOk hF1 0 := FOk.new.set _ _ _ _
  have h2 : FOk hF2 1 := h1.ask _ _ _ _
  have h3 : FOk hF3 1 := h2.due _ _
  have h4 : FOk hF4 1 := h3.due _ _
  have h5 : FOk hF5 1 := h4.fault _ _ _
  have h6 : FOk hF6 2 := h5.ask _ _ _ _
  have h7 : FOk hF7 2 := h6.due _ _
  have h8 : FOk hF8 2 := h7.due _ _
  have h9 : FOk hF9 2 := h8.fault _ _ _
  exact ⟨h1, h2, h3, h4, h5, h6, h7, h8, h9, h9.ask _ _ _ _⟩
set_option maxRecDepth 100000 in
theorem fault_none (f : Nat) (l k n : Int) (w : World) (hl : ¬ (0 ≤ l ∧ l < 4)) :
    Calls Try.prog 28 #[.pointer (some ⟨f, 0, none⟩), .int .i64 l, .int .i64 k, .int .i64 n] w fun e w' => e = .returned (.bool false) ∧ w = w' := by
  have hw := wire_no f l w hl
  clear hl
  go_enter Try.func28, Try.ntmps28
  go_wp2_with fail
  refine hw.mono ?_
  rintro e w' ⟨rfl, rfl⟩
  go_wp2_with fail
  go_ret
  exact ⟨rfl, rfl⟩
theorem byte24 : ByteL [2, 1, 1] := rng_of (by omega) (by omega) (fun y hy => by simp at hy; omega)
theorem rd_three (w : World) : RdI (w.alloc (.cells #[.int .u8 2, .int .u8 1, .int .u8 1] 5)).drew (w.alloc (.cells #[.int .u8 2, .int .u8 1, .int .u8 1] 5)).drew.heap.size .u8 (some ⟨w.heap.size, 0, none⟩) 3 [2, 1, 1] := by
  show RdI (w.alloc (.cells #[.int .u8 2, .int .u8 1, .int .u8 1] 5)) (w.alloc (.cells #[.int .u8 2, .int .u8 1, .int .u8 1] 5)).heap.size .u8 (some ⟨w.heap.size, 0, none⟩) 3 [2, 1, 1]
  rw [alloc_size]; exact RdI.new [2, 1, 1] rfl rfl rfl
set_option maxRecDepth 100000 in
set_option maxHeartbeats 6400000 in
theorem head24_any (w : World) : Calls Try.prog 22 #[] w fun e w' => e = .returned (.bool true) ∧ Ext w w' := by
  obtain ⟨ok1, ok2, ok3, ok4, ok5, ok6, ok7, ok8, ok9, ok10⟩ := hF_ok
  go_enter Try.func22, Try.ntmps22
  go_wp2_with fail
  have PD := heap_alloc_new w (.cells #[.string { data := #[100] }, .int .i64 0, .int .i64 3, .string { data := #[101] }, .int .i64 2, .int .i64 3] 65)
  have hdv : RdDv (w.alloc (.cells #[.string { data := #[100] }, .int .i64 0, .int .i64 3, .string { data := #[101] }, .int .i64 2, .int .i64 3] 65)) (some ⟨w.heap.size, 0, none⟩) 2 hDev := by
    refine ⟨rfl, fun k hk => ?_⟩
    match k, hk with
    | 0, _ => exact ⟨_, _, _, rfl, by simp, cellsAt PD 0, cellsAt PD 1, cellsAt PD 2, rfl, rfl⟩
    | 1, _ => exact ⟨_, _, _, rfl, by simp, cellsAt PD 3, cellsAt PD 4, cellsAt PD 5, rfl, rfl⟩
  refine (newIn _ 2 2 hDev _ hdv (by omega) (by omega)).mono ?_
  rintro e w1 ⟨f, T1, rfl, h1⟩
  have h1 : FdIn (w.alloc (.cells #[.string { data := #[100] }, .int .i64 0, .int .i64 3, .string { data := #[101] }, .int .i64 2, .int .i64 3] 65)) w1 T1 f hDev newF := h1
  have E0 : Ext w (w.alloc (.cells #[.string { data := #[100] }, .int .i64 0, .int .i64 3, .string { data := #[101] }, .int .i64 2, .int .i64 3] 65)) := (Ext.refl w).goA _
  generalize w.alloc (.cells #[.string { data := #[100] }, .int .i64 0, .int .i64 3, .string { data := #[101] }, .int .i64 2, .int .i64 3] 65) = w0 at *
  clear PD hdv
  go_wp2_with fail
  refine (setIn h1 0 5 9).mono ?_
  rintro e w2 ⟨rfl, h2, _⟩
  rw [head_set]
  replace h2 : FdIn w0 w2 T1 f hDev hF1 := h2
  clear h1
  go_wp2_with fail
  refine (framed_any 0 0 3 2 5 1 0 (by omega) (by omega) (RdI.nil _) word16_nil (by unfold maxLen; omega)).mono ?_
  rintro e w3 ⟨A3, n3, c3, rfl, a1, a2, r3, E3, u3⟩
  have h3 := h2.ext E3
  have o3 := h2.off n3 u3
  have l3 := r3.len
  have ln3 := frameL_len 0 0 3 (putL 2 5 1 0 [])
  clear h2
  go_wp2_with fail
  refine (askIn h3 ok1 (by omega) r3 o3 (frame_bytes 0 (by omega) (by omega) (putL_bytes 2 5 1 0 [])) a1 a2 (by omega) 0 7).mono ?_
  rintro e w4 ⟨rfl, T4, h4, _, _⟩
  replace h4 : FdIn w0 w4 T4 f hDev hF2 := h4
  clear h3 o3 l3 ln3 r3 E3 u3
  go_wp2_with fail
  refine (dueIn h4 ok2 (by omega) 0 7).mono ?_
  rintro e w5 ⟨vb, T5, rfl, h5, _, _, ob⟩
  rw [head_due1] at ob
  replace h5 : FdIn w0 w5 T5 f hDev hF3 := h5
  obtain ⟨Ab, cb, rfl, _, _⟩ := ob.shape
  clear h4 ob
  go_wp2_with fail
  refine (dueIn h5 ok3 (by omega) 0 8).mono ?_
  rintro e w6 ⟨vc, T6, rfl, h6, _, _, oc⟩
  rw [head_due2] at oc
  replace h6 : FdIn w0 w6 T6 f hDev hF4 := h6
  clear h5
  go_wp2_with fail
  refine (faultIn h6 2 4 4).mono ?_
  rintro e w7 ⟨rfl, T7, h7, m7, g7⟩
  rw [head_fault]
  replace h7 : FdIn w0 w7 T7 f hDev hF5 := h7
  replace oc := oc.left m7 g7
  clear h6 m7 g7
  go_wp2_with fail
  refine (framed_any 2 9 3 5 1 0 0 (by omega) (by omega) (rd_one _) word16_one (by unfold maxLen; omega)).mono ?_
  rintro e w8 ⟨A8, n8, c8, rfl, a1', a2', r8, E8, u8⟩
  have E78 : Ext w7 w8 := ((Ext.refl w7).goA _).go E8
  have h8 := h7.ext E78
  have o8 := h7.off n8 (A := A8) (fun b o e => by have := u8 b o e; simp only [alloc_size] at this; omega)
  have l8 := r8.len
  have ln8 := frameL_len 2 9 3 (putL 5 1 0 0 [1])
  replace oc := oc.ext E78
  clear h7 E8
  go_wp2_with fail
  refine (askIn h8 ok5 (by omega) r8 o8 (frame_bytes 9 (by omega) (by omega) (putL_bytes 5 1 0 0 [1])) a1' a2' (by omega) 2 10).mono ?_
  rintro e w9 ⟨rfl, T9, h9, m9, g9⟩
  replace h9 : FdIn w0 w9 T9 f hDev hF6 := h9
  replace oc := oc.left m9 g9
  clear h8 o8 l8 ln8 r8 E78 u8 m9 g9
  go_wp2_with fail
  refine (waitsIn h9 2).mono ?_
  rintro e w10 ⟨rfl, rfl⟩
  rw [head_waits]
  go_wp2_with fail
  refine (coilIn h9 1 1).mono ?_
  rintro e w10 ⟨rfl, rfl⟩
  rw [head_coil1.1, head_coil1.2]
  go_wp2_with fail
  refine (coilIn h9 0 1).mono ?_
  rintro e w10 ⟨rfl, rfl⟩
  rw [head_coil2]
  go_wp2_with fail
  refine (dueIn h9 ok6 (by omega) 2 14).mono ?_
  rintro e w11 ⟨ve, T11, rfl, h11, m11, g11, oe⟩
  rw [head_due3] at oe
  replace h11 : FdIn w0 w11 T11 f hDev hF7 := h11
  obtain ⟨Ae, ce, rfl, _, _⟩ := oe.shape
  replace oc := oc.left m11 g11
  clear h9 oe m11 g11
  go_wp2_with fail
  refine (dueIn h11 ok7 (by omega) 2 15).mono ?_
  rintro e w12 ⟨vg, T12, rfl, h12, m12, g12, og⟩
  rw [head_due4] at og
  replace h12 : FdIn w0 w12 T12 f hDev hF8 := h12
  replace oc := oc.left m12 g12
  clear h11 m12 g12
  go_wp2_with fail
  refine (faultIn h12 0 1 0).mono ?_
  rintro e w13 ⟨rfl, T13, h13, m13, g13⟩
  replace h13 : FdIn w0 w13 T13 f hDev hF9 := h13
  replace oc := oc.left m13 g13
  replace og := og.left m13 g13
  clear h12 m13 g13
  go_wp2_with fail
  refine (framed_any 0 0 3 5 0 0 0 (by omega) (by omega) (rd_one _) word16_one (by unfold maxLen; omega)).mono ?_
  rintro e w14 ⟨A14, n14, c14, rfl, a1x, a2x, r14, E14, u14⟩
  have E1314 : Ext w13 w14 := ((Ext.refl w13).goA _).go E14
  have h14 := h13.ext E1314
  have o14 := h13.off n14 (A := A14) (fun b o e => by have := u14 b o e; simp only [alloc_size] at this; omega)
  have l14 := r14.len
  have ln14 := frameL_len 0 0 3 (putL 5 0 0 0 [1])
  replace oc := oc.ext E1314
  replace og := og.ext E1314
  clear h13 E14
  go_wp2_with fail
  refine (askIn h14 ok9 (by omega) r14 o14 (frame_bytes 0 (by omega) (by omega) (putL_bytes 5 0 0 0 [1])) a1x a2x (by omega) 0 20).mono ?_
  rintro e w15 ⟨rfl, T15, h15, m15, g15⟩
  replace h15 : FdIn w0 w15 T15 f hDev hF10 := h15
  replace oc := oc.left m15 g15
  replace og := og.left m15 g15
  clear h14 o14 l14 ln14 r14 E1314 u14 m15 g15
  obtain ⟨bc, cc, Ac, nc, cc', rfl, kc, gc1, gc2, rc⟩ := oc.at_ (k := 0) (by simp)
  obtain ⟨bg, cg, Ag, ng, cg', rfl, kg, gg1, gg2, rg⟩ := og.at_ (k := 0) (by simp)
  go_wp2_with fail
  refine (coilIn h15 0 0).mono ?_
  rintro e w16 ⟨rfl, rfl⟩
  rw [head_coil3]
  have hcvt : ∀ W (A : Option Addr) (n c : Nat) (l : List Int), RdI W W.heap.size .u8 A n l → (Go.convert 34 9 (.slice A n c)).run Try.prog W = .ok (.string (strOfNums l)) W := fun W A n c l r => r.convert Try.underlying34 Try.underlying5 Try.underlying9 c
  have rc' := Lib.hid rc
  have rg' := Lib.hid rg
  have h15' := Lib.hid h15
  have hE := Lib.hid (E0.go h15.world)
  have hcl := cell_lt kc
  have hgl := cell_lt kg
  have KC := fun w' (E : Ext w15 w') => (E.cell 0 hcl).trans kc
  have KG := fun w' (E : Ext w15 w') => (E.cell 0 hgl).trans kg
  have CC : ∀ w', Ext w15 w' → (Go.convert 34 9 (.slice Ac nc cc')).run Try.prog w' = .ok (.string (strOfNums (rtuL 3 [2, 1, 1]))) w' := fun w' E => hcvt w' Ac nc cc' _ (rc'.out.ext E)
  have CG : ∀ w', Ext w15 w' → (Go.convert 34 9 (.slice Ag ng cg')).run Try.prog w' = .ok (.string (strOfNums (frameL 2 9 3 (putL 5 1 0 0 [1])))) w' := fun w' E => hcvt w' Ag ng cg' _ (rg'.out.ext E)
  have hcvt' := Lib.hid hcvt
  clear oc og kc kg rc rg h15 hcvt E0 ok1 ok2 ok3 ok4 ok5 ok6 ok7 ok8 ok9 ok10
  go_wp2_with fail
  simp only [List.append_eq, List.cons_append, List.nil_append]
  refine wp_region_held_drew (S := fun W' => Ext w15 W') (by kernel_rfl) ((Ext.refl w15).god) (fun hHeld => ?_)
  refine tk 0 ?_
  try simp only [Act.put, gA, gC, List.setIfInBounds_toArray, gE, gF]
  refine tk 1 ?_
  try simp only [Act.put, gA, gB, gC, List.setIfInBounds_toArray, gE, gF]
  refine tk 2 ?_
  try simp only [Act.put, gA, gB, gC, List.setIfInBounds_toArray, gE, gF]
  refine tk 3 ?_
  try simp only [Act.put, gA, gB, gC, List.setIfInBounds_toArray, gE, gF]
  refine tk 4 ?_
  try simp only [Act.put, gA, gB, gC, List.setIfInBounds_toArray, gE, gF]
  refine tk 5 ?_
  try simp only [Act.put, gA, gB, gC, List.setIfInBounds_toArray, gE, gF]
  refine tk 6 ?_
  try simp only [Act.put, gA, gB, gC, List.setIfInBounds_toArray, gE, gF]
  refine tk 7 ?_
  try simp only [Act.put, gA, gB, gC, List.setIfInBounds_toArray, gE, gF]
  refine tk 8 ?_
  try simp only [Act.put, gA, gB, gC, List.setIfInBounds_toArray, gE, gF]
  refine tk 9 ?_
  try simp only [Act.put, gA, gB, gC, List.setIfInBounds_toArray, gE, gF]
  refine tk 10 ?_
  try simp only [Act.put, gA, gB, gC, List.setIfInBounds_toArray, gE, gF]
  refine tk 11 ?_
  try simp only [Act.put, gA, gB, gC, List.setIfInBounds_toArray, gE, gF]
  refine tk 12 ?_
  try simp only [Act.put, gA, gB, gC, List.setIfInBounds_toArray, gE, gF]
  refine tk 13 ?_
  try simp only [Act.put, gA, gB, gC, List.setIfInBounds_toArray, gE, gF]
  refine tk 14 ?_
  try simp only [Act.put, gA, gB, gC, List.setIfInBounds_toArray, gE, gF]
  refine tk 15 ?_
  try simp only [Act.put, gA, gB, gC, List.setIfInBounds_toArray, gE, gF]
  refine wpAnyH_ready (rs := [16]) (by kernel_rfl) (by simp) ?_
  refine AllReadyH.cons rfl (fun K hK => ?_) ?_
  rotate_left
  · exact AllReadyH.nil
  go_simp
  refine hK.out _ _ ?_ (fun hHeld => ?_)
  · exact Ext.goA hHeld _
  clear hK K
  try simp only [Act.put, gA, gB, gC, List.setIfInBounds_toArray, gE, gF]
  refine wpAnyH_ready (rs := [17]) (by kernel_rfl) (by simp) ?_
  refine AllReadyH.cons rfl (fun K hK => ?_) ?_
  rotate_left
  · exact AllReadyH.nil
  go_simp
  go_at_call 33
  refine (ref02Put_any 3 _ 3 3 [2, 1, 1] _ (by decide) (by decide) (rd_three _) byte24 (by decide)).mono ?_
  rintro _ w18 ⟨A6, n6, c6, rfl, g61, g62, r6, E18, f6⟩
  have hHeld18 := Ext.go hHeld E18
  try dsimp only
  refine hK.out _ _ ?_ (fun hHeld => ?_)
  · first | assumption | (dsimp only; assumption)
  clear hK K
  try simp only [Act.put, gA, gB, gC, List.setIfInBounds_toArray, gE, gF]
  have c18 := hcvt'.out w18 A6 n6 c6 _ r6
  refine wpAnyH_ready (rs := [18]) (by kernel_rfl) (by simp) ?_
  refine AllReadyH.cons rfl (fun K hK => ?_) ?_
  rotate_left
  · exact AllReadyH.nil
  go_simp
  refine hK.out _ _ ?_ (fun hHeld => ?_)
  · first | assumption | (dsimp only; assumption)
  clear hK K
  try simp only [Act.put, gA, gB, gC, List.setIfInBounds_toArray, gE, gF]
  clear c18
  refine tk 19 ?_
  try simp only [Act.put, gA, gB, gC, List.setIfInBounds_toArray, gE, gF]
  refine tk 20 ?_
  try simp only [Act.put, gA, gB, gC, List.setIfInBounds_toArray, gE, gF]
  refine tk 21 ?_
  try simp only [Act.put, gA, gB, gC, List.setIfInBounds_toArray, gE, gF]
  refine tk 22 ?_
  try simp only [Act.put, gA, gB, gC, List.setIfInBounds_toArray, gE, gF]
  refine tk 23 ?_
  try simp only [Act.put, gA, gB, gC, List.setIfInBounds_toArray, gE, gF]
  refine tk 24 ?_
  try simp only [Act.put, gA, gB, gC, List.setIfInBounds_toArray, gE, gF]
  refine tk 25 ?_
  try simp only [Act.put, gA, gB, gC, List.setIfInBounds_toArray, gE, gF]
  refine tk 26 ?_
  try simp only [Act.put, gA, gB, gC, List.setIfInBounds_toArray, gE, gF]
  refine tk 27 ?_
  try simp only [Act.put, gA, gB, gC, List.setIfInBounds_toArray, gE, gF]
  refine tk 28 ?_
  try simp only [Act.put, gA, gB, gC, List.setIfInBounds_toArray, gE, gF]
  refine tk 29 ?_
  try simp only [Act.put, gA, gB, gC, List.setIfInBounds_toArray, gE, gF]
  refine tk 30 ?_
  try simp only [Act.put, gA, gB, gC, List.setIfInBounds_toArray, gE, gF]
  refine tk 31 ?_
  try simp only [Act.put, gA, gB, gC, List.setIfInBounds_toArray, gE, gF]
  refine tk 32 ?_
  try simp only [Act.put, gA, gB, gC, List.setIfInBounds_toArray, gE, gF]
  refine tk 33 ?_
  try simp only [Act.put, gA, gB, gC, List.setIfInBounds_toArray, gE, gF]
  refine tk 34 ?_
  try simp only [Act.put, gA, gB, gC, List.setIfInBounds_toArray, gE, gF]
  refine tk 35 ?_
  try simp only [Act.put, gA, gB, gC, List.setIfInBounds_toArray, gE, gF]
  refine tk 36 ?_
  try simp only [Act.put, gA, gB, gC, List.setIfInBounds_toArray, gE, gF]
  refine tk 37 ?_
  try simp only [Act.put, gA, gB, gC, List.setIfInBounds_toArray, gE, gF]
  refine tk 38 ?_
  try simp only [Act.put, gA, gB, gC, List.setIfInBounds_toArray, gE, gF]
  refine tk 39 ?_
  try simp only [Act.put, gA, gB, gC, List.setIfInBounds_toArray, gE, gF]
  refine tk 40 ?_
  try simp only [Act.put, gA, gB, gC, List.setIfInBounds_toArray, gE, gF]
  refine tk 41 ?_
  try simp only [Act.put, gA, gB, gC, List.setIfInBounds_toArray, gE, gF]
  refine tk 42 ?_
  try simp only [Act.put, gA, gB, gC, List.setIfInBounds_toArray, gE, gF]
  refine tk 43 ?_
  try simp only [Act.put, gA, gB, gC, List.setIfInBounds_toArray, gE, gF]
  refine tk 44 ?_
  try simp only [Act.put, gA, gB, gC, List.setIfInBounds_toArray, gE, gF]
  refine tk 45 ?_
  try simp only [Act.put, gA, gB, gC, List.setIfInBounds_toArray, gE, gF]
  refine tk 46 ?_
  try simp only [Act.put, gA, gB, gC, List.setIfInBounds_toArray, gE, gF]
  refine tk 47 ?_
  try simp only [Act.put, gA, gB, gC, List.setIfInBounds_toArray, gE, gF]
  refine tk 48 ?_
  try simp only [Act.put, gA, gB, gC, List.setIfInBounds_toArray, gE, gF]
  refine tk 49 ?_
  try simp only [Act.put, gA, gB, gC, List.setIfInBounds_toArray, gE, gF]
  refine tk 50 ?_
  try simp only [Act.put, gA, gB, gC, List.setIfInBounds_toArray, gE, gF]
  refine tk 51 ?_
  try simp only [Act.put, gA, gB, gC, List.setIfInBounds_toArray, gE, gF]
  refine tk 52 ?_
  try simp only [Act.put, gA, gB, gC, List.setIfInBounds_toArray, gE, gF]
  refine tk 53 ?_
  try simp only [Act.put, gA, gB, gC, List.setIfInBounds_toArray, gE, gF]
  refine wpAnyH_ready (rs := [54]) (by kernel_rfl) (by simp) ?_
  refine AllReadyH.cons rfl (fun K hK => ?_) ?_
  rotate_left
  · exact AllReadyH.nil
  go_simp
  refine hK.out _ _ ?_ (fun hHeld => ?_)
  · exact Ext.goA hHeld _
  clear hK K
  try simp only [Act.put, gA, gB, gC, List.setIfInBounds_toArray, gE, gF]
  refine tk 55 ?_
  try simp only [Act.put, gA, gB, gC, List.setIfInBounds_toArray, gE, gF]
  refine wpAnyH_ready (rs := [56]) (by kernel_rfl) (by simp) ?_
  refine AllReadyH.cons rfl (fun K hK => ?_) ?_
  rotate_left
  · exact AllReadyH.nil
  go_simp
  go_at_call 30
  refine (framed_any 2 9 3 5 1 0 0 (by decide) (by decide) (rd_one _) word16_one (by decide)).mono ?_
  rintro _ w19 ⟨A7, n7, c7, rfl, g71, g72, r7, E19, f7⟩
  have hHeld19 := Ext.go hHeld E19
  try dsimp only
  refine hK.out _ _ ?_ (fun hHeld => ?_)
  · first | assumption | (dsimp only; assumption)
  clear hK K
  try simp only [Act.put, gA, gB, gC, List.setIfInBounds_toArray, gE, gF]
  have c19 := hcvt'.out w19 A7 n7 c7 _ r7
  refine wpAnyH_ready (rs := [57]) (by kernel_rfl) (by simp) ?_
  refine AllReadyH.cons rfl (fun K hK => ?_) ?_
  rotate_left
  · exact AllReadyH.nil
  go_simp
  refine hK.out _ _ ?_ (fun hHeld => ?_)
  · first | assumption | (dsimp only; assumption)
  clear hK K
  try simp only [Act.put, gA, gB, gC, List.setIfInBounds_toArray, gE, gF]
  clear c19
  refine tk 58 ?_
  try simp only [Act.put, gA, gB, gC, List.setIfInBounds_toArray, gE, gF]
  refine tk 59 ?_
  try simp only [Act.put, gA, gB, gC, List.setIfInBounds_toArray, gE, gF]
  refine tk 60 ?_
  try simp only [Act.put, gA, gB, gC, List.setIfInBounds_toArray, gE, gF]
  refine tk 61 ?_
  try simp only [Act.put, gA, gB, gC, List.setIfInBounds_toArray, gE, gF]
  refine tk 62 ?_
  try simp only [Act.put, gA, gB, gC, List.setIfInBounds_toArray, gE, gF]
  refine tk 63 ?_
  try simp only [Act.put, gA, gB, gC, List.setIfInBounds_toArray, gE, gF]
  refine tk 64 ?_
  try simp only [Act.put, gA, gB, gC, List.setIfInBounds_toArray, gE, gF]
  refine tk 65 ?_
  try simp only [Act.put, gA, gB, gC, List.setIfInBounds_toArray, gE, gF]
  refine wpAnyH_ready (rs := [66]) (by kernel_rfl) (by simp) ?_
  refine AllReadyH.cons rfl (fun K hK => ?_) ?_
  rotate_left
  · exact AllReadyH.nil
  go_simp
  go_at_call 39
  refine (waitsIn (h15'.out.ext hHeld) 0).mono ?_
  rintro _ w20 ⟨rfl, rfl⟩
  rw [head_none]
  try dsimp only
  refine hK.out _ _ ?_ (fun hHeld => ?_)
  · first | assumption | (dsimp only; assumption)
  clear hK K
  try simp only [Act.put, gA, gB, gC, List.setIfInBounds_toArray, gE, gF]
  refine tk 67 ?_
  try simp only [Act.put, gA, gB, gC, List.setIfInBounds_toArray, gE, gF]
  refine tk 68 ?_
  try simp only [Act.put, gA, gB, gC, List.setIfInBounds_toArray, gE, gF]
  refine tk 69 ?_
  try simp only [Act.put, gA, gB, gC, List.setIfInBounds_toArray, gE, gF]
  refine tk 70 ?_
  try simp only [Act.put, gA, gB, gC, List.setIfInBounds_toArray, gE, gF]
  refine wpAnyH_ready (rs := [71]) (by kernel_rfl) (by simp) ?_
  refine AllReadyH.cons rfl (fun K hK => ?_) ?_
  rotate_left
  · exact AllReadyH.nil
  go_simp
  go_at_call 28
  refine (fault_none f 4 1 0 _ (by decide)).mono ?_
  rintro _ w21 ⟨rfl, rfl⟩
  try dsimp only
  refine hK.out _ _ ?_ (fun hHeld => ?_)
  · first | assumption | (dsimp only; assumption)
  clear hK K
  try simp only [Act.put, gA, gB, gC, List.setIfInBounds_toArray, gE, gF]
  refine tk 72 ?_
  try simp only [Act.put, gA, gB, gC, List.setIfInBounds_toArray, gE, gF]
  refine tk 73 ?_
  try simp only [Act.put, gA, gB, gC, List.setIfInBounds_toArray, gE, gF]
  refine wpAnyH_ready (rs := [74]) (by kernel_rfl) (by simp) ?_
  refine AllReadyH.cons rfl (fun K hK => ?_) ?_
  rotate_left
  · exact AllReadyH.nil
  go_simp
  refine hK.out _ _ ?_ (fun hHeld => ?_)
  · first | assumption | (dsimp only; assumption)
  clear hK K
  try simp only [Act.put, gA, gB, gC, List.setIfInBounds_toArray, gE, gF]
  refine wpAnyH_done (by kernel_rfl) ?_ _
  go_wp2_with fail
  go_ret
  exact ⟨rfl, hE.out.go hHeld⟩
end Go.Proofs.Ytgagpalffdgjnaa
