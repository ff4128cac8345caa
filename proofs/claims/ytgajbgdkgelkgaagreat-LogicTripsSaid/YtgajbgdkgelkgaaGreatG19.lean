/- Layer 17, the live question is answered true. Printed by gen/hdc.py. · Layer 17, the laws' walks, what they share: Match; calls that are kept. -/
import Derived.Test.YtgajbgdkgelkgaaGreatG18
import Derived.Test.YtgajbgdkgelkgaaGreatG15
import Derived.Test.YtgajbgdkgelkgaaGreatG16
namespace Go.Proofs.YtgajbgdkgelkgaaGreat
open Go.RowKit

theorem RdC.lit {α : Type} {cells : α → List Value} {sz : Nat} (hz : ∀ x, (cells x).length = sz) {w : World} {g n : Nat} {t : TypeId} {xs : List α} {cs : Array Value} (h : w.heap[g]? = some (.cells cs t (0, 0))) (hc : cs = (xs.flatMap cells).toArray) (hn : xs.length = n) : RdC cells sz w w.heap.size (some ⟨g, 0, none⟩) n xs := by
  subst hc
  exact ⟨hn, fun _ => ⟨g, 0, rfl, lt_of_block h, fun j x hx i hi => by
    rw [Nat.zero_add, cellsAt h, List.getElem?_toArray]
    exact flat_at hz xs j x hx i hi⟩⟩
theorem same_bareR {m m' : Mx} (h : SameMx m m') : m'.bareR = m.bareR := by
  have hc : m'.cas.map caStrip = m.cas.map caStrip := h.cas
  have he : m'.efs.map efStrip = m.efs.map efStrip := h.efs
  unfold Mx.bareR
  rw [h.rt, h.wt, h.bk, h.cy, h.key, h.dvs, h.pts, hc, he]
theorem field17 (a b c : Value) (w : World) : (Instr.field 50 (.agg #[a, b, c]) 1).run Tryz.prog w = .ok b w := by kernel_rfl
theorem nilVal : emptyM.val = .agg #[.int .i64 0, .int .i64 0, .int .i64 0, .int .i64 0, .string ⟨#[]⟩, .slice none 0 0, .slice none 0 0, .slice none 0 0, .slice none 0 0] := rfl
theorem newNil_any (w : World) : Calls Tryz.prog 9 #[.agg #[.int .i64 0, .int .i64 0, .int .i64 0, .int .i64 0, .string ⟨#[]⟩, .slice none 0 0, .slice none 0 0, .slice none 0 0, .slice none 0 0]] w fun e w' => e = .returned (.pointer none) ∧ Ext w w' := by
  rw [← nilVal]
  exact (coNew_any emptyM w (OkMx.empty _ _)).mono fun e w' h => by
    rcases h with ⟨-, h1, h2⟩ | ⟨h, -⟩
    · exact ⟨h1, h2⟩
    · rw [hd_empty] at h; cases h
set_option maxRecDepth 100000 in
set_option maxHeartbeats 12800000 in
theorem head17_any (w : World) : Calls Tryz.prog 8 #[] w fun e w' => e = .returned (.bool true) ∧ Ext w w' := by
  go_enter Tryz.func8, Tryz.ntmps8
  go_upto_region 2 with (first
    | (go_at_call 9; refine (coNew_any m1 _ ok1).mono ?_; rintro e W2 hN; obtain ⟨-, base, B, K, M, rfl, hK, hS, X2, hb0, hlt⟩ := hN.resolve_left (fun h => by have h2 := h.1; rw [← rightM_bareR m1, hb1, hd_right] at h2; cases h2))
    | (go_at_call 21; refine (one17_any _).mono ?_; rintro e W1 ⟨m1, rfl, ok1, hb1, X1⟩))
  go_upto_region 4 with (go_at_call 9; refine (newNil_any _).mono ?_; rintro e W3 ⟨rfl, X3⟩)
  have hbM : M.bareR = oneM (sumS open17) := (same_bareR hS).trans hb1
  have hR : rightM M = true := by rw [← rightM_bareR M, hbM]; exact hd_right
  have hkey : M.key = sumS open17 := by have := congrArg Mx.key hbM; exact this
  obtain ⟨Ad, nd, cd, Ap, np, cp, Ac, nc, cc, a1, n1, c1, Ae, ne, ce, a2, n2, c2, hM⟩ := shape17 hbM
  have h1 : (hs1 M).2 = [] := by rw [hM]; exact hd_h1 ..
  have h2 : (hs2 M).2 = [(1, 0, 2), (2, 0, 2)] := by rw [hM]; exact hd_h2 ..
  have h3 : (hs3 M).2 = [] := by rw [hM]; exact hd_h3 ..
  have h4 : (hs4 M).2 = ([], 161) := by rw [hM]; exact hd_h4 ..
  have h5 : (hs5 M).2 = ([(7, 0, 3), (6, 0, 3)], 0) := by rw [hM]; exact hd_h5 ..
  have h6 : (hs6 M).2 = ([(3, 0, 4)], 0) := by rw [hM]; exact hd_h6 ..
  have h7 : (hs7 M).2 = [] := by rw [hM]; exact hd_h7 ..
  have h8 : (hs8 M).2 = [(5, 0, 9), (1, 0, 9), (2, 0, 9)] := by rw [hM]; exact hd_h8 ..
  have h9 : tripsC (hs8 M).1 0 = true := by rw [hM]; exact hd_h9 ..
  have h10 : (stateC (hs8 M).1).2.1.length = 1 := by rw [hM]; exact hd_h10 ..
  have hks : (rightB shut17 && M.key.toList == (sumS shut17).toList) = false := by rw [hkey]; exact hd_shut
  have hko : (rightB open17 && M.key.toList == (sumS open17).toList) = true := by rw [hkey]; exact hd_open
  have q4 : ∀ W, HasK W base B 300 K M (hs3 M).1 → Calls Tryz.prog 18 #[.pointer (some ⟨K.g, 0, none⟩), .string shut17, .int .i64 3] W (NtsPost [] 161 W (CoAt base B 400 K M (K.mut M.np) W (hs4 M).1)) := fun W h => by
    have := coReset_any base B 300 K M _ W h hR shut17 3 (by decide) (by omega)
    rw [hks, show (resetC M false 3 (hs3 M).1).2.1 = [] from congrArg Prod.fst h4, show (resetC M false 3 (hs3 M).1).2.2 = 161 from congrArg Prod.snd h4] at this
    exact this
  have q5 : ∀ W, HasK W base B 400 K M (hs4 M).1 → Calls Tryz.prog 18 #[.pointer (some ⟨K.g, 0, none⟩), .string open17, .int .i64 3] W (NtsPost [(7, 0, 3), (6, 0, 3)] 0 W (CoAt base B 500 K M (K.mut M.np) W (hs5 M).1)) := fun W h => by
    have := coReset_any base B 400 K M _ W h hR open17 3 (by decide) (by omega)
    rw [hko, show (resetC M true 3 (hs4 M).1).2.1 = [(7, 0, 3), (6, 0, 3)] from congrArg Prod.fst h5, show (resetC M true 3 (hs4 M).1).2.2 = 0 from congrArg Prod.snd h5] at this
    exact this
  have q6 : ∀ W, HasK W base B 500 K M (hs5 M).1 → Calls Tryz.prog 22 #[.pointer (some ⟨K.g, 0, none⟩), .int .i64 0, .int .i64 5, .int .i64 4] W (NtsPost [(3, 0, 4)] 0 W (CoAt base B 501 K M (fun b => b = K.tm) W (hs6 M).1)) := fun W h => by
    have := coBypass_any base B 500 K M _ W h 0 5 4 (by decide) (by omega)
    rw [show (bypassC M 0 5 4 (hs5 M).1).2.1 = [(3, 0, 4)] from congrArg Prod.fst h6, show (bypassC M 0 5 4 (hs5 M).1).2.2 = 0 from congrArg Prod.snd h6] at this
    exact this
  have hK3 := hK.ext X3
  have hKlt : ∀ b, K.mut M.np b → b < W3.heap.size := fun b hb => hK3.old hb
  have EW : Ext w W3 := (X1.go X2).go X3
  have Ktm : K.mut M.np K.tm := .inr (.inr (.inr (.inr (.inr (.inl (.inr (.inr rfl)))))))
  have hKw : ∀ b, K.mut M.np b → w.heap.size ≤ b := fun b hb => Nat.le_trans X1.size (hlt b hb)
  have hR' := Lib.hid hR
  have hK3' := Lib.hid hK3
  have hKlt' := Lib.hid hKlt
  have EW' := Lib.hid EW
  have q4' := Lib.hid q4
  have q5' := Lib.hid q5
  have q6' := Lib.hid q6
  have Ktm' := Lib.hid Ktm
  have hKw' := Lib.hid hKw
  have h1' := Lib.hid h1
  have h2' := Lib.hid h2
  have h3' := Lib.hid h3
  have h4' := Lib.hid h4
  have h5' := Lib.hid h5
  have h6' := Lib.hid h6
  have h7' := Lib.hid h7
  have h8' := Lib.hid h8
  have h9' := Lib.hid h9
  have h10' := Lib.hid h10
  clear hbM hM hks hko hkey hK hS X1 X2 X3 hb0 hlt hb1 ok1 hR hK3 hKlt EW q4 q5 q6 Ktm hKw h1 h2 h3 h4 h5 h6 h7 h8 h9 h10
  go_upto_region 6 with fail
  have EU := ((Ext.refl W3).goA (.cells #[.bool true, .int .i64 0, .bool true, .int .i64 1] 37)).goA (.cells #[.bool true, .int .i64 0, .bool true, .int .i64 0] 37)
  have zA : (W3.alloc (.cells #[.bool true, .int .i64 0, .bool true, .int .i64 1] 37)).heap.size = W3.heap.size + 1 := by simp
  have BA := (((Ext.refl (W3.alloc (.cells #[.bool true, .int .i64 0, .bool true, .int .i64 1] 37))).goA (.cells #[.bool true, .int .i64 0, .bool true, .int .i64 0] 37)).block W3.heap.size (by omega)).trans (heap_alloc_new W3 _)
  have BB := heap_alloc_new (W3.alloc (.cells #[.bool true, .int .i64 0, .bool true, .int .i64 1] 37)) (.cells #[.bool true, .int .i64 0, .bool true, .int .i64 0] 37)
  rw [zA] at BB
  generalize (W3.alloc (.cells #[.bool true, .int .i64 0, .bool true, .int .i64 1] 37)).alloc (.cells #[.bool true, .int .i64 0, .bool true, .int .i64 0] 37) = U0 at *
  have RN0 : Hid (RdC smCells 2 U0 U0.heap.size (some ⟨W3.heap.size, 0, none⟩) 2 onS) := Lib.hid (RdC.lit (cells := smCells) (sz := 2) (xs := onS) (fun _ => rfl) BA rfl rfl)
  have RF0 : Hid (RdC smCells 2 U0 U0.heap.size (some ⟨W3.heap.size + 1, 0, none⟩) 2 offS) := Lib.hid (RdC.lit (cells := smCells) (sz := 2) (xs := offS) (fun _ => rfl) BB rfl rfl)
  have HK0 := Lib.hid (hK3'.out.ext EU)
  have E0 := Lib.hid (EW'.out.go EU)
  have zU0 := EU.size
  clear BA BB EU zA
  go_upto_region 7 with (go_at_call 11; refine (coScan_any base B 0 K M (newC M) _ HK0.out hR'.out _ 2 2 offS 1 RF0.out ⟨by omega, by decide⟩ (fun _ b o e hb => by cases e; have := hKlt'.out _ hb; omega) (by omega)).mono ?_; rintro e U1 ⟨A1, n1, c1, rfl, p1, r1, s1, t1, v1⟩)
  have M1 : Mod (K.mut M.np) U0 U1 := v1.2
  have HK1 : Hid (HasK U1 base B 100 K M (hs1 M).1) := Lib.hid v1.1
  have E1 := Lib.hid (E0.out.goM M1 hKw'.out)
  have RN1 := Lib.hid (RN0.out.mod M1 (fun _ b o e hb => by cases e; have := hKlt'.out _ hb; omega))
  have RF1 := Lib.hid (RF0.out.mod M1 (fun _ b o e hb => by cases e; have := hKlt'.out _ hb; omega))
  have zU1 : W3.heap.size ≤ U1.heap.size := Nat.le_trans zU0 M1.size
  have s1' : RdC ntCells 3 U1 U1.heap.size A1 n1 [] := by have h := s1; rw [show (scanC M offS 1 (newC M)).2 = [] from h1'.out] at h; exact h
  obtain rfl : n1 = 0 := s1'.len.symm
  clear v1 s1 s1' t1 M1 p1 r1 HK0 RN0 RF0
  go_upto_region 8 with (go_at_call 11; refine (coScan_any base B 100 K M (hs1 M).1 _ HK1.out hR'.out _ 2 2 onS 2 RN1.out ⟨by omega, by decide⟩ (fun _ b o e hb => by cases e; have := hKlt'.out _ hb; omega) (by omega)).mono ?_; rintro e U2 ⟨A2, n2, c2, rfl, p2, r2, s2, t2, v2⟩)
  have M2 : Mod (K.mut M.np) U1 U2 := v2.2
  have HK2 : Hid (HasK U2 base B 200 K M (hs2 M).1) := Lib.hid v2.1
  have E2 := Lib.hid (E1.out.goM M2 hKw'.out)
  have RN2 := Lib.hid (RN1.out.mod M2 (fun _ b o e hb => by cases e; have := hKlt'.out _ hb; omega))
  have RF2 := Lib.hid (RF1.out.mod M2 (fun _ b o e hb => by cases e; have := hKlt'.out _ hb; omega))
  have zU2 : W3.heap.size ≤ U2.heap.size := Nat.le_trans zU1 M2.size
  have s2' : RdC ntCells 3 U2 U2.heap.size A2 n2 [(1, 0, 2), (2, 0, 2)] := by have h := s2; rw [show (scanC M onS 2 (hs1 M).1).2 = [(1, 0, 2), (2, 0, 2)] from h2'.out] at h; exact h
  obtain rfl : n2 = 2 := s2'.len.symm
  have D2_2 := Lib.hid s2'
  have F2 : Hid (∀ b o, A2 = some ⟨b, o, none⟩ → W3.heap.size ≤ b) := Lib.hid (fun b o e => Nat.le_trans zU1 (t2 b o e))
  have P2 := Lib.hid (show 2 ≤ maxLen from Nat.le_trans p2 r2)
  clear v2 s2 s2' t2 M2 p2 r2 HK1 RN1 RF1
  go_upto_region 9 with (go_at_call 11; refine (coScan_any base B 200 K M (hs2 M).1 _ HK2.out hR'.out _ 2 2 offS 3 RF2.out ⟨by omega, by decide⟩ (fun _ b o e hb => by cases e; have := hKlt'.out _ hb; omega) (by omega)).mono ?_; rintro e U3 ⟨A3, n3, c3, rfl, p3, r3, s3, t3, v3⟩)
  have M3 : Mod (K.mut M.np) U2 U3 := v3.2
  have HK3 : Hid (HasK U3 base B 300 K M (hs3 M).1) := Lib.hid v3.1
  have E3 := Lib.hid (E2.out.goM M3 hKw'.out)
  have RN3 := Lib.hid (RN2.out.mod M3 (fun _ b o e hb => by cases e; have := hKlt'.out _ hb; omega))
  have RF3 := Lib.hid (RF2.out.mod M3 (fun _ b o e hb => by cases e; have := hKlt'.out _ hb; omega))
  have D2_3 := Lib.hid (D2_2.out.mod M3 (fun _ b o e hb => by have := F2.out b o e; have := hKlt'.out _ hb; omega))
  have zU3 : W3.heap.size ≤ U3.heap.size := Nat.le_trans zU2 M3.size
  have s3' : RdC ntCells 3 U3 U3.heap.size A3 n3 [] := by have h := s3; rw [show (scanC M offS 3 (hs2 M).1).2 = [] from h3'.out] at h; exact h
  obtain rfl : n3 = 0 := s3'.len.symm
  clear v3 s3 s3' t3 M3 p3 r3 HK2 RN2 RF2
  go_upto_region 10 with (go_at_call 18; refine (q4'.out _ HK3.out).mono ?_; rintro e U4 ⟨A4, n4, c4, rfl, p4, r4, s4, t4, v4⟩)
  have M4 : Mod (K.mut M.np) U3 U4 := v4.2
  have HK4 : Hid (HasK U4 base B 400 K M (hs4 M).1) := Lib.hid v4.1
  have E4 := Lib.hid (E3.out.goM M4 hKw'.out)
  have RN4 := Lib.hid (RN3.out.mod M4 (fun _ b o e hb => by cases e; have := hKlt'.out _ hb; omega))
  have RF4 := Lib.hid (RF3.out.mod M4 (fun _ b o e hb => by cases e; have := hKlt'.out _ hb; omega))
  have D2_4 := Lib.hid (D2_3.out.mod M4 (fun _ b o e hb => by have := F2.out b o e; have := hKlt'.out _ hb; omega))
  have zU4 : W3.heap.size ≤ U4.heap.size := Nat.le_trans zU3 M4.size
  have s4' := s4
  obtain rfl : n4 = 0 := s4'.len.symm
  clear v4 s4 s4' t4 M4 p4 r4 HK3 RN3 RF3
  go_upto_region 11 with (go_at_call 18; refine (q5'.out _ HK4.out).mono ?_; rintro e U5 ⟨A5, n5, c5, rfl, p5, r5, s5, t5, v5⟩)
  have M5 : Mod (K.mut M.np) U4 U5 := v5.2
  have HK5 : Hid (HasK U5 base B 500 K M (hs5 M).1) := Lib.hid v5.1
  have E5 := Lib.hid (E4.out.goM M5 hKw'.out)
  have RN5 := Lib.hid (RN4.out.mod M5 (fun _ b o e hb => by cases e; have := hKlt'.out _ hb; omega))
  have RF5 := Lib.hid (RF4.out.mod M5 (fun _ b o e hb => by cases e; have := hKlt'.out _ hb; omega))
  have D2_5 := Lib.hid (D2_4.out.mod M5 (fun _ b o e hb => by have := F2.out b o e; have := hKlt'.out _ hb; omega))
  have zU5 : W3.heap.size ≤ U5.heap.size := Nat.le_trans zU4 M5.size
  have s5' := s5
  obtain rfl : n5 = 2 := s5'.len.symm
  have D5_5 := Lib.hid s5'
  have F5 : Hid (∀ b o, A5 = some ⟨b, o, none⟩ → W3.heap.size ≤ b) := Lib.hid (fun b o e => Nat.le_trans zU4 (t5 b o e))
  have P5 := Lib.hid (show 2 ≤ maxLen from Nat.le_trans p5 r5)
  clear v5 s5 s5' t5 M5 p5 r5 HK4 RN4 RF4
  go_upto_region 12 with (go_at_call 22; refine (q6'.out _ HK5.out).mono ?_; rintro e U6 ⟨A6, n6, c6, rfl, p6, r6, s6, t6, v6⟩)
  have M6 : Mod (K.mut M.np) U5 U6 := v6.2.weak (fun b hb => hb ▸ Ktm'.out)
  have HK6 : Hid (HasK U6 base B 501 K M (hs6 M).1) := Lib.hid v6.1
  have E6 := Lib.hid (E5.out.goM M6 hKw'.out)
  have RN6 := Lib.hid (RN5.out.mod M6 (fun _ b o e hb => by cases e; have := hKlt'.out _ hb; omega))
  have RF6 := Lib.hid (RF5.out.mod M6 (fun _ b o e hb => by cases e; have := hKlt'.out _ hb; omega))
  have D2_6 := Lib.hid (D2_5.out.mod M6 (fun _ b o e hb => by have := F2.out b o e; have := hKlt'.out _ hb; omega))
  have D5_6 := Lib.hid (D5_5.out.mod M6 (fun _ b o e hb => by have := F5.out b o e; have := hKlt'.out _ hb; omega))
  have zU6 : W3.heap.size ≤ U6.heap.size := Nat.le_trans zU5 M6.size
  have s6' := s6
  obtain rfl : n6 = 1 := s6'.len.symm
  clear v6 s6 s6' t6 M6 p6 r6 HK5 RN5 RF5
  go_upto_region 13 with (go_at_call 11; refine (coScan_any base B 501 K M (hs6 M).1 _ HK6.out hR'.out _ 2 2 onS 5 RN6.out ⟨by omega, by decide⟩ (fun _ b o e hb => by cases e; have := hKlt'.out _ hb; omega) (by omega)).mono ?_; rintro e U7 ⟨A7, n7, c7, rfl, p7, r7, s7, t7, v7⟩)
  have M7 : Mod (K.mut M.np) U6 U7 := v7.2
  have HK7 : Hid (HasK U7 base B 601 K M (hs7 M).1) := Lib.hid v7.1
  have E7 := Lib.hid (E6.out.goM M7 hKw'.out)
  have RN7 := Lib.hid (RN6.out.mod M7 (fun _ b o e hb => by cases e; have := hKlt'.out _ hb; omega))
  have RF7 := Lib.hid (RF6.out.mod M7 (fun _ b o e hb => by cases e; have := hKlt'.out _ hb; omega))
  have D2_7 := Lib.hid (D2_6.out.mod M7 (fun _ b o e hb => by have := F2.out b o e; have := hKlt'.out _ hb; omega))
  have D5_7 := Lib.hid (D5_6.out.mod M7 (fun _ b o e hb => by have := F5.out b o e; have := hKlt'.out _ hb; omega))
  have zU7 : W3.heap.size ≤ U7.heap.size := Nat.le_trans zU6 M7.size
  have s7' : RdC ntCells 3 U7 U7.heap.size A7 n7 [] := by have h := s7; rw [show (scanC M onS 5 (hs6 M).1).2 = [] from h7'.out] at h; exact h
  obtain rfl : n7 = 0 := s7'.len.symm
  clear v7 s7 s7' t7 M7 p7 r7 HK6 RN6 RF6
  go_upto_region 14 with (go_at_call 11; refine (coScan_any base B 601 K M (hs7 M).1 _ HK7.out hR'.out _ 2 2 onS 9 RN7.out ⟨by omega, by decide⟩ (fun _ b o e hb => by cases e; have := hKlt'.out _ hb; omega) (by omega)).mono ?_; rintro e U8 ⟨A8, n8, c8, rfl, p8, r8, s8, t8, v8⟩)
  have M8 : Mod (K.mut M.np) U7 U8 := v8.2
  have HK8 : Hid (HasK U8 base B 701 K M (hs8 M).1) := Lib.hid v8.1
  have E8 := Lib.hid (E7.out.goM M8 hKw'.out)
  have RN8 := Lib.hid (RN7.out.mod M8 (fun _ b o e hb => by cases e; have := hKlt'.out _ hb; omega))
  have RF8 := Lib.hid (RF7.out.mod M8 (fun _ b o e hb => by cases e; have := hKlt'.out _ hb; omega))
  have D2_8 := Lib.hid (D2_7.out.mod M8 (fun _ b o e hb => by have := F2.out b o e; have := hKlt'.out _ hb; omega))
  have D5_8 := Lib.hid (D5_7.out.mod M8 (fun _ b o e hb => by have := F5.out b o e; have := hKlt'.out _ hb; omega))
  have zU8 : W3.heap.size ≤ U8.heap.size := Nat.le_trans zU7 M8.size
  have s8' : RdC ntCells 3 U8 U8.heap.size A8 n8 [(5, 0, 9), (1, 0, 9), (2, 0, 9)] := by have h := s8; rw [show (scanC M onS 9 (hs7 M).1).2 = [(5, 0, 9), (1, 0, 9), (2, 0, 9)] from h8'.out] at h; exact h
  obtain rfl : n8 = 3 := s8'.len.symm
  have D8_8 := Lib.hid s8'
  have F8 : Hid (∀ b o, A8 = some ⟨b, o, none⟩ → W3.heap.size ≤ b) := Lib.hid (fun b o e => Nat.le_trans zU7 (t8 b o e))
  have P8 := Lib.hid (show 3 ≤ maxLen from Nat.le_trans p8 r8)
  clear v8 s8 s8' t8 M8 p8 r8 HK7 RN7 RF7
  have htr := h9'.out
  go_wp2_with (first
    | (go_at_call 15; refine (coState_any base B _ K M _ _ (HK8.out.ext YE3)).mono ?_; rintro e Y4 ⟨v9, rfl, hv9, YE4⟩; obtain ⟨B1, l1, d1, B2, l2, d2, B3, l3, d3, rfl, -, -, -, -, hv2, -⟩ := hv9.ex; have hl2 := hv2.len; rw [h10'.out] at hl2; subst hl2; clear hv2 hv9; have hfd := field17 (.slice B1 l1 d1) (.slice B2 1 d2) (.slice B3 l3 d3))
    | (go_at_call 23; refine (sameNotes_any _ _ 3 _ 3 _ _ [(5, 0, 9), (1, 0, 9), (2, 0, 9)] [(5, 0, 9), (1, 0, 9), (2, 0, 9)] _ (D8_8.out.ext (YE2.goA _)) (RdC.lit (cells := ntCells) (sz := 3) (xs := [(5, 0, 9), (1, 0, 9), (2, 0, 9)]) (fun _ => rfl) (heap_alloc_new _ _) rfl rfl) P8.out (by decide)).mono ?_; rintro e Y3 ⟨rfl, dd3, hd3⟩; have YE3 : Ext U8 Y3 := (YE2.goA _).go (hd3 ▸ (Ext.refl _).goD dd3); clear hd3)
    | (go_at_call 23; refine (sameNotes_any _ _ 2 _ 2 _ _ [(7, 0, 3), (6, 0, 3)] [(7, 0, 3), (6, 0, 3)] _ (D5_8.out.ext (YE1.goA _)) (RdC.lit (cells := ntCells) (sz := 3) (xs := [(7, 0, 3), (6, 0, 3)]) (fun _ => rfl) (heap_alloc_new _ _) rfl rfl) P5.out (by decide)).mono ?_; rintro e Y2 ⟨rfl, dd2, hd2⟩; have YE2 : Ext U8 Y2 := (YE1.goA _).go (hd2 ▸ (Ext.refl _).goD dd2); clear hd2)
    | (go_at_call 23; refine (sameNotes_any _ _ 2 _ 2 _ _ [(1, 0, 2), (2, 0, 2)] [(1, 0, 2), (2, 0, 2)] _ (D2_8.out.ext ((Ext.refl U8).goA _)) (RdC.lit (cells := ntCells) (sz := 3) (xs := [(1, 0, 2), (2, 0, 2)]) (fun _ => rfl) (heap_alloc_new _ _) rfl rfl) P2.out (by decide)).mono ?_; rintro e Y1 ⟨rfl, dd1, hd1⟩; have YE1 : Ext U8 Y1 := ((Ext.refl U8).goA _).go (hd1 ▸ (Ext.refl _).goD dd1); clear hd1)
    | (go_at_call 12; refine (trips_any base B _ K M _ _ HK8.out 0).mono ?_; rintro e w' ⟨rfl, rfl⟩))
  go_ret
  exact ⟨rfl, E8.out.go (YE3.go YE4)⟩
end Go.Proofs.YtgajbgdkgelkgaaGreat
namespace Go.Proofs.YtgajbgdkgelkgaaGreat
open Go.RowKit

set_option maxRecDepth 100000 in
set_option maxHeartbeats 1600000 in
theorem refMatch_any (s key : ByteArray) (w : World) (hs : key.size ≤ maxLen) :
    Calls Tryz.prog 19 #[.string s, .string key] w fun e w' => e = .returned (.bool (rightB key && s.toList == (sumS key).toList)) ∧ Ext w w' := by
  cases hr : rightB key with
  | false =>
    go_enter Tryz.func19, Tryz.ntmps19
    go_wp2_with (go_at_call 42; refine (refKey_any _ _ hs).mono ?_; rintro e w' ⟨rfl, rfl⟩)
    go_ret
    exact ⟨rfl, Ext.refl _⟩
  | true =>
    go_enter Tryz.func19, Tryz.ntmps19
    go_wp2_with (first | (go_at_call 43; refine (refSum_any _ _ hs).mono ?_; rintro e w' ⟨rfl, X1⟩) | (go_at_call 42; refine (refKey_any _ _ hs).mono ?_; rintro e w' ⟨rfl, rfl⟩))
    go_ret
    exact ⟨rfl, X1⟩
theorem OkOp17.mod {w w' : World} {p : Op17} {S : Nat → Prop} (h : OkOp17 w p) (M : Mod S w w') (hs : ∀ b, S b → w.heap.size ≤ b) : OkOp17 w' p :=
  ⟨h.rd.mod M (fun hn b o e hb => by have := h.rd.lt_of hn e; have := hs b hb; omega), h.cap, h.key, h.who, h.ww, h.wn, h.lens⟩
/-- Calls that are read. -/
structure OpsIn (w : World) (A : Option Addr) (n : Nat) (ps : List Op17) : Prop where
  rd : RdC Op17.cells 9 w w.heap.size A n ps
  ok : ∀ p ∈ ps, OkOp17 w p
theorem OpsIn.ext {w w' : World} {A : Option Addr} {n : Nat} {ps : List Op17} (h : OpsIn w A n ps) (E : Ext w w') : OpsIn w' A n ps := ⟨h.rd.ext E, fun p hp => (h.ok p hp).ext E⟩
/-- A call out of some, in a world where nothing that was there has turned but what lies above b0. -/
theorem OpsIn.at_ {w w' : World} {A : Option Addr} {n : Nat} {ps : List Op17} (h : OpsIn w A n ps) {S : Nat → Prop} (M : Mod S w w') (hs : ∀ b, S b → w.heap.size ≤ b) {k : Nat} (hk : k < n) :
    ∃ p b o, ps[k]? = some p ∧ A = some ⟨b, o, none⟩ ∧ b < w'.heap.size ∧ OkOp17 w' p ∧ (∀ i, i < 9 → w'.cell? ⟨b, o + k * 9 + i, none⟩ = p.cells[i]?) ∧ ∀ b o, 0 < p.n → p.A = some ⟨b, o, none⟩ → b < w.heap.size := by
  obtain ⟨p, hp⟩ := h.rd.get hk
  obtain ⟨b, o, e, hb, hc⟩ := h.rd.at_ hp
  have ok := h.ok p (List.mem_of_getElem? hp)
  exact ⟨p, b, o, hp, e, Nat.lt_of_lt_of_le hb M.size, ok.mod M hs, fun i hi => (M.cell _ hb (fun hS => by have := hs b hS; omega)).trans (hc i hi), fun b o hn e => ok.rd.lt_of hn e⟩
theorem RdSt.mod {w w' : World} {b : Nat} {v : Value} {s : St} {S : Nat → Prop} (h : RdSt w b v s) (M : Mod S w w') (hs : ∀ i, S i → i < b) : RdSt w' b v s := by
  obtain ⟨A1, n1, c1, A2, n2, c2, A3, n3, c3, e, h1, h2, h3, r1, r2, r3, f1, f2, f3⟩ := h.ex
  exact ⟨A1, n1, c1, A2, n2, c2, A3, n3, c3, e, h1, h2, h3, r1.mod M (fun _ b o e hb => by have := hs b hb; have := f1 b o e; omega), r2.mod M (fun _ b o e hb => by have := hs b hb; have := f2 b o e; omega), r3.turned M (fun b o e hb => by have := hs b hb; have := f3 b o e; omega), f1, f2, f3⟩
theorem RdSt.ext {w w' : World} {b : Nat} {v : Value} {s : St} (h : RdSt w b v s) (E : Ext w w') : RdSt w' b v s := h.mod (E.mod (fun _ => False)) (fun _ h => h.elim)
/-- The value of a state, in three. -/
theorem RdSt.val {w : World} {b : Nat} {v : Value} {s : St} (h : RdSt w b v s) : ∃ A1 n1 c1 A2 n2 c2 A3 n3 c3, v = .agg #[.slice A1 n1 c1, .slice A2 n2 c2, .slice A3 n3 c3] := by
  obtain ⟨A1, n1, c1, A2, n2, c2, A3, n3, c3, e, -⟩ := h.ex
  exact ⟨_, _, _, _, _, _, _, _, _, e⟩
end Go.Proofs.YtgajbgdkgelkgaaGreat
