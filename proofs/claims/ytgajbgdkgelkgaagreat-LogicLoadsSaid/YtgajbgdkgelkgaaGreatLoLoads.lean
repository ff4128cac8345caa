/- Layer 17: what stands, loaded into another core, stands there; what may not be changes nothing. Printed by gen/loloads.py (under way). -/
import Derived.Test.YtgajbgdkgelkgaaGreatLoOk
namespace Go.Proofs.YtgajbgdkgelkgaaGreat
open Go.RowKit

set_option maxRecDepth 100000 in
set_option maxHeartbeats 12800000 in
theorem logicLoads_any (m : Mx) (A : Option Addr) (n c : Nat) (ps : List Op17) (A1 : Option Addr) (n1 c1 : Nat) (A2 : Option Addr) (n2 c2 : Nat) (A3 : Option Addr) (n3 c3 : Nat) (st : St) (w : World) (ok : OkMx w w.heap.size m) (hx : OpsIn w A n ps) (hnc : n ≤ c ∧ c ≤ maxLen) (g1 : n1 ≤ c1 ∧ c1 ≤ maxLen) (g2 : n2 ≤ c2 ∧ c2 ≤ maxLen) (g3 : n3 ≤ c3 ∧ c3 ≤ maxLen)
    (r1 : RdC ltCells 3 w w.heap.size A1 n1 st.1) (r2 : RdC ltCells 3 w w.heap.size A2 n2 st.2.1) (r3 : RdI w w.heap.size .i64 A3 n3 st.2.2) (hz : n1 ≤ 140737488351232 ∧ n2 ≤ 140737488351232 ∧ n3 ≤ 140737488351232) :
    Calls Tryz.prog 7 #[m.val, .slice A n c, .agg #[.slice A1 n1 c1, .slice A2 n2 c2, .slice A3 n3 c3]] w fun e w' => e = .returned (.bool true) ∧ Ext w w' := by
  have hnm : n ≤ maxLen := Nat.le_trans hnc.1 hnc.2
  have hnm' := Lib.hid hnm
  unfold maxLen at hnm
  have E0 := ((Ext.refl w).goA (.cells m.arr 27)).goA (.cells #[.slice A1 n1 c1, .slice A2 n2 c2, .slice A3 n3 c3] 50)
  have B0 := (((Ext.refl (w.alloc (.cells m.arr 27))).goA (.cells #[.slice A1 n1 c1, .slice A2 n2 c2, .slice A3 n3 c3] 50)).block w.heap.size (by simp)).trans (heap_alloc_new w (.cells m.arr 27))
  have C0 := heap_alloc_new (w.alloc (.cells m.arr 27)) (.cells #[.slice A1 n1 c1, .slice A2 n2 c2, .slice A3 n3 c3] 50)
  have S1 : (w.alloc (.cells m.arr 27)).heap.size = w.heap.size + 1 := by simp
  rw [S1] at C0
  have S0 : ((w.alloc (.cells m.arr 27)).alloc (.cells #[.slice A1 n1 c1, .slice A2 n2 c2, .slice A3 n3 c3] 50)).heap.size = w.heap.size + 2 := by simp
  have rs1 := Lib.hid (r1.ext E0)
  have rs2 := Lib.hid (r2.ext E0)
  have rs3 := Lib.hid (r3.ext E0)
  clear S1 r1 r2 r3
  have ok' := Lib.hid (ok.ext E0)
  have hx' := Lib.hid (hx.ext E0)
  have E0' := Lib.hid E0
  clear ok hx E0
  unfold Mx.val
  go_enter Tryz.func7, Tryz.ntmps7
  go_upto_region 1 with fail
  generalize (w.alloc (.cells m.arr 27)).alloc (.cells #[.slice A1 n1 c1, .slice A2 n2 c2, .slice A3 n3 c3] 50) = V at *
  have gV : w.heap.size < V.heap.size := by omega
  have gV1 : w.heap.size + 1 < V.heap.size := by omega
  have k0 : ∀ w', Ext V w' → w'.cell? ⟨w.heap.size, 0, none⟩ = some (.int .i64 m.rt) := fun w' E => cellsAt ((E.block _ gV).trans B0) 0
  have k1 : ∀ w', Ext V w' → w'.cell? ⟨w.heap.size, 1, none⟩ = some (.int .i64 m.wt) := fun w' E => cellsAt ((E.block _ gV).trans B0) 1
  have k2 : ∀ w', Ext V w' → w'.cell? ⟨w.heap.size, 2, none⟩ = some (.int .i64 m.bk) := fun w' E => cellsAt ((E.block _ gV).trans B0) 2
  have k3 : ∀ w', Ext V w' → w'.cell? ⟨w.heap.size, 3, none⟩ = some (.int .i64 m.cy) := fun w' E => cellsAt ((E.block _ gV).trans B0) 3
  have k4 : ∀ w', Ext V w' → w'.cell? ⟨w.heap.size, 4, none⟩ = some (.string m.key) := fun w' E => cellsAt ((E.block _ gV).trans B0) 4
  have k5 : ∀ w', Ext V w' → w'.cell? ⟨w.heap.size, 5, none⟩ = some (.slice m.Ad m.nd m.cd) := fun w' E => cellsAt ((E.block _ gV).trans B0) 5
  have k6 : ∀ w', Ext V w' → w'.cell? ⟨w.heap.size, 6, none⟩ = some (.slice m.Ap m.np m.cp) := fun w' E => cellsAt ((E.block _ gV).trans B0) 6
  have k7 : ∀ w', Ext V w' → w'.cell? ⟨w.heap.size, 7, none⟩ = some (.slice m.Ac m.nc m.cc) := fun w' E => cellsAt ((E.block _ gV).trans B0) 7
  have k8 : ∀ w', Ext V w' → w'.cell? ⟨w.heap.size, 8, none⟩ = some (.slice m.Ae m.ne m.ce) := fun w' E => cellsAt ((E.block _ gV).trans B0) 8
  have l0 : ∀ w', Ext V w' → w'.cell? ⟨w.heap.size + 1, 0, none⟩ = some (.slice A1 n1 c1) := fun w' E => cellsAt ((E.block _ gV1).trans C0) 0
  have l1 : ∀ w', Ext V w' → w'.cell? ⟨w.heap.size + 1, 1, none⟩ = some (.slice A2 n2 c2) := fun w' E => cellsAt ((E.block _ gV1).trans C0) 1
  have l2 : ∀ w', Ext V w' → w'.cell? ⟨w.heap.size + 1, 2, none⟩ = some (.slice A3 n3 c3) := fun w' E => cellsAt ((E.block _ gV1).trans C0) 2
  have B0' := Lib.hid B0
  clear B0
  go_upto_region 2 with (go_at_call 8; refine (head17_any _).mono ?_; rintro e W1 ⟨rfl, X1⟩)
  have C0' := Lib.hid C0
  clear C0
  cases hR : rightM m with
  | false =>
    go_upto_region 3 with (go_at_call 9; refine (coNew_any m _ (ok'.out.ext X1)).mono ?_; rintro e W2 hN; obtain ⟨-, rfl, X2⟩ := hN.resolve_right (fun h => by rw [hR] at h; cases h.1))
    have X12 := X1.go X2
    go_wp2_with (go_at_call 9; refine (coNew_any m _ (ok'.out.ext X12)).mono ?_; rintro e W3 hN3; obtain ⟨-, rfl, X3⟩ := hN3.resolve_right (fun h => by rw [hR] at h; cases h.1))
    go_ret
    exact ⟨rfl, (E0'.out.go X12).go X3⟩
  | true =>
  go_upto_region 3 with (go_at_call 9; refine (coNew_any m _ (ok'.out.ext X1)).mono ?_; rintro e W2 hN; obtain ⟨-, base, B, K, M, rfl, hK, hS, X2, hb0, hlt⟩ := hN.resolve_left (fun h => by rw [hR] at h; cases h.1))
  have X12 : Ext V W2 := X1.go X2
  go_upto_region 4 with (go_at_call 9; refine (coNew_any m _ (ok'.out.ext X12)).mono ?_; rintro e W2b hN2; obtain ⟨-, baseD, BD, KD, MD, rfl, hKD, hSD, X2b, hb0D, hltD⟩ := hN2.resolve_left (fun h => by rw [hR] at h; cases h.1))
  have Y2 : Ext V W2b := X12.go X2b
  have hRM : Hid (rightM M = true) := Lib.hid (hS.right.trans hR)
  have hRD : Hid (rightM MD = true) := Lib.hid (hSD.right.trans hR)
  have hold : ∀ b, K.mut M.np b → b < W2.heap.size := fun b hb => hK.old hb
  have hK' := Lib.hid (hK.ext X2b)
  have hD' := Lib.hid hKD
  have hgr : Hid (MD.cas.map groupOf = M.cas.map groupOf ∧ MD.efs.length = M.efs.length) := Lib.hid (by
    have h1 := hSD.cas.trans hS.cas.symm
    have h2 := hSD.efs.trans hS.efs.symm
    have e1 : ∀ q : Mx, q.cas.map groupOf = (q.cas.map Ca.strip).map groupOf := fun q => by rw [List.map_map]; rfl
    exact ⟨by rw [e1 MD, e1 M, h1], by have := congrArg List.length h2; simpa using this⟩)
  have hap : Hid (∀ b, K.mut M.np b → b < W2.heap.size) := Lib.hid hold
  have hDV : V.heap.size ≤ W2.heap.size := X12.size
  have hDlo : Hid (W2.heap.size ≤ baseD ∧ ∀ b, KD.mut MD.np b → W2.heap.size ≤ b) := Lib.hid ⟨hb0D, hltD⟩
  have hKV : Hid (∀ b, K.mut M.np b → V.heap.size ≤ b) := Lib.hid fun b hb => Nat.le_trans X1.size (hlt b hb)
  clear hK hS hb0 hlt X2 hKD hSD hb0D hltD X2b hN hN2 hold
  go_wp2_with fail
  refine (great08_any m _ (ok'.out.ext Y2)).mono ?_
  rintro e W3 ⟨⟨b3, rfl⟩, X3⟩
  have Y3 : Ext V W3 := Y2.go X3
  cases b3 with
  | true =>
    go_wp2_with fail
    go_ret
    exact ⟨rfl, E0'.out.go Y3⟩
  | false =>
  go_wp2_with fail
  refine (great17_any A n c ps _ (hx'.out.ext Y3).rd hnm'.out).mono ?_
  rintro e W4 ⟨⟨b4, rfl, hg4⟩, X4⟩
  have Y4 : Ext V W4 := Y3.go X4
  cases b4 with
  | true =>
    go_wp2_with fail
    go_ret
    exact ⟨rfl, E0'.out.go Y4⟩
  | false =>
  have hn150 : n ≤ 150 := hg4 rfl
  clear hg4
  have wz1 : IntKind.i64.wrap ((n1 : Int) + (n2 : Int)) = (n1 : Int) + (n2 : Int) := by rw [IntKind.wrap_i64]; omega
  have wz2 : IntKind.i64.wrap ((n1 : Int) + (n2 : Int) + (n3 : Int)) = (n1 : Int) + (n2 : Int) + (n3 : Int) := by rw [IntKind.wrap_i64]; omega
  by_cases h3 : 300 < n1 + n2 + n3
  · have d3 : decide ((300 : Int) < (n1 : Int) + (n2 : Int) + (n3 : Int)) = true := by simp; omega
    go_wp2_with fail
    go_ret
    exact ⟨rfl, E0'.out.go Y4⟩
  have d3 : decide ((300 : Int) < (n1 : Int) + (n2 : Int) + (n3 : Int)) = false := by simp; omega
  have HK4 := Lib.hid ((hK'.out.ext X3).ext X4)
  have HD4 := Lib.hid ((hD'.out.ext X3).ext X4)
  have hx4 := Lib.hid (hx'.out.ext Y4)
  have hKW : Hid (∀ b, K.mut M.np b → b < W4.heap.size) := Lib.hid fun b hb => HK4.out.old hb
  have Y4' := Lib.hid Y4
  clear X1 X3 X4 Y2 Y3 hK' hD'
  go_wp2_with fail
  go_loopw [10] (fun i wr => ∃ (k : Nat) (cc : Co), k ≤ n ∧ i = .int .i64 k ∧ CoOk M cc ∧ HasK wr base B (100 * k) K M cc ∧ Mod (K.mut M.np) W4 wr) (fun i _ => n - (intOf i).toNat)
  case atStart => exact ⟨0, newC M, by omega, rfl, CoOk.new M, HK4.out, Mod.refl _ _⟩
  case round =>
    obtain ⟨k, co, hkn, rfl, hCo, hH, hM⟩ := hrel
    have hCo' := Lib.hid hCo
    have hH' := Lib.hid hH
    have hM' := Lib.hid hM
    have hsz := hM.size
    clear hH hM hCo
    by_cases hlt : k < n
    · have e3 : (k : Int) < (n : Int) := by omega
      obtain ⟨p, b1, o1, hp, hA, hb1, okp, hcc, hpb⟩ := (hx'.out).at_ (S := fun b => V.heap.size ≤ b) (((Y4'.out.mod _).trans (hM'.out.weak hKV.out))) (fun b hb => hb) hlt
      have okp' := Lib.hid okp
      have c0 : wr.cell? ⟨b1, o1 + k * 9, none⟩ = some (.int .i64 p.what) := hcc 0 (by decide)
      have c1 : wr.cell? ⟨b1, o1 + k * 9 + 1, none⟩ = some (.slice p.A p.n p.c) := hcc 1 (by decide)
      have c2 : wr.cell? ⟨b1, o1 + k * 9 + 2, none⟩ = some (.int .i64 p.now) := hcc 2 (by decide)
      have c3 : wr.cell? ⟨b1, o1 + k * 9 + 3, none⟩ = some (.int .i64 p.who) := hcc 3 (by decide)
      have c4 : wr.cell? ⟨b1, o1 + k * 9 + 4, none⟩ = some (.int .i64 p.tk) := hcc 4 (by decide)
      have c5 : wr.cell? ⟨b1, o1 + k * 9 + 5, none⟩ = some (.string p.key) := hcc 5 (by decide)
      have c6 : wr.cell? ⟨b1, o1 + k * 9 + 6, none⟩ = some (.slice p.A1 p.n1 p.c1) := hcc 6 (by decide)
      have c7 : wr.cell? ⟨b1, o1 + k * 9 + 7, none⟩ = some (.slice p.A2 p.n2 p.c2) := hcc 7 (by decide)
      have c8 : wr.cell? ⟨b1, o1 + k * 9 + 8, none⟩ = some (.slice p.A3 p.n3 p.c3) := hcc 8 (by decide)
      have hpb' := Lib.hid hpb
      rw [hA]
      clear hcc hp hA okp hpb
      go_wp2_with (go_at_call 16; refine (does_any base B (100 * k) K M co _ hH'.out hRM.out p okp'.out (fun h0 b o e hb => by have := hpb'.out b o h0 e; have := hKV.out b hb; omega) (by omega)).mono ?_; rintro e W5 ⟨A5, n5, c5_, rfl, -, -, -, -, v5⟩)
      go_roundw
      case rel => exact ⟨k + 1, _, by omega, by go_num, hCo'.out.does p, v5.1.mono (by omega), hM'.out.trans v5.2⟩
      case measure => simp [intOf] <;> omega
    · obtain rfl : k = n := by omega
      obtain ⟨X, hX⟩ : ∃ X, X = wr := ⟨_, rfl⟩
      subst hX
      have EX : Hid (Ext V X) := Lib.hid (Y4'.out.goM hM'.out hKV.out)
      have HDX := Lib.hid (HD4.out.mod hM'.out (fun b hb => ⟨fun h => by have := hap.out b hb; have := hDlo.out.2 b h; omega, fun h => by have := hap.out b hb; have := hDlo.out.1; omega⟩))
      obtain ⟨D1, hD1, hD2⟩ := loads_same hCo'.out (newC MD)
      rw [← loadC_same hgr.out.1 hgr.out.2] at hD1
      have hD1' := Lib.hid hD1
      have hD2' := Lib.hid hD2
      clear hD1 hD2
      go_upto_region 11 with (go_at_call 15; refine (coState_any base B _ K M co _ hH'.out).mono ?_; rintro e U1 ⟨v1, rfl, hs1, x1⟩; obtain ⟨aA, aAn, aAc, aB, aBn, aBc, aC, aCn, aCc, rfl, q1, q2, q3, s1, s2, s3, f1, f2, f3⟩ := hs1.ex)
      have EA := (Ext.refl U1).goA (.cells #[.slice aA aAn aAc, .slice aB aBn aBc, .slice aC aCn aCc] 50)
      have BA := heap_alloc_new U1 (.cells #[.slice aA aAn aAc, .slice aB aBn aBc, .slice aC aCn aCc] 50)
      have SA : (U1.alloc (.cells #[.slice aA aAn aAc, .slice aB aBn aBc, .slice aC aCn aCc] 50)).heap.size = U1.heap.size + 1 := by simp
      have hs2 := Lib.hid (hs1.ext EA)
      have t1 := Lib.hid (s1.ext EA)
      have t2 := Lib.hid (s2.ext EA)
      have t3 := Lib.hid (s3.ext EA)
      have HD2 := Lib.hid ((HDX.out.ext x1).ext EA)
      have E2 := Lib.hid ((EX.out.go x1).go EA)
      have hC8 : aCn ≤ 140737488351232 := by
        have h1 := s3.len
        have h2 : co.en.length = M.cas.length := hCo'.out.en
        have h3 := (right_parts hRM.out).2.2
        unfold sizesB at h3
        simp only [Bool.and_eq_true, decide_eq_true_eq] at h3
        have h4 : (stateC co).2.2.length = co.en.length := rfl
        omega
      have hgD : KD.g < X.heap.size := HDX.out.old (.inl rfl)
      have x1z := x1.size
      clear hs1 s1 s2 s3 EA
      generalize U1.alloc (.cells #[.slice aA aAn aAc, .slice aB aBn aBc, .slice aC aCn aCc] 50) = U2 at *
      have gA : U1.heap.size < U2.heap.size := by omega
      have w0 : ∀ w', Mod (fun b => b = KD.g) U2 w' → w'.cell? ⟨U1.heap.size, 0, none⟩ = some (.slice aA aAn aAc) := fun w' E => cellsAt ((E.block _ gA (by omega)).trans BA) 0
      have w1 : ∀ w', Mod (fun b => b = KD.g) U2 w' → w'.cell? ⟨U1.heap.size, 1, none⟩ = some (.slice aB aBn aBc) := fun w' E => cellsAt ((E.block _ gA (by omega)).trans BA) 1
      have w2 : ∀ w', Mod (fun b => b = KD.g) U2 w' → w'.cell? ⟨U1.heap.size, 2, none⟩ = some (.slice aC aCn aCc) := fun w' E => cellsAt ((E.block _ gA (by omega)).trans BA) 2
      have ED : Ext U2 U2.drew := (Ext.refl U2).god
      refine wp_region_held_drew (S := fun w' => Mod (fun b => b = KD.g) U2 w') (by kernel_rfl) (Mod.refl _ U2).drew (fun hHeld => ?_)
      refine wpAnyH_take (i := 0) (oi := _) (v := ?_) rfl (by kernel_rfl) (by kernel_rfl) (by kernel_rfl) (fun _ _ _ h => h) (Or.inl ⟨by rfl, ?_⟩) (by assumption) ?_
      rotate_left
      · intro w hSw
        (try dsimp only at hSw)
        go_simp
        try (with_reducible rfl)
      try simp only [Act.put, List.getElem_toArray, List.getElem_cons_zero, List.setIfInBounds_toArray, List.set_cons_zero, List.set_cons_succ]
      refine wpAnyH_take (i := 1) (oi := _) (v := ?_) rfl (by kernel_rfl) (by kernel_rfl) (by kernel_rfl) (fun _ _ _ h => h) (Or.inl ⟨by rfl, ?_⟩) (by assumption) ?_
      rotate_left
      · intro w hSw
        (try dsimp only at hSw)
        go_simp
        try (with_reducible rfl)
      try simp only [Act.put, List.getElem_toArray, List.getElem_cons_succ, List.getElem_cons_zero, List.setIfInBounds_toArray, List.set_cons_zero, List.set_cons_succ]
      refine wpAnyH_ready (rs := [2]) (by kernel_rfl) (by simp) ?_
      refine AllReadyH.cons rfl (fun Kz hKz => ?_) ?_
      rotate_left
      · exact AllReadyH.nil
      go_simp
      go_at_call 20
      refine (coLoad_any baseD BD 0 KD MD (newC MD) _ (HD2.out.ext ED) hRD.out _ _ _ _ _ _ _ _ _ (stateC co) q1 q2 (t1.out.ext ED) (t2.out.ext ED) (t3.out.ext ED) hC8).mono ?_
      rintro e U3 hL
      obtain ⟨D2, cg, cl, cf, cs, eg, el, ef, es, tg, tl, tm, hl1, rfl, HD3, ML, -⟩ := hL.resolve_left (fun h => by rw [hD1'.out] at h; cases h.1)
      have hDD : stateC D2 = stateC co := (by rw [hD1'.out] at hl1; cases hl1; exact hD2'.out)
      have ML2 : Mod (fun b => b = KD.g) U2 U3 := (ED.mod _).trans ML
      have hHeld := ML2
      try dsimp only
      refine hKz.out _ _ ?_ (fun hHeld => ?_)
      · first | assumption | (dsimp only; assumption)
      clear hKz Kz
      try simp only [Act.put, List.getElem_toArray, List.getElem_cons_succ, List.getElem_cons_zero, List.setIfInBounds_toArray, List.set_cons_zero, List.set_cons_succ]
      have HD3' := Lib.hid HD3
      have hs3 := Lib.hid (hs2.out.mod ML2 (fun i hi => by omega))
      clear HD3 ML
      refine wpAnyH_take (i := 3) (oi := _) (v := ?_) rfl (by kernel_rfl) (by kernel_rfl) (by kernel_rfl) (fun _ _ _ h => h) (Or.inl ⟨by rfl, ?_⟩) (by assumption) ?_
      rotate_left
      · intro w hSw
        (try dsimp only at hSw)
        go_simp
        try (with_reducible rfl)
      try simp only [Act.put, List.getElem_toArray, List.getElem_cons_succ, List.getElem_cons_zero, List.setIfInBounds_toArray, List.set_cons_zero, List.set_cons_succ]
      refine wpAnyH_take (i := 4) (oi := _) (v := ?_) rfl (by kernel_rfl) (by kernel_rfl) (by kernel_rfl) (fun _ _ _ h => h) (Or.inl ⟨by rfl, ?_⟩) (by assumption) ?_
      rotate_left
      · intro w hSw
        (try dsimp only at hSw)
        go_simp
        try (with_reducible rfl)
      try simp only [Act.put, List.getElem_toArray, List.getElem_cons_succ, List.getElem_cons_zero, List.setIfInBounds_toArray, List.set_cons_zero, List.set_cons_succ]
      refine wpAnyH_take (i := 5) (oi := _) (v := ?_) rfl (by kernel_rfl) (by kernel_rfl) (by kernel_rfl) (fun _ _ _ h => h) (Or.inl ⟨by rfl, ?_⟩) (by assumption) ?_
      rotate_left
      · intro w hSw
        (try dsimp only at hSw)
        go_simp
        try (with_reducible rfl)
      try simp only [Act.put, List.getElem_toArray, List.getElem_cons_succ, List.getElem_cons_zero, List.setIfInBounds_toArray, List.set_cons_zero, List.set_cons_succ]
      refine wpAnyH_take (i := 7) (oi := _) (v := ?_) rfl (by kernel_rfl) (by kernel_rfl) (by kernel_rfl) (fun _ _ _ h => h) (Or.inl ⟨by rfl, ?_⟩) (by assumption) ?_
      rotate_left
      · intro w hSw
        (try dsimp only at hSw)
        go_simp
        try (with_reducible rfl)
      try simp only [Act.put, List.getElem_toArray, List.getElem_cons_succ, List.getElem_cons_zero, List.setIfInBounds_toArray, List.set_cons_zero, List.set_cons_succ]
      refine wpAnyH_ready (rs := [6]) (by kernel_rfl) (by simp) ?_
      refine AllReadyH.cons rfl (fun Kz hKz => ?_) ?_
      rotate_left
      · exact AllReadyH.nil
      go_simp
      go_at_call 15
      refine (coState_any baseD BD _ (KD.with cg cl cf cs eg el ef es tg tl tm) MD D2 _ HD3'.out).mono ?_
      rintro e U4 ⟨v4, rfl, hs4, x4⟩
      rw [hDD] at hs4
      obtain ⟨b0, b1, b2, b3, b4, b5, b6, b7, b8, rfl⟩ := hs4.val
      have M4 : Mod (fun b => b = KD.g) U2 U4 := ML2.trans (x4.mod _)
      have hHeld := M4
      try dsimp only
      refine hKz.out _ _ ?_ (fun hHeld => ?_)
      · first | assumption | (dsimp only; assumption)
      clear hKz Kz
      try simp only [Act.put, List.getElem_toArray, List.getElem_cons_succ, List.getElem_cons_zero, List.setIfInBounds_toArray, List.set_cons_zero, List.set_cons_succ]
      refine wpAnyH_ready (rs := [8]) (by kernel_rfl) (by simp) ?_
      refine AllReadyH.cons rfl (fun Kz hKz => ?_) ?_
      rotate_left
      · exact AllReadyH.nil
      go_simp
      go_at_call 17
      refine (sameState_any _ _ _ _ (stateC co) (stateC co) _ hs4 (hs3.out.ext x4)).mono ?_
      rintro e U5 ⟨rfl, x5⟩
      have M5 : Mod (fun b => b = KD.g) U2 U5 := M4.trans (x5.mod _)
      have hHeld := M5
      rw [show decide (stateC co = stateC co) = true from decide_eq_true rfl]
      try dsimp only
      refine hKz.out _ _ ?_ (fun hHeld => ?_)
      · first | assumption | (dsimp only; assumption)
      clear hKz Kz
      try simp only [Act.put, List.getElem_toArray, List.getElem_cons_succ, List.getElem_cons_zero, List.setIfInBounds_toArray, List.set_cons_zero, List.set_cons_succ]
      refine wpAnyH_take (i := 9) (oi := _) (v := ?_) rfl (by kernel_rfl) (by kernel_rfl) (by kernel_rfl) (fun _ _ _ h => h) (Or.inl ⟨by rfl, ?_⟩) (by assumption) ?_
      rotate_left
      · intro w hSw
        (try dsimp only at hSw)
        go_simp
        try (with_reducible rfl)
      try simp only [Act.put, List.getElem_toArray, List.getElem_cons_succ, List.getElem_cons_zero, List.setIfInBounds_toArray, List.set_cons_zero, List.set_cons_succ]
      refine wpAnyH_take (i := 10) (oi := _) (v := ?_) rfl (by kernel_rfl) (by kernel_rfl) (by kernel_rfl) (fun _ _ _ h => h) (Or.inl ⟨by rfl, ?_⟩) (by assumption) ?_
      rotate_left
      · intro w hSw
        (try dsimp only at hSw)
        go_simp
        try (with_reducible rfl)
      try simp only [Act.put, List.getElem_toArray, List.getElem_cons_succ, List.getElem_cons_zero, List.setIfInBounds_toArray, List.set_cons_zero, List.set_cons_succ]
      refine wpAnyH_done (by kernel_rfl) ?_ _
      clear hHeld w0 w1 w2
      have E5 : Ext V U5 := E2.out.goM M5 (fun i hi => by have := hDlo.out.2 _ (show KD.mut MD.np KD.g from .inl rfl); have := hDV; omega)
      have HD5 := Lib.hid ((HD3'.out.ext x4).ext x5)
      have y1 := Lib.hid (rs1.out.ext E5)
      have y2 := Lib.hid (rs2.out.ext E5)
      have y3 := Lib.hid (rs3.out.ext E5)
      have gld := Lib.hid (coLoad_any baseD BD _ (KD.with cg cl cf cs eg el ef es tg tl tm) MD D2 _ HD5.out hRD.out A1 A2 A3 n1 c1 n2 c2 n3 c3 st g1 g2 y1.out y2.out y3.out hz.2.2)
      go_wp2_with fail
      refine gld.out.mono ?_
      rintro e U6 hL6
      rcases hL6 with ⟨-, rfl, HD6, x6⟩ | ⟨D3, dg, dl_, df, ds, ig, il, if_, is_, ug, ul, um, hl3, rfl, HD6, M6, -⟩
      · have M56 : Mod (fun b => b = KD.g) U2 U6 := M5.trans (x6.mod _)
        have BA6 := (M56.block _ gA (by omega)).trans BA
        have gA6 := lt_of_block BA6
        have hs6 := Lib.hid ((hs2.out.mod M5 (fun i hi => by omega)).ext x6)
        have w0 : ∀ w', Ext U6 w' → w'.cell? ⟨U1.heap.size, 0, none⟩ = some (.slice aA aAn aAc) := fun w' E => cellsAt ((E.block _ gA6).trans BA6) 0
        have w1 : ∀ w', Ext U6 w' → w'.cell? ⟨U1.heap.size, 1, none⟩ = some (.slice aB aBn aBc) := fun w' E => cellsAt ((E.block _ gA6).trans BA6) 1
        have w2 : ∀ w', Ext U6 w' → w'.cell? ⟨U1.heap.size, 2, none⟩ = some (.slice aC aCn aCc) := fun w' E => cellsAt ((E.block _ gA6).trans BA6) 2
        go_upto_region 15 with fail
        refine wp_region_held_drew (S := fun w' => Ext U6 w') (by kernel_rfl) (Ext.refl U6).god (fun hHeld => ?_)
        refine wpAnyH_take (i := 0) (oi := _) (v := ?_) rfl (by kernel_rfl) (by kernel_rfl) (by kernel_rfl) (fun _ _ _ h => h) (Or.inl ⟨by rfl, ?_⟩) (by assumption) ?_
        rotate_left
        · intro w hSw
          (try dsimp only at hSw)
          go_simp
          try (with_reducible rfl)
        try simp only [Act.put, List.getElem_toArray, List.getElem_cons_zero, List.setIfInBounds_toArray, List.set_cons_zero, List.set_cons_succ]
        refine wpAnyH_take (i := 1) (oi := _) (v := ?_) rfl (by kernel_rfl) (by kernel_rfl) (by kernel_rfl) (fun _ _ _ h => h) (Or.inl ⟨by rfl, ?_⟩) (by assumption) ?_
        rotate_left
        · intro w hSw
          (try dsimp only at hSw)
          go_simp
          try (with_reducible rfl)
        try simp only [Act.put, List.getElem_toArray, List.getElem_cons_succ, List.getElem_cons_zero, List.setIfInBounds_toArray, List.set_cons_zero, List.set_cons_succ]
        refine wpAnyH_take (i := 2) (oi := _) (v := ?_) rfl (by kernel_rfl) (by kernel_rfl) (by kernel_rfl) (fun _ _ _ h => h) (Or.inl ⟨by rfl, ?_⟩) (by assumption) ?_
        rotate_left
        · intro w hSw
          (try dsimp only at hSw)
          go_simp
          try (with_reducible rfl)
        try simp only [Act.put, List.getElem_toArray, List.getElem_cons_succ, List.getElem_cons_zero, List.setIfInBounds_toArray, List.set_cons_zero, List.set_cons_succ]
        refine wpAnyH_take (i := 4) (oi := _) (v := ?_) rfl (by kernel_rfl) (by kernel_rfl) (by kernel_rfl) (fun _ _ _ h => h) (Or.inl ⟨by rfl, ?_⟩) (by assumption) ?_
        rotate_left
        · intro w hSw
          (try dsimp only at hSw)
          go_simp
          try (with_reducible rfl)
        try simp only [Act.put, List.getElem_toArray, List.getElem_cons_succ, List.getElem_cons_zero, List.setIfInBounds_toArray, List.set_cons_zero, List.set_cons_succ]
        refine wpAnyH_ready (rs := [3]) (by kernel_rfl) (by simp) ?_
        refine AllReadyH.cons rfl (fun Kz hKz => ?_) ?_
        rotate_left
        · exact AllReadyH.nil
        go_simp
        go_at_call 15
        refine (coState_any baseD BD _ (KD.with cg cl cf cs eg el ef es tg tl tm) MD D2 _ (HD6.ext hHeld)).mono ?_
        rintro e U7 ⟨v7, rfl, hs7, x7⟩
        rw [hDD] at hs7
        obtain ⟨d0, d1, d2, d3, d4, d5, d6, d7, d8, rfl⟩ := hs7.val
        have XX := hHeld.go x7
        have hHeld := XX
        try dsimp only
        refine hKz.out _ _ ?_ (fun hHeld => ?_)
        · first | assumption | (dsimp only; assumption)
        clear hKz Kz
        try simp only [Act.put, List.getElem_toArray, List.getElem_cons_succ, List.getElem_cons_zero, List.setIfInBounds_toArray, List.set_cons_zero, List.set_cons_succ]
        refine wpAnyH_ready (rs := [5]) (by kernel_rfl) (by simp) ?_
        refine AllReadyH.cons rfl (fun Kz hKz => ?_) ?_
        rotate_left
        · exact AllReadyH.nil
        go_simp
        go_at_call 17
        refine (sameState_any _ _ _ _ (stateC co) (stateC co) _ hs7 (hs6.out.ext XX)).mono ?_
        rintro e U8 ⟨rfl, x8⟩
        have hHeld := XX.go x8
        rw [show decide (stateC co = stateC co) = true from decide_eq_true rfl]
        try dsimp only
        refine hKz.out _ _ ?_ (fun hHeld => ?_)
        · first | assumption | (dsimp only; assumption)
        clear hKz Kz
        try simp only [Act.put, List.getElem_toArray, List.getElem_cons_succ, List.getElem_cons_zero, List.setIfInBounds_toArray, List.set_cons_zero, List.set_cons_succ]
        refine wpAnyH_take (i := 6) (oi := _) (v := ?_) rfl (by kernel_rfl) (by kernel_rfl) (by kernel_rfl) (fun _ _ _ h => h) (Or.inl ⟨by rfl, ?_⟩) (by assumption) ?_
        rotate_left
        · intro w hSw
          (try dsimp only at hSw)
          go_simp
          try (with_reducible rfl)
        try simp only [Act.put, List.getElem_toArray, List.getElem_cons_succ, List.getElem_cons_zero, List.setIfInBounds_toArray, List.set_cons_zero, List.set_cons_succ]
        refine wpAnyH_take (i := 7) (oi := _) (v := ?_) rfl (by kernel_rfl) (by kernel_rfl) (by kernel_rfl) (fun _ _ _ h => h) (Or.inl ⟨by rfl, ?_⟩) (by assumption) ?_
        rotate_left
        · intro w hSw
          (try dsimp only at hSw)
          go_simp
          try (with_reducible rfl)
        try simp only [Act.put, List.getElem_toArray, List.getElem_cons_succ, List.getElem_cons_zero, List.setIfInBounds_toArray, List.set_cons_zero, List.set_cons_succ]
        refine wpAnyH_done (by kernel_rfl) ?_ _
        go_wp2_with fail
        go_ret
        exact ⟨rfl, E0'.out.go ((E5.go x6).go hHeld)⟩
      · have E6 : Ext V U6 := E5.goM M6 (fun i hi => by have := hDlo.out.2 _ (show KD.mut MD.np KD.g from .inl rfl); have h9 : i = KD.g := hi; have := hDV; omega)
        have h3s : stateC D3 = st := loads_any hl3
        have z1 := E6.size
        have hst : Hid (RdSt U6 0 (.agg #[.slice A1 n1 c1, .slice A2 n2 c2, .slice A3 n3 c3]) st) := Lib.hid ⟨⟨A1, n1, c1, A2, n2, c2, A3, n3, c3, rfl, g1, g2, g3, rs1.out.ext E6, rs2.out.ext E6, rs3.out.ext E6, (fun b o e => Nat.zero_le _), (fun b o e => Nat.zero_le _), (fun b o e => Nat.zero_le _)⟩⟩
        have w0 : ∀ w', Ext U6 w' → w'.cell? ⟨w.heap.size + 1, 0, none⟩ = some (.slice A1 n1 c1) := fun w' E => l0 w' (E6.go E)
        have w1 : ∀ w', Ext U6 w' → w'.cell? ⟨w.heap.size + 1, 1, none⟩ = some (.slice A2 n2 c2) := fun w' E => l1 w' (E6.go E)
        have w2 : ∀ w', Ext U6 w' → w'.cell? ⟨w.heap.size + 1, 2, none⟩ = some (.slice A3 n3 c3) := fun w' E => l2 w' (E6.go E)
        go_upto_region 14 with fail
        refine wp_region_held_drew (S := fun w' => Ext U6 w') (by kernel_rfl) (Ext.refl U6).god (fun hHeld => ?_)
        refine wpAnyH_take (i := 0) (oi := _) (v := ?_) rfl (by kernel_rfl) (by kernel_rfl) (by kernel_rfl) (fun _ _ _ h => h) (Or.inl ⟨by rfl, ?_⟩) (by assumption) ?_
        rotate_left
        · intro w hSw
          (try dsimp only at hSw)
          go_simp
          try (with_reducible rfl)
        try simp only [Act.put, List.getElem_toArray, List.getElem_cons_zero, List.setIfInBounds_toArray, List.set_cons_zero, List.set_cons_succ]
        refine wpAnyH_take (i := 1) (oi := _) (v := ?_) rfl (by kernel_rfl) (by kernel_rfl) (by kernel_rfl) (fun _ _ _ h => h) (Or.inl ⟨by rfl, ?_⟩) (by assumption) ?_
        rotate_left
        · intro w hSw
          (try dsimp only at hSw)
          go_simp
          try (with_reducible rfl)
        try simp only [Act.put, List.getElem_toArray, List.getElem_cons_succ, List.getElem_cons_zero, List.setIfInBounds_toArray, List.set_cons_zero, List.set_cons_succ]
        refine wpAnyH_take (i := 2) (oi := _) (v := ?_) rfl (by kernel_rfl) (by kernel_rfl) (by kernel_rfl) (fun _ _ _ h => h) (Or.inl ⟨by rfl, ?_⟩) (by assumption) ?_
        rotate_left
        · intro w hSw
          (try dsimp only at hSw)
          go_simp
          try (with_reducible rfl)
        try simp only [Act.put, List.getElem_toArray, List.getElem_cons_succ, List.getElem_cons_zero, List.setIfInBounds_toArray, List.set_cons_zero, List.set_cons_succ]
        refine wpAnyH_take (i := 4) (oi := _) (v := ?_) rfl (by kernel_rfl) (by kernel_rfl) (by kernel_rfl) (fun _ _ _ h => h) (Or.inl ⟨by rfl, ?_⟩) (by assumption) ?_
        rotate_left
        · intro w hSw
          (try dsimp only at hSw)
          go_simp
          try (with_reducible rfl)
        try simp only [Act.put, List.getElem_toArray, List.getElem_cons_succ, List.getElem_cons_zero, List.setIfInBounds_toArray, List.set_cons_zero, List.set_cons_succ]
        refine wpAnyH_ready (rs := [3]) (by kernel_rfl) (by simp) ?_
        refine AllReadyH.cons rfl (fun Kz hKz => ?_) ?_
        rotate_left
        · exact AllReadyH.nil
        go_simp
        go_at_call 15
        refine (coState_any baseD BD _ ((KD.with cg cl cf cs eg el ef es tg tl tm).with dg dl_ df ds ig il if_ is_ ug ul um) MD D3 _ (HD6.ext hHeld)).mono ?_
        rintro e U7 ⟨v7, rfl, hs7, x7⟩
        rw [h3s] at hs7
        obtain ⟨d0, d1, d2, d3, d4, d5, d6, d7, d8, rfl⟩ := hs7.val
        have XX := hHeld.go x7
        have hHeld := XX
        try dsimp only
        refine hKz.out _ _ ?_ (fun hHeld => ?_)
        · first | assumption | (dsimp only; assumption)
        clear hKz Kz
        try simp only [Act.put, List.getElem_toArray, List.getElem_cons_succ, List.getElem_cons_zero, List.setIfInBounds_toArray, List.set_cons_zero, List.set_cons_succ]
        refine wpAnyH_ready (rs := [5]) (by kernel_rfl) (by simp) ?_
        refine AllReadyH.cons rfl (fun Kz hKz => ?_) ?_
        rotate_left
        · exact AllReadyH.nil
        go_simp
        go_at_call 17
        refine (sameState_any _ _ _ _ st st _ hs7 (hst.out.ext XX)).mono ?_
        rintro e U8 ⟨rfl, x8⟩
        have hHeld := XX.go x8
        rw [show decide (st = st) = true from decide_eq_true rfl]
        try dsimp only
        refine hKz.out _ _ ?_ (fun hHeld => ?_)
        · first | assumption | (dsimp only; assumption)
        clear hKz Kz
        try simp only [Act.put, List.getElem_toArray, List.getElem_cons_succ, List.getElem_cons_zero, List.setIfInBounds_toArray, List.set_cons_zero, List.set_cons_succ]
        refine wpAnyH_take (i := 6) (oi := _) (v := ?_) rfl (by kernel_rfl) (by kernel_rfl) (by kernel_rfl) (fun _ _ _ h => h) (Or.inl ⟨by rfl, ?_⟩) (by assumption) ?_
        rotate_left
        · intro w hSw
          (try dsimp only at hSw)
          go_simp
          try (with_reducible rfl)
        try simp only [Act.put, List.getElem_toArray, List.getElem_cons_succ, List.getElem_cons_zero, List.setIfInBounds_toArray, List.set_cons_zero, List.set_cons_succ]
        refine wpAnyH_take (i := 7) (oi := _) (v := ?_) rfl (by kernel_rfl) (by kernel_rfl) (by kernel_rfl) (fun _ _ _ h => h) (Or.inl ⟨by rfl, ?_⟩) (by assumption) ?_
        rotate_left
        · intro w hSw
          (try dsimp only at hSw)
          go_simp
          try (with_reducible rfl)
        try simp only [Act.put, List.getElem_toArray, List.getElem_cons_succ, List.getElem_cons_zero, List.setIfInBounds_toArray, List.set_cons_zero, List.set_cons_succ]
        refine wpAnyH_done (by kernel_rfl) ?_ _
        go_wp2_with fail
        go_ret
        exact ⟨rfl, E0'.out.go (E6.go hHeld)⟩
end Go.Proofs.YtgajbgdkgelkgaaGreat
