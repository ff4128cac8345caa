/- Layer 17: without the key a Reset answers an error, and changes nothing; with it a second one notes nothing. Printed by gen/lokey.py. -/
import Derived.Test.YtgajbgdkgelkgaaGreatG19
namespace Go.Proofs.YtgajbgdkgelkgaaGreat
open Go.RowKit

set_option maxRecDepth 100000 in
set_option maxHeartbeats 12800000 in
theorem logicKey_any (m : Mx) (A : Option Addr) (n c : Nat) (ps : List Op17) (key : ByteArray) (now : Int) (w : World) (ok : OkMx w w.heap.size m) (hx : OpsIn w A n ps) (hnc : n ≤ c ∧ c ≤ maxLen) (hk : key.size ≤ maxLen) (hnow : 0 ≤ now ∧ now ≤ 4294967295) :
    Calls Tryz.prog 6 #[m.val, .slice A n c, .string key, .int .u32 now] w fun e w' => e = .returned (.bool true) ∧ Ext w w' := by
  have hnm : n ≤ maxLen := Nat.le_trans hnc.1 hnc.2
  have hnm' := Lib.hid hnm
  unfold maxLen at hnm
  have B0 := heap_alloc_new w (.cells m.arr 27)
  have E0 := (Ext.refl w).goA (.cells m.arr 27)
  have S0 : (w.alloc (.cells m.arr 27)).heap.size = w.heap.size + 1 := by simp
  have ok' := Lib.hid (ok.ext E0)
  have hx' := Lib.hid (hx.ext E0)
  have E0' := Lib.hid E0
  clear ok hx E0
  unfold Mx.val
  go_enter Tryz.func6, Tryz.ntmps6
  go_upto_region 1 with fail
  generalize w.alloc (.cells m.arr 27) = V at *
  have gV : w.heap.size < V.heap.size := by omega
  have k0 : ∀ w', Ext V w' → w'.cell? ⟨w.heap.size, 0, none⟩ = some (.int .i64 m.rt) := fun w' E => cellsAt ((E.block _ gV).trans B0) 0
  have k1 : ∀ w', Ext V w' → w'.cell? ⟨w.heap.size, 1, none⟩ = some (.int .i64 m.wt) := fun w' E => cellsAt ((E.block _ gV).trans B0) 1
  have k2 : ∀ w', Ext V w' → w'.cell? ⟨w.heap.size, 2, none⟩ = some (.int .i64 m.bk) := fun w' E => cellsAt ((E.block _ gV).trans B0) 2
  have k3 : ∀ w', Ext V w' → w'.cell? ⟨w.heap.size, 3, none⟩ = some (.int .i64 m.cy) := fun w' E => cellsAt ((E.block _ gV).trans B0) 3
  have k4 : ∀ w', Ext V w' → w'.cell? ⟨w.heap.size, 4, none⟩ = some (.string m.key) := fun w' E => cellsAt ((E.block _ gV).trans B0) 4
  have k5 : ∀ w', Ext V w' → w'.cell? ⟨w.heap.size, 5, none⟩ = some (.slice m.Ad m.nd m.cd) := fun w' E => cellsAt ((E.block _ gV).trans B0) 5
  have k6 : ∀ w', Ext V w' → w'.cell? ⟨w.heap.size, 6, none⟩ = some (.slice m.Ap m.np m.cp) := fun w' E => cellsAt ((E.block _ gV).trans B0) 6
  have k7 : ∀ w', Ext V w' → w'.cell? ⟨w.heap.size, 7, none⟩ = some (.slice m.Ac m.nc m.cc) := fun w' E => cellsAt ((E.block _ gV).trans B0) 7
  have k8 : ∀ w', Ext V w' → w'.cell? ⟨w.heap.size, 8, none⟩ = some (.slice m.Ae m.ne m.ce) := fun w' E => cellsAt ((E.block _ gV).trans B0) 8
  have B0' := Lib.hid B0
  clear B0
  go_upto_region 2 with (go_at_call 8; refine (head17_any _).mono ?_; rintro e W1 ⟨rfl, X1⟩)
  cases hR : rightM m with
  | false =>
    go_wp2_with (go_at_call 9; refine (coNew_any m _ (ok'.out.ext X1)).mono ?_; rintro e W2 hN; obtain ⟨-, rfl, X2⟩ := hN.resolve_right (fun h => by rw [hR] at h; cases h.1))
    go_ret
    exact ⟨rfl, (E0'.out.go X1).go X2⟩
  | true =>
  go_upto_region 3 with (go_at_call 9; refine (coNew_any m _ (ok'.out.ext X1)).mono ?_; rintro e W2 hN; obtain ⟨-, base, B, K, M, rfl, hK, hS, X2, hb0, hlt⟩ := hN.resolve_left (fun h => by rw [hR] at h; cases h.1))
  have Y2 : Ext V W2 := X1.go X2
  have hRM : Hid (rightM M = true) := Lib.hid (hS.right.trans hR)
  have hMk : M.key = m.key := hS.key
  have hK' := Lib.hid hK
  have hMk' := Lib.hid hMk
  have hKV : Hid (∀ b, K.mut M.np b → V.heap.size ≤ b) := Lib.hid fun b hb => Nat.le_trans X1.size (hlt b hb)
  clear hK hS hb0 hlt hMk X2
  go_wp2_with fail
  refine (great08_any m _ (ok'.out.ext Y2)).mono ?_
  rintro e W3 ⟨⟨b3, rfl⟩, X3⟩
  have Y3 : Ext V W3 := Y2.go X3
  cases b3 with
  | true =>
    go_wp2_with fail
    go_ret
    exact ⟨rfl, E0'.out.go Y3⟩
  | false =>
  go_wp2_with fail
  refine (great17_any A n c ps _ (hx'.out.ext Y3).rd hnm'.out).mono ?_
  rintro e W4 ⟨⟨b4, rfl, hg4⟩, X4⟩
  have Y4 : Ext V W4 := Y3.go X4
  cases b4 with
  | true =>
    go_wp2_with fail
    go_ret
    exact ⟨rfl, E0'.out.go Y4⟩
  | false =>
  have hn150 : n ≤ 150 := hg4 rfl
  clear hg4
  by_cases h3 : 3000 < key.size
  · have d3 : decide ((3000 : Int) < (key.size : Int)) = true := by simp; omega
    go_wp2_with fail
    go_ret
    exact ⟨rfl, E0'.out.go Y4⟩
  have d3 : decide ((3000 : Int) < (key.size : Int)) = false := by simp; omega
  have HK4 := Lib.hid ((hK'.out.ext X3).ext X4)
  have hx4 := Lib.hid (hx'.out.ext Y4)
  have hKW : Hid (∀ b, K.mut M.np b → b < W4.heap.size) := Lib.hid fun b hb => HK4.out.old hb
  have Y4' := Lib.hid Y4
  clear X1 X3 X4 Y2 Y3 Y4 hK'
  go_wp2_with fail
  go_loopw [11] (fun i wr => ∃ (k : Nat) (cc : Co), k ≤ n ∧ i = .int .i64 k ∧ HasK wr base B (100 * k) K M cc ∧ Mod (K.mut M.np) W4 wr) (fun i _ => n - (intOf i).toNat)
  case atStart => exact ⟨0, newC M, by omega, rfl, HK4.out, Mod.refl _ _⟩
  case round =>
    obtain ⟨k, co, hkn, rfl, hH, hM⟩ := hrel
    have hH' := Lib.hid hH
    have hM' := Lib.hid hM
    have hsz := hM.size
    clear hH hM
    by_cases hlt : k < n
    · have e3 : (k : Int) < (n : Int) := by omega
      obtain ⟨p, b1, o1, hp, hA, hb1, okp, hcc, hpb⟩ := (hx'.out).at_ (S := fun b => V.heap.size ≤ b) (((Y4'.out.mod _).trans (hM'.out.weak hKV.out))) (fun b hb => hb) hlt
      have okp' := Lib.hid okp
      have c0 : wr.cell? ⟨b1, o1 + k * 9, none⟩ = some (.int .i64 p.what) := hcc 0 (by decide)
      have c1 : wr.cell? ⟨b1, o1 + k * 9 + 1, none⟩ = some (.slice p.A p.n p.c) := hcc 1 (by decide)
      have c2 : wr.cell? ⟨b1, o1 + k * 9 + 2, none⟩ = some (.int .i64 p.now) := hcc 2 (by decide)
      have c3 : wr.cell? ⟨b1, o1 + k * 9 + 3, none⟩ = some (.int .i64 p.who) := hcc 3 (by decide)
      have c4 : wr.cell? ⟨b1, o1 + k * 9 + 4, none⟩ = some (.int .i64 p.tk) := hcc 4 (by decide)
      have c5 : wr.cell? ⟨b1, o1 + k * 9 + 5, none⟩ = some (.string p.key) := hcc 5 (by decide)
      have c6 : wr.cell? ⟨b1, o1 + k * 9 + 6, none⟩ = some (.slice p.A1 p.n1 p.c1) := hcc 6 (by decide)
      have c7 : wr.cell? ⟨b1, o1 + k * 9 + 7, none⟩ = some (.slice p.A2 p.n2 p.c2) := hcc 7 (by decide)
      have c8 : wr.cell? ⟨b1, o1 + k * 9 + 8, none⟩ = some (.slice p.A3 p.n3 p.c3) := hcc 8 (by decide)
      have hpb' := Lib.hid hpb
      rw [hA]
      clear hcc hp hA okp hpb
      go_wp2_with (go_at_call 16; refine (does_any base B (100 * k) K M co _ hH'.out hRM.out p okp'.out (fun h0 b o e hb => by have := hpb'.out b o h0 e; have := hKV.out b hb; omega) (by omega)).mono ?_; rintro e W5 ⟨A5, n5, c5_, rfl, -, -, -, -, v5⟩)
      go_roundw
      case rel => exact ⟨k + 1, _, by omega, by go_num, v5.1.mono (by omega), hM'.out.trans v5.2⟩
      case measure => simp [intOf] <;> omega
    · obtain rfl : k = n := by omega
      have wnow : IntKind.i64.wrap now = now := by rw [IntKind.wrap_i64]; omega
      obtain ⟨X, hX⟩ : ∃ X, X = wr := ⟨_, rfl⟩
      subst hX
      have EX : Hid (Ext V X) := Lib.hid (Y4'.out.goM hM'.out hKV.out)
      have hcN : 100 * k ≤ 15000 := by omega
      go_upto_region 10 with (go_at_call 15; refine (coState_any base B _ K M co _ hH'.out).mono ?_; rintro e U1 ⟨v1, rfl, hs1, x1⟩; obtain ⟨aA, aAn, aAc, aB, aBn, aBc, aC, aCn, aCc, rfl⟩ := hs1.val)
      have EA := (Ext.refl U1).goA (.cells #[.slice aA aAn aAc, .slice aB aBn aBc, .slice aC aCn aCc] 50)
      have BA := heap_alloc_new U1 (.cells #[.slice aA aAn aAc, .slice aB aBn aBc, .slice aC aCn aCc] 50)
      have SA : (U1.alloc (.cells #[.slice aA aAn aAc, .slice aB aBn aBc, .slice aC aCn aCc] 50)).heap.size = U1.heap.size + 1 := by simp
      have hs1' := Lib.hid (hs1.ext EA)
      have x1z := x1.size
      have H2 := Lib.hid ((hH'.out.ext x1).ext EA)
      have E2 := Lib.hid ((EX.out.go x1).go EA)
      clear hs1
      generalize U1.alloc (.cells #[.slice aA aAn aAc, .slice aB aBn aBc, .slice aC aCn aCc] 50) = U2 at *
      have gA : U1.heap.size < U2.heap.size := by omega
      have hlo : Hid (∀ b, K.mut M.np b → b < X.heap.size) := Lib.hid fun b hb => by have := hKW.out b hb; omega
      have hrs := Lib.hid (coReset_any base B (100 * k) K M co U2 H2.out hRM.out key now hk (by omega))
      have hkk : (rightB key && M.key.toList == (sumS key).toList) = (rightB key && m.key.toList == (sumS key).toList) := by rw [hMk'.out]
      rw [hkk] at hrs
      clear hkk EA SA
      cases hq : (rightB key && m.key.toList == (sumS key).toList) with
      | false =>
        rw [hq] at hrs
        have hrs2 : Hid (Calls Tryz.prog 18 #[.pointer (some ⟨K.g, 0, none⟩), .string key, .int .i64 now] U2 (NtsPost [] 161 U2 (CoAt base B (100 * k + 100) K M (K.mut M.np) U2 co))) := hrs
        clear hrs
        go_upto_region 11 with (go_at_call 18; refine hrs2.out.mono ?_; rintro e U3 ⟨A3, n3, c3, rfl, r1, r2, r3, r4, r5⟩; have hn3 : n3 = 0 := r3.len.symm; subst hn3)
        have M3 := r5.2
        have H3 := Lib.hid r5.1
        have E3 : Ext V U3 := E2.out.goM M3 hKV.out
        have BA3 := (M3.block U1.heap.size gA (fun hb => by have := hlo.out _ hb; omega)).trans BA
        have hs3 := Lib.hid (hs1'.out.mod M3 (fun i hi => by exact hlo.out i hi))
        clear r3 r4 r5 hrs2 BA
        go_upto_region 12 with (go_at_call 19; refine (refMatch_any _ _ _ hk).mono ?_; rintro e U4 ⟨rfl, x4⟩; rw [hq])
        have BA4 := (x4.block _ (lt_of_block BA3)).trans BA3
        have gA4 := lt_of_block BA4
        have l0 : ∀ w', Ext U4 w' → w'.cell? ⟨U1.heap.size, 0, none⟩ = some (.slice aA aAn aAc) := fun w' E => cellsAt ((E.block _ gA4).trans BA4) 0
        have l1 : ∀ w', Ext U4 w' → w'.cell? ⟨U1.heap.size, 1, none⟩ = some (.slice aB aBn aBc) := fun w' E => cellsAt ((E.block _ gA4).trans BA4) 1
        have l2 : ∀ w', Ext U4 w' → w'.cell? ⟨U1.heap.size, 2, none⟩ = some (.slice aC aCn aCc) := fun w' E => cellsAt ((E.block _ gA4).trans BA4) 2
        refine wp_region_held_drew (S := fun w' => Ext U4 w') (by kernel_rfl) (Ext.refl U4).god (fun hHeld => ?_)
        refine wpAnyH_take (i := 0) (oi := _) (v := ?_) rfl (by kernel_rfl) (by kernel_rfl) (by kernel_rfl) (fun _ _ _ h => h) (Or.inl ⟨by rfl, ?_⟩) (by assumption) ?_
        rotate_left
        · intro w hSw
          (try dsimp only at hSw)
          go_simp
          try (with_reducible rfl)
        try simp only [Act.put, List.getElem_toArray, List.getElem_cons_zero, List.setIfInBounds_toArray, List.set_cons_zero, List.set_cons_succ]
        refine wpAnyH_take (i := 1) (oi := _) (v := ?_) rfl (by kernel_rfl) (by kernel_rfl) (by kernel_rfl) (fun _ _ _ h => h) (Or.inl ⟨by rfl, ?_⟩) (by assumption) ?_
        rotate_left
        · intro w hSw
          (try dsimp only at hSw)
          go_simp
          try (with_reducible rfl)
        try simp only [Act.put, List.getElem_toArray, List.getElem_cons_succ, List.getElem_cons_zero, List.setIfInBounds_toArray, List.set_cons_zero, List.set_cons_succ]
        refine wpAnyH_take (i := 2) (oi := _) (v := ?_) rfl (by kernel_rfl) (by kernel_rfl) (by kernel_rfl) (fun _ _ _ h => h) (Or.inl ⟨by rfl, ?_⟩) (by assumption) ?_
        rotate_left
        · intro w hSw
          (try dsimp only at hSw)
          go_simp
          try (with_reducible rfl)
        try simp only [Act.put, List.getElem_toArray, List.getElem_cons_succ, List.getElem_cons_zero, List.setIfInBounds_toArray, List.set_cons_zero, List.set_cons_succ]
        refine wpAnyH_take (i := 3) (oi := _) (v := ?_) rfl (by kernel_rfl) (by kernel_rfl) (by kernel_rfl) (fun _ _ _ h => h) (Or.inl ⟨by rfl, ?_⟩) (by assumption) ?_
        rotate_left
        · intro w hSw
          (try dsimp only at hSw)
          go_simp
          try (with_reducible rfl)
        try simp only [Act.put, List.getElem_toArray, List.getElem_cons_succ, List.getElem_cons_zero, List.setIfInBounds_toArray, List.set_cons_zero, List.set_cons_succ]
        refine wpAnyH_take (i := 4) (oi := _) (v := ?_) rfl (by kernel_rfl) (by kernel_rfl) (by kernel_rfl) (fun _ _ _ h => h) (Or.inl ⟨by rfl, ?_⟩) (by assumption) ?_
        rotate_left
        · intro w hSw
          (try dsimp only at hSw)
          go_simp
          try (with_reducible rfl)
        try simp only [Act.put, List.getElem_toArray, List.getElem_cons_succ, List.getElem_cons_zero, List.setIfInBounds_toArray, List.set_cons_zero, List.set_cons_succ]
        refine wpAnyH_take (i := 5) (oi := _) (v := ?_) rfl (by kernel_rfl) (by kernel_rfl) (by kernel_rfl) (fun _ _ _ h => h) (Or.inl ⟨by rfl, ?_⟩) (by assumption) ?_
        rotate_left
        · intro w hSw
          (try dsimp only at hSw)
          go_simp
          try (with_reducible rfl)
        try simp only [Act.put, List.getElem_toArray, List.getElem_cons_succ, List.getElem_cons_zero, List.setIfInBounds_toArray, List.set_cons_zero, List.set_cons_succ]
        refine wpAnyH_take (i := 6) (oi := _) (v := ?_) rfl (by kernel_rfl) (by kernel_rfl) (by kernel_rfl) (fun _ _ _ h => h) (Or.inl ⟨by rfl, ?_⟩) (by assumption) ?_
        rotate_left
        · intro w hSw
          (try dsimp only at hSw)
          go_simp
          try (with_reducible rfl)
        try simp only [Act.put, List.getElem_toArray, List.getElem_cons_succ, List.getElem_cons_zero, List.setIfInBounds_toArray, List.set_cons_zero, List.set_cons_succ]
        refine wpAnyH_take (i := 7) (oi := _) (v := ?_) rfl (by kernel_rfl) (by kernel_rfl) (by kernel_rfl) (fun _ _ _ h => h) (Or.inl ⟨by rfl, ?_⟩) (by assumption) ?_
        rotate_left
        · intro w hSw
          (try dsimp only at hSw)
          go_simp
          try (with_reducible rfl)
        try simp only [Act.put, List.getElem_toArray, List.getElem_cons_succ, List.getElem_cons_zero, List.setIfInBounds_toArray, List.set_cons_zero, List.set_cons_succ]
        refine wpAnyH_take (i := 8) (oi := _) (v := ?_) rfl (by kernel_rfl) (by kernel_rfl) (by kernel_rfl) (fun _ _ _ h => h) (Or.inl ⟨by rfl, ?_⟩) (by assumption) ?_
        rotate_left
        · intro w hSw
          (try dsimp only at hSw)
          go_simp
          try (with_reducible rfl)
        try simp only [Act.put, List.getElem_toArray, List.getElem_cons_succ, List.getElem_cons_zero, List.setIfInBounds_toArray, List.set_cons_zero, List.set_cons_succ]
        refine wpAnyH_take (i := 9) (oi := _) (v := ?_) rfl (by kernel_rfl) (by kernel_rfl) (by kernel_rfl) (fun _ _ _ h => h) (Or.inl ⟨by rfl, ?_⟩) (by assumption) ?_
        rotate_left
        · intro w hSw
          (try dsimp only at hSw)
          go_simp
          try (with_reducible rfl)
        try simp only [Act.put, List.getElem_toArray, List.getElem_cons_succ, List.getElem_cons_zero, List.setIfInBounds_toArray, List.set_cons_zero, List.set_cons_succ]
        refine wpAnyH_take (i := 10) (oi := _) (v := ?_) rfl (by kernel_rfl) (by kernel_rfl) (by kernel_rfl) (fun _ _ _ h => h) (Or.inl ⟨by rfl, ?_⟩) (by assumption) ?_
        rotate_left
        · intro w hSw
          (try dsimp only at hSw)
          go_simp
          try (with_reducible rfl)
        try simp only [Act.put, List.getElem_toArray, List.getElem_cons_succ, List.getElem_cons_zero, List.setIfInBounds_toArray, List.set_cons_zero, List.set_cons_succ]
        refine wpAnyH_take (i := 11) (oi := _) (v := ?_) rfl (by kernel_rfl) (by kernel_rfl) (by kernel_rfl) (fun _ _ _ h => h) (Or.inl ⟨by rfl, ?_⟩) (by assumption) ?_
        rotate_left
        · intro w hSw
          (try dsimp only at hSw)
          go_simp
          try (with_reducible rfl)
        try simp only [Act.put, List.getElem_toArray, List.getElem_cons_succ, List.getElem_cons_zero, List.setIfInBounds_toArray, List.set_cons_zero, List.set_cons_succ]
        refine wpAnyH_take (i := 13) (oi := _) (v := ?_) rfl (by kernel_rfl) (by kernel_rfl) (by kernel_rfl) (fun _ _ _ h => h) (Or.inl ⟨by rfl, ?_⟩) (by assumption) ?_
        rotate_left
        · intro w hSw
          (try dsimp only at hSw)
          go_simp
          try (with_reducible rfl)
        try simp only [Act.put, List.getElem_toArray, List.getElem_cons_succ, List.getElem_cons_zero, List.setIfInBounds_toArray, List.set_cons_zero, List.set_cons_succ]
        refine wpAnyH_ready (rs := [12]) (by kernel_rfl) (by simp) ?_
        refine AllReadyH.cons rfl (fun Kz hKz => ?_) ?_
        rotate_left
        · exact AllReadyH.nil
        go_simp
        go_at_call 15
        refine (coState_any base B _ K M co _ ((H3.out.ext x4).ext hHeld)).mono ?_
        rintro e U5 ⟨v5, rfl, hs5, x5⟩
        obtain ⟨bA, bAn, bAc, bB, bBn, bBc, bC, bCn, bCc, rfl⟩ := hs5.val
        have XX := hHeld.go x5
        have hHeld := XX
        try dsimp only
        refine hKz.out _ _ ?_ (fun hHeld => ?_)
        · first | assumption | (dsimp only; assumption)
        clear hKz Kz
        try simp only [Act.put, List.getElem_toArray, List.getElem_cons_succ, List.getElem_cons_zero, List.setIfInBounds_toArray, List.set_cons_zero, List.set_cons_succ]
        refine wpAnyH_ready (rs := [14]) (by kernel_rfl) (by simp) ?_
        refine AllReadyH.cons rfl (fun Kz hKz => ?_) ?_
        rotate_left
        · exact AllReadyH.nil
        go_simp
        go_at_call 17
        refine (sameState_any _ _ _ _ (stateC co) (stateC co) _ hs5 ((hs3.out.ext x4).ext XX)).mono ?_
        rintro e U6 ⟨rfl, x6⟩
        have hHeld := XX.go x6
        rw [show decide (stateC co = stateC co) = true from decide_eq_true rfl]
        try dsimp only
        refine hKz.out _ _ ?_ (fun hHeld => ?_)
        · first | assumption | (dsimp only; assumption)
        clear hKz Kz
        try simp only [Act.put, List.getElem_toArray, List.getElem_cons_succ, List.getElem_cons_zero, List.setIfInBounds_toArray, List.set_cons_zero, List.set_cons_succ]
        refine wpAnyH_take (i := 15) (oi := _) (v := ?_) rfl (by kernel_rfl) (by kernel_rfl) (by kernel_rfl) (fun _ _ _ h => h) (Or.inl ⟨by rfl, ?_⟩) (by assumption) ?_
        rotate_left
        · intro w hSw
          (try dsimp only at hSw)
          go_simp
          try (with_reducible rfl)
        try simp only [Act.put, List.getElem_toArray, List.getElem_cons_succ, List.getElem_cons_zero, List.setIfInBounds_toArray, List.set_cons_zero, List.set_cons_succ]
        refine wpAnyH_take (i := 16) (oi := _) (v := ?_) rfl (by kernel_rfl) (by kernel_rfl) (by kernel_rfl) (fun _ _ _ h => h) (Or.inl ⟨by rfl, ?_⟩) (by assumption) ?_
        rotate_left
        · intro w hSw
          (try dsimp only at hSw)
          go_simp
          try (with_reducible rfl)
        try simp only [Act.put, List.getElem_toArray, List.getElem_cons_succ, List.getElem_cons_zero, List.setIfInBounds_toArray, List.set_cons_zero, List.set_cons_succ]
        refine wpAnyH_done (by kernel_rfl) ?_ _
        go_wp2_with fail
        go_ret
        exact ⟨rfl, E0'.out.go ((E3.go x4).go hHeld)⟩
      | true =>
        rw [hq] at hrs
        obtain ⟨r, hr⟩ : ∃ r, r = (resetC M true now co).1 := ⟨_, rfl⟩
        have hrs2 : Hid (Calls Tryz.prog 18 #[.pointer (some ⟨K.g, 0, none⟩), .string key, .int .i64 now] U2 (NtsPost (resetC M true now co).2.1 0 U2 (CoAt base B (100 * k + 100) K M (K.mut M.np) U2 r))) := by rw [hr]; exact hrs
        have htw : Hid (resetC M true now r = (r, [], 0)) := Lib.hid (by rw [hr]; exact reset_twice M now co)
        clear hrs hr
        go_upto_region 11 with (go_at_call 18; refine hrs2.out.mono ?_; rintro e U3 ⟨A3, n3, c3, rfl, r1, r2, r3, r4, r5⟩)
        have M3 := r5.2
        have H3 := Lib.hid r5.1
        have E3 : Ext V U3 := E2.out.goM M3 hKV.out
        clear r3 r4 r5 hrs2 BA hs1'
        go_upto_region 13 with (go_at_call 19; refine (refMatch_any _ _ _ hk).mono ?_; rintro e U4 ⟨rfl, x4⟩; rw [hq])
        have H4 := Lib.hid (H3.out.ext x4)
        have E4 := Lib.hid (E3.go x4)
        go_upto_region 14 with (go_at_call 15; refine (coState_any base B _ K M r _ H4.out).mono ?_; rintro e U5 ⟨v5, rfl, hs5, x5⟩; obtain ⟨bA, bAn, bAc, bB, bBn, bBc, bC, bCn, bCc, rfl⟩ := hs5.val)
        have EB := (Ext.refl U5).goA (.cells #[.slice bA bAn bAc, .slice bB bBn bBc, .slice bC bCn bCc] 50)
        have BB := heap_alloc_new U5 (.cells #[.slice bA bAn bAc, .slice bB bBn bBc, .slice bC bCn bCc] 50)
        have SB : (U5.alloc (.cells #[.slice bA bAn bAc, .slice bB bBn bBc, .slice bC bCn bCc] 50)).heap.size = U5.heap.size + 1 := by simp
        have hs5' := Lib.hid (hs5.ext EB)
        have x5z := x5.size
        have x4z := x4.size
        have M3z := M3.size
        have H6 := Lib.hid ((H4.out.ext x5).ext EB)
        have E6 := Lib.hid ((E4.out.go x5).go EB)
        clear hs5
        generalize U5.alloc (.cells #[.slice bA bAn bAc, .slice bB bBn bBc, .slice bC bCn bCc] 50) = U6 at *
        have gB : U5.heap.size < U6.heap.size := by omega
        have hrs3 : Hid (Calls Tryz.prog 18 #[.pointer (some ⟨K.g, 0, none⟩), .string key, .int .i64 now] U6 (NtsPost [] 0 U6 (CoAt base B (100 * k + 200) K M (K.mut M.np) U6 r))) := by
          have := coReset_any base B (100 * k + 100) K M r U6 H6.out hRM.out key now hk (by omega)
          rw [show (rightB key && M.key.toList == (sumS key).toList) = true from by rw [hMk'.out]; exact hq, htw.out] at this
          exact Lib.hid this
        clear EB SB
        go_upto_region 15 with (go_at_call 18; refine hrs3.out.mono ?_; rintro e U7 ⟨A7, n7, c7, rfl, t1, t2, t3, t4, t5⟩; have hn7 : n7 = 0 := t3.len.symm; subst hn7)
        have M7 := t5.2
        have H7 := Lib.hid t5.1
        have E7 : Ext V U7 := E6.out.goM M7 hKV.out
        have BB7 := (M7.block U5.heap.size gB (fun hb => by have := hlo.out _ hb; omega)).trans BB
        have hs7 := Lib.hid (hs5'.out.mod M7 (fun i hi => by have := hlo.out i hi; omega))
        have gB7 := lt_of_block BB7
        clear t3 t4 t5 hrs3 BB
        have l0 : ∀ w', Ext U7 w' → w'.cell? ⟨U5.heap.size, 0, none⟩ = some (.slice bA bAn bAc) := fun w' E => cellsAt ((E.block _ gB7).trans BB7) 0
        have l1 : ∀ w', Ext U7 w' → w'.cell? ⟨U5.heap.size, 1, none⟩ = some (.slice bB bBn bBc) := fun w' E => cellsAt ((E.block _ gB7).trans BB7) 1
        have l2 : ∀ w', Ext U7 w' → w'.cell? ⟨U5.heap.size, 2, none⟩ = some (.slice bC bCn bCc) := fun w' E => cellsAt ((E.block _ gB7).trans BB7) 2
        refine wp_region_held_drew (S := fun w' => Ext U7 w') (by kernel_rfl) (Ext.refl U7).god (fun hHeld => ?_)
        refine wpAnyH_take (i := 0) (oi := _) (v := ?_) rfl (by kernel_rfl) (by kernel_rfl) (by kernel_rfl) (fun _ _ _ h => h) (Or.inl ⟨by rfl, ?_⟩) (by assumption) ?_
        rotate_left
        · intro w hSw
          (try dsimp only at hSw)
          go_simp
          try (with_reducible rfl)
        try simp only [Act.put, List.getElem_toArray, List.getElem_cons_zero, List.setIfInBounds_toArray, List.set_cons_zero, List.set_cons_succ]
        refine wpAnyH_take (i := 1) (oi := _) (v := ?_) rfl (by kernel_rfl) (by kernel_rfl) (by kernel_rfl) (fun _ _ _ h => h) (Or.inl ⟨by rfl, ?_⟩) (by assumption) ?_
        rotate_left
        · intro w hSw
          (try dsimp only at hSw)
          go_simp
          try (with_reducible rfl)
        try simp only [Act.put, List.getElem_toArray, List.getElem_cons_succ, List.getElem_cons_zero, List.setIfInBounds_toArray, List.set_cons_zero, List.set_cons_succ]
        refine wpAnyH_take (i := 2) (oi := _) (v := ?_) rfl (by kernel_rfl) (by kernel_rfl) (by kernel_rfl) (fun _ _ _ h => h) (Or.inl ⟨by rfl, ?_⟩) (by assumption) ?_
        rotate_left
        · intro w hSw
          (try dsimp only at hSw)
          go_simp
          try (with_reducible rfl)
        try simp only [Act.put, List.getElem_toArray, List.getElem_cons_succ, List.getElem_cons_zero, List.setIfInBounds_toArray, List.set_cons_zero, List.set_cons_succ]
        refine wpAnyH_take (i := 3) (oi := _) (v := ?_) rfl (by kernel_rfl) (by kernel_rfl) (by kernel_rfl) (fun _ _ _ h => h) (Or.inl ⟨by rfl, ?_⟩) (by assumption) ?_
        rotate_left
        · intro w hSw
          (try dsimp only at hSw)
          go_simp
          try (with_reducible rfl)
        try simp only [Act.put, List.getElem_toArray, List.getElem_cons_succ, List.getElem_cons_zero, List.setIfInBounds_toArray, List.set_cons_zero, List.set_cons_succ]
        refine wpAnyH_take (i := 4) (oi := _) (v := ?_) rfl (by kernel_rfl) (by kernel_rfl) (by kernel_rfl) (fun _ _ _ h => h) (Or.inl ⟨by rfl, ?_⟩) (by assumption) ?_
        rotate_left
        · intro w hSw
          (try dsimp only at hSw)
          go_simp
          try (with_reducible rfl)
        try simp only [Act.put, List.getElem_toArray, List.getElem_cons_succ, List.getElem_cons_zero, List.setIfInBounds_toArray, List.set_cons_zero, List.set_cons_succ]
        refine wpAnyH_take (i := 5) (oi := _) (v := ?_) rfl (by kernel_rfl) (by kernel_rfl) (by kernel_rfl) (fun _ _ _ h => h) (Or.inl ⟨by rfl, ?_⟩) (by assumption) ?_
        rotate_left
        · intro w hSw
          (try dsimp only at hSw)
          go_simp
          try (with_reducible rfl)
        try simp only [Act.put, List.getElem_toArray, List.getElem_cons_succ, List.getElem_cons_zero, List.setIfInBounds_toArray, List.set_cons_zero, List.set_cons_succ]
        refine wpAnyH_take (i := 6) (oi := _) (v := ?_) rfl (by kernel_rfl) (by kernel_rfl) (by kernel_rfl) (fun _ _ _ h => h) (Or.inl ⟨by rfl, ?_⟩) (by assumption) ?_
        rotate_left
        · intro w hSw
          (try dsimp only at hSw)
          go_simp
          try (with_reducible rfl)
        try simp only [Act.put, List.getElem_toArray, List.getElem_cons_succ, List.getElem_cons_zero, List.setIfInBounds_toArray, List.set_cons_zero, List.set_cons_succ]
        refine wpAnyH_take (i := 7) (oi := _) (v := ?_) rfl (by kernel_rfl) (by kernel_rfl) (by kernel_rfl) (fun _ _ _ h => h) (Or.inl ⟨by rfl, ?_⟩) (by assumption) ?_
        rotate_left
        · intro w hSw
          (try dsimp only at hSw)
          go_simp
          try (with_reducible rfl)
        try simp only [Act.put, List.getElem_toArray, List.getElem_cons_succ, List.getElem_cons_zero, List.setIfInBounds_toArray, List.set_cons_zero, List.set_cons_succ]
        refine wpAnyH_take (i := 8) (oi := _) (v := ?_) rfl (by kernel_rfl) (by kernel_rfl) (by kernel_rfl) (fun _ _ _ h => h) (Or.inl ⟨by rfl, ?_⟩) (by assumption) ?_
        rotate_left
        · intro w hSw
          (try dsimp only at hSw)
          go_simp
          try (with_reducible rfl)
        try simp only [Act.put, List.getElem_toArray, List.getElem_cons_succ, List.getElem_cons_zero, List.setIfInBounds_toArray, List.set_cons_zero, List.set_cons_succ]
        refine wpAnyH_take (i := 9) (oi := _) (v := ?_) rfl (by kernel_rfl) (by kernel_rfl) (by kernel_rfl) (fun _ _ _ h => h) (Or.inl ⟨by rfl, ?_⟩) (by assumption) ?_
        rotate_left
        · intro w hSw
          (try dsimp only at hSw)
          go_simp
          try (with_reducible rfl)
        try simp only [Act.put, List.getElem_toArray, List.getElem_cons_succ, List.getElem_cons_zero, List.setIfInBounds_toArray, List.set_cons_zero, List.set_cons_succ]
        refine wpAnyH_take (i := 10) (oi := _) (v := ?_) rfl (by kernel_rfl) (by kernel_rfl) (by kernel_rfl) (fun _ _ _ h => h) (Or.inl ⟨by rfl, ?_⟩) (by assumption) ?_
        rotate_left
        · intro w hSw
          (try dsimp only at hSw)
          go_simp
          try (with_reducible rfl)
        try simp only [Act.put, List.getElem_toArray, List.getElem_cons_succ, List.getElem_cons_zero, List.setIfInBounds_toArray, List.set_cons_zero, List.set_cons_succ]
        refine wpAnyH_take (i := 11) (oi := _) (v := ?_) rfl (by kernel_rfl) (by kernel_rfl) (by kernel_rfl) (fun _ _ _ h => h) (Or.inl ⟨by rfl, ?_⟩) (by assumption) ?_
        rotate_left
        · intro w hSw
          (try dsimp only at hSw)
          go_simp
          try (with_reducible rfl)
        try simp only [Act.put, List.getElem_toArray, List.getElem_cons_succ, List.getElem_cons_zero, List.setIfInBounds_toArray, List.set_cons_zero, List.set_cons_succ]
        refine wpAnyH_take (i := 12) (oi := _) (v := ?_) rfl (by kernel_rfl) (by kernel_rfl) (by kernel_rfl) (fun _ _ _ h => h) (Or.inl ⟨by rfl, ?_⟩) (by assumption) ?_
        rotate_left
        · intro w hSw
          (try dsimp only at hSw)
          go_simp
          try (with_reducible rfl)
        try simp only [Act.put, List.getElem_toArray, List.getElem_cons_succ, List.getElem_cons_zero, List.setIfInBounds_toArray, List.set_cons_zero, List.set_cons_succ]
        refine wpAnyH_take (i := 13) (oi := _) (v := ?_) rfl (by kernel_rfl) (by kernel_rfl) (by kernel_rfl) (fun _ _ _ h => h) (Or.inl ⟨by rfl, ?_⟩) (by assumption) ?_
        rotate_left
        · intro w hSw
          (try dsimp only at hSw)
          go_simp
          try (with_reducible rfl)
        try simp only [Act.put, List.getElem_toArray, List.getElem_cons_succ, List.getElem_cons_zero, List.setIfInBounds_toArray, List.set_cons_zero, List.set_cons_succ]
        refine wpAnyH_take (i := 14) (oi := _) (v := ?_) rfl (by kernel_rfl) (by kernel_rfl) (by kernel_rfl) (fun _ _ _ h => h) (Or.inl ⟨by rfl, ?_⟩) (by assumption) ?_
        rotate_left
        · intro w hSw
          (try dsimp only at hSw)
          go_simp
          try (with_reducible rfl)
        try simp only [Act.put, List.getElem_toArray, List.getElem_cons_succ, List.getElem_cons_zero, List.setIfInBounds_toArray, List.set_cons_zero, List.set_cons_succ]
        refine wpAnyH_take (i := 15) (oi := _) (v := ?_) rfl (by kernel_rfl) (by kernel_rfl) (by kernel_rfl) (fun _ _ _ h => h) (Or.inl ⟨by rfl, ?_⟩) (by assumption) ?_
        rotate_left
        · intro w hSw
          (try dsimp only at hSw)
          go_simp
          try (with_reducible rfl)
        try simp only [Act.put, List.getElem_toArray, List.getElem_cons_succ, List.getElem_cons_zero, List.setIfInBounds_toArray, List.set_cons_zero, List.set_cons_succ]
        refine wpAnyH_take (i := 17) (oi := _) (v := ?_) rfl (by kernel_rfl) (by kernel_rfl) (by kernel_rfl) (fun _ _ _ h => h) (Or.inl ⟨by rfl, ?_⟩) (by assumption) ?_
        rotate_left
        · intro w hSw
          (try dsimp only at hSw)
          go_simp
          try (with_reducible rfl)
        try simp only [Act.put, List.getElem_toArray, List.getElem_cons_succ, List.getElem_cons_zero, List.setIfInBounds_toArray, List.set_cons_zero, List.set_cons_succ]
        refine wpAnyH_ready (rs := [16]) (by kernel_rfl) (by simp) ?_
        refine AllReadyH.cons rfl (fun Kz hKz => ?_) ?_
        rotate_left
        · exact AllReadyH.nil
        go_simp
        go_at_call 15
        refine (coState_any base B _ K M r _ (H7.out.ext hHeld)).mono ?_
        rintro e U8 ⟨v8, rfl, hs8, x8⟩
        obtain ⟨dA, dAn, dAc, dB, dBn, dBc, dC, dCn, dCc, rfl⟩ := hs8.val
        have XX := hHeld.go x8
        have hHeld := XX
        try dsimp only
        refine hKz.out _ _ ?_ (fun hHeld => ?_)
        · first | assumption | (dsimp only; assumption)
        clear hKz Kz
        try simp only [Act.put, List.getElem_toArray, List.getElem_cons_succ, List.getElem_cons_zero, List.setIfInBounds_toArray, List.set_cons_zero, List.set_cons_succ]
        refine wpAnyH_ready (rs := [18]) (by kernel_rfl) (by simp) ?_
        refine AllReadyH.cons rfl (fun Kz hKz => ?_) ?_
        rotate_left
        · exact AllReadyH.nil
        go_simp
        go_at_call 17
        refine (sameState_any _ _ _ _ (stateC r) (stateC r) _ hs8 (hs7.out.ext XX)).mono ?_
        rintro e U9 ⟨rfl, x9⟩
        have hHeld := XX.go x9
        rw [show decide (stateC r = stateC r) = true from decide_eq_true rfl]
        try dsimp only
        refine hKz.out _ _ ?_ (fun hHeld => ?_)
        · first | assumption | (dsimp only; assumption)
        clear hKz Kz
        try simp only [Act.put, List.getElem_toArray, List.getElem_cons_succ, List.getElem_cons_zero, List.setIfInBounds_toArray, List.set_cons_zero, List.set_cons_succ]
        refine wpAnyH_take (i := 19) (oi := _) (v := ?_) rfl (by kernel_rfl) (by kernel_rfl) (by kernel_rfl) (fun _ _ _ h => h) (Or.inl ⟨by rfl, ?_⟩) (by assumption) ?_
        rotate_left
        · intro w hSw
          (try dsimp only at hSw)
          go_simp
          try (with_reducible rfl)
        try simp only [Act.put, List.getElem_toArray, List.getElem_cons_succ, List.getElem_cons_zero, List.setIfInBounds_toArray, List.set_cons_zero, List.set_cons_succ]
        refine wpAnyH_take (i := 20) (oi := _) (v := ?_) rfl (by kernel_rfl) (by kernel_rfl) (by kernel_rfl) (fun _ _ _ h => h) (Or.inl ⟨by rfl, ?_⟩) (by assumption) ?_
        rotate_left
        · intro w hSw
          (try dsimp only at hSw)
          go_simp
          try (with_reducible rfl)
        try simp only [Act.put, List.getElem_toArray, List.getElem_cons_succ, List.getElem_cons_zero, List.setIfInBounds_toArray, List.set_cons_zero, List.set_cons_succ]
        refine wpAnyH_done (by kernel_rfl) ?_ _
        go_wp2_with fail
        go_ret
        exact ⟨rfl, E0'.out.go (E7.go hHeld)⟩
end Go.Proofs.YtgajbgdkgelkgaaGreat
