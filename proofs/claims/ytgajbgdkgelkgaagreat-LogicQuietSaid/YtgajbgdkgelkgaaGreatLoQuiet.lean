/- Layer 17: scanned again at one time, with the same samples, a core notes nothing more, and what stands is the same. Printed by gen/loquiet.py. -/
import Derived.Test.YtgajbgdkgelkgaaGreatLoOk
import Derived.Test.YtgajbgdkgelkgaaGreatLoQuietLaw
namespace Go.Proofs.YtgajbgdkgelkgaaGreat
open Go.RowKit

theorem OkOp17.at_time {w : World} {p : Op17} (h : OkOp17 w p) (t : Int) (ht : (Lit.int .i64 t).wf = true) : OkOp17 w { p with now := t } := ⟨h.rd, h.cap, h.key, h.who, h.ww, ht, h.lens⟩
set_option maxRecDepth 100000 in
set_option maxHeartbeats 12800000 in
theorem logicQuiet_any (m : Mx) (A : Option Addr) (n c : Nat) (ps : List Op17) (A1 : Option Addr) (n1 c1 : Nat) (ss : List Sm) (now : Int) (w : World) (ok : OkMx w w.heap.size m) (hx : OpsIn w A n ps) (hnc : n ≤ c ∧ c ≤ maxLen) (hs : RdC smCells 2 w w.heap.size A1 n1 ss) (hsc : n1 ≤ c1 ∧ c1 ≤ maxLen) (hnow : 0 ≤ now ∧ now ≤ 4294967295) :
    Calls Tryz.prog 5 #[m.val, .slice A n c, .slice A1 n1 c1, .int .u32 now] w fun e w' => e = .returned (.bool true) ∧ Ext w w' := by
  have hnm : n ≤ maxLen := Nat.le_trans hnc.1 hnc.2
  have hnm' := Lib.hid hnm
  have hn1 : n1 ≤ maxLen := Nat.le_trans hsc.1 hsc.2
  have hsc' := Lib.hid hsc
  clear hsc
  unfold maxLen at hnm hn1
  have B0 := heap_alloc_new w (.cells m.arr 27)
  have E0 := (Ext.refl w).goA (.cells m.arr 27)
  have S0 : (w.alloc (.cells m.arr 27)).heap.size = w.heap.size + 1 := by simp
  have ok' := Lib.hid (ok.ext E0)
  have hx' := Lib.hid (hx.ext E0)
  have hs' := Lib.hid (hs.ext E0)
  have E0' := Lib.hid E0
  clear ok hx E0 hs
  unfold Mx.val
  go_enter Tryz.func5, Tryz.ntmps5
  go_upto_region 1 with fail
  generalize w.alloc (.cells m.arr 27) = V at *
  have gV : w.heap.size < V.heap.size := by omega
  have k0 : ∀ w', Ext V w' → w'.cell? ⟨w.heap.size, 0, none⟩ = some (.int .i64 m.rt) := fun w' E => cellsAt ((E.block _ gV).trans B0) 0
  have k1 : ∀ w', Ext V w' → w'.cell? ⟨w.heap.size, 1, none⟩ = some (.int .i64 m.wt) := fun w' E => cellsAt ((E.block _ gV).trans B0) 1
  have k2 : ∀ w', Ext V w' → w'.cell? ⟨w.heap.size, 2, none⟩ = some (.int .i64 m.bk) := fun w' E => cellsAt ((E.block _ gV).trans B0) 2
  have k3 : ∀ w', Ext V w' → w'.cell? ⟨w.heap.size, 3, none⟩ = some (.int .i64 m.cy) := fun w' E => cellsAt ((E.block _ gV).trans B0) 3
  have k4 : ∀ w', Ext V w' → w'.cell? ⟨w.heap.size, 4, none⟩ = some (.string m.key) := fun w' E => cellsAt ((E.block _ gV).trans B0) 4
  have k5 : ∀ w', Ext V w' → w'.cell? ⟨w.heap.size, 5, none⟩ = some (.slice m.Ad m.nd m.cd) := fun w' E => cellsAt ((E.block _ gV).trans B0) 5
  have k6 : ∀ w', Ext V w' → w'.cell? ⟨w.heap.size, 6, none⟩ = some (.slice m.Ap m.np m.cp) := fun w' E => cellsAt ((E.block _ gV).trans B0) 6
  have k7 : ∀ w', Ext V w' → w'.cell? ⟨w.heap.size, 7, none⟩ = some (.slice m.Ac m.nc m.cc) := fun w' E => cellsAt ((E.block _ gV).trans B0) 7
  have k8 : ∀ w', Ext V w' → w'.cell? ⟨w.heap.size, 8, none⟩ = some (.slice m.Ae m.ne m.ce) := fun w' E => cellsAt ((E.block _ gV).trans B0) 8
  have B0' := Lib.hid B0
  clear B0
  go_upto_region 2 with (go_at_call 8; refine (head17_any _).mono ?_; rintro e W1 ⟨rfl, X1⟩)
  cases hR : rightM m with
  | false =>
    go_wp2_with (go_at_call 9; refine (coNew_any m _ (ok'.out.ext X1)).mono ?_; rintro e W2 hN; obtain ⟨-, rfl, X2⟩ := hN.resolve_right (fun h => by rw [hR] at h; cases h.1))
    go_ret
    exact ⟨rfl, (E0'.out.go X1).go X2⟩
  | true =>
  go_upto_region 3 with (go_at_call 9; refine (coNew_any m _ (ok'.out.ext X1)).mono ?_; rintro e W2 hN; obtain ⟨-, base, B, K, M, rfl, hK, hS, X2, hb0, hlt⟩ := hN.resolve_left (fun h => by rw [hR] at h; cases h.1))
  have Y2 : Ext V W2 := X1.go X2
  have hRM : Hid (rightM M = true) := Lib.hid (hS.right.trans hR)
  have hK' := Lib.hid hK
  have hKV : Hid (∀ b, K.mut M.np b → V.heap.size ≤ b) := Lib.hid fun b hb => Nat.le_trans X1.size (hlt b hb)
  clear hK hS hb0 hlt X2
  go_wp2_with fail
  refine (great08_any m _ (ok'.out.ext Y2)).mono ?_
  rintro e W3 ⟨⟨b3, rfl⟩, X3⟩
  have Y3 : Ext V W3 := Y2.go X3
  cases b3 with
  | true =>
    go_wp2_with fail
    go_ret
    exact ⟨rfl, E0'.out.go Y3⟩
  | false =>
  go_wp2_with fail
  refine (great17_any A n c ps _ (hx'.out.ext Y3).rd hnm'.out).mono ?_
  rintro e W4 ⟨⟨b4, rfl, hg4⟩, X4⟩
  have Y4 : Ext V W4 := Y3.go X4
  cases b4 with
  | true =>
    go_wp2_with fail
    go_ret
    exact ⟨rfl, E0'.out.go Y4⟩
  | false =>
  have hn150 : n ≤ 150 := hg4 rfl
  clear hg4
  by_cases h3 : 300 < n1
  · have d3 : decide ((300 : Int) < (n1 : Int)) = true := by simp; omega
    go_wp2_with fail
    go_ret
    exact ⟨rfl, E0'.out.go Y4⟩
  have d3 : decide ((300 : Int) < (n1 : Int)) = false := by simp; omega
  have HK4 := Lib.hid ((hK'.out.ext X3).ext X4)
  have hx4 := Lib.hid (hx'.out.ext Y4)
  have hKW : Hid (∀ b, K.mut M.np b → b < W4.heap.size) := Lib.hid fun b hb => HK4.out.old hb
  have Y4' := Lib.hid Y4
  have wnow : IntKind.i64.wrap now = now := by rw [IntKind.wrap_i64]; omega
  clear X1 X3 X4 Y2 Y3 Y4 hK'
  go_wp2_with fail
  go_loopw [11] (fun i wr => ∃ (k : Nat) (cc : Co), k ≤ n ∧ i = .int .i64 k ∧ CoOk M cc ∧ HasK wr base B (100 * k) K M cc ∧ Mod (K.mut M.np) W4 wr) (fun i _ => n - (intOf i).toNat)
  case atStart => exact ⟨0, newC M, by omega, rfl, CoOk.new M, HK4.out, Mod.refl _ _⟩
  case round =>
    obtain ⟨k, co, hkn, rfl, hCo, hH, hM⟩ := hrel
    have hCo' := Lib.hid hCo
    have hH' := Lib.hid hH
    have hM' := Lib.hid hM
    have hsz := hM.size
    clear hH hM hCo
    by_cases hlt : k < n
    · have e3 : (k : Int) < (n : Int) := by omega
      obtain ⟨p, b1, o1, hp, hA, hb1, okp, hcc, hpb⟩ := (hx'.out).at_ (S := fun b => V.heap.size ≤ b) (((Y4'.out.mod _).trans (hM'.out.weak hKV.out))) (fun b hb => hb) hlt
      have c0 : wr.cell? ⟨b1, o1 + k * 9, none⟩ = some (.int .i64 p.what) := hcc 0 (by decide)
      have c1 : wr.cell? ⟨b1, o1 + k * 9 + 1, none⟩ = some (.slice p.A p.n p.c) := hcc 1 (by decide)
      have c2 : wr.cell? ⟨b1, o1 + k * 9 + 2, none⟩ = some (.int .i64 p.now) := hcc 2 (by decide)
      have c3 : wr.cell? ⟨b1, o1 + k * 9 + 3, none⟩ = some (.int .i64 p.who) := hcc 3 (by decide)
      have c4 : wr.cell? ⟨b1, o1 + k * 9 + 4, none⟩ = some (.int .i64 p.tk) := hcc 4 (by decide)
      have c5 : wr.cell? ⟨b1, o1 + k * 9 + 5, none⟩ = some (.string p.key) := hcc 5 (by decide)
      have c6 : wr.cell? ⟨b1, o1 + k * 9 + 6, none⟩ = some (.slice p.A1 p.n1 p.c1) := hcc 6 (by decide)
      have c7 : wr.cell? ⟨b1, o1 + k * 9 + 7, none⟩ = some (.slice p.A2 p.n2 p.c2) := hcc 7 (by decide)
      have c8 : wr.cell? ⟨b1, o1 + k * 9 + 8, none⟩ = some (.slice p.A3 p.n3 p.c3) := hcc 8 (by decide)
      have hpb' := Lib.hid hpb
      have okp' := Lib.hid okp
      rw [hA]
      clear hcc hp hA okp hpb
      go_upto_region 10 with fail
      have EA := (Ext.refl wr).goA (.cells #[.int .i64 p.what, .slice p.A p.n p.c, .int .i64 (min (max p.now 0) now), .int .i64 p.who, .int .i64 p.tk, .string p.key, .slice p.A1 p.n1 p.c1, .slice p.A2 p.n2 p.c2, .slice p.A3 p.n3 p.c3] 52)
      have BA := heap_alloc_new wr (.cells #[.int .i64 p.what, .slice p.A p.n p.c, .int .i64 (min (max p.now 0) now), .int .i64 p.who, .int .i64 p.tk, .string p.key, .slice p.A1 p.n1 p.c1, .slice p.A2 p.n2 p.c2, .slice p.A3 p.n3 p.c3] 52)
      have H2 := Lib.hid (hH'.out.ext EA)
      have okq := Lib.hid ((okp'.out.ext EA).at_time (min (max p.now 0) now) (WalkArith.wf_i64 (n := min (max p.now 0) now) ⟨by omega, by omega⟩))
      have MA := Lib.hid (hM'.out.trans (EA.mod (K.mut M.np)))
      clear c0 c1 c2 c3 c4 c5 c6 c7 c8
      generalize wr.alloc (.cells #[.int .i64 p.what, .slice p.A p.n p.c, .int .i64 (min (max p.now 0) now), .int .i64 p.who, .int .i64 p.tk, .string p.key, .slice p.A1 p.n1 p.c1, .slice p.A2 p.n2 p.c2, .slice p.A3 p.n3 p.c3] 52) = U at *
      have l0 : U.cell? ⟨wr.heap.size, 0, none⟩ = some (.int .i64 p.what) := cellsAt BA 0
      have l1 : U.cell? ⟨wr.heap.size, 1, none⟩ = some (.slice p.A p.n p.c) := cellsAt BA 1
      have l2 : U.cell? ⟨wr.heap.size, 2, none⟩ = some (.int .i64 (min (max p.now 0) now)) := cellsAt BA 2
      have l3 : U.cell? ⟨wr.heap.size, 3, none⟩ = some (.int .i64 p.who) := cellsAt BA 3
      have l4 : U.cell? ⟨wr.heap.size, 4, none⟩ = some (.int .i64 p.tk) := cellsAt BA 4
      have l5 : U.cell? ⟨wr.heap.size, 5, none⟩ = some (.string p.key) := cellsAt BA 5
      have l6 : U.cell? ⟨wr.heap.size, 6, none⟩ = some (.slice p.A1 p.n1 p.c1) := cellsAt BA 6
      have l7 : U.cell? ⟨wr.heap.size, 7, none⟩ = some (.slice p.A2 p.n2 p.c2) := cellsAt BA 7
      have l8 : U.cell? ⟨wr.heap.size, 8, none⟩ = some (.slice p.A3 p.n3 p.c3) := cellsAt BA 8
      go_wp2_with (go_at_call 16; refine (does_any base B (100 * k) K M co _ H2.out hRM.out { p with now := min (max p.now 0) now } okq.out (fun h0 b o e hb => by have := hpb'.out b o h0 e; have := hKV.out b hb; omega) (by omega)).mono ?_; rintro e W5 ⟨A5, n5, c5_, rfl, -, -, -, -, v5⟩)
      go_roundw
      case rel => exact ⟨k + 1, _, by omega, by go_num, hCo'.out.does _, v5.1.mono (by omega), MA.out.trans v5.2⟩
      case measure => simp [intOf] <;> omega
    · obtain rfl : k = n := by omega
      obtain ⟨X, hX⟩ : ∃ X, X = wr := ⟨_, rfl⟩
      subst hX
      have EX : Hid (Ext V X) := Lib.hid (Y4'.out.goM hM'.out hKV.out)
      have hlo : Hid (∀ b, K.mut M.np b → b < X.heap.size) := Lib.hid fun b hb => by have := hKW.out b hb; omega
      have hcN : 100 * k ≤ 15000 := by omega
      have hoffS : Hid (0 < n1 → ∀ b o, A1 = some ⟨b, o, none⟩ → ¬ K.mut M.np b) := Lib.hid fun h0 b o e hb => by have := hs'.out.lt_of h0 e; have := hKV.out b hb; omega
      have hsc1 := Lib.hid (coScan_any base B (100 * k) K M co X hH'.out hRM.out A1 n1 c1 ss now (hs'.out.ext EX.out) hsc'.out hoffS.out (by omega))
      have htw0 : Hid (scanC M ss now (scanC M ss now co).1 = ((scanC M ss now co).1, [])) := Lib.hid (by
        obtain ⟨-, -, -, -, h5, h6, -⟩ := hH'.out.lens
        exact scan_twice M ss now co (by have := hH'.out.ltr; omega) (by rw [hCo'.out.cal]; exact Nat.le_refl _) (by rw [hCo'.out.efl]; exact Nat.le_refl _))
      obtain ⟨s1, hs1⟩ : ∃ s1, s1 = scanC M ss now co := ⟨_, rfl⟩
      rw [← hs1] at hsc1 htw0
      obtain ⟨r, nt⟩ := s1
      clear hs1
      go_upto_region 12 with (go_at_call 11; refine hsc1.out.mono ?_; rintro e U0 ⟨A5, n5, c5, rfl, -, -, -, -, v5⟩)
      have H0 := Lib.hid v5.1
      have M0 := v5.2
      have E0x : Hid (Ext V U0) := Lib.hid (EX.out.goM M0 hKV.out)
      have M0z := M0.size
      clear v5 hsc1
      go_upto_region 13 with (go_at_call 15; refine (coState_any base B _ K M r _ H0.out).mono ?_; rintro e U1 ⟨v1, rfl, hs1, x1⟩; obtain ⟨aA, aAn, aAc, aB, aBn, aBc, aC, aCn, aCc, rfl⟩ := hs1.val)
      have EA := (Ext.refl U1).goA (.cells #[.slice aA aAn aAc, .slice aB aBn aBc, .slice aC aCn aCc] 50)
      have BA := heap_alloc_new U1 (.cells #[.slice aA aAn aAc, .slice aB aBn aBc, .slice aC aCn aCc] 50)
      have SA : (U1.alloc (.cells #[.slice aA aAn aAc, .slice aB aBn aBc, .slice aC aCn aCc] 50)).heap.size = U1.heap.size + 1 := by simp
      have hs1' := Lib.hid (hs1.ext EA)
      have x1z := x1.size
      have H2 := Lib.hid ((H0.out.ext x1).ext EA)
      have E2 := Lib.hid ((E0x.out.go x1).go EA)
      clear hs1
      generalize U1.alloc (.cells #[.slice aA aAn aAc, .slice aB aBn aBc, .slice aC aCn aCc] 50) = U2 at *
      have gA : U1.heap.size < U2.heap.size := by omega
      have hsc2 : Hid (Calls Tryz.prog 11 #[.pointer (some ⟨K.g, 0, none⟩), .slice A1 n1 c1, .int .i64 now] U2 (ScanPost base B (100 * k + 200) K M (r, []) U2)) := by
        have := coScan_any base B (100 * k + 100) K M r U2 H2.out hRM.out A1 n1 c1 ss now (hs'.out.ext E2.out) hsc'.out hoffS.out (by omega)
        rw [htw0.out] at this
        exact Lib.hid this
      clear EA SA
      go_upto_region 14 with (go_at_call 11; refine hsc2.out.mono ?_; rintro e U3 ⟨A7, n7, c7, rfl, -, -, t3, -, t5⟩; have hn7 : n7 = 0 := t3.len.symm; subst hn7)
      have M3 := t5.2
      have H3 := Lib.hid t5.1
      have E3 : Ext V U3 := E2.out.goM M3 hKV.out
      have BA3 := (M3.block U1.heap.size gA (fun hb => by have := hlo.out _ hb; omega)).trans BA
      have hs3 := Lib.hid (hs1'.out.mod M3 (fun i hi => by have := hlo.out i hi; omega))
      have gA3 := lt_of_block BA3
      clear t3 t5 hsc2 BA
      have l0 : ∀ w', Ext U3 w' → w'.cell? ⟨U1.heap.size, 0, none⟩ = some (.slice aA aAn aAc) := fun w' E => cellsAt ((E.block _ gA3).trans BA3) 0
      have l1 : ∀ w', Ext U3 w' → w'.cell? ⟨U1.heap.size, 1, none⟩ = some (.slice aB aBn aBc) := fun w' E => cellsAt ((E.block _ gA3).trans BA3) 1
      have l2 : ∀ w', Ext U3 w' → w'.cell? ⟨U1.heap.size, 2, none⟩ = some (.slice aC aCn aCc) := fun w' E => cellsAt ((E.block _ gA3).trans BA3) 2
      refine wp_region_held_drew (S := fun w' => Ext U3 w') (by kernel_rfl) (Ext.refl U3).god (fun hHeld => ?_)
      refine wpAnyH_take (i := 0) (oi := _) (v := ?_) rfl (by kernel_rfl) (by kernel_rfl) (by kernel_rfl) (fun _ _ _ h => h) (Or.inl ⟨by rfl, ?_⟩) (by assumption) ?_
      rotate_left
      · intro w hSw
        (try dsimp only at hSw)
        go_simp
        try (with_reducible rfl)
      try simp only [Act.put, List.getElem_toArray, List.getElem_cons_zero, List.setIfInBounds_toArray, List.set_cons_zero, List.set_cons_succ]
      refine wpAnyH_take (i := 1) (oi := _) (v := ?_) rfl (by kernel_rfl) (by kernel_rfl) (by kernel_rfl) (fun _ _ _ h => h) (Or.inl ⟨by rfl, ?_⟩) (by assumption) ?_
      rotate_left
      · intro w hSw
        (try dsimp only at hSw)
        go_simp
        try (with_reducible rfl)
      try simp only [Act.put, List.getElem_toArray, List.getElem_cons_succ, List.getElem_cons_zero, List.setIfInBounds_toArray, List.set_cons_zero, List.set_cons_succ]
      refine wpAnyH_take (i := 2) (oi := _) (v := ?_) rfl (by kernel_rfl) (by kernel_rfl) (by kernel_rfl) (fun _ _ _ h => h) (Or.inl ⟨by rfl, ?_⟩) (by assumption) ?_
      rotate_left
      · intro w hSw
        (try dsimp only at hSw)
        go_simp
        try (with_reducible rfl)
      try simp only [Act.put, List.getElem_toArray, List.getElem_cons_succ, List.getElem_cons_zero, List.setIfInBounds_toArray, List.set_cons_zero, List.set_cons_succ]
      refine wpAnyH_take (i := 3) (oi := _) (v := ?_) rfl (by kernel_rfl) (by kernel_rfl) (by kernel_rfl) (fun _ _ _ h => h) (Or.inl ⟨by rfl, ?_⟩) (by assumption) ?_
      rotate_left
      · intro w hSw
        (try dsimp only at hSw)
        go_simp
        try (with_reducible rfl)
      try simp only [Act.put, List.getElem_toArray, List.getElem_cons_succ, List.getElem_cons_zero, List.setIfInBounds_toArray, List.set_cons_zero, List.set_cons_succ]
      refine wpAnyH_take (i := 4) (oi := _) (v := ?_) rfl (by kernel_rfl) (by kernel_rfl) (by kernel_rfl) (fun _ _ _ h => h) (Or.inl ⟨by rfl, ?_⟩) (by assumption) ?_
      rotate_left
      · intro w hSw
        (try dsimp only at hSw)
        go_simp
        try (with_reducible rfl)
      try simp only [Act.put, List.getElem_toArray, List.getElem_cons_succ, List.getElem_cons_zero, List.setIfInBounds_toArray, List.set_cons_zero, List.set_cons_succ]
      refine wpAnyH_take (i := 5) (oi := _) (v := ?_) rfl (by kernel_rfl) (by kernel_rfl) (by kernel_rfl) (fun _ _ _ h => h) (Or.inl ⟨by rfl, ?_⟩) (by assumption) ?_
      rotate_left
      · intro w hSw
        (try dsimp only at hSw)
        go_simp
        try (with_reducible rfl)
      try simp only [Act.put, List.getElem_toArray, List.getElem_cons_succ, List.getElem_cons_zero, List.setIfInBounds_toArray, List.set_cons_zero, List.set_cons_succ]
      refine wpAnyH_take (i := 6) (oi := _) (v := ?_) rfl (by kernel_rfl) (by kernel_rfl) (by kernel_rfl) (fun _ _ _ h => h) (Or.inl ⟨by rfl, ?_⟩) (by assumption) ?_
      rotate_left
      · intro w hSw
        (try dsimp only at hSw)
        go_simp
        try (with_reducible rfl)
      try simp only [Act.put, List.getElem_toArray, List.getElem_cons_succ, List.getElem_cons_zero, List.setIfInBounds_toArray, List.set_cons_zero, List.set_cons_succ]
      refine wpAnyH_take (i := 7) (oi := _) (v := ?_) rfl (by kernel_rfl) (by kernel_rfl) (by kernel_rfl) (fun _ _ _ h => h) (Or.inl ⟨by rfl, ?_⟩) (by assumption) ?_
      rotate_left
      · intro w hSw
        (try dsimp only at hSw)
        go_simp
        try (with_reducible rfl)
      try simp only [Act.put, List.getElem_toArray, List.getElem_cons_succ, List.getElem_cons_zero, List.setIfInBounds_toArray, List.set_cons_zero, List.set_cons_succ]
      refine wpAnyH_take (i := 9) (oi := _) (v := ?_) rfl (by kernel_rfl) (by kernel_rfl) (by kernel_rfl) (fun _ _ _ h => h) (Or.inl ⟨by rfl, ?_⟩) (by assumption) ?_
      rotate_left
      · intro w hSw
        (try dsimp only at hSw)
        go_simp
        try (with_reducible rfl)
      try simp only [Act.put, List.getElem_toArray, List.getElem_cons_succ, List.getElem_cons_zero, List.setIfInBounds_toArray, List.set_cons_zero, List.set_cons_succ]
      refine wpAnyH_ready (rs := [8]) (by kernel_rfl) (by simp) ?_
      refine AllReadyH.cons rfl (fun Kz hKz => ?_) ?_
      rotate_left
      · exact AllReadyH.nil
      go_simp
      go_at_call 15
      refine (coState_any base B _ K M r _ (H3.out.ext hHeld)).mono ?_
      rintro e U5 ⟨v5, rfl, hs5, x5⟩
      obtain ⟨bA, bAn, bAc, bB, bBn, bBc, bC, bCn, bCc, rfl⟩ := hs5.val
      have XX := hHeld.go x5
      have hHeld := XX
      try dsimp only
      refine hKz.out _ _ ?_ (fun hHeld => ?_)
      · first | assumption | (dsimp only; assumption)
      clear hKz Kz
      try simp only [Act.put, List.getElem_toArray, List.getElem_cons_succ, List.getElem_cons_zero, List.setIfInBounds_toArray, List.set_cons_zero, List.set_cons_succ]
      refine wpAnyH_ready (rs := [10]) (by kernel_rfl) (by simp) ?_
      refine AllReadyH.cons rfl (fun Kz hKz => ?_) ?_
      rotate_left
      · exact AllReadyH.nil
      go_simp
      go_at_call 17
      refine (sameState_any _ _ _ _ (stateC r) (stateC r) _ hs5 (hs3.out.ext XX)).mono ?_
      rintro e U6 ⟨rfl, x6⟩
      have hHeld := XX.go x6
      rw [show decide (stateC r = stateC r) = true from decide_eq_true rfl]
      try dsimp only
      refine hKz.out _ _ ?_ (fun hHeld => ?_)
      · first | assumption | (dsimp only; assumption)
      clear hKz Kz
      try simp only [Act.put, List.getElem_toArray, List.getElem_cons_succ, List.getElem_cons_zero, List.setIfInBounds_toArray, List.set_cons_zero, List.set_cons_succ]
      refine wpAnyH_take (i := 11) (oi := _) (v := ?_) rfl (by kernel_rfl) (by kernel_rfl) (by kernel_rfl) (fun _ _ _ h => h) (Or.inl ⟨by rfl, ?_⟩) (by assumption) ?_
      rotate_left
      · intro w hSw
        (try dsimp only at hSw)
        go_simp
        try (with_reducible rfl)
      try simp only [Act.put, List.getElem_toArray, List.getElem_cons_succ, List.getElem_cons_zero, List.setIfInBounds_toArray, List.set_cons_zero, List.set_cons_succ]
      refine wpAnyH_take (i := 12) (oi := _) (v := ?_) rfl (by kernel_rfl) (by kernel_rfl) (by kernel_rfl) (fun _ _ _ h => h) (Or.inl ⟨by rfl, ?_⟩) (by assumption) ?_
      rotate_left
      · intro w hSw
        (try dsimp only at hSw)
        go_simp
        try (with_reducible rfl)
      try simp only [Act.put, List.getElem_toArray, List.getElem_cons_succ, List.getElem_cons_zero, List.setIfInBounds_toArray, List.set_cons_zero, List.set_cons_succ]
      refine wpAnyH_done (by kernel_rfl) ?_ _
      go_wp2_with fail
      go_ret
      exact ⟨rfl, E0'.out.go (E3.go hHeld)⟩
end Go.Proofs.YtgajbgdkgelkgaaGreat
