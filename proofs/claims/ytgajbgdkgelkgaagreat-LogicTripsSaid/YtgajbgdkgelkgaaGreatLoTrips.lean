/- Layer 17: behind a Scan a cause that trips, and is not bypassed, has all its effects, and itself, be set; what was set then is noted, once. Printed by gen/lotrips.py. -/
import Derived.Test.YtgajbgdkgelkgaaGreatLoOk
import Derived.Test.YtgajbgdkgelkgaaGreatLoTripsLaw
import Derived.Test.YtgajbgdkgelkgaaGreatLoTripsWords
import Derived.StillTailTactics
namespace Go.Proofs.YtgajbgdkgelkgaaGreat
open Go.RowKit

set_option maxRecDepth 100000 in
set_option maxHeartbeats 12800000 in
theorem logicTrips_any (m : Mx) (A : Option Addr) (n c : Nat) (ps : List Op17) (w : World) (ok : OkMx w w.heap.size m) (hx : OpsIn w A n ps) (hnc : n ≤ c ∧ c ≤ maxLen) :
    Calls Tryz.prog 4 #[m.val, .slice A n c] w fun e w' => e = .returned (.bool true) ∧ Ext w w' := by
  have hnm : n ≤ maxLen := Nat.le_trans hnc.1 hnc.2
  have hnm' := Lib.hid hnm
  unfold maxLen at hnm
  have B0 := heap_alloc_new w (.cells m.arr 27)
  have E0 := (Ext.refl w).goA (.cells m.arr 27)
  have S0 : (w.alloc (.cells m.arr 27)).heap.size = w.heap.size + 1 := by simp
  have ok' := Lib.hid (ok.ext E0)
  have hx' := Lib.hid (hx.ext E0)
  have E0' := Lib.hid E0
  clear ok hx E0
  unfold Mx.val
  go_enter Tryz.func4, Tryz.ntmps4
  go_upto_region 1 with fail
  generalize w.alloc (.cells m.arr 27) = V at *
  have gV : w.heap.size < V.heap.size := by omega
  have k0 : ∀ w', Ext V w' → w'.cell? ⟨w.heap.size, 0, none⟩ = some (.int .i64 m.rt) := fun w' E => cellsAt ((E.block _ gV).trans B0) 0
  have k1 : ∀ w', Ext V w' → w'.cell? ⟨w.heap.size, 1, none⟩ = some (.int .i64 m.wt) := fun w' E => cellsAt ((E.block _ gV).trans B0) 1
  have k2 : ∀ w', Ext V w' → w'.cell? ⟨w.heap.size, 2, none⟩ = some (.int .i64 m.bk) := fun w' E => cellsAt ((E.block _ gV).trans B0) 2
  have k3 : ∀ w', Ext V w' → w'.cell? ⟨w.heap.size, 3, none⟩ = some (.int .i64 m.cy) := fun w' E => cellsAt ((E.block _ gV).trans B0) 3
  have k4 : ∀ w', Ext V w' → w'.cell? ⟨w.heap.size, 4, none⟩ = some (.string m.key) := fun w' E => cellsAt ((E.block _ gV).trans B0) 4
  have k5 : ∀ w', Ext V w' → w'.cell? ⟨w.heap.size, 5, none⟩ = some (.slice m.Ad m.nd m.cd) := fun w' E => cellsAt ((E.block _ gV).trans B0) 5
  have k6 : ∀ w', Ext V w' → w'.cell? ⟨w.heap.size, 6, none⟩ = some (.slice m.Ap m.np m.cp) := fun w' E => cellsAt ((E.block _ gV).trans B0) 6
  have k7 : ∀ w', Ext V w' → w'.cell? ⟨w.heap.size, 7, none⟩ = some (.slice m.Ac m.nc m.cc) := fun w' E => cellsAt ((E.block _ gV).trans B0) 7
  have k8 : ∀ w', Ext V w' → w'.cell? ⟨w.heap.size, 8, none⟩ = some (.slice m.Ae m.ne m.ce) := fun w' E => cellsAt ((E.block _ gV).trans B0) 8
  have B0' := Lib.hid B0
  clear B0
  go_upto_region 2 with (go_at_call 8; refine (head17_any _).mono ?_; rintro e W1 ⟨rfl, X1⟩)
  cases hR : rightM m with
  | false =>
    go_wp2_with (go_at_call 9; refine (coNew_any m _ (ok'.out.ext X1)).mono ?_; rintro e W2 hN; obtain ⟨-, rfl, X2⟩ := hN.resolve_right (fun h => by rw [hR] at h; cases h.1))
    go_ret
    exact ⟨rfl, (E0'.out.go X1).go X2⟩
  | true =>
  go_upto_region 3 with (go_at_call 9; refine (coNew_any m _ (ok'.out.ext X1)).mono ?_; rintro e W2 hN; obtain ⟨-, base, B, K, M, rfl, hK, hS, X2, hb0, hlt⟩ := hN.resolve_left (fun h => by rw [hR] at h; cases h.1))
  have Y2 : Ext V W2 := X1.go X2
  have hRM : Hid (rightM M = true) := Lib.hid (hS.right.trans hR)
  have hK' := Lib.hid hK
  have hKV : Hid (∀ b, K.mut M.np b → V.heap.size ≤ b) := Lib.hid fun b hb => Nat.le_trans X1.size (hlt b hb)
  have hSm : Hid (M.cas.length = m.nc ∧ M.efs.length = m.ne ∧ M.pts.length = m.np ∧ m.cas.length = m.nc ∧ ∀ e x, m.efs[e]? = some x → (efAt M e).ps = x.ps) := Lib.hid (sameMx_lens hS ok'.out)
  have hsz : m.np ≤ 16 ∧ m.nc ≤ 8 ∧ m.ne ≤ 8 := by
    have h1 := hK.lens
    have h2 := hSm.out
    omega
  clear hK hS hb0 hlt X2
  go_wp2_with fail
  refine (great08_any m _ (ok'.out.ext Y2)).mono ?_
  rintro e W3 ⟨⟨b3, rfl⟩, X3⟩
  have Y3 : Ext V W3 := Y2.go X3
  cases b3 with
  | true =>
    go_wp2_with fail
    go_ret
    exact ⟨rfl, E0'.out.go Y3⟩
  | false =>
  go_wp2_with fail
  refine (great17_any A n c ps _ (hx'.out.ext Y3).rd hnm'.out).mono ?_
  rintro e W4 ⟨⟨b4, rfl, hg4⟩, X4⟩
  have Y4 : Ext V W4 := Y3.go X4
  cases b4 with
  | true =>
    go_wp2_with fail
    go_ret
    exact ⟨rfl, E0'.out.go Y4⟩
  | false =>
  have hn150 : n ≤ 150 := hg4 rfl
  clear hg4
  have HK4 := Lib.hid ((hK'.out.ext X3).ext X4)
  have hx4 := Lib.hid (hx'.out.ext Y4)
  have hKW : Hid (∀ b, K.mut M.np b → b < W4.heap.size) := Lib.hid fun b hb => HK4.out.old hb
  have Y4' := Lib.hid Y4
  clear X1 X3 X4 Y2 Y3 Y4 hK'
  go_wp2_with fail
  go_loopw [7] (fun i wr => ∃ (k : Nat) (cc : Co), k ≤ n ∧ i = .int .i64 k ∧ CoOk M cc ∧ HasK wr base B (100 * k) K M cc ∧ Mod (K.mut M.np) W4 wr) (fun i _ => n - (intOf i).toNat)
  case atStart => exact ⟨0, newC M, by omega, rfl, CoOk.new M, HK4.out, Mod.refl _ _⟩
  case round =>
    obtain ⟨k, co, hkn, rfl, hCo, hH, hM⟩ := hrel
    have hCo' := Lib.hid hCo
    have hH' := Lib.hid hH
    have hM' := Lib.hid hM
    have hsz := hM.size
    have EX : Hid (Ext V wr) := Lib.hid (Y4'.out.goM hM hKV.out)
    have hlo : Hid (∀ b, K.mut M.np b → b < wr.heap.size) := Lib.hid fun b hb => by have := hKW.out b hb; omega
    clear hH hM hCo
    by_cases hlt : k < n
    · have e3 : (k : Int) < (n : Int) := by omega
      obtain ⟨p, b1, o1, hp, hA, hb1, okp, hcc, hpb⟩ := (hx'.out).at_ (S := fun b => V.heap.size ≤ b) (((Y4'.out.mod _).trans (hM'.out.weak hKV.out))) (fun b hb => hb) hlt
      have c0 : wr.cell? ⟨b1, o1 + k * 9, none⟩ = some (.int .i64 p.what) := hcc 0 (by decide)
      have c1 : wr.cell? ⟨b1, o1 + k * 9 + 1, none⟩ = some (.slice p.A p.n p.c) := hcc 1 (by decide)
      have c2 : wr.cell? ⟨b1, o1 + k * 9 + 2, none⟩ = some (.int .i64 p.now) := hcc 2 (by decide)
      have c3 : wr.cell? ⟨b1, o1 + k * 9 + 3, none⟩ = some (.int .i64 p.who) := hcc 3 (by decide)
      have c4 : wr.cell? ⟨b1, o1 + k * 9 + 4, none⟩ = some (.int .i64 p.tk) := hcc 4 (by decide)
      have c5 : wr.cell? ⟨b1, o1 + k * 9 + 5, none⟩ = some (.string p.key) := hcc 5 (by decide)
      have c6 : wr.cell? ⟨b1, o1 + k * 9 + 6, none⟩ = some (.slice p.A1 p.n1 p.c1) := hcc 6 (by decide)
      have c7 : wr.cell? ⟨b1, o1 + k * 9 + 7, none⟩ = some (.slice p.A2 p.n2 p.c2) := hcc 7 (by decide)
      have c8 : wr.cell? ⟨b1, o1 + k * 9 + 8, none⟩ = some (.slice p.A3 p.n3 p.c3) := hcc 8 (by decide)
      have hpb' := Lib.hid hpb
      have okp' := Lib.hid okp
      rw [hA]
      clear hcc hp hA okp hpb
      go_upto_region 9 with fail
      have EA := (Ext.refl wr).goA (.cells #[.int .i64 p.what, .slice p.A p.n p.c, .int .i64 p.now, .int .i64 p.who, .int .i64 p.tk, .string p.key, .slice p.A1 p.n1 p.c1, .slice p.A2 p.n2 p.c2, .slice p.A3 p.n3 p.c3] 52)
      have BO := heap_alloc_new wr (.cells #[.int .i64 p.what, .slice p.A p.n p.c, .int .i64 p.now, .int .i64 p.who, .int .i64 p.tk, .string p.key, .slice p.A1 p.n1 p.c1, .slice p.A2 p.n2 p.c2, .slice p.A3 p.n3 p.c3] 52)
      have SO : (wr.alloc (.cells #[.int .i64 p.what, .slice p.A p.n p.c, .int .i64 p.now, .int .i64 p.who, .int .i64 p.tk, .string p.key, .slice p.A1 p.n1 p.c1, .slice p.A2 p.n2 p.c2, .slice p.A3 p.n3 p.c3] 52)).heap.size = wr.heap.size + 1 := by simp
      have H0 := Lib.hid (hH'.out.ext EA)
      have ok0 := Lib.hid (okp'.out.ext EA)
      have MA := Lib.hid (hM'.out.trans (EA.mod (K.mut M.np)))
      have E00 := Lib.hid (EX.out.go EA)
      clear c0 c1 c2 c3 c4 c5 c6 c7 c8 EA
      generalize wr.alloc (.cells #[.int .i64 p.what, .slice p.A p.n p.c, .int .i64 p.now, .int .i64 p.who, .int .i64 p.tk, .string p.key, .slice p.A1 p.n1 p.c1, .slice p.A2 p.n2 p.c2, .slice p.A3 p.n3 p.c3] 52) = U0 at *
      have gO : wr.heap.size < U0.heap.size := by omega
      have o0 : ∀ w', Ext U0 w' → w'.cell? ⟨wr.heap.size, 0, none⟩ = some (.int .i64 p.what) := fun w' E => cellsAt ((E.block _ gO).trans BO) 0
      have o1 : ∀ w', Ext U0 w' → w'.cell? ⟨wr.heap.size, 1, none⟩ = some (.slice p.A p.n p.c) := fun w' E => cellsAt ((E.block _ gO).trans BO) 1
      have o2 : ∀ w', Ext U0 w' → w'.cell? ⟨wr.heap.size, 2, none⟩ = some (.int .i64 p.now) := fun w' E => cellsAt ((E.block _ gO).trans BO) 2
      have o3 : ∀ w', Ext U0 w' → w'.cell? ⟨wr.heap.size, 3, none⟩ = some (.int .i64 p.who) := fun w' E => cellsAt ((E.block _ gO).trans BO) 3
      have o4 : ∀ w', Ext U0 w' → w'.cell? ⟨wr.heap.size, 4, none⟩ = some (.int .i64 p.tk) := fun w' E => cellsAt ((E.block _ gO).trans BO) 4
      have o5 : ∀ w', Ext U0 w' → w'.cell? ⟨wr.heap.size, 5, none⟩ = some (.string p.key) := fun w' E => cellsAt ((E.block _ gO).trans BO) 5
      have o6 : ∀ w', Ext U0 w' → w'.cell? ⟨wr.heap.size, 6, none⟩ = some (.slice p.A1 p.n1 p.c1) := fun w' E => cellsAt ((E.block _ gO).trans BO) 6
      have o7 : ∀ w', Ext U0 w' → w'.cell? ⟨wr.heap.size, 7, none⟩ = some (.slice p.A2 p.n2 p.c2) := fun w' E => cellsAt ((E.block _ gO).trans BO) 7
      have o8 : ∀ w', Ext U0 w' → w'.cell? ⟨wr.heap.size, 8, none⟩ = some (.slice p.A3 p.n3 p.c3) := fun w' E => cellsAt ((E.block _ gO).trans BO) 8
      go_upto_region 10 with (go_at_call 15; refine (coState_any base B _ K M co _ H0.out).mono ?_; rintro e U1 ⟨v1, rfl, hs1, x1⟩; obtain ⟨aA, aAn, aAc, aB, aBn, aBc, aC, aCn, aCc, rfl, q1, q2, -, s1, s2, -, f1, f2, -⟩ := hs1.ex)
      have EA := (Ext.refl U1).goA (.cells #[.slice aA aAn aAc, .slice aB aBn aBc, .slice aC aCn aCc] 50)
      have BA := heap_alloc_new U1 (.cells #[.slice aA aAn aAc, .slice aB aBn aBc, .slice aC aCn aCc] 50)
      have SA : (U1.alloc (.cells #[.slice aA aAn aAc, .slice aB aBn aBc, .slice aC aCn aCc] 50)).heap.size = U1.heap.size + 1 := by simp
      have x1z := x1.size
      have H1 := Lib.hid ((H0.out.ext x1).ext EA)
      have ok1 := Lib.hid ((ok0.out.ext x1).ext EA)
      have E01 := Lib.hid ((E00.out.go x1).go EA)
      have EO1 : Ext U0 (U1.alloc (.cells #[.slice aA aAn aAc, .slice aB aBn aBc, .slice aC aCn aCc] 50)) := x1.go EA
      have s1' := Lib.hid (s1.ext EA)
      have s2' := Lib.hid (s2.ext EA)
      have f1' := Lib.hid f1
      have f2' := Lib.hid f2
      have q12 := Lib.hid (And.intro q1 q2)
      have MB := Lib.hid (MA.out.trans (EO1.mod (K.mut M.np)))
      clear hs1 EA s1 s2 f1 f2 q1 q2
      generalize U1.alloc (.cells #[.slice aA aAn aAc, .slice aB aBn aBc, .slice aC aCn aCc] 50) = U2 at *
      have gA : U1.heap.size < U2.heap.size := by omega
      obtain ⟨s, hs⟩ : ∃ s, s = doesC M p co := ⟨_, rfl⟩
      have hdo := Lib.hid (does_any base B (100 * k) K M co U2 H1.out hRM.out p ok1.out (fun h0 b o e hb => by have := hpb'.out b o h0 e; have := hKV.out b hb; omega) (by omega))
      have hCo2 : Hid (CoOk M s.1) := Lib.hid (by rw [hs]; exact hCo'.out.does p)
      have hTk : Hid (¬ (4 ≤ p.what ∧ p.what ≤ 6) → (0 ≤ p.now ∧ p.now ≤ 1099511627776) → p.n = m.np → TripsOk M p.now co s.1 s.2) := Lib.hid (by
        intro hw hn hl
        have e : doesC M p co = scanC M p.l p.now co := by
          unfold doesC
          rw [if_neg (by omega), if_neg (by omega), if_neg (by omega)]
        rw [hs, e]
        have h1 := hH'.out.lens
        have h2 := hSm.out
        have h3 := hH'.out.ltr
        have h4 := hH'.out.ldl
        exact scan_trips M p.l p.now co hn (by rw [ok1.out.rd.len, hl, h2.2.2.1]) (by omega) (by omega) (by rw [hCo'.out.cal]; exact Nat.le_refl _) (by rw [hCo'.out.efl]; exact Nat.le_refl _))
      rw [← hs] at hdo
      clear hs
      obtain ⟨c', ns⟩ := s
      go_upto_region 11 with (go_at_call 16; refine hdo.out.mono ?_; rintro e U3 ⟨A5, n5, c5, rfl, r51, r52, r53, -, v5⟩)
      have hn5' : Hid (n5 ≤ maxLen) := Lib.hid (Nat.le_trans r51 r52)
      have H3 := Lib.hid v5.1
      have M3 := v5.2
      have R5 := Lib.hid r53
      have M3z := M3.size
      have E03 : Hid (Ext V U3) := Lib.hid (E01.out.goM M3 hKV.out)
      have MC := Lib.hid (MB.out.trans M3)
      have s13 := Lib.hid (s1'.out.mod M3 (fun _ b o e hb => by have := f1'.out b o e; have := hlo.out b hb; omega))
      have s23 := Lib.hid (s2'.out.mod M3 (fun _ b o e hb => by have := f2'.out b o e; have := hlo.out b hb; omega))
      have BO3 := (M3.block _ (Nat.lt_of_lt_of_le gO EO1.size) (fun hb => by have := hlo.out _ hb; omega)).trans ((EO1.block _ gO).trans BO)
      have BA3 := (M3.block _ gA (fun hb => by have := hlo.out _ hb; omega)).trans BA
      have gO3 := lt_of_block BO3
      have gA3 := lt_of_block BA3
      clear r51 r52 r53 v5 hdo M3 o0 o2 o3 o4 o5 o6 o7 o8 BO BA s1' s2'
      go_upto_region 12 with (go_at_call 15; refine (coState_any base B _ K M c' _ H3.out).mono ?_; rintro e U4 ⟨v4, rfl, hs4, x4⟩; obtain ⟨bA, bAn, bAc, bB, bBn, bBc, bC, bCn, bCc, rfl, q1, q2, q3, s1, s2, s3, -, -, -⟩ := hs4.ex)
      have EA := (Ext.refl U4).goA (.cells #[.slice bA bAn bAc, .slice bB bBn bBc, .slice bC bCn bCc] 50)
      have BB := heap_alloc_new U4 (.cells #[.slice bA bAn bAc, .slice bB bBn bBc, .slice bC bCn bCc] 50)
      have SB : (U4.alloc (.cells #[.slice bA bAn bAc, .slice bB bBn bBc, .slice bC bCn bCc] 50)).heap.size = U4.heap.size + 1 := by simp
      have x4z := x4.size
      have H5 := Lib.hid ((H3.out.ext x4).ext EA)
      have E05 := Lib.hid ((E03.out.go x4).go EA)
      have EO5 : Ext U3 (U4.alloc (.cells #[.slice bA bAn bAc, .slice bB bBn bBc, .slice bC bCn bCc] 50)) := x4.go EA
      have t1 := Lib.hid (s1.ext EA)
      have t2 := Lib.hid (s2.ext EA)
      have t3 := Lib.hid (s3.ext EA)
      have u1 := Lib.hid (s13.out.ext EO5)
      have u2 := Lib.hid (s23.out.ext EO5)
      have R55 := Lib.hid (R5.out.ext EO5)
      have MD := Lib.hid (MC.out.trans (EO5.mod (K.mut M.np)))
      have BO5 := (EO5.block _ gO3).trans BO3
      have BA5 := (EO5.block _ gA3).trans BA3
      clear hs4 EA s1 s2 s3 q1 q2 q3 s13 s23 R5 BO3 BA3
      generalize U4.alloc (.cells #[.slice bA bAn bAc, .slice bB bBn bBc, .slice bC bCn bCc] 50) = Z at *
      have gB : U4.heap.size < Z.heap.size := by omega
      have gO5 := lt_of_block BO5
      have gA5 := lt_of_block BA5
      have o0 : ∀ w', Ext Z w' → w'.cell? ⟨wr.heap.size, 0, none⟩ = some (.int .i64 p.what) := fun w' E => cellsAt ((E.block _ gO5).trans BO5) 0
      have o1 : ∀ w', Ext Z w' → w'.cell? ⟨wr.heap.size, 1, none⟩ = some (.slice p.A p.n p.c) := fun w' E => cellsAt ((E.block _ gO5).trans BO5) 1
      have o2 : ∀ w', Ext Z w' → w'.cell? ⟨wr.heap.size, 2, none⟩ = some (.int .i64 p.now) := fun w' E => cellsAt ((E.block _ gO5).trans BO5) 2
      have o3 : ∀ w', Ext Z w' → w'.cell? ⟨wr.heap.size, 3, none⟩ = some (.int .i64 p.who) := fun w' E => cellsAt ((E.block _ gO5).trans BO5) 3
      have o4 : ∀ w', Ext Z w' → w'.cell? ⟨wr.heap.size, 4, none⟩ = some (.int .i64 p.tk) := fun w' E => cellsAt ((E.block _ gO5).trans BO5) 4
      have o5 : ∀ w', Ext Z w' → w'.cell? ⟨wr.heap.size, 5, none⟩ = some (.string p.key) := fun w' E => cellsAt ((E.block _ gO5).trans BO5) 5
      have o6 : ∀ w', Ext Z w' → w'.cell? ⟨wr.heap.size, 6, none⟩ = some (.slice p.A1 p.n1 p.c1) := fun w' E => cellsAt ((E.block _ gO5).trans BO5) 6
      have o7 : ∀ w', Ext Z w' → w'.cell? ⟨wr.heap.size, 7, none⟩ = some (.slice p.A2 p.n2 p.c2) := fun w' E => cellsAt ((E.block _ gO5).trans BO5) 7
      have o8 : ∀ w', Ext Z w' → w'.cell? ⟨wr.heap.size, 8, none⟩ = some (.slice p.A3 p.n3 p.c3) := fun w' E => cellsAt ((E.block _ gO5).trans BO5) 8
      have a0 : ∀ w', Ext Z w' → w'.cell? ⟨U1.heap.size, 0, none⟩ = some (.slice aA aAn aAc) := fun w' E => cellsAt ((E.block _ gA5).trans BA5) 0
      have a1 : ∀ w', Ext Z w' → w'.cell? ⟨U1.heap.size, 1, none⟩ = some (.slice aB aBn aBc) := fun w' E => cellsAt ((E.block _ gA5).trans BA5) 1
      have a2 : ∀ w', Ext Z w' → w'.cell? ⟨U1.heap.size, 2, none⟩ = some (.slice aC aCn aCc) := fun w' E => cellsAt ((E.block _ gA5).trans BA5) 2
      have n0 : ∀ w', Ext Z w' → w'.cell? ⟨U4.heap.size, 0, none⟩ = some (.slice bA bAn bAc) := fun w' E => cellsAt ((E.block _ gB).trans BB) 0
      have n1 : ∀ w', Ext Z w' → w'.cell? ⟨U4.heap.size, 1, none⟩ = some (.slice bB bBn bBc) := fun w' E => cellsAt ((E.block _ gB).trans BB) 1
      have n2 : ∀ w', Ext Z w' → w'.cell? ⟨U4.heap.size, 2, none⟩ = some (.slice bC bCn bCc) := fun w' E => cellsAt ((E.block _ gB).trans BB) 2
      have ZZ := Ext.refl Z
      have gn6 : ∀ w', Ext Z w' → w'.cell? ⟨w.heap.size, 6, none⟩ = some (.slice m.Ap m.np m.cp) := fun w' E => k6 _ (E05.out.go E)
      have z6 := gn6 _ ZZ
      have zo0 := o0 _ ZZ
      have zo1 := o1 _ ZZ
      have zo2 := o2 _ ZZ
      go_cut [74] (fun t wx => (∃ bb, t = .bool bb ∧ bb = decide ((4 ≤ p.what ∧ p.what ≤ 6) ∨ p.now < 0 ∨ 1099511627776 < p.now ∨ ¬ p.n = m.np)) ∧ Z = wx)
      case first => as_aux_lemma =>
          have F4 : (decide (4 ≤ p.what) = true ∧ 4 ≤ p.what) ∨ (decide (4 ≤ p.what) = false ∧ ¬ 4 ≤ p.what) := by by_cases h : 4 ≤ p.what <;> simp [h]
          have F6 : (decide (p.what ≤ 6) = true ∧ p.what ≤ 6) ∨ (decide (p.what ≤ 6) = false ∧ ¬ p.what ≤ 6) := by by_cases h : p.what ≤ 6 <;> simp [h]
          have G0 : (decide (p.now < 0) = true ∧ p.now < 0) ∨ (decide (p.now < 0) = false ∧ ¬ p.now < 0) := by by_cases h : p.now < 0 <;> simp [h]
          have G1 : (decide (1099511627776 < p.now) = true ∧ 1099511627776 < p.now) ∨ (decide (1099511627776 < p.now) = false ∧ ¬ 1099511627776 < p.now) := by by_cases h : 1099511627776 < p.now <;> simp [h]
          have G2 : (((p.n : Int) != (m.np : Int)) = true ∧ ¬ p.n = m.np) ∨ (((p.n : Int) != (m.np : Int)) = false ∧ p.n = m.np) := by
            by_cases h : p.n = m.np
            · exact .inr ⟨by simp [h], h⟩
            · exact .inl ⟨by simp; omega, h⟩
          rcases F4 with ⟨d4, f4⟩ | ⟨d4, f4⟩
          · rcases F6 with ⟨d6, f6⟩ | ⟨d6, f6⟩
            · go_wp2_with fail
              go_meet
              exact ⟨⟨_, rfl, (decide_eq_true (p := (4 ≤ p.what ∧ p.what ≤ 6) ∨ p.now < 0 ∨ 1099511627776 < p.now ∨ ¬ p.n = m.np) (by omega)).symm⟩, rfl⟩
            · rcases G0 with ⟨d0, f0⟩ | ⟨d0, f0⟩
              · go_wp2_with fail
                go_meet
                exact ⟨⟨_, rfl, (decide_eq_true (p := (4 ≤ p.what ∧ p.what ≤ 6) ∨ p.now < 0 ∨ 1099511627776 < p.now ∨ ¬ p.n = m.np) (by omega)).symm⟩, rfl⟩
              · rcases G1 with ⟨d1, f1⟩ | ⟨d1, f1⟩
                · go_wp2_with fail
                  go_meet
                  exact ⟨⟨_, rfl, (decide_eq_true (p := (4 ≤ p.what ∧ p.what ≤ 6) ∨ p.now < 0 ∨ 1099511627776 < p.now ∨ ¬ p.n = m.np) (by omega)).symm⟩, rfl⟩
                · rcases G2 with ⟨d2, f2⟩ | ⟨d2, f2⟩
                  · go_wp2_with fail
                    go_meet
                    exact ⟨⟨_, rfl, (decide_eq_true (p := (4 ≤ p.what ∧ p.what ≤ 6) ∨ p.now < 0 ∨ 1099511627776 < p.now ∨ ¬ p.n = m.np) (by omega)).symm⟩, rfl⟩
                  · go_wp2_with fail
                    go_meet
                    exact ⟨⟨_, rfl, (decide_eq_false (p := (4 ≤ p.what ∧ p.what ≤ 6) ∨ p.now < 0 ∨ 1099511627776 < p.now ∨ ¬ p.n = m.np) (by omega)).symm⟩, rfl⟩
          · rcases G0 with ⟨d0, f0⟩ | ⟨d0, f0⟩
            · go_wp2_with fail
              go_meet
              exact ⟨⟨_, rfl, (decide_eq_true (p := (4 ≤ p.what ∧ p.what ≤ 6) ∨ p.now < 0 ∨ 1099511627776 < p.now ∨ ¬ p.n = m.np) (by omega)).symm⟩, rfl⟩
            · rcases G1 with ⟨d1, f1⟩ | ⟨d1, f1⟩
              · go_wp2_with fail
                go_meet
                exact ⟨⟨_, rfl, (decide_eq_true (p := (4 ≤ p.what ∧ p.what ≤ 6) ∨ p.now < 0 ∨ 1099511627776 < p.now ∨ ¬ p.n = m.np) (by omega)).symm⟩, rfl⟩
              · rcases G2 with ⟨d2, f2⟩ | ⟨d2, f2⟩
                · go_wp2_with fail
                  go_meet
                  exact ⟨⟨_, rfl, (decide_eq_true (p := (4 ≤ p.what ∧ p.what ≤ 6) ∨ p.now < 0 ∨ 1099511627776 < p.now ∨ ¬ p.n = m.np) (by omega)).symm⟩, rfl⟩
                · go_wp2_with fail
                  go_meet
                  exact ⟨⟨_, rfl, (decide_eq_false (p := (4 ≤ p.what ∧ p.what ≤ 6) ∨ p.now < 0 ∨ 1099511627776 < p.now ∨ ¬ p.n = m.np) (by omega)).symm⟩, rfl⟩
      case rest =>
      obtain ⟨⟨bb, rfl, hbb⟩, hwc⟩ := hcut
      subst hwc
      by_cases hSK : (4 ≤ p.what ∧ p.what ≤ 6) ∨ p.now < 0 ∨ 1099511627776 < p.now ∨ ¬ p.n = m.np
      · obtain rfl : bb = true := hbb.trans (decide_eq_true hSK)
        clear hbb
        go_wp2_with fail
        go_roundw
        case rel => exact ⟨k + 1, c', by omega, by go_num, hCo2.out, H5.out.mono (by omega), MD.out⟩
        case measure => simp [intOf] <;> omega
      obtain rfl : bb = false := hbb.trans (decide_eq_false hSK)
      clear hbb
      have hT := Lib.hid (hTk.out (by omega) (by omega) (by omega))
      obtain ⟨P0, hP0⟩ : ∃ P0, P0 = wr := ⟨_, rfl⟩
      subst hP0
      have t1 : Hid (RdC ltCells 3 Z Z.heap.size bA bAn (allL c'.ca)) := t1
      have t2 : Hid (RdC ltCells 3 Z Z.heap.size bB bBn (allL c'.ef)) := t2
      have t3 : Hid (RdI Z Z.heap.size .i64 bC bCn c'.en) := t3
      have u1 : Hid (RdC ltCells 3 Z Z.heap.size aA aAn (allL co.ca)) := u1
      have u2 : Hid (RdC ltCells 3 Z Z.heap.size aB aBn (allL co.ef)) := u2
      obtain rfl : bAn = m.nc := by have h1 := t1.out.len; have h2 := hCo2.out.cal; have h3 := hSm.out; simp only [allL, List.length_map, List.length_range] at h1; omega
      obtain rfl : bBn = m.ne := by have h1 := t2.out.len; have h2 := hCo2.out.efl; have h3 := hSm.out; simp only [allL, List.length_map, List.length_range] at h1; omega
      obtain rfl : bCn = m.nc := by have h1 := t3.out.len; have h2 := hCo2.out.en; have h3 := hSm.out; omega
      obtain rfl : aAn = m.nc := by have h1 := u1.out.len; have h2 := hCo'.out.cal; have h3 := hSm.out; simp only [allL, List.length_map, List.length_range] at h1; omega
      obtain rfl : aBn = m.ne := by have h1 := u2.out.len; have h2 := hCo'.out.efl; have h3 := hSm.out; simp only [allL, List.length_map, List.length_range] at h1; omega
      have hTr : Hid (∀ w', Ext Z w' → ∀ q : Nat, Calls Tryz.prog 12 #[.pointer (some ⟨K.g, 0, none⟩), .int .i64 q] w' (fun e w'' => e = .returned (.bool (c'.tr.getD q false)) ∧ w' = w'')) := Lib.hid (fun w' E' q => by
        have := trips_any base B _ K M c' w' (H5.out.ext E') q
        rw [show tripsC c' (q : Int) = c'.tr.getD q false from by unfold tripsC; rw [Int.toNat_natCast, show decide (0 ≤ (q : Int)) = true from decide_eq_true (by omega), Bool.true_and]] at this
        exact this)
      have hHs : Hid (∀ w', Ext Z w' → ∀ x : Nt, cntN x ns = 1 → Calls Tryz.prog 13 #[.slice A5 n5 c5, .agg #[.int .i64 x.1, .int .i64 x.2.1, .int .i64 x.2.2]] w' fun e w'' => e = .returned (.bool true) ∧ Ext w' w'') := Lib.hid (fun w' E' x hx => by
        have := has17_any A5 n5 c5 ns x w' (R55.out.ext E') hn5'.out
        rw [show decide (cntN x ns = 1) = true from decide_eq_true hx] at this
        exact this)
      clear hTk
      go_upto_region 14 with fail
      go_loopw [12] (fun i wx => ∃ j : Nat, j ≤ m.nc ∧ i = .int .i64 j ∧ Ext Z wx) (fun i _ => m.nc - (intOf i).toNat)
      case atStart => exact ⟨0, by omega, rfl, Ext.refl _⟩
      case round =>
        obtain ⟨j, hj, rfl, E⟩ := hrel
        obtain ⟨Y, hY⟩ : ∃ Y, Y = wr := ⟨_, rfl⟩
        subst hY
        have m7 : Y.cell? ⟨w.heap.size, 7, none⟩ = some (.slice m.Ac m.nc m.cc) := k7 _ (E05.out.go E)
        by_cases hjn : j < m.nc
        · as_aux_lemma =>
            have e4 : (j : Int) < (m.nc : Int) := by omega
            obtain ⟨b2, p2, hb2, L2⟩ := latch_cell t1.out hjn
            obtain ⟨b3, p3, hb3, L3⟩ := latch_cell u1.out hjn
            obtain ⟨b4, p4, hb4, L4⟩ := end_cell t3.out hjn
            have hA1 := hT.out.ca j (by have := hSm.out.1; omega)
            have hA2 := hT.out.cn j
            have hTr' := fun w' (E' : Ext Y w') => hTr.out w' (E.go E') j
            obtain ⟨sn, hsn⟩ : ∃ x, x = setOf c'.ca j := ⟨_, rfl⟩
            obtain ⟨so, hso⟩ : ∃ x, x = setOf co.ca j := ⟨_, rfl⟩
            obtain ⟨en, hen⟩ : ∃ x, x = c'.en.getD j 0 := ⟨_, rfl⟩
            obtain ⟨tq, htq⟩ : ∃ x, x = c'.tr.getD j false := ⟨_, rfl⟩
            rw [← hsn] at L2 hA1 hA2
            rw [← hso] at L3 hA2
            rw [← hen] at L4 hA1
            rw [← htq] at hA1 hTr'
            have hHs' := fun (h : cntN (1, (j : Int), p.now) ns = 1) w' (E' : Ext Y w') => hHs.out w' (E.go E') (1, (j : Int), p.now) h
            dsimp only at hHs'
            have hen0 : Hid (0 ≤ en) := Lib.hid (by rw [hen]; exact en_nonneg hCo2.out j)
            have hA1' := Lib.hid hA1
            have hA2' := Lib.hid hA2
            have hTr2 := Lib.hid hTr'
            have hHs2 := Lib.hid hHs'
            have y2 : ∀ w', Ext Y w' → w'.cell? ⟨P0.heap.size, 2, none⟩ = some (.int .i64 p.now) := fun w' E' => o2 _ (E.go E')
            have yn0 : ∀ w', Ext Y w' → w'.cell? ⟨U4.heap.size, 0, none⟩ = some (.slice (some ⟨b2, p2, none⟩) m.nc bAc) := fun w' E' => by rw [← hb2]; exact n0 _ (E.go E')
            have ya0 : ∀ w', Ext Y w' → w'.cell? ⟨U1.heap.size, 0, none⟩ = some (.slice (some ⟨b3, p3, none⟩) m.nc aAc) := fun w' E' => by rw [← hb3]; exact a0 _ (E.go E')
            have yn2 : ∀ w', Ext Y w' → w'.cell? ⟨U4.heap.size, 2, none⟩ = some (.slice (some ⟨b4, p4, none⟩) m.nc bCc) := fun w' E' => by rw [← hb4]; exact n2 _ (E.go E')
            have l2 : ∀ w', Ext Y w' → w'.cell? ⟨b2, p2 + j * 3, none⟩ = some (.bool sn) := fun w' E' => L2 _ (E.go E')
            have l3 : ∀ w', Ext Y w' → w'.cell? ⟨b3, p3 + j * 3, none⟩ = some (.bool so) := fun w' E' => L3 _ (E.go E')
            have l4 : ∀ w', Ext Y w' → w'.cell? ⟨b4, p4 + j, none⟩ = some (.int .i64 en) := fun w' E' => L4 _ (E.go E')
            have E' := Lib.hid E
            clear L2 L3 L4 hsn hso hen htq hb2 hb3 hb4 hA1 hA2 hTr' hHs' E o0 o1 o2 o3 o4 o5 o6 o7 o8 n0 n1 n2 a0 a1 a2
            go_upto_region 16 with fail
            clear m7
            have YY := Ext.refl Y
            have z2 := y2 _ YY
            have zn0 := yn0 _ YY
            have zn2 := yn2 _ YY
            have zl2 := l2 _ YY
            have zl4 := l4 _ YY
            go_cut [13] (fun t wx => (∃ bb, t = .bool bb ∧ bb = decide (0 < en ∧ p.now < en)) ∧ Ext Y wx)
            case first =>
              by_cases g0 : 0 < en
              · have d0 : decide (0 < en) = true := decide_eq_true g0
                by_cases g1 : p.now < en
                · have d1 : decide (p.now < en) = true := decide_eq_true g1
                  go_quiet (fail)
                  go_wp2_with fail
                  go_meet
                  exact ⟨⟨_, rfl, (decide_eq_true (p := 0 < en ∧ p.now < en) (by omega)).symm⟩, (Ext.refl Y).goD nq⟩
                · have d1 : decide (p.now < en) = false := decide_eq_false g1
                  go_quiet (fail)
                  go_wp2_with fail
                  go_meet
                  exact ⟨⟨_, rfl, (decide_eq_false (p := 0 < en ∧ p.now < en) (by omega)).symm⟩, (Ext.refl Y).goD nq⟩
              · have d0 : decide (0 < en) = false := decide_eq_false g0
                go_quiet (fail)
                go_wp2_with fail
                go_meet
                exact ⟨⟨_, rfl, (decide_eq_false (p := 0 < en ∧ p.now < en) (by omega)).symm⟩, (Ext.refl Y).goD nq⟩
            case rest =>
            obtain ⟨⟨by_, rfl, hby⟩, EY⟩ := hcut
            have hby' := Lib.hid hby
            clear hby
            obtain ⟨X, hX⟩ : ∃ X, X = wc := ⟨_, rfl⟩
            subst hX
            have EYX := EY
            have hTX := Lib.hid (hTr2.out X EY)
            have x2 : ∀ w', Ext X w' → w'.cell? ⟨P0.heap.size, 2, none⟩ = some (.int .i64 p.now) := fun w' E' => y2 _ (EY.go E')
            have xn0 : ∀ w', Ext X w' → w'.cell? ⟨U4.heap.size, 0, none⟩ = some (.slice (some ⟨b2, p2, none⟩) m.nc bAc) := fun w' E' => yn0 _ (EY.go E')
            have xa0 : ∀ w', Ext X w' → w'.cell? ⟨U1.heap.size, 0, none⟩ = some (.slice (some ⟨b3, p3, none⟩) m.nc aAc) := fun w' E' => ya0 _ (EY.go E')
            have xl2 : ∀ w', Ext X w' → w'.cell? ⟨b2, p2 + j * 3, none⟩ = some (.bool sn) := fun w' E' => l2 _ (EY.go E')
            have xl3 : ∀ w', Ext X w' → w'.cell? ⟨b3, p3 + j * 3, none⟩ = some (.bool so) := fun w' E' => l3 _ (EY.go E')
            have XX := Ext.refl X
            have zx2 := x2 _ XX
            have zxn0 := xn0 _ XX
            have zxa0 := xa0 _ XX
            have zxl2 := xl2 _ XX
            have zxl3 := xl3 _ XX
            clear z2 zn0 zn2 zl2 zl4 y2 yn0 ya0 yn2 l2 l3 l4 YY
            go_upto_region 17 with fail
            go_cut [113] (fun t wx => t = .bool false ∧ X = wx)
            case first =>
              cases tq with
              | false =>
                go_wp2_with (go_at_call 12; refine hTX.out.mono ?_; rintro e w' ⟨rfl, rfl⟩)
                go_meet
                exact ⟨rfl, rfl⟩
              | true =>
                cases by_ with
                | true =>
                  go_wp2_with (go_at_call 12; refine hTX.out.mono ?_; rintro e w' ⟨rfl, rfl⟩)
                  go_meet
                  exact ⟨rfl, rfl⟩
                | false =>
                  have hb := of_decide_eq_false hby'.out.symm
                  have hz := hen0.out
                  obtain rfl : sn = true := hA1'.out rfl (by omega)
                  clear hb hz
                  go_wp2_with (go_at_call 12; refine hTX.out.mono ?_; rintro e w' ⟨rfl, rfl⟩)
                  go_meet
                  exact ⟨rfl, rfl⟩
            case rest =>
            obtain ⟨rfl, hwc2⟩ := hcut
            subst hwc2
            go_upto_region 19 with fail
            by_cases hne : sn = so
            · have dn : (sn != so) = false := by simp [hne]
              go_quiet (fail)
              go_wp2_with fail
              go_roundw
              case rel => exact ⟨j + 1, by omega, by go_num, (E'.out.go EYX).goD nq⟩
              case measure => simp [intOf]; omega
            · obtain ⟨rfl, rfl⟩ | ⟨rfl, rfl⟩ : (sn = true ∧ so = false) ∨ (sn = false ∧ so = true) := by revert hne; cases sn <;> cases so <;> simp
              all_goals
                have hc1 := hA2'.out hne
                have hHX := Lib.hid (fun w' (E' : Ext X w') => hHs2.out hc1 w' (EYX.go E'))
                clear hc1
                go_still_tail 19, (by kernel_rfl)
                have EXd : Ext X X.drew := (Ext.refl X).god
                go_wp2_with (go_at_call 13; refine (hHX.out _ EXd).mono ?_; rintro e W9 ⟨rfl, E9⟩)
                have hHeld := EXd.go E9
                go_roundw
                case rel => exact ⟨j + 1, by omega, by go_num, E'.out.go (EYX.go hHeld)⟩
                case measure => simp [intOf]; omega
        · obtain rfl : j = m.nc := by omega
          go_upto_region 22 with fail
          clear m7
          go_loopw [14] (fun i wx => ∃ e : Nat, e ≤ m.ne ∧ i = .int .i64 e ∧ Ext Z wx) (fun i _ => m.ne - (intOf i).toNat)
          case atStart => exact ⟨0, by omega, rfl, E⟩
          case round =>
          clear E
          obtain ⟨e, he, rfl, E⟩ := hrel
          obtain ⟨Y2, hY2⟩ : ∃ Y2, Y2 = wr := ⟨_, rfl⟩
          subst hY2
          have m8 : Y2.cell? ⟨w.heap.size, 8, none⟩ = some (.slice m.Ae m.ne m.ce) := k8 _ (E05.out.go E)
          by_cases hen : e < m.ne
          · have e5 : (e : Int) < (m.ne : Int) := by omega
            obtain ⟨x, hx⟩ := ok'.out.ef.get hen
            obtain ⟨b6, p6, hb6, hlt6, hc6⟩ := ok'.out.ef.at_ hx
            have hmx := List.mem_of_getElem? hx
            have xps := ok'.out.efo x hmx
            have hxc : x.n ≤ 8 := by have h1 := ((right_parts hR).2.1 x hmx).1; have h2 := xps.1.len; omega
            have hxp := Lib.hid xps.1
            have hpsM : Hid ((efAt M e).ps = x.ps) := Lib.hid (hSm.out.2.2.2.2 e x hx)
            have hqr : Hid (∀ q ∈ x.ps, 0 ≤ q ∧ q < m.nc) := Lib.hid fun q hq => by have := ((right_parts hR).2.1 x hmx).2 q hq; have := hSm.out.2.2.2.1; omega
            have w8 : ∀ w', Ext Z w' → w'.cell? ⟨w.heap.size, 8, none⟩ = some (.slice (some ⟨b6, p6, none⟩) m.ne m.ce) := fun w' E' => by rw [← hb6]; exact k8 _ (E05.out.go E')
            have w84 : Hid (∀ w', Ext Z w' → w'.cell? ⟨b6, p6 + e * 5 + 4, none⟩ = some (.slice x.A x.n x.c)) := Lib.hid fun w' E' => ((E05.out.go E').cell _ hlt6).trans (hc6 4 (by decide))
            obtain ⟨b2, p2, hb2, L2⟩ := latch_cell t2.out hen
            obtain ⟨b3, p3, hb3, L3⟩ := latch_cell u2.out hen
            have hA1 := hT.out.ef e (by have := hSm.out.2.1; omega)
            have hA2 := hT.out.en e
            obtain ⟨sn, hsn⟩ : ∃ x, x = setOf c'.ef e := ⟨_, rfl⟩
            obtain ⟨so, hso⟩ : ∃ x, x = setOf co.ef e := ⟨_, rfl⟩
            rw [← hsn] at L2 hA1 hA2
            rw [← hso] at L3 hA2
            rw [hpsM.out] at hA1
            have hHs' := fun (h : cntN (2, (e : Int), p.now) ns = 1) w' (E' : Ext Z w') => hHs.out w' E' (2, (e : Int), p.now) h
            dsimp only at hHs'
            have hA1' := Lib.hid hA1
            have hA2' := Lib.hid hA2
            have hHs2 := Lib.hid hHs'
            have hn1 : ∀ w', Ext Z w' → w'.cell? ⟨U4.heap.size, 1, none⟩ = some (.slice (some ⟨b2, p2, none⟩) m.ne bBc) := fun w' E' => by rw [← hb2]; exact n1 _ E'
            have ha1 : ∀ w', Ext Z w' → w'.cell? ⟨U1.heap.size, 1, none⟩ = some (.slice (some ⟨b3, p3, none⟩) m.ne aBc) := fun w' E' => by rw [← hb3]; exact a1 _ E'
            clear hsn hso hb2 hb3 hA1 hA2 hHs' hx hc6 hb6 hmx xps hpsM
            go_upto_region 25 with fail
            clear m8
            go_loopw [15] (fun i wx => ∃ g : Nat, g ≤ x.n ∧ i = .int .i64 g ∧ Ext Z wx) (fun i _ => x.n - (intOf i).toNat)
            case atStart => exact ⟨0, by omega, rfl, E⟩
            case round =>
            clear E
            obtain ⟨g, hg, rfl, E⟩ := hrel
            obtain ⟨Y3, hY3⟩ : ∃ Y3, Y3 = wr := ⟨_, rfl⟩
            subst hY3
            have m8 := w8 _ E
            have m84 := w84.out _ E
            by_cases hgx : g < x.n
            · as_aux_lemma =>
                have e6 : (g : Int) < (x.n : Int) := by omega
                obtain ⟨b7, p7, hb7, hlt7, hc7⟩ := hxp.out.at_ hgx
                have hmem : x.ps.getD g 0 ∈ x.ps := by
                  have := hxp.out.len
                  rw [List.getD_eq_getElem?_getD, List.getElem?_eq_getElem (by omega)]
                  exact List.getElem_mem _
                obtain ⟨q, hq⟩ : ∃ q : Nat, x.ps.getD g 0 = (q : Int) := ⟨(x.ps.getD g 0).toNat, by have := hqr.out _ hmem; omega⟩
                rw [hq] at hc7 hmem
                have hqn := (hqr.out _ hmem).2
                have c7 : Y3.cell? ⟨b7, p7 + g, none⟩ = some (.int .i64 q) := ((E05.out.go E).cell _ hlt7).trans hc7
                have e7 : (q : Int) < (m.nc : Int) := hqn
                rw [hb7] at m84
                have hB1 := hA1'.out q (by have := hSm.out.1; omega) (by rw [List.contains_iff_mem]; exact hmem)
                obtain ⟨b4, p4, hb4, L4⟩ := end_cell t3.out (show q < m.nc by omega)
                obtain ⟨en, hen2⟩ : ∃ x, x = c'.en.getD q 0 := ⟨_, rfl⟩
                obtain ⟨tq, htq⟩ : ∃ x, x = c'.tr.getD q false := ⟨_, rfl⟩
                have hTq : ∀ n, Calls Tryz.prog 12 #[.pointer (some ⟨K.g, 0, none⟩), .int .i64 q] (Y3.drewN n) (fun e w' => e = .returned (.bool (c'.tr.getD q false)) ∧ w' = Y3.drewN n) := fun n => (hTr.out _ (E.goD n) q).mono fun e w' ⟨h1, h2⟩ => ⟨h1, h2.symm⟩
                rw [← hen2] at L4 hB1
                rw [← htq] at hB1 hTq
                have hB1' := Lib.hid hB1
                have hTq' := Lib.hid hTq
                have zn1 := hn1 _ E
                have zn2 : Y3.cell? ⟨U4.heap.size, 2, none⟩ = some (.slice (some ⟨b4, p4, none⟩) m.nc bCc) := by rw [← hb4]; exact n2 _ E
                have zl2 := L2 _ E
                have zl4 := L4 _ E
                have zo2 := o2 _ E
                clear hen2 htq hb4 hB1 hTq L4 hb7 hc7 hmem hq n0 n1 n2 a0 a1 a2
                go_upto_region 28 with fail
                go_cut [192] (fun t wx => t = .bool false ∧ Ext Y3 wx)
                case first =>
                  cases tq with
                  | false =>
                    go_quiet ((go_at_call 12; exact Calls.quiet_of_same (hTq'.out _)))
                    go_wp2_with fail
                    go_meet
                    exact ⟨rfl, (Ext.refl Y3).goD nq⟩
                  | true =>
                    by_cases f0 : en = 0
                    · obtain rfl : sn = true := hB1'.out rfl (.inl f0)
                      subst f0
                      go_quiet ((go_at_call 12; exact Calls.quiet_of_same (hTq'.out _)))
                      go_wp2_with fail
                      go_meet
                      exact ⟨rfl, (Ext.refl Y3).goD nq⟩
                    · have d0 : (en == 0) = false := by simp [f0]
                      by_cases f1 : en ≤ p.now
                      · obtain rfl : sn = true := hB1'.out rfl (.inr f1)
                        have d1 : decide (en ≤ p.now) = true := decide_eq_true f1
                        go_quiet ((go_at_call 12; exact Calls.quiet_of_same (hTq'.out _)))
                        go_wp2_with fail
                        go_meet
                        exact ⟨rfl, (Ext.refl Y3).goD nq⟩
                      · have d1 : decide (en ≤ p.now) = false := decide_eq_false f1
                        go_quiet ((go_at_call 12; exact Calls.quiet_of_same (hTq'.out _)))
                        go_wp2_with fail
                        go_meet
                        exact ⟨rfl, (Ext.refl Y3).goD nq⟩
                case rest =>
                obtain ⟨rfl, EYX⟩ := hcut
                go_wp2_with fail
                go_roundw
                case rel => exact ⟨g + 1, by omega, by go_num, E.go EYX⟩
                case measure => simp [intOf] <;> omega
            · as_aux_lemma =>
                obtain rfl : g = x.n := by omega
                obtain ⟨X, hX⟩ : ∃ X, X = Y3 := ⟨_, rfl⟩
                subst hX
                have x2 : ∀ w', Ext X w' → w'.cell? ⟨P0.heap.size, 2, none⟩ = some (.int .i64 p.now) := fun w' E' => o2 _ (E.go E')
                have xn0 : ∀ w', Ext X w' → w'.cell? ⟨U4.heap.size, 1, none⟩ = some (.slice (some ⟨b2, p2, none⟩) m.ne bBc) := fun w' E' => hn1 _ (E.go E')
                have xa0 : ∀ w', Ext X w' → w'.cell? ⟨U1.heap.size, 1, none⟩ = some (.slice (some ⟨b3, p3, none⟩) m.ne aBc) := fun w' E' => ha1 _ (E.go E')
                have xl2 : ∀ w', Ext X w' → w'.cell? ⟨b2, p2 + e * 3, none⟩ = some (.bool sn) := fun w' E' => L2 _ (E.go E')
                have xl3 : ∀ w', Ext X w' → w'.cell? ⟨b3, p3 + e * 3, none⟩ = some (.bool so) := fun w' E' => L3 _ (E.go E')
                have EX2 := Lib.hid E
                have XX := Ext.refl X
                have zx2 := x2 _ XX
                have zxn0 := xn0 _ XX
                have zxa0 := xa0 _ XX
                have zxl2 := xl2 _ XX
                have zxl3 := xl3 _ XX
                clear L2 L3 E o0 o1 o2 o3 o4 o5 o6 o7 o8 n0 n1 n2 a0 a1 a2 hn1 ha1 w8 w84
                go_upto_region 30 with fail
                clear m8 m84
                by_cases hne : sn = so
                · have dn : (sn != so) = false := by simp [hne]
                  go_quiet (fail)
                  go_wp2_with fail
                  go_roundw
                  case rel => exact ⟨e + 1, by omega, by go_num, EX2.out.goD nq⟩
                  case measure => simp [intOf]; omega
                · obtain ⟨rfl, rfl⟩ | ⟨rfl, rfl⟩ : (sn = true ∧ so = false) ∨ (sn = false ∧ so = true) := by revert hne; cases sn <;> cases so <;> simp
                  all_goals
                    have hc1 := hA2'.out hne
                    have hHX := Lib.hid (fun w' (E' : Ext X w') => hHs2.out hc1 w' (EX2.out.go E'))
                    clear hc1
                    go_still_tail 19, (by kernel_rfl)
                    have EXd : Ext X X.drew := (Ext.refl X).god
                    go_wp2_with (go_at_call 13; refine (hHX.out _ EXd).mono ?_; rintro e W9 ⟨rfl, E9⟩)
                    have hHeld := EXd.go E9
                    go_roundw
                    case rel => exact ⟨e + 1, by omega, by go_num, EX2.out.go hHeld⟩
                    case measure => simp [intOf]; omega
          · obtain rfl : e = m.ne := by omega
            go_wp2_with fail
            go_roundw
            case rel => exact ⟨k + 1, c', by omega, by go_num, hCo2.out, (H5.out.ext E).mono (by omega), MD.out.trans (E.mod _)⟩
            case measure => simp [intOf] <;> omega
    · obtain rfl : k = n := by omega
      go_wp2_with fail
      go_ret
      exact ⟨rfl, E0'.out.go EX.out⟩
end Go.Proofs.YtgajbgdkgelkgaaGreat
