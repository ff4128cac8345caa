/- Layer 17: with nothing known of any point each cause trips, in the first Scan; with all known as it does not trip none does. Printed by gen/lounknown.py. -/
import Derived.Test.YtgajbgdkgelkgaaGreatG19
import Derived.Test.YtgajbgdkgelkgaaGreatLoTripsLaw
namespace Go.Proofs.YtgajbgdkgelkgaaGreat
open Go.RowKit

theorem info_sample : (Tryz.prog.info? 37).map (fun i => (i.zero, i.size, i.bytes)) = some (some (.agg #[.bool false, .int .i64 0]), 2, 16) := by kernel_rfl
theorem made2_flat (n : Nat) : madeCells #[.bool false, .int .i64 0] (n * 2) = ((List.replicate n ((false, 0) : Sm)).flatMap smCells).toArray := by
  suffices h : (madeCells #[.bool false, .int .i64 0] (n * 2)).toList = (List.replicate n ((false, 0) : Sm)).flatMap smCells from Array.toList_inj.1 (by rw [h])
  induction n with
  | zero => simp [madeCells]
  | succ n ih =>
    rw [List.replicate_succ', List.flatMap_append, ← ih]
    unfold madeCells
    rw [show (n + 1) * 2 = n * 2 + 1 + 1 by omega, Array.range_succ, Array.range_succ]
    have e0 : n * 2 % 2 = 0 := by omega
    have e1 : (n * 2 + 1) % 2 = 1 := by omega
    simp [e0, e1, smCells]
/-- A slice of n structs of two cells, made. -/
theorem run_mk2 {P : Program} {t e : TypeId} {a b : Value} {by_ : Nat} (ht : P.underlying t = some (.slice e)) (hi : (P.info? e).map (fun i => (i.zero, i.size, i.bytes)) = some (some (.agg #[a, b]), 2, by_)) (n : Nat) (hb : n * by_ ≤ 281474976710656) (hn : n ≤ 9223372036854775807) (w : World) :
    (Instr.makeSlice t (.int .i64 n) (.int .i64 n)).run P w = .ok (.slice (some ⟨w.heap.size, 0, none⟩) n n) (w.alloc (.cells (madeCells #[a, b] (n * 2)) e)) := by
  obtain ⟨i, h1, h2, h3, h4⟩ := info_parts hi
  have hh : (i.bytes : Int) * (n : Int) ≤ 281474976710656 := by
    rw [h4]
    have : ((n * by_ : Nat) : Int) ≤ 281474976710656 := by omega
    rwa [Int.natCast_mul, Int.mul_comm] at this
  have := run_make (P := P) w t e i _ ht h1 h2 .i64 .i64 (n : Int) (n : Int) (by omega) (Int.le_refl _) hh (by omega)
  rw [h3] at this
  simpa only [Int.toNat_natCast, Value.cells] using this
def wellS (p : Pt) : Sm := (true, 1 - p.tr)
theorem well_more {xs : List Pt} {k : Nat} {x : Pt} (hx : xs[k]? = some x) : (xs.take k).flatMap (fun p => smCells (wellS p)) ++ [.bool true, .int .i64 (1 - x.tr)] = (xs.take (k + 1)).flatMap (fun p => smCells (wellS p)) := by
  rw [List.take_add_one, hx]
  simp [smCells, wellS]
theorem pt_tr {m : Mx} (h : rightM m = true) {x : Pt} (hx : x ∈ m.pts) : 0 ≤ x.tr ∧ x.tr ≤ 1 := by
  unfold rightM pointsB at h
  simp only [Bool.and_eq_true, List.all_eq_true] at h
  have h1 := h.1.1.2.1 _ hx
  unfold ptB wiB at h1
  simp only [Bool.and_eq_true, decide_eq_true_eq] at h1
  omega
set_option maxRecDepth 100000 in
set_option maxHeartbeats 12800000 in
theorem logicUnknown_any (m : Mx) (now : Int) (w : World) (ok : OkMx w w.heap.size m) (hnow : 0 ≤ now ∧ now ≤ 4294967295) :
    Calls Tryz.prog 3 #[m.val, .int .u32 now] w fun e w' => e = .returned (.bool true) ∧ Ext w w' := by
  have B0 := heap_alloc_new w (.cells m.arr 27)
  have E0 := (Ext.refl w).goA (.cells m.arr 27)
  have S0 : (w.alloc (.cells m.arr 27)).heap.size = w.heap.size + 1 := by simp
  have ok' := Lib.hid (ok.ext E0)
  have E0' := Lib.hid E0
  clear ok E0
  unfold Mx.val
  go_enter Tryz.func3, Tryz.ntmps3
  go_upto_region 1 with fail
  generalize w.alloc (.cells m.arr 27) = V at *
  have gV : w.heap.size < V.heap.size := by omega
  have k0 : ∀ w', Ext V w' → w'.cell? ⟨w.heap.size, 0, none⟩ = some (.int .i64 m.rt) := fun w' E => cellsAt ((E.block _ gV).trans B0) 0
  have k1 : ∀ w', Ext V w' → w'.cell? ⟨w.heap.size, 1, none⟩ = some (.int .i64 m.wt) := fun w' E => cellsAt ((E.block _ gV).trans B0) 1
  have k2 : ∀ w', Ext V w' → w'.cell? ⟨w.heap.size, 2, none⟩ = some (.int .i64 m.bk) := fun w' E => cellsAt ((E.block _ gV).trans B0) 2
  have k3 : ∀ w', Ext V w' → w'.cell? ⟨w.heap.size, 3, none⟩ = some (.int .i64 m.cy) := fun w' E => cellsAt ((E.block _ gV).trans B0) 3
  have k4 : ∀ w', Ext V w' → w'.cell? ⟨w.heap.size, 4, none⟩ = some (.string m.key) := fun w' E => cellsAt ((E.block _ gV).trans B0) 4
  have k5 : ∀ w', Ext V w' → w'.cell? ⟨w.heap.size, 5, none⟩ = some (.slice m.Ad m.nd m.cd) := fun w' E => cellsAt ((E.block _ gV).trans B0) 5
  have k6 : ∀ w', Ext V w' → w'.cell? ⟨w.heap.size, 6, none⟩ = some (.slice m.Ap m.np m.cp) := fun w' E => cellsAt ((E.block _ gV).trans B0) 6
  have k7 : ∀ w', Ext V w' → w'.cell? ⟨w.heap.size, 7, none⟩ = some (.slice m.Ac m.nc m.cc) := fun w' E => cellsAt ((E.block _ gV).trans B0) 7
  have k8 : ∀ w', Ext V w' → w'.cell? ⟨w.heap.size, 8, none⟩ = some (.slice m.Ae m.ne m.ce) := fun w' E => cellsAt ((E.block _ gV).trans B0) 8
  have B0' := Lib.hid B0
  clear B0
  go_upto_region 2 with (go_at_call 8; refine (head17_any _).mono ?_; rintro e W1 ⟨rfl, X1⟩)
  cases hR : rightM m with
  | false =>
    go_upto_region 3 with (go_at_call 9; refine (coNew_any m _ (ok'.out.ext X1)).mono ?_; rintro e W2 hN; obtain ⟨-, rfl, X2⟩ := hN.resolve_right (fun h => by rw [hR] at h; cases h.1))
    have X12 := X1.go X2
    go_wp2_with (go_at_call 9; refine (coNew_any m _ (ok'.out.ext X12)).mono ?_; rintro e W3 hN3; obtain ⟨-, rfl, X3⟩ := hN3.resolve_right (fun h => by rw [hR] at h; cases h.1))
    go_ret
    exact ⟨rfl, (E0'.out.go X12).go X3⟩
  | true =>
  go_upto_region 3 with (go_at_call 9; refine (coNew_any m _ (ok'.out.ext X1)).mono ?_; rintro e W2 hN; obtain ⟨-, base, B, K, M, rfl, hK, hS, X2, hb0, hlt⟩ := hN.resolve_left (fun h => by rw [hR] at h; cases h.1))
  have X12 : Ext V W2 := X1.go X2
  go_upto_region 4 with (go_at_call 9; refine (coNew_any m _ (ok'.out.ext X12)).mono ?_; rintro e W2b hN2; obtain ⟨-, baseD, BD, KD, MD, rfl, hKD, hSD, X2b, hb0D, hltD⟩ := hN2.resolve_left (fun h => by rw [hR] at h; cases h.1))
  have Y2 : Ext V W2b := X12.go X2b
  have hRM : Hid (rightM M = true) := Lib.hid (hS.right.trans hR)
  have hRD : Hid (rightM MD = true) := Lib.hid (hSD.right.trans hR)
  have hold : ∀ b, K.mut M.np b → b < W2.heap.size := fun b hb => hK.old hb
  have hK' := Lib.hid (hK.ext X2b)
  have hD' := Lib.hid hKD
  have hap : Hid (∀ b, K.mut M.np b → b < W2.heap.size) := Lib.hid hold
  have hBK : Hid (B ≤ W2.heap.size) := Lib.hid (Nat.le_trans hK.big.1 (Nat.le_of_lt (hold _ (.inl rfl))))
  have hDlo : Hid (W2.heap.size ≤ baseD ∧ ∀ b, KD.mut MD.np b → W2.heap.size ≤ b ∧ b < W2b.heap.size) := Lib.hid ⟨hb0D, fun b hb => ⟨hltD b hb, hKD.old hb⟩⟩
  have hKV : Hid (∀ b, K.mut M.np b → V.heap.size ≤ b) := Lib.hid fun b hb => Nat.le_trans X1.size (hlt b hb)
  have z12 := X12.size
  have z2b := X2b.size
  have hpm : Hid (M.pts = m.pts ∧ MD.pts = m.pts ∧ M.cas.length = m.nc ∧ MD.cas.length = m.nc) := Lib.hid ⟨hS.pts, hSD.pts, by
    have := congrArg List.length hS.cas; have h2 := ok'.out.ca.len; simp only [List.length_map] at this; omega, by
    have := congrArg List.length hSD.cas; have h2 := ok'.out.ca.len; simp only [List.length_map] at this; omega⟩
  have hsz : m.np ≤ 16 ∧ m.nc ≤ 8 := by
    have h1 := hK.lens
    have h2 := hpm.out
    have h3 := ok'.out.pt.len
    rw [h2.1] at h1
    omega
  clear hK hS hb0 hlt X2 hKD hSD hb0D hltD hN hN2 hold
  go_wp2_with fail
  refine (great08_any m _ (ok'.out.ext Y2)).mono ?_
  rintro e W3 ⟨⟨b3, rfl⟩, X3⟩
  have Y3 : Ext V W3 := Y2.go X3
  cases b3 with
  | true =>
    go_wp2_with fail
    go_ret
    exact ⟨rfl, E0'.out.go Y3⟩
  | false =>
  have hmk := fun w => run_mk2 Tryz.underlying33 info_sample m.np (by omega) (by omega) w
  have m6 := k6 _ Y3
  go_upto_region 7 with fail
  have BN := heap_alloc_new W3 (.cells (madeCells #[.bool false, .int .i64 0] (m.np * 2)) 37)
  have EN := (Ext.refl W3).goA (.cells (madeCells #[.bool false, .int .i64 0] (m.np * 2)) 37)
  have SN : (W3.alloc (.cells (madeCells #[.bool false, .int .i64 0] (m.np * 2)) 37)).heap.size = W3.heap.size + 1 := by simp
  have RN := Lib.hid (RdC.lit (cells := smCells) (sz := 2) (n := m.np) (xs := List.replicate m.np ((false, 0) : Sm)) (fun _ => rfl) BN (made2_flat m.np) (by simp))
  have Y4 : Hid (Ext V (W3.alloc (.cells (madeCells #[.bool false, .int .i64 0] (m.np * 2)) 37))) := Lib.hid (Y3.go EN)
  have HK4 := Lib.hid ((hK'.out.ext X3).ext EN)
  have HD4 := Lib.hid ((hD'.out.ext X3).ext EN)
  have z3 := X3.size
  clear hmk m6 BN EN
  generalize W3.alloc (.cells (madeCells #[.bool false, .int .i64 0] (m.np * 2)) 37) = U at *
  go_upto_region 9 with fail
  go_loopw [9, 10] (fun u i wr => ∃ k : Nat, k ≤ m.np ∧ i = .int .i64 k ∧ Ext U wr ∧ wr.ownsRow U.heap.size 37 2 u k ((m.pts.take k).flatMap fun p => smCells (wellS p))) (fun _ i _ => m.np - (intOf i).toNat)
  case atStart => exact ⟨0, by omega, rfl, Ext.refl _, by simpa using World.ownsRow_nil _ _ _ _⟩
  case round =>
    obtain ⟨k, hk, rfl, E, own⟩ := hrel
    have E0 := Lib.hid E
    have own0 := Lib.hid own
    have F0 := Y4.out.go E
    have Ez := E.size
    have m6 : wr.cell? ⟨w.heap.size, 6, none⟩ = some (.slice m.Ap m.np m.cp) := k6 _ F0
    have F0' := Lib.hid F0
    clear E own F0
    by_cases hlt : k < m.np
    · have e3 : (k : Int) < (m.np : Int) := by omega
      obtain ⟨x, hx⟩ := ok'.out.pt.get hlt
      obtain ⟨b, o, hA, hb, hc⟩ := ok'.out.pt.at_ hx
      have hx' := Lib.hid hx
      have cx3 : wr.cell? ⟨b, o + k * 6 + 3, none⟩ = some (.int .i64 x.tr) := (F0'.out.cell _ hb).trans (hc 3 (by decide))
      have htr := pt_tr hR (List.mem_of_getElem? hx)
      have wtr : IntKind.i64.wrap (1 - x.tr) = 1 - x.tr := by rw [IntKind.wrap_i64]; omega
      rw [hA] at m6
      clear hx hc htr hA
      go_wp2_with (at_builtin; refine wpList_appS rfl (.tmp 41) (.tmp 50) _ rfl Tryz.underlying33 info_sample rfl (by decide) (own0.out.alloc _) rfl (new := [.bool true, .int .i64 (1 - x.tr)]) rfl (heap_new_at (by simp)) rfl (by intro u hu; simp at hu; rcases hu with rfl | rfl <;> rfl) (by omega) (by unfold maxLen; omega) (by simp; omega) ?_; intro vz wz ownz hgz _)
      go_roundw
      case rel => exact ⟨k + 1, by omega, by go_num, (E0.out.goA _).goG hgz (fun i hi => by have := (own0.out.lt i hi).1; omega), by rw [← well_more hx'.out]; exact ownz⟩
      case measure => simp [intOf]; omega
    obtain rfl : k = m.np := by omega
    obtain ⟨X, hX⟩ : ∃ X, X = wr := ⟨_, rfl⟩
    subst hX
    have hlp := ok'.out.pt.len
    obtain ⟨A9, c9, rfl, hc9, RW, hf9⟩ := own_rdC (cells := smCells) (xs := m.pts.map wellS) own0.out (by rw [List.length_map]; exact hlp) (by rw [List.take_of_length_le (by omega), List.flatMap_map]) (fun _ => rfl)
    have hc9' := Lib.hid hc9
    have RW' := Lib.hid RW
    have hf9' := Lib.hid hf9
    have hlp' := Lib.hid hlp
    have wnow : IntKind.i64.wrap now = now := by rw [IntKind.wrap_i64]; omega
    clear hc9 RW hf9 own0 hlp
    obtain ⟨cs, hcs⟩ : ∃ cs, cs = scanC M (List.replicate m.np ((false, 0) : Sm)) now (newC M) := ⟨_, rfl⟩
    have hUn : Hid (∀ q, q < m.nc → cs.1.tr.getD q false = true ∧ cntN (1, (q : Int), now) cs.2 = 1) := Lib.hid (by
      rw [hcs]
      have := unknown_all M now hRM.out ⟨by omega, by omega⟩ (List.replicate m.np ((false, 0) : Sm)) (by rw [hpm.out.1, List.length_replicate]; exact hlp'.out.symm) (fun x hx => by rw [List.eq_of_mem_replicate hx])
      intro q hq
      exact this q (by rw [hpm.out.2.2.1]; exact hq))
    have hsc1 : Hid (Calls Tryz.prog 11 #[.pointer (some ⟨K.g, 0, none⟩), .slice (some ⟨W3.heap.size, 0, none⟩) m.np m.np, .int .i64 now] X (ScanPost base B 100 K M cs X)) := by
      rw [hcs]
      exact Lib.hid (coScan_any base B 0 K M (newC M) X (HK4.out.ext E0.out) hRM.out (some ⟨W3.heap.size, 0, none⟩) m.np m.np _ now (RN.out.ext E0.out) ⟨Nat.le_refl _, by unfold maxLen; omega⟩ (fun _ b o e hb => by injection e with e; injection e with e; have := hap.out b hb; omega) (by omega))
    clear hcs
    obtain ⟨C1, nt1⟩ := cs
    go_upto_region 13 with (go_at_call 11; refine hsc1.out.mono ?_; rintro e U1 ⟨A5, n5, c5, rfl, r51, r52, r53, r54, v5⟩)
    have hn5 : n5 ≤ maxLen := by omega
    have H1 := Lib.hid v5.1
    have M1 := v5.2
    have R5 := Lib.hid r53
    have L5 := Lib.hid r54
    have hn5' := Lib.hid hn5
    have M1z := M1.size
    have HD1 := Lib.hid ((HD4.out.ext E0.out).mod M1 (fun b hb => ⟨fun h => by have := hap.out b hb; have := (hDlo.out.2 b h).1; omega, fun h => by have := hap.out b hb; have := hDlo.out.1; omega⟩))
    have RW1 := Lib.hid (RW'.out.mod M1 (fun _ b o e hb => by have := hap.out b hb; have := hf9'.out b o e; omega))
    have EV1 : Hid (Ext V U1) := Lib.hid (F0'.out.goM M1 hKV.out)
    have M1' := Lib.hid M1
    clear r51 r52 r53 r54 v5 hsc1 hn5 M1
    obtain ⟨ds, hds⟩ : ∃ ds, ds = scanC MD (m.pts.map wellS) now (newC MD) := ⟨_, rfl⟩
    have hWn : Hid (ds.2 = [] ∧ ∀ q, ds.1.tr.getD q false = false) := Lib.hid (by
      rw [hds]
      exact well_none MD now hRD.out ⟨by omega, by omega⟩ _ (by rw [hpm.out.2.1]; rfl))
    have hsc2 : Hid (Calls Tryz.prog 11 #[.pointer (some ⟨KD.g, 0, none⟩), .slice A9 m.np c9, .int .i64 now] U1 (ScanPost baseD BD 100 KD MD ds U1)) := by
      rw [hds]
      exact Lib.hid (coScan_any baseD BD 0 KD MD (newC MD) U1 HD1.out hRD.out A9 m.np c9 _ now RW1.out hc9'.out (fun _ b o e hb => by have := (hDlo.out.2 b hb).2; have := hf9'.out b o e; omega) (by omega))
    clear hds
    obtain ⟨D1, nt2⟩ := ds
    obtain ⟨hw1, hw2⟩ := hWn.out
    dsimp only at hw1
    subst hw1
    have hw2' := Lib.hid hw2
    clear hw2 hWn
    go_upto_region 14 with (go_at_call 11; refine hsc2.out.mono ?_; rintro e U2 ⟨A6, n6, c6, rfl, -, -, r63, -, v6⟩; have hn6 : n6 = 0 := r63.len.symm; subst hn6)
    have M2 := v6.2
    have M2z := M2.size
    have HD2 := Lib.hid v6.1
    have HK2 := Lib.hid (H1.out.mod M2 (fun b hb => ⟨fun h => by have := hap.out b h; have := (hDlo.out.2 b hb).1; omega, fun h => by have := (hDlo.out.2 b hb).1; have := hBK.out; omega⟩))
    have R5b := Lib.hid (R5.out.mod M2 (fun _ b o e hb => by have := (hDlo.out.2 b hb).2; have := L5.out b o e; omega))
    have EV2 : Hid (Ext V U2) := Lib.hid (EV1.out.goM M2 (fun b hb => by have := (hDlo.out.2 b hb).1; omega))
    clear r63 v6 hsc2 M2
    go_upto_region 15 with fail
    go_loopw [13] (fun i wr => ∃ k : Nat, k ≤ m.nc ∧ i = .int .i64 k ∧ Ext U2 wr) (fun i _ => m.nc - (intOf i).toNat)
    case atStart => exact ⟨0, by omega, rfl, Ext.refl _⟩
    case round =>
      obtain ⟨k, hk, rfl, E⟩ := hrel
      have m7 : wr.cell? ⟨w.heap.size, 7, none⟩ = some (.slice m.Ac m.nc m.cc) := k7 _ (EV2.out.go E)
      by_cases hlt : k < m.nc
      · have e3 : (k : Int) < (m.nc : Int) := by omega
        have hT : ∀ (g : Nat) (b : Bool), (g = K.g ∧ b = true) ∨ (g = KD.g ∧ b = false) → Calls Tryz.prog 12 #[.pointer (some ⟨g, 0, none⟩), .int .i64 k] wr (fun e w' => e = .returned (.bool b) ∧ wr = w') := by
          intro g b hgb
          rcases hgb with ⟨rfl, rfl⟩ | ⟨rfl, rfl⟩
          · have := trips_any base B _ K M C1 wr (HK2.out.ext E) k
            rw [show tripsC C1 (k : Int) = true from by unfold tripsC; rw [Int.toNat_natCast, (hUn.out k hlt).1, Bool.and_true]; exact decide_eq_true (by omega)] at this
            exact this
          · have := trips_any baseD BD _ KD MD D1 wr (HD2.out.ext E) k
            rw [show tripsC D1 (k : Int) = false from by unfold tripsC; rw [Int.toNat_natCast, hw2'.out, Bool.and_false]] at this
            exact this
        have hH := has17_any A5 n5 c5 nt1 (1, (k : Int), now) wr (R5b.out.ext E) hn5'.out
        rw [show decide (cntN (1, (k : Int), now) nt1 = 1) = true from decide_eq_true (hUn.out k hlt).2] at hH
        have hT' := Lib.hid hT
        have hH' := Lib.hid hH
        clear hT hH
        go_wp2_with (first | (go_at_call 12; refine (hT'.out _ _ (by first | exact .inl ⟨rfl, rfl⟩ | exact .inr ⟨rfl, rfl⟩)).mono ?_; rintro e w' ⟨rfl, rfl⟩) | (go_at_call 13; refine hH'.out.mono ?_; rintro e W5 ⟨rfl, E5⟩))
        go_roundw
        case rel => exact ⟨k + 1, by omega, by go_num, E.go E5⟩
        case measure => simp [intOf]; omega
      · obtain rfl : k = m.nc := by omega
        go_wp2_with fail
        go_ret
        exact ⟨rfl, E0'.out.go (EV2.out.go E)⟩
end Go.Proofs.YtgajbgdkgelkgaaGreat
