/- Layer 8, the reference: Names, Right. Printed by gen/r8c.py. -/
import Derived.Test.YtgajbgdkgelkgaaGreatR8B
namespace Go.Proofs.YtgajbgdkgelkgaaGreat
open Go.RowKit

/-- The names of a matrix, in a row of the call's own. -/
def NamesPost (m : Mx) (w : World) (e : Ending) (w' : World) : Prop := ∃ A n c, e = .returned (.slice A n c) ∧ n ≤ c ∧ c ≤ maxLen ∧ RdC strCells 1 w' w'.heap.size A n (namesOf m) ∧ (∀ b o, A = some ⟨b, o, none⟩ → w.heap.size ≤ b) ∧ Ext w w'
set_option maxRecDepth 100000 in
set_option maxHeartbeats 6400000 in
theorem rNamesOf_any (m : Mx) (w : World) (h : OkMx w w.heap.size m) (hs : m.nd ≤ 10000 ∧ m.np ≤ 10000 ∧ m.nc ≤ 10000 ∧ m.ne ≤ 10000) : Calls Tryz.prog 142 #[m.val] w (NamesPost m w) := by
  have hld := Lib.hid h.dv.len
  have hlp := Lib.hid h.pt.len
  have hlc := Lib.hid h.ca.len
  have hle := Lib.hid h.ef.len
  obtain ⟨hnd, hnp, hnc, hne⟩ := hs
  have EB := (Ext.refl w).goA (.cells m.arr 27)
  have B0 := heap_alloc_new w (.cells m.arr 27)
  have S0 : (w.alloc (.cells m.arr 27)).heap.size = w.heap.size + 1 := by simp
  have h' := Lib.hid (h.ext EB)
  clear h
  unfold Mx.val
  go_enter Tryz.func142, Tryz.ntmps142
  go_upto_region 1 with fail
  generalize w.alloc (.cells m.arr 27) = V at *
  have m5 : V.cell? ⟨w.heap.size, 5, none⟩ = some (.slice m.Ad m.nd m.cd) := cellsAt B0 5
  have q0 := Lib.hid B0
  have e9 := Lib.hid (Ext.refl V)
  have hwV : w.heap.size < V.heap.size := by omega
  clear B0
  go_wp2_with fail
  go_loopw [3, 4] (fun u i wr => ∃ k : Nat, k ≤ m.nd ∧ i = .int .i64 k ∧ Ext V wr ∧ wr.ownsRow V.heap.size 9 1 u (0 + k) ((([] : List ByteArray) ++ (m.dvs.take k).map Dv.nm).map Value.string)) (fun _ i _ => m.nd - (intOf i).toNat)
  case atStart => exact ⟨0, by omega, rfl, Ext.refl _, by simpa using World.ownsRow_nil _ _ _ _⟩
  case round =>
    obtain ⟨k, hk, rfl, E, own⟩ := hrel
    have E0 := Lib.hid E
    have own0 := Lib.hid own
    have S0 := E.size
    have m5 : wr.cell? ⟨w.heap.size, 5, none⟩ = some (.slice m.Ad m.nd m.cd) := cellsAt ((E.block w.heap.size hwV).trans q0.out) 5
    have m6 : wr.cell? ⟨w.heap.size, 6, none⟩ = some (.slice m.Ap m.np m.cp) := cellsAt ((E.block w.heap.size hwV).trans q0.out) 6
    have m7 : wr.cell? ⟨w.heap.size, 7, none⟩ = some (.slice m.Ac m.nc m.cc) := cellsAt ((E.block w.heap.size hwV).trans q0.out) 7
    have m8 : wr.cell? ⟨w.heap.size, 8, none⟩ = some (.slice m.Ae m.ne m.ce) := cellsAt ((E.block w.heap.size hwV).trans q0.out) 8
    clear E own
    by_cases hlt : k < m.nd
    · have e3 : (k : Int) < (m.nd : Int) := by omega
      obtain ⟨x, hx⟩ := h'.out.dv.get hlt
      obtain ⟨b, o, hA, hb, hc⟩ := h'.out.dv.at_ hx
      have hx' := Lib.hid hx
      have cx0 : wr.cell? ⟨b, o + k * 3, none⟩ = some (.string x.nm) := (E0.out.cell _ hb).trans (hc 0 (by decide))
      have hbw : b < wr.heap.size := by omega
      rw [hA] at m5
      clear hx hc hA
      go_wp2_with (at_builtin; refine wpList_appS rfl (.tmp 15) (.tmp 22) _ rfl Tryz.underlying154 info_str rfl (by decide) (own0.out.alloc _) rfl (new := [.string x.nm]) rfl (heap_new_at (by simp)) rfl (by intro u hu; simp at hu; subst hu; rfl) (by omega) (by unfold maxLen; omega) (by simp; omega) ?_; intro vz wz ownz hgz _)
      go_roundw
      case rel => exact ⟨k + 1, by omega, by go_num, (E0.out.goA _).goG hgz (fun i hi => (own0.out.lt i hi).1), by rw [← Nat.add_assoc, ← strs_more Dv.nm hx'.out]; exact ownz⟩
      case measure => simp [intOf]; omega
    obtain rfl : k = m.nd := by omega
    go_wp2_with fail
    go_loopw [3, 5] (fun u i wr => ∃ k : Nat, k ≤ m.np ∧ i = .int .i64 k ∧ Ext V wr ∧ wr.ownsRow V.heap.size 9 1 u (m.nd + k) (((([] : List ByteArray) ++ m.dvs.map Dv.nm) ++ (m.pts.take k).map Pt.nm).map Value.string)) (fun _ i _ => m.np - (intOf i).toNat)
    case atStart => exact ⟨0, by omega, rfl, E0.out, by have := own0.out; rw [strs_end Dv.nm hld.out] at this; simpa using this⟩
    case round =>
      obtain ⟨k, hk, rfl, E, own⟩ := hrel
      have E1 := Lib.hid E
      have own1 := Lib.hid own
      have S1 := E.size
      have m6 : wr.cell? ⟨w.heap.size, 6, none⟩ = some (.slice m.Ap m.np m.cp) := cellsAt ((E.block w.heap.size hwV).trans q0.out) 6
      have m7 : wr.cell? ⟨w.heap.size, 7, none⟩ = some (.slice m.Ac m.nc m.cc) := cellsAt ((E.block w.heap.size hwV).trans q0.out) 7
      have m8 : wr.cell? ⟨w.heap.size, 8, none⟩ = some (.slice m.Ae m.ne m.ce) := cellsAt ((E.block w.heap.size hwV).trans q0.out) 8
      clear E own
      by_cases hlt : k < m.np
      · have e3 : (k : Int) < (m.np : Int) := by omega
        obtain ⟨x, hx⟩ := h'.out.pt.get hlt
        obtain ⟨b, o, hA, hb, hc⟩ := h'.out.pt.at_ hx
        have hx' := Lib.hid hx
        have cx0 : wr.cell? ⟨b, o + k * 6, none⟩ = some (.string x.nm) := (E1.out.cell _ hb).trans (hc 0 (by decide))
        have hbw : b < wr.heap.size := by omega
        rw [hA] at m6
        clear hx hc hA
        go_wp2_with (at_builtin; refine wpList_appS rfl (.tmp 31) (.tmp 38) _ rfl Tryz.underlying154 info_str rfl (by decide) (own1.out.alloc _) rfl (new := [.string x.nm]) rfl (heap_new_at (by simp)) rfl (by intro u hu; simp at hu; subst hu; rfl) (by omega) (by unfold maxLen; omega) (by simp; omega) ?_; intro vz wz ownz hgz _)
        go_roundw
        case rel => exact ⟨k + 1, by omega, by go_num, (E1.out.goA _).goG hgz (fun i hi => (own1.out.lt i hi).1), by rw [← Nat.add_assoc, ← strs_more Pt.nm hx'.out]; exact ownz⟩
        case measure => simp [intOf]; omega
      obtain rfl : k = m.np := by omega
      go_wp2_with fail
      go_loopw [3, 6] (fun u i wr => ∃ k : Nat, k ≤ m.nc ∧ i = .int .i64 k ∧ Ext V wr ∧ wr.ownsRow V.heap.size 9 1 u ((m.nd + m.np) + k) (((([] : List ByteArray) ++ m.dvs.map Dv.nm ++ m.pts.map Pt.nm) ++ (m.cas.take k).map Ca.nm).map Value.string)) (fun _ i _ => m.nc - (intOf i).toNat)
      case atStart => exact ⟨0, by omega, rfl, E1.out, by have := own1.out; rw [strs_end Pt.nm hlp.out] at this; simpa using this⟩
      case round =>
        obtain ⟨k, hk, rfl, E, own⟩ := hrel
        have E2 := Lib.hid E
        have own2 := Lib.hid own
        have S2 := E.size
        have m7 : wr.cell? ⟨w.heap.size, 7, none⟩ = some (.slice m.Ac m.nc m.cc) := cellsAt ((E.block w.heap.size hwV).trans q0.out) 7
        have m8 : wr.cell? ⟨w.heap.size, 8, none⟩ = some (.slice m.Ae m.ne m.ce) := cellsAt ((E.block w.heap.size hwV).trans q0.out) 8
        clear E own
        by_cases hlt : k < m.nc
        · have e3 : (k : Int) < (m.nc : Int) := by omega
          obtain ⟨x, hx⟩ := h'.out.ca.get hlt
          obtain ⟨b, o, hA, hb, hc⟩ := h'.out.ca.at_ hx
          have hx' := Lib.hid hx
          have cx0 : wr.cell? ⟨b, o + k * 5, none⟩ = some (.string x.nm) := (E2.out.cell _ hb).trans (hc 0 (by decide))
          have hbw : b < wr.heap.size := by omega
          rw [hA] at m7
          clear hx hc hA
          go_wp2_with (at_builtin; refine wpList_appS rfl (.tmp 47) (.tmp 54) _ rfl Tryz.underlying154 info_str rfl (by decide) (own2.out.alloc _) rfl (new := [.string x.nm]) rfl (heap_new_at (by simp)) rfl (by intro u hu; simp at hu; subst hu; rfl) (by omega) (by unfold maxLen; omega) (by simp; omega) ?_; intro vz wz ownz hgz _)
          go_roundw
          case rel => exact ⟨k + 1, by omega, by go_num, (E2.out.goA _).goG hgz (fun i hi => (own2.out.lt i hi).1), by rw [← Nat.add_assoc, ← strs_more Ca.nm hx'.out]; exact ownz⟩
          case measure => simp [intOf]; omega
        obtain rfl : k = m.nc := by omega
        go_wp2_with fail
        go_loopw [3, 7] (fun u i wr => ∃ k : Nat, k ≤ m.ne ∧ i = .int .i64 k ∧ Ext V wr ∧ wr.ownsRow V.heap.size 9 1 u ((m.nd + m.np + m.nc) + k) (((([] : List ByteArray) ++ m.dvs.map Dv.nm ++ m.pts.map Pt.nm ++ m.cas.map Ca.nm) ++ (m.efs.take k).map Ef.nm).map Value.string)) (fun _ i _ => m.ne - (intOf i).toNat)
        case atStart => exact ⟨0, by omega, rfl, E2.out, by have := own2.out; rw [strs_end Ca.nm hlc.out] at this; simpa using this⟩
        case round =>
          obtain ⟨k, hk, rfl, E, own⟩ := hrel
          have E3 := Lib.hid E
          have own3 := Lib.hid own
          have S3 := E.size
          have m8 : wr.cell? ⟨w.heap.size, 8, none⟩ = some (.slice m.Ae m.ne m.ce) := cellsAt ((E.block w.heap.size hwV).trans q0.out) 8
          clear E own
          by_cases hlt : k < m.ne
          · have e3 : (k : Int) < (m.ne : Int) := by omega
            obtain ⟨x, hx⟩ := h'.out.ef.get hlt
            obtain ⟨b, o, hA, hb, hc⟩ := h'.out.ef.at_ hx
            have hx' := Lib.hid hx
            have cx0 : wr.cell? ⟨b, o + k * 5, none⟩ = some (.string x.nm) := (E3.out.cell _ hb).trans (hc 0 (by decide))
            have hbw : b < wr.heap.size := by omega
            rw [hA] at m8
            clear hx hc hA
            go_wp2_with (at_builtin; refine wpList_appS rfl (.tmp 63) (.tmp 70) _ rfl Tryz.underlying154 info_str rfl (by decide) (own3.out.alloc _) rfl (new := [.string x.nm]) rfl (heap_new_at (by simp)) rfl (by intro u hu; simp at hu; subst hu; rfl) (by omega) (by unfold maxLen; omega) (by simp; omega) ?_; intro vz wz ownz hgz _)
            go_roundw
            case rel => exact ⟨k + 1, by omega, by go_num, (E3.out.goA _).goG hgz (fun i hi => (own3.out.lt i hi).1), by rw [← Nat.add_assoc, ← strs_more Ef.nm hx'.out]; exact ownz⟩
            case measure => simp [intOf]; omega
          obtain rfl : k = m.ne := by omega
          go_wp2_with fail
          go_ret
          have oend := own3.out
          rw [strs_end Ef.nm hle.out] at oend
          have hA : (([] : List ByteArray) ++ m.dvs.map Dv.nm ++ m.pts.map Pt.nm ++ m.cas.map Ca.nm ++ m.efs.map Ef.nm) ++ ([] : List Ef).map Ef.nm = namesOf m := by unfold namesOf; simp
          rw [hA] at oend
          have hLn : (namesOf m).length = m.nd + m.np + m.nc + m.ne := by have := oend.1; simpa using this
          obtain ⟨A, c, rfl, ⟨hc1, hc2⟩, hrd, hfr⟩ := own_rdC (cells := strCells) oend hLn (strs_flat _) (fun _ => rfl)
          exact ⟨A, _, c, rfl, hc1, hc2, hrd, fun b o e => by have := hfr b o e; omega, EB.go E3.out⟩
theorem rightM_ref (m : Mx) : rightM m = ((wiB m.rt 0 7 && wiB m.wt 1 1000 && wiB m.bk 0 1000 && wiB m.cy 1 1000 && keyedB m.key) && (devicesR m.dvs && pointsR m.dvs.length m.pts && causesR m.pts.length m.cas && effectsR m.dvs.length m.cas.length m.efs && namesB (namesOf m))) := by
  unfold rightM sizesB timesB namedB devicesB pointsB causesB effectsB devicesR pointsR causesR effectsR namesB
  ac_rfl
theorem rSizes (m : Mx) (h1 : devicesR m.dvs = true) (h2 : pointsR m.dvs.length m.pts = true) (h3 : causesR m.pts.length m.cas = true) (h4 : effectsR m.dvs.length m.cas.length m.efs = true) : m.dvs.length ≤ 4 ∧ m.pts.length ≤ 16 ∧ m.cas.length ≤ 8 ∧ m.efs.length ≤ 8 := by
  unfold devicesR at h1
  unfold pointsR at h2
  unfold causesR at h3
  unfold effectsR at h4
  simp only [Bool.and_eq_true, decide_eq_true_eq] at h1 h2 h3 h4
  exact ⟨h1.2, h2.2, h3.2, h4.2⟩
set_option maxRecDepth 100000 in
set_option maxHeartbeats 12800000 in
theorem rRight_any (m : Mx) (w : World) (h : OkMx w w.heap.size m) (hk : m.key.size ≤ maxLen) (hsz : ∀ s ∈ namesOf m, s.size ≤ maxLen) : Calls Tryz.prog 111 #[m.val] w fun e w' => e = .returned (.bool (rightM m)) ∧ Ext w w' := by
  have hld := Lib.hid h.dv.len
  have hlp := Lib.hid h.pt.len
  have hlc := Lib.hid h.ca.len
  have hle := Lib.hid h.ef.len
  have hcap := h.cap
  have hsz' := Lib.hid hsz
  have E0' := Lib.hid ((Ext.refl w).goA (.cells m.arr 27))
  have B0 := heap_alloc_new w (.cells m.arr 27)
  have hwV : w.heap.size < (w.alloc (.cells m.arr 27)).heap.size := by simp
  have h' := Lib.hid (h.ext E0'.out)
  have hrr := rightM_ref m
  rw [h.dv.len, h.pt.len, h.ca.len] at hrr
  have hrr' := Lib.hid hrr
  have hrs := rSizes m
  rw [h.dv.len, h.pt.len, h.ca.len, h.ef.len] at hrs
  have hrs' := Lib.hid hrs
  clear h hsz hrr hrs
  unfold Mx.val
  go_enter Tryz.func111, Tryz.ntmps111
  go_upto_region 1 with fail
  generalize w.alloc (.cells m.arr 27) = V at *
  have k0 : ∀ w', Ext V w' → w'.cell? ⟨w.heap.size, 0, none⟩ = some (.int .i64 m.rt) := fun w' E => cellsAt ((E.block _ hwV).trans B0) 0
  have k1 : ∀ w', Ext V w' → w'.cell? ⟨w.heap.size, 1, none⟩ = some (.int .i64 m.wt) := fun w' E => cellsAt ((E.block _ hwV).trans B0) 1
  have k2 : ∀ w', Ext V w' → w'.cell? ⟨w.heap.size, 2, none⟩ = some (.int .i64 m.bk) := fun w' E => cellsAt ((E.block _ hwV).trans B0) 2
  have k3 : ∀ w', Ext V w' → w'.cell? ⟨w.heap.size, 3, none⟩ = some (.int .i64 m.cy) := fun w' E => cellsAt ((E.block _ hwV).trans B0) 3
  have k4 : ∀ w', Ext V w' → w'.cell? ⟨w.heap.size, 4, none⟩ = some (.string m.key) := fun w' E => cellsAt ((E.block _ hwV).trans B0) 4
  have k5 : ∀ w', Ext V w' → w'.cell? ⟨w.heap.size, 5, none⟩ = some (.slice m.Ad m.nd m.cd) := fun w' E => cellsAt ((E.block _ hwV).trans B0) 5
  have k6 : ∀ w', Ext V w' → w'.cell? ⟨w.heap.size, 6, none⟩ = some (.slice m.Ap m.np m.cp) := fun w' E => cellsAt ((E.block _ hwV).trans B0) 6
  have k7 : ∀ w', Ext V w' → w'.cell? ⟨w.heap.size, 7, none⟩ = some (.slice m.Ac m.nc m.cc) := fun w' E => cellsAt ((E.block _ hwV).trans B0) 7
  have k8 : ∀ w', Ext V w' → w'.cell? ⟨w.heap.size, 8, none⟩ = some (.slice m.Ae m.ne m.ce) := fun w' E => cellsAt ((E.block _ hwV).trans B0) 8
  have ER := Ext.refl V
  clear B0
  rcases bools5 (wiB m.rt 0 7) (wiB m.wt 1 1000) (wiB m.bk 0 1000) (wiB m.cy 1 1000) (keyedB m.key) with c0 | ⟨c0, c1⟩ | ⟨c0, c1, c2⟩ | ⟨c0, c1, c2, c3⟩ | ⟨c0, c1, c2, c3, c4⟩ | ⟨c0, c1, c2, c3, c4⟩
  · have hf : Hid (rightM m = false) := Lib.hid (by rw [hrr'.out, c0]; simp)
    go_wp2_with (first | (go_at_call 135; refine (rWithin_any _ _ _ _).mono ?_; rintro e w' ⟨rfl, rfl⟩) | (go_at_call 136; refine (rKey_any _ _ hk).mono ?_; rintro e w' ⟨rfl, rfl⟩))
    go_ret
    exact ⟨by rw [hf.out]; rfl, E0'.out⟩
  · have hf : Hid (rightM m = false) := Lib.hid (by rw [hrr'.out, c0, c1]; simp)
    go_wp2_with (first | (go_at_call 135; refine (rWithin_any _ _ _ _).mono ?_; rintro e w' ⟨rfl, rfl⟩) | (go_at_call 136; refine (rKey_any _ _ hk).mono ?_; rintro e w' ⟨rfl, rfl⟩))
    go_ret
    exact ⟨by rw [hf.out]; rfl, E0'.out⟩
  · have hf : Hid (rightM m = false) := Lib.hid (by rw [hrr'.out, c0, c1, c2]; simp)
    go_wp2_with (first | (go_at_call 135; refine (rWithin_any _ _ _ _).mono ?_; rintro e w' ⟨rfl, rfl⟩) | (go_at_call 136; refine (rKey_any _ _ hk).mono ?_; rintro e w' ⟨rfl, rfl⟩))
    go_ret
    exact ⟨by rw [hf.out]; rfl, E0'.out⟩
  · have hf : Hid (rightM m = false) := Lib.hid (by rw [hrr'.out, c0, c1, c2, c3]; simp)
    go_wp2_with (first | (go_at_call 135; refine (rWithin_any _ _ _ _).mono ?_; rintro e w' ⟨rfl, rfl⟩) | (go_at_call 136; refine (rKey_any _ _ hk).mono ?_; rintro e w' ⟨rfl, rfl⟩))
    go_ret
    exact ⟨by rw [hf.out]; rfl, E0'.out⟩
  · have hf : Hid (rightM m = false) := Lib.hid (by rw [hrr'.out, c0, c1, c2, c3, c4]; simp)
    go_wp2_with (first | (go_at_call 135; refine (rWithin_any _ _ _ _).mono ?_; rintro e w' ⟨rfl, rfl⟩) | (go_at_call 136; refine (rKey_any _ _ hk).mono ?_; rintro e w' ⟨rfl, rfl⟩))
    go_ret
    exact ⟨by rw [hf.out]; rfl, E0'.out⟩
  rcases bools5 (devicesR m.dvs) (pointsR (m.nd : Int) m.pts) (causesR (m.np : Int) m.cas) (effectsR (m.nd : Int) (m.nc : Int) m.efs) (namesB (namesOf m)) with d0 | ⟨d0, d1⟩ | ⟨d0, d1, d2⟩ | ⟨d0, d1, d2, d3⟩ | ⟨d0, d1, d2, d3, d4⟩ | ⟨d0, d1, d2, d3, d4⟩
  · have hf : Hid (rightM m = false) := Lib.hid (by rw [hrr'.out, d0]; simp)
    go_wp2_with (first | (go_at_call 135; refine (rWithin_any _ _ _ _).mono ?_; rintro e w' ⟨rfl, rfl⟩) | (go_at_call 136; refine (rKey_any _ _ hk).mono ?_; rintro e w' ⟨rfl, rfl⟩) | (go_at_call 141; refine (rNames_any _ _ _ _ (namesOf m) _ N1 (Nat.le_trans N2 N3) hsz'.out).mono ?_; rintro e W6 ⟨rfl, X6⟩; have Y6 : Ext V W6 := Y5.go X6) | (go_at_call 142; refine (rNamesOf_any m _ (h'.out.ext Y4) (by have := hrs'.out d0 d1 d2 d3; omega)).mono ?_; rintro e W5 ⟨NA, nn, nc_, rfl, N2, N3, N1, -, X5⟩; have Y5 : Ext V W5 := Y4.go X5) | (go_at_call 140; refine (rEffects_any _ _ _ _ _ m.efs _ ((h'.out.ext Y3).ef) (Nat.le_trans hcap.2.2.2.1 hcap.2.2.2.2) ((h'.out.ext Y3).efo)).mono ?_; rintro e W4 ⟨rfl, X4⟩; have Y4 : Ext V W4 := Y3.go X4) | (go_at_call 139; refine (rCauses_any _ _ _ _ m.cas _ ((h'.out.ext Y2).ca) (Nat.le_trans hcap.2.2.1.1 hcap.2.2.1.2) ((h'.out.ext Y2).cao)).mono ?_; rintro e W3 ⟨rfl, X3⟩; have Y3 : Ext V W3 := Y2.go X3) | (go_at_call 138; refine (rPoints_any _ _ _ _ m.pts _ ((h'.out.ext Y1).pt) (Nat.le_trans hcap.2.1.1 hcap.2.1.2)).mono ?_; rintro e W2 ⟨rfl, X2⟩; have Y2 : Ext V W2 := Y1.go X2) | (go_at_call 137; refine (rDevices_any _ _ _ m.dvs _ (h'.out.dv) (Nat.le_trans hcap.1.1 hcap.1.2)).mono ?_; rintro e W1 ⟨rfl, Y1⟩))
    go_ret
    exact ⟨by rw [hf.out]; rfl, E0'.out.go Y1⟩
  · have hf : Hid (rightM m = false) := Lib.hid (by rw [hrr'.out, d0, d1]; simp)
    go_wp2_with (first | (go_at_call 135; refine (rWithin_any _ _ _ _).mono ?_; rintro e w' ⟨rfl, rfl⟩) | (go_at_call 136; refine (rKey_any _ _ hk).mono ?_; rintro e w' ⟨rfl, rfl⟩) | (go_at_call 141; refine (rNames_any _ _ _ _ (namesOf m) _ N1 (Nat.le_trans N2 N3) hsz'.out).mono ?_; rintro e W6 ⟨rfl, X6⟩; have Y6 : Ext V W6 := Y5.go X6) | (go_at_call 142; refine (rNamesOf_any m _ (h'.out.ext Y4) (by have := hrs'.out d0 d1 d2 d3; omega)).mono ?_; rintro e W5 ⟨NA, nn, nc_, rfl, N2, N3, N1, -, X5⟩; have Y5 : Ext V W5 := Y4.go X5) | (go_at_call 140; refine (rEffects_any _ _ _ _ _ m.efs _ ((h'.out.ext Y3).ef) (Nat.le_trans hcap.2.2.2.1 hcap.2.2.2.2) ((h'.out.ext Y3).efo)).mono ?_; rintro e W4 ⟨rfl, X4⟩; have Y4 : Ext V W4 := Y3.go X4) | (go_at_call 139; refine (rCauses_any _ _ _ _ m.cas _ ((h'.out.ext Y2).ca) (Nat.le_trans hcap.2.2.1.1 hcap.2.2.1.2) ((h'.out.ext Y2).cao)).mono ?_; rintro e W3 ⟨rfl, X3⟩; have Y3 : Ext V W3 := Y2.go X3) | (go_at_call 138; refine (rPoints_any _ _ _ _ m.pts _ ((h'.out.ext Y1).pt) (Nat.le_trans hcap.2.1.1 hcap.2.1.2)).mono ?_; rintro e W2 ⟨rfl, X2⟩; have Y2 : Ext V W2 := Y1.go X2) | (go_at_call 137; refine (rDevices_any _ _ _ m.dvs _ (h'.out.dv) (Nat.le_trans hcap.1.1 hcap.1.2)).mono ?_; rintro e W1 ⟨rfl, Y1⟩))
    go_ret
    exact ⟨by rw [hf.out]; rfl, E0'.out.go Y2⟩
  · have hf : Hid (rightM m = false) := Lib.hid (by rw [hrr'.out, d0, d1, d2]; simp)
    go_wp2_with (first | (go_at_call 135; refine (rWithin_any _ _ _ _).mono ?_; rintro e w' ⟨rfl, rfl⟩) | (go_at_call 136; refine (rKey_any _ _ hk).mono ?_; rintro e w' ⟨rfl, rfl⟩) | (go_at_call 141; refine (rNames_any _ _ _ _ (namesOf m) _ N1 (Nat.le_trans N2 N3) hsz'.out).mono ?_; rintro e W6 ⟨rfl, X6⟩; have Y6 : Ext V W6 := Y5.go X6) | (go_at_call 142; refine (rNamesOf_any m _ (h'.out.ext Y4) (by have := hrs'.out d0 d1 d2 d3; omega)).mono ?_; rintro e W5 ⟨NA, nn, nc_, rfl, N2, N3, N1, -, X5⟩; have Y5 : Ext V W5 := Y4.go X5) | (go_at_call 140; refine (rEffects_any _ _ _ _ _ m.efs _ ((h'.out.ext Y3).ef) (Nat.le_trans hcap.2.2.2.1 hcap.2.2.2.2) ((h'.out.ext Y3).efo)).mono ?_; rintro e W4 ⟨rfl, X4⟩; have Y4 : Ext V W4 := Y3.go X4) | (go_at_call 139; refine (rCauses_any _ _ _ _ m.cas _ ((h'.out.ext Y2).ca) (Nat.le_trans hcap.2.2.1.1 hcap.2.2.1.2) ((h'.out.ext Y2).cao)).mono ?_; rintro e W3 ⟨rfl, X3⟩; have Y3 : Ext V W3 := Y2.go X3) | (go_at_call 138; refine (rPoints_any _ _ _ _ m.pts _ ((h'.out.ext Y1).pt) (Nat.le_trans hcap.2.1.1 hcap.2.1.2)).mono ?_; rintro e W2 ⟨rfl, X2⟩; have Y2 : Ext V W2 := Y1.go X2) | (go_at_call 137; refine (rDevices_any _ _ _ m.dvs _ (h'.out.dv) (Nat.le_trans hcap.1.1 hcap.1.2)).mono ?_; rintro e W1 ⟨rfl, Y1⟩))
    go_ret
    exact ⟨by rw [hf.out]; rfl, E0'.out.go Y3⟩
  · have hf : Hid (rightM m = false) := Lib.hid (by rw [hrr'.out, d0, d1, d2, d3]; simp)
    go_wp2_with (first | (go_at_call 135; refine (rWithin_any _ _ _ _).mono ?_; rintro e w' ⟨rfl, rfl⟩) | (go_at_call 136; refine (rKey_any _ _ hk).mono ?_; rintro e w' ⟨rfl, rfl⟩) | (go_at_call 141; refine (rNames_any _ _ _ _ (namesOf m) _ N1 (Nat.le_trans N2 N3) hsz'.out).mono ?_; rintro e W6 ⟨rfl, X6⟩; have Y6 : Ext V W6 := Y5.go X6) | (go_at_call 142; refine (rNamesOf_any m _ (h'.out.ext Y4) (by have := hrs'.out d0 d1 d2 d3; omega)).mono ?_; rintro e W5 ⟨NA, nn, nc_, rfl, N2, N3, N1, -, X5⟩; have Y5 : Ext V W5 := Y4.go X5) | (go_at_call 140; refine (rEffects_any _ _ _ _ _ m.efs _ ((h'.out.ext Y3).ef) (Nat.le_trans hcap.2.2.2.1 hcap.2.2.2.2) ((h'.out.ext Y3).efo)).mono ?_; rintro e W4 ⟨rfl, X4⟩; have Y4 : Ext V W4 := Y3.go X4) | (go_at_call 139; refine (rCauses_any _ _ _ _ m.cas _ ((h'.out.ext Y2).ca) (Nat.le_trans hcap.2.2.1.1 hcap.2.2.1.2) ((h'.out.ext Y2).cao)).mono ?_; rintro e W3 ⟨rfl, X3⟩; have Y3 : Ext V W3 := Y2.go X3) | (go_at_call 138; refine (rPoints_any _ _ _ _ m.pts _ ((h'.out.ext Y1).pt) (Nat.le_trans hcap.2.1.1 hcap.2.1.2)).mono ?_; rintro e W2 ⟨rfl, X2⟩; have Y2 : Ext V W2 := Y1.go X2) | (go_at_call 137; refine (rDevices_any _ _ _ m.dvs _ (h'.out.dv) (Nat.le_trans hcap.1.1 hcap.1.2)).mono ?_; rintro e W1 ⟨rfl, Y1⟩))
    go_ret
    exact ⟨by rw [hf.out]; rfl, E0'.out.go Y4⟩
  · have hf : Hid (rightM m = false) := Lib.hid (by rw [hrr'.out, d0, d1, d2, d3, d4]; simp)
    go_wp2_with (first | (go_at_call 135; refine (rWithin_any _ _ _ _).mono ?_; rintro e w' ⟨rfl, rfl⟩) | (go_at_call 136; refine (rKey_any _ _ hk).mono ?_; rintro e w' ⟨rfl, rfl⟩) | (go_at_call 141; refine (rNames_any _ _ _ _ (namesOf m) _ N1 (Nat.le_trans N2 N3) hsz'.out).mono ?_; rintro e W6 ⟨rfl, X6⟩; have Y6 : Ext V W6 := Y5.go X6) | (go_at_call 142; refine (rNamesOf_any m _ (h'.out.ext Y4) (by have := hrs'.out d0 d1 d2 d3; omega)).mono ?_; rintro e W5 ⟨NA, nn, nc_, rfl, N2, N3, N1, -, X5⟩; have Y5 : Ext V W5 := Y4.go X5) | (go_at_call 140; refine (rEffects_any _ _ _ _ _ m.efs _ ((h'.out.ext Y3).ef) (Nat.le_trans hcap.2.2.2.1 hcap.2.2.2.2) ((h'.out.ext Y3).efo)).mono ?_; rintro e W4 ⟨rfl, X4⟩; have Y4 : Ext V W4 := Y3.go X4) | (go_at_call 139; refine (rCauses_any _ _ _ _ m.cas _ ((h'.out.ext Y2).ca) (Nat.le_trans hcap.2.2.1.1 hcap.2.2.1.2) ((h'.out.ext Y2).cao)).mono ?_; rintro e W3 ⟨rfl, X3⟩; have Y3 : Ext V W3 := Y2.go X3) | (go_at_call 138; refine (rPoints_any _ _ _ _ m.pts _ ((h'.out.ext Y1).pt) (Nat.le_trans hcap.2.1.1 hcap.2.1.2)).mono ?_; rintro e W2 ⟨rfl, X2⟩; have Y2 : Ext V W2 := Y1.go X2) | (go_at_call 137; refine (rDevices_any _ _ _ m.dvs _ (h'.out.dv) (Nat.le_trans hcap.1.1 hcap.1.2)).mono ?_; rintro e W1 ⟨rfl, Y1⟩))
    go_ret
    exact ⟨by rw [hf.out]; rfl, E0'.out.go Y6⟩
  have hf : Hid (rightM m = true) := Lib.hid (by rw [hrr'.out, c0, c1, c2, c3, c4, d0, d1, d2, d3, d4]; rfl)
  go_wp2_with (first | (go_at_call 135; refine (rWithin_any _ _ _ _).mono ?_; rintro e w' ⟨rfl, rfl⟩) | (go_at_call 136; refine (rKey_any _ _ hk).mono ?_; rintro e w' ⟨rfl, rfl⟩) | (go_at_call 141; refine (rNames_any _ _ _ _ (namesOf m) _ N1 (Nat.le_trans N2 N3) hsz'.out).mono ?_; rintro e W6 ⟨rfl, X6⟩; have Y6 : Ext V W6 := Y5.go X6) | (go_at_call 142; refine (rNamesOf_any m _ (h'.out.ext Y4) (by have := hrs'.out d0 d1 d2 d3; omega)).mono ?_; rintro e W5 ⟨NA, nn, nc_, rfl, N2, N3, N1, -, X5⟩; have Y5 : Ext V W5 := Y4.go X5) | (go_at_call 140; refine (rEffects_any _ _ _ _ _ m.efs _ ((h'.out.ext Y3).ef) (Nat.le_trans hcap.2.2.2.1 hcap.2.2.2.2) ((h'.out.ext Y3).efo)).mono ?_; rintro e W4 ⟨rfl, X4⟩; have Y4 : Ext V W4 := Y3.go X4) | (go_at_call 139; refine (rCauses_any _ _ _ _ m.cas _ ((h'.out.ext Y2).ca) (Nat.le_trans hcap.2.2.1.1 hcap.2.2.1.2) ((h'.out.ext Y2).cao)).mono ?_; rintro e W3 ⟨rfl, X3⟩; have Y3 : Ext V W3 := Y2.go X3) | (go_at_call 138; refine (rPoints_any _ _ _ _ m.pts _ ((h'.out.ext Y1).pt) (Nat.le_trans hcap.2.1.1 hcap.2.1.2)).mono ?_; rintro e W2 ⟨rfl, X2⟩; have Y2 : Ext V W2 := Y1.go X2) | (go_at_call 137; refine (rDevices_any _ _ _ m.dvs _ (h'.out.dv) (Nat.le_trans hcap.1.1 hcap.1.2)).mono ?_; rintro e W1 ⟨rfl, Y1⟩))
  go_ret
  exact ⟨by rw [hf.out]; rfl, E0'.out.go Y6⟩
end Go.Proofs.YtgajbgdkgelkgaaGreat
