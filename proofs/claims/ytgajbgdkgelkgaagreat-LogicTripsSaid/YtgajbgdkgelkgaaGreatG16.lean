/- Layer 8: how much a matrix is (an answer, whichever). Printed by gen/great08.py. · Layer 17, plain: what is reset twice. -/
import Derived.Test.YtgajbgdkgelkgaaGreatCoN
import Derived.Deep.DeepCutAuto
import Derived.Test.YtgajbgdkgelkgaaGreatG08
namespace Go.Proofs.YtgajbgdkgelkgaaGreat
open Go.RowKit

set_option maxRecDepth 100000 in
set_option maxHeartbeats 12800000 in
theorem great08_any (m : Mx) (w : World) (h : OkMx w w.heap.size m) : Calls Tryz.prog 10 #[m.val] w fun e w' => (∃ b, e = .returned (.bool b)) ∧ Ext w w' := by
  have hcap := h.cap
  unfold maxLen at hcap
  have E0 := (Ext.refl w).goA (.cells m.arr 27)
  have B0 := heap_alloc_new w (.cells m.arr 27)
  have S0 : (w.alloc (.cells m.arr 27)).heap.size = w.heap.size + 1 := by simp
  have h' := Lib.hid (h.ext E0)
  clear h
  unfold Mx.val
  go_enter Tryz.func10, Tryz.ntmps10
  go_upto_region 1 with fail
  have k4 : (w.alloc (.cells m.arr 27)).cell? ⟨w.heap.size, 4, none⟩ = some (.string m.key) := cellsAt B0 4
  have k5 : (w.alloc (.cells m.arr 27)).cell? ⟨w.heap.size, 5, none⟩ = some (.slice m.Ad m.nd m.cd) := cellsAt B0 5
  have k6 : (w.alloc (.cells m.arr 27)).cell? ⟨w.heap.size, 6, none⟩ = some (.slice m.Ap m.np m.cp) := cellsAt B0 6
  have k7 : (w.alloc (.cells m.arr 27)).cell? ⟨w.heap.size, 7, none⟩ = some (.slice m.Ac m.nc m.cc) := cellsAt B0 7
  have k8 : (w.alloc (.cells m.arr 27)).cell? ⟨w.heap.size, 8, none⟩ = some (.slice m.Ae m.ne m.ce) := cellsAt B0 8
  generalize w.alloc (.cells m.arr 27) = V at *
  go_wp2_with fail
  go_loopw [3, 4] (fun s i wr => ∃ (k d : Nat) (z : Int), k ≤ m.nc ∧ i = .int .i64 k ∧ s = .int .i64 z ∧ V.drewN d = wr) (fun _ i _ => m.nc - (intOf i).toNat)
  case atStart => exact ⟨0, 0, _, by omega, rfl, rfl, rfl⟩
  case round =>
    obtain ⟨k, d, z, hk, rfl, rfl, rfl⟩ := hrel
    have hd2 : (decide ((k : Int) < (m.nc : Int)) = false ∧ decide (k < m.nc) = false) ∨ (decide ((k : Int) < (m.nc : Int)) = true ∧ decide (k < m.nc) = true) := by by_cases h : k < m.nc <;> simp [h] <;> omega
    have hdd : ∀ b : Bool, decide ((k : Int) < (m.nc : Int)) = b → decide (k < m.nc ∧ z < 500) = (b && decide (z < 500)) := fun b hb => by
      subst hb
      by_cases h1 : k < m.nc <;> by_cases h2 : z < 500 <;> simp [h1, h2] <;> omega
    go_upto_region 3 with fail
    go_cut [35] (fun t wx => t = .bool (decide (k < m.nc ∧ z < 500)) ∧ V.drewN d = wx)
    case first =>
      rcases hd2 with ⟨e1, e1n⟩ | ⟨e1, e1n⟩
      all_goals
        go_wp2_with fail
        go_meet
        exact ⟨by rw [hdd _ e1]; simp, rfl⟩
    case rest =>
    obtain ⟨rfl, hwc⟩ := hcut
    subst hwc
    clear hd2 hdd
    by_cases hkn : k < m.nc ∧ z < 500
    · have e0 : decide (k < m.nc ∧ z < 500) = true := by simpa using hkn
      obtain ⟨hlt, -⟩ := hkn
      have e3 : (k : Int) < (m.nc : Int) := by omega
      obtain ⟨x, hx⟩ := h'.out.ca.get hlt
      obtain ⟨b1, o1, e1, hb1, hc1⟩ := h'.out.ca.at_ hx
      have p0 : V.cell? ⟨b1, o1 + k * 5, none⟩ = some (.string x.nm) := hc1 0 (by decide)
      have p4 : V.cell? ⟨b1, o1 + k * 5 + 4, none⟩ = some (.slice x.A x.n x.c) := hc1 4 (by decide)
      have y7 : V.cell? ⟨w.heap.size, 7, none⟩ = some (.slice (some ⟨b1, o1, none⟩) m.nc m.cc) := by rw [← e1]; exact k7
      clear hx hc1 k7
      rw [e0]
      go_wp2_with fail
      go_quiet (fail)
      go_wp2_with fail
      go_roundw
      case rel => exact ⟨k + 1, _, _, by omega, by go_num, rfl, rfl⟩
      case measure => simp [intOf]; omega
    · have e0 : decide (k < m.nc ∧ z < 500) = false := by simpa using hkn
      rw [e0]
      go_wp2_with fail
      go_loopw [3, 5] (fun s i wr => ∃ (k d : Nat) (z : Int), k ≤ m.ne ∧ i = .int .i64 k ∧ s = .int .i64 z ∧ V.drewN d = wr) (fun _ i _ => m.ne - (intOf i).toNat)
      case atStart => exact ⟨0, _, _, by omega, rfl, rfl, rfl⟩
      case round =>
        obtain ⟨k, d, z, hk, rfl, rfl, rfl⟩ := hrel
        have hd2 : (decide ((k : Int) < (m.ne : Int)) = false ∧ decide (k < m.ne) = false) ∨ (decide ((k : Int) < (m.ne : Int)) = true ∧ decide (k < m.ne) = true) := by by_cases h : k < m.ne <;> simp [h] <;> omega
        have hdd : ∀ b : Bool, decide ((k : Int) < (m.ne : Int)) = b → decide (k < m.ne ∧ z < 500) = (b && decide (z < 500)) := fun b hb => by
          subst hb
          by_cases h1 : k < m.ne <;> by_cases h2 : z < 500 <;> simp [h1, h2] <;> omega
        go_upto_region 7 with fail
        go_cut [64] (fun t wx => t = .bool (decide (k < m.ne ∧ z < 500)) ∧ V.drewN d = wx)
        case first =>
          rcases hd2 with ⟨e1, e1n⟩ | ⟨e1, e1n⟩
          all_goals
            go_wp2_with fail
            go_meet
            exact ⟨by rw [hdd _ e1]; simp, rfl⟩
        case rest =>
        obtain ⟨rfl, hwc⟩ := hcut
        subst hwc
        clear hd2 hdd
        by_cases hkn : k < m.ne ∧ z < 500
        · have e0 : decide (k < m.ne ∧ z < 500) = true := by simpa using hkn
          obtain ⟨hlt, -⟩ := hkn
          have e3 : (k : Int) < (m.ne : Int) := by omega
          obtain ⟨x, hx⟩ := h'.out.ef.get hlt
          obtain ⟨b1, o1, e1, hb1, hc1⟩ := h'.out.ef.at_ hx
          have p0 : V.cell? ⟨b1, o1 + k * 5, none⟩ = some (.string x.nm) := hc1 0 (by decide)
          have p4 : V.cell? ⟨b1, o1 + k * 5 + 4, none⟩ = some (.slice x.A x.n x.c) := hc1 4 (by decide)
          have y8 : V.cell? ⟨w.heap.size, 8, none⟩ = some (.slice (some ⟨b1, o1, none⟩) m.ne m.ce) := by rw [← e1]; exact k8
          clear hx hc1 k8
          rw [e0]
          go_wp2_with fail
          go_quiet (fail)
          go_wp2_with fail
          go_roundw
          case rel => exact ⟨k + 1, _, _, by omega, by go_num, rfl, rfl⟩
          case measure => simp [intOf]; omega
        · have e0 : decide (k < m.ne ∧ z < 500) = false := by simpa using hkn
          rw [e0]
          go_wp2_with fail
          go_loopw [3, 6] (fun s i wr => ∃ (k d : Nat) (z : Int), k ≤ m.np ∧ i = .int .i64 k ∧ s = .int .i64 z ∧ V.drewN d = wr) (fun _ i _ => m.np - (intOf i).toNat)
          case atStart => exact ⟨0, _, _, by omega, rfl, rfl, rfl⟩
          case round =>
            obtain ⟨k, d, z, hk, rfl, rfl, rfl⟩ := hrel
            have hd2 : (decide ((k : Int) < (m.np : Int)) = false ∧ decide (k < m.np) = false) ∨ (decide ((k : Int) < (m.np : Int)) = true ∧ decide (k < m.np) = true) := by by_cases h : k < m.np <;> simp [h] <;> omega
            have hdd : ∀ b : Bool, decide ((k : Int) < (m.np : Int)) = b → decide (k < m.np ∧ z < 500) = (b && decide (z < 500)) := fun b hb => by
              subst hb
              by_cases h1 : k < m.np <;> by_cases h2 : z < 500 <;> simp [h1, h2] <;> omega
            go_upto_region 11 with fail
            go_cut [93] (fun t wx => t = .bool (decide (k < m.np ∧ z < 500)) ∧ V.drewN d = wx)
            case first =>
              rcases hd2 with ⟨e1, e1n⟩ | ⟨e1, e1n⟩
              all_goals
                go_wp2_with fail
                go_meet
                exact ⟨by rw [hdd _ e1]; simp, rfl⟩
            case rest =>
            obtain ⟨rfl, hwc⟩ := hcut
            subst hwc
            clear hd2 hdd
            by_cases hkn : k < m.np ∧ z < 500
            · have e0 : decide (k < m.np ∧ z < 500) = true := by simpa using hkn
              obtain ⟨hlt, -⟩ := hkn
              have e3 : (k : Int) < (m.np : Int) := by omega
              obtain ⟨x, hx⟩ := h'.out.pt.get hlt
              obtain ⟨b1, o1, e1, hb1, hc1⟩ := h'.out.pt.at_ hx
              have p0 : V.cell? ⟨b1, o1 + k * 6, none⟩ = some (.string x.nm) := hc1 0 (by decide)
              have y6 : V.cell? ⟨w.heap.size, 6, none⟩ = some (.slice (some ⟨b1, o1, none⟩) m.np m.cp) := by rw [← e1]; exact k6
              clear hx hc1 k6
              rw [e0]
              go_wp2_with fail
              go_roundw
              case rel => exact ⟨k + 1, _, _, by omega, by go_num, rfl, rfl⟩
              case measure => simp [intOf]; omega
            · have e0 : decide (k < m.np ∧ z < 500) = false := by simpa using hkn
              rw [e0]
              go_wp2_with fail
              go_loopw [3, 7] (fun s i wr => ∃ (k d : Nat) (z : Int), k ≤ m.nd ∧ i = .int .i64 k ∧ s = .int .i64 z ∧ V.drewN d = wr) (fun _ i _ => m.nd - (intOf i).toNat)
              case atStart => exact ⟨0, _, _, by omega, rfl, rfl, rfl⟩
              case round =>
                obtain ⟨k, d, z, hk, rfl, rfl, rfl⟩ := hrel
                have hd2 : (decide ((k : Int) < (m.nd : Int)) = false ∧ decide (k < m.nd) = false) ∨ (decide ((k : Int) < (m.nd : Int)) = true ∧ decide (k < m.nd) = true) := by by_cases h : k < m.nd <;> simp [h] <;> omega
                have hdd : ∀ b : Bool, decide ((k : Int) < (m.nd : Int)) = b → decide (k < m.nd ∧ z < 500) = (b && decide (z < 500)) := fun b hb => by
                  subst hb
                  by_cases h1 : k < m.nd <;> by_cases h2 : z < 500 <;> simp [h1, h2] <;> omega
                go_upto_region 15 with fail
                go_cut [114] (fun t wx => t = .bool (decide (k < m.nd ∧ z < 500)) ∧ V.drewN d = wx)
                case first =>
                  rcases hd2 with ⟨e1, e1n⟩ | ⟨e1, e1n⟩
                  all_goals
                    go_wp2_with fail
                    go_meet
                    exact ⟨by rw [hdd _ e1]; simp, rfl⟩
                case rest =>
                obtain ⟨rfl, hwc⟩ := hcut
                subst hwc
                clear hd2 hdd
                by_cases hkn : k < m.nd ∧ z < 500
                · have e0 : decide (k < m.nd ∧ z < 500) = true := by simpa using hkn
                  obtain ⟨hlt, -⟩ := hkn
                  have e3 : (k : Int) < (m.nd : Int) := by omega
                  obtain ⟨x, hx⟩ := h'.out.dv.get hlt
                  obtain ⟨b1, o1, e1, hb1, hc1⟩ := h'.out.dv.at_ hx
                  have p0 : V.cell? ⟨b1, o1 + k * 3, none⟩ = some (.string x.nm) := hc1 0 (by decide)
                  have y5 : V.cell? ⟨w.heap.size, 5, none⟩ = some (.slice (some ⟨b1, o1, none⟩) m.nd m.cd) := by rw [← e1]; exact k5
                  clear hx hc1 k5
                  rw [e0]
                  go_wp2_with fail
                  go_roundw
                  case rel => exact ⟨k + 1, _, _, by omega, by go_num, rfl, rfl⟩
                  case measure => simp [intOf]; omega
                · have e0 : decide (k < m.nd ∧ z < 500) = false := by simpa using hkn
                  rw [e0]
                  go_wp2_with fail
                  go_ret
                  exact ⟨⟨_, rfl⟩, E0.goD _⟩
end Go.Proofs.YtgajbgdkgelkgaaGreat
namespace Go.Proofs.YtgajbgdkgelkgaaGreat

structure FrInv (m : Mx) (now : Int) (c0 : Co) (k : Nat) (s : Co × List Nt) : Prop where
  tr : s.1.tr = c0.tr
  en : s.1.en = c0.en
  ca : s.1.ca = c0.ca
  off : ∀ e, e < k → (efAt m e).ps.all (fun q => healthyC c0 q.toNat now) = true → setOf s.1.ef e = false
theorem healthy_of {c c' : Co} (h1 : c'.tr = c.tr) (h2 : c'.en = c.en) (q : Nat) (now : Int) : healthyC c' q now = healthyC c q now := by unfold healthyC; rw [h1, h2]
theorem setOf_resetL (r : Lw) (i j : Nat) : setOf (resetL r i) j = if j = i then false else setOf r j := by
  unfold setOf resetL
  dsimp only
  by_cases h : j = i
  · subst h
    rw [if_pos rfl, List.getD_eq_getElem?_getD]
    by_cases hl : j < r.s.length
    · rw [List.getElem?_set_self hl]; rfl
    · rw [List.getElem?_eq_none (by simpa using hl)]; rfl
  · rw [if_neg h, List.getD_eq_getElem?_getD, List.getD_eq_getElem?_getD, List.getElem?_set_ne (fun e => h e.symm)]
theorem frInv (m : Mx) (now : Int) (c0 : Co) (l : List Nt) : FrInv m now c0 m.efs.length (foldN (freeStep m now) (c0, l) m.efs.length) := by
  refine foldN_inv (FrInv m now c0) _ _ _ ⟨rfl, rfl, rfl, fun e h => absurd h (by omega)⟩ (fun k hk s h => ?_)
  have hh : ∀ q, healthyC s.1 q now = healthyC c0 q now := fun q => healthy_of h.tr h.en q now
  unfold freeStep
  simp only [hh]
  split
  · refine ⟨h.tr, h.en, h.ca, fun e he ha => ?_⟩
    dsimp only
    rw [setOf_resetL]
    split
    · rfl
    · exact h.off e (by omega) ha
  · rename_i hc
    refine ⟨h.tr, h.en, h.ca, fun e he ha => ?_⟩
    rcases Nat.lt_or_ge e k with h1 | h1
    · exact h.off e h1 ha
    · obtain rfl : e = k := by omega
      rw [ha, Bool.true_and] at hc
      simpa using hc
structure ClInv (now : Int) (c0 : Co) (k : Nat) (s : Co × List Nt) : Prop where
  tr : s.1.tr = c0.tr
  en : s.1.en = c0.en
  ef : s.1.ef = c0.ef
  off : ∀ q, q < k → healthyC c0 q now = true → setOf s.1.ca q = false
theorem clInv (now : Int) (c0 : Co) (l : List Nt) (n : Nat) : ClInv now c0 n (foldN (clearStep now) (c0, l) n) := by
  refine foldN_inv (ClInv now c0) _ _ _ ⟨rfl, rfl, rfl, fun e h => absurd h (by omega)⟩ (fun k hk s h => ?_)
  have hh : ∀ q, healthyC s.1 q now = healthyC c0 q now := fun q => healthy_of h.tr h.en q now
  unfold clearStep
  simp only [hh]
  split
  · refine ⟨h.tr, h.en, h.ef, fun e he ha => ?_⟩
    dsimp only
    rw [setOf_resetL]
    split
    · rfl
    · exact h.off e (by omega) ha
  · rename_i hc
    refine ⟨h.tr, h.en, h.ef, fun e he ha => ?_⟩
    rcases Nat.lt_or_ge e k with h1 | h1
    · exact h.off e h1 ha
    · obtain rfl : e = k := by omega
      rw [ha, Bool.true_and] at hc
      simpa using hc
/-- Reset again, at the same time, with the key: nothing more. -/
theorem reset_twice (m : Mx) (now : Int) (c : Co) : resetC m true now (resetC m true now c).1 = ((resetC m true now c).1, [], 0) := by
  have I1 := frInv m now c []
  have hr : (resetC m true now c).1 = (foldN (clearStep now) (foldN (freeStep m now) (c, []) m.efs.length) m.cas.length).1 := rfl
  rw [hr]
  generalize foldN (freeStep m now) (c, []) m.efs.length = s1 at I1
  obtain ⟨c1, l1⟩ := s1
  have I2 := clInv now c1 l1 m.cas.length
  generalize foldN (clearStep now) (c1, l1) m.cas.length = s2 at I2
  obtain ⟨c2, l2⟩ := s2
  have htr : c2.tr = c.tr := I2.tr.trans I1.tr
  have hen : c2.en = c.en := I2.en.trans I1.en
  have hh : ∀ q, healthyC c2 q now = healthyC c q now := fun q => healthy_of htr hen q now
  have hh1 : ∀ q, healthyC c1 q now = healthyC c q now := fun q => healthy_of I1.tr I1.en q now
  have e1 : foldN (freeStep m now) (c2, []) m.efs.length = (c2, []) := foldN_still _ _ _ fun k hk => by
    unfold freeStep
    simp only [hh]
    rw [if_neg]
    intro hc
    rw [Bool.and_eq_true] at hc
    have := I1.off k hk hc.1
    rw [show setOf c2.ef k = setOf c1.ef k from congrArg (setOf · k) I2.ef] at hc
    rw [this] at hc
    exact absurd hc.2 (by decide)
  have e2 : foldN (clearStep now) (c2, []) m.cas.length = (c2, []) := foldN_still _ _ _ fun k hk => by
    unfold clearStep
    simp only [hh]
    rw [if_neg]
    intro hc
    rw [Bool.and_eq_true] at hc
    have := I2.off k hk (by rw [hh1]; exact hc.1)
    rw [this] at hc
    exact absurd hc.2 (by decide)
  unfold resetC
  rw [if_pos rfl]
  dsimp only
  rw [e1, e2]
end Go.Proofs.YtgajbgdkgelkgaaGreat
