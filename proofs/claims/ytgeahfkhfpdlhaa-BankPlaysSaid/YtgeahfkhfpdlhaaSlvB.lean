/- Layer 23, the walks: Bits. -/
import Derived.Test.YtgeahfkhfpdlhaaG18
namespace Go.Proofs.Ytgeahfkhfpdlhaa
open Go.RowKit

theorem shBit_at (v : Vw) (k j : Nat) (hj : j < 8) : shBitAt v (8 * k + j) = if (vwList v k).getD j false = true then 1 else 0 := by
  unfold shBitAt
  rw [show (8 * k + j) / 8 = k by omega, show (8 * k + j) % 8 = j by omega]
set_option maxRecDepth 100000 in
set_option maxHeartbeats 6400000 in
theorem slvBits_any (v : Vw) (w : World) (hv : RdVw w v) :
    Calls Try.prog 62 #[.agg v.cells] w (BlkPost 32 (shBitsL v) w) := by
  have hmk := fun w => run_mkI Try.underlying30 info_u16 (32 : Int) 32 rfl (by omega) (by omega) w
  have hs0 : shBitsTo v 0 = zs 32 := fillR_zero _ _
  have hset : ∀ m, (shBitsTo v m).set m (shBitAt v m) = shBitsTo v (m + 1) := fun m => fillR_set _ _ m
  have hv' := Lib.hid hv
  have hset' := Lib.hid hset
  unfold Vw.cells
  have EU := ((Ext.refl w).goA (.cells #[.slice v.aL v.looks.length v.cL, .int .i64 v.horn, .slice v.aC v.cs.length v.cC, .slice v.aE v.es.length v.cE, .slice v.aB v.bs.length v.cB, .slice v.aT v.ts.length v.cT, .slice v.aN v.ns.length v.cN] 88)).goA (.cells (row .u16 (zs 32)) 34)
  have hV : ((w.alloc (.cells #[.slice v.aL v.looks.length v.cL, .int .i64 v.horn, .slice v.aC v.cs.length v.cC, .slice v.aE v.es.length v.cE, .slice v.aB v.bs.length v.cB, .slice v.aT v.ts.length v.cT, .slice v.aN v.ns.length v.cN] 88)).alloc (.cells (row .u16 (zs 32)) 34)).heap[w.heap.size]? = some (.cells #[.slice v.aL v.looks.length v.cL, .int .i64 v.horn, .slice v.aC v.cs.length v.cC, .slice v.aE v.es.length v.cE, .slice v.aB v.bs.length v.cB, .slice v.aT v.ts.length v.cT, .slice v.aN v.ns.length v.cN] 88 (0, 0)) := by rw [alloc_get, if_neg (by simp), alloc_get, if_pos rfl]
  have hG : Blk ((w.alloc (.cells #[.slice v.aL v.looks.length v.cL, .int .i64 v.horn, .slice v.aC v.cs.length v.cC, .slice v.aE v.es.length v.cE, .slice v.aB v.bs.length v.cB, .slice v.aT v.ts.length v.cT, .slice v.aN v.ns.length v.cN] 88)).alloc (.cells (row .u16 (zs 32)) 34)) (w.heap.size + 1) 34 .u16 (zs 32) := by unfold Blk; rw [alloc_get, if_pos (by simp)]
  have hG2 : Blk ((w.alloc (.cells #[.slice v.aL v.looks.length v.cL, .int .i64 v.horn, .slice v.aC v.cs.length v.cC, .slice v.aE v.es.length v.cE, .slice v.aB v.bs.length v.cB, .slice v.aT v.ts.length v.cT, .slice v.aN v.ns.length v.cN] 88)).alloc (.cells (row .u16 (zs 32)) 34)) (w.heap.size + 1) 34 .u16 (shBitsTo v (8 * 0)) := by rw [show shBitsTo v (8 * 0) = zs 32 from hs0]; exact hG
  have hG' := Lib.hid hG2
  have hc := cellsAt hV
  have sU : ((w.alloc (.cells #[.slice v.aL v.looks.length v.cL, .int .i64 v.horn, .slice v.aC v.cs.length v.cC, .slice v.aE v.es.length v.cE, .slice v.aB v.bs.length v.cB, .slice v.aT v.ts.length v.cT, .slice v.aN v.ns.length v.cN] 88)).alloc (.cells (row .u16 (zs 32)) 34)).heap.size = w.heap.size + 2 := by simp
  have sU' := Lib.hid sU
  clear hG hG2 hs0 hset hv hV sU
  go_enter Try.func62, Try.ntmps62
  go_wp2_with fail
  generalize (w.alloc (.cells #[.slice v.aL v.looks.length v.cL, .int .i64 v.horn, .slice v.aC v.cs.length v.cC, .slice v.aE v.es.length v.cE, .slice v.aB v.bs.length v.cB, .slice v.aT v.ts.length v.cT, .slice v.aN v.ns.length v.cN] 88)).alloc (.cells (row .u16 (zs 32)) 34) = U at *
  clear hmk hc
  go_loopw [18] (fun i wr => ∃ k : Nat, k ≤ 4 ∧ i = .int .i64 k ∧ Blk wr (w.heap.size + 1) 34 .u16 (shBitsTo v (8 * k)) ∧ Mod (fun i => i = w.heap.size + 1) U wr) (fun i _ => 4 - (intOf i).toNat)
  case atStart => exact ⟨0, by omega, rfl, hG'.out, Mod.refl _ _⟩
  case round =>
    obtain ⟨k, hk, rfl, hB, hM⟩ := hrel
    have hB' := Lib.hid hB
    clear hB
    by_cases hlt : k < 4
    · obtain ⟨A, c, hix, hrd, hlm⟩ : ∃ A c, (∀ w : World, (Instr.index 135 (.agg #[.slice v.aC v.cs.length v.cC, .slice v.aE v.es.length v.cE, .slice v.aB v.bs.length v.cB, .slice v.aT v.ts.length v.cT]) (.int .i64 (k : Int))).run Try.prog w = .ok (.slice A (vwList v k).length c) w) ∧ RdV w w.heap.size A (vwList v k).length ((vwList v k).map Value.bool) ∧ (vwList v k).length ≤ maxLen := by
        have hl := hv'.out.len
        rcases (show k = 0 ∨ k = 1 ∨ k = 2 ∨ k = 3 by omega) with rfl | rfl | rfl | rfl
        · exact ⟨v.aC, v.cC, fun _ => by kernel_rfl, hv'.out.cs, hl.2.1⟩
        · exact ⟨v.aE, v.cE, fun _ => by kernel_rfl, hv'.out.es, hl.2.2.1⟩
        · exact ⟨v.aB, v.cB, fun _ => by kernel_rfl, hv'.out.bs, hl.2.2.2.1⟩
        · exact ⟨v.aT, v.cT, fun _ => by kernel_rfl, hv'.out.ts, hl.2.2.2.2.1⟩
      have hbt := shBit_at v k
      generalize vwList v k = l at *
      unfold maxLen at hlm
      have hrd' := Lib.hid hrd
      have hbt' := Lib.hid hbt
      clear hrd hbt
      have sr := hM.size
      obtain ⟨wo, hwo⟩ : ∃ wo : World, wo = wr := ⟨_, rfl⟩
      subst hwo
      go_wp2_with fail
      refine (slvFrom_any (w.heap.size + 1) 32 ((k : Int) * 8) wo).mono ?_
      rintro e W3 ⟨rfl, F3, X3⟩
      rw [show (k : Int) * 8 = ((k * 8 : Nat) : Int) by omega] at F3
      have B3 := Lib.hid ((X3.block _ hB'.out.lt).trans hB'.out)
      have F3' := Lib.hid F3
      have M3 : Mod (fun i => i = w.heap.size + 1) U W3 := hM.trans (Mod.ofBelow X3)
      have E3 : Ext w W3 := EU.goM M3 (fun i hi => by omega)
      have sU2 := sU'.out
      have hFb : ∀ i, i = w.heap.size + 1 → ¬ (wo.heap.size = i) ∧ ¬ (wo.heap.size + 1 = i) := fun i hi => by omega
      clear F3 X3 hB' hM hix
      go_wp2_with fail
      go_loopw [29] (fun i wr => ∃ j : Nat, j ≤ l.length ∧ j ≤ 8 ∧ i = .int .i64 j ∧ Blk wr (w.heap.size + 1) 34 .u16 (shBitsTo v (8 * k + j)) ∧ Mod (fun i => i = w.heap.size + 1) W3 wr) (fun i _ => 8 - (intOf i).toNat)
      case atStart => exact ⟨0, by omega, by omega, rfl, B3.out, Mod.refl _ _⟩
      case round =>
        obtain ⟨j, hj1, hj2, rfl, hB, hM⟩ := hrel
        have hB' := Lib.hid hB
        clear hB
        by_cases hlt2 : j < l.length ∧ j < 8
        · obtain ⟨h1, h2⟩ := hlt2
          have f1 : decide ((j : Int) < min (l.length : Int) 8) = true := by simp; omega
          obtain ⟨b, o, rfl, hbl, hc0⟩ := hrd'.out.bool h1
          have hEr : Ext w wr := E3.goM hM (fun i hi => by omega)
          have hc1 := (hEr.cell _ hbl).trans hc0
          have hba := hbt'.out j h2
          generalize l.getD j false = x at *
          clear hc0
          cases x
          · have hsk : shBitsTo v (8 * k + j) = shBitsTo v (8 * k + (j + 1)) := fillR_skip _ _ _ _ (by omega) (fun i h3 h4 => by rw [show i = 8 * k + j by omega, hba]; rfl)
            have hsk' := Lib.hid hsk
            clear hsk hba
            go_wp2_with fail
            go_roundw
            case rel => exact ⟨j + 1, by omega, by omega, by go_num, by rw [← hsk'.out]; exact hB'.out, hM⟩
            case measure => simp [intOf]; omega
          · have hba' := Lib.hid hba
            clear hba
            go_wp2_with fail
            refine (slvFill_any wo.heap.size (wo.heap.size + 1) (w.heap.size + 1) 32 (k * 8) j 1 _ wr (F3'.out.mod hM (hFb _ rfl).1 (hFb _ rfl).2) hB'.out (shBitsTo_length v _) (by omega) (by omega)).mono ?_
            rintro e wz ⟨rfl, rfl⟩
            have hB5 : Blk (wr.setCell ⟨w.heap.size + 1, k * 8 + j, none⟩ (.int .u16 (wr16 1))) (w.heap.size + 1) 34 .u16 (shBitsTo v (8 * k + (j + 1))) := by
              have h := hB'.out.set_ (k * 8 + j) (wr16 1)
              have e := hset'.out (8 * k + j)
              have e1 : shBitAt v (8 * k + j) = 1 := by rw [hba'.out]; simp
              rw [e1] at e
              rw [show k * 8 + j = 8 * k + j by omega] at h ⊢
              rw [show wr16 1 = 1 from rfl] at h ⊢
              rwa [e] at h
            have hM5 := hM.setCell (p := ⟨w.heap.size + 1, k * 8 + j, none⟩) (.inl rfl) (.int .u16 (wr16 1))
            have hB5' := Lib.hid hB5
            clear hB5 hB'
            go_wp2_with fail
            go_roundw
            case rel => exact ⟨j + 1, by omega, by omega, by go_num, hB5'.out, hM5⟩
            case measure => simp [intOf]; omega
        · have f1 : decide ((j : Int) < min (l.length : Int) 8) = false := by simp; omega
          have hsk : shBitsTo v (8 * k + j) = shBitsTo v (8 * (k + 1)) := fillR_skip _ _ _ _ (by omega) (fun i h3 h4 => by
            have h5 := hbt'.out (i - 8 * k) (by omega)
            rw [show 8 * k + (i - 8 * k) = i by omega] at h5
            rw [h5, List.getD_eq_getElem?_getD, List.getElem?_eq_none (by omega)]
            rfl)
          have hsk' := Lib.hid hsk
          clear hsk
          go_wp2_with fail
          go_roundw
          case rel => exact ⟨k + 1, by omega, by go_num, by rw [← hsk'.out]; exact hB'.out, M3.trans hM⟩
          case measure => simp [intOf]; omega
    · obtain rfl : k = 4 := by omega
      have hfin : shBitsTo v (8 * 4) = shBitsL v := fillR_all _ _ _ (by omega)
      have hB := hB'.out
      rw [hfin] at hB
      have hB2 := Lib.hid hB
      clear hB hfin hB'
      go_wp2_with fail
      go_ret
      exact ⟨w.heap.size + 1, rfl, hB2.out, EU.goM hM (fun i hi => by omega), by omega⟩
end Go.Proofs.Ytgeahfkhfpdlhaa
