/- Layer 23, the walks: New, Show. -/
import Derived.Test.YtgeahfkhfpdlhaaSlvB
import Derived.Test.YtgeahfkhfpdlhaaG13
import Derived.Test.YtgeahfkhfpdlhaaG12
namespace Go.Proofs.Ytgeahfkhfpdlhaa
open Go.RowKit

/-- A slave lies in block s, its bank in block g. -/
structure Sv (w : World) (s g : Nat) (L : Nat → List Int) (G : Nat → Nat) : Prop where
  head : w.heap[s]? = some (.cells #[.pointer (some ⟨g, 0, none⟩)] 131 (0, 0))
  bk : Bk w g L G
  ns : ¬ RowsOf G s
  l0 : (L 0).length = 0
  l1 : (L 1).length = 32
  l2 : (L 2).length = 19
  l3 : (L 3).length = 34
section
variable {w w' : World} {s g : Nat} {L : Nat → List Int} {G : Nat → Nat}
theorem Sv.ext (h : Sv w s g L G) (E : Ext w w') : Sv w' s g L G := ⟨(E.block s (lt_of_block h.head)).trans h.head, h.bk.ext E, h.ns, h.l0, h.l1, h.l2, h.l3⟩
theorem Sv.turn (h : Sv w s g L G) {L' : Nat → List Int} (hb : Bk w' g L' G) (M : Mod (RowsOf G) w w') (hl : ∀ k, (L' k).length = (L k).length) : Sv w' s g L' G :=
  ⟨(M.block s (lt_of_block h.head) h.ns).trans h.head, hb, h.ns, (hl 0).trans h.l0, (hl 1).trans h.l1, (hl 2).trans h.l2, (hl 3).trans h.l3⟩
end
theorem putB_set (L : Nat → List Int) (kd i : Nat) (v : Int) (hk : kd < 4) (h : i < (L kd).length) : spanB L kd i 1 = true ∧ putB L kd i v = upd L kd ((L kd).set i (putV kd v)) := by
  have hs : spanB L kd i 1 = true := by
    unfold spanB
    rw [sizeB_of L kd hk]
    simp; omega
  refine ⟨hs, ?_⟩
  unfold putB
  rw [if_pos hs, Int.toNat_natCast, Int.toNat_natCast]
def slvL0 : Nat → List Int := newL 0 32 19 34
def SlvNewPost (w : World) (e : Ending) (w' : World) : Prop := ∃ s g G, e = .returned (.pointer (some ⟨s, 0, none⟩)) ∧ Sv w' s g slvL0 G ∧ Ext w w' ∧ w.heap.size ≤ g ∧ w.heap.size ≤ s
set_option maxRecDepth 100000 in
set_option maxHeartbeats 800000 in
theorem slvNew_any (w : World) : Calls Try.prog 56 #[] w (SlvNewPost w) := by
  go_enter Try.func56, Try.ntmps56
  go_wp2_with fail
  refine (bankNew_any 0 32 19 34 w).mono ?_
  rintro e w1 ⟨g, G, rfl, B1, E1, hg⟩
  have B1' : Hid (Bk w1 g slvL0 G) := Lib.hid B1
  have hns : Hid (¬ RowsOf G w1.heap.size) := Lib.hid (fun h => by have := B1.old (.inr h); omega)
  clear B1
  go_wp2_with fail
  go_ret
  have X := (Ext.refl w1).goA (.cells #[.pointer (some ⟨g, 0, none⟩)] 131)
  exact ⟨w1.heap.size, g, G, rfl, ⟨heap_alloc_new w1 _, B1'.out.ext X, hns.out, by kernel_rfl, by kernel_rfl, by kernel_rfl, by kernel_rfl⟩, E1.go X, hg, E1.size⟩
/-- The rows behind a Show. -/
def showL (L : Nat → List Int) (v : Vw) : Nat → List Int := upd (upd L 1 (shBitsL v)) 3 (shRegsL v)
theorem fill_row {l xs : List Int} {k : Nat} (hl : xs.length = l.length) (hk : k < xs.length) : (fillA l 0 xs k).set k (xs.getD k 0) = fillA l 0 xs (k + 1) := by
  have := fillA_set l 0 xs k hk (by omega)
  rwa [Nat.zero_add] at this
theorem fill_whole {l xs : List Int} (hl : xs.length = l.length) : fillA l 0 xs xs.length = xs := by
  rw [fillA_all _ _ _ _ (Nat.le_refl _)]
  exact splice_all hl
theorem upd_len {L : Nat → List Int} {k : Nat} {l : List Int} (h : l.length = (L k).length) (j : Nat) : (upd L k l j).length = (L j).length := by
  by_cases e : j = k
  · subst e; rw [upd_same, h]
  · rw [upd_other _ _ e]
set_option maxRecDepth 100000 in
set_option maxHeartbeats 6400000 in
theorem slvShow_any (s g : Nat) (v : Vw) (L : Nat → List Int) (G : Nat → Nat) (w : World) (hS : Sv w s g L G) (hv : ∀ w', Mod (RowsOf G) w w' → RdVw w' v) :
    Calls Try.prog 59 #[.pointer (some ⟨s, 0, none⟩), .agg v.cells] w fun e w' => e = .returned (.tuple #[]) ∧ Sv w' s g (showL L v) G ∧ Mod (RowsOf G) w w' := by
  have hv' := Lib.hid hv
  have hS' := Lib.hid hS
  have hlt : ∀ i, RowsOf G i → i < w.heap.size := fun i h => hS.bk.old (.inr h)
  have hlt' := Lib.hid hlt
  have hx := heap_alloc_new w (.cells #[.slice v.aL v.looks.length v.cL, .int .i64 v.horn, .slice v.aC v.cs.length v.cC, .slice v.aE v.es.length v.cE, .slice v.aB v.bs.length v.cB, .slice v.aT v.ts.length v.cT, .slice v.aN v.ns.length v.cN] 88)
  have XB := (Ext.refl w).goA (.cells #[.slice v.aL v.looks.length v.cL, .int .i64 v.horn, .slice v.aC v.cs.length v.cC, .slice v.aE v.es.length v.cE, .slice v.aB v.bs.length v.cB, .slice v.aT v.ts.length v.cT, .slice v.aN v.ns.length v.cN] 88)
  have hbl : (shBitsL v).length = 32 := by simp [shBitsL]
  have hrl : (shRegsL v).length = 34 := by simp [shRegsL]
  have c0 := cellsAt hx
  have hx' := Lib.hid hx
  have hbl' := Lib.hid hbl
  have hrl' := Lib.hid hrl
  clear hv hS hx hbl hrl hlt
  unfold Vw.cells
  go_enter Try.func59, Try.ntmps59
  go_wp2_with fail
  generalize w.alloc (.cells #[.slice v.aL v.looks.length v.cL, .int .i64 v.horn, .slice v.aC v.cs.length v.cC, .slice v.aE v.es.length v.cE, .slice v.aB v.bs.length v.cB, .slice v.aT v.ts.length v.cT, .slice v.aN v.ns.length v.cN] 88) = W0 at *
  refine (slvBits_any v W0 (hv'.out W0 (Mod.ofBelow XB))).mono ?_
  rintro e W1 ⟨g1, rfl, K1, D1, hg1⟩
  have E1 := XB.go D1
  have S1 := Lib.hid (hS'.out.ext E1)
  have hx1 := Lib.hid ((D1.block _ (lt_of_block hx'.out)).trans hx'.out)
  have s0 := XB.size
  have hK1 := Lib.hid K1
  have hr1 : Hid (∀ j, shBitAt v j ≤ 1 ∧ 0 ≤ shBitAt v j) := Lib.hid (fun j => ⟨(shBitAt_range v j).2, (shBitAt_range v j).1⟩)
  have hr2 : Hid (∀ j, shRegAt v j ≤ 65535 ∧ 0 ≤ shRegAt v j) := Lib.hid (fun j => ⟨(shRegAt_range v j).2, (shRegAt_range v j).1⟩)
  have hgb : Hid (∀ k < 32, (shBitsL v).getD k 0 = shBitAt v k) := Lib.hid (fun k hk => by simp [shBitsL, hk])
  have hgr : Hid (∀ k < 34, (shRegsL v).getD k 0 = shRegAt v k) := Lib.hid (fun k hk => by simp [shRegsL, hk])
  have hL1 : Hid ((shBitsL v).length = (L 1).length) := Lib.hid (by rw [hbl'.out, hS'.out.l1])
  have hL3 : Hid ((shRegsL v).length = (L 3).length) := Lib.hid (by rw [hrl'.out, hS'.out.l3])
  clear K1 c0
  go_wp2_with fail
  go_loopw [11] (fun i wr => ∃ k : Nat, k ≤ 32 ∧ i = .int .i64 k ∧ Sv wr s g (upd L 1 (fillA (L 1) 0 (shBitsL v) k)) G ∧ Mod (RowsOf G) W1 wr) (fun i _ => 32 - (intOf i).toNat)
  case atStart => exact ⟨0, by omega, rfl, by rw [fillA_zero, upd_self]; exact S1.out, Mod.refl _ _⟩
  case round =>
    obtain ⟨k, hk, rfl, hT, hM⟩ := hrel
    have hT' := Lib.hid hT
    clear hT
    by_cases hlt : k < 32
    · have f1 : decide ((k : Int) < 32) = true := by simp; omega
      have hKr : Blk wr g1 34 .u16 (shBitsL v) := (hM.block g1 hK1.out.lt (fun h => by have := hlt'.out _ h; omega)).trans hK1.out
      have hc := hKr.cell k (by rw [hbl'.out]; exact hlt)
      rw [hgb.out k hlt] at hc
      have hxr := hr1.out k
      have hst := fill_row hL1.out (k := k) (by rw [hbl'.out]; exact hlt)
      rw [hgb.out k hlt] at hst
      have hsc := cellsAt hT'.out.head
      have hlen : k < ((upd L 1 (fillA (L 1) 0 (shBitsL v) k)) 1).length := by rw [hT'.out.l1]; exact hlt
      have hp := bankPut_any g 1 (k : Int) (shBitAt v k) _ G wr hT'.out.bk hxr.2 (by omega)
      unfold PutPost at hp
      have hset := putB_set (upd L 1 (fillA (L 1) 0 (shBitsL v) k)) 1 k (shBitAt v k) (by omega) hlen
      have hpv : putV ((1 : Nat) : Int) (shBitAt v k) = shBitAt v k := by unfold putV; rw [if_pos (.inr rfl)]; omega
      rw [hpv, upd_same, upd_upd, hst] at hset
      rw [show ((1 : Nat) : Int) = 1 from rfl] at hset
      rw [hset.1, hset.2] at hp
      have hp' := Lib.hid hp
      generalize shBitAt v k = x at *
      clear hKr hst hset hpv hp
      go_wp2_with fail
      refine hp'.out.mono ?_
      rintro e w3 ⟨rfl, B3, M3⟩
      have T3 := Lib.hid (hT'.out.turn B3 M3 (fun j => by
        by_cases e : j = 1
        · subst e
          rw [upd_same, upd_same, fillA_length _ _ _ _ (by have := hL1.out; have := hbl'.out; omega), fillA_length _ _ _ _ (by have := hL1.out; have := hbl'.out; omega)]
        · rw [upd_other _ _ e, upd_other _ _ e]))
      have M13 := hM.trans M3
      clear B3 M3 hc hsc
      go_wp2_with fail
      go_roundw
      case rel => exact ⟨k + 1, by omega, by go_num, T3.out, M13⟩
      case measure => simp [intOf]; omega
    · obtain rfl : k = 32 := by omega
      have T2 := hT'.out
      rw [← hbl'.out, fill_whole hL1.out] at T2
      have T2' := Lib.hid T2
      have hvc := Lib.hid ((hM.block _ (lt_of_block hx1.out) (fun h => by have := hlt'.out _ h; omega)).trans hx1.out)
      have v2c := cellsAt hvc.out
      have E2 : Mod (RowsOf G) W0 wr := (Mod.ofBelow D1).trans hM
      clear T2 hT' hM
      go_wp2_with fail
      have M2w : Mod (RowsOf G) w wr := (Mod.ofBelow XB).trans E2
      refine (slvRegs_any v wr (hv'.out wr M2w)).mono ?_
      rintro e W4 ⟨g2, rfl, K2, D2, hg2⟩
      have S4 := Lib.hid (T2'.out.ext D2)
      have M4w := M2w.trans (Mod.ofBelow D2)
      have hK2 := Lib.hid K2
      have s4 := M2w.size
      clear K2 v2c hvc T2' E2
      go_wp2_with fail
      go_loopw [27] (fun i wr => ∃ k : Nat, k ≤ 34 ∧ i = .int .i64 k ∧ Sv wr s g (upd (upd L 1 (shBitsL v)) 3 (fillA (L 3) 0 (shRegsL v) k)) G ∧ Mod (RowsOf G) W4 wr) (fun i _ => 34 - (intOf i).toNat)
      case atStart => exact ⟨0, by omega, rfl, by rw [fillA_zero, show L 3 = upd L 1 (shBitsL v) 3 from (upd_other L _ (by omega)).symm, upd_self]; exact S4.out, Mod.refl _ _⟩
      case round =>
        obtain ⟨k, hk, rfl, hT, hM⟩ := hrel
        have hT' := Lib.hid hT
        clear hT
        by_cases hlt : k < 34
        · have f1 : decide ((k : Int) < 34) = true := by simp; omega
          have hKr : Blk wr g2 34 .u16 (shRegsL v) := (hM.block g2 hK2.out.lt (fun h => by have := hlt'.out _ h; omega)).trans hK2.out
          have hc := hKr.cell k (by rw [hrl'.out]; exact hlt)
          rw [hgr.out k hlt] at hc
          have hxr := hr2.out k
          have hst := fill_row hL3.out (k := k) (by rw [hrl'.out]; exact hlt)
          rw [hgr.out k hlt] at hst
          have hsc := cellsAt hT'.out.head
          have hlen : k < ((upd (upd L 1 (shBitsL v)) 3 (fillA (L 3) 0 (shRegsL v) k)) 3).length := by rw [hT'.out.l3]; exact hlt
          have hp := bankPut_any g 3 (k : Int) (shRegAt v k) _ G wr hT'.out.bk hxr.2 (by omega)
          unfold PutPost at hp
          have hset := putB_set (upd (upd L 1 (shBitsL v)) 3 (fillA (L 3) 0 (shRegsL v) k)) 3 k (shRegAt v k) (by omega) hlen
          have hpv : putV ((3 : Nat) : Int) (shRegAt v k) = shRegAt v k := by unfold putV; rw [if_neg (by omega)]
          rw [hpv, upd_same, upd_upd, hst] at hset
          rw [show ((3 : Nat) : Int) = 3 from rfl] at hset
          rw [hset.1, hset.2] at hp
          have hp' := Lib.hid hp
          generalize shRegAt v k = x at *
          clear hKr hst hset hpv hp
          go_wp2_with fail
          refine hp'.out.mono ?_
          rintro e w3 ⟨rfl, B3, M3⟩
          have T3 := Lib.hid (hT'.out.turn B3 M3 (fun j => by
            by_cases e : j = 3
            · subst e
              rw [upd_same, upd_same, fillA_length _ _ _ _ (by have := hL3.out; have := hrl'.out; omega), fillA_length _ _ _ _ (by have := hL3.out; have := hrl'.out; omega)]
            · rw [upd_other _ _ e, upd_other _ _ e]))
          have M13 := hM.trans M3
          clear B3 M3 hc hsc
          go_wp2_with fail
          go_roundw
          case rel => exact ⟨k + 1, by omega, by go_num, T3.out, M13⟩
          case measure => simp [intOf]; omega
        · obtain rfl : k = 34 := by omega
          have T2 := hT'.out
          rw [← hrl'.out, fill_whole hL3.out] at T2
          have T2' := Lib.hid T2
          clear T2 hT'
          go_wp2_with fail
          go_end0
          exact ⟨rfl, T2'.out, M4w.trans hM⟩
end Go.Proofs.Ytgeahfkhfpdlhaa
