
/- Layer 6, the walks: what stands at all places. -/
import Derived.Test.YtgeahfkhfpdlhaaBankFill
namespace Go.Proofs.Ytgeahfkhfpdlhaa
open Go.RowKit

def catTo (L : Nat → List Int) (k : Nat) : List Int := (List.range k).flatMap L
def allL (L : Nat → List Int) : List Int := catTo L 4
theorem catTo_succ (L : Nat → List Int) (k : Nat) : catTo L (k + 1) = catTo L k ++ L k := by unfold catTo; rw [List.range_succ, List.flatMap_append]; simp
theorem catTo_len (L : Nat → List Int) (h : ∀ k, (L k).length ≤ 256) (k : Nat) : (catTo L k).length ≤ 256 * k := by
  induction k with
  | zero => simp [catTo]
  | succ k ih => rw [catTo_succ, List.length_append]; have := h k; omega
theorem atB_of (L : Nat → List Int) (k i : Nat) (hk : k < 4) (h : i < (L k).length) : spanB L k i 1 = true ∧ atB L k i = (L k).getD i 0 := by
  have hs : spanB L k i 1 = true := by
    unfold spanB
    rw [sizeB_of L k hk]
    simp; omega
  exact ⟨hs, by unfold atB; rw [if_pos hs, Int.toNat_natCast, Int.toNat_natCast]⟩
set_option maxRecDepth 100000 in
set_option maxHeartbeats 3200000 in
theorem bankAll_any (g : Nat) (L : Nat → List Int) (G : Nat → Nat) (w : World) (hb : Bk w g L G) :
    Calls Try.prog 29 #[.pointer (some ⟨g, 0, none⟩)] w (RetI .u16 (allL L) w) := by
  have hb' := Lib.hid hb
  clear hb
  go_enter Try.func29, Try.ntmps29
  go_wp2
  go_loopw [3, 4] (fun u i wr => ∃ k : Nat, k ≤ 4 ∧ i = .int .i64 k ∧ wr.ownsRow w.heap.size 34 1 u (catTo L k).length ((catTo L k).map (Value.int .u16)) ∧ Ext w wr) (fun _ i _ => 4 - (intOf i).toNat)
  case atStart => exact ⟨0, by omega, rfl, World.ownsRow_nil w w.heap.size 34 1, Ext.refl _⟩
  case round =>
    obtain ⟨k, hk, rfl, own, hE⟩ := hrel
    have own' := Lib.hid own
    clear own
    have hcl := catTo_len L hb'.out.len k
    by_cases hlt : k < 4
    · have hl := hb'.out.len k
      have hsz := Lib.hid (sizeB_of L k hlt)
      obtain ⟨wo, hwo⟩ : ∃ wo : World, wo = wr := ⟨_, rfl⟩
      have hEo : Ext w wo := by rw [hwo]; exact hE
      go_wp2_with fail
      rw [show decide ((k : Int) < 4) = true from decide_eq_true (by omega)]
      go_loopw [3, 5] (fun u i wr => ∃ j : Nat, j ≤ (L k).length ∧ i = .int .i64 j ∧ wr.ownsRow w.heap.size 34 1 u ((catTo L k).length + j) ((catTo L k ++ (L k).take j).map (Value.int .u16)) ∧ Ext w wr) (fun _ i _ => (L k).length - (intOf i).toNat)
      case atStart => exact ⟨0, by omega, rfl, by simpa using own'.out, hE⟩
      case round =>
        obtain ⟨j, hj, rfl, own, hE2⟩ := hrel
        have own2 := Lib.hid own
        clear own
        have hb2 := Lib.hid (hb'.out.ext hE2)
        by_cases hj2 : j < (L k).length
        · obtain ⟨a1, a2⟩ := atB_of L k j hlt hj2
          have htk : catTo L k ++ (L k).take (j + 1) = (catTo L k ++ (L k).take j) ++ [(L k).getD j 0] := by
            rw [List.take_succ_eq_append_getElem hj2, List.append_assoc, List.getD_eq_getElem?_getD, List.getElem?_eq_getElem hj2]; rfl
          have a1' := Lib.hid a1
          have a2' := Lib.hid a2
          have htk' := Lib.hid htk
          clear a1 a2 htk
          generalize (L k).getD j 0 = x at *
          have t1 : decide (j < (L k).length) = true := by simp; exact hj2
          go_wp2_with fail
          refine (bankSize_any g (k : Int) L G _ hb2.out).mono ?_
          rw [hsz.out]
          rintro e w2 ⟨rfl, rfl⟩
          go_wp2_with fail
          refine (bankAt_any g (k : Int) (j : Int) L G _ hb2.out).mono ?_
          rw [a1'.out, a2'.out]
          rintro e w2 ⟨rfl, rfl⟩
          go_wp2_with (at_builtin; refine wpList_appI rfl (.tmp 30) (.tmp 32) _ rfl Try.underlying30 info_u16 (own2.out.alloc _) rfl (RdI.one _ _ _ _) rfl (by omega) (by omega) (by have := hE2.size; simp; omega) ?_; intro v' w1 hown1 hg1 hat1)
          go_roundw
          case rel =>
            refine ⟨j + 1, by omega, by go_num, ?_, (hE2.goA _).goG hg1 (fun i hi => (own2.out.lt i hi).1)⟩
            rw [htk'.out, ← Nat.add_assoc]
            exact hown1
          case measure => simp [intOf]; omega
        · obtain rfl : j = (L k).length := by omega
          have t1 : decide ((L k).length < (L k).length) = false := by simp
          go_wp2_with fail
          refine (bankSize_any g (k : Int) L G _ hb2.out).mono ?_
          rw [hsz.out]
          rintro e w2 ⟨rfl, rfl⟩
          go_wp2_with fail
          go_roundw
          case rel =>
            refine ⟨k + 1, by omega, by go_num, ?_, hE2⟩
            have := own2.out
            rw [List.take_of_length_le (Nat.le_refl _), ← List.length_append, ← catTo_succ] at this
            exact this
          case measure => simp [intOf]; omega
    · obtain rfl : k = 4 := by omega
      go_wp2
      go_ret
      obtain ⟨A', c', rfl, ⟨hc1, hc2⟩, r⟩ := own_rd own'.out
      exact ⟨A', _, c', rfl, hc1, hc2, r, hE⟩
end Go.Proofs.Ytgeahfkhfpdlhaa
