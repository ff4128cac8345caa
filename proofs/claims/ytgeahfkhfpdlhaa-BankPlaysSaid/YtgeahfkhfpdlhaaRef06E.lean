/- The reference of layer 6: its bank, walked: Serve; two replies that are alike; two banks that are alike. -/
import Derived.Test.YtgeahfkhfpdlhaaG25
import Derived.Test.YtgeahfkhfpdlhaaG16
namespace Go.Proofs.Ytgeahfkhfpdlhaa
open Go.RowKit

def RfServePost (ys : List Int) (base r : Nat) (L' : Nat → List Int) (w : World) (e : Ending) (w' : World) : Prop :=
  ∃ A n c, e = .returned (.slice A n c) ∧ n ≤ c ∧ c ≤ maxLen ∧ RdI w' w'.heap.size .u8 A n ys ∧ HasRf w' base r L' ∧ Mod (fun b => b = r) w w'
section
variable (base r : Nat) (L : Nat → List Int) (w : World)
set_option maxRecDepth 100000 in
set_option maxHeartbeats 3200000 in
theorem rfServe_any (A : Option Addr) (n c : Nat) (l : List Int) (hb : HasRf w base r L) (hx : RdI w w.heap.size .u8 A n l) (hl : ByteL l) (hm : n ≤ 9000) (hnc : n ≤ c) (hcm : c ≤ maxLen) :
    Calls Try.prog 21 #[.pointer (some ⟨r, 0, none⟩), .slice A n c] w (RfServePost (serveY L l) base r (serveL L l) w) := by
  have hgr := getR_range l hl
  have hget := ref04Get_any A n c l w hx hl hm hnc hcm
  have hb' := Lib.hid hb
  have hx' := Lib.hid hx
  have hrl : r < w.heap.size := by obtain ⟨Af, cf, h⟩ := hb; exact h.lt
  have hdr : ∀ (fc ad qt tw : Int) (xs : List Int), (∀ j : Nat, 0 ≤ xs[j]?.getD 0 ∧ xs[j]?.getD 0 ≤ 65535) → ∀ j : Nat, 0 ≤ (doY L fc ad qt tw xs)[j]?.getD 0 ∧ (doY L fc ad qt tw xs)[j]?.getD 0 ≤ 65535 := fun fc ad qt tw xs hr => by
    obtain ⟨Af, cf, h⟩ := hb
    exact do_range h.rng h.len hr
  unfold serveY serveL
  clear hb hx hl hm
  generalize getR l = R at *
  obtain ⟨⟨fc, ad, qt, tw, xs⟩, code⟩ := R
  dsimp only at *
  have hgr' := Lib.hid hgr
  have hget' := Lib.hid hget
  have hyr := Lib.hid (hdr fc ad qt tw xs hgr)
  clear hget hdr hgr
  by_cases hc : code = 0
  · subst hc
    rw [if_neg (by simp), if_neg (by simp)]
    have hdo := fun (A1 : Option Addr) (n1 c1 : Nat) w' (hb : HasRf w' base r L) (hx : RdI w' w'.heap.size .u16 A1 n1 xs) n1m => rfDo_any base r L fc ad qt tw A1 n1 c1 xs w' hb hx hgr'.out n1m
    generalize doC L fc ad qt tw xs = dc at *
    generalize doY L fc ad qt tw xs = dy at *
    generalize doL L fc ad qt tw xs = dL at *
    have hdo' := Lib.hid hdo
    clear hdo
    go_enter Try.func21, Try.ntmps21
    go_wp2_with fail
    refine hget'.out.mono ?_
    rintro e w1 ⟨A1, n1, c1, rfl, g1, g1', r1, D1, fr1⟩
    have X1 := (Ext.refl w1).goA (.cells #[.int .i64 fc, .int .i64 ad, .int .i64 qt, .slice A1 n1 c1, .int .i64 tw] 32)
    have E1 := D1.go X1
    have Q1 := heap_alloc_new w1 (.cells #[.int .i64 fc, .int .i64 ad, .int .i64 qt, .slice A1 n1 c1, .int .i64 tw] 32)
    have q1 := cellsAt Q1
    have Q1' := Lib.hid Q1
    have r1' := Lib.hid (r1.ext X1)
    have b1' := Lib.hid (hb'.out.ext E1)
    have hs1 := D1.size
    clear r1 Q1 fr1
    go_wp2_with fail
    generalize w1.alloc (.cells #[.int .i64 fc, .int .i64 ad, .int .i64 qt, .slice A1 n1 c1, .int .i64 tw] 32) = W at *
    refine (hdo'.out A1 n1 c1 W b1'.out r1'.out ⟨g1, g1'⟩).mono ?_
    rintro e w2 ⟨A2, n2, c2, rfl, g2, g2', r2, fr2, B2, M2⟩
    have X2 := (Ext.refl w2).goA (.cells #[.int .i64 dc, .slice A2 n2 c2] 40)
    have P2 := heap_alloc_new w2 (.cells #[.int .i64 dc, .slice A2 n2 c2] 40)
    have p2 := cellsAt P2
    have q2 := cellsAt ((X2.block _ (by have := M2.size; have := lt_of_block Q1'.out; omega)).trans ((M2.block _ (lt_of_block Q1'.out) (by omega)).trans Q1'.out))
    have r12 := Lib.hid ((r1'.out.past_rf b1'.out M2).ext X2)
    have r2' := Lib.hid (r2.ext X2)
    have B2' := Lib.hid (B2.ext X2)
    have M2' := Lib.hid (((Mod.ofBelow (S := fun b => b = r) E1).trans M2).trans (Mod.ofBelow X2))
    clear q1 r2 B2 M2 P2 fr2
    go_wp2_with fail
    refine (ref05Put_any fc ad qt tw dc A1 A2 n1 c1 n2 c2 xs dy _ r12.out hgr'.out (Nat.le_trans g1 g1') r2'.out hyr.out (Nat.le_trans g2 g2')).mono ?_
    unfold RetI
    rintro e w3 ⟨A3, n3, c3, rfl, g3, g3', r3, D3⟩
    go_wp2_with fail
    go_ret
    exact ⟨A3, n3, c3, rfl, g3, g3', r3, B2'.out.ext D3, M2'.out.trans (Mod.ofBelow D3)⟩
  · rw [if_pos hc, if_pos hc]
    have f1 : (code != 0) = true := by simp; exact hc
    go_enter Try.func21, Try.ntmps21
    go_wp2_with fail
    refine hget'.out.mono ?_
    rintro e w1 ⟨A1, n1, c1, rfl, g1, g1', r1, D1, fr1⟩
    have X1 := (Ext.refl w1).goA (.cells #[.int .i64 fc, .int .i64 ad, .int .i64 qt, .slice A1 n1 c1, .int .i64 tw] 32)
    have E1 := D1.go X1
    clear r1 fr1
    go_wp2_with fail
    refine (refAlarm_any A n c l code _ (hx'.out.ext E1)).mono ?_
    unfold RetI
    rintro e w3 ⟨A3, n3, c3, rfl, g3, g3', r3, D3⟩
    go_wp2_with fail
    go_ret
    exact ⟨A3, n3, c3, rfl, g3, g3', r3, hb'.out.ext (E1.go D3), Mod.ofBelow (E1.go D3)⟩
end
set_option maxRecDepth 100000 in
set_option maxHeartbeats 1600000 in
theorem ref05Same_eq (code : Int) (A1 A2 : Option Addr) (n1 c1 n2 c2 : Nat) (xs : List Int) (w : World) (h1 : RdI w w.heap.size .u16 A1 n1 xs) (h2 : RdI w w.heap.size .u16 A2 n2 xs) (hn1 : n1 ≤ maxLen) (hn2 : n2 ≤ maxLen) :
    Calls Try.prog 26 #[.agg #[.int .i64 code, .slice A1 n1 c1], .agg #[.int .i64 code, .slice A2 n2 c2]] w fun e w' => e = .returned (.bool true) ∧ Ext w w' := by
  have E0 := ((Ext.refl w).goA (.cells #[.int .i64 code, .slice A1 n1 c1] 40)).goA (.cells #[.int .i64 code, .slice A2 n2 c2] 40)
  have Q1 : ((w.alloc (.cells #[.int .i64 code, .slice A1 n1 c1] 40)).alloc (.cells #[.int .i64 code, .slice A2 n2 c2] 40)).heap[w.heap.size]? = some (.cells #[.int .i64 code, .slice A1 n1 c1] 40 (0, 0)) := by rw [alloc_get, if_neg (by simp), alloc_get, if_pos rfl]
  have Q2 : ((w.alloc (.cells #[.int .i64 code, .slice A1 n1 c1] 40)).alloc (.cells #[.int .i64 code, .slice A2 n2 c2] 40)).heap[w.heap.size + 1]? = some (.cells #[.int .i64 code, .slice A2 n2 c2] 40 (0, 0)) := by rw [alloc_get, if_pos (by simp)]
  have q1 := cellsAt Q1
  have q2 := cellsAt Q2
  have hs : ∀ w', Ext w w' → Calls Try.prog 32 #[.slice A1 n1 c1, .slice A2 n2 c2] w' fun e w'' => e = .returned (.bool true) ∧ Ext w' w'' := fun w' E => by
    refine (sameVals_any A1 A2 n1 c1 n2 c2 _ xs xs w' (h1.ext E) (h2.ext E) hn1 hn2).mono ?_
    rintro e w'' ⟨rfl, m, hm⟩
    exact ⟨by rw [decide_eq_true (rfl : xs = xs)], by rw [← hm]; exact (Ext.refl _).goD _⟩
  have hs' := Lib.hid hs
  clear Q1 Q2 hs h1 h2
  go_enter Try.func26, Try.ntmps26
  go_wp2_with fail
  refine (hs'.out _ E0).mono ?_
  rintro e w1 ⟨rfl, D1⟩
  go_wp2_with fail
  go_ret
  exact ⟨rfl, E0.go D1⟩
set_option maxRecDepth 100000 in
set_option maxHeartbeats 3200000 in
theorem same06_any (base r g : Nat) (L : Nat → List Int) (G : Nat → Nat) (w : World) (hb : Bk w g L G) (hr : HasRf w base r L) :
    Calls Try.prog 27 #[.pointer (some ⟨g, 0, none⟩), .pointer (some ⟨r, 0, none⟩)] w fun e w' => e = .returned (.bool true) ∧ w = w' := by
  have hle : ∀ k : Int, 0 ≤ sizeB L k ∧ sizeB L k ≤ 256 := fun k => sizeB_le hb k
  have hb' := Lib.hid hb
  have hr' := Lib.hid hr
  have hle' := Lib.hid hle
  clear hb hr hle
  go_enter Try.func27, Try.ntmps27
  go_wp2_with fail
  go_loopw [5] (fun i wr => ∃ k : Int, -1 ≤ k ∧ k ≤ 5 ∧ i = .int .i64 k ∧ w = wr) (fun i _ => (5 - intOf i).toNat)
  case atStart => exact ⟨-1, by omega, by omega, rfl, rfl⟩
  case round =>
    obtain ⟨k, hk0, hk1, rfl, rfl⟩ := hrel
    by_cases hlt : k < 5
    · have f1 : decide (k < 5) = true := by simp; exact hlt
      go_wp2_with fail
      refine (bankSize_any g k L G w hb'.out).mono ?_
      rintro e w1 ⟨rfl, rfl⟩
      go_wp2_with fail
      refine (rfSize_any base r L w k hr'.out).mono ?_
      rintro e w1 ⟨rfl, rfl⟩
      obtain ⟨s0, s1⟩ := hle'.out k
      have hsz := fun w' h => rfSize_any base r L w' k h
      have hsz' := Lib.hid hsz
      clear hsz
      generalize sizeB L k = S at *
      go_wp2_with fail
      go_loopw [6] (fun i wr => ∃ j : Int, -1 ≤ j ∧ j ≤ S + 1 ∧ i = .int .i64 j ∧ w = wr) (fun i _ => (S + 1 - intOf i).toNat)
      case atStart => exact ⟨-1, by omega, by omega, rfl, rfl⟩
      case round =>
        obtain ⟨j, hj0, hj1, rfl, rfl⟩ := hrel
        go_wp2_with fail
        refine (hsz'.out w hr'.out).mono ?_
        rintro e w1 ⟨rfl, rfl⟩
        by_cases hjl : j ≤ S
        · have f2 : decide (j ≤ S) = true := by simp; exact hjl
          have ha := bankAt_any g k j L G w hb'.out
          have hc := rfAt_any base r L w k j hr'.out
          generalize atB L k j = x at *
          generalize spanB L k j 1 = y at *
          have ha' := Lib.hid ha
          have hc' := Lib.hid hc
          clear ha hc
          go_wp2_with fail
          refine ha'.out.mono ?_
          rintro e w1 ⟨rfl, rfl⟩
          go_wp2_with fail
          refine hc'.out.mono ?_
          rintro e w1 ⟨rfl, rfl⟩
          go_wp2_with fail
          go_roundw
          case rel => exact ⟨j + 1, by omega, by omega, by go_num, by trivial⟩
          case measure => simp [intOf]; omega
        · have f2 : decide (j ≤ S) = false := by simp; omega
          go_wp2_with fail
          go_roundw
          case rel => exact ⟨k + 1, by omega, by omega, by go_num, by trivial⟩
          case measure => simp [intOf]; omega
    · have f1 : decide (k < 5) = false := by simp; omega
      go_wp2_with fail
      go_ret
      exact ⟨rfl, rfl⟩
end Go.Proofs.Ytgeahfkhfpdlhaa
