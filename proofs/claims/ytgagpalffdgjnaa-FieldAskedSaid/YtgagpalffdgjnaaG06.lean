/- Layer 4, the walks: what is read, and written, by a number. · The reference of layer 4, what the laws use of it: SameVals. · Layer 4, the walks: values, holds, fits; and the reference's Same. · Layer 4, the walks: holds where it does not. · Layer 4, the walks: holds, whole. · Layer 4, the walks: may that be asked? -/
import Derived.Test.YtgagpalffdgjnaaG05
import Derived.Test.YtgagpalffdgjnaaRows
import Derived.Test.YtgagpalffdgjnaaWords
import Derived.Test.YtgagpalffdgjnaaG02
import Derived.Deep.RegionLaw
namespace Go.Proofs.Ytgagpalffdgjnaa
open Go.RowKit

def readsB (fc : Int) : Bool := match shapeOf fc with | some s => s.form == 0 || s.form == 3 | none => false
def readsBits (fc : Int) : Bool := match shapeOf fc with | some s => (s.form == 0 || s.form == 3) && s.bits | none => false
def writesB (fc : Int) : Bool := match shapeOf fc with | some s => s.form != 0 | none => false
def writesBits (fc : Int) : Bool := match shapeOf fc with | some s => s.form != 0 && s.bits | none => false

set_option maxRecDepth 100000 in
set_option maxHeartbeats 800000 in
theorem reads_any (fc : Int) (w : World) : Calls Try.prog 110 #[.int .i64 fc] w fun e w' => e = .returned (.tuple #[.bool (readsB fc), .bool (readsBits fc)]) ∧ Ext w w' := by
  have E0 := (Ext.refl w).goA (.map E10 10)
  have lk := look_any (w := w.alloc (.map E10 10)) (g := w.heap.size) (heap_alloc_new w _) fc
  unfold readsB readsBits
  cases hs : shapeOf fc with
  | none =>
    have hv : lookV fc = shapeZero := by unfold lookV; rw [hs]
    rw [hv, hs] at lk
    clear hv hs
    unfold shapeZero at lk
    rw [show (none : Option Shape).isSome = false from rfl] at lk
    go_enter Try.func110, Try.ntmps110
    go_wp2_with fail
    refine (shapes_any _).mono ?_
    rintro e w1 ⟨rfl, rfl⟩
    go_wp2_with fail
    go_quiet (fail)
    go_wp2_with fail
    go_ret2
    exact ⟨rfl, (E0.goA _).goD _⟩
  | some s =>
    have hv : lookV fc = s.val := by unfold lookV; rw [hs]
    rw [hv, hs] at lk
    clear hv hs
    obtain ⟨f, q, v, b⟩ := s
    unfold Shape.val at lk
    rw [show (some (⟨f, q, v, b⟩ : Shape)).isSome = true from rfl] at lk
    dsimp only at lk ⊢
    by_cases h0 : f = 0
    · subst h0
      go_enter Try.func110, Try.ntmps110
      go_wp2_with fail
      refine (shapes_any _).mono ?_
      rintro e w1 ⟨rfl, rfl⟩
      go_wp2_with fail
      go_quiet (fail)
      go_wp2_with fail
      go_ret2
      exact ⟨by simp, (E0.goA _).goD _⟩
    · have d0 : (f == 0) = false := by simp [h0]
      by_cases h3 : f = 3
      · subst h3
        go_enter Try.func110, Try.ntmps110
        go_wp2_with fail
        refine (shapes_any _).mono ?_
        rintro e w1 ⟨rfl, rfl⟩
        go_wp2_with fail
        go_quiet (fail)
        go_wp2_with fail
        go_ret2
        exact ⟨by simp, (E0.goA _).goD _⟩
      · have d3 : (f == 3) = false := by simp [h3]
        go_enter Try.func110, Try.ntmps110
        go_wp2_with fail
        refine (shapes_any _).mono ?_
        rintro e w1 ⟨rfl, rfl⟩
        go_wp2_with fail
        go_quiet (fail)
        go_wp2_with fail
        go_ret2
        exact ⟨by simp [d0, d3], (E0.goA _).goD _⟩

end Go.Proofs.Ytgagpalffdgjnaa
namespace Go.Proofs.Ytgagpalffdgjnaa
open Go.RowKit

set_option maxRecDepth 100000 in
set_option maxHeartbeats 1000000 in
theorem sameVals_any (A1 A2 : Option Addr) (n1 c1 n2 c2 B : Nat) (xs ys : List Int) (w : World) (h1 : RdI w B .u16 A1 n1 xs) (h2 : RdI w B .u16 A2 n2 ys) (hn1 : n1 ≤ maxLen) (hn2 : n2 ≤ maxLen) :
    Calls Try.prog 107 #[.slice A1 n1 c1, .slice A2 n2 c2] w fun e w' => e = .returned (.bool (decide (xs = ys))) ∧ ∃ m, w.drewN m = w' := by
  unfold maxLen at hn1 hn2
  have l1 := Lib.hid h1.len
  have l2 := Lib.hid h2.len
  by_cases hl : n1 = n2
  · subst hl
    go_enter Try.func107, Try.ntmps107
    go_wp2
    go_loopw [5] (fun i wr => ∃ k : Nat, k ≤ n1 ∧ i = .int .i64 k ∧ (∀ j, j < k → xs.getD j 0 = ys.getD j 0) ∧ ∃ m, w.drewN m = wr) (fun i _ => n1 - (intOf i).toNat)
    case atStart => exact ⟨0, by omega, rfl, fun j hj => absurd hj (by omega), 0, rfl⟩
    case round =>
      obtain ⟨k, hk, rfl, he, m, rfl⟩ := hrel
      have he' := Lib.hid he
      clear he
      by_cases hlt : k < n1
      · obtain ⟨b1, o1, rfl, hb1, hc1⟩ := h1.at_ hlt
        obtain ⟨b2, o2, rfl, hb2, hc2⟩ := h2.at_ hlt
        cases hz : (xs[k]?.getD 0 != ys[k]?.getD 0)
        · have hz' := Lib.hid hz
          go_wp2_with fail
          go_quiet (fail)
          go_wp2
          go_roundw
          case rel =>
            refine ⟨k + 1, by omega, by go_num, fun j hj => ?_, m + nq, rfl⟩
            rcases Nat.lt_succ_iff_lt_or_eq.1 hj with h | rfl
            · exact he'.out j h
            · have := hz'.out; simpa using this
          case measure => simp [intOf]; omega
        · have hz' := Lib.hid hz
          go_wp2_with fail
          go_quiet (fail)
          go_wp2
          go_ret
          refine ⟨?_, m + nq, by simp⟩
          have h : ¬ xs = ys := by rintro rfl; have := hz'.out; simp at this
          simp [h]
      · obtain rfl : k = n1 := by omega
        have e : xs = ys := by
          apply List.ext_getElem?
          intro j
          by_cases hj : j < k
          · have := he'.out j hj
            rw [List.getD_eq_getElem?_getD, List.getD_eq_getElem?_getD, List.getElem?_eq_getElem (by rw [l1.out]; exact hj), List.getElem?_eq_getElem (by rw [l2.out]; exact hj)] at this
            rw [List.getElem?_eq_getElem (by rw [l1.out]; exact hj), List.getElem?_eq_getElem (by rw [l2.out]; exact hj)]
            exact congrArg some this
          · rw [List.getElem?_eq_none (by rw [l1.out]; omega), List.getElem?_eq_none (by rw [l2.out]; omega)]
        have e' := Lib.hid e
        clear e
        go_wp2
        go_ret
        exact ⟨by simp [e'.out], m, rfl⟩
  · have hne : ¬ xs = ys := by rintro rfl; exact hl (l1.out.symm.trans l2.out)
    have hne' := Lib.hid hne
    clear hne
    go_enter Try.func107, Try.ntmps107
    go_wp2
    go_ret
    exact ⟨by simp [hne'.out], 0, rfl⟩
end Go.Proofs.Ytgagpalffdgjnaa
namespace Go.Proofs.Ytgagpalffdgjnaa
open Go.RowKit

set_option maxRecDepth 100000 in
set_option maxHeartbeats 800000 in
theorem values_any (s : Shape) (A : Option Addr) (n c B : Nat) (xs : List Int) (w : World) (hx : RdI w B .u16 A n xs) (hB : B ≤ w.heap.size) (hn : n ≤ maxLen) :
    Calls Try.prog 108 #[s.val, .slice A n c] w fun e w' => e = .returned (.bool (valuesB s.bits xs)) ∧ Ext w w' := by
  obtain ⟨f, q, v, b⟩ := s
  unfold maxLen at hn
  have hl := Lib.hid hx.len
  unfold Shape.val
  cases b
  · go_enter Try.func108, Try.ntmps108
    go_wp2
    go_ret
    exact ⟨rfl, (Ext.refl _).goA _⟩
  · go_enter Try.func108, Try.ntmps108
    go_wp2
    go_loop [12] (fun i => ∃ k : Nat, k ≤ n ∧ i = .int .i64 k ∧ ∀ j, j < k → xs.getD j 0 ≤ 1) (fun i => n - (intOf i).toNat)
    case atStart => exact ⟨0, by omega, rfl, fun j hj => absurd hj (by omega)⟩
    case round =>
      obtain ⟨k, hk, rfl, hz⟩ := hrel
      have hz' := Lib.hid hz
      clear hz
      by_cases hlt : k < n
      · obtain ⟨b, o, rfl, hb, hc⟩ := hx.at_ hlt
        have hc' := ((Ext.refl w).goA (.cells #[.int .i64 f, .int .i64 q, .int .i64 v, .bool true] 162)).cell (o + k) (by omega : b < w.heap.size) |>.trans hc
        by_cases h1 : xs[k]?.getD 0 ≤ 1
        · go_wp2
          go_round
          case rel =>
            refine ⟨k + 1, by omega, by go_num, fun j hj => ?_⟩
            rcases Nat.lt_succ_iff_lt_or_eq.1 hj with h | rfl
            · exact hz'.out j h
            · rw [List.getD_eq_getElem?_getD]; exact h1
          case measure => simp [intOf]; omega
        · have hv : valuesB true xs = false := by
            have hk' : k < xs.length := by rw [hl.out]; exact hlt
            unfold valuesB
            simp only [Bool.not_true, Bool.false_or]
            rw [List.all_eq_false]
            refine ⟨xs[k]'hk', List.getElem_mem _, ?_⟩
            rw [List.getElem?_eq_getElem hk'] at h1
            simpa using h1
          have hv' := Lib.hid hv
          clear hv
          go_wp2
          go_ret
          exact ⟨by rw [hv'.out]; rfl, (Ext.refl _).goA _⟩
      · obtain rfl : k = n := by omega
        have hv : valuesB true xs = true := by
          unfold valuesB
          simp only [Bool.not_true, Bool.false_or, List.all_eq_true, decide_eq_true_eq]
          intro x hx'
          obtain ⟨j, hj, rfl⟩ := List.getElem_of_mem hx'
          have := hz'.out j (by rw [← hl.out]; exact hj)
          rwa [List.getD_eq_getElem?_getD, List.getElem?_eq_getElem hj] at this
        have hv' := Lib.hid hv
        clear hv
        go_wp2
        go_ret
        exact ⟨by rw [hv'.out]; rfl, (Ext.refl _).goA _⟩

set_option maxRecDepth 100000 in
set_option maxHeartbeats 800000 in
theorem fits_any (fc ad qt to : Int) (A : Option Addr) (n c : Nat) (w : World) (h1 : 0 ≤ ad) (h2 : ad < 65536) (h3 : 0 ≤ to) (h4 : to < 65536) (h5 : 0 ≤ qt) (h6 : qt ≤ 65535) (hn : n ≤ 65536) :
    Calls Try.prog 77 #[.agg #[.int .i64 fc, .int .i64 ad, .int .i64 qt, .slice A n c, .int .i64 to]] w fun e w' => e = .returned (.bool (fitsB ad qt to n)) ∧ Ext w w' := by
  by_cases hf : ad + max qt 1 ≤ 65536
  · have e := Lib.hid (show fitsB ad qt to n = decide (to + (n : Int) ≤ 65536) by unfold fitsB; rw [decide_eq_true hf, Bool.true_and])
    rcases (show (qt < 1 ∧ ad + 1 ≤ 65536) ∨ (1 ≤ qt ∧ ad + qt ≤ 65536) by omega) with ⟨h7, h8⟩ | ⟨h7, h8⟩
    all_goals
      clear hf
      go_enter Try.func77, Try.ntmps77
      go_wp2
      go_ret
      exact ⟨by rw [e.out]; rfl, (Ext.refl _).goA _⟩
  · have e := Lib.hid (show fitsB ad qt to n = false by unfold fitsB; rw [decide_eq_false hf, Bool.false_and])
    obtain ⟨h7, h8⟩ : 1 ≤ qt ∧ 65536 < ad + qt := by omega
    all_goals
      clear hf
      go_enter Try.func77, Try.ntmps77
      go_wp2
      go_ret
      exact ⟨by rw [e.out]; rfl, (Ext.refl _).goA _⟩

end Go.Proofs.Ytgagpalffdgjnaa
namespace Go.Proofs.Ytgagpalffdgjnaa
open Go.RowKit

set_option maxRecDepth 100000 in
set_option maxHeartbeats 1600000 in
theorem holds_out (f q v : Int) (b : Bool) (fc ad qt to : Int) (A : Option Addr) (n c : Nat) (w : World) (hA : ad < 0 ∨ 65536 ≤ ad ∨ to < 0 ∨ 65536 ≤ to ∨ qt < 0 ∨ q < qt) :
    Calls Try.prog 76 #[.agg #[.int .i64 f, .int .i64 q, .int .i64 v, .bool b], .agg #[.int .i64 fc, .int .i64 ad, .int .i64 qt, .slice A n c, .int .i64 to]] w fun e w' => e = .returned (.bool false) ∧ Ext w w' := by
  rcases (show ad < 0 ∨ (0 ≤ ad ∧ 65536 ≤ ad) ∨ (0 ≤ ad ∧ ad < 65536 ∧ to < 0) ∨ (0 ≤ ad ∧ ad < 65536 ∧ 0 ≤ to ∧ 65536 ≤ to) ∨ (0 ≤ ad ∧ ad < 65536 ∧ 0 ≤ to ∧ to < 65536 ∧ qt < 0) ∨ (0 ≤ ad ∧ ad < 65536 ∧ 0 ≤ to ∧ to < 65536 ∧ 0 ≤ qt ∧ q < qt) by omega) with h | ⟨h1, h⟩ | ⟨h1, h2, h⟩ | ⟨h1, h2, h3, h⟩ | ⟨h1, h2, h3, h4, h⟩ | ⟨h1, h2, h3, h4, h5, h⟩
  all_goals
    clear hA
    try have t1 : decide (ad < 0) = false := by simp; omega
    try have t2 : decide (65536 ≤ ad) = false := by simp; omega
    try have t3 : decide (to < 0) = false := by simp; omega
    try have t4 : decide (65536 ≤ to) = false := by simp; omega
    try have t5 : decide (qt < 0) = false := by simp; omega
    go_enter Try.func76, Try.ntmps76
    go_wp2
    go_ret
    exact ⟨rfl, ((Ext.refl _).goA _).goA _⟩

set_option maxRecDepth 100000 in
set_option maxHeartbeats 1600000 in
theorem holds_not (f q v : Int) (b : Bool) (fc ad qt to : Int) (A : Option Addr) (n c : Nat) (w : World) (h1 : 0 ≤ ad) (h2 : ad < 65536) (h3 : 0 ≤ to) (h4 : to < 65536) (h5 : 0 ≤ qt) (h6 : qt ≤ q)
    (hC : (f = 1 ∧ 1 ≤ qt) ∨ (f = 1 ∧ qt = 0 ∧ 1 ≤ to) ∨ (f = 0 ∧ qt = 0) ∨ (f = 2 ∧ qt = 0) ∨ (f = 3 ∧ qt = 0) ∨ (f = 0 ∧ 1 ≤ qt ∧ 1 ≤ to) ∨ (f = 2 ∧ 1 ≤ qt ∧ 1 ≤ to)) :
    Calls Try.prog 76 #[.agg #[.int .i64 f, .int .i64 q, .int .i64 v, .bool b], .agg #[.int .i64 fc, .int .i64 ad, .int .i64 qt, .slice A n c, .int .i64 to]] w fun e w' => e = .returned (.bool false) ∧ Ext w w' := by
  rcases hC with ⟨rfl, g1⟩ | ⟨rfl, rfl, g1⟩ | ⟨rfl, rfl⟩ | ⟨rfl, rfl⟩ | ⟨rfl, rfl⟩ | ⟨rfl, g1, g2⟩ | ⟨rfl, g1, g2⟩
  all_goals
    have t1 : decide (ad < 0) = false := by simp; omega
    have t2 : decide (65536 ≤ ad) = false := by simp; omega
    have t3 : decide (to < 0) = false := by simp; omega
    have t4 : decide (65536 ≤ to) = false := by simp; omega
    try have t5 : decide (qt < 0) = false := by simp; omega
    try have t6 : decide (q < qt) = false := by simp; omega
    try have k1 : (qt == 0) = false := by simp; omega
    try have k2 : (to != 0) = true := by simp; omega
    go_enter Try.func76, Try.ntmps76
    go_wp2
    go_ret
    exact ⟨rfl, ((Ext.refl _).goA _).goA _⟩

end Go.Proofs.Ytgagpalffdgjnaa
namespace Go.Proofs.Ytgagpalffdgjnaa
open Go.RowKit

set_option maxRecDepth 100000 in
set_option maxHeartbeats 1600000 in
theorem holds_reads (q v : Int) (b : Bool) (fc ad qt to : Int) (A : Option Addr) (n c : Nat) (w : World) (h1 : 0 ≤ ad) (h2 : ad < 65536) (h3 : 0 ≤ to) (h4 : to < 65536) (h5 : 0 ≤ qt) (h6 : qt ≤ q) (g1 : 1 ≤ qt) (g2 : to = 0) :
    Calls Try.prog 76 #[.agg #[.int .i64 0, .int .i64 q, .int .i64 v, .bool b], .agg #[.int .i64 fc, .int .i64 ad, .int .i64 qt, .slice A n c, .int .i64 to]] w fun e w' => e = .returned (.bool ((n : Int) == 0)) ∧ Ext w w' := by
  subst g2
  have k1 : (qt == 0) = false := by simp; omega
  have t1 : decide (ad < 0) = false := by simp; omega
  have t2 : decide (65536 ≤ ad) = false := by simp; omega
  have t5 : decide (qt < 0) = false := by simp; omega
  have t6 : decide (q < qt) = false := by simp; omega
  go_enter Try.func76, Try.ntmps76
  go_wp2
  go_ret
  exact ⟨rfl, ((Ext.refl _).goA _).goA _⟩
set_option maxRecDepth 100000 in
set_option maxHeartbeats 1600000 in
theorem holds_swaps (q v : Int) (b : Bool) (fc ad qt to : Int) (A : Option Addr) (n c : Nat) (w : World) (h1 : 0 ≤ ad) (h2 : ad < 65536) (h3 : 0 ≤ to) (h4 : to < 65536) (h5 : 0 ≤ qt) (h6 : qt ≤ q) (g1 : 1 ≤ qt) :
    Calls Try.prog 76 #[.agg #[.int .i64 3, .int .i64 q, .int .i64 v, .bool b], .agg #[.int .i64 fc, .int .i64 ad, .int .i64 qt, .slice A n c, .int .i64 to]] w fun e w' => e = .returned (.bool (decide (1 ≤ (n : Int)) && decide ((n : Int) ≤ v))) ∧ Ext w w' := by
  have k1 : (qt == 0) = false := by simp; omega
  have t1 : decide (ad < 0) = false := by simp; omega
  have t2 : decide (65536 ≤ ad) = false := by simp; omega
  have t3 : decide (to < 0) = false := by simp; omega
  have t4 : decide (65536 ≤ to) = false := by simp; omega
  have t5 : decide (qt < 0) = false := by simp; omega
  have t6 : decide (q < qt) = false := by simp; omega
  by_cases g2 : 1 ≤ (n : Int)
  all_goals
    have g2' := Lib.hid g2
    go_enter Try.func76, Try.ntmps76
    go_wp2
    go_ret
    exact ⟨by first | (rw [decide_eq_true g2'.out]; rfl) | (rw [decide_eq_false (by have := g2'.out; omega)]; rfl), ((Ext.refl _).goA _).goA _⟩
set_option maxRecDepth 100000 in
set_option maxHeartbeats 1600000 in
theorem holds_single (B : Nat) (xs : List Int) (q v : Int) (b : Bool) (fc ad qt to : Int) (A : Option Addr) (n c : Nat) (w : World) (h1 : 0 ≤ ad) (h2 : ad < 65536) (h3 : 0 ≤ to) (h4 : to < 65536) (h5 : 0 ≤ qt) (h6 : qt ≤ q) (hx : RdI w B .u16 A n xs) (hB : B ≤ w.heap.size) (hn : n ≤ maxLen) (g1 : qt = 0) (g2 : to = 0) :
    Calls Try.prog 76 #[.agg #[.int .i64 1, .int .i64 q, .int .i64 v, .bool b], .agg #[.int .i64 fc, .int .i64 ad, .int .i64 qt, .slice A n c, .int .i64 to]] w fun e w' => e = .returned (.bool (((n : Int) == v) && valuesB b xs)) ∧ Ext w w' := by
  subst g1 g2
  have t1 : decide (ad < 0) = false := by simp; omega
  have t2 : decide (65536 ≤ ad) = false := by simp; omega
  have t6 : decide (q < 0) = false := by simp; omega
  cases g3 : ((n : Int) == v)
  all_goals
    have g3' := Lib.hid g3
    go_enter Try.func76, Try.ntmps76
    go_wp2_with (go_at_call 108; refine (values_any ⟨1, q, v, b⟩ A n c B xs _ ((hx.alloc hB _).alloc (by simp; omega) _) (by simp; omega) hn).mono ?_; rintro e w1 ⟨rfl, d1⟩)
    go_ret
    first
      | exact ⟨rfl, ((Ext.refl _).goA _).goA _⟩
      | exact ⟨rfl, (((Ext.refl _).goA _).goA _).go d1⟩
set_option maxRecDepth 100000 in
set_option maxHeartbeats 1600000 in
theorem holds_writes (B : Nat) (xs : List Int) (q v : Int) (b : Bool) (fc ad qt to : Int) (A : Option Addr) (n c : Nat) (w : World) (h1 : 0 ≤ ad) (h2 : ad < 65536) (h3 : 0 ≤ to) (h4 : to < 65536) (h5 : 0 ≤ qt) (h6 : qt ≤ q) (hx : RdI w B .u16 A n xs) (hB : B ≤ w.heap.size) (hn : n ≤ maxLen) (g1 : 1 ≤ qt) (g2 : to = 0) :
    Calls Try.prog 76 #[.agg #[.int .i64 2, .int .i64 q, .int .i64 v, .bool b], .agg #[.int .i64 fc, .int .i64 ad, .int .i64 qt, .slice A n c, .int .i64 to]] w fun e w' => e = .returned (.bool (((n : Int) == qt) && valuesB b xs)) ∧ Ext w w' := by
  subst g2
  have k1 : (qt == 0) = false := by simp; omega
  have t1 : decide (ad < 0) = false := by simp; omega
  have t2 : decide (65536 ≤ ad) = false := by simp; omega
  have t5 : decide (qt < 0) = false := by simp; omega
  have t6 : decide (q < qt) = false := by simp; omega
  cases g3 : ((n : Int) == qt)
  all_goals
    have g3' := Lib.hid g3
    go_enter Try.func76, Try.ntmps76
    go_wp2_with (go_at_call 108; refine (values_any ⟨2, q, v, b⟩ A n c B xs _ ((hx.alloc hB _).alloc (by simp; omega) _) (by simp; omega) hn).mono ?_; rintro e w1 ⟨rfl, d1⟩)
    go_ret
    first
      | exact ⟨rfl, ((Ext.refl _).goA _).goA _⟩
      | exact ⟨rfl, (((Ext.refl _).goA _).goA _).go d1⟩

theorem holds_any (s : Shape) (fc ad qt to : Int) (A : Option Addr) (n c B : Nat) (xs : List Int) (w : World) (hx : RdI w B .u16 A n xs) (hB : B ≤ w.heap.size) (hn : n ≤ maxLen) (hf0 : 0 ≤ s.form) (hf1 : s.form ≤ 3) :
    Calls Try.prog 76 #[s.val, .agg #[.int .i64 fc, .int .i64 ad, .int .i64 qt, .slice A n c, .int .i64 to]] w fun e w' => e = .returned (.bool (holdsB s ad qt to xs)) ∧ Ext w w' := by
  obtain ⟨f, q, v, b⟩ := s
  have hl := hx.len
  unfold Shape.val holdsB
  simp only at hf0 hf1 ⊢
  split
  · rename_i hA
    exact holds_out f q v b fc ad qt to A n c w hA
  · rename_i hA
    obtain ⟨h1, h2, h3, h4, h5, h6⟩ : 0 ≤ ad ∧ ad < 65536 ∧ 0 ≤ to ∧ to < 65536 ∧ 0 ≤ qt ∧ qt ≤ q := by omega
    split
    · rename_i hC
      refine holds_not f q v b fc ad qt to A n c w h1 h2 h3 h4 h5 h6 ?_
      have hC' : (f = 1 ∧ qt ≠ 0) ∨ (f ≠ 1 ∧ qt = 0) ∨ (f ≠ 3 ∧ to ≠ 0) := by
        rcases hC with hC | hC
        · cases h1 : (qt == 0) <;> cases h2 : (f == 1) <;> simp_all
        · exact .inr (.inr hC)
      omega
    · rename_i hC
      have hC' : (f = 1 ∧ qt = 0 ∧ to = 0) ∨ (f = 0 ∧ 1 ≤ qt ∧ to = 0) ∨ (f = 2 ∧ 1 ≤ qt ∧ to = 0) ∨ (f = 3 ∧ 1 ≤ qt) := by
        have hq : (qt == 0) = (f == 1) := by
          have := (not_or.1 hC).1
          cases h1 : (qt == 0) <;> cases h2 : (f == 1) <;> simp_all
        have hz : f = 3 ∨ to = 0 := by have := (not_or.1 hC).2; omega
        by_cases b : f = 1
        · rw [b] at hq; have : qt = 0 := by simpa using hq
          omega
        · have e : (f == 1) = false := by simp [b]
          rw [e] at hq; have : qt ≠ 0 := by simpa using hq
          omega
      rw [hl]
      rcases hC' with ⟨rfl, g1, g2⟩ | ⟨rfl, g1, g2⟩ | ⟨rfl, g1, g2⟩ | ⟨rfl, g1⟩
      · exact holds_single B xs q v b fc ad qt to A n c w h1 h2 h3 h4 h5 h6 hx hB hn g1 g2
      · refine (holds_reads q v b fc ad qt to A n c w h1 h2 h3 h4 h5 h6 g1 g2).mono fun e w' h => ⟨h.1.trans ?_, h.2⟩
        rw [if_pos rfl]
        congr 2
        rw [Bool.eq_iff_iff]; simp
      · exact holds_writes B xs q v b fc ad qt to A n c w h1 h2 h3 h4 h5 h6 hx hB hn g1 g2
      · exact holds_swaps q v b fc ad qt to A n c w h1 h2 h3 h4 h5 h6 g1
end Go.Proofs.Ytgagpalffdgjnaa
namespace Go.Proofs.Ytgagpalffdgjnaa
open Go.RowKit

def rightB' (fc ad qt to : Int) (xs : List Int) : Bool := match shapeOf fc with | some s => holdsB s ad qt to xs && fitsB ad qt to xs.length | none => false

theorem have_then {P Q : Prop} (h : P) (k : P → Q) : Q := k h
theorem holds_len {s : Shape} {ad qt to : Int} {xs : List Int} (hf : 0 ≤ s.form ∧ s.form ≤ 3 ∧ s.qty ≤ 2000 ∧ s.vals ≤ 121) (h : holdsB s ad qt to xs = true) : xs.length ≤ 2000 := by
  obtain ⟨-, -, ⟨q0, q1⟩, -, -, f0, f1, f2, f3⟩ := holds_parts h
  by_cases h0 : s.form = 0
  · rw [f0 h0]; simp
  · by_cases h1 : s.form = 1
    · have := (f1 h1).1; omega
    · by_cases h2 : s.form = 2
      · have := (f2 h2).1; omega
      · have := (f3 h0 h1 h2).2; omega
theorem shape_bounds {fc : Int} {s : Shape} (hs : shapeOf fc = some s) : 0 ≤ s.form ∧ s.form ≤ 3 ∧ s.qty ≤ 2000 ∧ s.vals ≤ 121 := by
  rcases shape_cases hs with ⟨_, rfl⟩ | ⟨_, rfl⟩ | ⟨_, rfl⟩ | ⟨_, rfl⟩ | ⟨_, rfl⟩ | ⟨_, rfl⟩ | ⟨_, rfl⟩ | ⟨_, rfl⟩ <;> decide

set_option maxRecDepth 100000 in
set_option maxHeartbeats 1600000 in
theorem right_none (fc ad qt to : Int) (A : Option Addr) (n c : Nat) (w : World) (hs : shapeOf fc = none) :
    Calls Try.prog 44 #[.agg #[.int .i64 fc, .int .i64 ad, .int .i64 qt, .slice A n c, .int .i64 to]] w fun e w' => e = .returned (.bool false) ∧ Ext w w' := by
  have hv : lookV fc = shapeZero := by unfold lookV; rw [hs]
  have lk1 := look_any (w := ((w.alloc (.cells #[.int .i64 fc, .int .i64 ad, .int .i64 qt, .slice A n c, .int .i64 to] 30)).alloc (.map E10 10)).drew) (g := w.heap.size + 1) (by show (World.alloc _ _).heap[_]? = _; rw [alloc_get, if_pos (by simp)]) fc
  have lk2 := look_any (w := (((w.alloc (.cells #[.int .i64 fc, .int .i64 ad, .int .i64 qt, .slice A n c, .int .i64 to] 30)).alloc (.map E10 10)).alloc (.cells #[.int .i64 0, .int .i64 0, .int .i64 0, .bool false] 162)).drew) (g := w.heap.size + 1) (by show (World.alloc _ _).heap[_]? = _; rw [alloc_get, if_neg (by simp), alloc_get, if_pos (by simp)]) fc
  have lk3 := look_any (w := (((w.alloc (.cells #[.int .i64 fc, .int .i64 ad, .int .i64 qt, .slice A n c, .int .i64 to] 30)).alloc (.cells #[.int .i64 0, .int .i64 0, .int .i64 0, .bool false] 162)).alloc (.map E10 10)).drew) (g := w.heap.size + 1 + 1) (by show (World.alloc _ _).heap[_]? = _; rw [alloc_get, if_pos (by simp)]) fc
  rw [hv, hs] at lk1 lk2 lk3
  clear hv hs
  unfold shapeZero at lk1 lk2 lk3
  rw [show (none : Option Shape).isSome = false from rfl] at lk1 lk2 lk3
  have E1 := (Ext.refl w).goA (.cells #[.int .i64 fc, .int .i64 ad, .int .i64 qt, .slice A n c, .int .i64 to] 30)
  go_enter Try.func44, Try.ntmps44
  go_wp2_with fail
  go_region_law
    (first
      | (go_simp
         go_at_call 75
         refine (shapes_any _).mono ?_
         rintro e w1 ⟨rfl, rfl⟩
         dsimp only))
  all_goals
    go_wp2_with fail
    go_ret
    exact ⟨rfl, ((E1.goA _).god).goA _⟩

set_option maxRecDepth 100000 in
set_option maxHeartbeats 1600000 in
theorem right_some (s : Shape) (fc ad qt to : Int) (A : Option Addr) (n c : Nat) (xs : List Int) (w : World) (hs : shapeOf fc = some s) (hx : RdI w w.heap.size .u16 A n xs) (hn : n ≤ maxLen) :
    Calls Try.prog 44 #[.agg #[.int .i64 fc, .int .i64 ad, .int .i64 qt, .slice A n c, .int .i64 to]] w fun e w' => e = .returned (.bool (holdsB s ad qt to xs && fitsB ad qt to n)) ∧ Ext w w' := by
  have hv : lookV fc = s.val := by unfold lookV; rw [hs]
  have hf := shape_bounds hs
  have lk1 := look_any (w := ((w.alloc (.cells #[.int .i64 fc, .int .i64 ad, .int .i64 qt, .slice A n c, .int .i64 to] 30)).alloc (.map E10 10)).drew) (g := w.heap.size + 1) (by show (World.alloc _ _).heap[_]? = _; rw [alloc_get, if_pos (by simp)]) fc
  have lk2 := look_any (w := (((w.alloc (.cells #[.int .i64 fc, .int .i64 ad, .int .i64 qt, .slice A n c, .int .i64 to] 30)).alloc (.map E10 10)).alloc (.cells #[.int .i64 0, .int .i64 0, .int .i64 0, .bool false] 162)).drew) (g := w.heap.size + 1) (by show (World.alloc _ _).heap[_]? = _; rw [alloc_get, if_neg (by simp), alloc_get, if_pos (by simp)]) fc
  have lk3 := look_any (w := (((w.alloc (.cells #[.int .i64 fc, .int .i64 ad, .int .i64 qt, .slice A n c, .int .i64 to] 30)).alloc (.cells #[.int .i64 0, .int .i64 0, .int .i64 0, .bool false] 162)).alloc (.map E10 10)).drew) (g := w.heap.size + 1 + 1) (by show (World.alloc _ _).heap[_]? = _; rw [alloc_get, if_pos (by simp)]) fc
  rw [hv, hs] at lk1 lk2 lk3
  rw [show (some s).isSome = true from rfl] at lk1 lk2 lk3
  have hp := Lib.hid (holds_parts (s := s) (ad := ad) (qt := qt) (to := to) (xs := xs))
  have hc := fun w' (E : Ext w w') => holds_any s fc ad qt to A n c w.heap.size xs w' (hx.below E) E.size hn hf.1 hf.2.1
  have hf' := Lib.hid hf
  clear hv hs hf
  obtain ⟨f, q, v, b⟩ := s
  unfold Shape.val at lk1 lk2 lk3 hc
  dsimp only at lk1 lk2 lk3 hc
  have E1 := (Ext.refl w).goA (.cells #[.int .i64 fc, .int .i64 ad, .int .i64 qt, .slice A n c, .int .i64 to] 30)
  have F1 := Ext.refl (w.alloc (.cells #[.int .i64 fc, .int .i64 ad, .int .i64 qt, .slice A n c, .int .i64 to] 30))
  have hlen := Lib.hid hx.len
  have hc' := Lib.hid hc
  clear hc
  go_enter Try.func44, Try.ntmps44
  go_wp2_with fail
  go_region_law
    (first
      | (go_simp
         go_at_call 75
         refine (shapes_any _).mono ?_
         rintro e w1 ⟨rfl, rfl⟩
         dsimp only))
  all_goals
    go_wp2_with fail
    refine (hc'.out _ (by first | exact ((E1.goA _).goA _).god)).mono ?_
    rintro e w2 ⟨rfl, D2⟩
    cases hh : holdsB ⟨f, q, v, b⟩ ad qt to xs
    · go_wp2_with fail
      go_ret
      exact ⟨by rw [hh]; rfl, (((E1.goA _).goA _).god).go D2⟩
    · obtain ⟨⟨a0, a1⟩, ⟨t0, t1⟩, ⟨q0, q1⟩, _, _, _⟩ := hp.out hh
      have bx := cellsAt (((((F1.goA _).goA _).god).go D2).block w.heap.size (by simp) |>.trans (heap_alloc_new w _))
      have q2 : qt ≤ 65535 := by have := hf'.out.2.2.1; have q1 : qt ≤ q := q1; have this : q ≤ 2000 := this; omega
      have n2 : n ≤ 65536 := by have := holds_len hf'.out hh; have := hlen.out; omega
      go_wp2_with fail
      refine (fits_any fc ad qt to A n c w2 a0 (by omega) t0 (by omega) q0 q2 n2).mono ?_
      rintro e w3 ⟨rfl, D3⟩
      go_wp2_with fail
      go_ret
      exact ⟨by rw [hh]; rfl, ((((E1.goA _).goA _).god).go D2).go D3⟩
theorem pduRight_any (fc ad qt to : Int) (A : Option Addr) (n c : Nat) (xs : List Int) (w : World) (hx : RdI w w.heap.size .u16 A n xs) (hn : n ≤ maxLen) :
    Calls Try.prog 44 #[.agg #[.int .i64 fc, .int .i64 ad, .int .i64 qt, .slice A n c, .int .i64 to]] w fun e w' => e = .returned (.bool (rightB' fc ad qt to xs)) ∧ Ext w w' := by
  unfold rightB'
  cases hs : shapeOf fc with
  | none => exact right_none fc ad qt to A n c w hs
  | some s => dsimp only; rw [hx.len]; exact right_some s fc ad qt to A n c xs w hs hx hn
end Go.Proofs.Ytgagpalffdgjnaa
