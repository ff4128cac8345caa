
/- Layer 4, the walks: holds, whole. -/
import Derived.Test.YtgeahfkhfpdlhaaPduHolds
import Derived.Test.YtgeahfkhfpdlhaaPduHoldsA
namespace Go.Proofs.Ytgeahfkhfpdlhaa
open Go.RowKit

set_option maxRecDepth 100000 in
set_option maxHeartbeats 1600000 in
theorem holds_reads (q v : Int) (b : Bool) (fc ad qt to : Int) (A : Option Addr) (n c : Nat) (w : World) (h1 : 0 ≤ ad) (h2 : ad < 65536) (h3 : 0 ≤ to) (h4 : to < 65536) (h5 : 0 ≤ qt) (h6 : qt ≤ q) (g1 : 1 ≤ qt) (g2 : to = 0) :
    Calls Try.prog 101 #[.agg #[.int .i64 0, .int .i64 q, .int .i64 v, .bool b], .agg #[.int .i64 fc, .int .i64 ad, .int .i64 qt, .slice A n c, .int .i64 to]] w fun e w' => e = .returned (.bool ((n : Int) == 0)) ∧ Ext w w' := by
  subst g2
  have k1 : (qt == 0) = false := by simp; omega
  have t1 : decide (ad < 0) = false := by simp; omega
  have t2 : decide (65536 ≤ ad) = false := by simp; omega
  have t5 : decide (qt < 0) = false := by simp; omega
  have t6 : decide (q < qt) = false := by simp; omega
  go_enter Try.func101, Try.ntmps101
  go_wp2
  go_ret
  exact ⟨rfl, ((Ext.refl _).goA _).goA _⟩
set_option maxRecDepth 100000 in
set_option maxHeartbeats 1600000 in
theorem holds_swaps (q v : Int) (b : Bool) (fc ad qt to : Int) (A : Option Addr) (n c : Nat) (w : World) (h1 : 0 ≤ ad) (h2 : ad < 65536) (h3 : 0 ≤ to) (h4 : to < 65536) (h5 : 0 ≤ qt) (h6 : qt ≤ q) (g1 : 1 ≤ qt) :
    Calls Try.prog 101 #[.agg #[.int .i64 3, .int .i64 q, .int .i64 v, .bool b], .agg #[.int .i64 fc, .int .i64 ad, .int .i64 qt, .slice A n c, .int .i64 to]] w fun e w' => e = .returned (.bool (decide (1 ≤ (n : Int)) && decide ((n : Int) ≤ v))) ∧ Ext w w' := by
  have k1 : (qt == 0) = false := by simp; omega
  have t1 : decide (ad < 0) = false := by simp; omega
  have t2 : decide (65536 ≤ ad) = false := by simp; omega
  have t3 : decide (to < 0) = false := by simp; omega
  have t4 : decide (65536 ≤ to) = false := by simp; omega
  have t5 : decide (qt < 0) = false := by simp; omega
  have t6 : decide (q < qt) = false := by simp; omega
  by_cases g2 : 1 ≤ (n : Int)
  all_goals
    have g2' := Lib.hid g2
    go_enter Try.func101, Try.ntmps101
    go_wp2
    go_ret
    exact ⟨by first | (rw [decide_eq_true g2'.out]; rfl) | (rw [decide_eq_false (by have := g2'.out; omega)]; rfl), ((Ext.refl _).goA _).goA _⟩
set_option maxRecDepth 100000 in
set_option maxHeartbeats 1600000 in
theorem holds_single (B : Nat) (xs : List Int) (q v : Int) (b : Bool) (fc ad qt to : Int) (A : Option Addr) (n c : Nat) (w : World) (h1 : 0 ≤ ad) (h2 : ad < 65536) (h3 : 0 ≤ to) (h4 : to < 65536) (h5 : 0 ≤ qt) (h6 : qt ≤ q) (hx : RdI w B .u16 A n xs) (hB : B ≤ w.heap.size) (hn : n ≤ maxLen) (g1 : qt = 0) (g2 : to = 0) :
    Calls Try.prog 101 #[.agg #[.int .i64 1, .int .i64 q, .int .i64 v, .bool b], .agg #[.int .i64 fc, .int .i64 ad, .int .i64 qt, .slice A n c, .int .i64 to]] w fun e w' => e = .returned (.bool (((n : Int) == v) && valuesB b xs)) ∧ Ext w w' := by
  subst g1 g2
  have t1 : decide (ad < 0) = false := by simp; omega
  have t2 : decide (65536 ≤ ad) = false := by simp; omega
  have t6 : decide (q < 0) = false := by simp; omega
  cases g3 : ((n : Int) == v)
  all_goals
    have g3' := Lib.hid g3
    go_enter Try.func101, Try.ntmps101
    go_wp2_with (go_at_call 119; refine (values_any ⟨1, q, v, b⟩ A n c B xs _ ((hx.alloc hB _).alloc (by simp; omega) _) (by simp; omega) hn).mono ?_; rintro e w1 ⟨rfl, d1⟩)
    go_ret
    first
      | exact ⟨rfl, ((Ext.refl _).goA _).goA _⟩
      | exact ⟨rfl, (((Ext.refl _).goA _).goA _).go d1⟩
set_option maxRecDepth 100000 in
set_option maxHeartbeats 1600000 in
theorem holds_writes (B : Nat) (xs : List Int) (q v : Int) (b : Bool) (fc ad qt to : Int) (A : Option Addr) (n c : Nat) (w : World) (h1 : 0 ≤ ad) (h2 : ad < 65536) (h3 : 0 ≤ to) (h4 : to < 65536) (h5 : 0 ≤ qt) (h6 : qt ≤ q) (hx : RdI w B .u16 A n xs) (hB : B ≤ w.heap.size) (hn : n ≤ maxLen) (g1 : 1 ≤ qt) (g2 : to = 0) :
    Calls Try.prog 101 #[.agg #[.int .i64 2, .int .i64 q, .int .i64 v, .bool b], .agg #[.int .i64 fc, .int .i64 ad, .int .i64 qt, .slice A n c, .int .i64 to]] w fun e w' => e = .returned (.bool (((n : Int) == qt) && valuesB b xs)) ∧ Ext w w' := by
  subst g2
  have k1 : (qt == 0) = false := by simp; omega
  have t1 : decide (ad < 0) = false := by simp; omega
  have t2 : decide (65536 ≤ ad) = false := by simp; omega
  have t5 : decide (qt < 0) = false := by simp; omega
  have t6 : decide (q < qt) = false := by simp; omega
  cases g3 : ((n : Int) == qt)
  all_goals
    have g3' := Lib.hid g3
    go_enter Try.func101, Try.ntmps101
    go_wp2_with (go_at_call 119; refine (values_any ⟨2, q, v, b⟩ A n c B xs _ ((hx.alloc hB _).alloc (by simp; omega) _) (by simp; omega) hn).mono ?_; rintro e w1 ⟨rfl, d1⟩)
    go_ret
    first
      | exact ⟨rfl, ((Ext.refl _).goA _).goA _⟩
      | exact ⟨rfl, (((Ext.refl _).goA _).goA _).go d1⟩

theorem holds_any (s : Shape) (fc ad qt to : Int) (A : Option Addr) (n c B : Nat) (xs : List Int) (w : World) (hx : RdI w B .u16 A n xs) (hB : B ≤ w.heap.size) (hn : n ≤ maxLen) (hf0 : 0 ≤ s.form) (hf1 : s.form ≤ 3) :
    Calls Try.prog 101 #[s.val, .agg #[.int .i64 fc, .int .i64 ad, .int .i64 qt, .slice A n c, .int .i64 to]] w fun e w' => e = .returned (.bool (holdsB s ad qt to xs)) ∧ Ext w w' := by
  obtain ⟨f, q, v, b⟩ := s
  have hl := hx.len
  unfold Shape.val holdsB
  simp only at hf0 hf1 ⊢
  split
  · rename_i hA
    exact holds_out f q v b fc ad qt to A n c w hA
  · rename_i hA
    obtain ⟨h1, h2, h3, h4, h5, h6⟩ : 0 ≤ ad ∧ ad < 65536 ∧ 0 ≤ to ∧ to < 65536 ∧ 0 ≤ qt ∧ qt ≤ q := by omega
    split
    · rename_i hC
      refine holds_not f q v b fc ad qt to A n c w h1 h2 h3 h4 h5 h6 ?_
      have hC' : (f = 1 ∧ qt ≠ 0) ∨ (f ≠ 1 ∧ qt = 0) ∨ (f ≠ 3 ∧ to ≠ 0) := by
        rcases hC with hC | hC
        · cases h1 : (qt == 0) <;> cases h2 : (f == 1) <;> simp_all
        · exact .inr (.inr hC)
      omega
    · rename_i hC
      have hC' : (f = 1 ∧ qt = 0 ∧ to = 0) ∨ (f = 0 ∧ 1 ≤ qt ∧ to = 0) ∨ (f = 2 ∧ 1 ≤ qt ∧ to = 0) ∨ (f = 3 ∧ 1 ≤ qt) := by
        have hq : (qt == 0) = (f == 1) := by
          have := (not_or.1 hC).1
          cases h1 : (qt == 0) <;> cases h2 : (f == 1) <;> simp_all
        have hz : f = 3 ∨ to = 0 := by have := (not_or.1 hC).2; omega
        by_cases b : f = 1
        · rw [b] at hq; have : qt = 0 := by simpa using hq
          omega
        · have e : (f == 1) = false := by simp [b]
          rw [e] at hq; have : qt ≠ 0 := by simpa using hq
          omega
      rw [hl]
      rcases hC' with ⟨rfl, g1, g2⟩ | ⟨rfl, g1, g2⟩ | ⟨rfl, g1, g2⟩ | ⟨rfl, g1⟩
      · exact holds_single B xs q v b fc ad qt to A n c w h1 h2 h3 h4 h5 h6 hx hB hn g1 g2
      · refine (holds_reads q v b fc ad qt to A n c w h1 h2 h3 h4 h5 h6 g1 g2).mono fun e w' h => ⟨h.1.trans ?_, h.2⟩
        rw [if_pos rfl]
        congr 2
        rw [Bool.eq_iff_iff]; simp
      · exact holds_writes B xs q v b fc ad qt to A n c w h1 h2 h3 h4 h5 h6 hx hB hn g1 g2
      · exact holds_swaps q v b fc ad qt to A n c w h1 h2 h3 h4 h5 h6 g1
end Go.Proofs.Ytgeahfkhfpdlhaa
