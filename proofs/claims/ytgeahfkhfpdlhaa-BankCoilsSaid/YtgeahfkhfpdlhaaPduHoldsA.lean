
/- Layer 4, the walks: holds where it does not. -/
import Derived.Test.YtgeahfkhfpdlhaaPduMap
namespace Go.Proofs.Ytgeahfkhfpdlhaa
open Go.RowKit

set_option maxRecDepth 100000 in
set_option maxHeartbeats 1600000 in
theorem holds_out (f q v : Int) (b : Bool) (fc ad qt to : Int) (A : Option Addr) (n c : Nat) (w : World) (hA : ad < 0 ∨ 65536 ≤ ad ∨ to < 0 ∨ 65536 ≤ to ∨ qt < 0 ∨ q < qt) :
    Calls Try.prog 101 #[.agg #[.int .i64 f, .int .i64 q, .int .i64 v, .bool b], .agg #[.int .i64 fc, .int .i64 ad, .int .i64 qt, .slice A n c, .int .i64 to]] w fun e w' => e = .returned (.bool false) ∧ Ext w w' := by
  rcases (show ad < 0 ∨ (0 ≤ ad ∧ 65536 ≤ ad) ∨ (0 ≤ ad ∧ ad < 65536 ∧ to < 0) ∨ (0 ≤ ad ∧ ad < 65536 ∧ 0 ≤ to ∧ 65536 ≤ to) ∨ (0 ≤ ad ∧ ad < 65536 ∧ 0 ≤ to ∧ to < 65536 ∧ qt < 0) ∨ (0 ≤ ad ∧ ad < 65536 ∧ 0 ≤ to ∧ to < 65536 ∧ 0 ≤ qt ∧ q < qt) by omega) with h | ⟨h1, h⟩ | ⟨h1, h2, h⟩ | ⟨h1, h2, h3, h⟩ | ⟨h1, h2, h3, h4, h⟩ | ⟨h1, h2, h3, h4, h5, h⟩
  all_goals
    clear hA
    try have t1 : decide (ad < 0) = false := by simp; omega
    try have t2 : decide (65536 ≤ ad) = false := by simp; omega
    try have t3 : decide (to < 0) = false := by simp; omega
    try have t4 : decide (65536 ≤ to) = false := by simp; omega
    try have t5 : decide (qt < 0) = false := by simp; omega
    go_enter Try.func101, Try.ntmps101
    go_wp2
    go_ret
    exact ⟨rfl, ((Ext.refl _).goA _).goA _⟩

set_option maxRecDepth 100000 in
set_option maxHeartbeats 1600000 in
theorem holds_not (f q v : Int) (b : Bool) (fc ad qt to : Int) (A : Option Addr) (n c : Nat) (w : World) (h1 : 0 ≤ ad) (h2 : ad < 65536) (h3 : 0 ≤ to) (h4 : to < 65536) (h5 : 0 ≤ qt) (h6 : qt ≤ q)
    (hC : (f = 1 ∧ 1 ≤ qt) ∨ (f = 1 ∧ qt = 0 ∧ 1 ≤ to) ∨ (f = 0 ∧ qt = 0) ∨ (f = 2 ∧ qt = 0) ∨ (f = 3 ∧ qt = 0) ∨ (f = 0 ∧ 1 ≤ qt ∧ 1 ≤ to) ∨ (f = 2 ∧ 1 ≤ qt ∧ 1 ≤ to)) :
    Calls Try.prog 101 #[.agg #[.int .i64 f, .int .i64 q, .int .i64 v, .bool b], .agg #[.int .i64 fc, .int .i64 ad, .int .i64 qt, .slice A n c, .int .i64 to]] w fun e w' => e = .returned (.bool false) ∧ Ext w w' := by
  rcases hC with ⟨rfl, g1⟩ | ⟨rfl, rfl, g1⟩ | ⟨rfl, rfl⟩ | ⟨rfl, rfl⟩ | ⟨rfl, rfl⟩ | ⟨rfl, g1, g2⟩ | ⟨rfl, g1, g2⟩
  all_goals
    have t1 : decide (ad < 0) = false := by simp; omega
    have t2 : decide (65536 ≤ ad) = false := by simp; omega
    have t3 : decide (to < 0) = false := by simp; omega
    have t4 : decide (65536 ≤ to) = false := by simp; omega
    try have t5 : decide (qt < 0) = false := by simp; omega
    try have t6 : decide (q < qt) = false := by simp; omega
    try have k1 : (qt == 0) = false := by simp; omega
    try have k2 : (to != 0) = true := by simp; omega
    go_enter Try.func101, Try.ntmps101
    go_wp2
    go_ret
    exact ⟨rfl, ((Ext.refl _).goA _).goA _⟩

end Go.Proofs.Ytgeahfkhfpdlhaa
