
/- Layer 5, the walks: what is asked, an exception's code, how many are read. -/
import Derived.Test.YtgeahfkhfpdlhaaPduKindsW
import Derived.Test.YtgeahfkhfpdlhaaRef04
import Derived.Test.YtgeahfkhfpdlhaaPduTaken
namespace Go.Proofs.Ytgeahfkhfpdlhaa
open Go.RowKit

theorem seven_reads {w : World} {i : Nat} {t : TypeId} {a0 a1 a2 a3 a4 a5 a6 : Value} (h : w.heap[i]? = some (.cells #[a0, a1, a2, a3, a4, a5, a6] t (0, 0))) (b0 b1 b2 b3 b4 b5 b6 : Value) :
    (w.setCell ⟨i, 0, none⟩ b0).cell? ⟨i, 0, none⟩ = some b0 ∧ ((w.setCell ⟨i, 0, none⟩ b0).setCell ⟨i, 1, none⟩ b1).cell? ⟨i, 1, none⟩ = some b1 ∧ (((w.setCell ⟨i, 0, none⟩ b0).setCell ⟨i, 1, none⟩ b1).setCell ⟨i, 2, none⟩ b2).cell? ⟨i, 2, none⟩ = some b2 ∧ ((((w.setCell ⟨i, 0, none⟩ b0).setCell ⟨i, 1, none⟩ b1).setCell ⟨i, 2, none⟩ b2).setCell ⟨i, 3, none⟩ b3).cell? ⟨i, 3, none⟩ = some b3 ∧ (((((w.setCell ⟨i, 0, none⟩ b0).setCell ⟨i, 1, none⟩ b1).setCell ⟨i, 2, none⟩ b2).setCell ⟨i, 3, none⟩ b3).setCell ⟨i, 4, none⟩ b4).cell? ⟨i, 4, none⟩ = some b4 ∧ ((((((w.setCell ⟨i, 0, none⟩ b0).setCell ⟨i, 1, none⟩ b1).setCell ⟨i, 2, none⟩ b2).setCell ⟨i, 3, none⟩ b3).setCell ⟨i, 4, none⟩ b4).setCell ⟨i, 5, none⟩ b5).cell? ⟨i, 5, none⟩ = some b5 ∧ (((((((w.setCell ⟨i, 0, none⟩ b0).setCell ⟨i, 1, none⟩ b1).setCell ⟨i, 2, none⟩ b2).setCell ⟨i, 3, none⟩ b3).setCell ⟨i, 4, none⟩ b4).setCell ⟨i, 5, none⟩ b5).setCell ⟨i, 6, none⟩ b6).cell? ⟨i, 6, none⟩ = some b6 := by
  have h0 : (w.setCell ⟨i, 0, none⟩ b0).heap[i]? = some (.cells #[b0, a1, a2, a3, a4, a5, a6] t (0, 0)) := set_block h 0 b0
  have h1 : ((w.setCell ⟨i, 0, none⟩ b0).setCell ⟨i, 1, none⟩ b1).heap[i]? = some (.cells #[b0, b1, a2, a3, a4, a5, a6] t (0, 0)) := set_block h0 1 b1
  have h2 : (((w.setCell ⟨i, 0, none⟩ b0).setCell ⟨i, 1, none⟩ b1).setCell ⟨i, 2, none⟩ b2).heap[i]? = some (.cells #[b0, b1, b2, a3, a4, a5, a6] t (0, 0)) := set_block h1 2 b2
  have h3 : ((((w.setCell ⟨i, 0, none⟩ b0).setCell ⟨i, 1, none⟩ b1).setCell ⟨i, 2, none⟩ b2).setCell ⟨i, 3, none⟩ b3).heap[i]? = some (.cells #[b0, b1, b2, b3, a4, a5, a6] t (0, 0)) := set_block h2 3 b3
  have h4 : (((((w.setCell ⟨i, 0, none⟩ b0).setCell ⟨i, 1, none⟩ b1).setCell ⟨i, 2, none⟩ b2).setCell ⟨i, 3, none⟩ b3).setCell ⟨i, 4, none⟩ b4).heap[i]? = some (.cells #[b0, b1, b2, b3, b4, a5, a6] t (0, 0)) := set_block h3 4 b4
  have h5 : ((((((w.setCell ⟨i, 0, none⟩ b0).setCell ⟨i, 1, none⟩ b1).setCell ⟨i, 2, none⟩ b2).setCell ⟨i, 3, none⟩ b3).setCell ⟨i, 4, none⟩ b4).setCell ⟨i, 5, none⟩ b5).heap[i]? = some (.cells #[b0, b1, b2, b3, b4, b5, a6] t (0, 0)) := set_block h4 5 b5
  have h6 : (((((((w.setCell ⟨i, 0, none⟩ b0).setCell ⟨i, 1, none⟩ b1).setCell ⟨i, 2, none⟩ b2).setCell ⟨i, 3, none⟩ b3).setCell ⟨i, 4, none⟩ b4).setCell ⟨i, 5, none⟩ b5).setCell ⟨i, 6, none⟩ b6).heap[i]? = some (.cells #[b0, b1, b2, b3, b4, b5, b6] t (0, 0)) := set_block h5 6 b6
  exact ⟨cellsAt h0 0, cellsAt h1 1, cellsAt h2 2, cellsAt h3 3, cellsAt h4 4, cellsAt h5 5, cellsAt h6 6⟩
theorem Ext.seven {v w : World} {i : Nat} (E : Ext v w) (hi : v.heap.size ≤ i) (b0 b1 b2 b3 b4 b5 b6 : Value) : Ext v (((((((w.setCell ⟨i, 0, none⟩ b0).setCell ⟨i, 1, none⟩ b1).setCell ⟨i, 2, none⟩ b2).setCell ⟨i, 3, none⟩ b3).setCell ⟨i, 4, none⟩ b4).setCell ⟨i, 5, none⟩ b5).setCell ⟨i, 6, none⟩ b6) := by
  have e : ∀ {u : World} (o : Nat) (x : Value), Ext v u → Ext v (u.setCell ⟨i, o, none⟩ x) := fun o x E => E.goS (p := ⟨i, o, none⟩) hi x
  exact e 6 _ (e 5 _ (e 4 _ (e 3 _ (e 2 _ (e 1 _ (e 0 _ E))))))

set_option maxRecDepth 100000 in
set_option maxHeartbeats 1600000 in
theorem of_any (fc ad qt to : Int) (A : Option Addr) (n c : Nat) (w : World) :
    Calls Try.prog 95 #[.agg #[.int .i64 fc, .int .i64 ad, .int .i64 qt, .slice A n c, .int .i64 to]] w fun e w' => e = .returned (.agg #[.int .i64 fc, .int .i64 ad, .int .i64 qt, .slice A n c, .int .i64 to, .bool (readsB fc), .bool (readsBits fc)]) ∧ Ext w w' := by
  have E1 := (Ext.refl w).goA (.cells #[.int .i64 fc, .int .i64 ad, .int .i64 qt, .slice A n c, .int .i64 to] 32)
  have F1 := Ext.refl (w.alloc (.cells #[.int .i64 fc, .int .i64 ad, .int .i64 qt, .slice A n c, .int .i64 to] 32))
  go_enter Try.func95, Try.ntmps95
  go_wp2_with fail
  refine (reads_any fc _).mono ?_
  rintro e w1 ⟨rfl, D1⟩
  have b1 := cellsAt (((F1.goA (.cells #[.int .i64 0, .int .i64 0, .int .i64 0, .slice none 0 0, .int .i64 0, .bool false, .bool false] 137)).go D1).block w.heap.size (by simp) |>.trans (heap_alloc_new w _))
  have R1 := (D1.block (w.heap.size + 1) (by simp)).trans (show ((w.alloc (.cells #[.int .i64 fc, .int .i64 ad, .int .i64 qt, .slice A n c, .int .i64 to] 32)).alloc (.cells #[.int .i64 0, .int .i64 0, .int .i64 0, .slice none 0 0, .int .i64 0, .bool false, .bool false] 137)).heap[w.heap.size + 1]? = _ by rw [alloc_get, if_pos (by simp)])
  have f1 := frozen_block R1
  have c1 := cellsAt R1
  have R1' := Lib.hid R1
  clear R1
  go_wp2_with fail
  obtain ⟨z0, z1, z2, z3, z4, z5, z6⟩ := seven_reads R1'.out (.int .i64 fc) (.int .i64 ad) (.int .i64 qt) (.slice A n c) (.int .i64 to) (.bool (readsB fc)) (.bool (readsBits fc))
  refine bodyPost_ret (v := .agg #[.int .i64 fc, .int .i64 ad, .int .i64 qt, .slice A n c, .int .i64 to, .bool (readsB fc), .bool (readsBits fc)]) (by simp [results, Try.results95, go_sem, z0, z1, z2, z3, z4, z5, z6]) rfl ?_
  exact ⟨rfl, ((E1.goA _).go D1).seven (by simp) _ _ _ _ _ _ _⟩
def excB (code : Int) : Bool := decide (1 ≤ code) && decide (code ≤ 4)
set_option maxRecDepth 100000 in
set_option maxHeartbeats 800000 in
theorem exception_any (code : Int) (w : World) : Calls Try.prog 94 #[.int .i64 code] w fun e w' => e = .returned (.bool (excB code)) ∧ w = w' := by
  unfold excB
  cases h1 : decide (1 ≤ code)
  · go_enter Try.func94, Try.ntmps94
    go_wp2_with fail
    go_ret
    exact ⟨rfl, rfl⟩
  · go_enter Try.func94, Try.ntmps94
    go_wp2_with fail
    go_ret
    exact ⟨rfl, rfl⟩
set_option maxRecDepth 100000 in
set_option maxHeartbeats 800000 in
theorem many_any (fc ad qt to : Int) (A : Option Addr) (n c : Nat) (r b : Bool) (w : World) :
    Calls Try.prog 116 #[.agg #[.int .i64 fc, .int .i64 ad, .int .i64 qt, .slice A n c, .int .i64 to, .bool r, .bool b]] w fun e w' => e = .returned (.int .i64 (if r then qt else 0)) ∧ Ext w w' := by
  have E1 := (Ext.refl w).goA (.cells #[.int .i64 fc, .int .i64 ad, .int .i64 qt, .slice A n c, .int .i64 to, .bool r, .bool b] 137)
  cases r
  · go_enter Try.func116, Try.ntmps116
    go_wp2_with fail
    go_ret
    exact ⟨rfl, E1⟩
  · go_enter Try.func116, Try.ntmps116
    go_wp2_with fail
    go_ret
    exact ⟨rfl, E1⟩
end Go.Proofs.Ytgeahfkhfpdlhaa
