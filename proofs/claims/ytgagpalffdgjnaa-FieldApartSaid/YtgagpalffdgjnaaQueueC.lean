/- Layer 20, the walks: a queue of jobs: Take. -/
import Derived.Test.YtgagpalffdgjnaaG27
namespace Go.Proofs.Ytgagpalffdgjnaa
open Go.Conc Go.RowKit

theorem sets_block {w : World} {i : Nat} {Q : Array Value} {t : TypeId} (h : w.heap[i]? = some (.cells Q t (0, 0))) (j : Nat) (v : Value) : (w.setCell ⟨i, j, none⟩ v).heap[i]? = some (.cells (Q.setIfInBounds j v) t (0, 0)) := by
  simp [World.setCell, Array.getElem?_modify, h]
theorem eight_block {w : World} {i : Nat} {t : TypeId} {a0 a1 a2 a3 a4 a5 a6 a7 : Value} (h : w.heap[i]? = some (.cells #[a0, a1, a2, a3, a4, a5, a6, a7] t (0, 0))) (b0 b1 b2 b3 b4 b5 b6 b7 : Value) :
    ((((((((w.setCell ⟨i, 0, none⟩ b0).setCell ⟨i, 1, none⟩ b1).setCell ⟨i, 2, none⟩ b2).setCell ⟨i, 3, none⟩ b3).setCell ⟨i, 4, none⟩ b4).setCell ⟨i, 5, none⟩ b5).setCell ⟨i, 6, none⟩ b6).setCell ⟨i, 7, none⟩ b7).heap[i]? = some (.cells #[b0, b1, b2, b3, b4, b5, b6, b7] t (0, 0)) := by
  have h0 : (w.setCell ⟨i, 0, none⟩ b0).heap[i]? = some (.cells #[b0, a1, a2, a3, a4, a5, a6, a7] t (0, 0)) := sets_block h 0 b0
  have h1 : ((w.setCell ⟨i, 0, none⟩ b0).setCell ⟨i, 1, none⟩ b1).heap[i]? = some (.cells #[b0, b1, a2, a3, a4, a5, a6, a7] t (0, 0)) := sets_block h0 1 b1
  have h2 : (((w.setCell ⟨i, 0, none⟩ b0).setCell ⟨i, 1, none⟩ b1).setCell ⟨i, 2, none⟩ b2).heap[i]? = some (.cells #[b0, b1, b2, a3, a4, a5, a6, a7] t (0, 0)) := sets_block h1 2 b2
  have h3 : ((((w.setCell ⟨i, 0, none⟩ b0).setCell ⟨i, 1, none⟩ b1).setCell ⟨i, 2, none⟩ b2).setCell ⟨i, 3, none⟩ b3).heap[i]? = some (.cells #[b0, b1, b2, b3, a4, a5, a6, a7] t (0, 0)) := sets_block h2 3 b3
  have h4 : (((((w.setCell ⟨i, 0, none⟩ b0).setCell ⟨i, 1, none⟩ b1).setCell ⟨i, 2, none⟩ b2).setCell ⟨i, 3, none⟩ b3).setCell ⟨i, 4, none⟩ b4).heap[i]? = some (.cells #[b0, b1, b2, b3, b4, a5, a6, a7] t (0, 0)) := sets_block h3 4 b4
  have h5 : ((((((w.setCell ⟨i, 0, none⟩ b0).setCell ⟨i, 1, none⟩ b1).setCell ⟨i, 2, none⟩ b2).setCell ⟨i, 3, none⟩ b3).setCell ⟨i, 4, none⟩ b4).setCell ⟨i, 5, none⟩ b5).heap[i]? = some (.cells #[b0, b1, b2, b3, b4, b5, a6, a7] t (0, 0)) := sets_block h4 5 b5
  have h6 : (((((((w.setCell ⟨i, 0, none⟩ b0).setCell ⟨i, 1, none⟩ b1).setCell ⟨i, 2, none⟩ b2).setCell ⟨i, 3, none⟩ b3).setCell ⟨i, 4, none⟩ b4).setCell ⟨i, 5, none⟩ b5).setCell ⟨i, 6, none⟩ b6).heap[i]? = some (.cells #[b0, b1, b2, b3, b4, b5, b6, a7] t (0, 0)) := sets_block h5 6 b6
  have h7 : ((((((((w.setCell ⟨i, 0, none⟩ b0).setCell ⟨i, 1, none⟩ b1).setCell ⟨i, 2, none⟩ b2).setCell ⟨i, 3, none⟩ b3).setCell ⟨i, 4, none⟩ b4).setCell ⟨i, 5, none⟩ b5).setCell ⟨i, 6, none⟩ b6).setCell ⟨i, 7, none⟩ b7).heap[i]? = some (.cells #[b0, b1, b2, b3, b4, b5, b6, b7] t (0, 0)) := sets_block h6 7 b7
  exact h7
theorem eight_mod (w : World) (i : Nat) (b0 b1 b2 b3 b4 b5 b6 b7 : Value) : Mod (fun j => j = i) w ((((((((w.setCell ⟨i, 0, none⟩ b0).setCell ⟨i, 1, none⟩ b1).setCell ⟨i, 2, none⟩ b2).setCell ⟨i, 3, none⟩ b3).setCell ⟨i, 4, none⟩ b4).setCell ⟨i, 5, none⟩ b5).setCell ⟨i, 6, none⟩ b6).setCell ⟨i, 7, none⟩ b7) :=
  ((((((((Mod.refl (fun j => j = i) w).setCell (p := ⟨i, 0, none⟩) (.inl rfl) b0).setCell (p := ⟨i, 1, none⟩) (.inl rfl) b1).setCell (p := ⟨i, 2, none⟩) (.inl rfl) b2).setCell (p := ⟨i, 3, none⟩) (.inl rfl) b3).setCell (p := ⟨i, 4, none⟩) (.inl rfl) b4).setCell (p := ⟨i, 5, none⟩) (.inl rfl) b5).setCell (p := ⟨i, 6, none⟩) (.inl rfl) b6).setCell (p := ⟨i, 7, none⟩) (.inl rfl) b7
def jobZ : Value := jobV 0 0 0 0 0 none 0 0 0 false
set_option maxRecDepth 100000 in
set_option maxHeartbeats 1600000 in
theorem qTake_urgent (q ch : Nat) (u : Bool) (vs : List Value) (s r : Nat) (id un fc ad qt : Int) (A : Option Addr) (n c : Nat) (to : Int) (w : World)
    (c0 : w.cell? ⟨q, 0, none⟩ = some (.chan (some ch))) (hq : w.heap[ch]? = some (.chan 64 (jobV id un fc ad qt A n c to u :: vs).toArray false s r false)) :
    Calls Try.prog 49 #[.pointer (some ⟨q, 0, none⟩)] w fun e w' =>
      e = .returned (.tuple #[jobV id un fc ad qt A n c to u, .bool true]) ∧ Mod (fun i => i = ch) w w' ∧ w'.heap[ch]? = some (.chan 64 vs.toArray false s (r + 1) false) := by
  unfold jobV at hq ⊢
  have hlt : ch < w.heap.size := (Array.getElem?_eq_some_iff.1 hq).1
  refine calls_of_loneTo fun cs => ?_
  have e : Frame.enter Try.prog 49 #[.pointer (some ⟨q, 0, none⟩)] .normal = (base 49).at ⟨#[.pointer (some ⟨q, 0, none⟩), undef, undef, undef, undef, undef, undef, undef, undef, undef, undef, undef, undef, undef, undef, undef, undef, undef, undef, undef, undef, undef, undef, undef, undef, undef], []⟩ [.code (Try.f49.body.getD .skip)] := by
    simp [Frame.enter, Frame.at, Try.func49, base, Try.f49]
    try rfl
  rw [e]
  refine LoneTo.goes (n := 60) ?_
  simp only [Try.f49, Option.getD_some]
  s_c stepG_seq
  s_reg
  s_op
  s_op
  s_c stepG_region_end
  have E1 : Ext w (w.alloc (.cells #[.int .i64 0, .int .i64 0, .int .i64 0, .int .i64 0, .int .i64 0, .slice none 0 0, .int .i64 0, .bool false] 32)) := (Ext.refl w).goA _
  have hb : (w.alloc (.cells #[.int .i64 0, .int .i64 0, .int .i64 0, .int .i64 0, .int .i64 0, .slice none 0 0, .int .i64 0, .bool false] 32)).heap[w.heap.size]? = some (.cells #[.int .i64 0, .int .i64 0, .int .i64 0, .int .i64 0, .int .i64 0, .slice none 0 0, .int .i64 0, .bool false] 32 (0, 0)) := heap_alloc_new w _
  generalize hw1 : w.alloc (.cells #[.int .i64 0, .int .i64 0, .int .i64 0, .int .i64 0, .int .i64 0, .slice none 0 0, .int .i64 0, .bool false] 32) = w1 at *
  have qlt : q < w.heap.size := cell_lt c0
  rw [← E1.cell (g := q) _ qlt] at c0
  have hq1 := (E1.block ch hlt).trans hq
  have hlt1 : ch < w1.heap.size := Nat.lt_of_lt_of_le hlt E1.size
  clear hw1 hq
  s_c stepG_seq
  s_c stepG_seq
  s_reg
  s_op
  s_op
  s_op
  s_op
  s_c stepG_region_end
  s_c stepG_seq
  s_reg
  s_stop
  refine LoneTo.step (step_lone_select_recv_buf (c := ch) (cap := 64) (closed := false) (s := s) (r := r) (tm := false) (z := .agg #[.int .i64 0, .int .i64 0, .int .i64 0, .int .i64 0, .int .i64 0, .slice none 0 0, .int .i64 0, .bool false]) (stepG_comm (cases := #[rcase ch (.agg #[.int .i64 0, .int .i64 0, .int .i64 0, .int .i64 0, .int .i64 0, .slice none 0 0, .int .i64 0, .bool false])]) (blocking := false) (shape := .select) (w' := w1) rfl rfl (by decide) (by simp [go_sem, execOp, rcase, Act.eval])) hq1 (by simp)) ?_
  rw [Frame.finish_at]
  rw [show ((Value.agg #[.int .i64 id, .int .i64 un, .int .i64 fc, .int .i64 ad, .int .i64 qt, .slice A n c, .int .i64 to, .bool u] :: vs).toArray).extract 1 ((Value.agg #[.int .i64 id, .int .i64 un, .int .i64 fc, .int .i64 ad, .int .i64 qt, .slice A n c, .int .i64 to, .bool u] :: vs).toArray).size = vs.toArray from by simp, show ((Value.agg #[.int .i64 id, .int .i64 un, .int .i64 fc, .int .i64 ad, .int .i64 qt, .slice A n c, .int .i64 to, .bool u] :: vs).toArray).getD 0 undef = Value.agg #[.int .i64 id, .int .i64 un, .int .i64 fc, .int .i64 ad, .int .i64 qt, .slice A n c, .int .i64 to, .bool u] from by simp]
  have M2 : Mod (fun i => i = ch) w (w1.setChan ch 64 vs.toArray false s (r + 1) false) := Mod.setChan (S := fun i => i = ch) (k := ch) (E1.mod _) rfl _ _ _ _ _ _
  have hq2 := heap_setChan w1 ch 64 vs.toArray false s (r + 1) false hlt1
  have hb2 : (w1.setChan ch 64 vs.toArray false s (r + 1) false).heap[w.heap.size]? = some (.cells #[.int .i64 0, .int .i64 0, .int .i64 0, .int .i64 0, .int .i64 0, .slice none 0 0, .int .i64 0, .bool false] 32 (0, 0)) := by
    rw [← hb]; simp only [World.setChan]; rw [Array.getElem?_setIfInBounds_ne (by omega)]
  generalize w1.setChan ch 64 vs.toArray false s (r + 1) false = w2 at *
  have L2 : w.heap.size < w2.heap.size := (Array.getElem?_eq_some_iff.1 hb2).1
  clear c0 E1 hb hq1 hlt1
  walk_nrm
  refine LoneTo.goes (n := 60) ?_
  s_op
  s_op
  s_c stepG_region_end
  s_c stepG_block
  s_cond true
  s_c stepG_seq
  s_reg
  s_op
  s_op
  s_op
  s_c stepG_region_end
  have E3 : Ext w2 (w2.alloc (.cells #[.int .i64 id, .int .i64 un, .int .i64 fc, .int .i64 ad, .int .i64 qt, .slice A n c, .int .i64 to, .bool u] 32)) := (Ext.refl w2).goA _
  have hb3 : (w2.alloc (.cells #[.int .i64 id, .int .i64 un, .int .i64 fc, .int .i64 ad, .int .i64 qt, .slice A n c, .int .i64 to, .bool u] 32)).heap[w2.heap.size]? = some (.cells #[.int .i64 id, .int .i64 un, .int .i64 fc, .int .i64 ad, .int .i64 qt, .slice A n c, .int .i64 to, .bool u] 32 (0, 0)) := heap_alloc_new w2 _
  generalize w2.alloc (.cells #[.int .i64 id, .int .i64 un, .int .i64 fc, .int .i64 ad, .int .i64 qt, .slice A n c, .int .i64 to, .bool u] 32) = w3 at *
  have k0 : w3.cell? ⟨w2.heap.size, 0, none⟩ = some (.int .i64 id) := cellsAt hb3 0
  have k1 : w3.cell? ⟨w2.heap.size, 1, none⟩ = some (.int .i64 un) := cellsAt hb3 1
  have k2 : w3.cell? ⟨w2.heap.size, 2, none⟩ = some (.int .i64 fc) := cellsAt hb3 2
  have k3 : w3.cell? ⟨w2.heap.size, 3, none⟩ = some (.int .i64 ad) := cellsAt hb3 3
  have k4 : w3.cell? ⟨w2.heap.size, 4, none⟩ = some (.int .i64 qt) := cellsAt hb3 4
  have k5 : w3.cell? ⟨w2.heap.size, 5, none⟩ = some (.slice A n c) := cellsAt hb3 5
  have k6 : w3.cell? ⟨w2.heap.size, 6, none⟩ = some (.int .i64 to) := cellsAt hb3 6
  have k7 : w3.cell? ⟨w2.heap.size, 7, none⟩ = some (.bool u) := cellsAt hb3 7
  have z3 := (E3.block w.heap.size L2).trans hb2
  have z0' : w3.cell? ⟨w.heap.size, 0, none⟩ = some (.int .i64 0) := cellsAt z3 0
  have z1' : w3.cell? ⟨w.heap.size, 1, none⟩ = some (.int .i64 0) := cellsAt z3 1
  have z2' : w3.cell? ⟨w.heap.size, 2, none⟩ = some (.int .i64 0) := cellsAt z3 2
  have z3' : w3.cell? ⟨w.heap.size, 3, none⟩ = some (.int .i64 0) := cellsAt z3 3
  have z4' : w3.cell? ⟨w.heap.size, 4, none⟩ = some (.int .i64 0) := cellsAt z3 4
  have z5' : w3.cell? ⟨w.heap.size, 5, none⟩ = some (.slice none 0 0) := cellsAt z3 5
  have z6' : w3.cell? ⟨w.heap.size, 6, none⟩ = some (.int .i64 0) := cellsAt z3 6
  have z7' : w3.cell? ⟨w.heap.size, 7, none⟩ = some (.bool false) := cellsAt z3 7
  have f3 := fun j => (show w3.frozen? ⟨w.heap.size, j, none⟩ = false from by simp [World.frozen?, z3])
  s_c stepG_seq
  s_reg
  s_op
  s_op
  have hb4 := eight_block z3 (.int .i64 id) (.int .i64 un) (.int .i64 fc) (.int .i64 ad) (.int .i64 qt) (.slice A n c) (.int .i64 to) (.bool u)
  have M4 := eight_mod w3 w.heap.size (.int .i64 id) (.int .i64 un) (.int .i64 fc) (.int .i64 ad) (.int .i64 qt) (.slice A n c) (.int .i64 to) (.bool u)
  generalize ((((((((w3.setCell ⟨w.heap.size, 0, none⟩ (.int .i64 id)).setCell ⟨w.heap.size, 1, none⟩ (.int .i64 un)).setCell ⟨w.heap.size, 2, none⟩ (.int .i64 fc)).setCell ⟨w.heap.size, 3, none⟩ (.int .i64 ad)).setCell ⟨w.heap.size, 4, none⟩ (.int .i64 qt)).setCell ⟨w.heap.size, 5, none⟩ (.slice A n c)).setCell ⟨w.heap.size, 6, none⟩ (.int .i64 to)).setCell ⟨w.heap.size, 7, none⟩ (.bool u)) = w4 at *
  have r0 : w4.cell? ⟨w.heap.size, 0, none⟩ = some (.int .i64 id) := cellsAt hb4 0
  have r1 : w4.cell? ⟨w.heap.size, 1, none⟩ = some (.int .i64 un) := cellsAt hb4 1
  have r2 : w4.cell? ⟨w.heap.size, 2, none⟩ = some (.int .i64 fc) := cellsAt hb4 2
  have r3 : w4.cell? ⟨w.heap.size, 3, none⟩ = some (.int .i64 ad) := cellsAt hb4 3
  have r4 : w4.cell? ⟨w.heap.size, 4, none⟩ = some (.int .i64 qt) := cellsAt hb4 4
  have r5 : w4.cell? ⟨w.heap.size, 5, none⟩ = some (.slice A n c) := cellsAt hb4 5
  have r6 : w4.cell? ⟨w.heap.size, 6, none⟩ = some (.int .i64 to) := cellsAt hb4 6
  have r7 : w4.cell? ⟨w.heap.size, 7, none⟩ = some (.bool u) := cellsAt hb4 7
  s_op
  s_c stepG_region_end
  s_c stepG_ret'
  s_stop
  refine LoneTo.done ⟨.returned (.tuple #[.agg #[.int .i64 id, .int .i64 un, .int .i64 fc, .int .i64 ad, .int .i64 qt, .slice A n c, .int .i64 to, .bool u], .bool true]), _, rfl, ⟨rfl, ?_, ?_⟩, rfl, rfl, rfl, rfl, _, Try.func49, by simp [results, Try.f49, Frame.at, go_sem, r0, r1, r2, r3, r4, r5, r6, r7]⟩
  · exact (M2.step (E3.mod (fun _ => False)) (fun _ h => h.elim)).step M4 (fun i hi => .inr (by omega))
  · exact (M4.block ch (Nat.lt_of_lt_of_le (Nat.lt_trans hlt L2) E3.size) (by omega)).trans ((E3.block ch (Nat.lt_trans hlt L2)).trans hq2)
set_option maxRecDepth 100000 in
set_option maxHeartbeats 1600000 in
theorem qTake_other (q cu ch : Nat) (u : Bool) (vs : List Value) (s r s0 r0 : Nat) (id un fc ad qt : Int) (A : Option Addr) (n c : Nat) (to : Int) (w : World)
    (cz : w.cell? ⟨q, 0, none⟩ = some (.chan (some cu))) (hz : w.heap[cu]? = some (.chan 64 #[] false s0 r0 false))
    (c0 : w.cell? ⟨q, 1, none⟩ = some (.chan (some ch))) (hq : w.heap[ch]? = some (.chan 64 (jobV id un fc ad qt A n c to u :: vs).toArray false s r false)) :
    Calls Try.prog 49 #[.pointer (some ⟨q, 0, none⟩)] w fun e w' =>
      e = .returned (.tuple #[jobV id un fc ad qt A n c to u, .bool true]) ∧ Mod (fun i => i = ch) w w' ∧ w'.heap[ch]? = some (.chan 64 vs.toArray false s (r + 1) false) := by
  unfold jobV at hq ⊢
  have hlt : ch < w.heap.size := (Array.getElem?_eq_some_iff.1 hq).1
  refine calls_of_loneTo fun cs => ?_
  have e : Frame.enter Try.prog 49 #[.pointer (some ⟨q, 0, none⟩)] .normal = (base 49).at ⟨#[.pointer (some ⟨q, 0, none⟩), undef, undef, undef, undef, undef, undef, undef, undef, undef, undef, undef, undef, undef, undef, undef, undef, undef, undef, undef, undef, undef, undef, undef, undef, undef], []⟩ [.code (Try.f49.body.getD .skip)] := by
    simp [Frame.enter, Frame.at, Try.func49, base, Try.f49]
    try rfl
  rw [e]
  refine LoneTo.goes (n := 60) ?_
  simp only [Try.f49, Option.getD_some]
  s_c stepG_seq
  s_reg
  s_op
  s_op
  s_c stepG_region_end
  have E1 : Ext w (w.alloc (.cells #[.int .i64 0, .int .i64 0, .int .i64 0, .int .i64 0, .int .i64 0, .slice none 0 0, .int .i64 0, .bool false] 32)) := (Ext.refl w).goA _
  have hb : (w.alloc (.cells #[.int .i64 0, .int .i64 0, .int .i64 0, .int .i64 0, .int .i64 0, .slice none 0 0, .int .i64 0, .bool false] 32)).heap[w.heap.size]? = some (.cells #[.int .i64 0, .int .i64 0, .int .i64 0, .int .i64 0, .int .i64 0, .slice none 0 0, .int .i64 0, .bool false] 32 (0, 0)) := heap_alloc_new w _
  generalize hw1 : w.alloc (.cells #[.int .i64 0, .int .i64 0, .int .i64 0, .int .i64 0, .int .i64 0, .slice none 0 0, .int .i64 0, .bool false] 32) = w1 at *
  have qlt : q < w.heap.size := cell_lt c0
  rw [← E1.cell (g := q) _ qlt] at c0 cz
  have hz1 := (E1.block cu (Array.getElem?_eq_some_iff.1 hz).1).trans hz
  have hq1 := (E1.block ch hlt).trans hq
  have hlt1 : ch < w1.heap.size := Nat.lt_of_lt_of_le hlt E1.size
  clear hw1 hq hz
  s_c stepG_seq
  s_c stepG_seq
  s_reg
  s_op
  s_op
  s_op
  s_op
  s_c stepG_region_end
  s_c stepG_seq
  s_reg
  s_stop
  refine LoneTo.step (step_lone_select_default (c := cu) (cap := 64) (s := s0) (r := r0) (tm := false) (z := .agg #[.int .i64 0, .int .i64 0, .int .i64 0, .int .i64 0, .int .i64 0, .slice none 0 0, .int .i64 0, .bool false]) (stepG_comm (cases := #[rcase cu (.agg #[.int .i64 0, .int .i64 0, .int .i64 0, .int .i64 0, .int .i64 0, .slice none 0 0, .int .i64 0, .bool false])]) (blocking := false) (shape := .select) (w' := w1) rfl rfl (by decide) (by simp [go_sem, execOp, rcase, Act.eval])) hz1) ?_
  rw [Frame.finish_at]
  walk_nrm
  refine LoneTo.goes (n := 60) ?_
  s_op
  s_op
  s_c stepG_region_end
  s_c stepG_block
  s_cond false
  s_c stepG_skip
  s_c stepG_inBlock
  s_c stepG_seq
  s_reg
  s_op
  s_op
  s_op
  s_op
  s_c stepG_region_end
  s_c stepG_seq
  s_reg
  s_stop
  refine LoneTo.step (step_lone_select_recv_buf (c := ch) (cap := 64) (closed := false) (s := s) (r := r) (tm := false) (z := .agg #[.int .i64 0, .int .i64 0, .int .i64 0, .int .i64 0, .int .i64 0, .slice none 0 0, .int .i64 0, .bool false]) (stepG_comm (cases := #[rcase ch (.agg #[.int .i64 0, .int .i64 0, .int .i64 0, .int .i64 0, .int .i64 0, .slice none 0 0, .int .i64 0, .bool false])]) (blocking := false) (shape := .select) (w' := w1) rfl rfl (by decide) (by simp [go_sem, execOp, rcase, Act.eval])) hq1 (by simp)) ?_
  rw [Frame.finish_at]
  rw [show ((Value.agg #[.int .i64 id, .int .i64 un, .int .i64 fc, .int .i64 ad, .int .i64 qt, .slice A n c, .int .i64 to, .bool u] :: vs).toArray).extract 1 ((Value.agg #[.int .i64 id, .int .i64 un, .int .i64 fc, .int .i64 ad, .int .i64 qt, .slice A n c, .int .i64 to, .bool u] :: vs).toArray).size = vs.toArray from by simp, show ((Value.agg #[.int .i64 id, .int .i64 un, .int .i64 fc, .int .i64 ad, .int .i64 qt, .slice A n c, .int .i64 to, .bool u] :: vs).toArray).getD 0 undef = Value.agg #[.int .i64 id, .int .i64 un, .int .i64 fc, .int .i64 ad, .int .i64 qt, .slice A n c, .int .i64 to, .bool u] from by simp]
  have M2 : Mod (fun i => i = ch) w (w1.setChan ch 64 vs.toArray false s (r + 1) false) := Mod.setChan (S := fun i => i = ch) (k := ch) (E1.mod _) rfl _ _ _ _ _ _
  have hq2 := heap_setChan w1 ch 64 vs.toArray false s (r + 1) false hlt1
  have hb2 : (w1.setChan ch 64 vs.toArray false s (r + 1) false).heap[w.heap.size]? = some (.cells #[.int .i64 0, .int .i64 0, .int .i64 0, .int .i64 0, .int .i64 0, .slice none 0 0, .int .i64 0, .bool false] 32 (0, 0)) := by
    rw [← hb]; simp only [World.setChan]; rw [Array.getElem?_setIfInBounds_ne (by omega)]
  generalize w1.setChan ch 64 vs.toArray false s (r + 1) false = w2 at *
  have L2 : w.heap.size < w2.heap.size := (Array.getElem?_eq_some_iff.1 hb2).1
  clear c0 cz hz1 E1 hb hq1 hlt1
  walk_nrm
  refine LoneTo.goes (n := 60) ?_
  s_op
  s_op
  s_c stepG_region_end
  s_c stepG_block
  s_cond true
  s_c stepG_seq
  s_reg
  s_op
  s_op
  s_op
  s_c stepG_region_end
  have E3 : Ext w2 (w2.alloc (.cells #[.int .i64 id, .int .i64 un, .int .i64 fc, .int .i64 ad, .int .i64 qt, .slice A n c, .int .i64 to, .bool u] 32)) := (Ext.refl w2).goA _
  have hb3 : (w2.alloc (.cells #[.int .i64 id, .int .i64 un, .int .i64 fc, .int .i64 ad, .int .i64 qt, .slice A n c, .int .i64 to, .bool u] 32)).heap[w2.heap.size]? = some (.cells #[.int .i64 id, .int .i64 un, .int .i64 fc, .int .i64 ad, .int .i64 qt, .slice A n c, .int .i64 to, .bool u] 32 (0, 0)) := heap_alloc_new w2 _
  generalize w2.alloc (.cells #[.int .i64 id, .int .i64 un, .int .i64 fc, .int .i64 ad, .int .i64 qt, .slice A n c, .int .i64 to, .bool u] 32) = w3 at *
  have k0 : w3.cell? ⟨w2.heap.size, 0, none⟩ = some (.int .i64 id) := cellsAt hb3 0
  have k1 : w3.cell? ⟨w2.heap.size, 1, none⟩ = some (.int .i64 un) := cellsAt hb3 1
  have k2 : w3.cell? ⟨w2.heap.size, 2, none⟩ = some (.int .i64 fc) := cellsAt hb3 2
  have k3 : w3.cell? ⟨w2.heap.size, 3, none⟩ = some (.int .i64 ad) := cellsAt hb3 3
  have k4 : w3.cell? ⟨w2.heap.size, 4, none⟩ = some (.int .i64 qt) := cellsAt hb3 4
  have k5 : w3.cell? ⟨w2.heap.size, 5, none⟩ = some (.slice A n c) := cellsAt hb3 5
  have k6 : w3.cell? ⟨w2.heap.size, 6, none⟩ = some (.int .i64 to) := cellsAt hb3 6
  have k7 : w3.cell? ⟨w2.heap.size, 7, none⟩ = some (.bool u) := cellsAt hb3 7
  have z3 := (E3.block w.heap.size L2).trans hb2
  have z0' : w3.cell? ⟨w.heap.size, 0, none⟩ = some (.int .i64 0) := cellsAt z3 0
  have z1' : w3.cell? ⟨w.heap.size, 1, none⟩ = some (.int .i64 0) := cellsAt z3 1
  have z2' : w3.cell? ⟨w.heap.size, 2, none⟩ = some (.int .i64 0) := cellsAt z3 2
  have z3' : w3.cell? ⟨w.heap.size, 3, none⟩ = some (.int .i64 0) := cellsAt z3 3
  have z4' : w3.cell? ⟨w.heap.size, 4, none⟩ = some (.int .i64 0) := cellsAt z3 4
  have z5' : w3.cell? ⟨w.heap.size, 5, none⟩ = some (.slice none 0 0) := cellsAt z3 5
  have z6' : w3.cell? ⟨w.heap.size, 6, none⟩ = some (.int .i64 0) := cellsAt z3 6
  have z7' : w3.cell? ⟨w.heap.size, 7, none⟩ = some (.bool false) := cellsAt z3 7
  have f3 := fun j => (show w3.frozen? ⟨w.heap.size, j, none⟩ = false from by simp [World.frozen?, z3])
  s_c stepG_seq
  s_reg
  s_op
  s_op
  have hb4 := eight_block z3 (.int .i64 id) (.int .i64 un) (.int .i64 fc) (.int .i64 ad) (.int .i64 qt) (.slice A n c) (.int .i64 to) (.bool u)
  have M4 := eight_mod w3 w.heap.size (.int .i64 id) (.int .i64 un) (.int .i64 fc) (.int .i64 ad) (.int .i64 qt) (.slice A n c) (.int .i64 to) (.bool u)
  generalize ((((((((w3.setCell ⟨w.heap.size, 0, none⟩ (.int .i64 id)).setCell ⟨w.heap.size, 1, none⟩ (.int .i64 un)).setCell ⟨w.heap.size, 2, none⟩ (.int .i64 fc)).setCell ⟨w.heap.size, 3, none⟩ (.int .i64 ad)).setCell ⟨w.heap.size, 4, none⟩ (.int .i64 qt)).setCell ⟨w.heap.size, 5, none⟩ (.slice A n c)).setCell ⟨w.heap.size, 6, none⟩ (.int .i64 to)).setCell ⟨w.heap.size, 7, none⟩ (.bool u)) = w4 at *
  have v0 : w4.cell? ⟨w.heap.size, 0, none⟩ = some (.int .i64 id) := cellsAt hb4 0
  have v1 : w4.cell? ⟨w.heap.size, 1, none⟩ = some (.int .i64 un) := cellsAt hb4 1
  have v2 : w4.cell? ⟨w.heap.size, 2, none⟩ = some (.int .i64 fc) := cellsAt hb4 2
  have v3 : w4.cell? ⟨w.heap.size, 3, none⟩ = some (.int .i64 ad) := cellsAt hb4 3
  have v4 : w4.cell? ⟨w.heap.size, 4, none⟩ = some (.int .i64 qt) := cellsAt hb4 4
  have v5 : w4.cell? ⟨w.heap.size, 5, none⟩ = some (.slice A n c) := cellsAt hb4 5
  have v6 : w4.cell? ⟨w.heap.size, 6, none⟩ = some (.int .i64 to) := cellsAt hb4 6
  have v7 : w4.cell? ⟨w.heap.size, 7, none⟩ = some (.bool u) := cellsAt hb4 7
  s_op
  s_c stepG_region_end
  s_c stepG_ret'
  s_stop
  refine LoneTo.done ⟨.returned (.tuple #[.agg #[.int .i64 id, .int .i64 un, .int .i64 fc, .int .i64 ad, .int .i64 qt, .slice A n c, .int .i64 to, .bool u], .bool true]), _, rfl, ⟨rfl, ?_, ?_⟩, rfl, rfl, rfl, rfl, _, Try.func49, by simp [results, Try.f49, Frame.at, go_sem, v0, v1, v2, v3, v4, v5, v6, v7]⟩
  · exact (M2.step (E3.mod (fun _ => False)) (fun _ h => h.elim)).step M4 (fun i hi => .inr (by omega))
  · exact (M4.block ch (Nat.lt_of_lt_of_le (Nat.lt_trans hlt L2) E3.size) (by omega)).trans ((E3.block ch (Nat.lt_trans hlt L2)).trans hq2)
set_option maxRecDepth 100000 in
set_option maxHeartbeats 1600000 in
theorem qTake_none (q cu co : Nat) (s0 r0 s1 r1 : Nat) (w : World)
    (cz : w.cell? ⟨q, 0, none⟩ = some (.chan (some cu))) (hz : w.heap[cu]? = some (.chan 64 #[] false s0 r0 false))
    (c0 : w.cell? ⟨q, 1, none⟩ = some (.chan (some co))) (hq : w.heap[co]? = some (.chan 64 #[] false s1 r1 false)) :
    Calls Try.prog 49 #[.pointer (some ⟨q, 0, none⟩)] w fun e w' => e = .returned (.tuple #[jobZ, .bool false]) ∧ Ext w w' := by
  unfold jobZ jobV
  refine calls_of_loneTo fun cs => ?_
  have e : Frame.enter Try.prog 49 #[.pointer (some ⟨q, 0, none⟩)] .normal = (base 49).at ⟨#[.pointer (some ⟨q, 0, none⟩), undef, undef, undef, undef, undef, undef, undef, undef, undef, undef, undef, undef, undef, undef, undef, undef, undef, undef, undef, undef, undef, undef, undef, undef, undef], []⟩ [.code (Try.f49.body.getD .skip)] := by
    simp [Frame.enter, Frame.at, Try.func49, base, Try.f49]
    try rfl
  rw [e]
  refine LoneTo.goes (n := 60) ?_
  simp only [Try.f49, Option.getD_some]
  s_c stepG_seq
  s_reg
  s_op
  s_op
  s_c stepG_region_end
  have E1 : Ext w (w.alloc (.cells #[.int .i64 0, .int .i64 0, .int .i64 0, .int .i64 0, .int .i64 0, .slice none 0 0, .int .i64 0, .bool false] 32)) := (Ext.refl w).goA _
  have hb : (w.alloc (.cells #[.int .i64 0, .int .i64 0, .int .i64 0, .int .i64 0, .int .i64 0, .slice none 0 0, .int .i64 0, .bool false] 32)).heap[w.heap.size]? = some (.cells #[.int .i64 0, .int .i64 0, .int .i64 0, .int .i64 0, .int .i64 0, .slice none 0 0, .int .i64 0, .bool false] 32 (0, 0)) := heap_alloc_new w _
  generalize hw1 : w.alloc (.cells #[.int .i64 0, .int .i64 0, .int .i64 0, .int .i64 0, .int .i64 0, .slice none 0 0, .int .i64 0, .bool false] 32) = w1 at *
  have qlt : q < w.heap.size := cell_lt c0
  rw [← E1.cell (g := q) _ qlt] at c0 cz
  have hz1 := (E1.block cu (Array.getElem?_eq_some_iff.1 hz).1).trans hz
  have hq1 := (E1.block co (Array.getElem?_eq_some_iff.1 hq).1).trans hq
  clear hw1 hq hz
  s_c stepG_seq
  s_c stepG_seq
  s_reg
  s_op
  s_op
  s_op
  s_op
  s_c stepG_region_end
  s_c stepG_seq
  s_reg
  s_stop
  refine LoneTo.step (step_lone_select_default (c := cu) (cap := 64) (s := s0) (r := r0) (tm := false) (z := .agg #[.int .i64 0, .int .i64 0, .int .i64 0, .int .i64 0, .int .i64 0, .slice none 0 0, .int .i64 0, .bool false]) (stepG_comm (cases := #[rcase cu (.agg #[.int .i64 0, .int .i64 0, .int .i64 0, .int .i64 0, .int .i64 0, .slice none 0 0, .int .i64 0, .bool false])]) (blocking := false) (shape := .select) (w' := w1) rfl rfl (by decide) (by simp [go_sem, execOp, rcase, Act.eval])) hz1) ?_
  rw [Frame.finish_at]
  walk_nrm
  refine LoneTo.goes (n := 60) ?_
  s_op
  s_op
  s_c stepG_region_end
  s_c stepG_block
  s_cond false
  s_c stepG_skip
  s_c stepG_inBlock
  s_c stepG_seq
  s_reg
  s_op
  s_op
  s_op
  s_op
  s_c stepG_region_end
  s_c stepG_seq
  s_reg
  s_stop
  refine LoneTo.step (step_lone_select_default (c := co) (cap := 64) (s := s1) (r := r1) (tm := false) (z := .agg #[.int .i64 0, .int .i64 0, .int .i64 0, .int .i64 0, .int .i64 0, .slice none 0 0, .int .i64 0, .bool false]) (stepG_comm (cases := #[rcase co (.agg #[.int .i64 0, .int .i64 0, .int .i64 0, .int .i64 0, .int .i64 0, .slice none 0 0, .int .i64 0, .bool false])]) (blocking := false) (shape := .select) (w' := w1) rfl rfl (by decide) (by simp [go_sem, execOp, rcase, Act.eval])) hq1) ?_
  rw [Frame.finish_at]
  walk_nrm
  refine LoneTo.goes (n := 60) ?_
  s_op
  s_op
  s_c stepG_region_end
  s_c stepG_block
  s_cond false
  s_c stepG_seq
  s_reg
  s_op
  s_c stepG_region_end
  have E2 : Ext w1 (w1.alloc (.cells #[.int .i64 0, .int .i64 0, .int .i64 0, .int .i64 0, .int .i64 0, .slice none 0 0, .int .i64 0, .bool false] 32)) := (Ext.refl w1).goA _
  have hb3 : (w1.alloc (.cells #[.int .i64 0, .int .i64 0, .int .i64 0, .int .i64 0, .int .i64 0, .slice none 0 0, .int .i64 0, .bool false] 32)).heap[w1.heap.size]? = some (.cells #[.int .i64 0, .int .i64 0, .int .i64 0, .int .i64 0, .int .i64 0, .slice none 0 0, .int .i64 0, .bool false] 32 (0, 0)) := heap_alloc_new w1 _
  generalize w1.alloc (.cells #[.int .i64 0, .int .i64 0, .int .i64 0, .int .i64 0, .int .i64 0, .slice none 0 0, .int .i64 0, .bool false] 32) = w2 at *
  have k0 : w2.cell? ⟨w1.heap.size, 0, none⟩ = some (.int .i64 0) := cellsAt hb3 0
  have k1 : w2.cell? ⟨w1.heap.size, 1, none⟩ = some (.int .i64 0) := cellsAt hb3 1
  have k2 : w2.cell? ⟨w1.heap.size, 2, none⟩ = some (.int .i64 0) := cellsAt hb3 2
  have k3 : w2.cell? ⟨w1.heap.size, 3, none⟩ = some (.int .i64 0) := cellsAt hb3 3
  have k4 : w2.cell? ⟨w1.heap.size, 4, none⟩ = some (.int .i64 0) := cellsAt hb3 4
  have k5 : w2.cell? ⟨w1.heap.size, 5, none⟩ = some (.slice none 0 0) := cellsAt hb3 5
  have k6 : w2.cell? ⟨w1.heap.size, 6, none⟩ = some (.int .i64 0) := cellsAt hb3 6
  have k7 : w2.cell? ⟨w1.heap.size, 7, none⟩ = some (.bool false) := cellsAt hb3 7
  have z3 := (E2.block w.heap.size (Array.getElem?_eq_some_iff.1 hb).1).trans hb
  have z0' : w2.cell? ⟨w.heap.size, 0, none⟩ = some (.int .i64 0) := cellsAt z3 0
  have z1' : w2.cell? ⟨w.heap.size, 1, none⟩ = some (.int .i64 0) := cellsAt z3 1
  have z2' : w2.cell? ⟨w.heap.size, 2, none⟩ = some (.int .i64 0) := cellsAt z3 2
  have z3' : w2.cell? ⟨w.heap.size, 3, none⟩ = some (.int .i64 0) := cellsAt z3 3
  have z4' : w2.cell? ⟨w.heap.size, 4, none⟩ = some (.int .i64 0) := cellsAt z3 4
  have z5' : w2.cell? ⟨w.heap.size, 5, none⟩ = some (.slice none 0 0) := cellsAt z3 5
  have z6' : w2.cell? ⟨w.heap.size, 6, none⟩ = some (.int .i64 0) := cellsAt z3 6
  have z7' : w2.cell? ⟨w.heap.size, 7, none⟩ = some (.bool false) := cellsAt z3 7
  have f3 := fun j => (show w2.frozen? ⟨w.heap.size, j, none⟩ = false from by simp [World.frozen?, z3])
  s_c stepG_seq
  s_reg
  s_op
  s_op
  have hb4 := eight_block z3 (.int .i64 0) (.int .i64 0) (.int .i64 0) (.int .i64 0) (.int .i64 0) (.slice none 0 0) (.int .i64 0) (.bool false)
  have M4 := eight_mod w2 w.heap.size (.int .i64 0) (.int .i64 0) (.int .i64 0) (.int .i64 0) (.int .i64 0) (.slice none 0 0) (.int .i64 0) (.bool false)
  generalize ((((((((w2.setCell ⟨w.heap.size, 0, none⟩ (.int .i64 0)).setCell ⟨w.heap.size, 1, none⟩ (.int .i64 0)).setCell ⟨w.heap.size, 2, none⟩ (.int .i64 0)).setCell ⟨w.heap.size, 3, none⟩ (.int .i64 0)).setCell ⟨w.heap.size, 4, none⟩ (.int .i64 0)).setCell ⟨w.heap.size, 5, none⟩ (.slice none 0 0)).setCell ⟨w.heap.size, 6, none⟩ (.int .i64 0)).setCell ⟨w.heap.size, 7, none⟩ (.bool false)) = w3 at *
  have v0 : w3.cell? ⟨w.heap.size, 0, none⟩ = some (.int .i64 0) := cellsAt hb4 0
  have v1 : w3.cell? ⟨w.heap.size, 1, none⟩ = some (.int .i64 0) := cellsAt hb4 1
  have v2 : w3.cell? ⟨w.heap.size, 2, none⟩ = some (.int .i64 0) := cellsAt hb4 2
  have v3 : w3.cell? ⟨w.heap.size, 3, none⟩ = some (.int .i64 0) := cellsAt hb4 3
  have v4 : w3.cell? ⟨w.heap.size, 4, none⟩ = some (.int .i64 0) := cellsAt hb4 4
  have v5 : w3.cell? ⟨w.heap.size, 5, none⟩ = some (.slice none 0 0) := cellsAt hb4 5
  have v6 : w3.cell? ⟨w.heap.size, 6, none⟩ = some (.int .i64 0) := cellsAt hb4 6
  have v7 : w3.cell? ⟨w.heap.size, 7, none⟩ = some (.bool false) := cellsAt hb4 7
  s_op
  s_c stepG_region_end
  s_c stepG_ret'
  s_stop
  refine LoneTo.done ⟨.returned (.tuple #[.agg #[.int .i64 0, .int .i64 0, .int .i64 0, .int .i64 0, .int .i64 0, .slice none 0 0, .int .i64 0, .bool false], .bool false]), _, rfl, ⟨rfl, ?_⟩, rfl, rfl, rfl, rfl, _, Try.func49, by simp [results, Try.f49, Frame.at, go_sem, v0, v1, v2, v3, v4, v5, v6, v7]⟩
  exact (E1.go E2).goM M4 (fun i hi => by omega)

/-- A job without its place in memory; where its values lie. -/
structure Jp where
  id : Int
  un : Int
  fc : Int
  ad : Int
  qt : Int
  xs : List Int
  to : Int
  u : Bool
structure Jm where
  p : Jp
  A : Option Addr
  n : Nat
  c : Nat
def Jm.v (j : Jm) : Value := jobV j.p.id j.p.un j.p.fc j.p.ad j.p.qt j.A j.n j.c j.p.to j.p.u
/-- What goes next. -/
def takeL {α : Type} : List α → List α → Option (α × List α × List α)
  | j :: U, O => some (j, U, O)
  | [], j :: O => some (j, [], O)
  | [], [] => none
theorem qTake_any (q cu co : Nat) (U O : List Jm) (w : World) (h : Qu w q cu co (U.map Jm.v) (O.map Jm.v)) :
    Calls Try.prog 49 #[.pointer (some ⟨q, 0, none⟩)] w fun e w' =>
      (∃ j U' O', takeL U O = some (j, U', O') ∧ e = .returned (.tuple #[j.v, .bool true]) ∧ Mod (fun i => i = cu ∨ i = co) w w' ∧ Qu w' q cu co (U'.map Jm.v) (O'.map Jm.v)) ∨
      (takeL U O = none ∧ e = .returned (.tuple #[jobZ, .bool false]) ∧ Ext w w') := by
  obtain ⟨s, r, e⟩ := h.urg
  obtain ⟨s', r', e'⟩ := h.oth
  have c1 : w.cell? ⟨q, 1, none⟩ = some (.chan (some co)) := cellsAt h.head 1
  have c0 : w.cell? ⟨q, 0, none⟩ = some (.chan (some cu)) := cellsAt h.head 0
  rcases U with _ | ⟨j, U⟩
  · rcases O with _ | ⟨j, O⟩
    · refine (qTake_none q cu co s r s' r' w c0 e c1 e').mono ?_
      rintro _ w1 ⟨rfl, E⟩
      exact .inr ⟨rfl, rfl, E⟩
    · refine (qTake_other q cu co j.p.u (O.map Jm.v) s' r' s r j.p.id j.p.un j.p.fc j.p.ad j.p.qt j.A j.n j.c j.p.to w c0 e c1 e').mono ?_
      rintro _ w1 ⟨rfl, M, hc⟩
      refine .inl ⟨j, [], O, rfl, rfl, M.weak (fun i hi => .inr hi), ?_, ?_, ?_, h.ne⟩
      · exact (M.block q (h.old (.inl rfl)) (h.qne.2)).trans h.head
      · exact ⟨s, r, (M.block cu (h.old (.inr (.inl rfl))) h.ne).trans e⟩
      · exact ⟨s', r' + 1, hc⟩
  · refine (qTake_urgent q cu j.p.u (U.map Jm.v) s r j.p.id j.p.un j.p.fc j.p.ad j.p.qt j.A j.n j.c j.p.to w c0 e).mono ?_
    rintro _ w1 ⟨rfl, M, hc⟩
    refine .inl ⟨j, U, O, rfl, rfl, M.weak (fun i hi => .inl hi), ?_, ?_, ?_, h.ne⟩
    · exact (M.block q (h.old (.inl rfl)) (h.qne.1)).trans h.head
    · exact ⟨s, r + 1, hc⟩
    · exact ⟨s', r', (M.block co (h.old (.inr (.inr rfl))) (fun hh => h.ne hh.symm)).trans e'⟩
end Go.Proofs.Ytgagpalffdgjnaa
