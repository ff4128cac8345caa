/- Layer 20, the walks: a queue of jobs: New, Many. · Layer 20, the walks: a queue of jobs: Put. -/
import Derived.Test.YtgagpalffdgjnaaG01
import Derived.Conc.LoneSelect
import Derived.Conc.LoneSelectN
import Derived.Deep.RegionLaw
namespace Go.Proofs.Ytgagpalffdgjnaa
open Go.Conc Go.RowKit

theorem bytesJob : ∃ i, Try.prog.info? 32 = some i ∧ i.bytes = 80 := by
  have h : (Try.prog.info? 32).map (·.bytes) = some 80 := by kernel_rfl
  obtain ⟨i, hi, hb⟩ := Option.map_eq_some_iff.1 h
  exact ⟨i, hi, hb⟩
theorem mkCh (w : World) : (Instr.makeChan 158 (.int .i64 64)).run Try.prog w = .ok (.chan (some w.heap.size)) (w.alloc (.chan 64 #[] false 0 0 false)) := by
  obtain ⟨i, hi, hb⟩ := bytesJob
  simpa using run_makeChan (P := Try.prog) (w := w) Try.underlying158 hi .i64 64 (by omega) (by rw [hb]; omega)

/-- A queue lies in block q, its two channels in cu, co, with so much in them. -/
structure Qu (w : World) (q cu co : Nat) (U O : List Value) : Prop where
  head : w.heap[q]? = some (.cells #[.chan (some cu), .chan (some co)] 160 (0, 0))
  urg : ∃ s r, w.heap[cu]? = some (.chan 64 U.toArray false s r false)
  oth : ∃ s r, w.heap[co]? = some (.chan 64 O.toArray false s r false)
  ne : cu ≠ co

theorem Qu.new (w : World) (i j : Nat) (h : i = w.heap.size ∧ j = w.heap.size + 1 ∨ i = w.heap.size + 1 ∧ j = w.heap.size) :
    Qu (((w.alloc (.chan 64 #[] false 0 0 false)).alloc (.chan 64 #[] false 0 0 false)).alloc (.cells #[.chan (some i), .chan (some j)] 160)).drew (w.heap.size + 1 + 1) i j [] [] := by
  have h0 : ∀ o : Obj, (((w.alloc (.chan 64 #[] false 0 0 false)).alloc (.chan 64 #[] false 0 0 false)).alloc o).heap[w.heap.size]? = some (.chan 64 #[] false 0 0 false) := fun o => by
    rw [Below.heap_alloc _ _ _ (by simp; omega), Below.heap_alloc _ _ _ (by simp), heap_alloc_new]
  have h1 : ∀ o : Obj, (((w.alloc (.chan 64 #[] false 0 0 false)).alloc (.chan 64 #[] false 0 0 false)).alloc o).heap[w.heap.size + 1]? = some (.chan 64 #[] false 0 0 false) := fun o => by
    rw [Below.heap_alloc _ _ _ (by simp)]
    have := heap_alloc_new (w.alloc (.chan 64 #[] false 0 0 false)) (.chan 64 #[] false 0 0 false)
    simpa using this
  have h2 : ∀ o : Obj, (((w.alloc (.chan 64 #[] false 0 0 false)).alloc (.chan 64 #[] false 0 0 false)).alloc o).heap[w.heap.size + 1 + 1]? = some o := fun o => by
    have := heap_alloc_new ((w.alloc (.chan 64 #[] false 0 0 false)).alloc (.chan 64 #[] false 0 0 false)) o
    simpa using this
  refine ⟨h2 _, ?_, ?_, by omega⟩
  · rcases h with ⟨rfl, rfl⟩ | ⟨rfl, rfl⟩
    · exact ⟨0, 0, h0 _⟩
    · exact ⟨0, 0, h1 _⟩
  · rcases h with ⟨rfl, rfl⟩ | ⟨rfl, rfl⟩
    · exact ⟨0, 0, h1 _⟩
    · exact ⟨0, 0, h0 _⟩

set_option maxRecDepth 100000 in
set_option maxHeartbeats 800000 in
theorem qNew_any (w : World) :
    Calls Try.prog 43 #[.int .i64 64] w fun e w' => ∃ q cu co, e = .returned (.pointer (some ⟨q, 0, none⟩)) ∧ Qu w' q cu co [] [] ∧ w.heap.size ≤ q ∧ w.heap.size ≤ cu ∧ w.heap.size ≤ co ∧ Ext w w' := by
  have hmc := fun w => (show (Instr.makeChan 158 (.int .i64 (min (max 64 1) 64))).run Try.prog w = _ from mkCh w)
  go_enter Try.func43, Try.ntmps43
  go_wp2_with fail
  go_region
  all_goals go_wp2_with fail
  all_goals go_ret
  all_goals first
    | exact ⟨_, _, _, rfl, Qu.new w _ _ (.inr ⟨rfl, rfl⟩), by omega, by omega, by omega, (((Ext.refl w).goA _).goA _ |>.goA _).god⟩
    | exact ⟨_, _, _, rfl, Qu.new w _ _ (.inl ⟨rfl, rfl⟩), by omega, by omega, by omega, (((Ext.refl w).goA _).goA _ |>.goA _).god⟩

section
variable {w w' : World} {q cu co : Nat} {U O : List Value}
theorem Qu.keep (h : Qu w q cu co U O) (hk : ∀ b, b = q ∨ b = cu ∨ b = co → w'.heap[b]? = w.heap[b]?) : Qu w' q cu co U O :=
  ⟨(hk q (.inl rfl)).trans h.head, let ⟨s, r, e⟩ := h.urg; ⟨s, r, (hk cu (.inr (.inl rfl))).trans e⟩, let ⟨s, r, e⟩ := h.oth; ⟨s, r, (hk co (.inr (.inr rfl))).trans e⟩, h.ne⟩
theorem Qu.old (h : Qu w q cu co U O) {b : Nat} (hb : b = q ∨ b = cu ∨ b = co) : b < w.heap.size := by
  obtain ⟨s, r, e⟩ := h.urg
  obtain ⟨s', r', e'⟩ := h.oth
  rcases hb with rfl | rfl | rfl
  · exact (Array.getElem?_eq_some_iff.1 h.head).1
  · exact (Array.getElem?_eq_some_iff.1 e).1
  · exact (Array.getElem?_eq_some_iff.1 e').1
theorem Qu.ext (h : Qu w q cu co U O) (E : Ext w w') : Qu w' q cu co U O := h.keep fun b hb => E.block b (h.old hb)
theorem Qu.mod {S : Nat → Prop} (h : Qu w q cu co U O) (M : Mod S w w') (hs : ∀ b, b = q ∨ b = cu ∨ b = co → ¬ S b) : Qu w' q cu co U O := h.keep fun b hb => M.block b (h.old hb) (hs b hb)
theorem Qu.qne (h : Qu w q cu co U O) : q ≠ cu ∧ q ≠ co := by
  obtain ⟨s, r, e⟩ := h.urg
  obtain ⟨s', r', e'⟩ := h.oth
  refine ⟨fun hq => ?_, fun hq => ?_⟩
  · rw [← hq, h.head] at e; cases e
  · rw [← hq, h.head] at e'; cases e'
end

set_option maxRecDepth 100000 in
set_option maxHeartbeats 800000 in
theorem qMany_any (q cu co : Nat) (U O : List Value) (w : World) (h : Qu w q cu co U O) :
    Calls Try.prog 53 #[.pointer (some ⟨q, 0, none⟩)] w fun e w' => e = .returned (.tuple #[.int .i64 U.length, .int .i64 O.length]) ∧ Ext w w' := by
  obtain ⟨s, r, e⟩ := h.urg
  obtain ⟨s', r', e'⟩ := h.oth
  have c0 : w.drew.cell? ⟨q, 0, none⟩ = some (.chan (some cu)) := by rw [cell_of_row w.drew q 0 _ _ (0, 0) h.head]; rfl
  have c1 : w.drew.cell? ⟨q, 1, none⟩ = some (.chan (some co)) := by rw [cell_of_row w.drew q 1 _ _ (0, 0) h.head]; rfl
  have hl := fun ty => run_len_chan (P := Try.prog) 158 ty Try.underlying158 (show w.drew.heap[cu]? = _ from e)
  have hl' := fun ty => run_len_chan (P := Try.prog) 158 ty Try.underlying158 (show w.drew.heap[co]? = _ from e')
  clear h e e'
  go_enter Try.func53, Try.ntmps53
  go_wp2_with fail
  go_region
  all_goals go_wp2_with fail
  all_goals go_ret2
  all_goals exact ⟨rfl, (Ext.refl w).god⟩
end Go.Proofs.Ytgagpalffdgjnaa
namespace Go.Proofs.Ytgagpalffdgjnaa
open Go.Conc Go.RowKit

/-- A job as a value. -/
def jobV (id un fc ad qt : Int) (A : Option Addr) (n c : Nat) (to : Int) (u : Bool) : Value :=
  .agg #[.int .i64 id, .int .i64 un, .int .i64 fc, .int .i64 ad, .int .i64 qt, .slice A n c, .int .i64 to, .bool u]
theorem cell_lt {w : World} {b o : Nat} {v : Value} (h : w.cell? ⟨b, o, none⟩ = some v) : b < w.heap.size := by
  rcases Nat.lt_or_ge b w.heap.size with h1 | h1
  · exact h1
  · have h2 : w.heap[b]? = none := by simp; omega
    simp [World.cell?, h2] at h
theorem Mod.setChan {S : Nat → Prop} {a w : World} (h : Mod S a w) {k : Nat} (hk : S k) (cap : Nat) (buf : Array Value) (cl : Bool) (s r : Nat) (tm : Bool) : Mod S a (w.setChan k cap buf cl s r tm) :=
  ⟨h.os, h.tape, h.output, by simpa [World.setChan] using h.size, fun i hi hs => by
    have : i ≠ k := fun e => hs (e ▸ hk)
    rw [← h.block i hi hs]
    simp only [World.setChan]
    rw [Array.getElem?_setIfInBounds_ne (by omega)]⟩

set_option maxRecDepth 100000 in
set_option maxHeartbeats 1600000 in
theorem qPut_room (q ch : Nat) (g u : Bool) (buf : Array Value) (s r : Nat) (id un fc ad qt : Int) (A : Option Addr) (n c : Nat) (to : Int) (w : World)
    (c0 : w.cell? ⟨q, if g then 0 else 1, none⟩ = some (.chan (some ch))) (c1 : ∃ x, w.cell? ⟨q, 1, none⟩ = some (.chan x)) (hq : w.heap[ch]? = some (.chan 64 buf false s r false)) (hs : buf.size < 64) :
    Calls Try.prog 46 #[.pointer (some ⟨q, 0, none⟩), .bool g, jobV id un fc ad qt A n c to u] w fun e w' =>
      e = .returned (.bool true) ∧ Mod (fun i => i = ch) w w' ∧ w'.heap[ch]? = some (.chan 64 (buf.push (jobV id un fc ad qt A n c to u)) false (s + 1) r false) := by
  unfold jobV
  obtain ⟨x, c1⟩ := c1
  have hlt : ch < w.heap.size := (Array.getElem?_eq_some_iff.1 hq).1
  refine calls_of_loneTo fun cs => ?_
  have e : Frame.enter Try.prog 46 #[.pointer (some ⟨q, 0, none⟩), .bool g, .agg #[.int .i64 id, .int .i64 un, .int .i64 fc, .int .i64 ad, .int .i64 qt, .slice A n c, .int .i64 to, .bool u]] .normal = (base 46).at ⟨#[.pointer (some ⟨q, 0, none⟩), .bool g, .agg #[.int .i64 id, .int .i64 un, .int .i64 fc, .int .i64 ad, .int .i64 qt, .slice A n c, .int .i64 to, .bool u], undef, undef, undef, undef, undef, undef, undef, undef, undef, undef, undef, undef, undef, undef, undef, undef, undef, undef, undef], []⟩ [.code (Try.f46.body.getD .skip)] := by
    simp [Frame.enter, Frame.at, Try.func46, base, Try.f46]
  rw [e]
  refine LoneTo.goes (n := 60) ?_
  simp only [Try.f46, Option.getD_some]
  s_c stepG_seq
  s_reg
  s_op
  s_op
  s_c stepG_region_end
  have E1 : Ext w (w.alloc (.cells #[.int .i64 id, .int .i64 un, .int .i64 fc, .int .i64 ad, .int .i64 qt, .slice A n c, .int .i64 to, .bool u] 32)) := (Ext.refl w).goA _
  have hb : (w.alloc (.cells #[.int .i64 id, .int .i64 un, .int .i64 fc, .int .i64 ad, .int .i64 qt, .slice A n c, .int .i64 to, .bool u] 32)).heap[w.heap.size]? = some (.cells #[.int .i64 id, .int .i64 un, .int .i64 fc, .int .i64 ad, .int .i64 qt, .slice A n c, .int .i64 to, .bool u] 32 (0, 0)) := heap_alloc_new w _
  generalize hw1 : w.alloc (.cells #[.int .i64 id, .int .i64 un, .int .i64 fc, .int .i64 ad, .int .i64 qt, .slice A n c, .int .i64 to, .bool u] 32) = w1 at *
  have k0 : w1.cell? ⟨w.heap.size, 0, none⟩ = some (.int .i64 id) := cellsAt hb 0
  have k1 : w1.cell? ⟨w.heap.size, 1, none⟩ = some (.int .i64 un) := cellsAt hb 1
  have k2 : w1.cell? ⟨w.heap.size, 2, none⟩ = some (.int .i64 fc) := cellsAt hb 2
  have k3 : w1.cell? ⟨w.heap.size, 3, none⟩ = some (.int .i64 ad) := cellsAt hb 3
  have k4 : w1.cell? ⟨w.heap.size, 4, none⟩ = some (.int .i64 qt) := cellsAt hb 4
  have k5 : w1.cell? ⟨w.heap.size, 5, none⟩ = some (.slice A n c) := cellsAt hb 5
  have k6 : w1.cell? ⟨w.heap.size, 6, none⟩ = some (.int .i64 to) := cellsAt hb 6
  have k7 : w1.cell? ⟨w.heap.size, 7, none⟩ = some (.bool u) := cellsAt hb 7
  have qlt : q < w.heap.size := cell_lt c1
  rw [← E1.cell (g := q) _ qlt] at c0 c1
  have hq1 : w1.heap[ch]? = some (.chan 64 buf false s r false) := (E1.block ch hlt).trans hq
  clear hw1 hb hq
  s_c stepG_seq
  s_reg
  s_op
  s_op
  s_op
  s_op
  s_op
  s_c stepG_region_end
  s_c stepG_seq
  s_c stepG_seq
  s_reg
  s_op
  s_c stepG_region_end
  cases g
  simp only [Bool.false_eq_true, if_false] at c0
  rw [c0] at c1
  injection c1 with c1; injection c1 with c1; subst c1
  s_cond false
  s_c stepG_skip
  s_c stepG_seq
  s_c stepG_seq
  s_reg
  s_op
  s_c stepG_region_end
  s_reg
  s_op
  s_c stepG_region_end
  s_c stepG_seq
  s_reg
  s_stop
  rotate_left
  simp only [if_true] at c0
  s_cond true
  s_reg
  s_op
  s_op
  s_op
  s_op
  s_op
  s_c stepG_region_end
  s_c stepG_seq
  s_c stepG_seq
  s_reg
  s_op
  s_c stepG_region_end
  s_reg
  s_op
  s_c stepG_region_end
  s_c stepG_seq
  s_reg
  s_stop
  all_goals refine LoneTo.step (step_lone_select_send_room (c := ch) (cap := 64) (buf := buf) (s := s) (r := r) (tm := false) (v := .agg #[.int .i64 id, .int .i64 un, .int .i64 fc, .int .i64 ad, .int .i64 qt, .slice A n c, .int .i64 to, .bool u]) (z' := .agg #[.int .i64 0, .int .i64 0, .int .i64 0, .int .i64 0, .int .i64 0, .slice none 0 0, .int .i64 0, .bool false]) (stepG_comm (cases := #[scase ch (.agg #[.int .i64 id, .int .i64 un, .int .i64 fc, .int .i64 ad, .int .i64 qt, .slice A n c, .int .i64 to, .bool u]) (.agg #[.int .i64 0, .int .i64 0, .int .i64 0, .int .i64 0, .int .i64 0, .slice none 0 0, .int .i64 0, .bool false])]) (blocking := false) (shape := .select) (w' := w1) rfl rfl (by decide) (by simp [go_sem, execOp, scase, Act.eval])) hq1 hs) ?_
  all_goals rw [Frame.finish_at]
  all_goals walk_nrm
  all_goals refine LoneTo.goes (n := 60) ?_
  all_goals s_op
  all_goals s_op
  all_goals s_c stepG_region_end
  all_goals s_c stepG_block
  all_goals s_cond true
  all_goals s_c stepG_seq
  all_goals s_reg
  all_goals s_op
  all_goals s_c stepG_region_end
  all_goals s_c stepG_ret'
  all_goals s_stop
  all_goals refine LoneTo.done ⟨.returned (.bool true), _, rfl, ⟨rfl, ?_, ?_⟩, rfl, rfl, rfl, rfl, _, Try.func46, by simp [results, Try.f46, Frame.at]⟩
  all_goals first
    | exact Mod.setChan (S := fun i => i = ch) (k := ch) (E1.mod _) rfl _ _ _ _ _ _
    | exact heap_setChan _ _ _ _ _ _ _ _ (Nat.lt_of_lt_of_le hlt E1.size)
set_option maxRecDepth 100000 in
set_option maxHeartbeats 1600000 in
theorem qPut_full (q ch : Nat) (g u : Bool) (buf : Array Value) (s r : Nat) (id un fc ad qt : Int) (A : Option Addr) (n c : Nat) (to : Int) (w : World)
    (c0 : w.cell? ⟨q, if g then 0 else 1, none⟩ = some (.chan (some ch))) (c1 : ∃ x, w.cell? ⟨q, 1, none⟩ = some (.chan x)) (hq : w.heap[ch]? = some (.chan 64 buf false s r false)) (hs : 64 ≤ buf.size) :
    Calls Try.prog 46 #[.pointer (some ⟨q, 0, none⟩), .bool g, jobV id un fc ad qt A n c to u] w fun e w' =>
      e = .returned (.bool false) ∧ Ext w w' := by
  unfold jobV
  obtain ⟨x, c1⟩ := c1
  have hlt : ch < w.heap.size := (Array.getElem?_eq_some_iff.1 hq).1
  refine calls_of_loneTo fun cs => ?_
  have e : Frame.enter Try.prog 46 #[.pointer (some ⟨q, 0, none⟩), .bool g, .agg #[.int .i64 id, .int .i64 un, .int .i64 fc, .int .i64 ad, .int .i64 qt, .slice A n c, .int .i64 to, .bool u]] .normal = (base 46).at ⟨#[.pointer (some ⟨q, 0, none⟩), .bool g, .agg #[.int .i64 id, .int .i64 un, .int .i64 fc, .int .i64 ad, .int .i64 qt, .slice A n c, .int .i64 to, .bool u], undef, undef, undef, undef, undef, undef, undef, undef, undef, undef, undef, undef, undef, undef, undef, undef, undef, undef, undef], []⟩ [.code (Try.f46.body.getD .skip)] := by
    simp [Frame.enter, Frame.at, Try.func46, base, Try.f46]
  rw [e]
  refine LoneTo.goes (n := 60) ?_
  simp only [Try.f46, Option.getD_some]
  s_c stepG_seq
  s_reg
  s_op
  s_op
  s_c stepG_region_end
  have E1 : Ext w (w.alloc (.cells #[.int .i64 id, .int .i64 un, .int .i64 fc, .int .i64 ad, .int .i64 qt, .slice A n c, .int .i64 to, .bool u] 32)) := (Ext.refl w).goA _
  have hb : (w.alloc (.cells #[.int .i64 id, .int .i64 un, .int .i64 fc, .int .i64 ad, .int .i64 qt, .slice A n c, .int .i64 to, .bool u] 32)).heap[w.heap.size]? = some (.cells #[.int .i64 id, .int .i64 un, .int .i64 fc, .int .i64 ad, .int .i64 qt, .slice A n c, .int .i64 to, .bool u] 32 (0, 0)) := heap_alloc_new w _
  generalize hw1 : w.alloc (.cells #[.int .i64 id, .int .i64 un, .int .i64 fc, .int .i64 ad, .int .i64 qt, .slice A n c, .int .i64 to, .bool u] 32) = w1 at *
  have k0 : w1.cell? ⟨w.heap.size, 0, none⟩ = some (.int .i64 id) := cellsAt hb 0
  have k1 : w1.cell? ⟨w.heap.size, 1, none⟩ = some (.int .i64 un) := cellsAt hb 1
  have k2 : w1.cell? ⟨w.heap.size, 2, none⟩ = some (.int .i64 fc) := cellsAt hb 2
  have k3 : w1.cell? ⟨w.heap.size, 3, none⟩ = some (.int .i64 ad) := cellsAt hb 3
  have k4 : w1.cell? ⟨w.heap.size, 4, none⟩ = some (.int .i64 qt) := cellsAt hb 4
  have k5 : w1.cell? ⟨w.heap.size, 5, none⟩ = some (.slice A n c) := cellsAt hb 5
  have k6 : w1.cell? ⟨w.heap.size, 6, none⟩ = some (.int .i64 to) := cellsAt hb 6
  have k7 : w1.cell? ⟨w.heap.size, 7, none⟩ = some (.bool u) := cellsAt hb 7
  have qlt : q < w.heap.size := cell_lt c1
  rw [← E1.cell (g := q) _ qlt] at c0 c1
  have hq1 : w1.heap[ch]? = some (.chan 64 buf false s r false) := (E1.block ch hlt).trans hq
  clear hw1 hb hq
  s_c stepG_seq
  s_reg
  s_op
  s_op
  s_op
  s_op
  s_op
  s_c stepG_region_end
  s_c stepG_seq
  s_c stepG_seq
  s_reg
  s_op
  s_c stepG_region_end
  cases g
  simp only [Bool.false_eq_true, if_false] at c0
  rw [c0] at c1
  injection c1 with c1; injection c1 with c1; subst c1
  s_cond false
  s_c stepG_skip
  s_c stepG_seq
  s_c stepG_seq
  s_reg
  s_op
  s_c stepG_region_end
  s_reg
  s_op
  s_c stepG_region_end
  s_c stepG_seq
  s_reg
  s_stop
  rotate_left
  simp only [if_true] at c0
  s_cond true
  s_reg
  s_op
  s_op
  s_op
  s_op
  s_op
  s_c stepG_region_end
  s_c stepG_seq
  s_c stepG_seq
  s_reg
  s_op
  s_c stepG_region_end
  s_reg
  s_op
  s_c stepG_region_end
  s_c stepG_seq
  s_reg
  s_stop
  all_goals refine LoneTo.step (step_lone_select_send_full (c := ch) (cap := 64) (buf := buf) (s := s) (r := r) (tm := false) (v := .agg #[.int .i64 id, .int .i64 un, .int .i64 fc, .int .i64 ad, .int .i64 qt, .slice A n c, .int .i64 to, .bool u]) (z' := .agg #[.int .i64 0, .int .i64 0, .int .i64 0, .int .i64 0, .int .i64 0, .slice none 0 0, .int .i64 0, .bool false]) (stepG_comm (cases := #[scase ch (.agg #[.int .i64 id, .int .i64 un, .int .i64 fc, .int .i64 ad, .int .i64 qt, .slice A n c, .int .i64 to, .bool u]) (.agg #[.int .i64 0, .int .i64 0, .int .i64 0, .int .i64 0, .int .i64 0, .slice none 0 0, .int .i64 0, .bool false])]) (blocking := false) (shape := .select) (w' := w1) rfl rfl (by decide) (by simp [go_sem, execOp, scase, Act.eval])) hq1 hs) ?_
  all_goals rw [Frame.finish_at]
  all_goals walk_nrm
  all_goals refine LoneTo.goes (n := 60) ?_
  all_goals s_op
  all_goals s_op
  all_goals s_c stepG_region_end
  all_goals s_c stepG_block
  all_goals s_cond false
  all_goals s_c stepG_seq
  all_goals s_reg
  all_goals s_op
  all_goals s_c stepG_region_end
  all_goals s_c stepG_ret'
  all_goals s_stop
  all_goals refine LoneTo.done ⟨.returned (.bool false), _, rfl, ⟨rfl, E1⟩, rfl, rfl, rfl, rfl, _, Try.func46, by simp [results, Try.f46, Frame.at]⟩

theorem Mod.size_lt {S : Nat → Prop} {w w' : World} (h : Mod S w w') {b : Nat} (hb : b < w.heap.size) : b < w'.heap.size := Nat.lt_of_lt_of_le hb h.size
/-- Put into a queue. -/
theorem qPut_any (q cu co : Nat) (g u : Bool) (U O : List Value) (id un fc ad qt : Int) (A : Option Addr) (n c : Nat) (to : Int) (w : World) (h : Qu w q cu co U O) :
    Calls Try.prog 46 #[.pointer (some ⟨q, 0, none⟩), .bool g, jobV id un fc ad qt A n c to u] w fun e w' =>
      ∃ b, e = .returned (.bool b) ∧ (((if g then U else O).length < 64 ∧ b = true ∧ Mod (fun i => i = cu ∨ i = co) w w' ∧
        Qu w' q cu co (if g then U ++ [jobV id un fc ad qt A n c to u] else U) (if g then O else O ++ [jobV id un fc ad qt A n c to u])) ∨
      (64 ≤ (if g then U else O).length ∧ b = false ∧ Ext w w')) := by
  obtain ⟨s, r, e⟩ := h.urg
  obtain ⟨s', r', e'⟩ := h.oth
  have c1 : w.cell? ⟨q, 1, none⟩ = some (.chan (some co)) := cellsAt h.head 1
  have c0 : w.cell? ⟨q, 0, none⟩ = some (.chan (some cu)) := cellsAt h.head 0
  cases g
  · simp only [Bool.false_eq_true, if_false]
    rcases Nat.lt_or_ge O.length 64 with hl | hl
    · refine (qPut_room q co false u O.toArray s' r' id un fc ad qt A n c to w c1 ⟨_, c1⟩ e' (by simpa using hl)).mono ?_
      rintro _ w1 ⟨rfl, M, hc⟩
      refine ⟨true, rfl, .inl ⟨hl, rfl, M.weak (fun i hi => .inr hi), ?_, ?_, ?_, h.ne⟩⟩
      · exact (M.block q (h.old (.inl rfl)) (h.qne.2)).trans h.head
      · exact ⟨s, r, (M.block cu (h.old (.inr (.inl rfl))) h.ne).trans e⟩
      · exact ⟨s' + 1, r', hc.trans (by simp)⟩
    · refine (qPut_full q co false u O.toArray s' r' id un fc ad qt A n c to w c1 ⟨_, c1⟩ e' (by simpa using hl)).mono ?_
      rintro _ w1 ⟨rfl, E⟩
      exact ⟨false, rfl, .inr ⟨hl, rfl, E⟩⟩
  · simp only [if_true]
    rcases Nat.lt_or_ge U.length 64 with hl | hl
    · refine (qPut_room q cu true u U.toArray s r id un fc ad qt A n c to w c0 ⟨_, c1⟩ e (by simpa using hl)).mono ?_
      rintro _ w1 ⟨rfl, M, hc⟩
      refine ⟨true, rfl, .inl ⟨hl, rfl, M.weak (fun i hi => .inl hi), ?_, ?_, ?_, h.ne⟩⟩
      · exact (M.block q (h.old (.inl rfl)) (h.qne.1)).trans h.head
      · exact ⟨s + 1, r, hc.trans (by simp)⟩
      · exact ⟨s', r', (M.block co (h.old (.inr (.inr rfl))) (fun hh => h.ne hh.symm)).trans e'⟩
    · refine (qPut_full q cu true u U.toArray s r id un fc ad qt A n c to w c0 ⟨_, c1⟩ e (by simpa using hl)).mono ?_
      rintro _ w1 ⟨rfl, E⟩
      exact ⟨false, rfl, .inr ⟨hl, rfl, E⟩⟩
end Go.Proofs.Ytgagpalffdgjnaa
