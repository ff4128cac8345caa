/- Layer 21, the walks: New, Many, Busy. -/
import Derived.Test.YtgagpalffdgjnaaLineE
namespace Go.Proofs.Ytgagpalffdgjnaa
open Go.RowKit

def lineL0 : Lp := ⟨[], [], false, jpZ, 0, 0, 0, []⟩
def newM : Lm := ⟨[], [], false, jmZ, 0, 0, 0, []⟩
/-- A new line, or none. -/
def LineNewPost (k : Bool) (re wa : Int) (w : World) (e : Ending) (w' : World) : Prop :=
  ∃ a q cu co s, e = .returned (.pointer (some ⟨a, 0, none⟩)) ∧ HasLn k w' a q cu co s re wa newM ∧ Ext w w' ∧ ∀ i, LnB k a q cu co s i → w.heap.size ≤ i
theorem new_has {k : Bool} {w : World} {a q cu co s : Nat} {re wa : Int} (hh : w.heap[a]? = some (.cells (lineCells k s q re wa false jmZ 0 0) 105 (0, 0))) (Q : Qu w q cu co [] [])
    (ht : k = true → w.heap[s]? = some (.cells #[.int .u16 0, .slice none 0 0] 108 (0, 0))) (h : 0 ≤ re ∧ re ≤ 7) (h2 : 1 ≤ wa ∧ wa ≤ 1000) : HasLn k w a q cu co s re wa newM :=
  ⟨hh, Q, fun j hj => by
    rcases hj with hj | hj | ⟨hj, _⟩
    · simp [newM] at hj
    · simp [newM] at hj
    · simp [newM] at hj, fun hk => ⟨none, 0, 0, ht hk, RdI.nil _, fun j => by simp [newM], Nat.le_refl _, by unfold maxLen; omega, fun hn => absurd hn (by omega)⟩, ⟨by show (0 : Int) ≤ 0; omega, by show (0 : Int) ≤ 65535; omega⟩, h, h2, by show (0 : Nat) ≤ 64; omega, by show (0 : Nat) ≤ 64; omega, ⟨by show (0 : Int) ≤ 0; omega, by show (0 : Int) ≤ 8; omega⟩, ⟨by show (0 : Int) ≤ 0; omega, by show (0 : Int) ≤ 1099511627776; omega⟩⟩
section
variable (re wa : Int) (w : World)
set_option maxRecDepth 100000 in
set_option maxHeartbeats 3200000 in
theorem lineNew_no (k : Bool) (h : re < 0 ∨ 7 < re ∨ wa < 1 ∨ 1000 < wa) :
    Calls Try.prog 11 #[.bool k, .int .i64 re, .int .i64 wa] w fun e w' => e = .returned (.pointer none) ∧ Ext w w' := by
  by_cases h1 : re < 0
  · have f1 : decide (re < 0) = true := by simp; omega
    go_enter Try.func11, Try.ntmps11
    go_wp2_with fail
    go_ret
    exact ⟨rfl, Ext.refl w⟩
  have f1 : decide (re < 0) = false := by simp; omega
  by_cases h2 : 7 < re
  · have f2 : decide (7 < re) = true := by simp; omega
    go_enter Try.func11, Try.ntmps11
    go_wp2_with fail
    go_ret
    exact ⟨rfl, Ext.refl w⟩
  have f2 : decide (7 < re) = false := by simp; omega
  by_cases h3 : wa < 1
  · have f3 : decide (wa < 1) = true := by simp; omega
    go_enter Try.func11, Try.ntmps11
    go_wp2_with fail
    go_ret
    exact ⟨rfl, Ext.refl w⟩
  have f3 : decide (wa < 1) = false := by simp; omega
  have f4 : decide (1000 < wa) = true := by simp; omega
  go_enter Try.func11, Try.ntmps11
  go_wp2_with fail
  go_ret
  exact ⟨rfl, Ext.refl w⟩
set_option maxRecDepth 100000 in
set_option maxHeartbeats 3200000 in
theorem lineNew_ser (h : 0 ≤ re ∧ re ≤ 7) (h2 : 1 ≤ wa ∧ wa ≤ 1000) :
    Calls Try.prog 11 #[.bool false, .int .i64 re, .int .i64 wa] w (LineNewPost false re wa w) := by
  have f1 : decide (re < 0) = false := by simp; omega
  have f2 : decide (7 < re) = false := by simp; omega
  have f3 : decide (wa < 1) = false := by simp; omega
  have f4 : decide (1000 < wa) = false := by simp; omega
  have hq := fun w => qNew_any w
  go_enter Try.func11, Try.ntmps11
  go_wp2_with (go_at_call 43; refine (hq _).mono ?_; rintro _ w1 ⟨q, cu, co, rfl, Q1, gq, gu, go, E1⟩; dsimp only)
  go_ret
  have E2 : Ext w1 (w1.alloc (.cells #[.iface 99 (.agg #[]), .int .i64 re, .int .i64 wa, .pointer (some ⟨q, 0, none⟩), .bool false, .int .i64 0, .int .i64 0, .int .i64 0, .int .i64 0, .int .i64 0, .slice none 0 0, .int .i64 0, .bool false, .int .i64 0, .int .i64 0] 105)) := (Ext.refl w1).goA _
  have hh := heap_alloc_new w1 (.cells #[.iface 99 (.agg #[]), .int .i64 re, .int .i64 wa, .pointer (some ⟨q, 0, none⟩), .bool false, .int .i64 0, .int .i64 0, .int .i64 0, .int .i64 0, .int .i64 0, .slice none 0 0, .int .i64 0, .bool false, .int .i64 0, .int .i64 0] 105)
  refine ⟨w1.heap.size, q, cu, co, 0, rfl, new_has hh (Q1.ext E2) (fun h => by cases h) h h2, E1.go E2, fun i hi => ?_⟩
  have := E1.size
  rcases hi with rfl | rfl | rfl | rfl | ⟨h, _⟩
  · omega
  · omega
  · omega
  · omega
  · cases h
set_option maxRecDepth 100000 in
set_option maxHeartbeats 3200000 in
theorem lineNew_str (h : 0 ≤ re ∧ re ≤ 7) (h2 : 1 ≤ wa ∧ wa ≤ 1000) :
    Calls Try.prog 11 #[.bool true, .int .i64 re, .int .i64 wa] w (LineNewPost true re wa w) := by
  have f1 : decide (re < 0) = false := by simp; omega
  have f2 : decide (7 < re) = false := by simp; omega
  have f3 : decide (wa < 1) = false := by simp; omega
  have f4 : decide (1000 < wa) = false := by simp; omega
  have hq := fun w => qNew_any w
  go_enter Try.func11, Try.ntmps11
  go_upto_region 5 with (go_at_call 43; refine (hq _).mono ?_; rintro _ w1 ⟨q, cu, co, rfl, Q1, gq, gu, go, E1⟩; dsimp only)
  have E2 : Ext w1 (w1.alloc (.cells #[.iface 99 (.agg #[]), .int .i64 re, .int .i64 wa, .pointer (some ⟨q, 0, none⟩), .bool false, .int .i64 0, .int .i64 0, .int .i64 0, .int .i64 0, .int .i64 0, .slice none 0 0, .int .i64 0, .bool false, .int .i64 0, .int .i64 0] 105)) := (Ext.refl w1).goA _
  have hh := heap_alloc_new w1 (.cells #[.iface 99 (.agg #[]), .int .i64 re, .int .i64 wa, .pointer (some ⟨q, 0, none⟩), .bool false, .int .i64 0, .int .i64 0, .int .i64 0, .int .i64 0, .int .i64 0, .slice none 0 0, .int .i64 0, .bool false, .int .i64 0, .int .i64 0] 105)
  have c0 := cellsAt hh 0
  have ff := frozen_block hh 0
  have hh' := Lib.hid hh
  have ha : w1.heap.size < (w1.alloc (.cells #[.iface 99 (.agg #[]), .int .i64 re, .int .i64 wa, .pointer (some ⟨q, 0, none⟩), .bool false, .int .i64 0, .int .i64 0, .int .i64 0, .int .i64 0, .int .i64 0, .slice none 0 0, .int .i64 0, .bool false, .int .i64 0, .int .i64 0] 105)).heap.size := by simp
  clear hh
  generalize w1.alloc (.cells #[.iface 99 (.agg #[]), .int .i64 re, .int .i64 wa, .pointer (some ⟨q, 0, none⟩), .bool false, .int .i64 0, .int .i64 0, .int .i64 0, .int .i64 0, .int .i64 0, .slice none 0 0, .int .i64 0, .bool false, .int .i64 0, .int .i64 0] 105) = w2 at *
  go_wp2_with fail
  go_ret
  have hs := sets_block hh'.out 0 (.iface 106 (.pointer (some ⟨w2.heap.size, 0, none⟩)))
  have hsz : (w2.setCell ⟨w1.heap.size, 0, none⟩ (.iface 106 (.pointer (some ⟨w2.heap.size, 0, none⟩)))).heap.size = w2.heap.size := by simp [World.setCell]
  have m3 : Mod (fun i => i = w1.heap.size) w2 (w2.setCell ⟨w1.heap.size, 0, none⟩ (.iface 106 (.pointer (some ⟨w2.heap.size, 0, none⟩)))) := (Mod.refl (fun i => i = w1.heap.size) w2).setCell (.inl rfl) _
  generalize w2.setCell ⟨w1.heap.size, 0, none⟩ (.iface 106 (.pointer (some ⟨w2.heap.size, 0, none⟩))) = w3 at *
  have E4 : Ext w3 (w3.alloc (.cells #[.int .u16 0, .slice none 0 0] 108)) := (Ext.refl w3).goA _
  have hb := heap_alloc_new w3 (.cells #[.int .u16 0, .slice none 0 0] 108)
  rw [hsz] at hb
  have Q3 := (Q1.ext E2).mod m3 (fun b hb => by have := Q1.old hb; omega)
  refine ⟨w1.heap.size, q, cu, co, w2.heap.size, rfl, new_has ((E4.block _ (lt_of_block hs)).trans hs) (Q3.ext E4) (fun _ => hb) h h2, ?_, fun i hi => ?_⟩
  · exact ((E1.go E2).goM m3 (fun i hi => by have := E1.size; omega)).go E4
  · have := E1.size
    have := E2.size
    rcases hi with rfl | rfl | rfl | rfl | ⟨_, rfl⟩ <;> omega
theorem lineNew_any (k : Bool) (h : 0 ≤ re ∧ re ≤ 7) (h2 : 1 ≤ wa ∧ wa ≤ 1000) : Calls Try.prog 11 #[.bool k, .int .i64 re, .int .i64 wa] w (LineNewPost k re wa w) := by
  cases k
  · exact lineNew_ser re wa w h h2
  · exact lineNew_str re wa w h h2
end
section
variable (k : Bool) (a q cu co s : Nat) (re wa : Int) (M : Lm) (w : World)
set_option maxRecDepth 100000 in
set_option maxHeartbeats 3200000 in
theorem lineMany_any (h : HasLn k w a q cu co s re wa M) :
    Calls Try.prog 21 #[.pointer (some ⟨a, 0, none⟩)] w fun e w' => e = .returned (.tuple #[.int .i64 M.U.length, .int .i64 M.O.length]) ∧ Ext w w' := by
  have h' := Lib.hid h
  obtain ⟨_, _, _, c3, _⟩ := h.cells
  have hq := qMany_any q cu co (M.U.map Jm.v) (M.O.map Jm.v) w h.qu
  simp only [List.length_map] at hq
  clear h
  go_enter Try.func21, Try.ntmps21
  go_wp2_with (go_at_call 53; refine hq.mono ?_; rintro _ w1 ⟨rfl, E1⟩; dsimp only)
  go_ret2
  exact ⟨rfl, E1⟩
/-- The job that it is busy with. -/
def BusyPost (M : Lm) (w : World) (e : Ending) (w' : World) : Prop :=
  Ext w w' ∧ ((M.busy = true ∧ ∃ A n c, e = .returned (.tuple #[jobV M.J.p.id M.J.p.un M.J.p.fc M.J.p.ad M.J.p.qt A n c M.J.p.to M.J.p.u, .bool true]) ∧ n ≤ c ∧ c ≤ maxLen ∧ RdI w' w'.heap.size .u16 A n M.J.p.xs ∧ ∀ b o, A = some ⟨b, o, none⟩ → w.heap.size ≤ b) ∨
    (M.busy = false ∧ e = .returned (.tuple #[jobZ, .bool false])))
set_option maxRecDepth 100000 in
set_option maxHeartbeats 3200000 in
theorem lineBusy_no (h : HasLn k w a q cu co s re wa M) (hb : M.busy = false) :
    Calls Try.prog 15 #[.pointer (some ⟨a, 0, none⟩)] w (BusyPost M w) := by
  have E1 : Ext w (w.alloc (.cells #[.int .i64 0, .int .i64 0, .int .i64 0, .int .i64 0, .int .i64 0, .slice none 0 0, .int .i64 0, .bool false] 32)) := (Ext.refl w).goA _
  have b0 := heap_alloc_new w (.cells #[.int .i64 0, .int .i64 0, .int .i64 0, .int .i64 0, .int .i64 0, .slice none 0 0, .int .i64 0, .bool false] 32)
  obtain ⟨_, _, _, _, c4, _⟩ := (h.ext E1).cells
  rw [hb] at c4
  have b0' := Lib.hid b0
  clear b0 h
  go_enter Try.func15, Try.ntmps15
  go_wp2_with fail
  have z0 : (w.alloc (.cells #[.int .i64 0, .int .i64 0, .int .i64 0, .int .i64 0, .int .i64 0, .slice none 0 0, .int .i64 0, .bool false] 32)).cell? ⟨w.heap.size, 0, none⟩ = some (.int .i64 0) := cellsAt b0'.out 0
  have z1 : (w.alloc (.cells #[.int .i64 0, .int .i64 0, .int .i64 0, .int .i64 0, .int .i64 0, .slice none 0 0, .int .i64 0, .bool false] 32)).cell? ⟨w.heap.size, 1, none⟩ = some (.int .i64 0) := cellsAt b0'.out 1
  have z2 : (w.alloc (.cells #[.int .i64 0, .int .i64 0, .int .i64 0, .int .i64 0, .int .i64 0, .slice none 0 0, .int .i64 0, .bool false] 32)).cell? ⟨w.heap.size, 2, none⟩ = some (.int .i64 0) := cellsAt b0'.out 2
  have z3 : (w.alloc (.cells #[.int .i64 0, .int .i64 0, .int .i64 0, .int .i64 0, .int .i64 0, .slice none 0 0, .int .i64 0, .bool false] 32)).cell? ⟨w.heap.size, 3, none⟩ = some (.int .i64 0) := cellsAt b0'.out 3
  have z4 : (w.alloc (.cells #[.int .i64 0, .int .i64 0, .int .i64 0, .int .i64 0, .int .i64 0, .slice none 0 0, .int .i64 0, .bool false] 32)).cell? ⟨w.heap.size, 4, none⟩ = some (.int .i64 0) := cellsAt b0'.out 4
  have z5 : (w.alloc (.cells #[.int .i64 0, .int .i64 0, .int .i64 0, .int .i64 0, .int .i64 0, .slice none 0 0, .int .i64 0, .bool false] 32)).cell? ⟨w.heap.size, 5, none⟩ = some (.slice none 0 0) := cellsAt b0'.out 5
  have z6 : (w.alloc (.cells #[.int .i64 0, .int .i64 0, .int .i64 0, .int .i64 0, .int .i64 0, .slice none 0 0, .int .i64 0, .bool false] 32)).cell? ⟨w.heap.size, 6, none⟩ = some (.int .i64 0) := cellsAt b0'.out 6
  have z7 : (w.alloc (.cells #[.int .i64 0, .int .i64 0, .int .i64 0, .int .i64 0, .int .i64 0, .slice none 0 0, .int .i64 0, .bool false] 32)).cell? ⟨w.heap.size, 7, none⟩ = some (.bool false) := cellsAt b0'.out 7
  refine bodyPost_ret (v := .tuple #[jobZ, .bool false]) (by simp [results, Try.results15, go_sem, jobZ, jobV, z0, z1, z2, z3, z4, z5, z6, z7]) rfl ?_
  exact ⟨E1, .inr ⟨hb, rfl⟩⟩
set_option maxRecDepth 100000 in
set_option maxHeartbeats 3200000 in
theorem lineBusy_yes (h : HasLn k w a q cu co s re wa M) (hb : M.busy = true) :
    Calls Try.prog 15 #[.pointer (some ⟨a, 0, none⟩)] w (BusyPost M w) := by
  have E1 : Ext w (w.alloc (.cells #[.int .i64 0, .int .i64 0, .int .i64 0, .int .i64 0, .int .i64 0, .slice none 0 0, .int .i64 0, .bool false] 32)) := (Ext.refl w).goA _
  have b0 := heap_alloc_new w (.cells #[.int .i64 0, .int .i64 0, .int .i64 0, .int .i64 0, .int .i64 0, .slice none 0 0, .int .i64 0, .bool false] 32)
  have h1 := Lib.hid (h.ext E1)
  obtain ⟨_, _, _, _, c4, c5, c6, c7, c8, c9, c10, c11, c12, _, _⟩ := h1.out.cells
  rw [hb] at c4
  have hO := Lib.hid (h.jobs M.J (.inr (.inr ⟨hb, rfl⟩)))
  have b0' := Lib.hid b0
  clear b0 h
  go_enter Try.func15, Try.ntmps15
  go_upto_region 4 with fail
  have E2 : Ext w ((w.alloc (.cells #[.int .i64 0, .int .i64 0, .int .i64 0, .int .i64 0, .int .i64 0, .slice none 0 0, .int .i64 0, .bool false] 32)).alloc (.cells #[.int .i64 M.J.p.id, .int .i64 M.J.p.un, .int .i64 M.J.p.fc, .int .i64 M.J.p.ad, .int .i64 M.J.p.qt, .slice M.J.A M.J.n M.J.c, .int .i64 M.J.p.to, .bool M.J.p.u] 32)) := E1.goA _
  have r0 : ((w.alloc (.cells #[.int .i64 0, .int .i64 0, .int .i64 0, .int .i64 0, .int .i64 0, .slice none 0 0, .int .i64 0, .bool false] 32)).alloc (.cells #[.int .i64 M.J.p.id, .int .i64 M.J.p.un, .int .i64 M.J.p.fc, .int .i64 M.J.p.ad, .int .i64 M.J.p.qt, .slice M.J.A M.J.n M.J.c, .int .i64 M.J.p.to, .bool M.J.p.u] 32)).heap[w.heap.size]? = some (.cells #[.int .i64 0, .int .i64 0, .int .i64 0, .int .i64 0, .int .i64 0, .slice none 0 0, .int .i64 0, .bool false] 32 (0, 0)) := by rw [alloc_get, if_neg (by simp), alloc_get, if_pos rfl]
  have r1 : ((w.alloc (.cells #[.int .i64 0, .int .i64 0, .int .i64 0, .int .i64 0, .int .i64 0, .slice none 0 0, .int .i64 0, .bool false] 32)).alloc (.cells #[.int .i64 M.J.p.id, .int .i64 M.J.p.un, .int .i64 M.J.p.fc, .int .i64 M.J.p.ad, .int .i64 M.J.p.qt, .slice M.J.A M.J.n M.J.c, .int .i64 M.J.p.to, .bool M.J.p.u] 32)).heap[w.heap.size + 1]? = some (.cells #[.int .i64 M.J.p.id, .int .i64 M.J.p.un, .int .i64 M.J.p.fc, .int .i64 M.J.p.ad, .int .i64 M.J.p.qt, .slice M.J.A M.J.n M.J.c, .int .i64 M.J.p.to, .bool M.J.p.u] 32 (0, 0)) := by rw [alloc_get, if_pos (by simp)]
  have hO2 := hO.out.1.ext E2
  clear b0'
  generalize (w.alloc (.cells #[.int .i64 0, .int .i64 0, .int .i64 0, .int .i64 0, .int .i64 0, .slice none 0 0, .int .i64 0, .bool false] 32)).alloc (.cells #[.int .i64 M.J.p.id, .int .i64 M.J.p.un, .int .i64 M.J.p.fc, .int .i64 M.J.p.ad, .int .i64 M.J.p.qt, .slice M.J.A M.J.n M.J.c, .int .i64 M.J.p.to, .bool M.J.p.u] 32) = w2 at *
  have hcl := clone16_any M.J.A M.J.n M.J.c M.J.p.xs w2 hO2.rd (by have := right_len hO.out.2.2.2.1; have := hO2.rd.len; omega)
  have k5 : w2.cell? ⟨w.heap.size + 1, 5, none⟩ = some (.slice M.J.A M.J.n M.J.c) := cellsAt r1 5
  have r0' := Lib.hid r0
  have r1' := Lib.hid r1
  have h0lt := lt_of_block r0
  have h1lt := lt_of_block r1
  clear c4 c5 c6 c7 c8 c9 c10 c11 c12 r0 r1 hO2
  go_upto_region 5 with (go_at_call 45; refine hcl.mono ?_; rintro _ w3 ⟨A2, n2, c2, rfl, g1, g2, r2, E3, fr2⟩; have k35 : w3.cell? ⟨w.heap.size + 1, 5, none⟩ = some (.slice M.J.A M.J.n M.J.c) := (E3.cell 5 h1lt).trans k5; have f35 : w3.frozen? ⟨w.heap.size + 1, 5, none⟩ = false := frozen_block ((E3.block _ h1lt).trans r1'.out) 5; dsimp only)
  have r13 := sets_block ((E3.block _ h1lt).trans r1'.out) 5 (.slice A2 n2 c2)
  have m4 : Mod (fun i => i = w.heap.size + 1) w3 (w3.setCell ⟨w.heap.size + 1, 5, none⟩ (.slice A2 n2 c2)) := (Mod.refl (fun i => i = w.heap.size + 1) w3).setCell (.inl rfl) _
  have r03 := (m4.block w.heap.size (Nat.lt_of_lt_of_le h0lt E3.size) (by omega)).trans ((E3.block _ h0lt).trans r0'.out)
  have rd4 := r2.modS (fun hn b o e => by have := fr2 b o e; omega) m4
  generalize w3.setCell ⟨w.heap.size + 1, 5, none⟩ (.slice A2 n2 c2) = w4 at *
  have z0 : w4.cell? ⟨w.heap.size, 0, none⟩ = some (.int .i64 0) := cellsAt r03 0
  have z1 : w4.cell? ⟨w.heap.size, 1, none⟩ = some (.int .i64 0) := cellsAt r03 1
  have z2 : w4.cell? ⟨w.heap.size, 2, none⟩ = some (.int .i64 0) := cellsAt r03 2
  have z3 : w4.cell? ⟨w.heap.size, 3, none⟩ = some (.int .i64 0) := cellsAt r03 3
  have z4 : w4.cell? ⟨w.heap.size, 4, none⟩ = some (.int .i64 0) := cellsAt r03 4
  have z5 : w4.cell? ⟨w.heap.size, 5, none⟩ = some (.slice none 0 0) := cellsAt r03 5
  have z6 : w4.cell? ⟨w.heap.size, 6, none⟩ = some (.int .i64 0) := cellsAt r03 6
  have z7 : w4.cell? ⟨w.heap.size, 7, none⟩ = some (.bool false) := cellsAt r03 7
  have q0 : w4.cell? ⟨w.heap.size + 1, 0, none⟩ = some (.int .i64 M.J.p.id) := cellsAt r13 0
  have q1 : w4.cell? ⟨w.heap.size + 1, 1, none⟩ = some (.int .i64 M.J.p.un) := cellsAt r13 1
  have q2 : w4.cell? ⟨w.heap.size + 1, 2, none⟩ = some (.int .i64 M.J.p.fc) := cellsAt r13 2
  have q3 : w4.cell? ⟨w.heap.size + 1, 3, none⟩ = some (.int .i64 M.J.p.ad) := cellsAt r13 3
  have q4 : w4.cell? ⟨w.heap.size + 1, 4, none⟩ = some (.int .i64 M.J.p.qt) := cellsAt r13 4
  have q5 : w4.cell? ⟨w.heap.size + 1, 5, none⟩ = some (.slice A2 n2 c2) := cellsAt r13 5
  have q6 : w4.cell? ⟨w.heap.size + 1, 6, none⟩ = some (.int .i64 M.J.p.to) := cellsAt r13 6
  have q7 : w4.cell? ⟨w.heap.size + 1, 7, none⟩ = some (.bool M.J.p.u) := cellsAt r13 7
  have fz := fun j => frozen_block r03 j
  have p5 := eight_block r03 (.int .i64 M.J.p.id) (.int .i64 M.J.p.un) (.int .i64 M.J.p.fc) (.int .i64 M.J.p.ad) (.int .i64 M.J.p.qt) (.slice A2 n2 c2) (.int .i64 M.J.p.to) (.bool M.J.p.u)
  have m5 := eight_mod w4 w.heap.size (.int .i64 M.J.p.id) (.int .i64 M.J.p.un) (.int .i64 M.J.p.fc) (.int .i64 M.J.p.ad) (.int .i64 M.J.p.qt) (.slice A2 n2 c2) (.int .i64 M.J.p.to) (.bool M.J.p.u)
  have r03' := Lib.hid r03
  have rd4' := Lib.hid rd4
  clear k35 f35 k5 hcl r13 r03
  go_wp2_with fail
  have E4 : Ext w w4 := (E2.go E3).goM m4 (fun i hi => by omega)
  have rd5 := rd4'.out.modS (fun hn b o e => by have := fr2 b o e; omega) m5
  generalize ((((((((w4).setCell ⟨w.heap.size, 0, none⟩ (.int .i64 M.J.p.id)).setCell ⟨w.heap.size, 1, none⟩ (.int .i64 M.J.p.un)).setCell ⟨w.heap.size, 2, none⟩ (.int .i64 M.J.p.fc)).setCell ⟨w.heap.size, 3, none⟩ (.int .i64 M.J.p.ad)).setCell ⟨w.heap.size, 4, none⟩ (.int .i64 M.J.p.qt)).setCell ⟨w.heap.size, 5, none⟩ (.slice A2 n2 c2)).setCell ⟨w.heap.size, 6, none⟩ (.int .i64 M.J.p.to)).setCell ⟨w.heap.size, 7, none⟩ (.bool M.J.p.u) = w5 at *
  have v0 : w5.cell? ⟨w.heap.size, 0, none⟩ = some (.int .i64 M.J.p.id) := cellsAt p5 0
  have v1 : w5.cell? ⟨w.heap.size, 1, none⟩ = some (.int .i64 M.J.p.un) := cellsAt p5 1
  have v2 : w5.cell? ⟨w.heap.size, 2, none⟩ = some (.int .i64 M.J.p.fc) := cellsAt p5 2
  have v3 : w5.cell? ⟨w.heap.size, 3, none⟩ = some (.int .i64 M.J.p.ad) := cellsAt p5 3
  have v4 : w5.cell? ⟨w.heap.size, 4, none⟩ = some (.int .i64 M.J.p.qt) := cellsAt p5 4
  have v5 : w5.cell? ⟨w.heap.size, 5, none⟩ = some (.slice A2 n2 c2) := cellsAt p5 5
  have v6 : w5.cell? ⟨w.heap.size, 6, none⟩ = some (.int .i64 M.J.p.to) := cellsAt p5 6
  have v7 : w5.cell? ⟨w.heap.size, 7, none⟩ = some (.bool M.J.p.u) := cellsAt p5 7
  refine bodyPost_ret (v := .tuple #[jobV M.J.p.id M.J.p.un M.J.p.fc M.J.p.ad M.J.p.qt A2 n2 c2 M.J.p.to M.J.p.u, .bool true]) (by simp [results, Try.results15, go_sem, jobV, v0, v1, v2, v3, v4, v5, v6, v7]) rfl ?_
  exact ⟨E4.goM m5 (fun i hi => by omega), .inl ⟨hb, A2, n2, c2, rfl, g1, g2, rd5, fun b o e => by have := fr2 b o e; have := E2.size; omega⟩⟩
theorem lineBusy_any (h : HasLn k w a q cu co s re wa M) :
    Calls Try.prog 15 #[.pointer (some ⟨a, 0, none⟩)] w (BusyPost M w) := by
  cases hb : M.busy
  · exact lineBusy_no k a q cu co s re wa M w h hb
  · exact lineBusy_yes k a q cu co s re wa M w h hb
end
end Go.Proofs.Ytgagpalffdgjnaa
