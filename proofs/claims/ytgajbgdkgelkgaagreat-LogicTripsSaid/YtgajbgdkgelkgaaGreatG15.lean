/- Layer 17, the laws' helpers: notes, latches, states alike or not; is a note one of some, once. Printed by gen/same17.py. · Layer 17: how much calls are; one of the calls. -/
import Derived.Test.YtgajbgdkgelkgaaGreatCoN
import Derived.Test.YtgajbgdkgelkgaaGreatG13
import Derived.Test.YtgajbgdkgelkgaaGreatG14
import Derived.Deep.DeepCutAuto
namespace Go.Proofs.YtgajbgdkgelkgaaGreat
open Go.RowKit

theorem eqG_note : Tryz.prog.eqGuardType Tryz.prog.depth 43 = false := by kernel_rfl
theorem eqI_note (a b : Nt) (w : World) : (Op.equalIn 10000 43 (.agg #[.int .i64 a.1, .int .i64 a.2.1, .int .i64 a.2.2]) (.agg #[.int .i64 b.1, .int .i64 b.2.1, .int .i64 b.2.2])).run Tryz.prog w = .ok (a == b) w := by
  have hS : Tryz.prog.underlying 43 = some (.struct (Tryz.prog.fieldsOf 43)) := by kernel_rfl
  have hp : Tryz.prog.stoodInHeld 43 = false := by kernel_rfl
  rw [show (10000 : Nat) = 9999 + 1 from rfl, run_equalIn_agg w 9999 43 _ _ hS hp]
  simp only [Program.fieldsOf, Tryz.underlying43]
  have uint := Tryz.underlying3
  have uint64 := Tryz.underlying2
  go_simp
  obtain ⟨a1, a2, a3⟩ := a
  obtain ⟨b1, b2, b3⟩ := b
  by_cases h1 : a1 = b1 <;> by_cases h2 : a2 = b2 <;> by_cases h3 : a3 = b3 <;> simp [h1, h2, h3]
theorem eqG_latch : Tryz.prog.eqGuardType Tryz.prog.depth 56 = false := by kernel_rfl
theorem eqI_latch (a b : Lt) (w : World) : (Op.equalIn 10000 56 (.agg #[.bool a.1, .int .i64 a.2.1, .bool a.2.2]) (.agg #[.bool b.1, .int .i64 b.2.1, .bool b.2.2])).run Tryz.prog w = .ok (a == b) w := by
  have hS : Tryz.prog.underlying 56 = some (.struct (Tryz.prog.fieldsOf 56)) := by kernel_rfl
  have hp : Tryz.prog.stoodInHeld 56 = false := by kernel_rfl
  rw [show (10000 : Nat) = 9999 + 1 from rfl, run_equalIn_agg w 9999 56 _ _ hS hp]
  simp only [Program.fieldsOf, Tryz.underlying56]
  have ubool := Tryz.underlying4
  have uint64 := Tryz.underlying2
  go_simp
  obtain ⟨a1, a2, a3⟩ := a
  obtain ⟨b1, b2, b3⟩ := b
  by_cases h1 : a1 = b1 <;> by_cases h2 : a2 = b2 <;> by_cases h3 : a3 = b3 <;> simp [h1, h2, h3]
set_option maxRecDepth 100000 in
set_option maxHeartbeats 1600000 in
theorem sameNotes_any (A1 A2 : Option Addr) (n1 c1 n2 c2 B : Nat) (xs ys : List Nt) (w : World) (h1 : RdC ntCells 3 w B A1 n1 xs) (h2 : RdC ntCells 3 w B A2 n2 ys) (hn1 : n1 ≤ maxLen) (hn2 : n2 ≤ maxLen) :
    Calls Tryz.prog 23 #[.slice A1 n1 c1, .slice A2 n2 c2] w fun e w' => e = .returned (.bool (decide (xs = ys))) ∧ ∃ m, w.drewN m = w' := by
  unfold maxLen at hn1 hn2
  have l1 := Lib.hid h1.len
  have l2 := Lib.hid h2.len
  by_cases hl : n1 = n2
  · subst hl
    have h1' := Lib.hid h1
    have h2' := Lib.hid h2
    go_enter Tryz.func23, Tryz.ntmps23
    go_wp2_with fail
    go_loopw [5] (fun i wr => ∃ k : Nat, k ≤ n1 ∧ i = .int .i64 k ∧ (∀ j, j < k → xs[j]? = ys[j]?) ∧ ∃ m, w.drewN m = wr) (fun i _ => n1 - (intOf i).toNat)
    case atStart => exact ⟨0, by omega, rfl, fun j hj => absurd hj (by omega), 0, rfl⟩
    case round =>
      obtain ⟨k, hk, rfl, he, m, rfl⟩ := hrel
      have he' := Lib.hid he
      clear he
      by_cases hlt : k < n1
      · obtain ⟨x, hx⟩ := h1.get hlt
        obtain ⟨y, hy⟩ := h2.get hlt
        obtain ⟨b1, o1, e1, hb1, hc1⟩ := h1.at_ hx
        obtain ⟨b2, o2, e2, hb2, hc2⟩ := h2.at_ hy
        have p0 : w.cell? ⟨b1, o1 + k * 3, none⟩ = some (.int .i64 x.1) := hc1 0 (by decide)
        have p1 : w.cell? ⟨b1, o1 + k * 3 + 1, none⟩ = some (.int .i64 x.2.1) := hc1 1 (by decide)
        have p2 : w.cell? ⟨b1, o1 + k * 3 + 2, none⟩ = some (.int .i64 x.2.2) := hc1 2 (by decide)
        have q0 : w.cell? ⟨b2, o2 + k * 3, none⟩ = some (.int .i64 y.1) := hc2 0 (by decide)
        have q1 : w.cell? ⟨b2, o2 + k * 3 + 1, none⟩ = some (.int .i64 y.2.1) := hc2 1 (by decide)
        have q2 : w.cell? ⟨b2, o2 + k * 3 + 2, none⟩ = some (.int .i64 y.2.2) := hc2 2 (by decide)
        clear h1 h2
        subst e1 e2
        have e6 : (k : Int) < (n1 : Int) := by omega
        have hx' := Lib.hid hx
        have hy' := Lib.hid hy
        have hq := eqI_note x y
        have hg := eqG_note
        clear hx hy hc1 hc2
        cases hz : (x == y)
        · have hz' := Lib.hid hz
          rw [hz] at hq
          go_wp2_with fail
          go_quiet (fail)
          go_wp2_with fail
          go_ret
          refine ⟨?_, m + nq, by simp⟩
          have h : ¬ xs = ys := by
            rintro rfl
            have := hz'.out
            have h2 : x = y := by have := hx'.out.symm.trans hy'.out; cases this; rfl
            rw [h2] at this
            simp at this
          simp [h]
        · have hz' := Lib.hid hz
          rw [hz] at hq
          go_wp2_with fail
          go_quiet (fail)
          go_wp2_with fail
          go_roundw
          case rel =>
            refine ⟨k + 1, by omega, by go_num, fun j hj => ?_, m + nq, rfl⟩
            rcases Nat.lt_succ_iff_lt_or_eq.1 hj with h | rfl
            · exact he'.out j h
            · have := hz'.out; rw [hx'.out, hy'.out, eq_of_beq this]
          case measure => simp [intOf]; omega
      · obtain rfl : k = n1 := by omega
        have e : xs = ys := by
          apply List.ext_getElem?
          intro j
          by_cases hj : j < k
          · exact he'.out j hj
          · rw [List.getElem?_eq_none (by rw [l1.out]; omega), List.getElem?_eq_none (by rw [l2.out]; omega)]
        have e' := Lib.hid e
        clear e
        go_wp2_with fail
        go_ret
        exact ⟨by simp [e'.out], m, rfl⟩
  · have hne : ¬ xs = ys := by rintro rfl; exact hl (l1.out.symm.trans l2.out)
    have hne' := Lib.hid hne
    clear hne
    go_enter Tryz.func23, Tryz.ntmps23
    go_wp2_with fail
    go_ret
    exact ⟨by simp [hne'.out], 0, rfl⟩
set_option maxRecDepth 100000 in
set_option maxHeartbeats 1600000 in
theorem same14_any (A1 A2 : Option Addr) (n1 c1 n2 c2 B : Nat) (xs ys : List Lt) (w : World) (h1 : RdC ltCells 3 w B A1 n1 xs) (h2 : RdC ltCells 3 w B A2 n2 ys) (hn1 : n1 ≤ maxLen) (hn2 : n2 ≤ maxLen) :
    Calls Tryz.prog 35 #[.slice A1 n1 c1, .slice A2 n2 c2] w fun e w' => e = .returned (.bool (decide (xs = ys))) ∧ ∃ m, w.drewN m = w' := by
  unfold maxLen at hn1 hn2
  have l1 := Lib.hid h1.len
  have l2 := Lib.hid h2.len
  by_cases hl : n1 = n2
  · subst hl
    have h1' := Lib.hid h1
    have h2' := Lib.hid h2
    go_enter Tryz.func35, Tryz.ntmps35
    go_wp2_with fail
    go_loopw [5] (fun i wr => ∃ k : Nat, k ≤ n1 ∧ i = .int .i64 k ∧ (∀ j, j < k → xs[j]? = ys[j]?) ∧ ∃ m, w.drewN m = wr) (fun i _ => n1 - (intOf i).toNat)
    case atStart => exact ⟨0, by omega, rfl, fun j hj => absurd hj (by omega), 0, rfl⟩
    case round =>
      obtain ⟨k, hk, rfl, he, m, rfl⟩ := hrel
      have he' := Lib.hid he
      clear he
      by_cases hlt : k < n1
      · obtain ⟨x, hx⟩ := h1.get hlt
        obtain ⟨y, hy⟩ := h2.get hlt
        obtain ⟨b1, o1, e1, hb1, hc1⟩ := h1.at_ hx
        obtain ⟨b2, o2, e2, hb2, hc2⟩ := h2.at_ hy
        have p0 : w.cell? ⟨b1, o1 + k * 3, none⟩ = some (.bool x.1) := hc1 0 (by decide)
        have p1 : w.cell? ⟨b1, o1 + k * 3 + 1, none⟩ = some (.int .i64 x.2.1) := hc1 1 (by decide)
        have p2 : w.cell? ⟨b1, o1 + k * 3 + 2, none⟩ = some (.bool x.2.2) := hc1 2 (by decide)
        have q0 : w.cell? ⟨b2, o2 + k * 3, none⟩ = some (.bool y.1) := hc2 0 (by decide)
        have q1 : w.cell? ⟨b2, o2 + k * 3 + 1, none⟩ = some (.int .i64 y.2.1) := hc2 1 (by decide)
        have q2 : w.cell? ⟨b2, o2 + k * 3 + 2, none⟩ = some (.bool y.2.2) := hc2 2 (by decide)
        clear h1 h2
        subst e1 e2
        have e6 : (k : Int) < (n1 : Int) := by omega
        have hx' := Lib.hid hx
        have hy' := Lib.hid hy
        have hq := eqI_latch x y
        have hg := eqG_latch
        clear hx hy hc1 hc2
        cases hz : (x == y)
        · have hz' := Lib.hid hz
          rw [hz] at hq
          go_wp2_with fail
          go_quiet (fail)
          go_wp2_with fail
          go_ret
          refine ⟨?_, m + nq, by simp⟩
          have h : ¬ xs = ys := by
            rintro rfl
            have := hz'.out
            have h2 : x = y := by have := hx'.out.symm.trans hy'.out; cases this; rfl
            rw [h2] at this
            simp at this
          simp [h]
        · have hz' := Lib.hid hz
          rw [hz] at hq
          go_wp2_with fail
          go_quiet (fail)
          go_wp2_with fail
          go_roundw
          case rel =>
            refine ⟨k + 1, by omega, by go_num, fun j hj => ?_, m + nq, rfl⟩
            rcases Nat.lt_succ_iff_lt_or_eq.1 hj with h | rfl
            · exact he'.out j h
            · have := hz'.out; rw [hx'.out, hy'.out, eq_of_beq this]
          case measure => simp [intOf]; omega
      · obtain rfl : k = n1 := by omega
        have e : xs = ys := by
          apply List.ext_getElem?
          intro j
          by_cases hj : j < k
          · exact he'.out j hj
          · rw [List.getElem?_eq_none (by rw [l1.out]; omega), List.getElem?_eq_none (by rw [l2.out]; omega)]
        have e' := Lib.hid e
        clear e
        go_wp2_with fail
        go_ret
        exact ⟨by simp [e'.out], m, rfl⟩
  · have hne : ¬ xs = ys := by rintro rfl; exact hl (l1.out.symm.trans l2.out)
    have hne' := Lib.hid hne
    clear hne
    go_enter Tryz.func35, Tryz.ntmps35
    go_wp2_with fail
    go_ret
    exact ⟨by simp [hne'.out], 0, rfl⟩
set_option maxRecDepth 100000 in
set_option maxHeartbeats 3200000 in
theorem sameState_any (b1 b2 : Nat) (v u : Value) (s t : St) (w : World) (h1 : RdSt w b1 v s) (h2 : RdSt w b2 u t) :
    Calls Tryz.prog 17 #[v, u] w fun e w' => e = .returned (.bool (decide (s = t))) ∧ Ext w w' := by
  obtain ⟨A1, n1, c1, A2, n2, c2, A3, n3, c3, rfl, k1, k2, k3, r1, r2, r3, -⟩ := h1
  obtain ⟨B1, m1, d1, B2, m2, d2, B3, m3, d3, rfl, j1, j2, j3, q1, q2, q3, -⟩ := h2
  obtain ⟨s1, s2, s3⟩ := s
  obtain ⟨t1, t2, t3⟩ := t
  dsimp only at r1 r2 r3 q1 q2 q3
  have E0 := ((Ext.refl w).goA (.cells #[.slice A1 n1 c1, .slice A2 n2 c2, .slice A3 n3 c3] 50)).goA (.cells #[.slice B1 m1 d1, .slice B2 m2 d2, .slice B3 m3 d3] 50)
  have r1' := Lib.hid (r1.ext E0)
  have r2' := Lib.hid (r2.ext E0)
  have r3' := Lib.hid (r3.ext E0)
  have q1' := Lib.hid (q1.ext E0)
  have q2' := Lib.hid (q2.ext E0)
  have q3' := Lib.hid (q3.ext E0)
  have E0' := Lib.hid E0
  clear r1 r2 r3 q1 q2 q3 E0
  have hc1 := fun W B (a : RdC ltCells 3 W B A1 n1 s1) (b : RdC ltCells 3 W B B1 m1 t1) => same14_any A1 B1 n1 c1 m1 d1 B s1 t1 W a b (by omega) (by omega)
  have hc2 := fun W B (a : RdC ltCells 3 W B A2 n2 s2) (b : RdC ltCells 3 W B B2 m2 t2) => same14_any A2 B2 n2 c2 m2 d2 B s2 t2 W a b (by omega) (by omega)
  have hc3 := fun W B (a : RdI W B .i64 A3 n3 s3) (b : RdI W B .i64 B3 m3 t3) => same15_any A3 B3 n3 c3 m3 d3 B s3 t3 W a b (by omega) (by omega)
  have hc1 := Lib.hid hc1
  have hc2 := Lib.hid hc2
  have hc3 := Lib.hid hc3
  by_cases e1 : s1 = t1
  · have f1 : decide (s1 = t1) = true := decide_eq_true e1
    have e1' := Lib.hid e1
    clear e1
    by_cases e2 : s2 = t2
    · have f2 : decide (s2 = t2) = true := decide_eq_true e2
      have e2' := Lib.hid e2
      clear e2
      go_enter Tryz.func17, Tryz.ntmps17
      go_wp2_with (first
        | (go_at_call 36; refine (hc3.out _ _ (r3'.out.ext ((Ext.refl _).goD (y1 + y2))) (q3'.out.ext ((Ext.refl _).goD (y1 + y2)))).mono ?_; rintro e W3 ⟨rfl, y3, rfl⟩)
        | (go_at_call 35; refine (hc2.out _ _ (r2'.out.ext ((Ext.refl _).goD y1)) (q2'.out.ext ((Ext.refl _).goD y1))).mono ?_; rintro e W2 ⟨rfl, y2, rfl⟩)
        | (go_at_call 35; refine (hc1.out _ _ r1'.out q1'.out).mono ?_; rintro e W1 ⟨rfl, y1, rfl⟩))
      go_ret
      exact ⟨by simp [e1'.out, e2'.out], E0'.out.goD _⟩
    · have f2 : decide (s2 = t2) = false := decide_eq_false e2
      have e2' := Lib.hid e2
      clear e2
      go_enter Tryz.func17, Tryz.ntmps17
      go_wp2_with (first
        | (go_at_call 35; refine (hc2.out _ _ (r2'.out.ext ((Ext.refl _).goD y1)) (q2'.out.ext ((Ext.refl _).goD y1))).mono ?_; rintro e W2 ⟨rfl, y2, rfl⟩)
        | (go_at_call 35; refine (hc1.out _ _ r1'.out q1'.out).mono ?_; rintro e W1 ⟨rfl, y1, rfl⟩))
      go_ret
      exact ⟨by simp [e2'.out], E0'.out.goD _⟩
  · have f1 : decide (s1 = t1) = false := decide_eq_false e1
    have e1' := Lib.hid e1
    clear e1
    go_enter Tryz.func17, Tryz.ntmps17
    go_wp2_with (go_at_call 35; refine (hc1.out _ _ r1'.out q1'.out).mono ?_; rintro e W1 ⟨rfl, y1, rfl⟩)
    go_ret
    exact ⟨by simp [e1'.out], E0'.out.goD _⟩
theorem cntN_take {x y : Nt} {l : List Nt} {k : Nat} (h : l[k]? = some y) : cntN x (l.take (k + 1)) = cntN x (l.take k) + if (y == x) = true then 1 else 0 := by
  rw [List.take_add_one, h]
  show cntN x (l.take k ++ [y]) = _
  rw [cntN_more]
  by_cases e : y = x <;> simp [e]
theorem cntN_le (x : Nt) (l : List Nt) : cntN x l ≤ l.length := List.countP_le_length
set_option maxRecDepth 100000 in
set_option maxHeartbeats 3200000 in
theorem has17_any (A : Option Addr) (n c : Nat) (l : List Nt) (x : Nt) (w : World) (h : RdC ntCells 3 w w.heap.size A n l) (hn : n ≤ maxLen) :
    Calls Tryz.prog 13 #[.slice A n c, .agg #[.int .i64 x.1, .int .i64 x.2.1, .int .i64 x.2.2]] w fun e w' => e = .returned (.bool (decide (cntN x l = 1))) ∧ Ext w w' := by
  unfold maxLen at hn
  have hl := Lib.hid h.len
  have h' := Lib.hid h
  clear h
  have E0 := (Ext.refl w).goA (.cells #[.int .i64 x.1, .int .i64 x.2.1, .int .i64 x.2.2] 43)
  have B0 := heap_alloc_new w (.cells #[.int .i64 x.1, .int .i64 x.2.1, .int .i64 x.2.2] 43)
  have S0 : (w.alloc (.cells #[.int .i64 x.1, .int .i64 x.2.1, .int .i64 x.2.2] 43)).heap.size = w.heap.size + 1 := by simp
  go_enter Tryz.func13, Tryz.ntmps13
  go_wp2_with fail
  generalize w.alloc (.cells #[.int .i64 x.1, .int .i64 x.2.1, .int .i64 x.2.2] 43) = V at *
  go_loopw [5, 6] (fun a i wr => ∃ k : Nat, k ≤ n ∧ i = .int .i64 k ∧ a = .int .i64 (cntN x (l.take k)) ∧ ∃ m, V.drewN m = wr) (fun _ i _ => n - (intOf i).toNat)
  case atStart => exact ⟨0, by omega, rfl, rfl, 0, rfl⟩
  case round =>
    obtain ⟨k, hk, rfl, rfl, m, rfl⟩ := hrel
    by_cases hlt : k < n
    · obtain ⟨y, hy⟩ := h'.out.get hlt
      obtain ⟨b1, o1, e1, hb1, hc1⟩ := (h'.out.ext E0).at_ hy
      have p0 : V.cell? ⟨b1, o1 + k * 3, none⟩ = some (.int .i64 y.1) := hc1 0 (by decide)
      have p1 : V.cell? ⟨b1, o1 + k * 3 + 1, none⟩ = some (.int .i64 y.2.1) := hc1 1 (by decide)
      have p2 : V.cell? ⟨b1, o1 + k * 3 + 2, none⟩ = some (.int .i64 y.2.2) := hc1 2 (by decide)
      have q0 : V.cell? ⟨w.heap.size, 0, none⟩ = some (.int .i64 x.1) := cellsAt B0 0
      have q1 : V.cell? ⟨w.heap.size, 1, none⟩ = some (.int .i64 x.2.1) := cellsAt B0 1
      have q2 : V.cell? ⟨w.heap.size, 2, none⟩ = some (.int .i64 x.2.2) := cellsAt B0 2
      subst e1
      have e6 : (k : Int) < (n : Int) := by omega
      have hq := eqI_note y x
      have hg := eqG_note
      have hct := Lib.hid (cntN_take (x := x) hy)
      have hcl : cntN x (l.take k) ≤ k := Nat.le_trans (cntN_le _ _) (by rw [List.length_take]; exact Nat.min_le_left _ _)
      clear hy hc1
      generalize cntN x (l.take k) = z at *
      cases hz : (y == x)
      · have hz' := Lib.hid hz
        rw [hz] at hq
        go_wp2_with fail
        go_quiet (fail)
        go_wp2_with fail
        go_roundw
        case rel =>
          refine ⟨k + 1, by omega, by go_num, ?_, m + nq, rfl⟩
          rw [hct.out, hz'.out]; rfl
        case measure => simp [intOf]; omega
      · have hz' := Lib.hid hz
        rw [hz] at hq
        go_wp2_with fail
        go_quiet (fail)
        go_wp2_with fail
        go_roundw
        case rel =>
          refine ⟨k + 1, by omega, by go_num, ?_, m + nq, rfl⟩
          rw [hct.out, hz'.out]; go_num
        case measure => simp [intOf]; omega
    · obtain rfl : k = n := by omega
      rw [List.take_of_length_le (by rw [hl.out]; exact Nat.le_refl _)]
      have hcc : ((cntN x l : Int) == 1) = decide (cntN x l = 1) := by rw [Bool.eq_iff_iff]; simp; omega
      go_wp2_with fail
      go_ret
      exact ⟨by rw [← hcc]; rfl, E0.goD m⟩
end Go.Proofs.YtgajbgdkgelkgaaGreat
namespace Go.Proofs.YtgajbgdkgelkgaaGreat
open Go.RowKit

def GreatPost17 (n : Nat) (w : World) (e : Ending) (w' : World) : Prop := (∃ b, e = .returned (.bool b) ∧ (b = false → n ≤ 150)) ∧ Ext w w'
set_option maxRecDepth 100000 in
set_option maxHeartbeats 6400000 in
theorem great17_any (A : Option Addr) (n c : Nat) (ps : List Op17) (w : World) (hx : RdC Op17.cells 9 w w.heap.size A n ps) (hn : n ≤ maxLen) :
    Calls Tryz.prog 14 #[.slice A n c] w (GreatPost17 n w) := by
  unfold maxLen at hn
  have hx' := Lib.hid hx
  clear hx
  go_enter Tryz.func14, Tryz.ntmps14
  go_wp2_with fail
  go_loopw [3, 4] (fun s i wr => ∃ (k d : Nat) (z : Int), k ≤ n ∧ i = .int .i64 k ∧ s = .int .i64 z ∧ w.drewN d = wr) (fun _ i _ => n - (intOf i).toNat)
  case atStart => exact ⟨0, 0, _, by omega, rfl, rfl, rfl⟩
  case round =>
    obtain ⟨k, d, z, hk, rfl, rfl, rfl⟩ := hrel
    have hd2 : (decide ((k : Int) < (n : Int)) = false ∧ decide (k < n) = false) ∨ (decide ((k : Int) < (n : Int)) = true ∧ decide (k < n) = true) := by by_cases h : k < n <;> simp [h] <;> omega
    have hdd : ∀ b : Bool, decide ((k : Int) < (n : Int)) = b → decide (k < n ∧ z < 9000) = (b && decide (z < 9000)) := fun b hb => by
      subst hb
      by_cases h1 : k < n <;> by_cases h2 : z < 9000 <;> simp [h1, h2] <;> omega
    go_upto_region 3 with fail
    go_cut [14] (fun t wx => t = .bool (decide (k < n ∧ z < 9000)) ∧ w.drewN d = wx)
    case first =>
      rcases hd2 with ⟨e1, e1n⟩ | ⟨e1, e1n⟩
      all_goals
        go_wp2_with fail
        go_meet
        exact ⟨by rw [hdd _ e1]; simp, rfl⟩
    case rest =>
    obtain ⟨rfl, hwc⟩ := hcut
    subst hwc
    clear hd2 hdd
    by_cases hkn : k < n ∧ z < 9000
    · have e0 : decide (k < n ∧ z < 9000) = true := by simpa using hkn
      obtain ⟨hlt, -⟩ := hkn
      have e3 : (k : Int) < (n : Int) := by omega
      obtain ⟨x, hx⟩ := hx'.out.get hlt
      obtain ⟨b1, o1, rfl, hb1, hc1⟩ := hx'.out.at_ hx
      have p1 : w.cell? ⟨b1, o1 + k * 9 + 1, none⟩ = some (.slice x.A x.n x.c) := hc1 1 (by decide)
      have p5 : w.cell? ⟨b1, o1 + k * 9 + 5, none⟩ = some (.string x.key) := hc1 5 (by decide)
      have p6 : w.cell? ⟨b1, o1 + k * 9 + 6, none⟩ = some (.slice x.A1 x.n1 x.c1) := hc1 6 (by decide)
      have p7 : w.cell? ⟨b1, o1 + k * 9 + 7, none⟩ = some (.slice x.A2 x.n2 x.c2) := hc1 7 (by decide)
      have p8 : w.cell? ⟨b1, o1 + k * 9 + 8, none⟩ = some (.slice x.A3 x.n3 x.c3) := hc1 8 (by decide)
      clear hx hc1
      rw [e0]
      go_wp2_with fail
      go_quiet (fail)
      go_wp2_with fail
      go_roundw
      case rel => exact ⟨k + 1, _, _, by omega, by go_num, rfl, rfl⟩
      case measure => simp [intOf]; omega
    · have e0 : decide (k < n ∧ z < 9000) = false := by simpa using hkn
      rw [e0]
      by_cases hz : (9000 : Int) ≤ z
      · have f1 : decide ((9000 : Int) ≤ z) = true := decide_eq_true hz
        go_wp2_with fail
        go_ret
        exact ⟨⟨_, rfl, fun h => by cases h⟩, (Ext.refl w).goD _⟩
      · have f1 : decide ((9000 : Int) ≤ z) = false := decide_eq_false hz
        by_cases h5 : 150 < n
        · have f2 : decide ((150 : Int) < (n : Int)) = true := by simp; omega
          go_wp2_with fail
          go_ret
          exact ⟨⟨_, rfl, fun h => by cases h⟩, (Ext.refl w).goD _⟩
        · have f2 : decide ((150 : Int) < (n : Int)) = false := by simp; omega
          go_wp2_with fail
          go_ret
          exact ⟨⟨_, rfl, fun _ => by omega⟩, (Ext.refl w).goD _⟩
def keyedC (m : Mx) (s : ByteArray) : Bool := rightB s && m.key.toList == (sumS s).toList
def doesC (m : Mx) (p : Op17) (c : Co) : Co × List Nt :=
  if p.what = 4 then ((bypassC m p.who p.tk p.now c).1, (bypassC m p.who p.tk p.now c).2.1)
  else if p.what = 5 then ((dropC p.who p.now c).1, (dropC p.who p.now c).2.1)
  else if p.what = 6 then ((resetC m (keyedC m p.key) p.now c).1, (resetC m (keyedC m p.key) p.now c).2.1)
  else scanC m p.l p.now c
theorem CoAt.up {base B N N' : Nat} {K : CoK} {m : Mx} {S S' : Nat → Prop} {w w' : World} {c : Co} (h : CoAt base B N K m S w c w') (hN : N ≤ N') (hs : ∀ i, S i → S' i) : CoAt base B N' K m S' w c w' := ⟨h.1.mono hN, h.2.weak hs⟩
theorem CoAt.from_ {base B N : Nat} {K : CoK} {m : Mx} {S : Nat → Prop} {w V w' : World} {c : Co} (h : CoAt base B N K m S V c w') (E : Ext w V) : CoAt base B N K m S w c w' := ⟨h.1, (E.mod _).trans h.2⟩
set_option maxRecDepth 100000 in
set_option maxHeartbeats 6400000 in
theorem does_any (base B N : Nat) (K : CoK) (m : Mx) (c : Co) (w : World) (h : HasK w base B N K m c) (hR : rightM m = true) (p : Op17) (ok : OkOp17 w p) (hoff : 0 < p.n → ∀ b o, p.A = some ⟨b, o, none⟩ → ¬ K.mut m.np b) (hN : N ≤ 4611686017000) :
    Calls Tryz.prog 16 #[.pointer (some ⟨K.g, 0, none⟩), .agg #[.int .i64 p.what, .slice p.A p.n p.c, .int .i64 p.now, .int .i64 p.who, .int .i64 p.tk, .string p.key, .slice p.A1 p.n1 p.c1, .slice p.A2 p.n2 p.c2, .slice p.A3 p.n3 p.c3]] w (ScanPost base B (N + 100) K m (doesC m p c) w) := by
  have E0 := (Ext.refl w).goA (.cells #[.int .i64 p.what, .slice p.A p.n p.c, .int .i64 p.now, .int .i64 p.who, .int .i64 p.tk, .string p.key, .slice p.A1 p.n1 p.c1, .slice p.A2 p.n2 p.c2, .slice p.A3 p.n3 p.c3] 52)
  have h' := Lib.hid (h.ext E0)
  have ok' := Lib.hid (ok.ext E0)
  have hz := E0.size
  have hw' := Lib.hid E0
  clear h ok E0
  go_enter Tryz.func16, Tryz.ntmps16
  by_cases h4 : p.what = 4
  · rw [show doesC m p c = ((bypassC m p.who p.tk p.now c).1, (bypassC m p.who p.tk p.now c).2.1) from if_pos h4]
    have d4 : (p.what == 4) = true := by simpa using h4
    clear h4
    go_wp2_with (go_at_call 22; refine (coBypass_any base B N K m c _ h'.out p.who p.tk p.now ok'.out.who (by omega)).mono ?_; rintro e W1 ⟨A1, n1, c1, rfl, a1, a2, a3, a4, a5⟩)
    go_ret
    exact ⟨A1, n1, c1, rfl, a1, a2, a3, fun b o e => Nat.le_trans hz (a4 b o e), (a5.up (by omega) (fun i hi => .inr (.inr (.inr (.inr (.inr (.inl (.inr (.inr hi))))))))).from_ hw'.out⟩
  · have d4 : (p.what == 4) = false := by simpa using h4
    by_cases h5 : p.what = 5
    · rw [show doesC m p c = ((dropC p.who p.now c).1, (dropC p.who p.now c).2.1) from (if_neg h4).trans (if_pos h5)]
      clear h4 d4
      have d5 : (p.what == 5) = true := by simpa using h5
      clear h5
      go_wp2_with (go_at_call 34; refine (coDrop_any base B N K m c _ h'.out p.who p.now ok'.out.who).mono ?_; rintro e W1 ⟨A1, n1, c1, rfl, a1, a2, a3, a4, a5⟩)
      go_ret
      exact ⟨A1, n1, c1, rfl, a1, a2, a3, fun b o e => Nat.le_trans hz (a4 b o e), (a5.up (by omega) (fun i hi => .inr (.inr (.inr (.inr (.inr (.inl (.inr (.inr hi))))))))).from_ hw'.out⟩
    · have d5 : (p.what == 5) = false := by simpa using h5
      by_cases h6 : p.what = 6
      · rw [show doesC m p c = ((resetC m (keyedC m p.key) p.now c).1, (resetC m (keyedC m p.key) p.now c).2.1) from (if_neg h4).trans ((if_neg h5).trans (if_pos h6))]
        clear h4 d4 h5 d5
        have d6 : (p.what == 6) = true := by simpa using h6
        clear h6
        go_wp2_with (go_at_call 18; refine (coReset_any base B N K m c _ h'.out hR p.key p.now ok'.out.key hN).mono ?_; rintro e W1 ⟨A1, n1, c1, rfl, a1, a2, a3, a4, a5⟩)
        go_ret
        exact ⟨A1, n1, c1, rfl, a1, a2, a3, fun b o e => Nat.le_trans hz (a4 b o e), a5.from_ hw'.out⟩
      · have d6 : (p.what == 6) = false := by simpa using h6
        rw [show doesC m p c = scanC m p.l p.now c from (if_neg h4).trans ((if_neg h5).trans (if_neg h6))]
        go_wp2_with (go_at_call 11; refine (coScan_any base B N K m c _ h'.out hR p.A p.n p.c p.l p.now ok'.out.rd ok'.out.cap hoff hN).mono ?_; rintro e W1 ⟨A1, n1, c1, rfl, a1, a2, a3, a4, a5⟩)
        go_ret
        exact ⟨A1, n1, c1, rfl, a1, a2, a3, fun b o e => Nat.le_trans hz (a4 b o e), a5.from_ hw'.out⟩
end Go.Proofs.YtgajbgdkgelkgaaGreat
