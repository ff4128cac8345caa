/- Layer 8, the walks: times, devices, points, causes, effects. (Printed by wip/gen/right.py.) -/
import Derived.Test.YtgajbgdkgelkgaaGreatMtxB
namespace Go.Proofs.YtgajbgdkgelkgaaGreat
open Go.RowKit

theorem bools2 (a b : Bool) : a = false ∨ (a = true ∧ b = false) ∨ (a = true ∧ b = true) := by cases a <;> cases b <;> simp
theorem bools3 (a b c : Bool) : a = false ∨ (a = true ∧ b = false) ∨ (a = true ∧ b = true ∧ c = false) ∨ (a = true ∧ b = true ∧ c = true) := by cases a <;> cases b <;> cases c <;> simp
theorem bools4 (a b c d : Bool) : a = false ∨ (a = true ∧ b = false) ∨ (a = true ∧ b = true ∧ c = false) ∨ (a = true ∧ b = true ∧ c = true ∧ d = false) ∨ (a = true ∧ b = true ∧ c = true ∧ d = true) := by cases a <;> cases b <;> cases c <;> cases d <;> simp
theorem bools5 (a b c d e : Bool) : a = false ∨ (a = true ∧ b = false) ∨ (a = true ∧ b = true ∧ c = false) ∨ (a = true ∧ b = true ∧ c = true ∧ d = false) ∨ (a = true ∧ b = true ∧ c = true ∧ d = true ∧ e = false) ∨ (a = true ∧ b = true ∧ c = true ∧ d = true ∧ e = true) := by cases a <;> cases b <;> cases c <;> cases d <;> cases e <;> simp
theorem all_not {α : Type} {l : List α} {p : α → Bool} {k : Nat} {x : α} (h : l[k]? = some x) (hp : p x = false) : l.all p = false := by
  cases e : l.all p with
  | false => rfl
  | true => rw [List.all_eq_true.1 e x (List.mem_of_getElem? h)] at hp; cases hp
theorem all_of {α : Type} {l : List α} {p : α → Bool} {n : Nat} (hl : l.length = n) (h : ∀ (j : Nat) (x : α), l[j]? = some x → j < n → p x = true) : l.all p = true :=
  List.all_eq_true.2 fun x hx => by
    obtain ⟨j, hj, e⟩ := List.getElem_of_mem hx
    exact h j x (by rw [List.getElem?_eq_getElem hj, e]) (by omega)
theorem all_more {α : Type} {l : List α} {p : α → Bool} {k : Nat} {x : α} (h : ∀ (j : Nat) (x : α), l[j]? = some x → j < k → p x = true) (hx : l[k]? = some x) (hp : p x = true) : ∀ (j : Nat) (x : α), l[j]? = some x → j < k + 1 → p x = true := fun j y hy hj => by
  rcases Nat.lt_succ_iff_lt_or_eq.1 hj with h1 | rfl
  · exact h j y hy h1
  · rw [hx] at hy; cases hy; exact hp
abbrev Mx.arr (m : Mx) : Array Value := #[.int .i64 m.rt, .int .i64 m.wt, .int .i64 m.bk, .int .i64 m.cy, .string m.key, .slice m.Ad m.nd m.cd, .slice m.Ap m.np m.cp, .slice m.Ac m.nc m.cc, .slice m.Ae m.ne m.ce]
theorem mxCell {w w' : World} {m : Mx} (E : Ext (w.alloc (.cells m.arr 27)) w') (i : Nat) : w'.cell? ⟨w.heap.size, i, none⟩ = m.arr[i]? :=
  cellsAt ((E.block _ (by simp)).trans (heap_alloc_new w _)) i
set_option maxRecDepth 100000 in
set_option maxHeartbeats 1600000 in
theorem times_any (m : Mx) (w : World) : Calls Tryz.prog 50 #[m.val] w fun e w' => e = .returned (.bool (timesB m)) ∧ Ext w w' := by
  unfold Mx.val timesB
  rcases bools4 (wiB m.rt 0 7) (wiB m.wt 1 1000) (wiB m.bk 0 1000) (wiB m.cy 1 1000) with h1 | ⟨h1, h2⟩ | ⟨h1, h2, h3⟩ | ⟨h1, h2, h3, h4⟩ | ⟨h1, h2, h3, h4⟩
  all_goals
    simp only [*, Bool.false_and, Bool.and_false, Bool.and_true]
    go_enter Tryz.func50, Tryz.ntmps50
    go_wp2_with (go_at_call 82; refine (within64_any _ _ _ _).mono ?_; rintro e w' ⟨rfl, rfl⟩)
    go_ret
    exact ⟨rfl, (Ext.refl w).goA _⟩
set_option maxRecDepth 100000 in
set_option maxHeartbeats 3200000 in
theorem devices_any (m : Mx) (w : World) (h : OkMx w w.heap.size m) : Calls Tryz.prog 53 #[m.val] w fun e w' => e = .returned (.bool (devicesB m)) ∧ Ext w w' := by
  obtain ⟨rt, wt, bk, cy, key, Ad, nd, cd, dvs, Ap, np, cp, pts, Ac, nc, cc, cas, Ae, ne, ce, efs⟩ := m
  have hl := Lib.hid h.dv.len
  have hcap := h.cap
  dsimp only at hcap
  unfold maxLen at hcap
  have hnd : nd ≤ 9223372036854775807 := by omega
  have hnp : np ≤ 9223372036854775807 := by omega
  have hnc : nc ≤ 9223372036854775807 := by omega
  have hne : ne ≤ 9223372036854775807 := by omega
  clear hcap
  have hld := Lib.hid h.dv.len
  have hlp := Lib.hid h.pt.len
  have hlc := Lib.hid h.ca.len
  have h' := Lib.hid h
  clear h
  unfold Mx.val devicesB
  dsimp only
  go_enter Tryz.func53, Tryz.ntmps53
  go_wp2_with fail
  go_loopw [8] (fun i wr => ∃ k : Nat, k ≤ nd ∧ i = .int .i64 k ∧ (∀ (j : Nat) (x : Dv), dvs[j]? = some x → j < k → devB x = true) ∧ Ext (w.alloc (.cells #[.int .i64 rt, .int .i64 wt, .int .i64 bk, .int .i64 cy, .string key, .slice Ad nd cd, .slice Ap np cp, .slice Ac nc cc, .slice Ae ne ce] 27)) wr) (fun i _ => nd - (intOf i).toNat)
  case atStart => exact ⟨0, by omega, rfl, fun j _ _ hj => absurd hj (by omega), Ext.refl _⟩
  case round =>
    obtain ⟨k, hk, rfl, hz, E⟩ := hrel
    have hz' := Lib.hid hz
    have E' := Lib.hid E
    have E0 : Hid (Ext w wr) := Lib.hid (((Ext.refl w).goA _).go E)
    have m5 : wr.cell? ⟨w.heap.size, 5, none⟩ = some (.slice Ad nd cd) := mxCell (m := ⟨rt, wt, bk, cy, key, Ad, nd, cd, dvs, Ap, np, cp, pts, Ac, nc, cc, cas, Ae, ne, ce, efs⟩) E 5
    have a5 : ∀ o, (wr.alloc o).cell? ⟨w.heap.size, 5, none⟩ = some (.slice Ad nd cd) := fun o => mxCell (m := ⟨rt, wt, bk, cy, key, Ad, nd, cd, dvs, Ap, np, cp, pts, Ac, nc, cc, cas, Ae, ne, ce, efs⟩) (E.goA o) 5
    have m6 : wr.cell? ⟨w.heap.size, 6, none⟩ = some (.slice Ap np cp) := mxCell (m := ⟨rt, wt, bk, cy, key, Ad, nd, cd, dvs, Ap, np, cp, pts, Ac, nc, cc, cas, Ae, ne, ce, efs⟩) E 6
    have a6 : ∀ o, (wr.alloc o).cell? ⟨w.heap.size, 6, none⟩ = some (.slice Ap np cp) := fun o => mxCell (m := ⟨rt, wt, bk, cy, key, Ad, nd, cd, dvs, Ap, np, cp, pts, Ac, nc, cc, cas, Ae, ne, ce, efs⟩) (E.goA o) 6
    have m7 : wr.cell? ⟨w.heap.size, 7, none⟩ = some (.slice Ac nc cc) := mxCell (m := ⟨rt, wt, bk, cy, key, Ad, nd, cd, dvs, Ap, np, cp, pts, Ac, nc, cc, cas, Ae, ne, ce, efs⟩) E 7
    have a7 : ∀ o, (wr.alloc o).cell? ⟨w.heap.size, 7, none⟩ = some (.slice Ac nc cc) := fun o => mxCell (m := ⟨rt, wt, bk, cy, key, Ad, nd, cd, dvs, Ap, np, cp, pts, Ac, nc, cc, cas, Ae, ne, ce, efs⟩) (E.goA o) 7
    have m8 : wr.cell? ⟨w.heap.size, 8, none⟩ = some (.slice Ae ne ce) := mxCell (m := ⟨rt, wt, bk, cy, key, Ad, nd, cd, dvs, Ap, np, cp, pts, Ac, nc, cc, cas, Ae, ne, ce, efs⟩) E 8
    have a8 : ∀ o, (wr.alloc o).cell? ⟨w.heap.size, 8, none⟩ = some (.slice Ae ne ce) := fun o => mxCell (m := ⟨rt, wt, bk, cy, key, Ad, nd, cd, dvs, Ap, np, cp, pts, Ac, nc, cc, cas, Ae, ne, ce, efs⟩) (E.goA o) 8
    clear hz E
    by_cases hlt : k < nd
    · have e3 : (k : Int) < (nd : Int) := by omega
      obtain ⟨x, hx⟩ := h'.out.dv.get hlt
      obtain ⟨b, o, rfl, hb, hc⟩ := h'.out.dv.at_ hx
      have hx' := Lib.hid hx
      have hbs : b < w.heap.size := hb
      obtain ⟨x0, x1, x2⟩ := x
      have cx0 : wr.cell? ⟨b, o + k * 3, none⟩ = some (.string x0) := (E0.out.cell _ hbs).trans (hc 0 (by decide))
      have cx1 : wr.cell? ⟨b, o + k * 3 + 1, none⟩ = some (.int .i64 x1) := (E0.out.cell _ hbs).trans (hc 1 (by decide))
      have cx2 : wr.cell? ⟨b, o + k * 3 + 2, none⟩ = some (.int .i64 x2) := (E0.out.cell _ hbs).trans (hc 2 (by decide))
      clear hx hc hb
      rcases bools2 (wiB x1 0 3) (wiB x2 1 247) with t1 | ⟨t1, t2⟩ | ⟨t1, t2⟩
      · have hr := Lib.hid (all_not (p := devB) hx'.out (by show (wiB x1 0 3 && wiB x2 1 247) = false; rw [t1]; try rfl))
        go_wp2_with (go_at_call 86; refine (withinI_any _ _ _ _).mono ?_; rintro e w' ⟨rfl, rfl⟩)
        go_ret
        exact ⟨by rw [hr.out]; rfl, E0.out.goA _⟩
      · have hr := Lib.hid (all_not (p := devB) hx'.out (by show (wiB x1 0 3 && wiB x2 1 247) = false; rw [t1, t2]; try rfl))
        go_wp2_with (go_at_call 86; refine (withinI_any _ _ _ _).mono ?_; rintro e w' ⟨rfl, rfl⟩)
        go_ret
        exact ⟨by rw [hr.out]; rfl, E0.out.goA _⟩
      · have hr := Lib.hid (all_more (p := devB) hz'.out hx'.out (by show (wiB x1 0 3 && wiB x2 1 247) = true; rw [t1, t2]; try rfl))
        go_wp2_with (go_at_call 86; refine (withinI_any _ _ _ _).mono ?_; rintro e w' ⟨rfl, rfl⟩)
        go_roundw
        case rel => exact ⟨k + 1, by omega, by go_num, hr.out, E'.out.goA _⟩
        case measure => simp [intOf]; omega
    · obtain rfl : k = nd := by omega
      have hr := Lib.hid (all_of (p := devB) hl.out hz'.out)
      go_wp2_with (go_at_call 87; refine (twinsDv_any _ _ _ _ _ ((h'.out.dv.belowE (Nat.le_refl _) E0.out).more E0.out.size) h'.out.cap.1).mono ?_; rintro e w' ⟨rfl, E1⟩)
      go_ret
      exact ⟨by rw [hr.out]; rfl, E0.out.go E1⟩
set_option maxRecDepth 100000 in
set_option maxHeartbeats 3200000 in
theorem points_any (m : Mx) (w : World) (h : OkMx w w.heap.size m) : Calls Tryz.prog 54 #[m.val] w fun e w' => e = .returned (.bool (pointsB m)) ∧ Ext w w' := by
  obtain ⟨rt, wt, bk, cy, key, Ad, nd, cd, dvs, Ap, np, cp, pts, Ac, nc, cc, cas, Ae, ne, ce, efs⟩ := m
  have hl := Lib.hid h.pt.len
  have hcap := h.cap
  dsimp only at hcap
  unfold maxLen at hcap
  have hnd : nd ≤ 9223372036854775807 := by omega
  have hnp : np ≤ 9223372036854775807 := by omega
  have hnc : nc ≤ 9223372036854775807 := by omega
  have hne : ne ≤ 9223372036854775807 := by omega
  clear hcap
  have hld := Lib.hid h.dv.len
  have hlp := Lib.hid h.pt.len
  have hlc := Lib.hid h.ca.len
  have h' := Lib.hid h
  clear h
  unfold Mx.val pointsB
  dsimp only
  go_enter Tryz.func54, Tryz.ntmps54
  go_wp2_with fail
  go_loopw [8] (fun i wr => ∃ k : Nat, k ≤ np ∧ i = .int .i64 k ∧ (∀ (j : Nat) (x : Pt), pts[j]? = some x → j < k → ptB dvs.length x = true) ∧ Ext (w.alloc (.cells #[.int .i64 rt, .int .i64 wt, .int .i64 bk, .int .i64 cy, .string key, .slice Ad nd cd, .slice Ap np cp, .slice Ac nc cc, .slice Ae ne ce] 27)) wr) (fun i _ => np - (intOf i).toNat)
  case atStart => exact ⟨0, by omega, rfl, fun j _ _ hj => absurd hj (by omega), Ext.refl _⟩
  case round =>
    obtain ⟨k, hk, rfl, hz, E⟩ := hrel
    have hz' := Lib.hid hz
    have E' := Lib.hid E
    have E0 : Hid (Ext w wr) := Lib.hid (((Ext.refl w).goA _).go E)
    have m5 : wr.cell? ⟨w.heap.size, 5, none⟩ = some (.slice Ad nd cd) := mxCell (m := ⟨rt, wt, bk, cy, key, Ad, nd, cd, dvs, Ap, np, cp, pts, Ac, nc, cc, cas, Ae, ne, ce, efs⟩) E 5
    have a5 : ∀ o, (wr.alloc o).cell? ⟨w.heap.size, 5, none⟩ = some (.slice Ad nd cd) := fun o => mxCell (m := ⟨rt, wt, bk, cy, key, Ad, nd, cd, dvs, Ap, np, cp, pts, Ac, nc, cc, cas, Ae, ne, ce, efs⟩) (E.goA o) 5
    have m6 : wr.cell? ⟨w.heap.size, 6, none⟩ = some (.slice Ap np cp) := mxCell (m := ⟨rt, wt, bk, cy, key, Ad, nd, cd, dvs, Ap, np, cp, pts, Ac, nc, cc, cas, Ae, ne, ce, efs⟩) E 6
    have a6 : ∀ o, (wr.alloc o).cell? ⟨w.heap.size, 6, none⟩ = some (.slice Ap np cp) := fun o => mxCell (m := ⟨rt, wt, bk, cy, key, Ad, nd, cd, dvs, Ap, np, cp, pts, Ac, nc, cc, cas, Ae, ne, ce, efs⟩) (E.goA o) 6
    have m7 : wr.cell? ⟨w.heap.size, 7, none⟩ = some (.slice Ac nc cc) := mxCell (m := ⟨rt, wt, bk, cy, key, Ad, nd, cd, dvs, Ap, np, cp, pts, Ac, nc, cc, cas, Ae, ne, ce, efs⟩) E 7
    have a7 : ∀ o, (wr.alloc o).cell? ⟨w.heap.size, 7, none⟩ = some (.slice Ac nc cc) := fun o => mxCell (m := ⟨rt, wt, bk, cy, key, Ad, nd, cd, dvs, Ap, np, cp, pts, Ac, nc, cc, cas, Ae, ne, ce, efs⟩) (E.goA o) 7
    have m8 : wr.cell? ⟨w.heap.size, 8, none⟩ = some (.slice Ae ne ce) := mxCell (m := ⟨rt, wt, bk, cy, key, Ad, nd, cd, dvs, Ap, np, cp, pts, Ac, nc, cc, cas, Ae, ne, ce, efs⟩) E 8
    have a8 : ∀ o, (wr.alloc o).cell? ⟨w.heap.size, 8, none⟩ = some (.slice Ae ne ce) := fun o => mxCell (m := ⟨rt, wt, bk, cy, key, Ad, nd, cd, dvs, Ap, np, cp, pts, Ac, nc, cc, cas, Ae, ne, ce, efs⟩) (E.goA o) 8
    clear hz E
    by_cases hlt : k < np
    · have e3 : (k : Int) < (np : Int) := by omega
      obtain ⟨x, hx⟩ := h'.out.pt.get hlt
      obtain ⟨b, o, rfl, hb, hc⟩ := h'.out.pt.at_ hx
      have hx' := Lib.hid hx
      have hbs : b < w.heap.size := hb
      obtain ⟨x0, x1, x2, x3, x4, x5⟩ := x
      have cx0 : wr.cell? ⟨b, o + k * 6, none⟩ = some (.string x0) := (E0.out.cell _ hbs).trans (hc 0 (by decide))
      have cx1 : wr.cell? ⟨b, o + k * 6 + 1, none⟩ = some (.int .i64 x1) := (E0.out.cell _ hbs).trans (hc 1 (by decide))
      have cx2 : wr.cell? ⟨b, o + k * 6 + 2, none⟩ = some (.int .i64 x2) := (E0.out.cell _ hbs).trans (hc 2 (by decide))
      have cx3 : wr.cell? ⟨b, o + k * 6 + 3, none⟩ = some (.int .i64 x3) := (E0.out.cell _ hbs).trans (hc 3 (by decide))
      have cx4 : wr.cell? ⟨b, o + k * 6 + 4, none⟩ = some (.int .i64 x4) := (E0.out.cell _ hbs).trans (hc 4 (by decide))
      have cx5 : wr.cell? ⟨b, o + k * 6 + 5, none⟩ = some (.int .i64 x5) := (E0.out.cell _ hbs).trans (hc 5 (by decide))
      clear hx hc hb
      rcases bools5 (wiB x1 0 ((nd : Int) - 1)) (wiB x2 0 255) (wiB x3 0 1) (wiB x4 0 1000) (wiB x5 0 1000) with t1 | ⟨t1, t2⟩ | ⟨t1, t2, t3⟩ | ⟨t1, t2, t3, t4⟩ | ⟨t1, t2, t3, t4, t5⟩ | ⟨t1, t2, t3, t4, t5⟩
      · have hr := Lib.hid (all_not (p := ptB dvs.length) hx'.out (by show (wiB x1 0 ((dvs.length : Int) - 1) && wiB x2 0 255 && wiB x3 0 1 && wiB x4 0 1000 && wiB x5 0 1000) = false; rw [hld.out, t1]; try rfl))
        go_wp2_with (first | (go_at_call 86; refine (withinI_any _ _ _ _).mono ?_; rintro e w' ⟨rfl, rfl⟩) | (go_at_call 82; refine (within64_any _ _ _ _).mono ?_; rintro e w' ⟨rfl, rfl⟩))
        go_ret
        exact ⟨by rw [hr.out]; rfl, E0.out.goA _⟩
      · have hr := Lib.hid (all_not (p := ptB dvs.length) hx'.out (by show (wiB x1 0 ((dvs.length : Int) - 1) && wiB x2 0 255 && wiB x3 0 1 && wiB x4 0 1000 && wiB x5 0 1000) = false; rw [hld.out, t1, t2]; try rfl))
        go_wp2_with (first | (go_at_call 86; refine (withinI_any _ _ _ _).mono ?_; rintro e w' ⟨rfl, rfl⟩) | (go_at_call 82; refine (within64_any _ _ _ _).mono ?_; rintro e w' ⟨rfl, rfl⟩))
        go_ret
        exact ⟨by rw [hr.out]; rfl, E0.out.goA _⟩
      · have hr := Lib.hid (all_not (p := ptB dvs.length) hx'.out (by show (wiB x1 0 ((dvs.length : Int) - 1) && wiB x2 0 255 && wiB x3 0 1 && wiB x4 0 1000 && wiB x5 0 1000) = false; rw [hld.out, t1, t2, t3]; try rfl))
        go_wp2_with (first | (go_at_call 86; refine (withinI_any _ _ _ _).mono ?_; rintro e w' ⟨rfl, rfl⟩) | (go_at_call 82; refine (within64_any _ _ _ _).mono ?_; rintro e w' ⟨rfl, rfl⟩))
        go_ret
        exact ⟨by rw [hr.out]; rfl, E0.out.goA _⟩
      · have hr := Lib.hid (all_not (p := ptB dvs.length) hx'.out (by show (wiB x1 0 ((dvs.length : Int) - 1) && wiB x2 0 255 && wiB x3 0 1 && wiB x4 0 1000 && wiB x5 0 1000) = false; rw [hld.out, t1, t2, t3, t4]; try rfl))
        go_wp2_with (first | (go_at_call 86; refine (withinI_any _ _ _ _).mono ?_; rintro e w' ⟨rfl, rfl⟩) | (go_at_call 82; refine (within64_any _ _ _ _).mono ?_; rintro e w' ⟨rfl, rfl⟩))
        go_ret
        exact ⟨by rw [hr.out]; rfl, E0.out.goA _⟩
      · have hr := Lib.hid (all_not (p := ptB dvs.length) hx'.out (by show (wiB x1 0 ((dvs.length : Int) - 1) && wiB x2 0 255 && wiB x3 0 1 && wiB x4 0 1000 && wiB x5 0 1000) = false; rw [hld.out, t1, t2, t3, t4, t5]; try rfl))
        go_wp2_with (first | (go_at_call 86; refine (withinI_any _ _ _ _).mono ?_; rintro e w' ⟨rfl, rfl⟩) | (go_at_call 82; refine (within64_any _ _ _ _).mono ?_; rintro e w' ⟨rfl, rfl⟩))
        go_ret
        exact ⟨by rw [hr.out]; rfl, E0.out.goA _⟩
      · have hr := Lib.hid (all_more (p := ptB dvs.length) hz'.out hx'.out (by show (wiB x1 0 ((dvs.length : Int) - 1) && wiB x2 0 255 && wiB x3 0 1 && wiB x4 0 1000 && wiB x5 0 1000) = true; rw [hld.out, t1, t2, t3, t4, t5]; try rfl))
        go_wp2_with (first | (go_at_call 86; refine (withinI_any _ _ _ _).mono ?_; rintro e w' ⟨rfl, rfl⟩) | (go_at_call 82; refine (within64_any _ _ _ _).mono ?_; rintro e w' ⟨rfl, rfl⟩))
        go_roundw
        case rel => exact ⟨k + 1, by omega, by go_num, hr.out, E'.out.goA _⟩
        case measure => simp [intOf]; omega
    · obtain rfl : k = np := by omega
      have hr := Lib.hid (all_of (p := ptB dvs.length) hl.out hz'.out)
      go_wp2_with (go_at_call 89; refine (twinsPt_any _ _ _ _ _ ((h'.out.pt.belowE (Nat.le_refl _) E0.out).more E0.out.size) h'.out.cap.2.1).mono ?_; rintro e w' ⟨rfl, E1⟩)
      go_ret
      exact ⟨by rw [hr.out]; rfl, E0.out.go E1⟩
set_option maxRecDepth 100000 in
set_option maxHeartbeats 3200000 in
theorem causes_any (m : Mx) (w : World) (h : OkMx w w.heap.size m) : Calls Tryz.prog 55 #[m.val] w fun e w' => e = .returned (.bool (causesB m)) ∧ Ext w w' := by
  obtain ⟨rt, wt, bk, cy, key, Ad, nd, cd, dvs, Ap, np, cp, pts, Ac, nc, cc, cas, Ae, ne, ce, efs⟩ := m
  have hl := Lib.hid h.ca.len
  have hcap := h.cap
  dsimp only at hcap
  unfold maxLen at hcap
  have hnd : nd ≤ 9223372036854775807 := by omega
  have hnp : np ≤ 9223372036854775807 := by omega
  have hnc : nc ≤ 9223372036854775807 := by omega
  have hne : ne ≤ 9223372036854775807 := by omega
  clear hcap
  have hld := Lib.hid h.dv.len
  have hlp := Lib.hid h.pt.len
  have hlc := Lib.hid h.ca.len
  have h' := Lib.hid h
  clear h
  unfold Mx.val causesB
  dsimp only
  go_enter Tryz.func55, Tryz.ntmps55
  go_wp2_with fail
  go_loopw [8] (fun i wr => ∃ k : Nat, k ≤ nc ∧ i = .int .i64 k ∧ (∀ (j : Nat) (x : Ca), cas[j]? = some x → j < k → caB pts.length x = true) ∧ Ext (w.alloc (.cells #[.int .i64 rt, .int .i64 wt, .int .i64 bk, .int .i64 cy, .string key, .slice Ad nd cd, .slice Ap np cp, .slice Ac nc cc, .slice Ae ne ce] 27)) wr) (fun i _ => nc - (intOf i).toNat)
  case atStart => exact ⟨0, by omega, rfl, fun j _ _ hj => absurd hj (by omega), Ext.refl _⟩
  case round =>
    obtain ⟨k, hk, rfl, hz, E⟩ := hrel
    have hz' := Lib.hid hz
    have E' := Lib.hid E
    have E0 : Hid (Ext w wr) := Lib.hid (((Ext.refl w).goA _).go E)
    have m5 : wr.cell? ⟨w.heap.size, 5, none⟩ = some (.slice Ad nd cd) := mxCell (m := ⟨rt, wt, bk, cy, key, Ad, nd, cd, dvs, Ap, np, cp, pts, Ac, nc, cc, cas, Ae, ne, ce, efs⟩) E 5
    have a5 : ∀ o, (wr.alloc o).cell? ⟨w.heap.size, 5, none⟩ = some (.slice Ad nd cd) := fun o => mxCell (m := ⟨rt, wt, bk, cy, key, Ad, nd, cd, dvs, Ap, np, cp, pts, Ac, nc, cc, cas, Ae, ne, ce, efs⟩) (E.goA o) 5
    have m6 : wr.cell? ⟨w.heap.size, 6, none⟩ = some (.slice Ap np cp) := mxCell (m := ⟨rt, wt, bk, cy, key, Ad, nd, cd, dvs, Ap, np, cp, pts, Ac, nc, cc, cas, Ae, ne, ce, efs⟩) E 6
    have a6 : ∀ o, (wr.alloc o).cell? ⟨w.heap.size, 6, none⟩ = some (.slice Ap np cp) := fun o => mxCell (m := ⟨rt, wt, bk, cy, key, Ad, nd, cd, dvs, Ap, np, cp, pts, Ac, nc, cc, cas, Ae, ne, ce, efs⟩) (E.goA o) 6
    have m7 : wr.cell? ⟨w.heap.size, 7, none⟩ = some (.slice Ac nc cc) := mxCell (m := ⟨rt, wt, bk, cy, key, Ad, nd, cd, dvs, Ap, np, cp, pts, Ac, nc, cc, cas, Ae, ne, ce, efs⟩) E 7
    have a7 : ∀ o, (wr.alloc o).cell? ⟨w.heap.size, 7, none⟩ = some (.slice Ac nc cc) := fun o => mxCell (m := ⟨rt, wt, bk, cy, key, Ad, nd, cd, dvs, Ap, np, cp, pts, Ac, nc, cc, cas, Ae, ne, ce, efs⟩) (E.goA o) 7
    have m8 : wr.cell? ⟨w.heap.size, 8, none⟩ = some (.slice Ae ne ce) := mxCell (m := ⟨rt, wt, bk, cy, key, Ad, nd, cd, dvs, Ap, np, cp, pts, Ac, nc, cc, cas, Ae, ne, ce, efs⟩) E 8
    have a8 : ∀ o, (wr.alloc o).cell? ⟨w.heap.size, 8, none⟩ = some (.slice Ae ne ce) := fun o => mxCell (m := ⟨rt, wt, bk, cy, key, Ad, nd, cd, dvs, Ap, np, cp, pts, Ac, nc, cc, cas, Ae, ne, ce, efs⟩) (E.goA o) 8
    clear hz E
    by_cases hlt : k < nc
    · have e3 : (k : Int) < (nc : Int) := by omega
      obtain ⟨x, hx⟩ := h'.out.ca.get hlt
      obtain ⟨b, o, rfl, hb, hc⟩ := h'.out.ca.at_ hx
      have hx' := Lib.hid hx
      have hbs : b < w.heap.size := hb
      obtain ⟨x0, x1, x2, x3, x4, x5, x6, x7⟩ := x
      have cx0 : wr.cell? ⟨b, o + k * 5, none⟩ = some (.string x0) := (E0.out.cell _ hbs).trans (hc 0 (by decide))
      have cx1 : wr.cell? ⟨b, o + k * 5 + 1, none⟩ = some (.int .i64 x1) := (E0.out.cell _ hbs).trans (hc 1 (by decide))
      have cx2 : wr.cell? ⟨b, o + k * 5 + 2, none⟩ = some (.int .i64 x2) := (E0.out.cell _ hbs).trans (hc 2 (by decide))
      have cx3 : wr.cell? ⟨b, o + k * 5 + 3, none⟩ = some (.int .i64 x3) := (E0.out.cell _ hbs).trans (hc 3 (by decide))
      have cx4 : wr.cell? ⟨b, o + k * 5 + 4, none⟩ = some (.slice x4 x5 x6) := (E0.out.cell _ hbs).trans (hc 4 (by decide))
      obtain ⟨hrd, hrc⟩ := h'.out.cao _ (List.mem_of_getElem? hx)
      have hrl := hrd.len
      dsimp only at hrd hrc hrl
      have hrd := Lib.hid hrd
      have hrc := Lib.hid hrc
      have hx5 : x5 ≤ 9223372036854775807 := by have := hrc.out; unfold maxLen at this; omega
      have hrl := Lib.hid hrl
      clear hx hc hb
      rcases bools4 (picksB x7 4 (np : Int)) (wiB x1 1 (x5 : Int)) (wiB x2 1 6) (wiB x3 0 100000) with t1 | ⟨t1, t2⟩ | ⟨t1, t2, t3⟩ | ⟨t1, t2, t3, t4⟩ | ⟨t1, t2, t3, t4⟩
      · have hr := Lib.hid (all_not (p := caB pts.length) hx'.out (by show (picksB x7 4 ((pts.length : Nat) : Int) && wiB x1 1 (x7.length : Int) && wiB x2 1 6 && wiB x3 0 100000) = false; rw [hlp.out, hrl.out, t1]; try rfl))
        go_wp2_with (first | (go_at_call 86; refine (withinI_any _ _ _ _).mono ?_; rintro e w' ⟨rfl, rfl⟩) | (go_at_call 82; refine (within64_any _ _ _ _).mono ?_; rintro e w' ⟨rfl, rfl⟩) | (go_at_call 91; refine (picks_any _ _ _ _ _ _ _ (hrd.out.ext (E0.out.goA _)) hrc.out ⟨by omega, by omega⟩).mono ?_; rintro e w' ⟨rfl, E1⟩; have hcel := cellsAt ((E1.block wr.heap.size (by simp)).trans (heap_alloc_new wr _)); have f1 : w'.cell? ⟨wr.heap.size, 1, none⟩ = some (.int .i64 x1) := hcel 1; have f2 : w'.cell? ⟨wr.heap.size, 2, none⟩ = some (.int .i64 x2) := hcel 2; have f3 : w'.cell? ⟨wr.heap.size, 3, none⟩ = some (.int .i64 x3) := hcel 3; have f4 : w'.cell? ⟨wr.heap.size, 4, none⟩ = some (.slice x4 x5 x6) := hcel 4; clear hcel))
        go_ret
        exact ⟨by rw [hr.out]; rfl, (E0.out.goA _).go E1⟩
      · have hr := Lib.hid (all_not (p := caB pts.length) hx'.out (by show (picksB x7 4 ((pts.length : Nat) : Int) && wiB x1 1 (x7.length : Int) && wiB x2 1 6 && wiB x3 0 100000) = false; rw [hlp.out, hrl.out, t1, t2]; try rfl))
        go_wp2_with (first | (go_at_call 86; refine (withinI_any _ _ _ _).mono ?_; rintro e w' ⟨rfl, rfl⟩) | (go_at_call 82; refine (within64_any _ _ _ _).mono ?_; rintro e w' ⟨rfl, rfl⟩) | (go_at_call 91; refine (picks_any _ _ _ _ _ _ _ (hrd.out.ext (E0.out.goA _)) hrc.out ⟨by omega, by omega⟩).mono ?_; rintro e w' ⟨rfl, E1⟩; have hcel := cellsAt ((E1.block wr.heap.size (by simp)).trans (heap_alloc_new wr _)); have f1 : w'.cell? ⟨wr.heap.size, 1, none⟩ = some (.int .i64 x1) := hcel 1; have f2 : w'.cell? ⟨wr.heap.size, 2, none⟩ = some (.int .i64 x2) := hcel 2; have f3 : w'.cell? ⟨wr.heap.size, 3, none⟩ = some (.int .i64 x3) := hcel 3; have f4 : w'.cell? ⟨wr.heap.size, 4, none⟩ = some (.slice x4 x5 x6) := hcel 4; clear hcel))
        go_ret
        exact ⟨by rw [hr.out]; rfl, (E0.out.goA _).go E1⟩
      · have hr := Lib.hid (all_not (p := caB pts.length) hx'.out (by show (picksB x7 4 ((pts.length : Nat) : Int) && wiB x1 1 (x7.length : Int) && wiB x2 1 6 && wiB x3 0 100000) = false; rw [hlp.out, hrl.out, t1, t2, t3]; try rfl))
        go_wp2_with (first | (go_at_call 86; refine (withinI_any _ _ _ _).mono ?_; rintro e w' ⟨rfl, rfl⟩) | (go_at_call 82; refine (within64_any _ _ _ _).mono ?_; rintro e w' ⟨rfl, rfl⟩) | (go_at_call 91; refine (picks_any _ _ _ _ _ _ _ (hrd.out.ext (E0.out.goA _)) hrc.out ⟨by omega, by omega⟩).mono ?_; rintro e w' ⟨rfl, E1⟩; have hcel := cellsAt ((E1.block wr.heap.size (by simp)).trans (heap_alloc_new wr _)); have f1 : w'.cell? ⟨wr.heap.size, 1, none⟩ = some (.int .i64 x1) := hcel 1; have f2 : w'.cell? ⟨wr.heap.size, 2, none⟩ = some (.int .i64 x2) := hcel 2; have f3 : w'.cell? ⟨wr.heap.size, 3, none⟩ = some (.int .i64 x3) := hcel 3; have f4 : w'.cell? ⟨wr.heap.size, 4, none⟩ = some (.slice x4 x5 x6) := hcel 4; clear hcel))
        go_ret
        exact ⟨by rw [hr.out]; rfl, (E0.out.goA _).go E1⟩
      · have hr := Lib.hid (all_not (p := caB pts.length) hx'.out (by show (picksB x7 4 ((pts.length : Nat) : Int) && wiB x1 1 (x7.length : Int) && wiB x2 1 6 && wiB x3 0 100000) = false; rw [hlp.out, hrl.out, t1, t2, t3, t4]; try rfl))
        go_wp2_with (first | (go_at_call 86; refine (withinI_any _ _ _ _).mono ?_; rintro e w' ⟨rfl, rfl⟩) | (go_at_call 82; refine (within64_any _ _ _ _).mono ?_; rintro e w' ⟨rfl, rfl⟩) | (go_at_call 91; refine (picks_any _ _ _ _ _ _ _ (hrd.out.ext (E0.out.goA _)) hrc.out ⟨by omega, by omega⟩).mono ?_; rintro e w' ⟨rfl, E1⟩; have hcel := cellsAt ((E1.block wr.heap.size (by simp)).trans (heap_alloc_new wr _)); have f1 : w'.cell? ⟨wr.heap.size, 1, none⟩ = some (.int .i64 x1) := hcel 1; have f2 : w'.cell? ⟨wr.heap.size, 2, none⟩ = some (.int .i64 x2) := hcel 2; have f3 : w'.cell? ⟨wr.heap.size, 3, none⟩ = some (.int .i64 x3) := hcel 3; have f4 : w'.cell? ⟨wr.heap.size, 4, none⟩ = some (.slice x4 x5 x6) := hcel 4; clear hcel))
        go_ret
        exact ⟨by rw [hr.out]; rfl, (E0.out.goA _).go E1⟩
      · have hr := Lib.hid (all_more (p := caB pts.length) hz'.out hx'.out (by show (picksB x7 4 ((pts.length : Nat) : Int) && wiB x1 1 (x7.length : Int) && wiB x2 1 6 && wiB x3 0 100000) = true; rw [hlp.out, hrl.out, t1, t2, t3, t4]; try rfl))
        go_wp2_with (first | (go_at_call 86; refine (withinI_any _ _ _ _).mono ?_; rintro e w' ⟨rfl, rfl⟩) | (go_at_call 82; refine (within64_any _ _ _ _).mono ?_; rintro e w' ⟨rfl, rfl⟩) | (go_at_call 91; refine (picks_any _ _ _ _ _ _ _ (hrd.out.ext (E0.out.goA _)) hrc.out ⟨by omega, by omega⟩).mono ?_; rintro e w' ⟨rfl, E1⟩; have hcel := cellsAt ((E1.block wr.heap.size (by simp)).trans (heap_alloc_new wr _)); have f1 : w'.cell? ⟨wr.heap.size, 1, none⟩ = some (.int .i64 x1) := hcel 1; have f2 : w'.cell? ⟨wr.heap.size, 2, none⟩ = some (.int .i64 x2) := hcel 2; have f3 : w'.cell? ⟨wr.heap.size, 3, none⟩ = some (.int .i64 x3) := hcel 3; have f4 : w'.cell? ⟨wr.heap.size, 4, none⟩ = some (.slice x4 x5 x6) := hcel 4; clear hcel))
        go_roundw
        case rel => exact ⟨k + 1, by omega, by go_num, hr.out, (E'.out.goA _).go E1⟩
        case measure => simp [intOf]; omega
    · obtain rfl : k = nc := by omega
      have hr := Lib.hid (all_of (p := caB pts.length) hl.out hz'.out)
      go_wp2_with fail
      go_ret
      exact ⟨by rw [hr.out]; rfl, E0.out⟩
set_option maxRecDepth 100000 in
set_option maxHeartbeats 3200000 in
theorem effects_any (m : Mx) (w : World) (h : OkMx w w.heap.size m) : Calls Tryz.prog 56 #[m.val] w fun e w' => e = .returned (.bool (effectsB m)) ∧ Ext w w' := by
  obtain ⟨rt, wt, bk, cy, key, Ad, nd, cd, dvs, Ap, np, cp, pts, Ac, nc, cc, cas, Ae, ne, ce, efs⟩ := m
  have hl := Lib.hid h.ef.len
  have hcap := h.cap
  dsimp only at hcap
  unfold maxLen at hcap
  have hnd : nd ≤ 9223372036854775807 := by omega
  have hnp : np ≤ 9223372036854775807 := by omega
  have hnc : nc ≤ 9223372036854775807 := by omega
  have hne : ne ≤ 9223372036854775807 := by omega
  clear hcap
  have hld := Lib.hid h.dv.len
  have hlp := Lib.hid h.pt.len
  have hlc := Lib.hid h.ca.len
  have h' := Lib.hid h
  clear h
  unfold Mx.val effectsB
  dsimp only
  go_enter Tryz.func56, Tryz.ntmps56
  go_wp2_with fail
  go_loopw [8] (fun i wr => ∃ k : Nat, k ≤ ne ∧ i = .int .i64 k ∧ (∀ (j : Nat) (x : Ef), efs[j]? = some x → j < k → efB dvs.length cas.length x = true) ∧ Ext (w.alloc (.cells #[.int .i64 rt, .int .i64 wt, .int .i64 bk, .int .i64 cy, .string key, .slice Ad nd cd, .slice Ap np cp, .slice Ac nc cc, .slice Ae ne ce] 27)) wr) (fun i _ => ne - (intOf i).toNat)
  case atStart => exact ⟨0, by omega, rfl, fun j _ _ hj => absurd hj (by omega), Ext.refl _⟩
  case round =>
    obtain ⟨k, hk, rfl, hz, E⟩ := hrel
    have hz' := Lib.hid hz
    have E' := Lib.hid E
    have E0 : Hid (Ext w wr) := Lib.hid (((Ext.refl w).goA _).go E)
    have m5 : wr.cell? ⟨w.heap.size, 5, none⟩ = some (.slice Ad nd cd) := mxCell (m := ⟨rt, wt, bk, cy, key, Ad, nd, cd, dvs, Ap, np, cp, pts, Ac, nc, cc, cas, Ae, ne, ce, efs⟩) E 5
    have a5 : ∀ o, (wr.alloc o).cell? ⟨w.heap.size, 5, none⟩ = some (.slice Ad nd cd) := fun o => mxCell (m := ⟨rt, wt, bk, cy, key, Ad, nd, cd, dvs, Ap, np, cp, pts, Ac, nc, cc, cas, Ae, ne, ce, efs⟩) (E.goA o) 5
    have m6 : wr.cell? ⟨w.heap.size, 6, none⟩ = some (.slice Ap np cp) := mxCell (m := ⟨rt, wt, bk, cy, key, Ad, nd, cd, dvs, Ap, np, cp, pts, Ac, nc, cc, cas, Ae, ne, ce, efs⟩) E 6
    have a6 : ∀ o, (wr.alloc o).cell? ⟨w.heap.size, 6, none⟩ = some (.slice Ap np cp) := fun o => mxCell (m := ⟨rt, wt, bk, cy, key, Ad, nd, cd, dvs, Ap, np, cp, pts, Ac, nc, cc, cas, Ae, ne, ce, efs⟩) (E.goA o) 6
    have m7 : wr.cell? ⟨w.heap.size, 7, none⟩ = some (.slice Ac nc cc) := mxCell (m := ⟨rt, wt, bk, cy, key, Ad, nd, cd, dvs, Ap, np, cp, pts, Ac, nc, cc, cas, Ae, ne, ce, efs⟩) E 7
    have a7 : ∀ o, (wr.alloc o).cell? ⟨w.heap.size, 7, none⟩ = some (.slice Ac nc cc) := fun o => mxCell (m := ⟨rt, wt, bk, cy, key, Ad, nd, cd, dvs, Ap, np, cp, pts, Ac, nc, cc, cas, Ae, ne, ce, efs⟩) (E.goA o) 7
    have m8 : wr.cell? ⟨w.heap.size, 8, none⟩ = some (.slice Ae ne ce) := mxCell (m := ⟨rt, wt, bk, cy, key, Ad, nd, cd, dvs, Ap, np, cp, pts, Ac, nc, cc, cas, Ae, ne, ce, efs⟩) E 8
    have a8 : ∀ o, (wr.alloc o).cell? ⟨w.heap.size, 8, none⟩ = some (.slice Ae ne ce) := fun o => mxCell (m := ⟨rt, wt, bk, cy, key, Ad, nd, cd, dvs, Ap, np, cp, pts, Ac, nc, cc, cas, Ae, ne, ce, efs⟩) (E.goA o) 8
    clear hz E
    by_cases hlt : k < ne
    · have e3 : (k : Int) < (ne : Int) := by omega
      obtain ⟨x, hx⟩ := h'.out.ef.get hlt
      obtain ⟨b, o, rfl, hb, hc⟩ := h'.out.ef.at_ hx
      have hx' := Lib.hid hx
      have hbs : b < w.heap.size := hb
      obtain ⟨x0, x1, x2, x3, x4, x5, x6, x7⟩ := x
      have cx0 : wr.cell? ⟨b, o + k * 5, none⟩ = some (.string x0) := (E0.out.cell _ hbs).trans (hc 0 (by decide))
      have cx1 : wr.cell? ⟨b, o + k * 5 + 1, none⟩ = some (.int .i64 x1) := (E0.out.cell _ hbs).trans (hc 1 (by decide))
      have cx2 : wr.cell? ⟨b, o + k * 5 + 2, none⟩ = some (.int .i64 x2) := (E0.out.cell _ hbs).trans (hc 2 (by decide))
      have cx3 : wr.cell? ⟨b, o + k * 5 + 3, none⟩ = some (.int .i64 x3) := (E0.out.cell _ hbs).trans (hc 3 (by decide))
      have cx4 : wr.cell? ⟨b, o + k * 5 + 4, none⟩ = some (.slice x4 x5 x6) := (E0.out.cell _ hbs).trans (hc 4 (by decide))
      obtain ⟨hrd, hrc⟩ := h'.out.efo _ (List.mem_of_getElem? hx)
      dsimp only at hrd hrc
      have hrd := Lib.hid hrd
      have hrc := Lib.hid hrc
      have hx5 : x5 ≤ 9223372036854775807 := by have := hrc.out; unfold maxLen at this; omega
      clear hx hc hb
      rcases bools4 (wiB x1 0 ((nd : Int) - 1)) (wiB x2 0 255) (wiB x3 0 1) (picksB x7 8 (nc : Int)) with t1 | ⟨t1, t2⟩ | ⟨t1, t2, t3⟩ | ⟨t1, t2, t3, t4⟩ | ⟨t1, t2, t3, t4⟩
      · have hr := Lib.hid (all_not (p := efB dvs.length cas.length) hx'.out (by show (wiB x1 0 (((dvs.length : Nat) : Int) - 1) && wiB x2 0 255 && wiB x3 0 1 && picksB x7 8 ((cas.length : Nat) : Int)) = false; rw [hld.out, hlc.out, t1]; try rfl))
        go_wp2_with (first | (go_at_call 86; refine (withinI_any _ _ _ _).mono ?_; rintro e w' ⟨rfl, rfl⟩) | (go_at_call 82; refine (within64_any _ _ _ _).mono ?_; rintro e w' ⟨rfl, rfl⟩) | (go_at_call 91; refine (picks_any _ _ _ _ _ _ _ (hrd.out.ext (E0.out.goA _)) hrc.out ⟨by omega, by omega⟩).mono ?_; rintro e w' ⟨rfl, E1⟩; have hcel := cellsAt ((E1.block wr.heap.size (by simp)).trans (heap_alloc_new wr _)); have f1 : w'.cell? ⟨wr.heap.size, 1, none⟩ = some (.int .i64 x1) := hcel 1; have f2 : w'.cell? ⟨wr.heap.size, 2, none⟩ = some (.int .i64 x2) := hcel 2; have f3 : w'.cell? ⟨wr.heap.size, 3, none⟩ = some (.int .i64 x3) := hcel 3; have f4 : w'.cell? ⟨wr.heap.size, 4, none⟩ = some (.slice x4 x5 x6) := hcel 4; clear hcel))
        go_ret
        exact ⟨by rw [hr.out]; rfl, E0.out.goA _⟩
      · have hr := Lib.hid (all_not (p := efB dvs.length cas.length) hx'.out (by show (wiB x1 0 (((dvs.length : Nat) : Int) - 1) && wiB x2 0 255 && wiB x3 0 1 && picksB x7 8 ((cas.length : Nat) : Int)) = false; rw [hld.out, hlc.out, t1, t2]; try rfl))
        go_wp2_with (first | (go_at_call 86; refine (withinI_any _ _ _ _).mono ?_; rintro e w' ⟨rfl, rfl⟩) | (go_at_call 82; refine (within64_any _ _ _ _).mono ?_; rintro e w' ⟨rfl, rfl⟩) | (go_at_call 91; refine (picks_any _ _ _ _ _ _ _ (hrd.out.ext (E0.out.goA _)) hrc.out ⟨by omega, by omega⟩).mono ?_; rintro e w' ⟨rfl, E1⟩; have hcel := cellsAt ((E1.block wr.heap.size (by simp)).trans (heap_alloc_new wr _)); have f1 : w'.cell? ⟨wr.heap.size, 1, none⟩ = some (.int .i64 x1) := hcel 1; have f2 : w'.cell? ⟨wr.heap.size, 2, none⟩ = some (.int .i64 x2) := hcel 2; have f3 : w'.cell? ⟨wr.heap.size, 3, none⟩ = some (.int .i64 x3) := hcel 3; have f4 : w'.cell? ⟨wr.heap.size, 4, none⟩ = some (.slice x4 x5 x6) := hcel 4; clear hcel))
        go_ret
        exact ⟨by rw [hr.out]; rfl, E0.out.goA _⟩
      · have hr := Lib.hid (all_not (p := efB dvs.length cas.length) hx'.out (by show (wiB x1 0 (((dvs.length : Nat) : Int) - 1) && wiB x2 0 255 && wiB x3 0 1 && picksB x7 8 ((cas.length : Nat) : Int)) = false; rw [hld.out, hlc.out, t1, t2, t3]; try rfl))
        go_wp2_with (first | (go_at_call 86; refine (withinI_any _ _ _ _).mono ?_; rintro e w' ⟨rfl, rfl⟩) | (go_at_call 82; refine (within64_any _ _ _ _).mono ?_; rintro e w' ⟨rfl, rfl⟩) | (go_at_call 91; refine (picks_any _ _ _ _ _ _ _ (hrd.out.ext (E0.out.goA _)) hrc.out ⟨by omega, by omega⟩).mono ?_; rintro e w' ⟨rfl, E1⟩; have hcel := cellsAt ((E1.block wr.heap.size (by simp)).trans (heap_alloc_new wr _)); have f1 : w'.cell? ⟨wr.heap.size, 1, none⟩ = some (.int .i64 x1) := hcel 1; have f2 : w'.cell? ⟨wr.heap.size, 2, none⟩ = some (.int .i64 x2) := hcel 2; have f3 : w'.cell? ⟨wr.heap.size, 3, none⟩ = some (.int .i64 x3) := hcel 3; have f4 : w'.cell? ⟨wr.heap.size, 4, none⟩ = some (.slice x4 x5 x6) := hcel 4; clear hcel))
        go_ret
        exact ⟨by rw [hr.out]; rfl, E0.out.goA _⟩
      · have hr := Lib.hid (all_not (p := efB dvs.length cas.length) hx'.out (by show (wiB x1 0 (((dvs.length : Nat) : Int) - 1) && wiB x2 0 255 && wiB x3 0 1 && picksB x7 8 ((cas.length : Nat) : Int)) = false; rw [hld.out, hlc.out, t1, t2, t3, t4]; try rfl))
        go_wp2_with (first | (go_at_call 86; refine (withinI_any _ _ _ _).mono ?_; rintro e w' ⟨rfl, rfl⟩) | (go_at_call 82; refine (within64_any _ _ _ _).mono ?_; rintro e w' ⟨rfl, rfl⟩) | (go_at_call 91; refine (picks_any _ _ _ _ _ _ _ (hrd.out.ext (E0.out.goA _)) hrc.out ⟨by omega, by omega⟩).mono ?_; rintro e w' ⟨rfl, E1⟩; have hcel := cellsAt ((E1.block wr.heap.size (by simp)).trans (heap_alloc_new wr _)); have f1 : w'.cell? ⟨wr.heap.size, 1, none⟩ = some (.int .i64 x1) := hcel 1; have f2 : w'.cell? ⟨wr.heap.size, 2, none⟩ = some (.int .i64 x2) := hcel 2; have f3 : w'.cell? ⟨wr.heap.size, 3, none⟩ = some (.int .i64 x3) := hcel 3; have f4 : w'.cell? ⟨wr.heap.size, 4, none⟩ = some (.slice x4 x5 x6) := hcel 4; clear hcel))
        go_ret
        exact ⟨by rw [hr.out]; rfl, (E0.out.goA _).go E1⟩
      · have hr := Lib.hid (all_more (p := efB dvs.length cas.length) hz'.out hx'.out (by show (wiB x1 0 (((dvs.length : Nat) : Int) - 1) && wiB x2 0 255 && wiB x3 0 1 && picksB x7 8 ((cas.length : Nat) : Int)) = true; rw [hld.out, hlc.out, t1, t2, t3, t4]; try rfl))
        go_wp2_with (first | (go_at_call 86; refine (withinI_any _ _ _ _).mono ?_; rintro e w' ⟨rfl, rfl⟩) | (go_at_call 82; refine (within64_any _ _ _ _).mono ?_; rintro e w' ⟨rfl, rfl⟩) | (go_at_call 91; refine (picks_any _ _ _ _ _ _ _ (hrd.out.ext (E0.out.goA _)) hrc.out ⟨by omega, by omega⟩).mono ?_; rintro e w' ⟨rfl, E1⟩; have hcel := cellsAt ((E1.block wr.heap.size (by simp)).trans (heap_alloc_new wr _)); have f1 : w'.cell? ⟨wr.heap.size, 1, none⟩ = some (.int .i64 x1) := hcel 1; have f2 : w'.cell? ⟨wr.heap.size, 2, none⟩ = some (.int .i64 x2) := hcel 2; have f3 : w'.cell? ⟨wr.heap.size, 3, none⟩ = some (.int .i64 x3) := hcel 3; have f4 : w'.cell? ⟨wr.heap.size, 4, none⟩ = some (.slice x4 x5 x6) := hcel 4; clear hcel))
        go_roundw
        case rel => exact ⟨k + 1, by omega, by go_num, hr.out, (E'.out.goA _).go E1⟩
        case measure => simp [intOf]; omega
    · obtain rfl : k = ne := by omega
      have hr := Lib.hid (all_of (p := efB dvs.length cas.length) hl.out hz'.out)
      go_wp2_with (go_at_call 92; refine (twinsEf_any _ _ _ _ _ ((h'.out.ef.belowE (Nat.le_refl _) E0.out).more E0.out.size) h'.out.cap.2.2.2).mono ?_; rintro e w' ⟨rfl, E1⟩)
      go_ret
      exact ⟨by rw [hr.out]; rfl, E0.out.go E1⟩
end Go.Proofs.YtgajbgdkgelkgaaGreat
