/- Layer 21, the walks: Tick. -/
import Derived.Test.YtgagpalffdgjnaaG32
namespace Go.Proofs.Ytgagpalffdgjnaa
open Go.RowKit

/-- What came of a job; where its values lie. -/
structure Dn where
  id : Int
  err : Int
  code : Int
  xs : List Int
structure Dm where
  p : Dn
  A : Option Addr
  n : Nat
  c : Nat
def Dm.cells (d : Dm) : List Value := [.int .i64 d.p.id, .int .i64 d.p.err, .int .i64 d.p.code, .slice d.A d.n d.c]
/-- What is handed back of jobs. -/
def DonesAt (w : World) (base : Nat) (v : Value) (ds : List Dn) : Prop :=
  ∃ ms : List Dm, ms.map Dm.p = ds ∧ w.ownsRow base 56 4 v ms.length (ms.flatMap Dm.cells) ∧ ∀ d, d ∈ ms → RdI w w.heap.size .u16 d.A d.n d.p.xs ∧ Word16 d.p.xs ∧ d.n ≤ d.c ∧ d.c ≤ maxLen
def dueB (L : Lp) (wa now : Int) : Bool := L.busy && decide (wa ≤ now - L.sent)
def takenL (L : Lp) (j : Jp) (U O : List Jp) : Lp := { L with U := U, O := O, busy := true, J := j, times := 0 }
def nextR (k : Bool) (L : Lp) (now : Int) (b : List Int) (ds : List Dn) : List Int × List Dn × Lp :=
  match takeL L.U L.O with
  | some (j, U, O) => (sentBytes k (takenL L j U O), ds, sentL k (takenL L j U O) now)
  | none => (b, ds, L)
def tickR (k : Bool) (re wa : Int) (L : Lp) (now : Int) : List Int × List Dn × Lp :=
  if now < 0 ∨ 1099511627776 < now then ([], [], L)
  else if dueB L wa now = true then (if L.times ≤ re then (sentBytes k L, [], sentL k L now) else nextR k (endL L) now [] [⟨L.J.id, 211, 0, []⟩])
  else if L.busy = true then ([], [], L)
  else nextR k L now [] []
def TickPost (k : Bool) (a q cu co s : Nat) (re wa : Int) (M : Lm) (now : Int) (w : World) (e : Ending) (w' : World) : Prop :=
  ∃ v d, e = .returned (.tuple #[v, d]) ∧ BytesOut w w' v (tickR k re wa M.p now).1 ∧ DonesAt w' w.heap.size d (tickR k re wa M.p now).2.1 ∧ Mod (LnB k a q cu co s) w w' ∧ ∃ M', M'.p = (tickR k re wa M.p now).2.2 ∧ HasLn k w' a q cu co s re wa M'
theorem tick_idle_eq (k : Bool) (re wa : Int) (L : Lp) (now : Int) (n0 : 0 ≤ now) (n1 : now ≤ 1099511627776) (hb : L.busy = false) : tickR k re wa L now = nextR k L now [] [] := by
  unfold tickR dueB
  rw [if_neg (by omega), hb]
  rfl
theorem qTake_some {q cu co : Nat} {U O U' O' : List Jm} {j : Jm} {w : World} (h : Qu w q cu co (U.map Jm.v) (O.map Jm.v)) (hT : takeL U O = some (j, U', O')) :
    Calls Try.prog 49 #[.pointer (some ⟨q, 0, none⟩)] w fun e w' => e = .returned (.tuple #[.agg #[.int .i64 j.p.id, .int .i64 j.p.un, .int .i64 j.p.fc, .int .i64 j.p.ad, .int .i64 j.p.qt, .slice j.A j.n j.c, .int .i64 j.p.to, .bool j.p.u], .bool true]) ∧ Mod (fun i => i = cu ∨ i = co) w w' ∧ Qu w' q cu co (U'.map Jm.v) (O'.map Jm.v) := by
  refine (qTake_any q cu co U O w h).mono ?_
  rintro e w' (⟨j2, U2, O2, e1, rfl, m, hq⟩ | ⟨e1, _⟩)
  · rw [hT] at e1
    simp only [Option.some.injEq, Prod.mk.injEq] at e1
    obtain ⟨rfl, rfl, rfl⟩ := e1
    exact ⟨rfl, m, hq⟩
  · rw [hT] at e1; cases e1
theorem qTake_no {q cu co : Nat} {U O : List Jm} {w : World} (h : Qu w q cu co (U.map Jm.v) (O.map Jm.v)) (hT : takeL U O = none) :
    Calls Try.prog 49 #[.pointer (some ⟨q, 0, none⟩)] w fun e w' => e = .returned (.tuple #[.agg #[.int .i64 0, .int .i64 0, .int .i64 0, .int .i64 0, .int .i64 0, .slice none 0 0, .int .i64 0, .bool false], .bool false]) ∧ Ext w w' := by
  refine (qTake_any q cu co U O w h).mono ?_
  rintro e w' (⟨j2, U2, O2, e1, _⟩ | ⟨_, rfl, E⟩)
  · rw [hT] at e1; cases e1
  · exact ⟨rfl, E⟩
theorem takeL_map {α β : Type} (f : α → β) (U O : List α) : takeL (U.map f) (O.map f) = (takeL U O).map fun x => (f x.1, x.2.1.map f, x.2.2.map f) := by
  rcases U with _ | ⟨u, U⟩
  · rcases O with _ | ⟨o, O⟩ <;> rfl
  · rfl
theorem line_take {k : Bool} {w : World} {a q s : Nat} {re wa sent times : Int} {busy : Bool} {J : Jm} (j : Jm) (h : w.heap[a]? = some (.cells (lineCells k s q re wa busy J sent times) 105 (0, 0))) :
    ((((((((((w.setCell ⟨a, 4, none⟩ (.bool true)).setCell ⟨a, 5, none⟩ (.int .i64 j.p.id)).setCell ⟨a, 6, none⟩ (.int .i64 j.p.un)).setCell ⟨a, 7, none⟩ (.int .i64 j.p.fc)).setCell ⟨a, 8, none⟩ (.int .i64 j.p.ad)).setCell ⟨a, 9, none⟩ (.int .i64 j.p.qt)).setCell ⟨a, 10, none⟩ (.slice j.A j.n j.c)).setCell ⟨a, 11, none⟩ (.int .i64 j.p.to)).setCell ⟨a, 12, none⟩ (.bool j.p.u)).setCell ⟨a, 14, none⟩ (.int .i64 0)).heap[a]? = some (.cells (lineCells k s q re wa true j sent 0) 105 (0, 0)) := by
  simp [World.setCell, Array.getElem?_modify, h, lineCells]
theorem line_take_mod (w : World) (a : Nat) (j : Jm) : Mod (fun i => i = a) w ((((((((((w.setCell ⟨a, 4, none⟩ (.bool true)).setCell ⟨a, 5, none⟩ (.int .i64 j.p.id)).setCell ⟨a, 6, none⟩ (.int .i64 j.p.un)).setCell ⟨a, 7, none⟩ (.int .i64 j.p.fc)).setCell ⟨a, 8, none⟩ (.int .i64 j.p.ad)).setCell ⟨a, 9, none⟩ (.int .i64 j.p.qt)).setCell ⟨a, 10, none⟩ (.slice j.A j.n j.c)).setCell ⟨a, 11, none⟩ (.int .i64 j.p.to)).setCell ⟨a, 12, none⟩ (.bool j.p.u)).setCell ⟨a, 14, none⟩ (.int .i64 0)) :=
  (((Mod.refl (fun i => i = a) w).setCell (p := ⟨a, 4, none⟩) (.inl rfl) _).trans (eight_mod_at _ a 5 _ _ _ _ _ _ _ _)).setCell (p := ⟨a, 14, none⟩) (.inl rfl) _
theorem HasLn.taken {k : Bool} {w w2 w3 w4 : World} {a q cu co s : Nat} {re wa : Int} {M : Lm} {j : Jm} {U' O' : List Jm} (h : HasLn k w a q cu co s re wa M) (hT : takeL M.U M.O = some (j, U', O')) (m2 : Mod (fun i => i = cu ∨ i = co) w w2)
    (Q2 : Qu w2 q cu co (U'.map Jm.v) (O'.map Jm.v)) (E3 : Ext w2 w3) (m4 : Mod (fun i => i = a) w3 w4) (hh : w4.heap[a]? = some (.cells (lineCells k s q re wa true j M.sent 0) 105 (0, 0))) :
    HasLn k w4 a q cu co s re wa { M with U := U', O := O', busy := true, J := j, times := 0 } ∧ Mod (LnB k a q cu co s) w w4 := by
  have hap := h.apart
  have m23 : Mod (LnB k a q cu co s) w w3 := (m2.weak (fun i hi => by
      rcases hi with rfl | rfl
      · exact .inr (.inr (.inl rfl))
      · exact .inr (.inr (.inr (.inl rfl))))).trans (E3.mod _)
  have mm : Mod (LnB k a q cu co s) w w4 := m23.trans (m4.weak (fun i hi => .inl hi))
  have hin : ∀ i, (i ∈ U' ∨ i ∈ O' ∨ i = j) → i ∈ M.U ∨ i ∈ M.O := by
    intro i hi
    rcases hU : M.U with _ | ⟨u, U⟩
    · rcases hO : M.O with _ | ⟨o, O⟩
      · rw [hU, hO] at hT; cases hT
      · rw [hU, hO] at hT
        simp only [takeL, Option.some.injEq, Prod.mk.injEq] at hT
        obtain ⟨rfl, rfl, rfl⟩ := hT
        simp at hi ⊢
        exact hi.symm
    · rw [hU] at hT
      simp only [takeL, Option.some.injEq, Prod.mk.injEq] at hT
      obtain ⟨rfl, rfl, rfl⟩ := hT
      simp
      rcases hi with hi | hi | hi
      · exact .inl (.inr hi)
      · exact .inr hi
      · exact .inl (.inl hi)
  have hlen : U'.length ≤ M.U.length ∧ O'.length ≤ M.O.length := by
    rcases hU : M.U with _ | ⟨u, U⟩
    · rcases hO : M.O with _ | ⟨o, O⟩
      · rw [hU, hO] at hT; cases hT
      · rw [hU, hO] at hT
        simp only [takeL, Option.some.injEq, Prod.mk.injEq] at hT
        obtain ⟨rfl, rfl, rfl⟩ := hT
        simp
    · rw [hU] at hT
      simp only [takeL, Option.some.injEq, Prod.mk.injEq] at hT
      obtain ⟨rfl, rfl, rfl⟩ := hT
      simp
  have hjob : ∀ i, (i ∈ U' ∨ i ∈ O' ∨ i = j) → OkJ w4 (LnB k a q cu co s) i ∧ i.p.ok := fun i hi => by
    have := h.jobs i (by rcases hin i hi with h1 | h1 <;> simp [h1])
    exact ⟨this.1.modS mm, this.2⟩
  refine ⟨⟨hh, (Q2.ext E3).mod m4 ?_, ?_, fun hk => (h.tr hk).modS mm ?_, h.num, h.re, h.wa, Nat.le_trans hlen.1 h.ul, Nat.le_trans hlen.2 h.ol, ⟨by dsimp only; omega, by dsimp only; omega⟩, h.se⟩, mm⟩
  · rintro b (rfl | rfl | rfl)
    · exact Ne.symm hap.1
    · exact Ne.symm hap.2.1
    · exact Ne.symm hap.2.2.1
  · rintro i (hi | hi | ⟨_, hi⟩)
    · exact hjob i (.inl hi)
    · exact hjob i (.inr (.inl hi))
    · exact hjob i (.inr (.inr hi))
  · have hs := h.lt (b := s) (.inr (.inr (.inr (.inr ⟨hk, rfl⟩))))
    have hne := hap.2.2.2 hk
    rw [m4.block s (Nat.lt_of_lt_of_le (Nat.lt_of_lt_of_le hs m2.size) E3.size) (Ne.symm hne.1), E3.block s (Nat.lt_of_lt_of_le hs m2.size), m2.block s hs (fun e => e.elim (Ne.symm hne.2.2.1) (Ne.symm hne.2.2.2))]
theorem DonesAt.nil (w : World) (base : Nat) : DonesAt w base (.slice none 0 0) [] := ⟨[], rfl, World.ownsRow_nil _ _ _ _, fun d hd => by simp at hd⟩
theorem BytesOut.from_ {w0 w w' : World} {v : Value} {l : List Int} (h : BytesOut w w' v l) (hs : w0.heap.size ≤ w.heap.size) : BytesOut w0 w' v l := by
  obtain ⟨A, n, c, e, h1, h2, h3, h4⟩ := h
  exact ⟨A, n, c, e, h1, h2, h3, fun b o e => by have := h4 b o e; omega⟩
theorem BytesOut.nil (w w' : World) : BytesOut w w' (.slice none 0 0) [] := ⟨none, 0, 0, rfl, Nat.le_refl _, by unfold maxLen; omega, RdI.nil _, fun b o e => by cases e⟩
section
variable (k : Bool) (a q cu co s : Nat) (re wa : Int) (M : Lm) (now : Int) (w : World)
set_option maxRecDepth 100000 in
set_option maxHeartbeats 3200000 in
theorem tick_idle (h : HasLn k w a q cu co s re wa M) (n0 : 0 ≤ now) (n1 : now ≤ 1099511627776) (hb : M.busy = false) :
    Calls Try.prog 14 #[.pointer (some ⟨a, 0, none⟩), .int .i64 now] w (TickPost k a q cu co s re wa M now w) := by
  have h' := Lib.hid h
  have c4 : w.cell? ⟨a, 4, none⟩ = some (.bool false) := by rw [← hb]; exact h.cells.2.2.2.2.1
  have f1 : decide (now < 0) = false := by simp; omega
  have f2 : decide (1099511627776 < now) = false := by simp; omega
  have q3 := h.cells.2.2.2.1
  clear h
  go_enter Try.func14, Try.ntmps14
  go_upto_region 5 with fail
  go_region
  have E1 : Ext w w.drew := (Ext.refl w).god
  generalize w.drew = w1 at *
  have h1 := Lib.hid (h'.out.ext E1)
  obtain ⟨_, _, _, g3, g4, _⟩ := h1.out.cells
  rw [hb] at g4
  clear c4 q3
  cases hT : takeL M.U M.O with
  | none =>
    have hc := qTake_no h1.out.qu hT
    have hT' := Lib.hid hT
    clear hT
    go_wp2_with (go_at_call 49; refine hc.mono ?_; rintro _ w2 ⟨rfl, E2⟩; dsimp only)
    go_ret2
    have hn : nextR k M.p now [] [] = ([], [], M.p) := by
      unfold nextR Lm.p
      dsimp only
      rw [takeL_map, hT'.out]
      rfl
    have ht := tick_idle_eq k re wa M.p now n0 n1 hb
    rw [hn] at ht
    have E3 := E1.go (E2.goA (.cells #[.int .i64 0, .int .i64 0, .int .i64 0, .int .i64 0, .int .i64 0, .slice none 0 0, .int .i64 0, .bool false] 32))
    refine ⟨_, _, rfl, ?_, ?_, E3.mod _, M, ?_, h'.out.ext E3⟩
    · rw [ht]; exact BytesOut.nil _ _
    · rw [ht]; exact DonesAt.nil _ _
    · rw [ht]
  | some x =>
    obtain ⟨j, U', O'⟩ := x
    have hc := qTake_some h1.out.qu hT
    have hT' := Lib.hid hT
    clear hT
    go_upto_region 12 with (go_at_call 49; refine hc.mono ?_; rintro _ w2 ⟨rfl, M2, Q2⟩; dsimp only)
    have E3 : Ext w2 (w2.alloc (.cells #[.int .i64 j.p.id, .int .i64 j.p.un, .int .i64 j.p.fc, .int .i64 j.p.ad, .int .i64 j.p.qt, .slice j.A j.n j.c, .int .i64 j.p.to, .bool j.p.u] 32)) := (Ext.refl w2).goA _
    have b3 : (w2.alloc (.cells #[.int .i64 j.p.id, .int .i64 j.p.un, .int .i64 j.p.fc, .int .i64 j.p.ad, .int .i64 j.p.qt, .slice j.A j.n j.c, .int .i64 j.p.to, .bool j.p.u] 32)).heap[w2.heap.size]? = some (.cells #[.int .i64 j.p.id, .int .i64 j.p.un, .int .i64 j.p.fc, .int .i64 j.p.ad, .int .i64 j.p.qt, .slice j.A j.n j.c, .int .i64 j.p.to, .bool j.p.u] 32 (0, 0)) := heap_alloc_new w2 _
    generalize w2.alloc (.cells #[.int .i64 j.p.id, .int .i64 j.p.un, .int .i64 j.p.fc, .int .i64 j.p.ad, .int .i64 j.p.qt, .slice j.A j.n j.c, .int .i64 j.p.to, .bool j.p.u] 32) = w3 at *
    have hap := h1.out.apart
    have ha2 : a < w2.heap.size := M2.size_lt (h1.out.lt (.inl rfl))
    have p3 : w3.heap[a]? = some (.cells (lineCells k s q re wa M.busy M.J M.sent M.times) 105 (0, 0)) := (E3.block a ha2).trans ((M2.block a (h1.out.lt (.inl rfl)) (fun e => e.elim hap.2.1 hap.2.2.1)).trans h1.out.head)
    have p3' := Lib.hid p3
    have fz : ∀ j, w3.frozen? ⟨a, j, none⟩ = false := fun j => frozen_block p3 j
    have pc := cellsAt p3
    have p4 : w3.cell? ⟨a, 4, none⟩ = some (.bool M.busy) := pc 4
    have p5 : w3.cell? ⟨a, 5, none⟩ = some (.int .i64 M.J.p.id) := pc 5
    have p6 : w3.cell? ⟨a, 6, none⟩ = some (.int .i64 M.J.p.un) := pc 6
    have p7 : w3.cell? ⟨a, 7, none⟩ = some (.int .i64 M.J.p.fc) := pc 7
    have p8 : w3.cell? ⟨a, 8, none⟩ = some (.int .i64 M.J.p.ad) := pc 8
    have p9 : w3.cell? ⟨a, 9, none⟩ = some (.int .i64 M.J.p.qt) := pc 9
    have p10 : w3.cell? ⟨a, 10, none⟩ = some (.slice M.J.A M.J.n M.J.c) := pc 10
    have p11 : w3.cell? ⟨a, 11, none⟩ = some (.int .i64 M.J.p.to) := pc 11
    have p12 : w3.cell? ⟨a, 12, none⟩ = some (.bool M.J.p.u) := pc 12
    have p14 : w3.cell? ⟨a, 14, none⟩ = some (.int .i64 M.times) := pc 14
    have ne : a ≠ w2.heap.size := by omega
    have r0 : ∀ w', Mod (fun i => i = a) w3 w' → w'.cell? ⟨w2.heap.size, 0, none⟩ = some (.int .i64 j.p.id) := fun w' E => (E.cell 0 (lt_of_block b3) (Ne.symm ne)).trans (cellsAt b3 0)
    have r1 : ∀ w', Mod (fun i => i = a) w3 w' → w'.cell? ⟨w2.heap.size, 1, none⟩ = some (.int .i64 j.p.un) := fun w' E => (E.cell 1 (lt_of_block b3) (Ne.symm ne)).trans (cellsAt b3 1)
    have r2 : ∀ w', Mod (fun i => i = a) w3 w' → w'.cell? ⟨w2.heap.size, 2, none⟩ = some (.int .i64 j.p.fc) := fun w' E => (E.cell 2 (lt_of_block b3) (Ne.symm ne)).trans (cellsAt b3 2)
    have r3 : ∀ w', Mod (fun i => i = a) w3 w' → w'.cell? ⟨w2.heap.size, 3, none⟩ = some (.int .i64 j.p.ad) := fun w' E => (E.cell 3 (lt_of_block b3) (Ne.symm ne)).trans (cellsAt b3 3)
    have r4 : ∀ w', Mod (fun i => i = a) w3 w' → w'.cell? ⟨w2.heap.size, 4, none⟩ = some (.int .i64 j.p.qt) := fun w' E => (E.cell 4 (lt_of_block b3) (Ne.symm ne)).trans (cellsAt b3 4)
    have r5 : ∀ w', Mod (fun i => i = a) w3 w' → w'.cell? ⟨w2.heap.size, 5, none⟩ = some (.slice j.A j.n j.c) := fun w' E => (E.cell 5 (lt_of_block b3) (Ne.symm ne)).trans (cellsAt b3 5)
    have r6 : ∀ w', Mod (fun i => i = a) w3 w' → w'.cell? ⟨w2.heap.size, 6, none⟩ = some (.int .i64 j.p.to) := fun w' E => (E.cell 6 (lt_of_block b3) (Ne.symm ne)).trans (cellsAt b3 6)
    have r7 : ∀ w', Mod (fun i => i = a) w3 w' → w'.cell? ⟨w2.heap.size, 7, none⟩ = some (.bool j.p.u) := fun w' E => (E.cell 7 (lt_of_block b3) (Ne.symm ne)).trans (cellsAt b3 7)
    clear pc p3 b3
    refine wp_region_held_drew (S := fun w' => Mod (fun i => i = a) w3 w') (by kernel_rfl) ((Mod.refl _ w3).drew) (fun hHeld => ?_)
    refine wpAnyH_take (i := 0) (oi := _) (v := ?_) rfl (by kernel_rfl) (by kernel_rfl) (by kernel_rfl) (fun _ _ _ h => h) (Or.inl ⟨by rfl, ?_⟩) (by assumption) ?_
    rotate_left
    · intro w hSw
      (try dsimp only at hSw)
      go_simp
      try (with_reducible rfl)
    try simp only [Act.put, List.getElem_toArray, List.getElem_cons_zero, List.setIfInBounds_toArray, List.set_cons_zero, List.set_cons_succ]
    refine wpAnyH_take (i := 1) (oi := _) (v := ?_) rfl (by kernel_rfl) (by kernel_rfl) (by kernel_rfl) (fun _ _ _ h => h) (Or.inl ⟨by rfl, ?_⟩) (by assumption) ?_
    rotate_left
    · intro w hSw
      (try dsimp only at hSw)
      go_simp
      try (with_reducible rfl)
    try simp only [Act.put, List.getElem_toArray, List.getElem_cons_succ, List.getElem_cons_zero, List.setIfInBounds_toArray, List.set_cons_zero, List.set_cons_succ]
    refine wpAnyH_take (i := 2) (oi := _) (v := ?_) rfl (by kernel_rfl) (by kernel_rfl) (by kernel_rfl) (fun _ _ _ h => h) (Or.inl ⟨by rfl, ?_⟩) (by assumption) ?_
    rotate_left
    · intro w hSw
      (try dsimp only at hSw)
      go_simp
      try (with_reducible rfl)
    try simp only [Act.put, List.getElem_toArray, List.getElem_cons_succ, List.getElem_cons_zero, List.setIfInBounds_toArray, List.set_cons_zero, List.set_cons_succ]
    refine wpAnyH_take (i := 3) (oi := _) (v := ?_) rfl (by kernel_rfl) (by kernel_rfl) (by kernel_rfl) (fun _ _ _ h => h) (Or.inl ⟨by rfl, ?_⟩) (by assumption) ?_
    rotate_left
    · intro w hSw
      (try dsimp only at hSw)
      go_simp
      try (with_reducible rfl)
    try simp only [Act.put, List.getElem_toArray, List.getElem_cons_succ, List.getElem_cons_zero, List.setIfInBounds_toArray, List.set_cons_zero, List.set_cons_succ]
    refine wpAnyH_take (i := 4) (oi := _) (v := ?_) rfl (by kernel_rfl) (by kernel_rfl) (by kernel_rfl) (fun _ _ _ h => h) (Or.inl ⟨by rfl, ?_⟩) (by assumption) ?_
    rotate_left
    · intro w hSw
      (try dsimp only at hSw)
      go_simp
      try (with_reducible rfl)
    try simp only [Act.put, List.getElem_toArray, List.getElem_cons_succ, List.getElem_cons_zero, List.setIfInBounds_toArray, List.set_cons_zero, List.set_cons_succ]
    refine wpAnyH_take (i := 5) (oi := _) (v := ?_) rfl (by kernel_rfl) (by kernel_rfl) (by kernel_rfl) (fun _ _ _ h => h) (Or.inl ⟨by rfl, ?_⟩) (by assumption) ?_
    rotate_left
    · intro w hSw
      (try dsimp only at hSw)
      go_simp
      try (with_reducible rfl)
    try simp only [Act.put, List.getElem_toArray, List.getElem_cons_succ, List.getElem_cons_zero, List.setIfInBounds_toArray, List.set_cons_zero, List.set_cons_succ]
    refine wpAnyH_ready (rs := [6]) (by kernel_rfl) (by simp) ?_
    refine AllReadyH.cons rfl (fun K hK => ?_) ?_
    rotate_left
    · exact AllReadyH.nil
    go_simp
    refine hK.out _ _ ?_ (fun hHeld => ?_)
    · exact Mod.setCell hHeld (.inl rfl) _
    clear hK K
    try simp only [Act.put, List.getElem_toArray, List.getElem_cons_succ, List.getElem_cons_zero, List.setIfInBounds_toArray, List.set_cons_zero, List.set_cons_succ]
    refine wpAnyH_take (i := 7) (oi := _) (v := ?_) rfl (by kernel_rfl) (by kernel_rfl) (by kernel_rfl) (fun _ _ _ h => h) (Or.inl ⟨by rfl, ?_⟩) (by assumption) ?_
    rotate_left
    · intro w hSw
      (try dsimp only at hSw)
      go_simp
      try (with_reducible rfl)
    try simp only [Act.put, List.getElem_toArray, List.getElem_cons_succ, List.getElem_cons_zero, List.setIfInBounds_toArray, List.set_cons_zero, List.set_cons_succ]
    refine wpAnyH_take (i := 8) (oi := _) (v := ?_) rfl (by kernel_rfl) (by kernel_rfl) (by kernel_rfl) (fun _ _ _ h => h) (Or.inl ⟨by rfl, ?_⟩) (by assumption) ?_
    rotate_left
    · intro w hSw
      (try dsimp only at hSw)
      go_simp
      try (with_reducible rfl)
    try simp only [Act.put, List.getElem_toArray, List.getElem_cons_succ, List.getElem_cons_zero, List.setIfInBounds_toArray, List.set_cons_zero, List.set_cons_succ]
    refine wpAnyH_ready (rs := [9]) (by kernel_rfl) (by simp) ?_
    refine AllReadyH.cons rfl (fun K hK => ?_) ?_
    rotate_left
    · exact AllReadyH.nil
    go_simp
    refine hK.out _ _ ?_ (fun hHeld => ?_)
    · exact Mod.drew (Mod.trans (Mod.setCell (Mod.refl (fun i => i = a) w3) (p := ⟨a, 4, none⟩) (.inl rfl) _) (eight_mod_at _ a 5 _ _ _ _ _ _ _ _))
    clear hK K
    try simp only [Act.put, List.getElem_toArray, List.getElem_cons_succ, List.getElem_cons_zero, List.setIfInBounds_toArray, List.set_cons_zero, List.set_cons_succ]
    refine wpAnyH_take (i := 10) (oi := _) (v := ?_) rfl (by kernel_rfl) (by kernel_rfl) (by kernel_rfl) (fun _ _ _ h => h) (Or.inl ⟨by rfl, ?_⟩) (by assumption) ?_
    rotate_left
    · intro w hSw
      (try dsimp only at hSw)
      go_simp
      try (with_reducible rfl)
    try simp only [Act.put, List.getElem_toArray, List.getElem_cons_succ, List.getElem_cons_zero, List.setIfInBounds_toArray, List.set_cons_zero, List.set_cons_succ]
    refine wpAnyH_take (i := 11) (oi := _) (v := ?_) rfl (by kernel_rfl) (by kernel_rfl) (by kernel_rfl) (fun _ _ _ h => h) (Or.inl ⟨by rfl, ?_⟩) (by assumption) ?_
    rotate_left
    · intro w hSw
      (try dsimp only at hSw)
      go_simp
      try (with_reducible rfl)
    try simp only [Act.put, List.getElem_toArray, List.getElem_cons_succ, List.getElem_cons_zero, List.setIfInBounds_toArray, List.set_cons_zero, List.set_cons_succ]
    refine wpAnyH_ready (rs := [12]) (by kernel_rfl) (by simp) ?_
    refine AllReadyH.cons rfl (fun K hK => ?_) ?_
    rotate_left
    · exact AllReadyH.nil
    go_simp
    refine hK.out _ _ ?_ (fun hHeld => ?_)
    · exact Mod.drew (line_take_mod w3 a j)
    clear hK K
    try simp only [Act.put, List.getElem_toArray, List.getElem_cons_succ, List.getElem_cons_zero, List.setIfInBounds_toArray, List.set_cons_zero, List.set_cons_succ]
    refine wpAnyH_done (by kernel_rfl) ?_ _
    have p4 := line_take j p3'.out
    have M4 := line_take_mod w3 a j
    generalize (((((((((w3.setCell ⟨a, 4, none⟩ (.bool true)).setCell ⟨a, 5, none⟩ (.int .i64 j.p.id)).setCell ⟨a, 6, none⟩ (.int .i64 j.p.un)).setCell ⟨a, 7, none⟩ (.int .i64 j.p.fc)).setCell ⟨a, 8, none⟩ (.int .i64 j.p.ad)).setCell ⟨a, 9, none⟩ (.int .i64 j.p.qt)).setCell ⟨a, 10, none⟩ (.slice j.A j.n j.c)).setCell ⟨a, 11, none⟩ (.int .i64 j.p.to)).setCell ⟨a, 12, none⟩ (.bool j.p.u)).setCell ⟨a, 14, none⟩ (.int .i64 0) = w4 at *
    obtain ⟨h4, m14⟩ := h1.out.taken hT'.out M2 Q2 E3 M4 p4
    have h4' := Lib.hid (h4.ext ((Ext.refl w4).god))
    have M4' := Lib.hid m14
    have p4' := Lib.hid p4
    have S4 : w1.heap.size ≤ w4.heap.size := m14.size
    have hsend := lineSend_any k a q cu co s re wa _ now w4.drew h4'.out rfl (by dsimp only; omega) n0 n1
    clear p4 p5 p6 p7 p8 p9 p10 p11 p12 p14 r0 r1 r2 r3 r4 r5 r6 r7 fz h4 m14
    go_wp2_with (go_at_call 47; refine hsend.mono ?_; rintro _ w5 ⟨v, rfl, hB, M5, N, hN, h5⟩; dsimp only)
    go_ret2
    have hn : nextR k M.p now [] [] = (sentBytes k (takenL M.p j.p (U'.map Jm.p) (O'.map Jm.p)), [], sentL k (takenL M.p j.p (U'.map Jm.p) (O'.map Jm.p)) now) := by
      unfold nextR
      rw [show M.p.U = M.U.map Jm.p from rfl, show M.p.O = M.O.map Jm.p from rfl, takeL_map, hT'.out]
      rfl
    have ht := tick_idle_eq k re wa M.p now n0 n1 hb
    rw [hn] at ht
    refine ⟨_, _, rfl, ?_, ?_, ?_, N, ?_, h5⟩
    · rw [ht]; exact hB.from_ (Nat.le_trans E1.size S4)
    · rw [ht]; exact DonesAt.nil _ _
    · exact (E1.mod _).trans (M4'.out.trans (((Ext.refl w4).god.mod _).trans M5))
    · rw [ht]; exact hN
end
end Go.Proofs.Ytgagpalffdgjnaa
