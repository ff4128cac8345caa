/- Layer 21, the walks: Tick of a line that is busy. -/
import Derived.Test.YtgagpalffdgjnaaLineD
namespace Go.Proofs.Ytgagpalffdgjnaa
open Go.RowKit

theorem own_modS {w w' : World} {base n size : Nat} {e : TypeId} {v : Value} {xs : List Value} {S : Nat → Prop} (h : w.ownsRow base e size v n xs) (hm : Mod S w w') (hp : ∀ i, S i → i < base) : w'.ownsRow base e size v n xs := by
  refine ⟨h.1, ?_⟩
  rcases h.2 with hn | ⟨g, cap, cur, hv, hb, hg, rest⟩
  · exact .inl hn
  · exact .inr ⟨g, cap, cur, hv, hb, (hm.block g (Array.getElem?_eq_some_iff.1 hg).1 (fun hs => by have := hp g hs; omega)).trans hg, rest⟩
theorem info_done : ∃ i, Try.prog.info? 56 = some i ∧ i.zero = some (.agg #[.int .i64 0, .int .i64 0, .int .i64 0, .slice none 0 0]) ∧ i.size = 4 ∧ i.bytes = 48 := by
  have h : (Try.prog.info? 56).map (fun i => (i.zero, i.size, i.bytes)) = some (some (.agg #[.int .i64 0, .int .i64 0, .int .i64 0, .slice none 0 0]), 4, 48) := by kernel_rfl
  obtain ⟨i, hi, hb⟩ := Option.map_eq_some_iff.1 h
  simp only [Prod.mk.injEq] at hb
  exact ⟨i, hi, hb.1, hb.2.1, hb.2.2⟩
/-- One more thing done is appended. -/
theorem wpList_appD {ops : Array Oper} {rest : List Oper} {o : Oper} {a : Act} {w : World} {Q : Exit → Act → World → Prop} (hgd : o.guard = none) (s x : Operand) (t : TypeId)
    (ho : o.op = .call { callee := .builtin .append, args := #[s, x], argTypes := #[t, t] }) (ht : Try.prog.underlying t = some (.slice 56)) (base : Nat) (v : Value) (n : Nat) (xs : List Value) (hs : a.eval s = v) (hown : w.ownsRow base 56 4 v n xs)
    (g : Nat) (id err code : Int) (A : Option Addr) (m c : Nat) (hx : a.eval x = .slice (some ⟨g, 0, none⟩) 1 1) (hg : w.heap[g]? = some (.cells #[.int .i64 id, .int .i64 err, .int .i64 code, .slice A m c] 56 (0, 0))) (hn : n ≤ 100000) (hbase : base ≤ w.heap.size)
    (h : ∀ v' w', w'.ownsRow base 56 4 v' (n + 1) (xs ++ [.int .i64 id, .int .i64 err, .int .i64 code, .slice A m c]) → w.grownBy w' v.ownBlock → wpList Try.prog ops Q rest (a.put o.dst v') w') :
    wpList Try.prog ops Q (o :: rest) a w := by
  obtain ⟨i, hi, hz, h4, hb⟩ := info_done
  refine wpList_append_own_at w hgd s x t ho base 56 i _ 4 48 ht hi hz h4 hb rfl (by decide) v n xs hs hown ⟨g, 0, none⟩ 1 1 [.int .i64 id, .int .i64 err, .int .i64 code, .slice A m c] hx rfl ?_ ?_ (by unfold maxLen; omega) (by omega) hbase (fun v' w' h1 h2 _ _ => h v' w' h1 h2)
  · intro j u hj
    have hc := cellsAt hg
    have : (⟨g, 0, none⟩ : Addr).add j = ⟨g, j, none⟩ := by unfold Addr.add; split <;> simp_all
    rw [this, hc j, ← hj]
    simp
  · intro u hu
    simp at hu
    rcases hu with rfl | rfl | rfl | rfl <;> rfl
theorem DonesAt.late {w : World} {base : Nat} {v : Value} {id : Int} (h : w.ownsRow base 56 4 v 1 [.int .i64 id, .int .i64 211, .int .i64 0, .slice none 0 0]) : DonesAt w base v [⟨id, 211, 0, []⟩] :=
  ⟨[⟨⟨id, 211, 0, []⟩, none, 0, 0⟩], rfl, h, fun d hd => by
    obtain rfl := List.mem_singleton.1 hd
    exact ⟨RdI.nil _, fun j => by simp, Nat.le_refl _, by show (0 : Nat) ≤ maxLen; unfold maxLen; omega⟩⟩
theorem tick_due (k : Bool) (re wa : Int) (L : Lp) (now : Int) (n0 : 0 ≤ now) (n1 : now ≤ 1099511627776) (hb : L.busy = true) :
    (now - L.sent < wa → tickR k re wa L now = ([], [], L)) ∧ (wa ≤ now - L.sent → L.times ≤ re → tickR k re wa L now = (sentBytes k L, [], sentL k L now)) ∧ (wa ≤ now - L.sent → re < L.times → tickR k re wa L now = nextR k (endL L) now [] [⟨L.J.id, 211, 0, []⟩]) := by
  unfold tickR dueB
  rw [if_neg (by omega), hb]
  refine ⟨fun h => ?_, fun h h2 => ?_, fun h h2 => ?_⟩
  · rw [decide_eq_false (by omega)]; rfl
  · have : L.times ≤ re := h2
    simp [decide_eq_true h, h2]
  · have : ¬ L.times ≤ re := by omega
    simp [decide_eq_true h, this]
section
variable (k : Bool) (a q cu co s : Nat) (re wa : Int) (M : Lm) (now : Int) (w : World)
set_option maxRecDepth 100000 in
set_option maxHeartbeats 3200000 in
theorem tick_wait (h : HasLn k w a q cu co s re wa M) (n0 : 0 ≤ now) (n1 : now ≤ 1099511627776) (hb : M.busy = true) (hd : now - M.sent < wa) :
    Calls Try.prog 14 #[.pointer (some ⟨a, 0, none⟩), .int .i64 now] w (TickPost k a q cu co s re wa M now w) := by
  have h' := Lib.hid h
  obtain ⟨_, _, c2, _, c4, _, _, _, _, _, _, _, _, c13, _⟩ := h.cells
  rw [hb] at c4
  have f1 : decide (now < 0) = false := by simp; omega
  have f2 : decide (1099511627776 < now) = false := by simp; omega
  have f3 : IntKind.i64.wrap (now - M.sent) = now - M.sent := by rw [IntKind.wrap_i64]; have := h.se; omega
  have f4 : decide (wa ≤ now - M.sent) = false := by simp; omega
  have ht := Lib.hid ((tick_due k re wa M.p now n0 n1 hb).1 hd)
  clear h
  go_enter Try.func14, Try.ntmps14
  go_upto_region 5 with fail
  go_region
  all_goals
    have c4' : w.drew.cell? ⟨a, 4, none⟩ = some (.bool true) := c4
    have E1 : Ext w w.drew := (Ext.refl w).god
    generalize w.drew = w1 at *
    go_wp2_with fail
    go_ret2
    refine ⟨_, _, rfl, ?_, ?_, E1.mod _, M, ?_, h'.out.ext E1⟩
    · rw [ht.out]; exact BytesOut.nil _ _
    · rw [ht.out]; exact DonesAt.nil _ _
    · rw [ht.out]
set_option maxRecDepth 100000 in
set_option maxHeartbeats 3200000 in
theorem tick_again (h : HasLn k w a q cu co s re wa M) (n0 : 0 ≤ now) (n1 : now ≤ 1099511627776) (hb : M.busy = true) (hd : wa ≤ now - M.sent) (hr : M.times ≤ re) :
    Calls Try.prog 14 #[.pointer (some ⟨a, 0, none⟩), .int .i64 now] w (TickPost k a q cu co s re wa M now w) := by
  have h' := Lib.hid h
  obtain ⟨_, c1, c2, _, c4, _, _, _, _, _, _, _, _, c13, c14⟩ := h.cells
  rw [hb] at c4
  have f1 : decide (now < 0) = false := by simp; omega
  have f2 : decide (1099511627776 < now) = false := by simp; omega
  have f3 : IntKind.i64.wrap (now - M.sent) = now - M.sent := by rw [IntKind.wrap_i64]; have := h.se; omega
  have f4 : decide (wa ≤ now - M.sent) = true := by simp; omega
  have f5 : decide (M.times ≤ re) = true := by simp; omega
  have ht := Lib.hid ((tick_due k re wa M.p now n0 n1 hb).2.1 hd hr)
  have hre := h.re
  clear h
  go_enter Try.func14, Try.ntmps14
  go_upto_region 5 with fail
  go_region
  all_goals
    go_upto_region 6 with fail
    go_region
  all_goals
    have E1 : Ext w w.drew.drew := ((Ext.refl w).god).god
    generalize w.drew.drew = w1 at *
    have h1 := Lib.hid (h'.out.ext E1)
    have hs := lineSend_any k a q cu co s re wa M now w1 h1.out hb (by omega) n0 n1
    go_wp2_with (go_at_call 47; refine hs.mono ?_; rintro _ w2 ⟨v, rfl, hB, M2, N, hN, h2⟩; have hbu : w2.cell? ⟨a, 4, none⟩ = some (.bool true) := h2.cells.2.2.2.2.1.trans (congrArg (fun b => some (Value.bool b)) ((congrArg Lp.busy hN).trans hb)); dsimp only)
    go_ret2
    refine ⟨_, _, rfl, ?_, ?_, (E1.mod _).trans M2, N, ?_, h2⟩
    · rw [ht.out]; exact hB.from_ E1.size
    · rw [ht.out]; exact DonesAt.nil _ _
    · rw [ht.out]; exact hN
set_option maxRecDepth 100000 in
set_option maxHeartbeats 3200000 in
theorem tick_late (h : HasLn k w a q cu co s re wa M) (n0 : 0 ≤ now) (n1 : now ≤ 1099511627776) (hb : M.busy = true) (hd : wa ≤ now - M.sent) (hr : re < M.times) :
    Calls Try.prog 14 #[.pointer (some ⟨a, 0, none⟩), .int .i64 now] w (TickPost k a q cu co s re wa M now w) := by
  have h' := Lib.hid h
  obtain ⟨_, c1, c2, _, c4, _, _, _, _, _, _, _, _, c13, c14⟩ := h.cells
  rw [hb] at c4
  have f1 : decide (now < 0) = false := by simp; omega
  have f2 : decide (1099511627776 < now) = false := by simp; omega
  have f3 : IntKind.i64.wrap (now - M.sent) = now - M.sent := by rw [IntKind.wrap_i64]; have := h.se; omega
  have f4 : decide (wa ≤ now - M.sent) = true := by simp; omega
  have f5 : decide (M.times ≤ re) = false := by simp; omega
  have hdue : Hid (tickR k re wa M.p now = nextR k (endL M.p) now [] [⟨M.J.p.id, 211, 0, []⟩]) := Lib.hid ((tick_due k re wa M.p now n0 n1 hb).2.2 hd hr)
  clear h
  go_enter Try.func14, Try.ntmps14
  go_upto_region 5 with fail
  go_region
  all_goals
    go_upto_region 6 with fail
    go_region
  all_goals
    have E0 : Ext w w.drew.drew := ((Ext.refl w).god).god
    generalize w.drew.drew = w0 at *
    have h0 := Lib.hid (h'.out.ext E0)
    have he := lineEnd_any k a q cu co s re wa M 211 0 none 0 0 w0 h0.out
    clear c1 c2 c4 c13 c14 f3 f4 f5
    go_upto_region 9 with (first | (go_at_call 48; refine he.mono ?_; rintro _ w2 ⟨rfl, M2, h2⟩; dsimp only [doneV]) | (at_builtin; refine wpList_appD rfl (.tmp 45) (.tmp 49) _ rfl Try.underlying35 w.heap.size _ 0 [] rfl (World.ownsRow_nil _ _ _ _) w2.heap.size M.J.p.id 211 0 none 0 0 rfl (heap_alloc_new w2 _) (by omega) (by have := E0.size; have := M2.size; simp; omega) ?_; intro v3 w3 own3 hg3))
    have m01 := Lib.hid (((E0.mod (LnB k a q cu co s)).trans (M2.weak (fun i hi => .inl hi))).trans (((Ext.refl w2).goA (.cells #[.int .i64 M.J.p.id, .int .i64 211, .int .i64 0, .slice none 0 0] 56)).goG hg3 (fun i hi => by cases hi) |>.mod _))
    have E23 : Ext w2 w3 := ((Ext.refl w2).goA (.cells #[.int .i64 M.J.p.id, .int .i64 211, .int .i64 0, .slice none 0 0] 56)).goG hg3 (fun i hi => by cases hi)
    obtain ⟨M1, hM1⟩ : ∃ M1 : Lm, M1 = { M with busy := false, J := jmZ } := ⟨_, rfl⟩
    have h1 := h2.ext E23
    rw [← hM1] at h1
    have hp1 : M1.p = endL M.p := by rw [hM1]; rfl
    have hb1 : M1.busy = false := by rw [hM1]
    have hdue' := hdue
    rw [← hp1] at hdue'
    have h1 := Lib.hid h1
    have own1 := Lib.hid own3
    clear hM1 hp1 own3 hg3 E23 h2 M2
    generalize w3 = w1 at *
    obtain ⟨_, _, _, g3, g4, _⟩ := h1.out.cells
    rw [hb1] at g4
    cases hT : takeL M1.U M1.O with
    | none =>
      have hc := qTake_no h1.out.qu hT
      have hT' := Lib.hid hT
      clear hT
      go_wp2_with (go_at_call 49; refine hc.mono ?_; rintro _ w2 ⟨rfl, E2⟩; dsimp only)
      go_ret2
      have hn : nextR k M1.p now [] [⟨M.J.p.id, 211, 0, []⟩] = ([], [⟨M.J.p.id, 211, 0, []⟩], M1.p) := by
        unfold nextR Lm.p
        dsimp only
        rw [takeL_map, hT'.out]
        rfl
      have ht := hdue'.out
      rw [hn] at ht
      have E3 := (E2.goA (.cells #[.int .i64 0, .int .i64 0, .int .i64 0, .int .i64 0, .int .i64 0, .slice none 0 0, .int .i64 0, .bool false] 32))
      refine ⟨_, _, rfl, ?_, ?_, m01.out.trans (E3.mod _), M1, ?_, h1.out.ext E3⟩
      · rw [ht]; exact BytesOut.nil _ _
      · rw [ht]; exact DonesAt.late (own_ext own1.out E3)
      · rw [ht]
    | some x =>
      obtain ⟨j, U', O'⟩ := x
      have hc := qTake_some h1.out.qu hT
      have hT' := Lib.hid hT
      clear hT
      go_upto_region 12 with (go_at_call 49; refine hc.mono ?_; rintro _ w2 ⟨rfl, M2, Q2⟩; dsimp only)
      have E3 : Ext w2 (w2.alloc (.cells #[.int .i64 j.p.id, .int .i64 j.p.un, .int .i64 j.p.fc, .int .i64 j.p.ad, .int .i64 j.p.qt, .slice j.A j.n j.c, .int .i64 j.p.to, .bool j.p.u] 32)) := (Ext.refl w2).goA _
      have b3 : (w2.alloc (.cells #[.int .i64 j.p.id, .int .i64 j.p.un, .int .i64 j.p.fc, .int .i64 j.p.ad, .int .i64 j.p.qt, .slice j.A j.n j.c, .int .i64 j.p.to, .bool j.p.u] 32)).heap[w2.heap.size]? = some (.cells #[.int .i64 j.p.id, .int .i64 j.p.un, .int .i64 j.p.fc, .int .i64 j.p.ad, .int .i64 j.p.qt, .slice j.A j.n j.c, .int .i64 j.p.to, .bool j.p.u] 32 (0, 0)) := heap_alloc_new w2 _
      generalize w2.alloc (.cells #[.int .i64 j.p.id, .int .i64 j.p.un, .int .i64 j.p.fc, .int .i64 j.p.ad, .int .i64 j.p.qt, .slice j.A j.n j.c, .int .i64 j.p.to, .bool j.p.u] 32) = w3 at *
      have hap := h1.out.apart
      have ha2 : a < w2.heap.size := M2.size_lt (h1.out.lt (.inl rfl))
      have p3 : w3.heap[a]? = some (.cells (lineCells k s q re wa M1.busy M1.J M1.sent M1.times) 105 (0, 0)) := (E3.block a ha2).trans ((M2.block a (h1.out.lt (.inl rfl)) (fun e => e.elim hap.2.1 hap.2.2.1)).trans h1.out.head)
      have p3' := Lib.hid p3
      have fz : ∀ j, w3.frozen? ⟨a, j, none⟩ = false := fun j => frozen_block p3 j
      have pc := cellsAt p3
      have p4 : w3.cell? ⟨a, 4, none⟩ = some (.bool M1.busy) := pc 4
      have p5 : w3.cell? ⟨a, 5, none⟩ = some (.int .i64 M1.J.p.id) := pc 5
      have p6 : w3.cell? ⟨a, 6, none⟩ = some (.int .i64 M1.J.p.un) := pc 6
      have p7 : w3.cell? ⟨a, 7, none⟩ = some (.int .i64 M1.J.p.fc) := pc 7
      have p8 : w3.cell? ⟨a, 8, none⟩ = some (.int .i64 M1.J.p.ad) := pc 8
      have p9 : w3.cell? ⟨a, 9, none⟩ = some (.int .i64 M1.J.p.qt) := pc 9
      have p10 : w3.cell? ⟨a, 10, none⟩ = some (.slice M1.J.A M1.J.n M1.J.c) := pc 10
      have p11 : w3.cell? ⟨a, 11, none⟩ = some (.int .i64 M1.J.p.to) := pc 11
      have p12 : w3.cell? ⟨a, 12, none⟩ = some (.bool M1.J.p.u) := pc 12
      have p14 : w3.cell? ⟨a, 14, none⟩ = some (.int .i64 M1.times) := pc 14
      have ne : a ≠ w2.heap.size := by omega
      have r0 : ∀ w', Mod (fun i => i = a) w3 w' → w'.cell? ⟨w2.heap.size, 0, none⟩ = some (.int .i64 j.p.id) := fun w' E => (E.cell 0 (lt_of_block b3) (Ne.symm ne)).trans (cellsAt b3 0)
      have r1 : ∀ w', Mod (fun i => i = a) w3 w' → w'.cell? ⟨w2.heap.size, 1, none⟩ = some (.int .i64 j.p.un) := fun w' E => (E.cell 1 (lt_of_block b3) (Ne.symm ne)).trans (cellsAt b3 1)
      have r2 : ∀ w', Mod (fun i => i = a) w3 w' → w'.cell? ⟨w2.heap.size, 2, none⟩ = some (.int .i64 j.p.fc) := fun w' E => (E.cell 2 (lt_of_block b3) (Ne.symm ne)).trans (cellsAt b3 2)
      have r3 : ∀ w', Mod (fun i => i = a) w3 w' → w'.cell? ⟨w2.heap.size, 3, none⟩ = some (.int .i64 j.p.ad) := fun w' E => (E.cell 3 (lt_of_block b3) (Ne.symm ne)).trans (cellsAt b3 3)
      have r4 : ∀ w', Mod (fun i => i = a) w3 w' → w'.cell? ⟨w2.heap.size, 4, none⟩ = some (.int .i64 j.p.qt) := fun w' E => (E.cell 4 (lt_of_block b3) (Ne.symm ne)).trans (cellsAt b3 4)
      have r5 : ∀ w', Mod (fun i => i = a) w3 w' → w'.cell? ⟨w2.heap.size, 5, none⟩ = some (.slice j.A j.n j.c) := fun w' E => (E.cell 5 (lt_of_block b3) (Ne.symm ne)).trans (cellsAt b3 5)
      have r6 : ∀ w', Mod (fun i => i = a) w3 w' → w'.cell? ⟨w2.heap.size, 6, none⟩ = some (.int .i64 j.p.to) := fun w' E => (E.cell 6 (lt_of_block b3) (Ne.symm ne)).trans (cellsAt b3 6)
      have r7 : ∀ w', Mod (fun i => i = a) w3 w' → w'.cell? ⟨w2.heap.size, 7, none⟩ = some (.bool j.p.u) := fun w' E => (E.cell 7 (lt_of_block b3) (Ne.symm ne)).trans (cellsAt b3 7)
      clear pc p3 b3
      refine wp_region_held_drew (S := fun w' => Mod (fun i => i = a) w3 w') (by kernel_rfl) ((Mod.refl _ w3).drew) (fun hHeld => ?_)
      refine wpAnyH_take (i := 0) (oi := _) (v := ?_) rfl (by kernel_rfl) (by kernel_rfl) (by kernel_rfl) (fun _ _ _ h => h) (Or.inl ⟨by rfl, ?_⟩) (by assumption) ?_
      rotate_left
      · intro w hSw
        (try dsimp only at hSw)
        go_simp
        try (with_reducible rfl)
      try simp only [Act.put, List.getElem_toArray, List.getElem_cons_zero, List.setIfInBounds_toArray, List.set_cons_zero, List.set_cons_succ]
      refine wpAnyH_take (i := 1) (oi := _) (v := ?_) rfl (by kernel_rfl) (by kernel_rfl) (by kernel_rfl) (fun _ _ _ h => h) (Or.inl ⟨by rfl, ?_⟩) (by assumption) ?_
      rotate_left
      · intro w hSw
        (try dsimp only at hSw)
        go_simp
        try (with_reducible rfl)
      try simp only [Act.put, List.getElem_toArray, List.getElem_cons_succ, List.getElem_cons_zero, List.setIfInBounds_toArray, List.set_cons_zero, List.set_cons_succ]
      refine wpAnyH_take (i := 2) (oi := _) (v := ?_) rfl (by kernel_rfl) (by kernel_rfl) (by kernel_rfl) (fun _ _ _ h => h) (Or.inl ⟨by rfl, ?_⟩) (by assumption) ?_
      rotate_left
      · intro w hSw
        (try dsimp only at hSw)
        go_simp
        try (with_reducible rfl)
      try simp only [Act.put, List.getElem_toArray, List.getElem_cons_succ, List.getElem_cons_zero, List.setIfInBounds_toArray, List.set_cons_zero, List.set_cons_succ]
      refine wpAnyH_take (i := 3) (oi := _) (v := ?_) rfl (by kernel_rfl) (by kernel_rfl) (by kernel_rfl) (fun _ _ _ h => h) (Or.inl ⟨by rfl, ?_⟩) (by assumption) ?_
      rotate_left
      · intro w hSw
        (try dsimp only at hSw)
        go_simp
        try (with_reducible rfl)
      try simp only [Act.put, List.getElem_toArray, List.getElem_cons_succ, List.getElem_cons_zero, List.setIfInBounds_toArray, List.set_cons_zero, List.set_cons_succ]
      refine wpAnyH_take (i := 4) (oi := _) (v := ?_) rfl (by kernel_rfl) (by kernel_rfl) (by kernel_rfl) (fun _ _ _ h => h) (Or.inl ⟨by rfl, ?_⟩) (by assumption) ?_
      rotate_left
      · intro w hSw
        (try dsimp only at hSw)
        go_simp
        try (with_reducible rfl)
      try simp only [Act.put, List.getElem_toArray, List.getElem_cons_succ, List.getElem_cons_zero, List.setIfInBounds_toArray, List.set_cons_zero, List.set_cons_succ]
      refine wpAnyH_take (i := 5) (oi := _) (v := ?_) rfl (by kernel_rfl) (by kernel_rfl) (by kernel_rfl) (fun _ _ _ h => h) (Or.inl ⟨by rfl, ?_⟩) (by assumption) ?_
      rotate_left
      · intro w hSw
        (try dsimp only at hSw)
        go_simp
        try (with_reducible rfl)
      try simp only [Act.put, List.getElem_toArray, List.getElem_cons_succ, List.getElem_cons_zero, List.setIfInBounds_toArray, List.set_cons_zero, List.set_cons_succ]
      refine wpAnyH_ready (rs := [6]) (by kernel_rfl) (by simp) ?_
      refine AllReadyH.cons rfl (fun K hK => ?_) ?_
      rotate_left
      · exact AllReadyH.nil
      go_simp
      refine hK.out _ _ ?_ (fun hHeld => ?_)
      · exact Mod.setCell hHeld (.inl rfl) _
      clear hK K
      try simp only [Act.put, List.getElem_toArray, List.getElem_cons_succ, List.getElem_cons_zero, List.setIfInBounds_toArray, List.set_cons_zero, List.set_cons_succ]
      refine wpAnyH_take (i := 7) (oi := _) (v := ?_) rfl (by kernel_rfl) (by kernel_rfl) (by kernel_rfl) (fun _ _ _ h => h) (Or.inl ⟨by rfl, ?_⟩) (by assumption) ?_
      rotate_left
      · intro w hSw
        (try dsimp only at hSw)
        go_simp
        try (with_reducible rfl)
      try simp only [Act.put, List.getElem_toArray, List.getElem_cons_succ, List.getElem_cons_zero, List.setIfInBounds_toArray, List.set_cons_zero, List.set_cons_succ]
      refine wpAnyH_take (i := 8) (oi := _) (v := ?_) rfl (by kernel_rfl) (by kernel_rfl) (by kernel_rfl) (fun _ _ _ h => h) (Or.inl ⟨by rfl, ?_⟩) (by assumption) ?_
      rotate_left
      · intro w hSw
        (try dsimp only at hSw)
        go_simp
        try (with_reducible rfl)
      try simp only [Act.put, List.getElem_toArray, List.getElem_cons_succ, List.getElem_cons_zero, List.setIfInBounds_toArray, List.set_cons_zero, List.set_cons_succ]
      refine wpAnyH_ready (rs := [9]) (by kernel_rfl) (by simp) ?_
      refine AllReadyH.cons rfl (fun K hK => ?_) ?_
      rotate_left
      · exact AllReadyH.nil
      go_simp
      refine hK.out _ _ ?_ (fun hHeld => ?_)
      · exact Mod.drew (Mod.trans (Mod.setCell (Mod.refl (fun i => i = a) w3) (p := ⟨a, 4, none⟩) (.inl rfl) _) (eight_mod_at _ a 5 _ _ _ _ _ _ _ _))
      clear hK K
      try simp only [Act.put, List.getElem_toArray, List.getElem_cons_succ, List.getElem_cons_zero, List.setIfInBounds_toArray, List.set_cons_zero, List.set_cons_succ]
      refine wpAnyH_take (i := 10) (oi := _) (v := ?_) rfl (by kernel_rfl) (by kernel_rfl) (by kernel_rfl) (fun _ _ _ h => h) (Or.inl ⟨by rfl, ?_⟩) (by assumption) ?_
      rotate_left
      · intro w hSw
        (try dsimp only at hSw)
        go_simp
        try (with_reducible rfl)
      try simp only [Act.put, List.getElem_toArray, List.getElem_cons_succ, List.getElem_cons_zero, List.setIfInBounds_toArray, List.set_cons_zero, List.set_cons_succ]
      refine wpAnyH_take (i := 11) (oi := _) (v := ?_) rfl (by kernel_rfl) (by kernel_rfl) (by kernel_rfl) (fun _ _ _ h => h) (Or.inl ⟨by rfl, ?_⟩) (by assumption) ?_
      rotate_left
      · intro w hSw
        (try dsimp only at hSw)
        go_simp
        try (with_reducible rfl)
      try simp only [Act.put, List.getElem_toArray, List.getElem_cons_succ, List.getElem_cons_zero, List.setIfInBounds_toArray, List.set_cons_zero, List.set_cons_succ]
      refine wpAnyH_ready (rs := [12]) (by kernel_rfl) (by simp) ?_
      refine AllReadyH.cons rfl (fun K hK => ?_) ?_
      rotate_left
      · exact AllReadyH.nil
      go_simp
      refine hK.out _ _ ?_ (fun hHeld => ?_)
      · exact Mod.drew (line_take_mod w3 a j)
      clear hK K
      try simp only [Act.put, List.getElem_toArray, List.getElem_cons_succ, List.getElem_cons_zero, List.setIfInBounds_toArray, List.set_cons_zero, List.set_cons_succ]
      refine wpAnyH_done (by kernel_rfl) ?_ _
      have p4 := line_take j p3'.out
      have M4 := line_take_mod w3 a j
      generalize (((((((((w3.setCell ⟨a, 4, none⟩ (.bool true)).setCell ⟨a, 5, none⟩ (.int .i64 j.p.id)).setCell ⟨a, 6, none⟩ (.int .i64 j.p.un)).setCell ⟨a, 7, none⟩ (.int .i64 j.p.fc)).setCell ⟨a, 8, none⟩ (.int .i64 j.p.ad)).setCell ⟨a, 9, none⟩ (.int .i64 j.p.qt)).setCell ⟨a, 10, none⟩ (.slice j.A j.n j.c)).setCell ⟨a, 11, none⟩ (.int .i64 j.p.to)).setCell ⟨a, 12, none⟩ (.bool j.p.u)).setCell ⟨a, 14, none⟩ (.int .i64 0) = w4 at *
      obtain ⟨h4, m14⟩ := h1.out.taken hT'.out M2 Q2 E3 M4 p4
      have h4' := Lib.hid (h4.ext ((Ext.refl w4).god))
      have M4' := Lib.hid m14
      have p4' := Lib.hid p4
      have S4 : w1.heap.size ≤ w4.heap.size := m14.size
      have hsend := lineSend_any k a q cu co s re wa _ now w4.drew h4'.out rfl (by dsimp only; omega) n0 n1
      clear p4 p5 p6 p7 p8 p9 p10 p11 p12 p14 r0 r1 r2 r3 r4 r5 r6 r7 fz h4 m14
      go_wp2_with (go_at_call 47; refine hsend.mono ?_; rintro _ w5 ⟨v, rfl, hB, M5, N, hN, h5⟩; dsimp only)
      go_ret2
      have hn : nextR k M1.p now [] [⟨M.J.p.id, 211, 0, []⟩] = (sentBytes k (takenL M1.p j.p (U'.map Jm.p) (O'.map Jm.p)), [⟨M.J.p.id, 211, 0, []⟩], sentL k (takenL M1.p j.p (U'.map Jm.p) (O'.map Jm.p)) now) := by
        unfold nextR
        rw [show M1.p.U = M1.U.map Jm.p from rfl, show M1.p.O = M1.O.map Jm.p from rfl, takeL_map, hT'.out]
        rfl
      have ht := hdue'.out
      rw [hn] at ht
      refine ⟨_, _, rfl, ?_, ?_, ?_, N, ?_, h5⟩
      · rw [ht]; exact hB.from_ (Nat.le_trans m01.out.size S4)
      · rw [ht]; exact DonesAt.late (own_modS own1.out (M4'.out.trans (((Ext.refl w4).god.mod _).trans M5)) (fun i hi => h'.out.lt hi))
      · exact m01.out.trans (M4'.out.trans (((Ext.refl w4).god.mod _).trans M5))
      · rw [ht]; exact hN
set_option maxRecDepth 100000 in
set_option maxHeartbeats 3200000 in
theorem tick_off (h : HasLn k w a q cu co s re wa M) (n0 : now < 0 ∨ 1099511627776 < now) :
    Calls Try.prog 14 #[.pointer (some ⟨a, 0, none⟩), .int .i64 now] w (TickPost k a q cu co s re wa M now w) := by
  have h' := Lib.hid h
  have ht : Hid (tickR k re wa M.p now = ([], [], M.p)) := Lib.hid (if_pos n0)
  clear h
  by_cases h0 : now < 0
  · have f1 : decide (now < 0) = true := by simp; omega
    go_enter Try.func14, Try.ntmps14
    go_wp2_with fail
    go_ret2
    refine ⟨_, _, rfl, ?_, ?_, Mod.refl _ _, M, ?_, h'.out⟩
    · rw [ht.out]; exact BytesOut.nil _ _
    · rw [ht.out]; exact DonesAt.nil _ _
    · rw [ht.out]
  · have f1 : decide (now < 0) = false := by simp; omega
    have f2 : decide (1099511627776 < now) = true := by simp; omega
    go_enter Try.func14, Try.ntmps14
    go_wp2_with fail
    go_ret2
    refine ⟨_, _, rfl, ?_, ?_, Mod.refl _ _, M, ?_, h'.out⟩
    · rw [ht.out]; exact BytesOut.nil _ _
    · rw [ht.out]; exact DonesAt.nil _ _
    · rw [ht.out]
theorem lineTick_any (h : HasLn k w a q cu co s re wa M) :
    Calls Try.prog 14 #[.pointer (some ⟨a, 0, none⟩), .int .i64 now] w (TickPost k a q cu co s re wa M now w) := by
  by_cases h0 : now < 0 ∨ 1099511627776 < now
  · exact tick_off k a q cu co s re wa M now w h h0
  · cases hb : M.busy
    · exact tick_idle k a q cu co s re wa M now w h (by omega) (by omega) hb
    · by_cases hd : now - M.sent < wa
      · exact tick_wait k a q cu co s re wa M now w h (by omega) (by omega) hb hd
      · by_cases hr : M.times ≤ re
        · exact tick_again k a q cu co s re wa M now w h (by omega) (by omega) hb (by omega) hr
        · exact tick_late k a q cu co s re wa M now w h (by omega) (by omega) hb (by omega) (by omega)
end
end Go.Proofs.Ytgagpalffdgjnaa
