/- Layer 5: the law ReplyBack, walked. (Printed by wip/gen/rback.py.) -/
import Derived.Test.YtkkbjchoilcjlaaReplyHead
import Derived.Test.YtkkbjchoilcjlaaPduBack
namespace Go.Proofs.Ytkkbjchoilcjlaa
open Go.RowKit

theorem rputL_bytes (fc ad qt to : Int) (xs : List Int) (code : Int) (ys : List Int) : ByteL (rputL fc ad qt to xs code ys) := by
  refine rng_of (by omega) (by omega) fun y hy => ?_
  unfold rputL at hy
  by_cases h : ansR fc ad qt to xs code ys = true
  · rw [if_pos h] at hy
    obtain ⟨h1, h2, h3⟩ := ans_parts h
    obtain ⟨s, hs, -, -⟩ := right_parts h1
    obtain ⟨f1, f2, -, -⟩ := shape_hi hs
    have hfc : 1 ≤ fc ∧ fc ≤ 23 := by rcases shape_cases hs with ⟨rfl | rfl, _⟩ | ⟨rfl | rfl, _⟩ | ⟨rfl, _⟩ | ⟨rfl, _⟩ | ⟨rfl, _⟩ | ⟨rfl, _⟩ | ⟨rfl, _⟩ | ⟨rfl, _⟩ <;> decide
    have hp := putL_bytes fc ad qt to xs
    have hpm : ∀ y ∈ putL fc ad qt to xs, 0 ≤ y ∧ y ≤ 255 := fun y hy => by
      obtain ⟨j, hj, rfl⟩ := List.getElem_of_mem hy
      have := hp j
      rw [List.getElem?_eq_getElem hj] at this
      exact this
    unfold repR repL at hy
    split at hy
    · rw [f2] at hy
      simp only [List.mem_cons, List.not_mem_nil, or_false] at hy
      rcases hy with rfl | rfl <;> omega
    split at hy
    · rcases List.mem_append.1 hy with hy | hy
      · simp only [List.mem_cons, List.not_mem_nil, or_false] at hy
        rcases hy with rfl | rfl <;> omega
      · unfold bodyL at hy
        split at hy
        · exact bitsL_bytes _ _ hy
        · exact wordsL_bytes _ _ hy
    split at hy
    · exact hpm y (List.mem_of_mem_take hy)
    · exact hpm y hy
  · rw [if_neg h] at hy; cases hy

set_option maxHeartbeats 1600000 in
theorem replyBack_big (fc ad qt to code : Int) (A A2 Ab : Option Addr) (n c n2 c2 m cb : Nat) (w : World) (h : 3000 < n ∨ 3000 < n2 ∨ 3000 < m) :
    Calls Try.prog 11 #[.agg #[.int .i64 fc, .int .i64 ad, .int .i64 qt, .slice A n c, .int .i64 to], .agg #[.int .i64 code, .slice A2 n2 c2], .slice Ab m cb] w fun e w' => e = .returned (.bool true) ∧ Ext w w' := by
  have E0 := ((Ext.refl w).goA (.cells #[.int .i64 fc, .int .i64 ad, .int .i64 qt, .slice A n c, .int .i64 to] 34)).goA (.cells #[.int .i64 code, .slice A2 n2 c2] 50)
  have bq : ∀ w', Ext ((w.alloc (.cells #[.int .i64 fc, .int .i64 ad, .int .i64 qt, .slice A n c, .int .i64 to] 34)).alloc (.cells #[.int .i64 code, .slice A2 n2 c2] 50)) w' → ∀ o, w'.cell? ⟨w.heap.size, o, none⟩ = _ := fun w' D => cellsAt ((D.block w.heap.size (by simp; omega)).trans (show ((w.alloc (.cells #[.int .i64 fc, .int .i64 ad, .int .i64 qt, .slice A n c, .int .i64 to] 34)).alloc (.cells #[.int .i64 code, .slice A2 n2 c2] 50)).heap[w.heap.size]? = some (.cells #[.int .i64 fc, .int .i64 ad, .int .i64 qt, .slice A n c, .int .i64 to] 34 (0, 0)) by rw [alloc_get, if_neg (by simp), alloc_get, if_pos rfl]))
  have bp : ∀ w', Ext ((w.alloc (.cells #[.int .i64 fc, .int .i64 ad, .int .i64 qt, .slice A n c, .int .i64 to] 34)).alloc (.cells #[.int .i64 code, .slice A2 n2 c2] 50)) w' → ∀ o, w'.cell? ⟨w.heap.size + 1, o, none⟩ = _ := fun w' D => cellsAt ((D.block (w.heap.size + 1) (by simp)).trans (show ((w.alloc (.cells #[.int .i64 fc, .int .i64 ad, .int .i64 qt, .slice A n c, .int .i64 to] 34)).alloc (.cells #[.int .i64 code, .slice A2 n2 c2] 50)).heap[w.heap.size + 1]? = some (.cells #[.int .i64 code, .slice A2 n2 c2] 50 (0, 0)) by rw [alloc_get, if_pos (by simp)]))
  have bq' := Lib.hid bq
  have bp' := Lib.hid bp
  clear bq bp
  cases t0 : (decide (3000 < (n : Int)) || decide (3000 < (n2 : Int)))
  · have t2 : decide (3000 < (m : Int)) = true := by simp at t0 ⊢; omega
    clear h
    go_enter Try.func11, Try.ntmps11
    go_wp2_with fail
    refine (replyHead_any _).mono ?_
    rintro e w1 ⟨rfl, D1⟩
    have q1 := bq'.out w1 D1
    have p1 := bp'.out w1 D1
    go_wp2_with fail
    refine (great_any fc ad qt to code A A2 n c n2 c2 w1).mono ?_
    rw [t0]
    rintro e w2 ⟨rfl, D2⟩
    go_wp2_with fail
    go_ret
    exact ⟨rfl, (E0.go D1).go D2⟩
  · clear h
    go_enter Try.func11, Try.ntmps11
    go_wp2_with fail
    refine (replyHead_any _).mono ?_
    rintro e w1 ⟨rfl, D1⟩
    have q1 := bq'.out w1 D1
    have p1 := bp'.out w1 D1
    go_wp2_with fail
    refine (great_any fc ad qt to code A A2 n c n2 c2 w1).mono ?_
    rw [t0]
    rintro e w2 ⟨rfl, D2⟩
    go_wp2_with fail
    go_ret
    exact ⟨rfl, (E0.go D1).go D2⟩
set_option maxHeartbeats 6400000 in
theorem replyBack_small (fc ad qt to code : Int) (A A2 Ab : Option Addr) (n c n2 c2 m cb : Nat) (xs ys bs : List Int) (w : World) (hx : RdI w w.heap.size .u16 A n xs) (hr : ∀ j : Nat, 0 ≤ xs[j]?.getD 0 ∧ xs[j]?.getD 0 ≤ 65535) (hy : RdI w w.heap.size .u16 A2 n2 ys) (hyr : ∀ j : Nat, 0 ≤ ys[j]?.getD 0 ∧ ys[j]?.getD 0 ≤ 65535)
    (hz : RdI w w.heap.size .u8 Ab m bs) (hb : ByteL bs) (hn : n ≤ 3000) (hn2 : n2 ≤ 3000) (hm : m ≤ 3000) (hmc : m ≤ cb) (hcm : cb ≤ maxLen) :
    Calls Try.prog 11 #[.agg #[.int .i64 fc, .int .i64 ad, .int .i64 qt, .slice A n c, .int .i64 to], .agg #[.int .i64 code, .slice A2 n2 c2], .slice Ab m cb] w fun e w' => e = .returned (.bool true) ∧ Ext w w' := by
  have E0 := ((Ext.refl w).goA (.cells #[.int .i64 fc, .int .i64 ad, .int .i64 qt, .slice A n c, .int .i64 to] 34)).goA (.cells #[.int .i64 code, .slice A2 n2 c2] 50)
  have bq : ∀ w', Ext ((w.alloc (.cells #[.int .i64 fc, .int .i64 ad, .int .i64 qt, .slice A n c, .int .i64 to] 34)).alloc (.cells #[.int .i64 code, .slice A2 n2 c2] 50)) w' → ∀ o, w'.cell? ⟨w.heap.size, o, none⟩ = _ := fun w' D => cellsAt ((D.block w.heap.size (by simp; omega)).trans (show ((w.alloc (.cells #[.int .i64 fc, .int .i64 ad, .int .i64 qt, .slice A n c, .int .i64 to] 34)).alloc (.cells #[.int .i64 code, .slice A2 n2 c2] 50)).heap[w.heap.size]? = some (.cells #[.int .i64 fc, .int .i64 ad, .int .i64 qt, .slice A n c, .int .i64 to] 34 (0, 0)) by rw [alloc_get, if_neg (by simp), alloc_get, if_pos rfl]))
  have bp : ∀ w', Ext ((w.alloc (.cells #[.int .i64 fc, .int .i64 ad, .int .i64 qt, .slice A n c, .int .i64 to] 34)).alloc (.cells #[.int .i64 code, .slice A2 n2 c2] 50)) w' → ∀ o, w'.cell? ⟨w.heap.size + 1, o, none⟩ = _ := fun w' D => cellsAt ((D.block (w.heap.size + 1) (by simp)).trans (show ((w.alloc (.cells #[.int .i64 fc, .int .i64 ad, .int .i64 qt, .slice A n c, .int .i64 to] 34)).alloc (.cells #[.int .i64 code, .slice A2 n2 c2] 50)).heap[w.heap.size + 1]? = some (.cells #[.int .i64 code, .slice A2 n2 c2] 50 (0, 0)) by rw [alloc_get, if_pos (by simp)]))
  have bq' := Lib.hid bq
  have bp' := Lib.hid bp
  have t0 : (decide (3000 < (n : Int)) || decide (3000 < (n2 : Int))) = false := by simp; omega
  have t2 : decide (3000 < (m : Int)) = false := by simp; omega
  have hx' := Lib.hid hx
  have hy' := Lib.hid hy
  have hz' := Lib.hid hz
  have hr' := Lib.hid hr
  have hyr' := Lib.hid hyr
  have hb' := Lib.hid hb
  have nm : n ≤ maxLen := by unfold maxLen; omega
  have nm2 : n2 ≤ maxLen := by unfold maxLen; omega
  have hpb := Lib.hid (rputL_bytes fc ad qt to xs code ys)
  have hga := Lib.hid (rgot_any fc ad qt to xs bs)
  have hgr := Lib.hid (rget_range fc ad qt to xs bs hb)
  clear bq bp hx hy hz hr hyr hb hn hn2 hm
  go_enter Try.func11, Try.ntmps11
  go_wp2_with fail
  refine (replyHead_any _).mono ?_
  rintro e w1 ⟨rfl, D1⟩
  have q1 := bq'.out w1 D1
  have p1 := bp'.out w1 D1
  go_wp2_with fail
  refine (great_any fc ad qt to code A A2 n c n2 c2 w1).mono ?_
  rw [t0]
  rintro e w2 ⟨rfl, D2⟩
  have D02 := D1.go D2
  have q2 := bq'.out w2 D02
  have p2 := bp'.out w2 D02
  have E2 := E0.go D02
  clear q1 p1
  go_wp2_with fail
  refine (rPut_any fc ad qt to code A A2 n c n2 c2 xs ys w2 (hx'.out.ext E2) hr'.out nm (hy'.out.ext E2) hyr'.out nm2).mono ?_
  rintro e w3 ⟨A3, n3, c3, rfl, g3, g3', r3, D3⟩
  have D03 := D02.go D3
  have q3 := bq'.out w3 D03
  have p3 := bp'.out w3 D03
  have E3 := E0.go D03
  have l3 := Lib.hid r3.len
  have r3' := Lib.hid r3
  clear q2 p2 r3
  go_wp2_with fail
  refine (rRight_any fc ad qt to code A A2 n c n2 c2 xs ys w3 (hx'.out.ext E3) (hy'.out.ext E3) nm nm2).mono ?_
  rintro e w4 ⟨rfl, D4⟩
  have D04 := D03.go D4
  have E4 := E0.go D04
  clear q3 p3
  cases ha : ansR fc ad qt to xs code ys
  · have n0 : n3 = 0 := by have := l3.out; unfold rputL at this; rw [if_neg (by rw [ha]; decide)] at this; exact this.symm
    have p1 : decide (0 < n3) = false := by simp; exact n0
    have p2 : decide (253 < (n3 : Int)) = false := by simp; omega
    have qz := bq'.out w4 D04
    clear n0
    go_wp2_with fail
    have hga' := hga.out
    have hgr' := hgr.out
    have qk := bq'.out w4 D04
    refine (rget_any fc ad qt to A Ab n c m cb xs bs w4 (hx'.out.ext E4) hr'.out nm (hz'.out.ext E4) hb'.out hmc hcm).mono ?_
    generalize rgetR fc ad qt to xs bs = R at hga' hgr' ⊢
    obtain ⟨co, vs, er⟩ := R
    rintro e w6 ⟨A6, n6, c6, rfl, g6, g6', r6, D6⟩
    dsimp only at r6 hga' hgr' ⊢
    have G7 := (Ext.refl w6).goA (.cells #[.int .i64 co, .slice A6 n6 c6] 50)
    have r7 := r6.ext G7
    have n7 : n6 ≤ maxLen := Nat.le_trans g6 g6'
    have D7 := (D04.go D6).go G7
    have E7 := E0.go D7
    rcases hga' with ⟨rfl, rfl, rfl⟩ | ⟨ha6, hs6, he6⟩
    · clear hgr'
      go_wp2_with fail
      refine (same05_any 0 0 A6 none n6 c6 0 0 _ [] [] _ r7 (RdI.nil _) (Nat.le_refl _) n7 (by decide)).mono ?_
      rw [show ((0 : Int) == 0 && decide (([] : List Int) = [])) = true from rfl]
      rintro e w8 ⟨rfl, D8⟩
      go_wp2_with fail
      go_ret
      exact ⟨rfl, E7.go D8⟩
    · have hyb := fun w' (D : Ext (w6.alloc (.cells #[.int .i64 co, .slice A6 n6 c6] 50)) w') => cellsAt ((D.block w6.heap.size (by simp)).trans (heap_alloc_new w6 _))
      have hs7 : strOfNums (repR fc ad qt to xs co vs) = strOfNums bs := str_eq hs6
      have hpl : rputL fc ad qt to xs co vs = repR fc ad qt to xs co vs := if_pos ha6
      obtain ⟨v1, v2, v3⟩ : (er == 51) = false ∧ (er == 52) = (co != 0) ∧ (co == 0) = !(co != 0) := by
        rcases he6 with ⟨rfl, h0⟩ | ⟨rfl, rfl⟩
        · have : (co != 0) = true := by simp; exact h0
          rw [this]; exact ⟨rfl, rfl, by simp; exact h0⟩
        · exact ⟨rfl, rfl, rfl⟩
      generalize v4 : (co != 0) = bb at v2 v3
      have hyb' := Lib.hid hyb
      have hs7' := Lib.hid hs7
      have ha6' := Lib.hid ha6
      have hpl' := Lib.hid hpl
      have hgr6 := Lib.hid hgr'
      clear hyb hs7 hs6 hgr' ha6 he6 hpl
      go_wp2_with fail
      generalize w6.alloc (.cells #[.int .i64 co, .slice A6 n6 c6] 50) = W at *
      have hyb := hyb'.out
      have hqq := fun w' (D : Ext W w') => bq'.out w' (D7.go D)
      have hcv : ∀ w', Ext W w' → Sem.run Try.prog (convert 30 9 (.slice Ab m cb)) w' = .ok (.string (strOfNums bs)) w' := fun w' h => (hz'.out.ext (E7.go h)).convert Try.underlying30 Try.underlying5 Try.underlying9 cb
      have d0 : Ext W W.drew := (Ext.refl _).god
      refine wp_region_held_drew (S := fun w' => Ext W w') (by kernel_rfl) d0 (fun hHeld => ?_)
      refine wpAnyH_take (i := 0) (oi := _) (v := ?_) rfl (by kernel_rfl) (by kernel_rfl) (by kernel_rfl) (fun _ _ _ h => h) (Or.inl ⟨by rfl, ?_⟩) (by assumption) ?_
      rotate_left
      · intro w hSw
        (try dsimp only at hSw)
        go_simp
        try (with_reducible rfl)
      try simp only [Act.put, List.getElem_toArray, List.getElem_cons_zero, List.setIfInBounds_toArray, List.set_cons_zero, List.set_cons_succ]
      refine wpAnyH_take (i := 1) (oi := _) (v := ?_) rfl (by kernel_rfl) (by kernel_rfl) (by kernel_rfl) (fun _ _ _ h => h) (Or.inl ⟨by rfl, ?_⟩) (by assumption) ?_
      rotate_left
      · intro w hSw
        (try dsimp only at hSw)
        go_simp
        try (with_reducible rfl)
      try simp only [Act.put, List.getElem_toArray, List.getElem_cons_succ, List.getElem_cons_zero, List.setIfInBounds_toArray, List.set_cons_zero, List.set_cons_succ]
      refine wpAnyH_take (i := 2) (oi := _) (v := ?_) rfl (by kernel_rfl) (by kernel_rfl) (by kernel_rfl) (fun _ _ _ h => h) (Or.inl ⟨by rfl, ?_⟩) (by assumption) ?_
      rotate_left
      · intro w hSw
        (try dsimp only at hSw)
        go_simp
        try (with_reducible rfl)
      try simp only [Act.put, List.getElem_toArray, List.getElem_cons_succ, List.getElem_cons_zero, List.setIfInBounds_toArray, List.set_cons_zero, List.set_cons_succ]
      refine wpAnyH_take (i := 3) (oi := _) (v := ?_) rfl (by kernel_rfl) (by kernel_rfl) (by kernel_rfl) (fun _ _ _ h => h) (Or.inl ⟨by rfl, ?_⟩) (by assumption) ?_
      rotate_left
      · intro w hSw
        (try dsimp only at hSw)
        go_simp
        try (with_reducible rfl)
      try simp only [Act.put, List.getElem_toArray, List.getElem_cons_succ, List.getElem_cons_zero, List.setIfInBounds_toArray, List.set_cons_zero, List.set_cons_succ]
      refine wpAnyH_ready (rs := [4]) (by kernel_rfl) (by simp) ?_
      refine AllReadyH.cons rfl (fun K hK => ?_) ?_
      rotate_left
      · exact AllReadyH.nil
      go_simp
      go_at_call 32
      refine (rRight_any fc ad qt to co A A6 n c n6 c6 xs vs _ (hx'.out.ext (E7.go d0)) (r7.ext d0) nm n7).mono ?_
      rw [ha6'.out]
      rintro e w8 ⟨rfl, d8⟩
      have d8' := d0.go d8
      try dsimp only
      refine hK.out _ _ ?_ (fun hHeld => ?_)
      · first | assumption | (dsimp only; assumption)
      clear hK K
      try simp only [Act.put, List.getElem_toArray, List.getElem_cons_succ, List.getElem_cons_zero, List.setIfInBounds_toArray, List.set_cons_zero, List.set_cons_succ]
      refine wpAnyH_take (i := 5) (oi := _) (v := ?_) rfl (by kernel_rfl) (by kernel_rfl) (by kernel_rfl) (fun _ _ _ h => h) (Or.inl ⟨by rfl, ?_⟩) (by assumption) ?_
      rotate_left
      · intro w hSw
        (try dsimp only at hSw)
        go_simp
        try (with_reducible rfl)
      try simp only [Act.put, List.getElem_toArray, List.getElem_cons_succ, List.getElem_cons_zero, List.setIfInBounds_toArray, List.set_cons_zero, List.set_cons_succ]
      refine wpAnyH_take (i := 6) (oi := _) (v := ?_) rfl (by kernel_rfl) (by kernel_rfl) (by kernel_rfl) (fun _ _ _ h => h) (Or.inl ⟨by rfl, ?_⟩) (by assumption) ?_
      rotate_left
      · intro w hSw
        (try dsimp only at hSw)
        go_simp
        try (with_reducible rfl)
      try simp only [Act.put, List.getElem_toArray, List.getElem_cons_succ, List.getElem_cons_zero, List.setIfInBounds_toArray, List.set_cons_zero, List.set_cons_succ]
      refine wpAnyH_take (i := 7) (oi := _) (v := ?_) rfl (by kernel_rfl) (by kernel_rfl) (by kernel_rfl) (fun _ _ _ h => h) (Or.inl ⟨by rfl, ?_⟩) (by assumption) ?_
      rotate_left
      · intro w hSw
        (try dsimp only at hSw)
        go_simp
        try (with_reducible rfl)
      try simp only [Act.put, List.getElem_toArray, List.getElem_cons_succ, List.getElem_cons_zero, List.setIfInBounds_toArray, List.set_cons_zero, List.set_cons_succ]
      refine wpAnyH_take (i := 8) (oi := _) (v := ?_) rfl (by kernel_rfl) (by kernel_rfl) (by kernel_rfl) (fun _ _ _ h => h) (Or.inl ⟨by rfl, ?_⟩) (by assumption) ?_
      rotate_left
      · intro w hSw
        (try dsimp only at hSw)
        go_simp
        try (with_reducible rfl)
      try simp only [Act.put, List.getElem_toArray, List.getElem_cons_succ, List.getElem_cons_zero, List.setIfInBounds_toArray, List.set_cons_zero, List.set_cons_succ]
      refine wpAnyH_take (i := 11) (oi := _) (v := ?_) rfl (by kernel_rfl) (by kernel_rfl) (by kernel_rfl) (fun _ _ _ h => h) (Or.inl ⟨by rfl, ?_⟩) (by assumption) ?_
      rotate_left
      · intro w hSw
        (try dsimp only at hSw)
        go_simp
        try (with_reducible rfl)
      try simp only [Act.put, List.getElem_toArray, List.getElem_cons_succ, List.getElem_cons_zero, List.setIfInBounds_toArray, List.set_cons_zero, List.set_cons_succ]
      refine wpAnyH_take (i := 12) (oi := _) (v := ?_) rfl (by kernel_rfl) (by kernel_rfl) (by kernel_rfl) (fun _ _ _ h => h) (Or.inl ⟨by rfl, ?_⟩) (by assumption) ?_
      rotate_left
      · intro w hSw
        (try dsimp only at hSw)
        go_simp
        try (with_reducible rfl)
      try simp only [Act.put, List.getElem_toArray, List.getElem_cons_succ, List.getElem_cons_zero, List.setIfInBounds_toArray, List.set_cons_zero, List.set_cons_succ]
      refine wpAnyH_ready (rs := [9]) (by kernel_rfl) (by simp) ?_
      refine AllReadyH.cons rfl (fun K hK => ?_) ?_
      rotate_left
      · exact AllReadyH.nil
      go_simp
      go_at_call 31
      refine (rPut_any fc ad qt to co A A6 n c n6 c6 xs vs _ (hx'.out.ext (E7.go d8')) hr'.out nm (r7.ext d8') hgr6.out n7).mono ?_
      rintro e w9 ⟨A9, n9, c9, rfl, _, _, r9, d9⟩
      have d9' := d8'.go d9
      have cs9 := r9.convert Try.underlying30 Try.underlying5 Try.underlying9 c9
      rw [hpl'.out, hs7'.out] at cs9
      clear r9
      try dsimp only
      refine hK.out _ _ ?_ (fun hHeld => ?_)
      · first | assumption | (dsimp only; assumption)
      clear hK K
      try simp only [Act.put, List.getElem_toArray, List.getElem_cons_succ, List.getElem_cons_zero, List.setIfInBounds_toArray, List.set_cons_zero, List.set_cons_succ]
      refine wpAnyH_ready (rs := [10]) (by kernel_rfl) (by simp) ?_
      refine AllReadyH.cons rfl (fun K hK => ?_) ?_
      rotate_left
      · exact AllReadyH.nil
      go_simp
      refine hK.out _ _ ?_ (fun hHeld => ?_)
      · first | assumption | (dsimp only; assumption)
      clear hK K
      try simp only [Act.put, List.getElem_toArray, List.getElem_cons_succ, List.getElem_cons_zero, List.setIfInBounds_toArray, List.set_cons_zero, List.set_cons_succ]
      refine wpAnyH_take (i := 13) (oi := _) (v := ?_) rfl (by kernel_rfl) (by kernel_rfl) (by kernel_rfl) (fun _ _ _ h => h) (Or.inl ⟨by rfl, ?_⟩) (by assumption) ?_
      rotate_left
      · intro w hSw
        (try dsimp only at hSw)
        go_simp
        try (with_reducible rfl)
      try simp only [Act.put, List.getElem_toArray, List.getElem_cons_succ, List.getElem_cons_zero, List.setIfInBounds_toArray, List.set_cons_zero, List.set_cons_succ]
      refine wpAnyH_take (i := 14) (oi := _) (v := ?_) rfl (by kernel_rfl) (by kernel_rfl) (by kernel_rfl) (fun _ _ _ h => h) (Or.inl ⟨by rfl, ?_⟩) (by assumption) ?_
      rotate_left
      · intro w hSw
        (try dsimp only at hSw)
        go_simp
        try (with_reducible rfl)
      try simp only [Act.put, List.getElem_toArray, List.getElem_cons_succ, List.getElem_cons_zero, List.setIfInBounds_toArray, List.set_cons_zero, List.set_cons_succ]
      refine wpAnyH_take (i := 15) (oi := _) (v := ?_) rfl (by kernel_rfl) (by kernel_rfl) (by kernel_rfl) (fun _ _ _ h => h) (Or.inl ⟨by rfl, ?_⟩) (by assumption) ?_
      rotate_left
      · intro w hSw
        (try dsimp only at hSw)
        go_simp
        try (with_reducible rfl)
      try simp only [Act.put, List.getElem_toArray, List.getElem_cons_succ, List.getElem_cons_zero, List.setIfInBounds_toArray, List.set_cons_zero, List.set_cons_succ]
      refine wpAnyH_take (i := 16) (oi := _) (v := ?_) rfl (by kernel_rfl) (by kernel_rfl) (by kernel_rfl) (fun _ _ _ h => h) (Or.inl ⟨by rfl, ?_⟩) (by assumption) ?_
      rotate_left
      · intro w hSw
        (try dsimp only at hSw)
        go_simp
        try (with_reducible rfl)
      try simp only [Act.put, List.getElem_toArray, List.getElem_cons_succ, List.getElem_cons_zero, List.setIfInBounds_toArray, List.set_cons_zero, List.set_cons_succ]
      refine wpAnyH_take (i := 17) (oi := _) (v := ?_) rfl (by kernel_rfl) (by kernel_rfl) (by kernel_rfl) (fun _ _ _ h => h) (Or.inl ⟨by rfl, ?_⟩) (by assumption) ?_
      rotate_left
      · intro w hSw
        (try dsimp only at hSw)
        go_simp
        try (with_reducible rfl)
      try simp only [Act.put, List.getElem_toArray, List.getElem_cons_succ, List.getElem_cons_zero, List.setIfInBounds_toArray, List.set_cons_zero, List.set_cons_succ]
      refine wpAnyH_take (i := 18) (oi := _) (v := ?_) rfl (by kernel_rfl) (by kernel_rfl) (by kernel_rfl) (fun _ _ _ h => h) (Or.inl ⟨by rfl, ?_⟩) (by assumption) ?_
      rotate_left
      · intro w hSw
        (try dsimp only at hSw)
        go_simp
        try (with_reducible rfl)
      try simp only [Act.put, List.getElem_toArray, List.getElem_cons_succ, List.getElem_cons_zero, List.setIfInBounds_toArray, List.set_cons_zero, List.set_cons_succ]
      refine wpAnyH_take (i := 19) (oi := _) (v := ?_) rfl (by kernel_rfl) (by kernel_rfl) (by kernel_rfl) (fun _ _ _ h => h) (Or.inl ⟨by rfl, ?_⟩) (by assumption) ?_
      rotate_left
      · intro w hSw
        (try dsimp only at hSw)
        go_simp
        try (with_reducible rfl)
      try simp only [Act.put, List.getElem_toArray, List.getElem_cons_succ, List.getElem_cons_zero, List.setIfInBounds_toArray, List.set_cons_zero, List.set_cons_succ]
      refine wpAnyH_take (i := 20) (oi := _) (v := ?_) rfl (by kernel_rfl) (by kernel_rfl) (by kernel_rfl) (fun _ _ _ h => h) (Or.inl ⟨by rfl, ?_⟩) (by assumption) ?_
      rotate_left
      · intro w hSw
        (try dsimp only at hSw)
        go_simp
        try (with_reducible rfl)
      try simp only [Act.put, List.getElem_toArray, List.getElem_cons_succ, List.getElem_cons_zero, List.setIfInBounds_toArray, List.set_cons_zero, List.set_cons_succ]
      refine wpAnyH_take (i := 21) (oi := _) (v := ?_) rfl (by kernel_rfl) (by kernel_rfl) (by kernel_rfl) (fun _ _ _ h => h) (Or.inl ⟨by rfl, ?_⟩) (by assumption) ?_
      rotate_left
      · intro w hSw
        (try dsimp only at hSw)
        go_simp
        try (with_reducible rfl)
      try simp only [Act.put, List.getElem_toArray, List.getElem_cons_succ, List.getElem_cons_zero, List.setIfInBounds_toArray, List.set_cons_zero, List.set_cons_succ]
      refine wpAnyH_take (i := 22) (oi := _) (v := ?_) rfl (by kernel_rfl) (by kernel_rfl) (by kernel_rfl) (fun _ _ _ h => h) (Or.inl ⟨by rfl, ?_⟩) (by assumption) ?_
      rotate_left
      · intro w hSw
        (try dsimp only at hSw)
        go_simp
        try (with_reducible rfl)
      try simp only [Act.put, List.getElem_toArray, List.getElem_cons_succ, List.getElem_cons_zero, List.setIfInBounds_toArray, List.set_cons_zero, List.set_cons_succ]
      refine wpAnyH_take (i := 23) (oi := _) (v := ?_) rfl (by kernel_rfl) (by kernel_rfl) (by kernel_rfl) (fun _ _ _ h => h) (Or.inl ⟨by rfl, ?_⟩) (by assumption) ?_
      rotate_left
      · intro w hSw
        (try dsimp only at hSw)
        go_simp
        try (with_reducible rfl)
      try simp only [Act.put, List.getElem_toArray, List.getElem_cons_succ, List.getElem_cons_zero, List.setIfInBounds_toArray, List.set_cons_zero, List.set_cons_succ]
      refine wpAnyH_done (by kernel_rfl) ?_ _
      go_wp2_with fail
      go_ret
      exact ⟨rfl, E7.go d9'⟩
  · have hlen := rep_length ha
    have hpr : rputL fc ad qt to xs code ys = repR fc ad qt to xs code ys := if_pos ha
    have hrr := rget_rput ha hyr'.out
    rw [← hpr] at hrr
    have n0 : 2 ≤ n3 ∧ n3 ≤ 253 := by
      have h3 := l3.out
      rw [hpr] at h3
      rw [h3] at hlen
      refine ⟨?_, hlen.2.2.2⟩
      by_cases hc : code = 0
      · cases hb : readsB fc
        · have := hlen.2.2.1 hc hb; omega
        · have q := right_reads (ans_parts ha).1 hb
          have := hlen.2.1 hc hb
          split at this <;> omega
      · have := hlen.1 hc; omega
    have p1 : decide (0 < n3) = true := by simp; omega
    have p2 : decide (253 < (n3 : Int)) = false := by simp; omega
    have q4 := bq'.out w4 D04
    have hrr' := Lib.hid hrr
    clear hlen hpr hrr n0
    go_wp2_with fail
    refine (rget_any fc ad qt to A A3 n c n3 c3 xs _ w4 (hx'.out.ext E4) hr'.out nm (r3'.out.ext D4) hpb.out g3 g3').mono ?_
    rw [hrr'.out]
    rintro e w5 ⟨A5, n5, c5, rfl, g5, g5', r5, D5⟩
    dsimp only at r5 ⊢
    have G5 := (Ext.refl w5).goA (.cells #[.int .i64 code, .slice A5 n5 c5] 50)
    have D05 := (D04.go D5).go G5
    have p5 := bp'.out _ D05
    have E5 := E0.go D05
    have r5' := Lib.hid (r5.ext G5)
    clear q4 r5
    by_cases hc : code = 0
    · subst hc
      rw [if_pos rfl]
      go_wp2_with fail
      refine (same05_any 0 0 A5 A2 n5 c5 n2 c2 _ ys ys _ r5'.out (hy'.out.ext E5) (Nat.le_refl _) (Nat.le_trans g5 g5') nm2).mono ?_
      rw [show ((0 : Int) == 0 && decide (ys = ys)) = true by simp]
      rintro e wa ⟨rfl, Da⟩
      have D0a := D05.go Da
      have Ea := E0.go D0a
      have pa := bp'.out _ D0a
      have qa := bq'.out _ D0a
      go_wp2_with fail
      have hga' := hga.out
      have hgr' := hgr.out
      have qk := bq'.out wa D0a
      refine (rget_any fc ad qt to A Ab n c m cb xs bs wa (hx'.out.ext Ea) hr'.out nm (hz'.out.ext Ea) hb'.out hmc hcm).mono ?_
      generalize rgetR fc ad qt to xs bs = R at hga' hgr' ⊢
      obtain ⟨co, vs, er⟩ := R
      rintro e w6 ⟨A6, n6, c6, rfl, g6, g6', r6, D6⟩
      dsimp only at r6 hga' hgr' ⊢
      have G7 := (Ext.refl w6).goA (.cells #[.int .i64 co, .slice A6 n6 c6] 50)
      have r7 := r6.ext G7
      have n7 : n6 ≤ maxLen := Nat.le_trans g6 g6'
      have D7 := (D0a.go D6).go G7
      have E7 := E0.go D7
      rcases hga' with ⟨rfl, rfl, rfl⟩ | ⟨ha6, hs6, he6⟩
      · clear hgr'
        go_wp2_with fail
        refine (same05_any 0 0 A6 none n6 c6 0 0 _ [] [] _ r7 (RdI.nil _) (Nat.le_refl _) n7 (by decide)).mono ?_
        rw [show ((0 : Int) == 0 && decide (([] : List Int) = [])) = true from rfl]
        rintro e w8 ⟨rfl, D8⟩
        go_wp2_with fail
        go_ret
        exact ⟨rfl, E7.go D8⟩
      · have hyb := fun w' (D : Ext (w6.alloc (.cells #[.int .i64 co, .slice A6 n6 c6] 50)) w') => cellsAt ((D.block w6.heap.size (by simp)).trans (heap_alloc_new w6 _))
        have hs7 : strOfNums (repR fc ad qt to xs co vs) = strOfNums bs := str_eq hs6
        have hpl : rputL fc ad qt to xs co vs = repR fc ad qt to xs co vs := if_pos ha6
        obtain ⟨v1, v2, v3⟩ : (er == 51) = false ∧ (er == 52) = (co != 0) ∧ (co == 0) = !(co != 0) := by
          rcases he6 with ⟨rfl, h0⟩ | ⟨rfl, rfl⟩
          · have : (co != 0) = true := by simp; exact h0
            rw [this]; exact ⟨rfl, rfl, by simp; exact h0⟩
          · exact ⟨rfl, rfl, rfl⟩
        generalize v4 : (co != 0) = bb at v2 v3
        have hyb' := Lib.hid hyb
        have hs7' := Lib.hid hs7
        have ha6' := Lib.hid ha6
        have hpl' := Lib.hid hpl
        have hgr6 := Lib.hid hgr'
        clear hyb hs7 hs6 hgr' ha6 he6 hpl
        go_wp2_with fail
        generalize w6.alloc (.cells #[.int .i64 co, .slice A6 n6 c6] 50) = W at *
        have hyb := hyb'.out
        have hqq := fun w' (D : Ext W w') => bq'.out w' (D7.go D)
        have hcv : ∀ w', Ext W w' → Sem.run Try.prog (convert 30 9 (.slice Ab m cb)) w' = .ok (.string (strOfNums bs)) w' := fun w' h => (hz'.out.ext (E7.go h)).convert Try.underlying30 Try.underlying5 Try.underlying9 cb
        have d0 : Ext W W.drew := (Ext.refl _).god
        refine wp_region_held_drew (S := fun w' => Ext W w') (by kernel_rfl) d0 (fun hHeld => ?_)
        refine wpAnyH_take (i := 0) (oi := _) (v := ?_) rfl (by kernel_rfl) (by kernel_rfl) (by kernel_rfl) (fun _ _ _ h => h) (Or.inl ⟨by rfl, ?_⟩) (by assumption) ?_
        rotate_left
        · intro w hSw
          (try dsimp only at hSw)
          go_simp
          try (with_reducible rfl)
        try simp only [Act.put, List.getElem_toArray, List.getElem_cons_zero, List.setIfInBounds_toArray, List.set_cons_zero, List.set_cons_succ]
        refine wpAnyH_take (i := 1) (oi := _) (v := ?_) rfl (by kernel_rfl) (by kernel_rfl) (by kernel_rfl) (fun _ _ _ h => h) (Or.inl ⟨by rfl, ?_⟩) (by assumption) ?_
        rotate_left
        · intro w hSw
          (try dsimp only at hSw)
          go_simp
          try (with_reducible rfl)
        try simp only [Act.put, List.getElem_toArray, List.getElem_cons_succ, List.getElem_cons_zero, List.setIfInBounds_toArray, List.set_cons_zero, List.set_cons_succ]
        refine wpAnyH_take (i := 2) (oi := _) (v := ?_) rfl (by kernel_rfl) (by kernel_rfl) (by kernel_rfl) (fun _ _ _ h => h) (Or.inl ⟨by rfl, ?_⟩) (by assumption) ?_
        rotate_left
        · intro w hSw
          (try dsimp only at hSw)
          go_simp
          try (with_reducible rfl)
        try simp only [Act.put, List.getElem_toArray, List.getElem_cons_succ, List.getElem_cons_zero, List.setIfInBounds_toArray, List.set_cons_zero, List.set_cons_succ]
        refine wpAnyH_take (i := 3) (oi := _) (v := ?_) rfl (by kernel_rfl) (by kernel_rfl) (by kernel_rfl) (fun _ _ _ h => h) (Or.inl ⟨by rfl, ?_⟩) (by assumption) ?_
        rotate_left
        · intro w hSw
          (try dsimp only at hSw)
          go_simp
          try (with_reducible rfl)
        try simp only [Act.put, List.getElem_toArray, List.getElem_cons_succ, List.getElem_cons_zero, List.setIfInBounds_toArray, List.set_cons_zero, List.set_cons_succ]
        refine wpAnyH_ready (rs := [4]) (by kernel_rfl) (by simp) ?_
        refine AllReadyH.cons rfl (fun K hK => ?_) ?_
        rotate_left
        · exact AllReadyH.nil
        go_simp
        go_at_call 32
        refine (rRight_any fc ad qt to co A A6 n c n6 c6 xs vs _ (hx'.out.ext (E7.go d0)) (r7.ext d0) nm n7).mono ?_
        rw [ha6'.out]
        rintro e w8 ⟨rfl, d8⟩
        have d8' := d0.go d8
        try dsimp only
        refine hK.out _ _ ?_ (fun hHeld => ?_)
        · first | assumption | (dsimp only; assumption)
        clear hK K
        try simp only [Act.put, List.getElem_toArray, List.getElem_cons_succ, List.getElem_cons_zero, List.setIfInBounds_toArray, List.set_cons_zero, List.set_cons_succ]
        refine wpAnyH_take (i := 5) (oi := _) (v := ?_) rfl (by kernel_rfl) (by kernel_rfl) (by kernel_rfl) (fun _ _ _ h => h) (Or.inl ⟨by rfl, ?_⟩) (by assumption) ?_
        rotate_left
        · intro w hSw
          (try dsimp only at hSw)
          go_simp
          try (with_reducible rfl)
        try simp only [Act.put, List.getElem_toArray, List.getElem_cons_succ, List.getElem_cons_zero, List.setIfInBounds_toArray, List.set_cons_zero, List.set_cons_succ]
        refine wpAnyH_take (i := 6) (oi := _) (v := ?_) rfl (by kernel_rfl) (by kernel_rfl) (by kernel_rfl) (fun _ _ _ h => h) (Or.inl ⟨by rfl, ?_⟩) (by assumption) ?_
        rotate_left
        · intro w hSw
          (try dsimp only at hSw)
          go_simp
          try (with_reducible rfl)
        try simp only [Act.put, List.getElem_toArray, List.getElem_cons_succ, List.getElem_cons_zero, List.setIfInBounds_toArray, List.set_cons_zero, List.set_cons_succ]
        refine wpAnyH_take (i := 7) (oi := _) (v := ?_) rfl (by kernel_rfl) (by kernel_rfl) (by kernel_rfl) (fun _ _ _ h => h) (Or.inl ⟨by rfl, ?_⟩) (by assumption) ?_
        rotate_left
        · intro w hSw
          (try dsimp only at hSw)
          go_simp
          try (with_reducible rfl)
        try simp only [Act.put, List.getElem_toArray, List.getElem_cons_succ, List.getElem_cons_zero, List.setIfInBounds_toArray, List.set_cons_zero, List.set_cons_succ]
        refine wpAnyH_take (i := 8) (oi := _) (v := ?_) rfl (by kernel_rfl) (by kernel_rfl) (by kernel_rfl) (fun _ _ _ h => h) (Or.inl ⟨by rfl, ?_⟩) (by assumption) ?_
        rotate_left
        · intro w hSw
          (try dsimp only at hSw)
          go_simp
          try (with_reducible rfl)
        try simp only [Act.put, List.getElem_toArray, List.getElem_cons_succ, List.getElem_cons_zero, List.setIfInBounds_toArray, List.set_cons_zero, List.set_cons_succ]
        refine wpAnyH_take (i := 11) (oi := _) (v := ?_) rfl (by kernel_rfl) (by kernel_rfl) (by kernel_rfl) (fun _ _ _ h => h) (Or.inl ⟨by rfl, ?_⟩) (by assumption) ?_
        rotate_left
        · intro w hSw
          (try dsimp only at hSw)
          go_simp
          try (with_reducible rfl)
        try simp only [Act.put, List.getElem_toArray, List.getElem_cons_succ, List.getElem_cons_zero, List.setIfInBounds_toArray, List.set_cons_zero, List.set_cons_succ]
        refine wpAnyH_take (i := 12) (oi := _) (v := ?_) rfl (by kernel_rfl) (by kernel_rfl) (by kernel_rfl) (fun _ _ _ h => h) (Or.inl ⟨by rfl, ?_⟩) (by assumption) ?_
        rotate_left
        · intro w hSw
          (try dsimp only at hSw)
          go_simp
          try (with_reducible rfl)
        try simp only [Act.put, List.getElem_toArray, List.getElem_cons_succ, List.getElem_cons_zero, List.setIfInBounds_toArray, List.set_cons_zero, List.set_cons_succ]
        refine wpAnyH_ready (rs := [9]) (by kernel_rfl) (by simp) ?_
        refine AllReadyH.cons rfl (fun K hK => ?_) ?_
        rotate_left
        · exact AllReadyH.nil
        go_simp
        go_at_call 31
        refine (rPut_any fc ad qt to co A A6 n c n6 c6 xs vs _ (hx'.out.ext (E7.go d8')) hr'.out nm (r7.ext d8') hgr6.out n7).mono ?_
        rintro e w9 ⟨A9, n9, c9, rfl, _, _, r9, d9⟩
        have d9' := d8'.go d9
        have cs9 := r9.convert Try.underlying30 Try.underlying5 Try.underlying9 c9
        rw [hpl'.out, hs7'.out] at cs9
        clear r9
        try dsimp only
        refine hK.out _ _ ?_ (fun hHeld => ?_)
        · first | assumption | (dsimp only; assumption)
        clear hK K
        try simp only [Act.put, List.getElem_toArray, List.getElem_cons_succ, List.getElem_cons_zero, List.setIfInBounds_toArray, List.set_cons_zero, List.set_cons_succ]
        refine wpAnyH_ready (rs := [10]) (by kernel_rfl) (by simp) ?_
        refine AllReadyH.cons rfl (fun K hK => ?_) ?_
        rotate_left
        · exact AllReadyH.nil
        go_simp
        refine hK.out _ _ ?_ (fun hHeld => ?_)
        · first | assumption | (dsimp only; assumption)
        clear hK K
        try simp only [Act.put, List.getElem_toArray, List.getElem_cons_succ, List.getElem_cons_zero, List.setIfInBounds_toArray, List.set_cons_zero, List.set_cons_succ]
        refine wpAnyH_take (i := 13) (oi := _) (v := ?_) rfl (by kernel_rfl) (by kernel_rfl) (by kernel_rfl) (fun _ _ _ h => h) (Or.inl ⟨by rfl, ?_⟩) (by assumption) ?_
        rotate_left
        · intro w hSw
          (try dsimp only at hSw)
          go_simp
          try (with_reducible rfl)
        try simp only [Act.put, List.getElem_toArray, List.getElem_cons_succ, List.getElem_cons_zero, List.setIfInBounds_toArray, List.set_cons_zero, List.set_cons_succ]
        refine wpAnyH_take (i := 14) (oi := _) (v := ?_) rfl (by kernel_rfl) (by kernel_rfl) (by kernel_rfl) (fun _ _ _ h => h) (Or.inl ⟨by rfl, ?_⟩) (by assumption) ?_
        rotate_left
        · intro w hSw
          (try dsimp only at hSw)
          go_simp
          try (with_reducible rfl)
        try simp only [Act.put, List.getElem_toArray, List.getElem_cons_succ, List.getElem_cons_zero, List.setIfInBounds_toArray, List.set_cons_zero, List.set_cons_succ]
        refine wpAnyH_take (i := 15) (oi := _) (v := ?_) rfl (by kernel_rfl) (by kernel_rfl) (by kernel_rfl) (fun _ _ _ h => h) (Or.inl ⟨by rfl, ?_⟩) (by assumption) ?_
        rotate_left
        · intro w hSw
          (try dsimp only at hSw)
          go_simp
          try (with_reducible rfl)
        try simp only [Act.put, List.getElem_toArray, List.getElem_cons_succ, List.getElem_cons_zero, List.setIfInBounds_toArray, List.set_cons_zero, List.set_cons_succ]
        refine wpAnyH_take (i := 16) (oi := _) (v := ?_) rfl (by kernel_rfl) (by kernel_rfl) (by kernel_rfl) (fun _ _ _ h => h) (Or.inl ⟨by rfl, ?_⟩) (by assumption) ?_
        rotate_left
        · intro w hSw
          (try dsimp only at hSw)
          go_simp
          try (with_reducible rfl)
        try simp only [Act.put, List.getElem_toArray, List.getElem_cons_succ, List.getElem_cons_zero, List.setIfInBounds_toArray, List.set_cons_zero, List.set_cons_succ]
        refine wpAnyH_take (i := 17) (oi := _) (v := ?_) rfl (by kernel_rfl) (by kernel_rfl) (by kernel_rfl) (fun _ _ _ h => h) (Or.inl ⟨by rfl, ?_⟩) (by assumption) ?_
        rotate_left
        · intro w hSw
          (try dsimp only at hSw)
          go_simp
          try (with_reducible rfl)
        try simp only [Act.put, List.getElem_toArray, List.getElem_cons_succ, List.getElem_cons_zero, List.setIfInBounds_toArray, List.set_cons_zero, List.set_cons_succ]
        refine wpAnyH_take (i := 18) (oi := _) (v := ?_) rfl (by kernel_rfl) (by kernel_rfl) (by kernel_rfl) (fun _ _ _ h => h) (Or.inl ⟨by rfl, ?_⟩) (by assumption) ?_
        rotate_left
        · intro w hSw
          (try dsimp only at hSw)
          go_simp
          try (with_reducible rfl)
        try simp only [Act.put, List.getElem_toArray, List.getElem_cons_succ, List.getElem_cons_zero, List.setIfInBounds_toArray, List.set_cons_zero, List.set_cons_succ]
        refine wpAnyH_take (i := 19) (oi := _) (v := ?_) rfl (by kernel_rfl) (by kernel_rfl) (by kernel_rfl) (fun _ _ _ h => h) (Or.inl ⟨by rfl, ?_⟩) (by assumption) ?_
        rotate_left
        · intro w hSw
          (try dsimp only at hSw)
          go_simp
          try (with_reducible rfl)
        try simp only [Act.put, List.getElem_toArray, List.getElem_cons_succ, List.getElem_cons_zero, List.setIfInBounds_toArray, List.set_cons_zero, List.set_cons_succ]
        refine wpAnyH_take (i := 20) (oi := _) (v := ?_) rfl (by kernel_rfl) (by kernel_rfl) (by kernel_rfl) (fun _ _ _ h => h) (Or.inl ⟨by rfl, ?_⟩) (by assumption) ?_
        rotate_left
        · intro w hSw
          (try dsimp only at hSw)
          go_simp
          try (with_reducible rfl)
        try simp only [Act.put, List.getElem_toArray, List.getElem_cons_succ, List.getElem_cons_zero, List.setIfInBounds_toArray, List.set_cons_zero, List.set_cons_succ]
        refine wpAnyH_take (i := 21) (oi := _) (v := ?_) rfl (by kernel_rfl) (by kernel_rfl) (by kernel_rfl) (fun _ _ _ h => h) (Or.inl ⟨by rfl, ?_⟩) (by assumption) ?_
        rotate_left
        · intro w hSw
          (try dsimp only at hSw)
          go_simp
          try (with_reducible rfl)
        try simp only [Act.put, List.getElem_toArray, List.getElem_cons_succ, List.getElem_cons_zero, List.setIfInBounds_toArray, List.set_cons_zero, List.set_cons_succ]
        refine wpAnyH_take (i := 22) (oi := _) (v := ?_) rfl (by kernel_rfl) (by kernel_rfl) (by kernel_rfl) (fun _ _ _ h => h) (Or.inl ⟨by rfl, ?_⟩) (by assumption) ?_
        rotate_left
        · intro w hSw
          (try dsimp only at hSw)
          go_simp
          try (with_reducible rfl)
        try simp only [Act.put, List.getElem_toArray, List.getElem_cons_succ, List.getElem_cons_zero, List.setIfInBounds_toArray, List.set_cons_zero, List.set_cons_succ]
        refine wpAnyH_take (i := 23) (oi := _) (v := ?_) rfl (by kernel_rfl) (by kernel_rfl) (by kernel_rfl) (fun _ _ _ h => h) (Or.inl ⟨by rfl, ?_⟩) (by assumption) ?_
        rotate_left
        · intro w hSw
          (try dsimp only at hSw)
          go_simp
          try (with_reducible rfl)
        try simp only [Act.put, List.getElem_toArray, List.getElem_cons_succ, List.getElem_cons_zero, List.setIfInBounds_toArray, List.set_cons_zero, List.set_cons_succ]
        refine wpAnyH_done (by kernel_rfl) ?_ _
        go_wp2_with fail
        go_ret
        exact ⟨rfl, E7.go d9'⟩
    · rw [if_neg hc]
      have y1 : (code == 0) = false := by simp; exact hc
      go_wp2_with fail
      refine (same05_any code code A5 A2 n5 c5 n2 c2 _ ys ys _ r5'.out (hy'.out.ext E5) (Nat.le_refl _) (Nat.le_trans g5 g5') nm2).mono ?_
      rw [show (code == code && decide (ys = ys)) = true by simp]
      rintro e wa ⟨rfl, Da⟩
      have D0a := D05.go Da
      have Ea := E0.go D0a
      have pa := bp'.out _ D0a
      have qa := bq'.out _ D0a
      go_wp2_with fail
      have hga' := hga.out
      have hgr' := hgr.out
      have qk := bq'.out wa D0a
      refine (rget_any fc ad qt to A Ab n c m cb xs bs wa (hx'.out.ext Ea) hr'.out nm (hz'.out.ext Ea) hb'.out hmc hcm).mono ?_
      generalize rgetR fc ad qt to xs bs = R at hga' hgr' ⊢
      obtain ⟨co, vs, er⟩ := R
      rintro e w6 ⟨A6, n6, c6, rfl, g6, g6', r6, D6⟩
      dsimp only at r6 hga' hgr' ⊢
      have G7 := (Ext.refl w6).goA (.cells #[.int .i64 co, .slice A6 n6 c6] 50)
      have r7 := r6.ext G7
      have n7 : n6 ≤ maxLen := Nat.le_trans g6 g6'
      have D7 := (D0a.go D6).go G7
      have E7 := E0.go D7
      rcases hga' with ⟨rfl, rfl, rfl⟩ | ⟨ha6, hs6, he6⟩
      · clear hgr'
        go_wp2_with fail
        refine (same05_any 0 0 A6 none n6 c6 0 0 _ [] [] _ r7 (RdI.nil _) (Nat.le_refl _) n7 (by decide)).mono ?_
        rw [show ((0 : Int) == 0 && decide (([] : List Int) = [])) = true from rfl]
        rintro e w8 ⟨rfl, D8⟩
        go_wp2_with fail
        go_ret
        exact ⟨rfl, E7.go D8⟩
      · have hyb := fun w' (D : Ext (w6.alloc (.cells #[.int .i64 co, .slice A6 n6 c6] 50)) w') => cellsAt ((D.block w6.heap.size (by simp)).trans (heap_alloc_new w6 _))
        have hs7 : strOfNums (repR fc ad qt to xs co vs) = strOfNums bs := str_eq hs6
        have hpl : rputL fc ad qt to xs co vs = repR fc ad qt to xs co vs := if_pos ha6
        obtain ⟨v1, v2, v3⟩ : (er == 51) = false ∧ (er == 52) = (co != 0) ∧ (co == 0) = !(co != 0) := by
          rcases he6 with ⟨rfl, h0⟩ | ⟨rfl, rfl⟩
          · have : (co != 0) = true := by simp; exact h0
            rw [this]; exact ⟨rfl, rfl, by simp; exact h0⟩
          · exact ⟨rfl, rfl, rfl⟩
        generalize v4 : (co != 0) = bb at v2 v3
        have hyb' := Lib.hid hyb
        have hs7' := Lib.hid hs7
        have ha6' := Lib.hid ha6
        have hpl' := Lib.hid hpl
        have hgr6 := Lib.hid hgr'
        clear hyb hs7 hs6 hgr' ha6 he6 hpl
        go_wp2_with fail
        generalize w6.alloc (.cells #[.int .i64 co, .slice A6 n6 c6] 50) = W at *
        have hyb := hyb'.out
        have hqq := fun w' (D : Ext W w') => bq'.out w' (D7.go D)
        have hcv : ∀ w', Ext W w' → Sem.run Try.prog (convert 30 9 (.slice Ab m cb)) w' = .ok (.string (strOfNums bs)) w' := fun w' h => (hz'.out.ext (E7.go h)).convert Try.underlying30 Try.underlying5 Try.underlying9 cb
        have d0 : Ext W W.drew := (Ext.refl _).god
        refine wp_region_held_drew (S := fun w' => Ext W w') (by kernel_rfl) d0 (fun hHeld => ?_)
        refine wpAnyH_take (i := 0) (oi := _) (v := ?_) rfl (by kernel_rfl) (by kernel_rfl) (by kernel_rfl) (fun _ _ _ h => h) (Or.inl ⟨by rfl, ?_⟩) (by assumption) ?_
        rotate_left
        · intro w hSw
          (try dsimp only at hSw)
          go_simp
          try (with_reducible rfl)
        try simp only [Act.put, List.getElem_toArray, List.getElem_cons_zero, List.setIfInBounds_toArray, List.set_cons_zero, List.set_cons_succ]
        refine wpAnyH_take (i := 1) (oi := _) (v := ?_) rfl (by kernel_rfl) (by kernel_rfl) (by kernel_rfl) (fun _ _ _ h => h) (Or.inl ⟨by rfl, ?_⟩) (by assumption) ?_
        rotate_left
        · intro w hSw
          (try dsimp only at hSw)
          go_simp
          try (with_reducible rfl)
        try simp only [Act.put, List.getElem_toArray, List.getElem_cons_succ, List.getElem_cons_zero, List.setIfInBounds_toArray, List.set_cons_zero, List.set_cons_succ]
        refine wpAnyH_take (i := 2) (oi := _) (v := ?_) rfl (by kernel_rfl) (by kernel_rfl) (by kernel_rfl) (fun _ _ _ h => h) (Or.inl ⟨by rfl, ?_⟩) (by assumption) ?_
        rotate_left
        · intro w hSw
          (try dsimp only at hSw)
          go_simp
          try (with_reducible rfl)
        try simp only [Act.put, List.getElem_toArray, List.getElem_cons_succ, List.getElem_cons_zero, List.setIfInBounds_toArray, List.set_cons_zero, List.set_cons_succ]
        refine wpAnyH_take (i := 3) (oi := _) (v := ?_) rfl (by kernel_rfl) (by kernel_rfl) (by kernel_rfl) (fun _ _ _ h => h) (Or.inl ⟨by rfl, ?_⟩) (by assumption) ?_
        rotate_left
        · intro w hSw
          (try dsimp only at hSw)
          go_simp
          try (with_reducible rfl)
        try simp only [Act.put, List.getElem_toArray, List.getElem_cons_succ, List.getElem_cons_zero, List.setIfInBounds_toArray, List.set_cons_zero, List.set_cons_succ]
        refine wpAnyH_ready (rs := [4]) (by kernel_rfl) (by simp) ?_
        refine AllReadyH.cons rfl (fun K hK => ?_) ?_
        rotate_left
        · exact AllReadyH.nil
        go_simp
        go_at_call 32
        refine (rRight_any fc ad qt to co A A6 n c n6 c6 xs vs _ (hx'.out.ext (E7.go d0)) (r7.ext d0) nm n7).mono ?_
        rw [ha6'.out]
        rintro e w8 ⟨rfl, d8⟩
        have d8' := d0.go d8
        try dsimp only
        refine hK.out _ _ ?_ (fun hHeld => ?_)
        · first | assumption | (dsimp only; assumption)
        clear hK K
        try simp only [Act.put, List.getElem_toArray, List.getElem_cons_succ, List.getElem_cons_zero, List.setIfInBounds_toArray, List.set_cons_zero, List.set_cons_succ]
        refine wpAnyH_take (i := 5) (oi := _) (v := ?_) rfl (by kernel_rfl) (by kernel_rfl) (by kernel_rfl) (fun _ _ _ h => h) (Or.inl ⟨by rfl, ?_⟩) (by assumption) ?_
        rotate_left
        · intro w hSw
          (try dsimp only at hSw)
          go_simp
          try (with_reducible rfl)
        try simp only [Act.put, List.getElem_toArray, List.getElem_cons_succ, List.getElem_cons_zero, List.setIfInBounds_toArray, List.set_cons_zero, List.set_cons_succ]
        refine wpAnyH_take (i := 6) (oi := _) (v := ?_) rfl (by kernel_rfl) (by kernel_rfl) (by kernel_rfl) (fun _ _ _ h => h) (Or.inl ⟨by rfl, ?_⟩) (by assumption) ?_
        rotate_left
        · intro w hSw
          (try dsimp only at hSw)
          go_simp
          try (with_reducible rfl)
        try simp only [Act.put, List.getElem_toArray, List.getElem_cons_succ, List.getElem_cons_zero, List.setIfInBounds_toArray, List.set_cons_zero, List.set_cons_succ]
        refine wpAnyH_take (i := 7) (oi := _) (v := ?_) rfl (by kernel_rfl) (by kernel_rfl) (by kernel_rfl) (fun _ _ _ h => h) (Or.inl ⟨by rfl, ?_⟩) (by assumption) ?_
        rotate_left
        · intro w hSw
          (try dsimp only at hSw)
          go_simp
          try (with_reducible rfl)
        try simp only [Act.put, List.getElem_toArray, List.getElem_cons_succ, List.getElem_cons_zero, List.setIfInBounds_toArray, List.set_cons_zero, List.set_cons_succ]
        refine wpAnyH_take (i := 8) (oi := _) (v := ?_) rfl (by kernel_rfl) (by kernel_rfl) (by kernel_rfl) (fun _ _ _ h => h) (Or.inl ⟨by rfl, ?_⟩) (by assumption) ?_
        rotate_left
        · intro w hSw
          (try dsimp only at hSw)
          go_simp
          try (with_reducible rfl)
        try simp only [Act.put, List.getElem_toArray, List.getElem_cons_succ, List.getElem_cons_zero, List.setIfInBounds_toArray, List.set_cons_zero, List.set_cons_succ]
        refine wpAnyH_take (i := 11) (oi := _) (v := ?_) rfl (by kernel_rfl) (by kernel_rfl) (by kernel_rfl) (fun _ _ _ h => h) (Or.inl ⟨by rfl, ?_⟩) (by assumption) ?_
        rotate_left
        · intro w hSw
          (try dsimp only at hSw)
          go_simp
          try (with_reducible rfl)
        try simp only [Act.put, List.getElem_toArray, List.getElem_cons_succ, List.getElem_cons_zero, List.setIfInBounds_toArray, List.set_cons_zero, List.set_cons_succ]
        refine wpAnyH_take (i := 12) (oi := _) (v := ?_) rfl (by kernel_rfl) (by kernel_rfl) (by kernel_rfl) (fun _ _ _ h => h) (Or.inl ⟨by rfl, ?_⟩) (by assumption) ?_
        rotate_left
        · intro w hSw
          (try dsimp only at hSw)
          go_simp
          try (with_reducible rfl)
        try simp only [Act.put, List.getElem_toArray, List.getElem_cons_succ, List.getElem_cons_zero, List.setIfInBounds_toArray, List.set_cons_zero, List.set_cons_succ]
        refine wpAnyH_ready (rs := [9]) (by kernel_rfl) (by simp) ?_
        refine AllReadyH.cons rfl (fun K hK => ?_) ?_
        rotate_left
        · exact AllReadyH.nil
        go_simp
        go_at_call 31
        refine (rPut_any fc ad qt to co A A6 n c n6 c6 xs vs _ (hx'.out.ext (E7.go d8')) hr'.out nm (r7.ext d8') hgr6.out n7).mono ?_
        rintro e w9 ⟨A9, n9, c9, rfl, _, _, r9, d9⟩
        have d9' := d8'.go d9
        have cs9 := r9.convert Try.underlying30 Try.underlying5 Try.underlying9 c9
        rw [hpl'.out, hs7'.out] at cs9
        clear r9
        try dsimp only
        refine hK.out _ _ ?_ (fun hHeld => ?_)
        · first | assumption | (dsimp only; assumption)
        clear hK K
        try simp only [Act.put, List.getElem_toArray, List.getElem_cons_succ, List.getElem_cons_zero, List.setIfInBounds_toArray, List.set_cons_zero, List.set_cons_succ]
        refine wpAnyH_ready (rs := [10]) (by kernel_rfl) (by simp) ?_
        refine AllReadyH.cons rfl (fun K hK => ?_) ?_
        rotate_left
        · exact AllReadyH.nil
        go_simp
        refine hK.out _ _ ?_ (fun hHeld => ?_)
        · first | assumption | (dsimp only; assumption)
        clear hK K
        try simp only [Act.put, List.getElem_toArray, List.getElem_cons_succ, List.getElem_cons_zero, List.setIfInBounds_toArray, List.set_cons_zero, List.set_cons_succ]
        refine wpAnyH_take (i := 13) (oi := _) (v := ?_) rfl (by kernel_rfl) (by kernel_rfl) (by kernel_rfl) (fun _ _ _ h => h) (Or.inl ⟨by rfl, ?_⟩) (by assumption) ?_
        rotate_left
        · intro w hSw
          (try dsimp only at hSw)
          go_simp
          try (with_reducible rfl)
        try simp only [Act.put, List.getElem_toArray, List.getElem_cons_succ, List.getElem_cons_zero, List.setIfInBounds_toArray, List.set_cons_zero, List.set_cons_succ]
        refine wpAnyH_take (i := 14) (oi := _) (v := ?_) rfl (by kernel_rfl) (by kernel_rfl) (by kernel_rfl) (fun _ _ _ h => h) (Or.inl ⟨by rfl, ?_⟩) (by assumption) ?_
        rotate_left
        · intro w hSw
          (try dsimp only at hSw)
          go_simp
          try (with_reducible rfl)
        try simp only [Act.put, List.getElem_toArray, List.getElem_cons_succ, List.getElem_cons_zero, List.setIfInBounds_toArray, List.set_cons_zero, List.set_cons_succ]
        refine wpAnyH_take (i := 15) (oi := _) (v := ?_) rfl (by kernel_rfl) (by kernel_rfl) (by kernel_rfl) (fun _ _ _ h => h) (Or.inl ⟨by rfl, ?_⟩) (by assumption) ?_
        rotate_left
        · intro w hSw
          (try dsimp only at hSw)
          go_simp
          try (with_reducible rfl)
        try simp only [Act.put, List.getElem_toArray, List.getElem_cons_succ, List.getElem_cons_zero, List.setIfInBounds_toArray, List.set_cons_zero, List.set_cons_succ]
        refine wpAnyH_take (i := 16) (oi := _) (v := ?_) rfl (by kernel_rfl) (by kernel_rfl) (by kernel_rfl) (fun _ _ _ h => h) (Or.inl ⟨by rfl, ?_⟩) (by assumption) ?_
        rotate_left
        · intro w hSw
          (try dsimp only at hSw)
          go_simp
          try (with_reducible rfl)
        try simp only [Act.put, List.getElem_toArray, List.getElem_cons_succ, List.getElem_cons_zero, List.setIfInBounds_toArray, List.set_cons_zero, List.set_cons_succ]
        refine wpAnyH_take (i := 17) (oi := _) (v := ?_) rfl (by kernel_rfl) (by kernel_rfl) (by kernel_rfl) (fun _ _ _ h => h) (Or.inl ⟨by rfl, ?_⟩) (by assumption) ?_
        rotate_left
        · intro w hSw
          (try dsimp only at hSw)
          go_simp
          try (with_reducible rfl)
        try simp only [Act.put, List.getElem_toArray, List.getElem_cons_succ, List.getElem_cons_zero, List.setIfInBounds_toArray, List.set_cons_zero, List.set_cons_succ]
        refine wpAnyH_take (i := 18) (oi := _) (v := ?_) rfl (by kernel_rfl) (by kernel_rfl) (by kernel_rfl) (fun _ _ _ h => h) (Or.inl ⟨by rfl, ?_⟩) (by assumption) ?_
        rotate_left
        · intro w hSw
          (try dsimp only at hSw)
          go_simp
          try (with_reducible rfl)
        try simp only [Act.put, List.getElem_toArray, List.getElem_cons_succ, List.getElem_cons_zero, List.setIfInBounds_toArray, List.set_cons_zero, List.set_cons_succ]
        refine wpAnyH_take (i := 19) (oi := _) (v := ?_) rfl (by kernel_rfl) (by kernel_rfl) (by kernel_rfl) (fun _ _ _ h => h) (Or.inl ⟨by rfl, ?_⟩) (by assumption) ?_
        rotate_left
        · intro w hSw
          (try dsimp only at hSw)
          go_simp
          try (with_reducible rfl)
        try simp only [Act.put, List.getElem_toArray, List.getElem_cons_succ, List.getElem_cons_zero, List.setIfInBounds_toArray, List.set_cons_zero, List.set_cons_succ]
        refine wpAnyH_take (i := 20) (oi := _) (v := ?_) rfl (by kernel_rfl) (by kernel_rfl) (by kernel_rfl) (fun _ _ _ h => h) (Or.inl ⟨by rfl, ?_⟩) (by assumption) ?_
        rotate_left
        · intro w hSw
          (try dsimp only at hSw)
          go_simp
          try (with_reducible rfl)
        try simp only [Act.put, List.getElem_toArray, List.getElem_cons_succ, List.getElem_cons_zero, List.setIfInBounds_toArray, List.set_cons_zero, List.set_cons_succ]
        refine wpAnyH_take (i := 21) (oi := _) (v := ?_) rfl (by kernel_rfl) (by kernel_rfl) (by kernel_rfl) (fun _ _ _ h => h) (Or.inl ⟨by rfl, ?_⟩) (by assumption) ?_
        rotate_left
        · intro w hSw
          (try dsimp only at hSw)
          go_simp
          try (with_reducible rfl)
        try simp only [Act.put, List.getElem_toArray, List.getElem_cons_succ, List.getElem_cons_zero, List.setIfInBounds_toArray, List.set_cons_zero, List.set_cons_succ]
        refine wpAnyH_take (i := 22) (oi := _) (v := ?_) rfl (by kernel_rfl) (by kernel_rfl) (by kernel_rfl) (fun _ _ _ h => h) (Or.inl ⟨by rfl, ?_⟩) (by assumption) ?_
        rotate_left
        · intro w hSw
          (try dsimp only at hSw)
          go_simp
          try (with_reducible rfl)
        try simp only [Act.put, List.getElem_toArray, List.getElem_cons_succ, List.getElem_cons_zero, List.setIfInBounds_toArray, List.set_cons_zero, List.set_cons_succ]
        refine wpAnyH_take (i := 23) (oi := _) (v := ?_) rfl (by kernel_rfl) (by kernel_rfl) (by kernel_rfl) (fun _ _ _ h => h) (Or.inl ⟨by rfl, ?_⟩) (by assumption) ?_
        rotate_left
        · intro w hSw
          (try dsimp only at hSw)
          go_simp
          try (with_reducible rfl)
        try simp only [Act.put, List.getElem_toArray, List.getElem_cons_succ, List.getElem_cons_zero, List.setIfInBounds_toArray, List.set_cons_zero, List.set_cons_succ]
        refine wpAnyH_done (by kernel_rfl) ?_ _
        go_wp2_with fail
        go_ret
        exact ⟨rfl, E7.go d9'⟩
theorem replyBack_any (fc ad qt to code : Int) (A A2 Ab : Option Addr) (n c n2 c2 m cb : Nat) (xs ys bs : List Int) (w : World) (hx : RdI w w.heap.size .u16 A n xs) (hr : ∀ j : Nat, 0 ≤ xs[j]?.getD 0 ∧ xs[j]?.getD 0 ≤ 65535) (hy : RdI w w.heap.size .u16 A2 n2 ys) (hyr : ∀ j : Nat, 0 ≤ ys[j]?.getD 0 ∧ ys[j]?.getD 0 ≤ 65535)
    (hz : RdI w w.heap.size .u8 Ab m bs) (hb : ByteL bs) (hmc : m ≤ cb) (hcm : cb ≤ maxLen) :
    Calls Try.prog 11 #[.agg #[.int .i64 fc, .int .i64 ad, .int .i64 qt, .slice A n c, .int .i64 to], .agg #[.int .i64 code, .slice A2 n2 c2], .slice Ab m cb] w fun e w' => e = .returned (.bool true) ∧ Ext w w' := by
  by_cases h : 3000 < n ∨ 3000 < n2 ∨ 3000 < m
  · exact replyBack_big fc ad qt to code A A2 Ab n c n2 c2 m cb w h
  · exact replyBack_small fc ad qt to code A A2 Ab n c n2 c2 m cb xs ys bs w hx hr hy hyr hz hb (by omega) (by omega) (by omega) hmc hcm
end Go.Proofs.Ytkkbjchoilcjlaa
