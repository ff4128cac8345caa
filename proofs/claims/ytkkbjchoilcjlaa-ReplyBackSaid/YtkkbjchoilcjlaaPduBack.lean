/- Layer 4: the law PduBack, walked. -/
import Derived.Test.YtkkbjchoilcjlaaPduHead
import Derived.Test.YtkkbjchoilcjlaaPduLaw
import Derived.Deep.RegionHeld
namespace Go.Proofs.Ytkkbjchoilcjlaa
open Go.RowKit

set_option maxHeartbeats 1600000 in
theorem pduBack_big (fc ad qt to : Int) (A A' : Option Addr) (n c m c' : Nat) (w : World) (h : 3000 < n ∨ 3000 < m) :
    Calls Try.prog 6 #[.agg #[.int .i64 fc, .int .i64 ad, .int .i64 qt, .slice A n c, .int .i64 to], .slice A' m c'] w fun e w' => e = .returned (.bool true) ∧ Ext w w' := by
  have bx := fun w' (D : Ext (w.alloc (.cells #[.int .i64 fc, .int .i64 ad, .int .i64 qt, .slice A n c, .int .i64 to] 34)) w') => cellsAt ((D.block w.heap.size (by simp)).trans (heap_alloc_new w _))
  have bx' := Lib.hid bx
  have E0 := (Ext.refl w).goA (.cells #[.int .i64 fc, .int .i64 ad, .int .i64 qt, .slice A n c, .int .i64 to] 34)
  clear bx
  by_cases h1 : 3000 < n
  · have t1 : decide (3000 < (n : Int)) = true := by simp; omega
    clear h h1
    go_enter Try.func6, Try.ntmps6
    go_wp2_with fail
    refine (pduHead_any _).mono ?_
    rintro e w1 ⟨rfl, D1⟩
    have b1 := bx'.out w1 D1
    go_wp2_with fail
    go_ret
    exact ⟨rfl, E0.go D1⟩
  · have t1 : decide (3000 < (n : Int)) = false := by simp; omega
    have t2 : decide (3000 < (m : Int)) = true := by simp; omega
    clear h h1
    go_enter Try.func6, Try.ntmps6
    go_wp2_with fail
    refine (pduHead_any _).mono ?_
    rintro e w1 ⟨rfl, D1⟩
    have b1 := bx'.out w1 D1
    go_wp2_with fail
    go_ret
    exact ⟨rfl, E0.go D1⟩

theorem str_eq {a b : ByteArray} (h : a.toList = b.toList) : a = b := by
  rw [ByteArray.toList_eq, ByteArray.toList_eq] at h
  cases a; cases b
  exact congrArg _ (Array.toList_inj.1 h)
theorem same_refl (fc ad qt to : Int) (xs : List Int) : ((fc == fc) && ((ad == ad) && ((qt == qt) && ((to == to) && decide (xs = xs))))) = true := by simp
set_option maxHeartbeats 3200000 in
theorem pduBack_small (fc ad qt to : Int) (A A' : Option Addr) (n c m c' : Nat) (xs bs : List Int) (w : World) (hx : RdI w w.heap.size .u16 A n xs) (hr : ∀ j : Nat, 0 ≤ xs[j]?.getD 0 ∧ xs[j]?.getD 0 ≤ 65535)
    (hy : RdI w w.heap.size .u8 A' m bs) (hb : ByteL bs) (hn : n ≤ 3000) (hm : m ≤ 3000) (hmc : m ≤ c') (hcm : c' ≤ maxLen) :
    Calls Try.prog 6 #[.agg #[.int .i64 fc, .int .i64 ad, .int .i64 qt, .slice A n c, .int .i64 to], .slice A' m c'] w fun e w' => e = .returned (.bool true) ∧ Ext w w' := by
  have bx := fun w' (D : Ext (w.alloc (.cells #[.int .i64 fc, .int .i64 ad, .int .i64 qt, .slice A n c, .int .i64 to] 34)) w') => cellsAt ((D.block w.heap.size (by simp)).trans (heap_alloc_new w _))
  have bx' := Lib.hid bx
  have E0 := (Ext.refl w).goA (.cells #[.int .i64 fc, .int .i64 ad, .int .i64 qt, .slice A n c, .int .i64 to] 34)
  clear bx
  have t1 : decide (3000 < (n : Int)) = false := by simp; omega
  have t2 : decide (3000 < (m : Int)) = false := by simp; omega
  have hx' := Lib.hid hx
  have hy' := Lib.hid hy
  have hr' := Lib.hid hr
  have hb' := Lib.hid hb
  have nm : n ≤ maxLen := by unfold maxLen; omega
  have hpl := Lib.hid (put_length fc ad qt to xs)
  have hpb := Lib.hid (putL_bytes fc ad qt to xs)
  have hpg := Lib.hid (fun h => put_get fc ad qt to xs h hr)
  have hga := Lib.hid (got_any bs)
  have hgr := Lib.hid (getR_range bs hb)
  clear hx hy hr hb hn hm
  go_enter Try.func6, Try.ntmps6
  go_wp2_with fail
  refine (pduHead_any _).mono ?_
  rintro e w1 ⟨rfl, D1⟩
  have b1 := bx'.out w1 D1
  have E1 := E0.go D1
  go_wp2_with fail
  refine (pduPut_any fc ad qt to A n c xs w1 (hx'.out.ext E1) hr'.out nm).mono ?_
  rintro e w2 ⟨A2, n2, c2, rfl, g2, g2', r2, D2⟩
  have b2 := bx'.out w2 (D1.go D2)
  have E2 := E1.go D2
  have l2 := Lib.hid r2.len
  have r2' := Lib.hid r2
  clear b1 r2
  go_wp2_with fail
  refine (pduRight_any fc ad qt to A n c xs w2 (hx'.out.ext E2) nm).mono ?_
  rintro e w3 ⟨rfl, D3⟩
  have b3 := bx'.out w3 ((D1.go D2).go D3)
  have E3 := E2.go D3
  clear b2
  have hl2 := hpl.out
  rw [l2.out] at hl2
  cases hq : rightB' fc ad qt to xs
  · have n0 : n2 = 0 := by rw [hq] at hl2; have := hl2.1; simp at this; exact this
    have p1 : decide (0 < n2) = false := by simp; exact n0
    have p2 : decide (253 < (n2 : Int)) = false := by simp; omega
    clear n0 hl2
    go_wp2_with fail
    have hga' := hga.out
    have hgr' := hgr.out
    refine (pduGet_any A' m c' bs w3 (hy'.out.ext E3) hb'.out hmc hcm).mono ?_
    generalize getR bs = R at hga' hgr' ⊢
    obtain ⟨⟨f', a', q', u', l'⟩, code⟩ := R
    rintro e w6 ⟨A6, n6, c6, rfl, g6, g6', r6, D6⟩
    dsimp only at r6 hga' hgr' ⊢
    have E6 := E3.go D6
    have G7 := (Ext.refl w6).goA (.cells #[.int .i64 f', .int .i64 a', .int .i64 q', .slice A6 n6 c6, .int .i64 u'] 34)
    have r7 := r6.ext G7
    have n7 : n6 ≤ maxLen := Nat.le_trans g6 g6'
    rcases hga' with ⟨rfl, hq6, hs6⟩ | ⟨⟨k1, k2⟩, he⟩
    · have hyb := fun w' (D : Ext (w6.alloc (.cells #[.int .i64 f', .int .i64 a', .int .i64 q', .slice A6 n6 c6, .int .i64 u'] 34)) w') => cellsAt ((D.block w6.heap.size (by simp)).trans (heap_alloc_new w6 _))
      have E7 := E6.go G7
      have hs7 : strOfNums (putL f' a' q' u' l') = strOfNums bs := str_eq hs6
      have hyb' := Lib.hid hyb
      have hs7' := Lib.hid hs7
      have hq6' := Lib.hid hq6
      have hgr6 := Lib.hid hgr'
      clear hyb hs7 hs6 hgr' hq6
      go_wp2_with fail
      generalize w6.alloc (.cells #[.int .i64 f', .int .i64 a', .int .i64 q', .slice A6 n6 c6, .int .i64 u'] 34) = W at *
      have hyb := hyb'.out
      have hcv : ∀ w', Ext W w' → Sem.run Try.prog (convert 30 9 (.slice A' m c')) w' = .ok (.string (strOfNums bs)) w' := fun w' h => (hy'.out.ext (E7.go h)).convert Try.underlying30 Try.underlying5 Try.underlying9 c'
      have d0 : Ext W W.drew := (Ext.refl _).god
      refine wp_region_held_drew (S := fun w' => Ext W w') (by kernel_rfl) d0 (fun hHeld => ?_)
      refine wpAnyH_take (i := 0) (oi := _) (v := ?_) rfl (by kernel_rfl) (by kernel_rfl) (by kernel_rfl) (fun _ _ _ h => h) (Or.inl ⟨by rfl, ?_⟩) (by assumption) ?_
      rotate_left
      · intro w hSw
        (try dsimp only at hSw)
        go_simp
        try (with_reducible rfl)
      try simp only [Act.put, List.getElem_toArray, List.getElem_cons_zero, List.setIfInBounds_toArray, List.set_cons_zero, List.set_cons_succ]
      refine wpAnyH_take (i := 1) (oi := _) (v := ?_) rfl (by kernel_rfl) (by kernel_rfl) (by kernel_rfl) (fun _ _ _ h => h) (Or.inl ⟨by rfl, ?_⟩) (by assumption) ?_
      rotate_left
      · intro w hSw
        (try dsimp only at hSw)
        go_simp
        try (with_reducible rfl)
      try simp only [Act.put, List.getElem_toArray, List.getElem_cons_succ, List.getElem_cons_zero, List.setIfInBounds_toArray, List.set_cons_zero, List.set_cons_succ]
      refine wpAnyH_take (i := 2) (oi := _) (v := ?_) rfl (by kernel_rfl) (by kernel_rfl) (by kernel_rfl) (fun _ _ _ h => h) (Or.inl ⟨by rfl, ?_⟩) (by assumption) ?_
      rotate_left
      · intro w hSw
        (try dsimp only at hSw)
        go_simp
        try (with_reducible rfl)
      try simp only [Act.put, List.getElem_toArray, List.getElem_cons_succ, List.getElem_cons_zero, List.setIfInBounds_toArray, List.set_cons_zero, List.set_cons_succ]
      refine wpAnyH_ready (rs := [3]) (by kernel_rfl) (by simp) ?_
      refine AllReadyH.cons rfl (fun K hK => ?_) ?_
      rotate_left
      · exact AllReadyH.nil
      go_simp
      go_at_call 22
      refine (pduRight_any f' a' q' u' A6 n6 c6 l' _ (r7.ext d0) n7).mono ?_
      rw [hq6'.out]
      rintro e w8 ⟨rfl, d8⟩
      have d8' := d0.go d8
      try dsimp only
      refine hK.out _ _ ?_ (fun hHeld => ?_)
      · first | assumption | (dsimp only; assumption)
      clear hK K
      try simp only [Act.put, List.getElem_toArray, List.getElem_cons_succ, List.getElem_cons_zero, List.setIfInBounds_toArray, List.set_cons_zero, List.set_cons_succ]
      refine wpAnyH_take (i := 4) (oi := _) (v := ?_) rfl (by kernel_rfl) (by kernel_rfl) (by kernel_rfl) (fun _ _ _ h => h) (Or.inl ⟨by rfl, ?_⟩) (by assumption) ?_
      rotate_left
      · intro w hSw
        (try dsimp only at hSw)
        go_simp
        try (with_reducible rfl)
      try simp only [Act.put, List.getElem_toArray, List.getElem_cons_succ, List.getElem_cons_zero, List.setIfInBounds_toArray, List.set_cons_zero, List.set_cons_succ]
      refine wpAnyH_take (i := 5) (oi := _) (v := ?_) rfl (by kernel_rfl) (by kernel_rfl) (by kernel_rfl) (fun _ _ _ h => h) (Or.inl ⟨by rfl, ?_⟩) (by assumption) ?_
      rotate_left
      · intro w hSw
        (try dsimp only at hSw)
        go_simp
        try (with_reducible rfl)
      try simp only [Act.put, List.getElem_toArray, List.getElem_cons_succ, List.getElem_cons_zero, List.setIfInBounds_toArray, List.set_cons_zero, List.set_cons_succ]
      refine wpAnyH_take (i := 6) (oi := _) (v := ?_) rfl (by kernel_rfl) (by kernel_rfl) (by kernel_rfl) (fun _ _ _ h => h) (Or.inl ⟨by rfl, ?_⟩) (by assumption) ?_
      rotate_left
      · intro w hSw
        (try dsimp only at hSw)
        go_simp
        try (with_reducible rfl)
      try simp only [Act.put, List.getElem_toArray, List.getElem_cons_succ, List.getElem_cons_zero, List.setIfInBounds_toArray, List.set_cons_zero, List.set_cons_succ]
      refine wpAnyH_take (i := 9) (oi := _) (v := ?_) rfl (by kernel_rfl) (by kernel_rfl) (by kernel_rfl) (fun _ _ _ h => h) (Or.inl ⟨by rfl, ?_⟩) (by assumption) ?_
      rotate_left
      · intro w hSw
        (try dsimp only at hSw)
        go_simp
        try (with_reducible rfl)
      try simp only [Act.put, List.getElem_toArray, List.getElem_cons_succ, List.getElem_cons_zero, List.setIfInBounds_toArray, List.set_cons_zero, List.set_cons_succ]
      refine wpAnyH_take (i := 10) (oi := _) (v := ?_) rfl (by kernel_rfl) (by kernel_rfl) (by kernel_rfl) (fun _ _ _ h => h) (Or.inl ⟨by rfl, ?_⟩) (by assumption) ?_
      rotate_left
      · intro w hSw
        (try dsimp only at hSw)
        go_simp
        try (with_reducible rfl)
      try simp only [Act.put, List.getElem_toArray, List.getElem_cons_succ, List.getElem_cons_zero, List.setIfInBounds_toArray, List.set_cons_zero, List.set_cons_succ]
      refine wpAnyH_ready (rs := [7]) (by kernel_rfl) (by simp) ?_
      refine AllReadyH.cons rfl (fun K hK => ?_) ?_
      rotate_left
      · exact AllReadyH.nil
      go_simp
      go_at_call 21
      refine (pduPut_any f' a' q' u' A6 n6 c6 l' _ (r7.ext d8') hgr6.out n7).mono ?_
      rintro e w9 ⟨A9, n9, c9, rfl, _, _, r9, d9⟩
      have d9' := d8'.go d9
      have cs9 := r9.convert Try.underlying30 Try.underlying5 Try.underlying9 c9
      rw [hs7'.out] at cs9
      clear r9
      try dsimp only
      refine hK.out _ _ ?_ (fun hHeld => ?_)
      · first | assumption | (dsimp only; assumption)
      clear hK K
      try simp only [Act.put, List.getElem_toArray, List.getElem_cons_succ, List.getElem_cons_zero, List.setIfInBounds_toArray, List.set_cons_zero, List.set_cons_succ]
      refine wpAnyH_ready (rs := [8]) (by kernel_rfl) (by simp) ?_
      refine AllReadyH.cons rfl (fun K hK => ?_) ?_
      rotate_left
      · exact AllReadyH.nil
      go_simp
      refine hK.out _ _ ?_ (fun hHeld => ?_)
      · first | assumption | (dsimp only; assumption)
      clear hK K
      try simp only [Act.put, List.getElem_toArray, List.getElem_cons_succ, List.getElem_cons_zero, List.setIfInBounds_toArray, List.set_cons_zero, List.set_cons_succ]
      refine wpAnyH_take (i := 11) (oi := _) (v := ?_) rfl (by kernel_rfl) (by kernel_rfl) (by kernel_rfl) (fun _ _ _ h => h) (Or.inl ⟨by rfl, ?_⟩) (by assumption) ?_
      rotate_left
      · intro w hSw
        (try dsimp only at hSw)
        go_simp
        try (with_reducible rfl)
      try simp only [Act.put, List.getElem_toArray, List.getElem_cons_succ, List.getElem_cons_zero, List.setIfInBounds_toArray, List.set_cons_zero, List.set_cons_succ]
      refine wpAnyH_take (i := 12) (oi := _) (v := ?_) rfl (by kernel_rfl) (by kernel_rfl) (by kernel_rfl) (fun _ _ _ h => h) (Or.inl ⟨by rfl, ?_⟩) (by assumption) ?_
      rotate_left
      · intro w hSw
        (try dsimp only at hSw)
        go_simp
        try (with_reducible rfl)
      try simp only [Act.put, List.getElem_toArray, List.getElem_cons_succ, List.getElem_cons_zero, List.setIfInBounds_toArray, List.set_cons_zero, List.set_cons_succ]
      refine wpAnyH_take (i := 13) (oi := _) (v := ?_) rfl (by kernel_rfl) (by kernel_rfl) (by kernel_rfl) (fun _ _ _ h => h) (Or.inl ⟨by rfl, ?_⟩) (by assumption) ?_
      rotate_left
      · intro w hSw
        (try dsimp only at hSw)
        go_simp
        try (with_reducible rfl)
      try simp only [Act.put, List.getElem_toArray, List.getElem_cons_succ, List.getElem_cons_zero, List.setIfInBounds_toArray, List.set_cons_zero, List.set_cons_succ]
      refine wpAnyH_done (by kernel_rfl) ?_ _
      go_wp2_with fail
      go_ret
      exact ⟨rfl, E7.go d9'⟩
    · unfold Rq.none at he
      injection he with i1 i2 i3 i4 i5
      subst i1 i2 i3 i4 i5
      have x1 : (code != 0) = true := by simp; omega
      have x2 : decide (1 ≤ code) = true := by simp; omega
      have x3 : decide (code ≤ 3) = true := by simp; omega
      clear k1 k2 hgr'
      go_wp2_with fail
      refine (same_any _ _ _ _ _ _ _ _ _ _ _ _ _ _ _ _ _ _ r7 (RdI.nil _) (Nat.le_refl _) n7 (by decide)).mono ?_
      rw [same_refl]
      rintro e w8 ⟨rfl, D8⟩
      go_wp2_with fail
      go_ret
      exact ⟨rfl, (E6.go G7).go D8⟩
  · have n0 : 0 < n2 := by rw [hq] at hl2; exact hl2.1.1 rfl
    have p1 : decide (0 < n2) = true := by simp; exact n0
    have p2 : decide (253 < (n2 : Int)) = false := by simp; omega
    clear n0 hl2
    go_wp2_with fail
    refine (pduGet_any A2 n2 c2 _ w3 (r2'.out.ext D3) hpb.out g2 g2').mono ?_
    rw [(hpg.out hq).1]
    rintro e w4 ⟨A4, n4, c4, rfl, g4, g4', r4, D4⟩
    dsimp only at r4 ⊢
    have G4 := (Ext.refl w4).goA (.cells #[.int .i64 fc, .int .i64 ad, .int .i64 qt, .slice A4 n4 c4, .int .i64 to] 34)
    have b4 := bx'.out _ (((((D1.go D2).go D3).go D4).go G4))
    have E4 := (E3.go D4).go G4
    go_wp2_with fail
    refine (same_any _ _ _ _ _ _ _ _ _ _ _ _ _ _ _ _ _ _ (r4.ext G4) (hx'.out.ext E4) (Nat.le_refl _) (Nat.le_trans g4 g4') nm).mono ?_
    rw [same_refl]
    rintro e w5 ⟨rfl, D5⟩
    have E5 := E4.go D5
    clear b3 b4
    go_wp2_with fail
    have hga' := hga.out
    have hgr' := hgr.out
    refine (pduGet_any A' m c' bs w5 (hy'.out.ext E5) hb'.out hmc hcm).mono ?_
    generalize getR bs = R at hga' hgr' ⊢
    obtain ⟨⟨f', a', q', u', l'⟩, code⟩ := R
    rintro e w6 ⟨A6, n6, c6, rfl, g6, g6', r6, D6⟩
    dsimp only at r6 hga' hgr' ⊢
    have E6 := E5.go D6
    have G7 := (Ext.refl w6).goA (.cells #[.int .i64 f', .int .i64 a', .int .i64 q', .slice A6 n6 c6, .int .i64 u'] 34)
    have r7 := r6.ext G7
    have n7 : n6 ≤ maxLen := Nat.le_trans g6 g6'
    rcases hga' with ⟨rfl, hq6, hs6⟩ | ⟨⟨k1, k2⟩, he⟩
    · have hyb := fun w' (D : Ext (w6.alloc (.cells #[.int .i64 f', .int .i64 a', .int .i64 q', .slice A6 n6 c6, .int .i64 u'] 34)) w') => cellsAt ((D.block w6.heap.size (by simp)).trans (heap_alloc_new w6 _))
      have E7 := E6.go G7
      have hs7 : strOfNums (putL f' a' q' u' l') = strOfNums bs := str_eq hs6
      have hyb' := Lib.hid hyb
      have hs7' := Lib.hid hs7
      have hq6' := Lib.hid hq6
      have hgr6 := Lib.hid hgr'
      clear hyb hs7 hs6 hgr' hq6
      go_wp2_with fail
      generalize w6.alloc (.cells #[.int .i64 f', .int .i64 a', .int .i64 q', .slice A6 n6 c6, .int .i64 u'] 34) = W at *
      have hyb := hyb'.out
      have hcv : ∀ w', Ext W w' → Sem.run Try.prog (convert 30 9 (.slice A' m c')) w' = .ok (.string (strOfNums bs)) w' := fun w' h => (hy'.out.ext (E7.go h)).convert Try.underlying30 Try.underlying5 Try.underlying9 c'
      have d0 : Ext W W.drew := (Ext.refl _).god
      refine wp_region_held_drew (S := fun w' => Ext W w') (by kernel_rfl) d0 (fun hHeld => ?_)
      refine wpAnyH_take (i := 0) (oi := _) (v := ?_) rfl (by kernel_rfl) (by kernel_rfl) (by kernel_rfl) (fun _ _ _ h => h) (Or.inl ⟨by rfl, ?_⟩) (by assumption) ?_
      rotate_left
      · intro w hSw
        (try dsimp only at hSw)
        go_simp
        try (with_reducible rfl)
      try simp only [Act.put, List.getElem_toArray, List.getElem_cons_zero, List.setIfInBounds_toArray, List.set_cons_zero, List.set_cons_succ]
      refine wpAnyH_take (i := 1) (oi := _) (v := ?_) rfl (by kernel_rfl) (by kernel_rfl) (by kernel_rfl) (fun _ _ _ h => h) (Or.inl ⟨by rfl, ?_⟩) (by assumption) ?_
      rotate_left
      · intro w hSw
        (try dsimp only at hSw)
        go_simp
        try (with_reducible rfl)
      try simp only [Act.put, List.getElem_toArray, List.getElem_cons_succ, List.getElem_cons_zero, List.setIfInBounds_toArray, List.set_cons_zero, List.set_cons_succ]
      refine wpAnyH_take (i := 2) (oi := _) (v := ?_) rfl (by kernel_rfl) (by kernel_rfl) (by kernel_rfl) (fun _ _ _ h => h) (Or.inl ⟨by rfl, ?_⟩) (by assumption) ?_
      rotate_left
      · intro w hSw
        (try dsimp only at hSw)
        go_simp
        try (with_reducible rfl)
      try simp only [Act.put, List.getElem_toArray, List.getElem_cons_succ, List.getElem_cons_zero, List.setIfInBounds_toArray, List.set_cons_zero, List.set_cons_succ]
      refine wpAnyH_ready (rs := [3]) (by kernel_rfl) (by simp) ?_
      refine AllReadyH.cons rfl (fun K hK => ?_) ?_
      rotate_left
      · exact AllReadyH.nil
      go_simp
      go_at_call 22
      refine (pduRight_any f' a' q' u' A6 n6 c6 l' _ (r7.ext d0) n7).mono ?_
      rw [hq6'.out]
      rintro e w8 ⟨rfl, d8⟩
      have d8' := d0.go d8
      try dsimp only
      refine hK.out _ _ ?_ (fun hHeld => ?_)
      · first | assumption | (dsimp only; assumption)
      clear hK K
      try simp only [Act.put, List.getElem_toArray, List.getElem_cons_succ, List.getElem_cons_zero, List.setIfInBounds_toArray, List.set_cons_zero, List.set_cons_succ]
      refine wpAnyH_take (i := 4) (oi := _) (v := ?_) rfl (by kernel_rfl) (by kernel_rfl) (by kernel_rfl) (fun _ _ _ h => h) (Or.inl ⟨by rfl, ?_⟩) (by assumption) ?_
      rotate_left
      · intro w hSw
        (try dsimp only at hSw)
        go_simp
        try (with_reducible rfl)
      try simp only [Act.put, List.getElem_toArray, List.getElem_cons_succ, List.getElem_cons_zero, List.setIfInBounds_toArray, List.set_cons_zero, List.set_cons_succ]
      refine wpAnyH_take (i := 5) (oi := _) (v := ?_) rfl (by kernel_rfl) (by kernel_rfl) (by kernel_rfl) (fun _ _ _ h => h) (Or.inl ⟨by rfl, ?_⟩) (by assumption) ?_
      rotate_left
      · intro w hSw
        (try dsimp only at hSw)
        go_simp
        try (with_reducible rfl)
      try simp only [Act.put, List.getElem_toArray, List.getElem_cons_succ, List.getElem_cons_zero, List.setIfInBounds_toArray, List.set_cons_zero, List.set_cons_succ]
      refine wpAnyH_take (i := 6) (oi := _) (v := ?_) rfl (by kernel_rfl) (by kernel_rfl) (by kernel_rfl) (fun _ _ _ h => h) (Or.inl ⟨by rfl, ?_⟩) (by assumption) ?_
      rotate_left
      · intro w hSw
        (try dsimp only at hSw)
        go_simp
        try (with_reducible rfl)
      try simp only [Act.put, List.getElem_toArray, List.getElem_cons_succ, List.getElem_cons_zero, List.setIfInBounds_toArray, List.set_cons_zero, List.set_cons_succ]
      refine wpAnyH_take (i := 9) (oi := _) (v := ?_) rfl (by kernel_rfl) (by kernel_rfl) (by kernel_rfl) (fun _ _ _ h => h) (Or.inl ⟨by rfl, ?_⟩) (by assumption) ?_
      rotate_left
      · intro w hSw
        (try dsimp only at hSw)
        go_simp
        try (with_reducible rfl)
      try simp only [Act.put, List.getElem_toArray, List.getElem_cons_succ, List.getElem_cons_zero, List.setIfInBounds_toArray, List.set_cons_zero, List.set_cons_succ]
      refine wpAnyH_take (i := 10) (oi := _) (v := ?_) rfl (by kernel_rfl) (by kernel_rfl) (by kernel_rfl) (fun _ _ _ h => h) (Or.inl ⟨by rfl, ?_⟩) (by assumption) ?_
      rotate_left
      · intro w hSw
        (try dsimp only at hSw)
        go_simp
        try (with_reducible rfl)
      try simp only [Act.put, List.getElem_toArray, List.getElem_cons_succ, List.getElem_cons_zero, List.setIfInBounds_toArray, List.set_cons_zero, List.set_cons_succ]
      refine wpAnyH_ready (rs := [7]) (by kernel_rfl) (by simp) ?_
      refine AllReadyH.cons rfl (fun K hK => ?_) ?_
      rotate_left
      · exact AllReadyH.nil
      go_simp
      go_at_call 21
      refine (pduPut_any f' a' q' u' A6 n6 c6 l' _ (r7.ext d8') hgr6.out n7).mono ?_
      rintro e w9 ⟨A9, n9, c9, rfl, _, _, r9, d9⟩
      have d9' := d8'.go d9
      have cs9 := r9.convert Try.underlying30 Try.underlying5 Try.underlying9 c9
      rw [hs7'.out] at cs9
      clear r9
      try dsimp only
      refine hK.out _ _ ?_ (fun hHeld => ?_)
      · first | assumption | (dsimp only; assumption)
      clear hK K
      try simp only [Act.put, List.getElem_toArray, List.getElem_cons_succ, List.getElem_cons_zero, List.setIfInBounds_toArray, List.set_cons_zero, List.set_cons_succ]
      refine wpAnyH_ready (rs := [8]) (by kernel_rfl) (by simp) ?_
      refine AllReadyH.cons rfl (fun K hK => ?_) ?_
      rotate_left
      · exact AllReadyH.nil
      go_simp
      refine hK.out _ _ ?_ (fun hHeld => ?_)
      · first | assumption | (dsimp only; assumption)
      clear hK K
      try simp only [Act.put, List.getElem_toArray, List.getElem_cons_succ, List.getElem_cons_zero, List.setIfInBounds_toArray, List.set_cons_zero, List.set_cons_succ]
      refine wpAnyH_take (i := 11) (oi := _) (v := ?_) rfl (by kernel_rfl) (by kernel_rfl) (by kernel_rfl) (fun _ _ _ h => h) (Or.inl ⟨by rfl, ?_⟩) (by assumption) ?_
      rotate_left
      · intro w hSw
        (try dsimp only at hSw)
        go_simp
        try (with_reducible rfl)
      try simp only [Act.put, List.getElem_toArray, List.getElem_cons_succ, List.getElem_cons_zero, List.setIfInBounds_toArray, List.set_cons_zero, List.set_cons_succ]
      refine wpAnyH_take (i := 12) (oi := _) (v := ?_) rfl (by kernel_rfl) (by kernel_rfl) (by kernel_rfl) (fun _ _ _ h => h) (Or.inl ⟨by rfl, ?_⟩) (by assumption) ?_
      rotate_left
      · intro w hSw
        (try dsimp only at hSw)
        go_simp
        try (with_reducible rfl)
      try simp only [Act.put, List.getElem_toArray, List.getElem_cons_succ, List.getElem_cons_zero, List.setIfInBounds_toArray, List.set_cons_zero, List.set_cons_succ]
      refine wpAnyH_take (i := 13) (oi := _) (v := ?_) rfl (by kernel_rfl) (by kernel_rfl) (by kernel_rfl) (fun _ _ _ h => h) (Or.inl ⟨by rfl, ?_⟩) (by assumption) ?_
      rotate_left
      · intro w hSw
        (try dsimp only at hSw)
        go_simp
        try (with_reducible rfl)
      try simp only [Act.put, List.getElem_toArray, List.getElem_cons_succ, List.getElem_cons_zero, List.setIfInBounds_toArray, List.set_cons_zero, List.set_cons_succ]
      refine wpAnyH_done (by kernel_rfl) ?_ _
      go_wp2_with fail
      go_ret
      exact ⟨rfl, E7.go d9'⟩
    · unfold Rq.none at he
      injection he with i1 i2 i3 i4 i5
      subst i1 i2 i3 i4 i5
      have x1 : (code != 0) = true := by simp; omega
      have x2 : decide (1 ≤ code) = true := by simp; omega
      have x3 : decide (code ≤ 3) = true := by simp; omega
      clear k1 k2 hgr'
      go_wp2_with fail
      refine (same_any _ _ _ _ _ _ _ _ _ _ _ _ _ _ _ _ _ _ r7 (RdI.nil _) (Nat.le_refl _) n7 (by decide)).mono ?_
      rw [same_refl]
      rintro e w8 ⟨rfl, D8⟩
      go_wp2_with fail
      go_ret
      exact ⟨rfl, (E6.go G7).go D8⟩
theorem pduBack_any (fc ad qt to : Int) (A A' : Option Addr) (n c m c' : Nat) (xs bs : List Int) (w : World) (hx : RdI w w.heap.size .u16 A n xs) (hr : ∀ j : Nat, 0 ≤ xs[j]?.getD 0 ∧ xs[j]?.getD 0 ≤ 65535)
    (hy : RdI w w.heap.size .u8 A' m bs) (hb : ByteL bs) (hmc : m ≤ c') (hcm : c' ≤ maxLen) :
    Calls Try.prog 6 #[.agg #[.int .i64 fc, .int .i64 ad, .int .i64 qt, .slice A n c, .int .i64 to], .slice A' m c'] w fun e w' => e = .returned (.bool true) ∧ Ext w w' := by
  by_cases h : 3000 < n ∨ 3000 < m
  · exact pduBack_big fc ad qt to A A' n c m c' w h
  · exact pduBack_small fc ad qt to A A' n c m c' xs bs w hx hr hy hb (by omega) (by omega) hmc hcm
end Go.Proofs.Ytkkbjchoilcjlaa
