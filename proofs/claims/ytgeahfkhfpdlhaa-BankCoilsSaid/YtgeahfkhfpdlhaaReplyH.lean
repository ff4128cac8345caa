
/- Layer 5, the walks: may that be answered, and its bytes. -/
import Derived.Test.YtgeahfkhfpdlhaaReplyE
namespace Go.Proofs.Ytgeahfkhfpdlhaa
open Go.RowKit

theorem nine_block {w : World} {i : Nat} {t : TypeId} {a0 a1 a2 a3 a4 a5 a6 a7 a8 : Value} (h : w.heap[i]? = some (.cells #[a0, a1, a2, a3, a4, a5, a6, a7, a8] t (0, 0))) (b0 b1 b2 b3 b4 b5 b6 b7 b8 : Value) :
    (((((((((w.setCell ⟨i, 0, none⟩ b0).setCell ⟨i, 1, none⟩ b1).setCell ⟨i, 2, none⟩ b2).setCell ⟨i, 3, none⟩ b3).setCell ⟨i, 4, none⟩ b4).setCell ⟨i, 5, none⟩ b5).setCell ⟨i, 6, none⟩ b6).setCell ⟨i, 7, none⟩ b7).setCell ⟨i, 8, none⟩ b8).heap[i]? = some (.cells #[b0, b1, b2, b3, b4, b5, b6, b7, b8] t (0, 0)) := by
  have h0 : (w.setCell ⟨i, 0, none⟩ b0).heap[i]? = some (.cells #[b0, a1, a2, a3, a4, a5, a6, a7, a8] t (0, 0)) := set_block h 0 b0
  have h1 : ((w.setCell ⟨i, 0, none⟩ b0).setCell ⟨i, 1, none⟩ b1).heap[i]? = some (.cells #[b0, b1, a2, a3, a4, a5, a6, a7, a8] t (0, 0)) := set_block h0 1 b1
  have h2 : (((w.setCell ⟨i, 0, none⟩ b0).setCell ⟨i, 1, none⟩ b1).setCell ⟨i, 2, none⟩ b2).heap[i]? = some (.cells #[b0, b1, b2, a3, a4, a5, a6, a7, a8] t (0, 0)) := set_block h1 2 b2
  have h3 : ((((w.setCell ⟨i, 0, none⟩ b0).setCell ⟨i, 1, none⟩ b1).setCell ⟨i, 2, none⟩ b2).setCell ⟨i, 3, none⟩ b3).heap[i]? = some (.cells #[b0, b1, b2, b3, a4, a5, a6, a7, a8] t (0, 0)) := set_block h2 3 b3
  have h4 : (((((w.setCell ⟨i, 0, none⟩ b0).setCell ⟨i, 1, none⟩ b1).setCell ⟨i, 2, none⟩ b2).setCell ⟨i, 3, none⟩ b3).setCell ⟨i, 4, none⟩ b4).heap[i]? = some (.cells #[b0, b1, b2, b3, b4, a5, a6, a7, a8] t (0, 0)) := set_block h3 4 b4
  have h5 : ((((((w.setCell ⟨i, 0, none⟩ b0).setCell ⟨i, 1, none⟩ b1).setCell ⟨i, 2, none⟩ b2).setCell ⟨i, 3, none⟩ b3).setCell ⟨i, 4, none⟩ b4).setCell ⟨i, 5, none⟩ b5).heap[i]? = some (.cells #[b0, b1, b2, b3, b4, b5, a6, a7, a8] t (0, 0)) := set_block h4 5 b5
  have h6 : (((((((w.setCell ⟨i, 0, none⟩ b0).setCell ⟨i, 1, none⟩ b1).setCell ⟨i, 2, none⟩ b2).setCell ⟨i, 3, none⟩ b3).setCell ⟨i, 4, none⟩ b4).setCell ⟨i, 5, none⟩ b5).setCell ⟨i, 6, none⟩ b6).heap[i]? = some (.cells #[b0, b1, b2, b3, b4, b5, b6, a7, a8] t (0, 0)) := set_block h5 6 b6
  have h7 : ((((((((w.setCell ⟨i, 0, none⟩ b0).setCell ⟨i, 1, none⟩ b1).setCell ⟨i, 2, none⟩ b2).setCell ⟨i, 3, none⟩ b3).setCell ⟨i, 4, none⟩ b4).setCell ⟨i, 5, none⟩ b5).setCell ⟨i, 6, none⟩ b6).setCell ⟨i, 7, none⟩ b7).heap[i]? = some (.cells #[b0, b1, b2, b3, b4, b5, b6, b7, a8] t (0, 0)) := set_block h6 7 b7
  have h8 : (((((((((w.setCell ⟨i, 0, none⟩ b0).setCell ⟨i, 1, none⟩ b1).setCell ⟨i, 2, none⟩ b2).setCell ⟨i, 3, none⟩ b3).setCell ⟨i, 4, none⟩ b4).setCell ⟨i, 5, none⟩ b5).setCell ⟨i, 6, none⟩ b6).setCell ⟨i, 7, none⟩ b7).setCell ⟨i, 8, none⟩ b8).heap[i]? = some (.cells #[b0, b1, b2, b3, b4, b5, b6, b7, b8] t (0, 0)) := set_block h7 8 b8
  exact h8
theorem Ext.nine {v w : World} {i : Nat} (E : Ext v w) (hi : v.heap.size ≤ i) (b0 b1 b2 b3 b4 b5 b6 b7 b8 : Value) : Ext v (((((((((w.setCell ⟨i, 0, none⟩ b0).setCell ⟨i, 1, none⟩ b1).setCell ⟨i, 2, none⟩ b2).setCell ⟨i, 3, none⟩ b3).setCell ⟨i, 4, none⟩ b4).setCell ⟨i, 5, none⟩ b5).setCell ⟨i, 6, none⟩ b6).setCell ⟨i, 7, none⟩ b7).setCell ⟨i, 8, none⟩ b8) := by
  have e : ∀ {u : World} (o : Nat) (x : Value), Ext v u → Ext v (u.setCell ⟨i, o, none⟩ x) := fun o x E => E.goS (p := ⟨i, o, none⟩) hi x
  exact e 8 _ (e 7 _ (e 6 _ (e 5 _ (e 4 _ (e 3 _ (e 2 _ (e 1 _ (e 0 _ (E)))))))))

/-- The bytes of an answer, or none. -/
def rputL (fc ad qt to : Int) (xs : List Int) (code : Int) (ys : List Int) : List Int := if ansR fc ad qt to xs code ys then repR fc ad qt to xs code ys else []
set_option maxRecDepth 100000 in
set_option maxHeartbeats 3200000 in
theorem rPut_any (fc ad qt to code : Int) (A A2 : Option Addr) (n c n2 c2 : Nat) (xs ys : List Int) (w : World) (hx : RdI w w.heap.size .u16 A n xs) (hr : ∀ j : Nat, 0 ≤ xs[j]?.getD 0 ∧ xs[j]?.getD 0 ≤ 65535) (hn : n ≤ maxLen)
    (hy : RdI w w.heap.size .u16 A2 n2 ys) (hyr : ∀ j : Nat, 0 ≤ ys[j]?.getD 0 ∧ ys[j]?.getD 0 ≤ 65535) (hn2 : n2 ≤ maxLen) :
    Calls Try.prog 68 #[.agg #[.int .i64 fc, .int .i64 ad, .int .i64 qt, .slice A n c, .int .i64 to], .agg #[.int .i64 code, .slice A2 n2 c2]] w (RetI .u8 (rputL fc ad qt to xs code ys) w) := by
  have E0 := ((Ext.refl w).goA (.cells #[.int .i64 fc, .int .i64 ad, .int .i64 qt, .slice A n c, .int .i64 to] 32)).goA (.cells #[.int .i64 code, .slice A2 n2 c2] 40)
  have bx : ∀ w', Ext ((w.alloc (.cells #[.int .i64 fc, .int .i64 ad, .int .i64 qt, .slice A n c, .int .i64 to] 32)).alloc (.cells #[.int .i64 code, .slice A2 n2 c2] 40)) w' → ∀ o, w'.cell? ⟨w.heap.size, o, none⟩ = _ := fun w' D => cellsAt ((D.block w.heap.size (by simp; omega)).trans (show ((w.alloc (.cells #[.int .i64 fc, .int .i64 ad, .int .i64 qt, .slice A n c, .int .i64 to] 32)).alloc (.cells #[.int .i64 code, .slice A2 n2 c2] 40)).heap[w.heap.size]? = some (.cells #[.int .i64 fc, .int .i64 ad, .int .i64 qt, .slice A n c, .int .i64 to] 32 (0, 0)) by rw [alloc_get, if_neg (by simp), alloc_get, if_pos rfl]))
  have by_ : ∀ w', Ext ((w.alloc (.cells #[.int .i64 fc, .int .i64 ad, .int .i64 qt, .slice A n c, .int .i64 to] 32)).alloc (.cells #[.int .i64 code, .slice A2 n2 c2] 40)) w' → ∀ o, w'.cell? ⟨w.heap.size + 1, o, none⟩ = _ := fun w' D => cellsAt ((D.block (w.heap.size + 1) (by simp)).trans (show ((w.alloc (.cells #[.int .i64 fc, .int .i64 ad, .int .i64 qt, .slice A n c, .int .i64 to] 32)).alloc (.cells #[.int .i64 code, .slice A2 n2 c2] 40)).heap[w.heap.size + 1]? = some (.cells #[.int .i64 code, .slice A2 n2 c2] 40 (0, 0)) by rw [alloc_get, if_pos (by simp)]))
  have s0 : ((w.alloc (.cells #[.int .i64 fc, .int .i64 ad, .int .i64 qt, .slice A n c, .int .i64 to] 32)).alloc (.cells #[.int .i64 code, .slice A2 n2 c2] 40)).heap.size = w.heap.size + 2 := by simp
  have hx' := Lib.hid (hx.ext E0)
  have hy' := Lib.hid (hy.ext E0)
  have hrt := Lib.hid (fun w' (hx : RdI w' w'.heap.size .u16 A n xs) (hy : RdI w' w'.heap.size .u16 A2 n2 ys) => right05_any fc ad qt to code A A2 n c n2 c2 (readsB fc) (readsBits fc) xs ys w' hx hy hn hn2)
  have hcd := Lib.hid (fun w' hx hy h => coded05_any fc ad qt to code A A2 n c n2 c2 xs ys w' hx hr hn hy hyr h)
  have hL : (ansR fc ad qt to xs code ys = true → rputL fc ad qt to xs code ys = repR fc ad qt to xs code ys) ∧ (ansR fc ad qt to xs code ys = false → rputL fc ad qt to xs code ys = []) := ⟨fun h => if_pos h, fun h => if_neg (by rw [h]; decide)⟩
  have hL' := Lib.hid hL
  clear hx hy hr hyr hL
  go_enter Try.func68, Try.ntmps68
  go_wp2_with fail
  generalize (w.alloc (.cells #[.int .i64 fc, .int .i64 ad, .int .i64 qt, .slice A n c, .int .i64 to] 32)).alloc (.cells #[.int .i64 code, .slice A2 n2 c2] 40) = W at *
  have d0 : Ext W W.drew := (Ext.refl _).god
  refine wp_region_held_drew (S := fun w' => Ext W w') (by kernel_rfl) d0 (fun hHeld => ?_)
  refine wpAnyH_take (i := 0) (oi := _) (v := ?_) rfl (by kernel_rfl) (by kernel_rfl) (by kernel_rfl) (fun _ _ _ h => h) (Or.inl ⟨by rfl, ?_⟩) (by assumption) ?_
  rotate_left
  · intro w hSw
    (try dsimp only at hSw)
    go_simp
    try (with_reducible rfl)
  try simp only [Act.put, List.getElem_toArray, List.getElem_cons_zero, List.setIfInBounds_toArray, List.set_cons_zero, List.set_cons_succ]
  refine wpAnyH_take (i := 2) (oi := _) (v := ?_) rfl (by kernel_rfl) (by kernel_rfl) (by kernel_rfl) (fun _ _ _ h => h) (Or.inl ⟨by rfl, ?_⟩) (by assumption) ?_
  rotate_left
  · intro w hSw
    (try dsimp only at hSw)
    go_simp
    try (with_reducible rfl)
  try simp only [Act.put, List.getElem_toArray, List.getElem_cons_succ, List.getElem_cons_zero, List.setIfInBounds_toArray, List.set_cons_zero, List.set_cons_succ]
  refine wpAnyH_ready (rs := [1, 4]) (by kernel_rfl) (by simp) ?_
  refine AllReadyH.cons rfl (fun K hK => ?_) (AllReadyH.cons rfl (fun K hK => ?_) (AllReadyH.nil))
  · go_simp
    go_at_call 95
    refine (of_any fc ad qt to A n c _).mono ?_
    rintro e w1 ⟨rfl, d1⟩
    have d1' := d0.go d1
    try dsimp only
    refine hK.out _ _ ?_ (fun hHeld => ?_)
    · first | assumption | (dsimp only; assumption)
    clear hK K
    try simp only [Act.put, List.getElem_toArray, List.getElem_cons_succ, List.getElem_cons_zero, List.setIfInBounds_toArray, List.set_cons_zero, List.set_cons_succ]
    refine wpAnyH_take (i := 3) (oi := _) (v := ?_) rfl (by kernel_rfl) (by kernel_rfl) (by kernel_rfl) (fun _ _ _ h => h) (Or.inl ⟨by rfl, ?_⟩) (by assumption) ?_
    rotate_left
    · intro w hSw
      (try dsimp only at hSw)
      go_simp
      try (with_reducible rfl)
    try simp only [Act.put, List.getElem_toArray, List.getElem_cons_succ, List.getElem_cons_zero, List.setIfInBounds_toArray, List.set_cons_zero, List.set_cons_succ]
    have d2 := d1'.goA (.cells #[.int .i64 fc, .int .i64 ad, .int .i64 qt, .slice A n c, .int .i64 to, .bool (readsB fc), .bool (readsBits fc), .int .i64 code, .slice A2 n2 c2] 140)
    have hB := heap_alloc_new w1 (.cells #[.int .i64 fc, .int .i64 ad, .int .i64 qt, .slice A n c, .int .i64 to, .bool (readsB fc), .bool (readsBits fc), .int .i64 code, .slice A2 n2 c2] 140)
    refine wpAnyH_ready (rs := [4]) (by kernel_rfl) (by simp) ?_
    refine AllReadyH.cons rfl (fun K hK => ?_) ?_
    rotate_left
    · exact AllReadyH.nil
    go_simp
    refine hK.out _ _ ?_ (fun hHeld => ?_)
    · exact d1'.goA _
    clear hK K
    try simp only [Act.put, List.getElem_toArray, List.getElem_cons_succ, List.getElem_cons_zero, List.setIfInBounds_toArray, List.set_cons_zero, List.set_cons_succ]
    refine wpAnyH_ready (rs := [5]) (by kernel_rfl) (by simp) ?_
    refine AllReadyH.cons rfl (fun K hK => ?_) ?_
    rotate_left
    · exact AllReadyH.nil
    go_simp
    refine hK.out _ _ ?_ (fun hHeld => ?_)
    · exact d2
    clear hK K
    try simp only [Act.put, List.getElem_toArray, List.getElem_cons_succ, List.getElem_cons_zero, List.setIfInBounds_toArray, List.set_cons_zero, List.set_cons_succ]
    refine wpAnyH_done (by kernel_rfl) ?_ _
    have d5 := d2
    generalize w1.alloc (.cells #[.int .i64 fc, .int .i64 ad, .int .i64 qt, .slice A n c, .int .i64 to, .bool (readsB fc), .bool (readsBits fc), .int .i64 code, .slice A2 n2 c2] 140) = V at *
    have c5 := cellsAt hB
    have hB' := Lib.hid hB
    have x5 := Lib.hid (hx'.out.ext d5)
    have y5 := Lib.hid (hy'.out.ext d5)
    have E5 := E0.go d5
    clear hB
    cases h : ansR fc ad qt to xs code ys
    · have h' := Lib.hid h
      have hl := (hL'.out).2 h
      clear h
      go_wp2_with fail
      refine (hrt.out V x5.out y5.out).mono ?_
      rw [show ansB (rightB' fc ad qt to xs) (readsB fc) (readsBits fc) qt code ys = false from h'.out]
      rintro e w6 ⟨rfl, D6⟩
      go_wp2_with fail
      go_ret
      rw [hl]
      exact ⟨_, _, _, rfl, Nat.le_refl _, by decide, RdI.nil _, E5.go D6⟩
    · have h' := Lib.hid h
      have hl := (hL'.out).1 h
      clear h
      go_wp2_with fail
      refine (hrt.out V x5.out y5.out).mono ?_
      rw [show ansB (rightB' fc ad qt to xs) (readsB fc) (readsBits fc) qt code ys = true from h'.out]
      rintro e w6 ⟨rfl, D6⟩
      have c6 := cellsAt ((D6.block _ (lt_of_block hB'.out)).trans hB'.out)
      go_wp2_with fail
      refine (hcd.out w6 (x5.out.ext D6) (y5.out.ext D6) h'.out).mono ?_
      rintro e w7 ⟨A7, n7, c7, rfl, g7, g7', r7, D7⟩
      go_wp2_with fail
      go_ret
      rw [hl]
      exact ⟨_, _, _, rfl, g7, g7', r7, (E5.go D6).go D7⟩
  · go_simp
    refine hK.out _ _ ?_ (fun hHeld => ?_)
    · exact d0.goA _
    clear hK K
    try simp only [Act.put, List.getElem_toArray, List.getElem_cons_succ, List.getElem_cons_zero, List.setIfInBounds_toArray, List.set_cons_zero, List.set_cons_succ]
    refine wpAnyH_ready (rs := [1]) (by kernel_rfl) (by simp) ?_
    refine AllReadyH.cons rfl (fun K hK => ?_) ?_
    rotate_left
    · exact AllReadyH.nil
    go_simp
    go_at_call 95
    refine (of_any fc ad qt to A n c _).mono ?_
    rintro e w1 ⟨rfl, d1⟩
    have d1' := (d0.goA (.cells #[.int .i64 0, .int .i64 0, .int .i64 0, .slice none 0 0, .int .i64 0, .bool false, .bool false, .int .i64 0, .slice none 0 0] 140)).go d1
    try dsimp only
    refine hK.out _ _ ?_ (fun hHeld => ?_)
    · first | assumption | (dsimp only; assumption)
    clear hK K
    try simp only [Act.put, List.getElem_toArray, List.getElem_cons_succ, List.getElem_cons_zero, List.setIfInBounds_toArray, List.set_cons_zero, List.set_cons_succ]
    refine wpAnyH_take (i := 3) (oi := _) (v := ?_) rfl (by kernel_rfl) (by kernel_rfl) (by kernel_rfl) (fun _ _ _ h => h) (Or.inl ⟨by rfl, ?_⟩) (by assumption) ?_
    rotate_left
    · intro w hSw
      (try dsimp only at hSw)
      go_simp
      try (with_reducible rfl)
    try simp only [Act.put, List.getElem_toArray, List.getElem_cons_succ, List.getElem_cons_zero, List.setIfInBounds_toArray, List.set_cons_zero, List.set_cons_succ]
    have hZ : w1.heap[w.heap.size + 2]? = some (.cells #[.int .i64 0, .int .i64 0, .int .i64 0, .slice none 0 0, .int .i64 0, .bool false, .bool false, .int .i64 0, .slice none 0 0] 140 (0, 0)) := (d1.block (w.heap.size + 2) (by simp [s0])).trans (show (W.alloc (.cells #[.int .i64 0, .int .i64 0, .int .i64 0, .slice none 0 0, .int .i64 0, .bool false, .bool false, .int .i64 0, .slice none 0 0] 140)).heap[w.heap.size + 2]? = _ by rw [alloc_get, if_pos s0.symm])
    have f1 := frozen_block hZ
    have cZ := cellsAt hZ
    have d2 := d1'.nine (i := w.heap.size + 2) (by simp [s0]) (.int .i64 fc) (.int .i64 ad) (.int .i64 qt) (.slice A n c) (.int .i64 to) (.bool (readsB fc)) (.bool (readsBits fc)) (.int .i64 code) (.slice A2 n2 c2)
    have hB := nine_block hZ (.int .i64 fc) (.int .i64 ad) (.int .i64 qt) (.slice A n c) (.int .i64 to) (.bool (readsB fc)) (.bool (readsBits fc)) (.int .i64 code) (.slice A2 n2 c2)
    clear hZ
    refine wpAnyH_ready (rs := [5]) (by kernel_rfl) (by simp) ?_
    refine AllReadyH.cons rfl (fun K hK => ?_) ?_
    rotate_left
    · exact AllReadyH.nil
    go_simp
    refine hK.out _ _ ?_ (fun hHeld => ?_)
    · exact d2
    clear hK K
    try simp only [Act.put, List.getElem_toArray, List.getElem_cons_succ, List.getElem_cons_zero, List.setIfInBounds_toArray, List.set_cons_zero, List.set_cons_succ]
    refine wpAnyH_done (by kernel_rfl) ?_ _
    have d5 := d2
    clear f1 cZ
    generalize (((((((((w1.setCell ⟨w.heap.size + 2, 0, none⟩ (.int .i64 fc)).setCell ⟨w.heap.size + 2, 1, none⟩ (.int .i64 ad)).setCell ⟨w.heap.size + 2, 2, none⟩ (.int .i64 qt)).setCell ⟨w.heap.size + 2, 3, none⟩ (.slice A n c)).setCell ⟨w.heap.size + 2, 4, none⟩ (.int .i64 to)).setCell ⟨w.heap.size + 2, 5, none⟩ (.bool (readsB fc))).setCell ⟨w.heap.size + 2, 6, none⟩ (.bool (readsBits fc))).setCell ⟨w.heap.size + 2, 7, none⟩ (.int .i64 code)).setCell ⟨w.heap.size + 2, 8, none⟩ (.slice A2 n2 c2)) = V at *
    have c5 := cellsAt hB
    have hB' := Lib.hid hB
    have x5 := Lib.hid (hx'.out.ext d5)
    have y5 := Lib.hid (hy'.out.ext d5)
    have E5 := E0.go d5
    clear hB
    cases h : ansR fc ad qt to xs code ys
    · have h' := Lib.hid h
      have hl := (hL'.out).2 h
      clear h
      go_wp2_with fail
      refine (hrt.out V x5.out y5.out).mono ?_
      rw [show ansB (rightB' fc ad qt to xs) (readsB fc) (readsBits fc) qt code ys = false from h'.out]
      rintro e w6 ⟨rfl, D6⟩
      go_wp2_with fail
      go_ret
      rw [hl]
      exact ⟨_, _, _, rfl, Nat.le_refl _, by decide, RdI.nil _, E5.go D6⟩
    · have h' := Lib.hid h
      have hl := (hL'.out).1 h
      clear h
      go_wp2_with fail
      refine (hrt.out V x5.out y5.out).mono ?_
      rw [show ansB (rightB' fc ad qt to xs) (readsB fc) (readsBits fc) qt code ys = true from h'.out]
      rintro e w6 ⟨rfl, D6⟩
      have c6 := cellsAt ((D6.block _ (lt_of_block hB'.out)).trans hB'.out)
      go_wp2_with fail
      refine (hcd.out w6 (x5.out.ext D6) (y5.out.ext D6) h'.out).mono ?_
      rintro e w7 ⟨A7, n7, c7, rfl, g7, g7', r7, D7⟩
      go_wp2_with fail
      go_ret
      rw [hl]
      exact ⟨_, _, _, rfl, g7, g7', r7, (E5.go D6).go D7⟩
end Go.Proofs.Ytgeahfkhfpdlhaa
