/- Layer 5, the walks: may that be answered, and its bytes. · Layer 5, the walks: the answer of any bytes, an exception's bytes, are answers alike, are they too much? · Layer 6, the walks: request, Serve. -/
import Derived.Test.YtgagpalffdgjnaaG10
import Derived.Test.YtgagpalffdgjnaaReplyG
import Derived.Test.YtgagpalffdgjnaaG06
import Derived.Test.YtgagpalffdgjnaaBankDo
import Derived.Test.YtgagpalffdgjnaaG09
namespace Go.Proofs.Ytgagpalffdgjnaa
open Go.RowKit

theorem nine_block {w : World} {i : Nat} {t : TypeId} {a0 a1 a2 a3 a4 a5 a6 a7 a8 : Value} (h : w.heap[i]? = some (.cells #[a0, a1, a2, a3, a4, a5, a6, a7, a8] t (0, 0))) (b0 b1 b2 b3 b4 b5 b6 b7 b8 : Value) :
    (((((((((w.setCell ⟨i, 0, none⟩ b0).setCell ⟨i, 1, none⟩ b1).setCell ⟨i, 2, none⟩ b2).setCell ⟨i, 3, none⟩ b3).setCell ⟨i, 4, none⟩ b4).setCell ⟨i, 5, none⟩ b5).setCell ⟨i, 6, none⟩ b6).setCell ⟨i, 7, none⟩ b7).setCell ⟨i, 8, none⟩ b8).heap[i]? = some (.cells #[b0, b1, b2, b3, b4, b5, b6, b7, b8] t (0, 0)) := by
  have h0 : (w.setCell ⟨i, 0, none⟩ b0).heap[i]? = some (.cells #[b0, a1, a2, a3, a4, a5, a6, a7, a8] t (0, 0)) := set_block h 0 b0
  have h1 : ((w.setCell ⟨i, 0, none⟩ b0).setCell ⟨i, 1, none⟩ b1).heap[i]? = some (.cells #[b0, b1, a2, a3, a4, a5, a6, a7, a8] t (0, 0)) := set_block h0 1 b1
  have h2 : (((w.setCell ⟨i, 0, none⟩ b0).setCell ⟨i, 1, none⟩ b1).setCell ⟨i, 2, none⟩ b2).heap[i]? = some (.cells #[b0, b1, b2, a3, a4, a5, a6, a7, a8] t (0, 0)) := set_block h1 2 b2
  have h3 : ((((w.setCell ⟨i, 0, none⟩ b0).setCell ⟨i, 1, none⟩ b1).setCell ⟨i, 2, none⟩ b2).setCell ⟨i, 3, none⟩ b3).heap[i]? = some (.cells #[b0, b1, b2, b3, a4, a5, a6, a7, a8] t (0, 0)) := set_block h2 3 b3
  have h4 : (((((w.setCell ⟨i, 0, none⟩ b0).setCell ⟨i, 1, none⟩ b1).setCell ⟨i, 2, none⟩ b2).setCell ⟨i, 3, none⟩ b3).setCell ⟨i, 4, none⟩ b4).heap[i]? = some (.cells #[b0, b1, b2, b3, b4, a5, a6, a7, a8] t (0, 0)) := set_block h3 4 b4
  have h5 : ((((((w.setCell ⟨i, 0, none⟩ b0).setCell ⟨i, 1, none⟩ b1).setCell ⟨i, 2, none⟩ b2).setCell ⟨i, 3, none⟩ b3).setCell ⟨i, 4, none⟩ b4).setCell ⟨i, 5, none⟩ b5).heap[i]? = some (.cells #[b0, b1, b2, b3, b4, b5, a6, a7, a8] t (0, 0)) := set_block h4 5 b5
  have h6 : (((((((w.setCell ⟨i, 0, none⟩ b0).setCell ⟨i, 1, none⟩ b1).setCell ⟨i, 2, none⟩ b2).setCell ⟨i, 3, none⟩ b3).setCell ⟨i, 4, none⟩ b4).setCell ⟨i, 5, none⟩ b5).setCell ⟨i, 6, none⟩ b6).heap[i]? = some (.cells #[b0, b1, b2, b3, b4, b5, b6, a7, a8] t (0, 0)) := set_block h5 6 b6
  have h7 : ((((((((w.setCell ⟨i, 0, none⟩ b0).setCell ⟨i, 1, none⟩ b1).setCell ⟨i, 2, none⟩ b2).setCell ⟨i, 3, none⟩ b3).setCell ⟨i, 4, none⟩ b4).setCell ⟨i, 5, none⟩ b5).setCell ⟨i, 6, none⟩ b6).setCell ⟨i, 7, none⟩ b7).heap[i]? = some (.cells #[b0, b1, b2, b3, b4, b5, b6, b7, a8] t (0, 0)) := set_block h6 7 b7
  have h8 : (((((((((w.setCell ⟨i, 0, none⟩ b0).setCell ⟨i, 1, none⟩ b1).setCell ⟨i, 2, none⟩ b2).setCell ⟨i, 3, none⟩ b3).setCell ⟨i, 4, none⟩ b4).setCell ⟨i, 5, none⟩ b5).setCell ⟨i, 6, none⟩ b6).setCell ⟨i, 7, none⟩ b7).setCell ⟨i, 8, none⟩ b8).heap[i]? = some (.cells #[b0, b1, b2, b3, b4, b5, b6, b7, b8] t (0, 0)) := set_block h7 8 b8
  exact h8
theorem Ext.nine {v w : World} {i : Nat} (E : Ext v w) (hi : v.heap.size ≤ i) (b0 b1 b2 b3 b4 b5 b6 b7 b8 : Value) : Ext v (((((((((w.setCell ⟨i, 0, none⟩ b0).setCell ⟨i, 1, none⟩ b1).setCell ⟨i, 2, none⟩ b2).setCell ⟨i, 3, none⟩ b3).setCell ⟨i, 4, none⟩ b4).setCell ⟨i, 5, none⟩ b5).setCell ⟨i, 6, none⟩ b6).setCell ⟨i, 7, none⟩ b7).setCell ⟨i, 8, none⟩ b8) := by
  have e : ∀ {u : World} (o : Nat) (x : Value), Ext v u → Ext v (u.setCell ⟨i, o, none⟩ x) := fun o x E => E.goS (p := ⟨i, o, none⟩) hi x
  exact e 8 _ (e 7 _ (e 6 _ (e 5 _ (e 4 _ (e 3 _ (e 2 _ (e 1 _ (e 0 _ (E)))))))))

/-- The bytes of an answer, or none. -/
def rputL (fc ad qt to : Int) (xs : List Int) (code : Int) (ys : List Int) : List Int := if ansR fc ad qt to xs code ys then repR fc ad qt to xs code ys else []
set_option maxRecDepth 100000 in
set_option maxHeartbeats 3200000 in
theorem rPut_any (fc ad qt to code : Int) (A A2 : Option Addr) (n c n2 c2 : Nat) (xs ys : List Int) (w : World) (hx : RdI w w.heap.size .u16 A n xs) (hr : ∀ j : Nat, 0 ≤ xs[j]?.getD 0 ∧ xs[j]?.getD 0 ≤ 65535) (hn : n ≤ maxLen)
    (hy : RdI w w.heap.size .u16 A2 n2 ys) (hyr : ∀ j : Nat, 0 ≤ ys[j]?.getD 0 ∧ ys[j]?.getD 0 ≤ 65535) (hn2 : n2 ≤ maxLen) :
    Calls Try.prog 101 #[.agg #[.int .i64 fc, .int .i64 ad, .int .i64 qt, .slice A n c, .int .i64 to], .agg #[.int .i64 code, .slice A2 n2 c2]] w (RetI .u8 (rputL fc ad qt to xs code ys) w) := by
  have E0 := ((Ext.refl w).goA (.cells #[.int .i64 fc, .int .i64 ad, .int .i64 qt, .slice A n c, .int .i64 to] 30)).goA (.cells #[.int .i64 code, .slice A2 n2 c2] 54)
  have bx : ∀ w', Ext ((w.alloc (.cells #[.int .i64 fc, .int .i64 ad, .int .i64 qt, .slice A n c, .int .i64 to] 30)).alloc (.cells #[.int .i64 code, .slice A2 n2 c2] 54)) w' → ∀ o, w'.cell? ⟨w.heap.size, o, none⟩ = _ := fun w' D => cellsAt ((D.block w.heap.size (by simp; omega)).trans (show ((w.alloc (.cells #[.int .i64 fc, .int .i64 ad, .int .i64 qt, .slice A n c, .int .i64 to] 30)).alloc (.cells #[.int .i64 code, .slice A2 n2 c2] 54)).heap[w.heap.size]? = some (.cells #[.int .i64 fc, .int .i64 ad, .int .i64 qt, .slice A n c, .int .i64 to] 30 (0, 0)) by rw [alloc_get, if_neg (by simp), alloc_get, if_pos rfl]))
  have by_ : ∀ w', Ext ((w.alloc (.cells #[.int .i64 fc, .int .i64 ad, .int .i64 qt, .slice A n c, .int .i64 to] 30)).alloc (.cells #[.int .i64 code, .slice A2 n2 c2] 54)) w' → ∀ o, w'.cell? ⟨w.heap.size + 1, o, none⟩ = _ := fun w' D => cellsAt ((D.block (w.heap.size + 1) (by simp)).trans (show ((w.alloc (.cells #[.int .i64 fc, .int .i64 ad, .int .i64 qt, .slice A n c, .int .i64 to] 30)).alloc (.cells #[.int .i64 code, .slice A2 n2 c2] 54)).heap[w.heap.size + 1]? = some (.cells #[.int .i64 code, .slice A2 n2 c2] 54 (0, 0)) by rw [alloc_get, if_pos (by simp)]))
  have s0 : ((w.alloc (.cells #[.int .i64 fc, .int .i64 ad, .int .i64 qt, .slice A n c, .int .i64 to] 30)).alloc (.cells #[.int .i64 code, .slice A2 n2 c2] 54)).heap.size = w.heap.size + 2 := by simp
  have hx' := Lib.hid (hx.ext E0)
  have hy' := Lib.hid (hy.ext E0)
  have hrt := Lib.hid (fun w' (hx : RdI w' w'.heap.size .u16 A n xs) (hy : RdI w' w'.heap.size .u16 A2 n2 ys) => right05_any fc ad qt to code A A2 n c n2 c2 (readsB fc) (readsBits fc) xs ys w' hx hy hn hn2)
  have hcd := Lib.hid (fun w' hx hy h => coded05_any fc ad qt to code A A2 n c n2 c2 xs ys w' hx hr hn hy hyr h)
  have hL : (ansR fc ad qt to xs code ys = true → rputL fc ad qt to xs code ys = repR fc ad qt to xs code ys) ∧ (ansR fc ad qt to xs code ys = false → rputL fc ad qt to xs code ys = []) := ⟨fun h => if_pos h, fun h => if_neg (by rw [h]; decide)⟩
  have hL' := Lib.hid hL
  clear hx hy hr hyr hL
  go_enter Try.func101, Try.ntmps101
  go_wp2_with fail
  generalize (w.alloc (.cells #[.int .i64 fc, .int .i64 ad, .int .i64 qt, .slice A n c, .int .i64 to] 30)).alloc (.cells #[.int .i64 code, .slice A2 n2 c2] 54) = W at *
  have d0 : Ext W W.drew := (Ext.refl _).god
  refine wp_region_held_drew (S := fun w' => Ext W w') (by kernel_rfl) d0 (fun hHeld => ?_)
  refine wpAnyH_take (i := 0) (oi := _) (v := ?_) rfl (by kernel_rfl) (by kernel_rfl) (by kernel_rfl) (fun _ _ _ h => h) (Or.inl ⟨by rfl, ?_⟩) (by assumption) ?_
  rotate_left
  · intro w hSw
    (try dsimp only at hSw)
    go_simp
    try (with_reducible rfl)
  try simp only [Act.put, List.getElem_toArray, List.getElem_cons_zero, List.setIfInBounds_toArray, List.set_cons_zero, List.set_cons_succ]
  refine wpAnyH_take (i := 2) (oi := _) (v := ?_) rfl (by kernel_rfl) (by kernel_rfl) (by kernel_rfl) (fun _ _ _ h => h) (Or.inl ⟨by rfl, ?_⟩) (by assumption) ?_
  rotate_left
  · intro w hSw
    (try dsimp only at hSw)
    go_simp
    try (with_reducible rfl)
  try simp only [Act.put, List.getElem_toArray, List.getElem_cons_succ, List.getElem_cons_zero, List.setIfInBounds_toArray, List.set_cons_zero, List.set_cons_succ]
  refine wpAnyH_ready (rs := [1, 4]) (by kernel_rfl) (by simp) ?_
  refine AllReadyH.cons rfl (fun K hK => ?_) (AllReadyH.cons rfl (fun K hK => ?_) (AllReadyH.nil))
  · go_simp
    go_at_call 79
    refine (of_any fc ad qt to A n c _).mono ?_
    rintro e w1 ⟨rfl, d1⟩
    have d1' := d0.go d1
    try dsimp only
    refine hK.out _ _ ?_ (fun hHeld => ?_)
    · first | assumption | (dsimp only; assumption)
    clear hK K
    try simp only [Act.put, List.getElem_toArray, List.getElem_cons_succ, List.getElem_cons_zero, List.setIfInBounds_toArray, List.set_cons_zero, List.set_cons_succ]
    refine wpAnyH_take (i := 3) (oi := _) (v := ?_) rfl (by kernel_rfl) (by kernel_rfl) (by kernel_rfl) (fun _ _ _ h => h) (Or.inl ⟨by rfl, ?_⟩) (by assumption) ?_
    rotate_left
    · intro w hSw
      (try dsimp only at hSw)
      go_simp
      try (with_reducible rfl)
    try simp only [Act.put, List.getElem_toArray, List.getElem_cons_succ, List.getElem_cons_zero, List.setIfInBounds_toArray, List.set_cons_zero, List.set_cons_succ]
    have d2 := d1'.goA (.cells #[.int .i64 fc, .int .i64 ad, .int .i64 qt, .slice A n c, .int .i64 to, .bool (readsB fc), .bool (readsBits fc), .int .i64 code, .slice A2 n2 c2] 170)
    have hB := heap_alloc_new w1 (.cells #[.int .i64 fc, .int .i64 ad, .int .i64 qt, .slice A n c, .int .i64 to, .bool (readsB fc), .bool (readsBits fc), .int .i64 code, .slice A2 n2 c2] 170)
    refine wpAnyH_ready (rs := [4]) (by kernel_rfl) (by simp) ?_
    refine AllReadyH.cons rfl (fun K hK => ?_) ?_
    rotate_left
    · exact AllReadyH.nil
    go_simp
    refine hK.out _ _ ?_ (fun hHeld => ?_)
    · exact d1'.goA _
    clear hK K
    try simp only [Act.put, List.getElem_toArray, List.getElem_cons_succ, List.getElem_cons_zero, List.setIfInBounds_toArray, List.set_cons_zero, List.set_cons_succ]
    refine wpAnyH_ready (rs := [5]) (by kernel_rfl) (by simp) ?_
    refine AllReadyH.cons rfl (fun K hK => ?_) ?_
    rotate_left
    · exact AllReadyH.nil
    go_simp
    refine hK.out _ _ ?_ (fun hHeld => ?_)
    · exact d2
    clear hK K
    try simp only [Act.put, List.getElem_toArray, List.getElem_cons_succ, List.getElem_cons_zero, List.setIfInBounds_toArray, List.set_cons_zero, List.set_cons_succ]
    refine wpAnyH_done (by kernel_rfl) ?_ _
    have d5 := d2
    generalize w1.alloc (.cells #[.int .i64 fc, .int .i64 ad, .int .i64 qt, .slice A n c, .int .i64 to, .bool (readsB fc), .bool (readsBits fc), .int .i64 code, .slice A2 n2 c2] 170) = V at *
    have c5 := cellsAt hB
    have hB' := Lib.hid hB
    have x5 := Lib.hid (hx'.out.ext d5)
    have y5 := Lib.hid (hy'.out.ext d5)
    have E5 := E0.go d5
    clear hB
    cases h : ansR fc ad qt to xs code ys
    · have h' := Lib.hid h
      have hl := (hL'.out).2 h
      clear h
      go_wp2_with fail
      refine (hrt.out V x5.out y5.out).mono ?_
      rw [show ansB (rightB' fc ad qt to xs) (readsB fc) (readsBits fc) qt code ys = false from h'.out]
      rintro e w6 ⟨rfl, D6⟩
      go_wp2_with fail
      go_ret
      rw [hl]
      exact ⟨_, _, _, rfl, Nat.le_refl _, by decide, RdI.nil _, E5.go D6⟩
    · have h' := Lib.hid h
      have hl := (hL'.out).1 h
      clear h
      go_wp2_with fail
      refine (hrt.out V x5.out y5.out).mono ?_
      rw [show ansB (rightB' fc ad qt to xs) (readsB fc) (readsBits fc) qt code ys = true from h'.out]
      rintro e w6 ⟨rfl, D6⟩
      have c6 := cellsAt ((D6.block _ (lt_of_block hB'.out)).trans hB'.out)
      go_wp2_with fail
      refine (hcd.out w6 (x5.out.ext D6) (y5.out.ext D6) h'.out).mono ?_
      rintro e w7 ⟨A7, n7, c7, rfl, g7, g7', r7, D7⟩
      go_wp2_with fail
      go_ret
      rw [hl]
      exact ⟨_, _, _, rfl, g7, g7', r7, (E5.go D6).go D7⟩
  · go_simp
    refine hK.out _ _ ?_ (fun hHeld => ?_)
    · exact d0.goA _
    clear hK K
    try simp only [Act.put, List.getElem_toArray, List.getElem_cons_succ, List.getElem_cons_zero, List.setIfInBounds_toArray, List.set_cons_zero, List.set_cons_succ]
    refine wpAnyH_ready (rs := [1]) (by kernel_rfl) (by simp) ?_
    refine AllReadyH.cons rfl (fun K hK => ?_) ?_
    rotate_left
    · exact AllReadyH.nil
    go_simp
    go_at_call 79
    refine (of_any fc ad qt to A n c _).mono ?_
    rintro e w1 ⟨rfl, d1⟩
    have d1' := (d0.goA (.cells #[.int .i64 0, .int .i64 0, .int .i64 0, .slice none 0 0, .int .i64 0, .bool false, .bool false, .int .i64 0, .slice none 0 0] 170)).go d1
    try dsimp only
    refine hK.out _ _ ?_ (fun hHeld => ?_)
    · first | assumption | (dsimp only; assumption)
    clear hK K
    try simp only [Act.put, List.getElem_toArray, List.getElem_cons_succ, List.getElem_cons_zero, List.setIfInBounds_toArray, List.set_cons_zero, List.set_cons_succ]
    refine wpAnyH_take (i := 3) (oi := _) (v := ?_) rfl (by kernel_rfl) (by kernel_rfl) (by kernel_rfl) (fun _ _ _ h => h) (Or.inl ⟨by rfl, ?_⟩) (by assumption) ?_
    rotate_left
    · intro w hSw
      (try dsimp only at hSw)
      go_simp
      try (with_reducible rfl)
    try simp only [Act.put, List.getElem_toArray, List.getElem_cons_succ, List.getElem_cons_zero, List.setIfInBounds_toArray, List.set_cons_zero, List.set_cons_succ]
    have hZ : w1.heap[w.heap.size + 2]? = some (.cells #[.int .i64 0, .int .i64 0, .int .i64 0, .slice none 0 0, .int .i64 0, .bool false, .bool false, .int .i64 0, .slice none 0 0] 170 (0, 0)) := (d1.block (w.heap.size + 2) (by simp [s0])).trans (show (W.alloc (.cells #[.int .i64 0, .int .i64 0, .int .i64 0, .slice none 0 0, .int .i64 0, .bool false, .bool false, .int .i64 0, .slice none 0 0] 170)).heap[w.heap.size + 2]? = _ by rw [alloc_get, if_pos s0.symm])
    have f1 := frozen_block hZ
    have cZ := cellsAt hZ
    have d2 := d1'.nine (i := w.heap.size + 2) (by simp [s0]) (.int .i64 fc) (.int .i64 ad) (.int .i64 qt) (.slice A n c) (.int .i64 to) (.bool (readsB fc)) (.bool (readsBits fc)) (.int .i64 code) (.slice A2 n2 c2)
    have hB := nine_block hZ (.int .i64 fc) (.int .i64 ad) (.int .i64 qt) (.slice A n c) (.int .i64 to) (.bool (readsB fc)) (.bool (readsBits fc)) (.int .i64 code) (.slice A2 n2 c2)
    clear hZ
    refine wpAnyH_ready (rs := [5]) (by kernel_rfl) (by simp) ?_
    refine AllReadyH.cons rfl (fun K hK => ?_) ?_
    rotate_left
    · exact AllReadyH.nil
    go_simp
    refine hK.out _ _ ?_ (fun hHeld => ?_)
    · exact d2
    clear hK K
    try simp only [Act.put, List.getElem_toArray, List.getElem_cons_succ, List.getElem_cons_zero, List.setIfInBounds_toArray, List.set_cons_zero, List.set_cons_succ]
    refine wpAnyH_done (by kernel_rfl) ?_ _
    have d5 := d2
    clear f1 cZ
    generalize (((((((((w1.setCell ⟨w.heap.size + 2, 0, none⟩ (.int .i64 fc)).setCell ⟨w.heap.size + 2, 1, none⟩ (.int .i64 ad)).setCell ⟨w.heap.size + 2, 2, none⟩ (.int .i64 qt)).setCell ⟨w.heap.size + 2, 3, none⟩ (.slice A n c)).setCell ⟨w.heap.size + 2, 4, none⟩ (.int .i64 to)).setCell ⟨w.heap.size + 2, 5, none⟩ (.bool (readsB fc))).setCell ⟨w.heap.size + 2, 6, none⟩ (.bool (readsBits fc))).setCell ⟨w.heap.size + 2, 7, none⟩ (.int .i64 code)).setCell ⟨w.heap.size + 2, 8, none⟩ (.slice A2 n2 c2)) = V at *
    have c5 := cellsAt hB
    have hB' := Lib.hid hB
    have x5 := Lib.hid (hx'.out.ext d5)
    have y5 := Lib.hid (hy'.out.ext d5)
    have E5 := E0.go d5
    clear hB
    cases h : ansR fc ad qt to xs code ys
    · have h' := Lib.hid h
      have hl := (hL'.out).2 h
      clear h
      go_wp2_with fail
      refine (hrt.out V x5.out y5.out).mono ?_
      rw [show ansB (rightB' fc ad qt to xs) (readsB fc) (readsBits fc) qt code ys = false from h'.out]
      rintro e w6 ⟨rfl, D6⟩
      go_wp2_with fail
      go_ret
      rw [hl]
      exact ⟨_, _, _, rfl, Nat.le_refl _, by decide, RdI.nil _, E5.go D6⟩
    · have h' := Lib.hid h
      have hl := (hL'.out).1 h
      clear h
      go_wp2_with fail
      refine (hrt.out V x5.out y5.out).mono ?_
      rw [show ansB (rightB' fc ad qt to xs) (readsB fc) (readsBits fc) qt code ys = true from h'.out]
      rintro e w6 ⟨rfl, D6⟩
      have c6 := cellsAt ((D6.block _ (lt_of_block hB'.out)).trans hB'.out)
      go_wp2_with fail
      refine (hcd.out w6 (x5.out.ext D6) (y5.out.ext D6) h'.out).mono ?_
      rintro e w7 ⟨A7, n7, c7, rfl, g7, g7', r7, D7⟩
      go_wp2_with fail
      go_ret
      rw [hl]
      exact ⟨_, _, _, rfl, g7, g7', r7, (E5.go D6).go D7⟩
end Go.Proofs.Ytgagpalffdgjnaa
namespace Go.Proofs.Ytgagpalffdgjnaa
open Go.RowKit

/-- The answer of bytes to a request, and its error. -/
def rgetR (fc ad qt to : Int) (xs bs : List Int) : Int × List Int × Int :=
  if rightB' fc ad qt to xs = true then
    (if bs.length = 2 ∧ hiB (bs.getD 0 0) = true then (if tellsB fc ad qt to xs bs (bs.getD 1 0) [] = true then (bs.getD 1 0, [], 52) else (0, [], 51))
     else (if tellsB fc ad qt to xs bs 0 (takenV (readsB fc) (readsBits fc) qt bs) = true then (0, takenV (readsB fc) (readsBits fc) qt bs, 0) else (0, [], 51)))
  else (0, [], 51)
theorem rget_any (fc ad qt to : Int) (A Ab : Option Addr) (n c m cb : Nat) (xs bs : List Int) (w : World) (hx : RdI w w.heap.size .u16 A n xs) (hr : ∀ j : Nat, 0 ≤ xs[j]?.getD 0 ∧ xs[j]?.getD 0 ≤ 65535) (nm : n ≤ maxLen) (hz : RdI w w.heap.size .u8 Ab m bs) (hb : ByteL bs) (hmc : m ≤ cb) (hcm : cb ≤ maxLen) :
    Calls Try.prog 50 #[.agg #[.int .i64 fc, .int .i64 ad, .int .i64 qt, .slice A n c, .int .i64 to], .slice Ab m cb] w (RGetPost (rgetR fc ad qt to xs bs).1 (rgetR fc ad qt to xs bs).2.1 (rgetR fc ad qt to xs bs).2.2 w) := by
  have hl := hz.len
  cases h : rightB' fc ad qt to xs
  · have e : rgetR fc ad qt to xs bs = (0, [], 51) := by unfold rgetR; rw [if_neg (by rw [h]; decide)]
    rw [e]
    exact rget_no fc ad qt to A Ab n c m cb xs bs w hx hr nm hz hb h
  · by_cases h2 : bs.length = 2 ∧ hiB (bs.getD 0 0) = true
    · have e : rgetR fc ad qt to xs bs = if tellsB fc ad qt to xs bs (bs.getD 1 0) [] = true then (bs.getD 1 0, [], 52) else (0, [], 51) := by unfold rgetR; rw [if_pos h, if_pos h2]
      obtain rfl : m = 2 := by omega
      obtain ⟨x0, x1, hbs⟩ : ∃ x0 x1, bs = [x0, x1] := by
        match bs, h2.1 with
        | [a, b], _ => exact ⟨a, b, rfl⟩
      have e1 : bs.getD 1 0 = x1 := by rw [hbs]; rfl
      have e0 : bs.getD 0 0 = x0 := by rw [hbs]; rfl
      rw [e1] at e
      rw [e0] at h2
      refine rget_alarm fc ad qt to x0 x1 A Ab n c cb xs bs w hx hr nm hz hb h hbs h2.2 _ (fun ht e' w' hp => ?_) (fun ht e' w' hp => ?_)
      · rw [e, if_pos ht]; exact hp
      · rw [e, if_neg (by rw [ht]; decide)]; exact hp
    · have e : rgetR fc ad qt to xs bs = if tellsB fc ad qt to xs bs 0 (takenV (readsB fc) (readsBits fc) qt bs) = true then (0, takenV (readsB fc) (readsBits fc) qt bs, 0) else (0, [], 51) := by unfold rgetR; rw [if_pos h, if_neg h2]
      have hno : m ≠ 2 ∨ m = 2 ∧ hiB (bs.getD 0 0) = false := by
        by_cases hm : m = 2
        · right
          refine ⟨hm, ?_⟩
          cases hh : hiB (bs.getD 0 0)
          · rfl
          · exact absurd ⟨by omega, hh⟩ h2
        · exact .inl hm
      refine rget_vals fc ad qt to A Ab n c m cb xs bs w hx hr nm hz hb hmc hcm h hno _ (fun ht e' w' hp => ?_) (fun ht e' w' hp => ?_)
      · rw [e, if_pos ht]; exact hp
      · rw [e, if_neg (by rw [ht]; decide)]; exact hp

/-- The bytes of an exception to bytes. -/
def alarmL (bs : List Int) (code : Int) : List Int := if excB code = true then [orHi (bs.getD 0 0), code % 256] else []
set_option maxRecDepth 100000 in
set_option maxHeartbeats 1600000 in
theorem alarm_any (A : Option Addr) (m c : Nat) (bs : List Int) (code : Int) (w : World) (hz : RdI w w.heap.size .u8 A m bs) :
    Calls Try.prog 100 #[.slice A m c, .int .i64 code] w (RetI .u8 (alarmL bs code) w) := by
  have e1 : ∀ x, bits .or .u8 x 128 = orHi x := fun _ => rfl
  have hL : (excB code = true → alarmL bs code = [orHi (bs.getD 0 0), code % 256]) ∧ (excB code = false → alarmL bs code = []) := ⟨fun h => if_pos h, fun h => if_neg (by rw [h]; decide)⟩
  have hL' := Lib.hid hL
  have hl := hz.len
  clear hL
  cases h : excB code
  · rw [hL'.out.2 h]
    go_enter Try.func100, Try.ntmps100
    go_wp2_with fail
    refine (exception_any code w).mono ?_
    rw [h]
    rintro e w1 ⟨rfl, rfl⟩
    go_wp2_with fail
    go_ret
    exact ⟨_, _, _, rfl, Nat.le_refl _, by decide, RdI.nil _, Ext.refl _⟩
  · rw [hL'.out.1 h]
    rcases Nat.eq_zero_or_pos m with hm | hm
    · subst hm
      obtain rfl : bs = [] := List.length_eq_zero_iff.1 hl
      clear hL' hz hl
      have e2 : bits .or .u8 0 128 = orHi 0 := rfl
      go_enter Try.func100, Try.ntmps100
      go_wp2_with fail
      refine (exception_any code w).mono ?_
      rw [h]
      rintro e w1 ⟨rfl, rfl⟩
      go_wp2_with fail
      go_ret
      refine ⟨_, _, _, rfl, Nat.le_refl _, by decide, ?_, (Ext.refl w).goA _⟩
      have := RdI.new (w := w) (e := 5) (k := .u8) [orHi 0, code % 256] rfl rfl rfl
      rw [alloc_size]
      exact this
    · obtain ⟨bb, o, rfl, hbb, hc0⟩ := hz.at_ hm
      rw [Nat.add_zero] at hc0
      generalize bs.getD 0 0 = x at hc0 ⊢
      have t1 : decide (0 < m) = true := by simp; exact hm
      have t2 : (0 : Int) < m := by omega
      clear hL' hz hl hm
      go_enter Try.func100, Try.ntmps100
      go_wp2_with fail
      refine (exception_any code w).mono ?_
      rw [h]
      rintro e w1 ⟨rfl, rfl⟩
      go_wp2_with fail
      go_ret
      refine ⟨_, _, _, rfl, Nat.le_refl _, by decide, ?_, (Ext.refl w).goA _⟩
      have := RdI.new (w := w) (e := 5) (k := .u8) [orHi x, code % 256] rfl rfl rfl
      rw [alloc_size]
      exact this

set_option maxRecDepth 100000 in
set_option maxHeartbeats 1600000 in
theorem same05_any (co co' : Int) (A A' : Option Addr) (n c n' c' B : Nat) (xs ys : List Int) (w : World) (h1 : RdI w B .u16 A n xs) (h2 : RdI w B .u16 A' n' ys) (hB : B ≤ w.heap.size) (hn : n ≤ maxLen) (hn' : n' ≤ maxLen) :
    Calls Try.prog 74 #[.agg #[.int .i64 co, .slice A n c], .agg #[.int .i64 co', .slice A' n' c']] w
      fun e w' => e = .returned (.bool ((co == co') && decide (xs = ys))) ∧ Ext w w' := by
  have E2 := ((Ext.refl w).goA (.cells #[.int .i64 co, .slice A n c] 54)).goA (.cells #[.int .i64 co', .slice A' n' c'] 54)
  have r1 := Lib.hid (h1.keep (w' := _) fun b hb => E2.block b (Nat.lt_of_lt_of_le hb hB))
  have r2 := Lib.hid (h2.keep (w' := _) fun b hb => E2.block b (Nat.lt_of_lt_of_le hb hB))
  clear h1 h2
  cases e1 : (co == co')
  · go_enter Try.func74, Try.ntmps74
    go_wp2_with fail
    go_ret
    exact ⟨rfl, E2⟩
  · go_enter Try.func74, Try.ntmps74
    go_wp2_with fail
    refine (sameVals_any A A' n c n' c' B xs ys _ r1.out r2.out hn hn').mono ?_
    rintro e w1 ⟨rfl, m, rfl⟩
    go_wp2_with fail
    go_ret
    exact ⟨rfl, E2.goD m⟩
end Go.Proofs.Ytgagpalffdgjnaa
namespace Go.Proofs.Ytgagpalffdgjnaa
open Go.RowKit

set_option maxRecDepth 100000 in
set_option maxHeartbeats 1600000 in
theorem request_any (A : Option Addr) (n c : Nat) (l : List Int) (w : World) (hx : RdI w w.heap.size .u8 A n l) (hl : ByteL l) (hnc : n ≤ c) (hcm : c ≤ maxLen) :
    Calls Try.prog 99 #[.slice A n c] w (GetPost (getR l).1.fc (getR l).1.ad (getR l).1.qt (getR l).1.to (getR l).1.xs (getR l).2 w) := by
  have E1 := (Ext.refl w).goA (.cells #[.int .i64 0, .int .i64 0, .int .i64 0, .slice none 0 0, .int .i64 0] 30)
  have h0 : (w.alloc (.cells #[.int .i64 0, .int .i64 0, .int .i64 0, .slice none 0 0, .int .i64 0] 30)).heap[w.heap.size]? = some (.cells #[.int .i64 0, .int .i64 0, .int .i64 0, .slice none 0 0, .int .i64 0] 30 (0, 0)) := heap_alloc_new w _
  have hg := fun w' (E : Ext w w') => pduGet_any A n c l w' (hx.ext E) hl hnc hcm
  have h0' := Lib.hid h0
  clear hx hl h0
  generalize getR l = R at *
  obtain ⟨⟨fc, ad, qt, to, xs⟩, code⟩ := R
  dsimp only at *
  have hg := Lib.hid hg
  go_enter Try.func99, Try.ntmps99
  go_wp2_with fail
  refine (hg.out _ E1).mono ?_
  rintro e w1 ⟨A1, n1, c1, rfl, g1, g1', r1, D1, fr1⟩
  have R1 := (D1.block _ (lt_of_block h0'.out)).trans h0'.out
  have f1 := frozen_block R1
  have z1 := cellsAt R1
  have R1' := Lib.hid R1
  clear R1
  go_wp2_with fail
  obtain ⟨z0, z1, z2, z3, z4⟩ := five_reads R1'.out (.int .i64 fc) (.int .i64 ad) (.int .i64 qt) (.slice A1 n1 c1) (.int .i64 to)
  refine bodyPost_ret (v := .tuple #[.agg #[.int .i64 fc, .int .i64 ad, .int .i64 qt, .slice A1 n1 c1, .int .i64 to], .int .i64 code]) (by simp [results, Try.results99, go_sem, z0, z1, z2, z3, z4]) rfl ?_
  exact ⟨_, _, _, rfl, g1, g1', five_rd r1 (Nat.le_refl _) _ (zero_far R1'.out r1) _ _ _ _ _, (E1.go D1).five (by simp) _ _ _ _ _, fun b o e => by have := fr1 b o e; simp at this; omega⟩

/-- What is answered to bytes, and the bank behind it. -/
def serveY (L : Nat → List Int) (l : List Int) : List Int :=
  if (getR l).2 ≠ 0 then alarmL l (getR l).2
  else rputL (getR l).1.fc (getR l).1.ad (getR l).1.qt (getR l).1.to (getR l).1.xs (doC L (getR l).1.fc (getR l).1.ad (getR l).1.qt (getR l).1.to (getR l).1.xs) (doY L (getR l).1.fc (getR l).1.ad (getR l).1.qt (getR l).1.to (getR l).1.xs)
def serveL (L : Nat → List Int) (l : List Int) : Nat → List Int :=
  if (getR l).2 ≠ 0 then L else doL L (getR l).1.fc (getR l).1.ad (getR l).1.qt (getR l).1.to (getR l).1.xs
def ServePost (ys : List Int) (g : Nat) (L' : Nat → List Int) (G : Nat → Nat) (w : World) (e : Ending) (w' : World) : Prop :=
  ∃ A n c, e = .returned (.slice A n c) ∧ n ≤ c ∧ c ≤ maxLen ∧ RdI w' w'.heap.size .u8 A n ys ∧ Bk w' g L' G ∧ Mod (RowsOf G) w w'
theorem do_range {L : Nat → List Int} (hL : ∀ (k j : Nat), 0 ≤ (L k)[j]?.getD 0 ∧ (L k)[j]?.getD 0 ≤ 65535) (hlen : ∀ k, (L k).length ≤ 256) {fc ad qt to : Int} {xs : List Int} (hr : ∀ j : Nat, 0 ≤ xs[j]?.getD 0 ∧ xs[j]?.getD 0 ≤ 65535) :
    ∀ j : Nat, 0 ≤ (doY L fc ad qt to xs)[j]?.getD 0 ∧ (doY L fc ad qt to xs)[j]?.getD 0 ≤ 65535 := by
  have _ := hlen
  have h0 : ∀ j : Nat, 0 ≤ ([] : List Int)[j]?.getD 0 ∧ ([] : List Int)[j]?.getD 0 ≤ 65535 := fun j => by simp
  have hrow : ∀ j : Nat, 0 ≤ (doRow L fc ad to xs)[j]?.getD 0 ∧ (doRow L fc ad to xs)[j]?.getD 0 ≤ 65535 := by
    unfold doRow
    split
    · have hv := maskV_range ((L (kindN fc)).getD ad.toNat 0) (xs.getD 0 0) (xs.getD 1 0)
        (by rw [List.getD_eq_getElem?_getD]; exact (hL _ _).1) (by rw [List.getD_eq_getElem?_getD]; exact (hL _ _).2) (by rw [List.getD_eq_getElem?_getD]; exact (hr _).1) (by rw [List.getD_eq_getElem?_getD]; exact (hr _).2)
        (by rw [List.getD_eq_getElem?_getD]; exact (hr _).1) (by rw [List.getD_eq_getElem?_getD]; exact (hr _).2)
      exact set_range (hL _) _ hv.1 hv.2
    · exact splice_range (hL _) hr
  have mem : ∀ y ∈ doRow L fc ad to xs, 0 ≤ y ∧ y ≤ 65535 := fun y hm => by
    obtain ⟨j, hj, rfl⟩ := List.getElem_of_mem hm
    have := hrow j
    rw [List.getElem?_eq_getElem hj] at this
    exact this
  unfold doY
  split
  · split
    · exact rng_of (by omega) (by omega) fun y hm => mem y (List.mem_of_mem_drop (List.mem_of_mem_take hm))
    · exact h0
  · exact h0
theorem do_len {L : Nat → List Int} (hlen : ∀ k, (L k).length ≤ 256) {fc ad qt to : Int} {xs : List Int} : (doY L fc ad qt to xs).length ≤ 2000 := by
  unfold doY
  split
  · rename_i h
    have h1 := doGoes_parts h
    obtain ⟨a0, q0, q2, _⟩ := right_do h1.1
    have _ := hlen
    split
    · rw [List.length_take]; omega
    · simp
  · simp
theorem RdI.mod {w w' : World} {k : IntKind} {A : Option Addr} {n : Nat} {xs : List Int} {S : Nat → Prop} (h : RdI w w.heap.size k A n xs) (M : Mod S w w') (hne : ∀ b o, A = some ⟨b, o, none⟩ → ¬ S b) : RdI w' w'.heap.size k A n xs :=
  ⟨h.1, fun hn => by
    obtain ⟨b, o, e, hb, hc⟩ := h.2 hn
    exact ⟨b, o, e, Nat.lt_of_lt_of_le hb M.size, fun j hj => (M.cell (o + j) hb (hne b o e)).trans (hc j hj)⟩⟩
/-- Bytes are no words of a bank. -/
theorem RdI.past {w w' : World} {A : Option Addr} {n g : Nat} {xs : List Int} {L : Nat → List Int} {G : Nat → Nat} (h : RdI w w.heap.size .u8 A n xs) (hb : Bk w g L G) (M : Mod (RowsOf G) w w') : RdI w' w'.heap.size .u8 A n xs :=
  ⟨h.1, fun hn => by
    obtain ⟨b, o, e, hlt, hc⟩ := h.2 hn
    refine ⟨b, o, e, Nat.lt_of_lt_of_le hlt M.size, fun j hj => (M.cell (o + j) hlt ?_).trans (hc j hj)⟩
    rintro ⟨k, hk, rfl⟩
    have h1 := hc 0 hn
    have h2 := hb.row k hk
    unfold Blk at h2
    rw [Nat.add_zero, cellsAt h2 o] at h1
    by_cases ho : o < (L k).length
    · rw [row_get _ _ _ ho] at h1
      injection h1 with h1
      injection h1 with h1
      cases h1
    · rw [Array.getElem?_eq_none (by rw [row_size]; omega)] at h1
      cases h1⟩
set_option maxRecDepth 100000 in
set_option maxHeartbeats 3200000 in
theorem bankServe_any (g : Nat) (A : Option Addr) (n c : Nat) (l : List Int) (L : Nat → List Int) (G : Nat → Nat) (w : World) (hb : Bk w g L G) (hx : RdI w w.heap.size .u8 A n l) (hl : ByteL l) (hnc : n ≤ c) (hcm : c ≤ maxLen) :
    Calls Try.prog 64 #[.pointer (some ⟨g, 0, none⟩), .slice A n c] w (ServePost (serveY L l) g (serveL L l) G w) := by
  have hgr := getR_range l hl
  have hga := got_any l
  have hq := request_any A n c l w hx hl hnc hcm
  have hb' := Lib.hid hb
  have hx' := Lib.hid hx
  unfold serveY serveL
  clear hb hx hl
  generalize getR l = R at *
  obtain ⟨⟨fc, ad, qt, to, xs⟩, code⟩ := R
  dsimp only at *
  have hgr' := Lib.hid hgr
  have hq' := Lib.hid hq
  clear hq
  by_cases hc : code = 0
  · subst hc
    rw [if_neg (by simp), if_neg (by simp)]
    have hq1 : rightB' fc ad qt to xs = true := by
      rcases hga with h | h
      · exact h.2.1
      · omega
    clear hga hgr
    have hyl := do_len hb'.out.len (fc := fc) (ad := ad) (qt := qt) (to := to) (xs := xs)
    have hyr := do_range hb'.out.rng hb'.out.len (fc := fc) (ad := ad) (qt := qt) (to := to) hgr'.out
    have hdo := fun (A1 : Option Addr) (n1 c1 : Nat) w' (hb : Bk w' g L G) (hx : RdI w' w'.heap.size .u16 A1 n1 xs) n1m => bankDo_any g fc ad qt to A1 n1 c1 xs L G w' hb hx hgr'.out n1m
    generalize doC L fc ad qt to xs = dc at *
    generalize doY L fc ad qt to xs = dy at *
    generalize doL L fc ad qt to xs = dL at *
    have hdo' := Lib.hid hdo
    have hyr' := Lib.hid hyr
    clear hdo hyr
    go_enter Try.func64, Try.ntmps64
    go_wp2_with fail
    refine hq'.out.mono ?_
    rintro e w1 ⟨A1, n1, c1, rfl, g1, g1', r1, D1, fr1⟩
    have n1m : n1 ≤ maxLen := Nat.le_trans g1 g1'
    have E2 := D1.goA (.cells #[.int .i64 fc, .int .i64 ad, .int .i64 qt, .slice A1 n1 c1, .int .i64 to] 30)
    have hQ := heap_alloc_new w1 (.cells #[.int .i64 fc, .int .i64 ad, .int .i64 qt, .slice A1 n1 c1, .int .i64 to] 30)
    have bq := cellsAt hQ
    have r2 := r1.ext ((Ext.refl w1).goA (.cells #[.int .i64 fc, .int .i64 ad, .int .i64 qt, .slice A1 n1 c1, .int .i64 to] 30))
    have r2' := Lib.hid r2
    have hrow : ∀ i, RowsOf G i → i < w.heap.size := fun i h => hb'.out.old (.inr h)
    have hrow' := Lib.hid hrow
    have hs1 := D1.size
    clear r1 r2 hq1 hrow
    go_wp2_with fail
    generalize w1.alloc (.cells #[.int .i64 fc, .int .i64 ad, .int .i64 qt, .slice A1 n1 c1, .int .i64 to] 30) = W at *
    have d0 : Ext W W.drew := (Ext.refl _).god
    have hQd : W.drew.heap[w1.heap.size]? = _ := hQ
    have bqW : ∀ w' : World, w'.heap[w1.heap.size]? = some (.cells #[.int .i64 fc, .int .i64 ad, .int .i64 qt, .slice A1 n1 c1, .int .i64 to] 30 (0, 0)) → ∀ o, w'.cell? ⟨w1.heap.size, o, none⟩ = _ := fun w' h => cellsAt h
    clear bq hQ
    refine wp_region_held_drew (S := fun w' => w'.heap[w1.heap.size]? = some (.cells #[.int .i64 fc, .int .i64 ad, .int .i64 qt, .slice A1 n1 c1, .int .i64 to] 30 (0, 0))) (by kernel_rfl) hQd (fun hHeld => ?_)
    refine wpAnyH_take (i := 0) (oi := _) (v := ?_) rfl (by kernel_rfl) (by kernel_rfl) (by kernel_rfl) (fun _ _ _ h => h) (Or.inl ⟨by rfl, ?_⟩) (by assumption) ?_
    rotate_left
    · intro w hSw
      (try dsimp only at hSw)
      go_simp
      try (with_reducible rfl)
    try simp only [Act.put, List.getElem_toArray, List.getElem_cons_zero, List.setIfInBounds_toArray, List.set_cons_zero, List.set_cons_succ]
    refine wpAnyH_take (i := 1) (oi := _) (v := ?_) rfl (by kernel_rfl) (by kernel_rfl) (by kernel_rfl) (fun _ _ _ h => h) (Or.inl ⟨by rfl, ?_⟩) (by assumption) ?_
    rotate_left
    · intro w hSw
      (try dsimp only at hSw)
      go_simp
      try (with_reducible rfl)
    try simp only [Act.put, List.getElem_toArray, List.getElem_cons_succ, List.getElem_cons_zero, List.setIfInBounds_toArray, List.set_cons_zero, List.set_cons_succ]
    refine wpAnyH_take (i := 2) (oi := _) (v := ?_) rfl (by kernel_rfl) (by kernel_rfl) (by kernel_rfl) (fun _ _ _ h => h) (Or.inl ⟨by rfl, ?_⟩) (by assumption) ?_
    rotate_left
    · intro w hSw
      (try dsimp only at hSw)
      go_simp
      try (with_reducible rfl)
    try simp only [Act.put, List.getElem_toArray, List.getElem_cons_succ, List.getElem_cons_zero, List.setIfInBounds_toArray, List.set_cons_zero, List.set_cons_succ]
    refine wpAnyH_ready (rs := [3]) (by kernel_rfl) (by simp) ?_
    refine AllReadyH.cons rfl (fun K hK => ?_) ?_
    rotate_left
    · exact AllReadyH.nil
    go_simp
    go_at_call 102
    refine (hdo'.out A1 n1 c1 _ (hb'.out.ext (E2.go d0)) (r2'.out.ext d0) n1m).mono ?_
    rintro e w3 ⟨A3, n3, c3, rfl, g3, g3', r3, fr3, B3, M3⟩
    have hQ3 := (M3.block w1.heap.size (lt_of_block hQd) (fun h => by have := hrow'.out _ h; omega)).trans hQd
    have x3 := (r2'.out.ext d0).mod M3 (fun b o e h => by have := hrow'.out _ h; have := fr1 b o e; omega)
    try dsimp only
    refine hK.out _ _ ?_ (fun hHeld => ?_)
    · first | assumption | (dsimp only; assumption)
    clear hK K
    try simp only [Act.put, List.getElem_toArray, List.getElem_cons_succ, List.getElem_cons_zero, List.setIfInBounds_toArray, List.set_cons_zero, List.set_cons_succ]
    refine wpAnyH_ready (rs := [4]) (by kernel_rfl) (by simp) ?_
    refine AllReadyH.cons rfl (fun K hK => ?_) ?_
    rotate_left
    · exact AllReadyH.nil
    go_simp
    go_at_call 101
    refine (rPut_any fc ad qt to dc A1 A3 n1 c1 n3 c3 xs dy w3 x3 hgr'.out n1m r3 hyr'.out (Nat.le_trans g3 g3')).mono ?_
    rintro e w4 ⟨A4, n4, c4, rfl, g4, g4', r4, D4⟩
    have hQ4 := (D4.block w1.heap.size (lt_of_block hQ3)).trans hQ3
    try dsimp only
    refine hK.out _ _ ?_ (fun hHeld => ?_)
    · first | assumption | (dsimp only; assumption)
    clear hK K
    try simp only [Act.put, List.getElem_toArray, List.getElem_cons_succ, List.getElem_cons_zero, List.setIfInBounds_toArray, List.set_cons_zero, List.set_cons_succ]
    refine wpAnyH_take (i := 5) (oi := _) (v := ?_) rfl (by kernel_rfl) (by kernel_rfl) (by kernel_rfl) (fun _ _ _ h => h) (Or.inl ⟨by rfl, ?_⟩) (by assumption) ?_
    rotate_left
    · intro w hSw
      (try dsimp only at hSw)
      go_simp
      try (with_reducible rfl)
    try simp only [Act.put, List.getElem_toArray, List.getElem_cons_succ, List.getElem_cons_zero, List.setIfInBounds_toArray, List.set_cons_zero, List.set_cons_succ]
    refine wpAnyH_done (by kernel_rfl) ?_ _
    go_wp2_with fail
    go_ret
    exact ⟨_, _, _, rfl, g4, g4', r4, B3.ext D4, ((Mod.ofBelow (E2.go d0)).trans M3).trans (Mod.ofBelow D4)⟩
  · have hc1 : (code != 0) = true := by simp; exact hc
    have hc2 : (code == 0) = false := by simp; exact hc
    rw [if_pos hc, if_pos hc]
    clear hga hgr hc
    go_enter Try.func64, Try.ntmps64
    go_wp2_with fail
    refine hq'.out.mono ?_
    rintro e w1 ⟨A1, n1, c1, rfl, g1, g1', r1, D1, fr1⟩
    go_wp2_with fail
    refine (alarm_any A n c l code _ (hx'.out.ext (D1.goA _))).mono ?_
    rintro e w4 ⟨A4, n4, c4, rfl, g4, g4', r4, D4⟩
    go_wp2_with fail
    go_ret
    exact ⟨_, _, _, rfl, g4, g4', r4, hb'.out.ext ((D1.goA _).go D4), Mod.ofBelow ((D1.goA _).go D4)⟩
end Go.Proofs.Ytgagpalffdgjnaa
