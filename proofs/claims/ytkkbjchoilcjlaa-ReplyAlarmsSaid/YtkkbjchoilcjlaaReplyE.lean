/- Layer 5, the walks: is an answer one that bytes tell? -/
import Derived.Test.YtkkbjchoilcjlaaReplyB
import Derived.Test.YtkkbjchoilcjlaaReplyD
import Derived.Test.YtkkbjchoilcjlaaPduEq
import Derived.Test.YtkkbjchoilcjlaaPduLaw
namespace Go.Proofs.Ytkkbjchoilcjlaa
open Go.RowKit

theorem right_parts {fc ad qt to : Int} {xs : List Int} (h : rightB' fc ad qt to xs = true) : ∃ s, shapeOf fc = some s ∧ holdsB s ad qt to xs = true ∧ fitsB ad qt to xs.length = true := by
  unfold rightB' at h
  cases hs : shapeOf fc with
  | none => rw [hs] at h; cases h
  | some s => rw [hs] at h; dsimp only at h; rw [Bool.and_eq_true] at h; exact ⟨s, rfl, h.1, h.2⟩
theorem right_qty {fc ad qt to : Int} {xs : List Int} (h : rightB' fc ad qt to xs = true) : 0 ≤ qt ∧ qt ≤ 2000 ∧ xs.length ≤ 2000 := by
  obtain ⟨s, hs, h1, _⟩ := right_parts h
  have b := shape_bounds hs
  have p := holds_parts h1
  have l := holds_len b h1
  omega
theorem right_five {fc ad qt to : Int} {xs : List Int} (h : rightB' fc ad qt to xs = true) : 5 ≤ (putL fc ad qt to xs).length := by
  obtain ⟨s, hs, h1, h2⟩ := right_parts h
  unfold putL
  rw [hs]
  dsimp only
  rw [h1, h2, Bool.and_self, if_pos rfl]
  obtain ⟨-, -, ⟨q0, q1⟩, -, -, f0, f1, f2, f3⟩ := holds_parts h1
  have hl := codedL_length s fc ad qt to xs
  rcases shape_cases hs with ⟨_, rfl⟩ | ⟨_, rfl⟩ | ⟨_, rfl⟩ | ⟨_, rfl⟩ | ⟨_, rfl⟩ | ⟨_, rfl⟩ | ⟨_, rfl⟩ | ⟨_, rfl⟩
  all_goals
    simp [lenOf] at hl f0 f1 f2 f3 q1
    omega
/-- The answer of that, to a request. -/
def ansR (fc ad qt to : Int) (xs : List Int) (code : Int) (ys : List Int) : Bool := ansB (rightB' fc ad qt to xs) (readsB fc) (readsBits fc) qt code ys
def repR (fc ad qt to : Int) (xs : List Int) (code : Int) (ys : List Int) : List Int := repL fc ad qt to xs (readsB fc) (readsBits fc) code ys
theorem ans_parts {fc ad qt to code : Int} {xs ys : List Int} (h : ansR fc ad qt to xs code ys = true) : rightB' fc ad qt to xs = true ∧ (code ≠ 0 → (1 ≤ code ∧ code ≤ 4) ∧ ys = []) ∧ (code = 0 → (ys.length : Int) = (if readsB fc then qt else 0) ∧ valuesB (readsBits fc) ys = true) := by
  unfold ansR ansB at h
  rw [Bool.and_eq_true] at h
  refine ⟨h.1, fun hc => ?_, fun hc => ?_⟩
  · have := h.2
    rw [if_pos hc, Bool.and_eq_true] at this
    unfold excB at this
    exact ⟨by simpa using this.1, by simpa using this.2⟩
  · have := h.2
    rw [if_neg (by simp [hc]), Bool.and_eq_true] at this
    exact ⟨by simpa using this.1, this.2⟩
theorem coded05_any (fc ad qt to code : Int) (A A2 : Option Addr) (n c n2 c2 : Nat) (xs ys : List Int) (w : World) (hx : RdI w w.heap.size .u16 A n xs) (hr : ∀ j : Nat, 0 ≤ xs[j]?.getD 0 ∧ xs[j]?.getD 0 ≤ 65535) (nm : n ≤ maxLen)
    (hy : RdI w w.heap.size .u16 A2 n2 ys) (hyr : ∀ j : Nat, 0 ≤ ys[j]?.getD 0 ∧ ys[j]?.getD 0 ≤ 65535) (h : ansR fc ad qt to xs code ys = true) :
    Calls Try.prog 53 #[.agg #[.int .i64 fc, .int .i64 ad, .int .i64 qt, .slice A n c, .int .i64 to, .bool (readsB fc), .bool (readsBits fc), .int .i64 code, .slice A2 n2 c2]] w (RetI .u8 (repR fc ad qt to xs code ys) w) := by
  obtain ⟨h1, h2, h3⟩ := ans_parts h
  unfold repR repL
  by_cases hc : code = 0
  · subst hc
    rw [if_neg (by simp)]
    have q := right_qty h1
    have h3 := (h3 rfl).1
    have hl := hy.len
    cases hb : readsB fc
    · rw [if_neg (by decide)]
      exact coded05_writes fc ad qt to A A2 n c n2 c2 _ xs w hx hr nm (fun _ => right_five h1)
    · rw [if_pos rfl]
      rw [hb, if_pos rfl] at h3
      exact coded05_reads fc ad qt to A A2 n c n2 c2 _ ys w hy hyr (by omega)
  · rw [if_pos hc]
    exact coded05_exc fc ad qt to code A A2 n c n2 c2 _ _ w hc

set_option maxHeartbeats 3200000 in
theorem tells_any (ga gb : Nat) (fc ad qt to code : Int) (A A2 Ab : Option Addr) (n c n2 c2 m cb : Nat) (xs ys bs : List Int) (w : World) (ha : w.heap[ga]? = some (.cells #[.int .i64 fc, .int .i64 ad, .int .i64 qt, .slice A n c, .int .i64 to, .bool (readsB fc), .bool (readsBits fc)] 75 (0, 0))) (hb : w.heap[gb]? = some (.cells #[.slice Ab m cb] 30 (0, 0)))
    (hx : RdI w w.heap.size .u16 A n xs) (hr : ∀ j : Nat, 0 ≤ xs[j]?.getD 0 ∧ xs[j]?.getD 0 ≤ 65535) (nm : n ≤ maxLen)
    (hy : RdI w w.heap.size .u16 A2 n2 ys) (hyr : ∀ j : Nat, 0 ≤ ys[j]?.getD 0 ∧ ys[j]?.getD 0 ≤ 65535) (nm2 : n2 ≤ maxLen) (hz : RdI w w.heap.size .u8 Ab m bs) :
    Calls Try.prog 54 #[.agg #[.int .i64 code, .slice A2 n2 c2], .pointer (some ⟨ga, 0, none⟩), .pointer (some ⟨gb, 0, none⟩)] w
      fun e w' => e = .returned (.bool (ansR fc ad qt to xs code ys && ((strOfNums (repR fc ad qt to xs code ys)).toList == (strOfNums bs).toList))) ∧ Ext w w' := by
  have E1 := (Ext.refl w).goA (.cells #[.int .i64 code, .slice A2 n2 c2] 50)
  have a1 := cellsAt ((E1.block _ (lt_of_block ha)).trans ha)
  have E2 := E1.goA (.cells #[.int .i64 fc, .int .i64 ad, .int .i64 qt, .slice A n c, .int .i64 to, .bool (readsB fc), .bool (readsBits fc), .int .i64 code, .slice A2 n2 c2] 78)
  have bx := fun w' (D : Ext ((w.alloc (.cells #[.int .i64 code, .slice A2 n2 c2] 50)).alloc (.cells #[.int .i64 fc, .int .i64 ad, .int .i64 qt, .slice A n c, .int .i64 to, .bool (readsB fc), .bool (readsBits fc), .int .i64 code, .slice A2 n2 c2] 78)) w') => cellsAt ((D.block (w.heap.size + 1) (by simp)).trans (by rw [alloc_get, if_pos (by simp)]))
  have by_ := fun w' (D : Ext ((w.alloc (.cells #[.int .i64 code, .slice A2 n2 c2] 50)).alloc (.cells #[.int .i64 fc, .int .i64 ad, .int .i64 qt, .slice A n c, .int .i64 to, .bool (readsB fc), .bool (readsBits fc), .int .i64 code, .slice A2 n2 c2] 78)) w') => cellsAt (((E2.go D).block gb (lt_of_block hb)).trans hb)
  have bx' := Lib.hid bx
  have by' := Lib.hid by_
  have hx' := Lib.hid hx
  have hy' := Lib.hid hy
  have hz' := Lib.hid hz
  have hr' := Lib.hid hr
  have hyr' := Lib.hid hyr
  have hca := Lib.hid (fun h A n c A2 n2 c2 w' hx nm hy => coded05_any fc ad qt to code A A2 n c n2 c2 xs ys w' hx hr nm hy hyr h)
  clear bx by_ hx hy hz hr hyr ha hb
  cases h : ansR fc ad qt to xs code ys
  · have h' := Lib.hid h
    clear h
    go_enter Try.func54, Try.ntmps54
    go_wp2_with fail
    generalize (w.alloc (.cells #[.int .i64 code, .slice A2 n2 c2] 50)).alloc (.cells #[.int .i64 fc, .int .i64 ad, .int .i64 qt, .slice A n c, .int .i64 to, .bool (readsB fc), .bool (readsBits fc), .int .i64 code, .slice A2 n2 c2] 78) = W at *
    have bx := bx'.out
    have by_ := by'.out
    have d0 : Ext W W.drew := (Ext.refl _).god
    have x0 := Lib.hid (hx'.out.ext E2)
    have y0 := Lib.hid (hy'.out.ext E2)
    have z0 := Lib.hid (hz'.out.ext E2)
    clear hx' hy' hz'
    refine wp_region_held_drew (S := fun w' => Ext W w') (by kernel_rfl) d0 (fun hHeld => ?_)
    refine wpAnyH_take (i := 0) (oi := _) (v := ?_) rfl (by kernel_rfl) (by kernel_rfl) (by kernel_rfl) (fun _ _ _ h => h) (Or.inl ⟨by rfl, ?_⟩) (by assumption) ?_
    rotate_left
    · intro w hSw
      (try dsimp only at hSw)
      go_simp
      try (with_reducible rfl)
    try simp only [Act.put, List.getElem_toArray, List.getElem_cons_zero, List.setIfInBounds_toArray, List.set_cons_zero, List.set_cons_succ]
    refine wpAnyH_ready (rs := [1]) (by kernel_rfl) (by simp) ?_
    refine AllReadyH.cons rfl (fun K hK => ?_) ?_
    rotate_left
    · exact AllReadyH.nil
    go_simp
    go_at_call 52
    refine (right05_any fc ad qt to code A A2 n c n2 c2 (readsB fc) (readsBits fc) xs ys _ (x0.out.ext d0) (y0.out.ext d0) nm nm2).mono ?_
    rw [show ansB (rightB' fc ad qt to xs) (readsB fc) (readsBits fc) qt code ys = false from h'.out]
    rintro e w1 ⟨rfl, d1⟩
    have d1' := d0.go d1
    try dsimp only
    refine hK.out _ _ ?_ (fun hHeld => ?_)
    · first | assumption | (dsimp only; assumption)
    clear hK K
    try simp only [Act.put, List.getElem_toArray, List.getElem_cons_succ, List.getElem_cons_zero, List.setIfInBounds_toArray, List.set_cons_zero, List.set_cons_succ]
    refine wpAnyH_take (i := 2) (oi := _) (v := ?_) rfl (by kernel_rfl) (by kernel_rfl) (by kernel_rfl) (fun _ _ _ h => h) (Or.inl ⟨by rfl, ?_⟩) (by assumption) ?_
    rotate_left
    · intro w hSw
      (try dsimp only at hSw)
      go_simp
      try (with_reducible rfl)
    try simp only [Act.put, List.getElem_toArray, List.getElem_cons_succ, List.getElem_cons_zero, List.setIfInBounds_toArray, List.set_cons_zero, List.set_cons_succ]
    refine wpAnyH_take (i := 3) (oi := _) (v := undef) rfl (by kernel_rfl) (by kernel_rfl) (by kernel_rfl) (fun _ _ _ h => h) (Or.inr ⟨by rfl, rfl⟩) (by assumption) ?_
    try simp only [Act.put, List.getElem_toArray, List.getElem_cons_succ, List.getElem_cons_zero, List.setIfInBounds_toArray, List.set_cons_zero, List.set_cons_succ]
    refine wpAnyH_take (i := 4) (oi := _) (v := undef) rfl (by kernel_rfl) (by kernel_rfl) (by kernel_rfl) (fun _ _ _ h => h) (Or.inr ⟨by rfl, rfl⟩) (by assumption) ?_
    try simp only [Act.put, List.getElem_toArray, List.getElem_cons_succ, List.getElem_cons_zero, List.setIfInBounds_toArray, List.set_cons_zero, List.set_cons_succ]
    refine wpAnyH_take (i := 5) (oi := _) (v := undef) rfl (by kernel_rfl) (by kernel_rfl) (by kernel_rfl) (fun _ _ _ h => h) (Or.inr ⟨by rfl, rfl⟩) (by assumption) ?_
    try simp only [Act.put, List.getElem_toArray, List.getElem_cons_succ, List.getElem_cons_zero, List.setIfInBounds_toArray, List.set_cons_zero, List.set_cons_succ]
    refine wpAnyH_take (i := 6) (oi := _) (v := undef) rfl (by kernel_rfl) (by kernel_rfl) (by kernel_rfl) (fun _ _ _ h => h) (Or.inr ⟨by rfl, rfl⟩) (by assumption) ?_
    try simp only [Act.put, List.getElem_toArray, List.getElem_cons_succ, List.getElem_cons_zero, List.setIfInBounds_toArray, List.set_cons_zero, List.set_cons_succ]
    refine wpAnyH_take (i := 7) (oi := _) (v := ?_) rfl (by kernel_rfl) (by kernel_rfl) (by kernel_rfl) (fun _ _ _ h => h) (Or.inl ⟨by rfl, ?_⟩) (by assumption) ?_
    rotate_left
    · intro w hSw
      (try dsimp only at hSw)
      go_simp
      try (with_reducible rfl)
    try simp only [Act.put, List.getElem_toArray, List.getElem_cons_succ, List.getElem_cons_zero, List.setIfInBounds_toArray, List.set_cons_zero, List.set_cons_succ]
    refine wpAnyH_take (i := 8) (oi := _) (v := ?_) rfl (by kernel_rfl) (by kernel_rfl) (by kernel_rfl) (fun _ _ _ h => h) (Or.inl ⟨by rfl, ?_⟩) (by assumption) ?_
    rotate_left
    · intro w hSw
      (try dsimp only at hSw)
      go_simp
      try (with_reducible rfl)
    try simp only [Act.put, List.getElem_toArray, List.getElem_cons_succ, List.getElem_cons_zero, List.setIfInBounds_toArray, List.set_cons_zero, List.set_cons_succ]
    refine wpAnyH_done (by kernel_rfl) ?_ _
    go_wp2_with fail
    go_ret
    exact ⟨rfl, E2.go d1'⟩
  · have h' := Lib.hid h
    clear h
    rw [Bool.true_and]
    generalize hve : ((strOfNums (repR fc ad qt to xs code ys)).toList == (strOfNums bs).toList) = ve
    have hve' := Lib.hid hve
    clear hve
    go_enter Try.func54, Try.ntmps54
    go_wp2_with fail
    generalize (w.alloc (.cells #[.int .i64 code, .slice A2 n2 c2] 50)).alloc (.cells #[.int .i64 fc, .int .i64 ad, .int .i64 qt, .slice A n c, .int .i64 to, .bool (readsB fc), .bool (readsBits fc), .int .i64 code, .slice A2 n2 c2] 78) = W at *
    have bx := bx'.out
    have by_ := by'.out
    have d0 : Ext W W.drew := (Ext.refl _).god
    have x0 := Lib.hid (hx'.out.ext E2)
    have y0 := Lib.hid (hy'.out.ext E2)
    have z0 := Lib.hid (hz'.out.ext E2)
    clear hx' hy' hz'
    refine wp_region_held_drew (S := fun w' => Ext W w') (by kernel_rfl) d0 (fun hHeld => ?_)
    refine wpAnyH_take (i := 0) (oi := _) (v := ?_) rfl (by kernel_rfl) (by kernel_rfl) (by kernel_rfl) (fun _ _ _ h => h) (Or.inl ⟨by rfl, ?_⟩) (by assumption) ?_
    rotate_left
    · intro w hSw
      (try dsimp only at hSw)
      go_simp
      try (with_reducible rfl)
    try simp only [Act.put, List.getElem_toArray, List.getElem_cons_zero, List.setIfInBounds_toArray, List.set_cons_zero, List.set_cons_succ]
    refine wpAnyH_ready (rs := [1]) (by kernel_rfl) (by simp) ?_
    refine AllReadyH.cons rfl (fun K hK => ?_) ?_
    rotate_left
    · exact AllReadyH.nil
    go_simp
    go_at_call 52
    refine (right05_any fc ad qt to code A A2 n c n2 c2 (readsB fc) (readsBits fc) xs ys _ (x0.out.ext d0) (y0.out.ext d0) nm nm2).mono ?_
    rw [show ansB (rightB' fc ad qt to xs) (readsB fc) (readsBits fc) qt code ys = true from h'.out]
    rintro e w1 ⟨rfl, d1⟩
    have d1' := d0.go d1
    try dsimp only
    refine hK.out _ _ ?_ (fun hHeld => ?_)
    · first | assumption | (dsimp only; assumption)
    clear hK K
    try simp only [Act.put, List.getElem_toArray, List.getElem_cons_succ, List.getElem_cons_zero, List.setIfInBounds_toArray, List.set_cons_zero, List.set_cons_succ]
    refine wpAnyH_take (i := 2) (oi := _) (v := ?_) rfl (by kernel_rfl) (by kernel_rfl) (by kernel_rfl) (fun _ _ _ h => h) (Or.inl ⟨by rfl, ?_⟩) (by assumption) ?_
    rotate_left
    · intro w hSw
      (try dsimp only at hSw)
      go_simp
      try (with_reducible rfl)
    try simp only [Act.put, List.getElem_toArray, List.getElem_cons_succ, List.getElem_cons_zero, List.setIfInBounds_toArray, List.set_cons_zero, List.set_cons_succ]
    refine wpAnyH_take (i := 3) (oi := _) (v := ?_) rfl (by kernel_rfl) (by kernel_rfl) (by kernel_rfl) (fun _ _ _ h => h) (Or.inl ⟨by rfl, ?_⟩) (by assumption) ?_
    rotate_left
    · intro w hSw
      (try dsimp only at hSw)
      go_simp
      try (with_reducible rfl)
    try simp only [Act.put, List.getElem_toArray, List.getElem_cons_succ, List.getElem_cons_zero, List.setIfInBounds_toArray, List.set_cons_zero, List.set_cons_succ]
    refine wpAnyH_take (i := 5) (oi := _) (v := ?_) rfl (by kernel_rfl) (by kernel_rfl) (by kernel_rfl) (fun _ _ _ h => h) (Or.inl ⟨by rfl, ?_⟩) (by assumption) ?_
    rotate_left
    · intro w hSw
      (try dsimp only at hSw)
      go_simp
      try (with_reducible rfl)
    try simp only [Act.put, List.getElem_toArray, List.getElem_cons_succ, List.getElem_cons_zero, List.setIfInBounds_toArray, List.set_cons_zero, List.set_cons_succ]
    refine wpAnyH_ready (rs := [4]) (by kernel_rfl) (by simp) ?_
    refine AllReadyH.cons rfl (fun K hK => ?_) ?_
    rotate_left
    · exact AllReadyH.nil
    go_simp
    go_at_call 53
    refine (hca.out h'.out A n c A2 n2 c2 w1 (x0.out.ext d1') nm (y0.out.ext d1')).mono ?_
    rintro e w2 ⟨A3, n3, c3, rfl, _, _, r3, d2⟩
    have d2' := d1'.go d2
    try dsimp only
    refine hK.out _ _ ?_ (fun hHeld => ?_)
    · first | assumption | (dsimp only; assumption)
    clear hK K
    try simp only [Act.put, List.getElem_toArray, List.getElem_cons_succ, List.getElem_cons_zero, List.setIfInBounds_toArray, List.set_cons_zero, List.set_cons_succ]
    refine wpAnyH_ready (rs := [6]) (by kernel_rfl) (by simp) ?_
    refine AllReadyH.cons rfl (fun K hK => ?_) ?_
    rotate_left
    · exact AllReadyH.nil
    go_simp
    go_at_call 50
    refine (equal_any A3 Ab n3 c3 m cb w2.heap.size _ bs w2 r3 (z0.out.ext d2')).mono ?_
    rw [hve'.out]
    rintro e w3 ⟨rfl, d3⟩
    have d3' := d2'.go d3
    try dsimp only
    refine hK.out _ _ ?_ (fun hHeld => ?_)
    · first | assumption | (dsimp only; assumption)
    clear hK K
    try simp only [Act.put, List.getElem_toArray, List.getElem_cons_succ, List.getElem_cons_zero, List.setIfInBounds_toArray, List.set_cons_zero, List.set_cons_succ]
    refine wpAnyH_take (i := 7) (oi := _) (v := ?_) rfl (by kernel_rfl) (by kernel_rfl) (by kernel_rfl) (fun _ _ _ h => h) (Or.inl ⟨by rfl, ?_⟩) (by assumption) ?_
    rotate_left
    · intro w hSw
      (try dsimp only at hSw)
      go_simp
      try (with_reducible rfl)
    try simp only [Act.put, List.getElem_toArray, List.getElem_cons_succ, List.getElem_cons_zero, List.setIfInBounds_toArray, List.set_cons_zero, List.set_cons_succ]
    refine wpAnyH_take (i := 8) (oi := _) (v := ?_) rfl (by kernel_rfl) (by kernel_rfl) (by kernel_rfl) (fun _ _ _ h => h) (Or.inl ⟨by rfl, ?_⟩) (by assumption) ?_
    rotate_left
    · intro w hSw
      (try dsimp only at hSw)
      go_simp
      try (with_reducible rfl)
    try simp only [Act.put, List.getElem_toArray, List.getElem_cons_succ, List.getElem_cons_zero, List.setIfInBounds_toArray, List.set_cons_zero, List.set_cons_succ]
    refine wpAnyH_done (by kernel_rfl) ?_ _
    go_wp2_with fail
    go_ret
    exact ⟨rfl, E2.go d3'⟩
end Go.Proofs.Ytkkbjchoilcjlaa
