
/- Layer 5, the walks: may that be answered? -/
import Derived.Test.YtgeahfkhfpdlhaaReplyA
import Derived.Test.YtgeahfkhfpdlhaaPduRight
import Derived.Deep.RegionHeld
namespace Go.Proofs.Ytgeahfkhfpdlhaa
open Go.RowKit

/-- May that be answered, to a request that is right or not? -/
def ansB (rq r b : Bool) (qt code : Int) (ys : List Int) : Bool :=
  rq && (if code ≠ 0 then excB code && (ys.length == 0) else ((ys.length : Int) == (if r then qt else 0)) && valuesB b ys)

set_option maxRecDepth 100000 in
set_option maxHeartbeats 3200000 in
theorem right05_no (fc ad qt to code : Int) (A A2 : Option Addr) (n c n2 c2 : Nat) (r b : Bool) (xs ys : List Int) (w : World) (hx : RdI w w.heap.size .u16 A n xs) (hy : RdI w w.heap.size .u16 A2 n2 ys) (hn : n ≤ maxLen)
    (h : rightB' fc ad qt to xs = false ∨ rightB' fc ad qt to xs = true ∧ code ≠ 0) :
    Calls Try.prog 96 #[.agg #[.int .i64 fc, .int .i64 ad, .int .i64 qt, .slice A n c, .int .i64 to, .bool r, .bool b, .int .i64 code, .slice A2 n2 c2]] w fun e w' => e = .returned (.bool (ansB (rightB' fc ad qt to xs) r b qt code ys)) ∧ Ext w w' := by
  have bx := fun w' (D : Ext (w.alloc (.cells #[.int .i64 fc, .int .i64 ad, .int .i64 qt, .slice A n c, .int .i64 to, .bool r, .bool b, .int .i64 code, .slice A2 n2 c2] 140)) w') => cellsAt ((D.block w.heap.size (by simp)).trans (heap_alloc_new w _))
  have bx' := Lib.hid bx
  have E0 := (Ext.refl w).goA (.cells #[.int .i64 fc, .int .i64 ad, .int .i64 qt, .slice A n c, .int .i64 to, .bool r, .bool b, .int .i64 code, .slice A2 n2 c2] 140)
  have hx' := Lib.hid hx
  have hly := Lib.hid hy.len
  clear bx hx hy
  rcases h with h | ⟨h, h2⟩
  · have hL : ansB (rightB' fc ad qt to xs) r b qt code ys = false := by unfold ansB; rw [h]; rfl
    rw [hL]
    clear hL
    have h' := Lib.hid h
    clear h
    go_enter Try.func96, Try.ntmps96
    go_wp2_with fail
    refine (pduRight_any fc ad qt to A n c xs _ (hx'.out.ext E0) hn).mono ?_
    rw [h'.out]
    rintro e w1 ⟨rfl, D1⟩
    go_wp2_with fail
    go_ret
    exact ⟨rfl, E0.go D1⟩
  · have hL : ansB (rightB' fc ad qt to xs) r b qt code ys = (excB code && ((n2 : Int) == 0)) := by
      have e : ((n2 : Int) == 0) = (n2 == 0) := by cases n2 <;> rfl
      unfold ansB; rw [h, if_pos h2, hly.out, Bool.true_and, e]
    rw [hL]
    clear hL
    have t1 : (code != 0) = true := by simp; exact h2
    have t2 : (code == 0) = false := by simp; exact h2
    have h' := Lib.hid h
    clear h h2
    cases t3 : excB code
    all_goals
      go_enter Try.func96, Try.ntmps96
      go_wp2_with fail
      refine (pduRight_any fc ad qt to A n c xs _ (hx'.out.ext E0) hn).mono ?_
      rw [h'.out]
      rintro e w1 ⟨rfl, D1⟩
      have b1 := bx'.out w1 D1
      go_wp2_with fail
      refine (exception_any code w1).mono ?_
      rw [t3]
      rintro e w2 ⟨rfl, rfl⟩
      go_wp2_with fail
      go_ret
      exact ⟨rfl, E0.go D1⟩
set_option maxRecDepth 100000 in
set_option maxHeartbeats 3200000 in
theorem right05_ok (fc ad qt to : Int) (A A2 : Option Addr) (n c n2 c2 : Nat) (r b : Bool) (xs ys : List Int) (w : World) (hx : RdI w w.heap.size .u16 A n xs) (hy : RdI w w.heap.size .u16 A2 n2 ys) (hn : n ≤ maxLen) (hn2 : n2 ≤ maxLen)
    (h : rightB' fc ad qt to xs = true) :
    Calls Try.prog 96 #[.agg #[.int .i64 fc, .int .i64 ad, .int .i64 qt, .slice A n c, .int .i64 to, .bool r, .bool b, .int .i64 0, .slice A2 n2 c2]] w fun e w' => e = .returned (.bool (((n2 : Int) == (if r then qt else 0)) && valuesB b ys)) ∧ Ext w w' := by
  unfold maxLen at hn2
  have bx := fun w' (D : Ext (w.alloc (.cells #[.int .i64 fc, .int .i64 ad, .int .i64 qt, .slice A n c, .int .i64 to, .bool r, .bool b, .int .i64 0, .slice A2 n2 c2] 140)) w') => cellsAt ((D.block w.heap.size (by simp)).trans (heap_alloc_new w _))
  have bx' := Lib.hid bx
  have E0 := (Ext.refl w).goA (.cells #[.int .i64 fc, .int .i64 ad, .int .i64 qt, .slice A n c, .int .i64 to, .bool r, .bool b, .int .i64 0, .slice A2 n2 c2] 140)
  have hx' := Lib.hid hx
  have hy' := Lib.hid hy
  have hl := Lib.hid hy.len
  have h' := Lib.hid h
  clear bx hx hy h
  generalize hM : (if r = true then qt else 0) = M
  have hM' := Lib.hid hM
  clear hM
  cases t1 : ((n2 : Int) == M)
  all_goals
    have t2 : ((n2 : Int) != M) = !((n2 : Int) == M) := rfl
    rw [t1] at t2
    go_enter Try.func96, Try.ntmps96
    go_wp2_with fail
    refine (pduRight_any fc ad qt to A n c xs _ (hx'.out.ext E0) hn).mono ?_
    rw [h'.out]
    rintro e w1 ⟨rfl, D1⟩
    have b1 := fun w' (D : Ext w1 w') => bx'.out w' (D1.go D)
    have b1' := Lib.hid b1
    have b2 := b1 w1 (Ext.refl w1)
    have d0 : Ext w1 w1.drew := (Ext.refl _).god
    have hy1 := Lib.hid (hy'.out.ext (E0.go D1))
    clear b1
    go_wp2_with fail
    have b1 := b1'.out
    clear b2
    refine wp_region_held_drew (S := fun w' => Ext w1 w') (by kernel_rfl) d0 (fun hHeld => ?_)
    refine wpAnyH_take (i := 0) (oi := _) (v := ?_) rfl (by kernel_rfl) (by kernel_rfl) (by kernel_rfl) (fun _ _ _ h => h) (Or.inl ⟨by rfl, ?_⟩) (by assumption) ?_
    rotate_left
    · intro w hSw
      (try dsimp only at hSw)
      go_simp
      try (with_reducible rfl)
    try simp only [Act.put, List.getElem_toArray, List.getElem_cons_zero, List.setIfInBounds_toArray, List.set_cons_zero, List.set_cons_succ]
    refine wpAnyH_take (i := 1) (oi := _) (v := ?_) rfl (by kernel_rfl) (by kernel_rfl) (by kernel_rfl) (fun _ _ _ h => h) (Or.inl ⟨by rfl, ?_⟩) (by assumption) ?_
    rotate_left
    · intro w hSw
      (try dsimp only at hSw)
      go_simp
      try (with_reducible rfl)
    try simp only [Act.put, List.getElem_toArray, List.getElem_cons_succ, List.getElem_cons_zero, List.setIfInBounds_toArray, List.set_cons_zero, List.set_cons_succ]
    refine wpAnyH_take (i := 2) (oi := _) (v := ?_) rfl (by kernel_rfl) (by kernel_rfl) (by kernel_rfl) (fun _ _ _ h => h) (Or.inl ⟨by rfl, ?_⟩) (by assumption) ?_
    rotate_left
    · intro w hSw
      (try dsimp only at hSw)
      go_simp
      try (with_reducible rfl)
    try simp only [Act.put, List.getElem_toArray, List.getElem_cons_succ, List.getElem_cons_zero, List.setIfInBounds_toArray, List.set_cons_zero, List.set_cons_succ]
    refine wpAnyH_take (i := 3) (oi := _) (v := ?_) rfl (by kernel_rfl) (by kernel_rfl) (by kernel_rfl) (fun _ _ _ h => h) (Or.inl ⟨by rfl, ?_⟩) (by assumption) ?_
    rotate_left
    · intro w hSw
      (try dsimp only at hSw)
      go_simp
      try (with_reducible rfl)
    try simp only [Act.put, List.getElem_toArray, List.getElem_cons_succ, List.getElem_cons_zero, List.setIfInBounds_toArray, List.set_cons_zero, List.set_cons_succ]
    refine wpAnyH_take (i := 4) (oi := _) (v := ?_) rfl (by kernel_rfl) (by kernel_rfl) (by kernel_rfl) (fun _ _ _ h => h) (Or.inl ⟨by rfl, ?_⟩) (by assumption) ?_
    rotate_left
    · intro w hSw
      (try dsimp only at hSw)
      go_simp
      try (with_reducible rfl)
    try simp only [Act.put, List.getElem_toArray, List.getElem_cons_succ, List.getElem_cons_zero, List.setIfInBounds_toArray, List.set_cons_zero, List.set_cons_succ]
    refine wpAnyH_take (i := 5) (oi := _) (v := ?_) rfl (by kernel_rfl) (by kernel_rfl) (by kernel_rfl) (fun _ _ _ h => h) (Or.inl ⟨by rfl, ?_⟩) (by assumption) ?_
    rotate_left
    · intro w hSw
      (try dsimp only at hSw)
      go_simp
      try (with_reducible rfl)
    try simp only [Act.put, List.getElem_toArray, List.getElem_cons_succ, List.getElem_cons_zero, List.setIfInBounds_toArray, List.set_cons_zero, List.set_cons_succ]
    refine wpAnyH_ready (rs := [6]) (by kernel_rfl) (by simp) ?_
    refine AllReadyH.cons rfl (fun K hK => ?_) ?_
    rotate_left
    · exact AllReadyH.nil
    go_simp
    go_at_call 116
    refine (many_any fc ad qt to A n c r b _).mono ?_
    rw [hM'.out]
    rintro e w2 ⟨rfl, d2⟩
    have d2' := d0.go d2
    try dsimp only
    refine hK.out _ _ ?_ (fun hHeld => ?_)
    · first | assumption | (dsimp only; assumption)
    clear hK K
    try simp only [Act.put, List.getElem_toArray, List.getElem_cons_succ, List.getElem_cons_zero, List.setIfInBounds_toArray, List.set_cons_zero, List.set_cons_succ]
    refine wpAnyH_take (i := 7) (oi := _) (v := ?_) rfl (by kernel_rfl) (by kernel_rfl) (by kernel_rfl) (fun _ _ _ h => h) (Or.inl ⟨by rfl, ?_⟩) (by assumption) ?_
    rotate_left
    · intro w hSw
      (try dsimp only at hSw)
      go_simp
      try (with_reducible rfl)
    try simp only [Act.put, List.getElem_toArray, List.getElem_cons_succ, List.getElem_cons_zero, List.setIfInBounds_toArray, List.set_cons_zero, List.set_cons_succ]
    refine wpAnyH_done (by kernel_rfl) ?_ _
    have b3 := b1 w2 d2'
    have E2 := (E0.go D1).go d2'
    have hy2 := Lib.hid (hy1.out.ext d2')
    clear b1
    go_wp2_with fail
  · go_ret
    exact ⟨rfl, E2⟩
  · cases b
    · go_loop [37] (fun i => ∃ k : Nat, k ≤ n2 ∧ i = .int .i64 k) (fun i => n2 - (intOf i).toNat)
      case atStart => exact ⟨0, by omega, rfl⟩
      case round =>
        obtain ⟨k, hk, rfl⟩ := hrel
        by_cases hlt : k < n2
        · obtain ⟨bb, o, rfl, hb, hc⟩ := hy2.out.at_ hlt
          go_wp2
          go_round
          case rel => exact ⟨k + 1, by omega, by go_num⟩
          case measure => simp [intOf]; omega
        · obtain rfl : k = n2 := by omega
          go_wp2
          go_ret
          exact ⟨rfl, E2⟩
    · go_loop [37] (fun i => ∃ k : Nat, k ≤ n2 ∧ i = .int .i64 k ∧ ∀ j, j < k → ys.getD j 0 ≤ 1) (fun i => n2 - (intOf i).toNat)
      case atStart => exact ⟨0, by omega, rfl, fun j hj => absurd hj (by omega)⟩
      case round =>
        obtain ⟨k, hk, rfl, hz⟩ := hrel
        have hz' := Lib.hid hz
        clear hz
        by_cases hlt : k < n2
        · obtain ⟨bb, o, rfl, hb, hc⟩ := hy2.out.at_ hlt
          by_cases h1 : ys[k]?.getD 0 ≤ 1
          · go_wp2
            go_round
            case rel =>
              refine ⟨k + 1, by omega, by go_num, fun j hj => ?_⟩
              rcases Nat.lt_succ_iff_lt_or_eq.1 hj with h | rfl
              · exact hz'.out j h
              · rw [List.getD_eq_getElem?_getD]; exact h1
            case measure => simp [intOf]; omega
          · have hv : valuesB true ys = false := by
              have hk' : k < ys.length := by rw [hl.out]; exact hlt
              unfold valuesB
              simp only [Bool.not_true, Bool.false_or]
              rw [List.all_eq_false]
              refine ⟨ys[k]'hk', List.getElem_mem _, ?_⟩
              rw [List.getElem?_eq_getElem hk'] at h1
              simpa using h1
            have hv' := Lib.hid hv
            clear hv
            go_wp2
            go_ret
            exact ⟨by rw [hv'.out]; rfl, E2⟩
        · obtain rfl : k = n2 := by omega
          have hv : valuesB true ys = true := by
            unfold valuesB
            simp only [Bool.not_true, Bool.false_or, List.all_eq_true, decide_eq_true_eq]
            intro x hx'
            obtain ⟨j, hj, rfl⟩ := List.getElem_of_mem hx'
            have := hz'.out j (by rw [← hl.out]; exact hj)
            rwa [List.getD_eq_getElem?_getD, List.getElem?_eq_getElem hj] at this
          have hv' := Lib.hid hv
          clear hv
          go_wp2
          go_ret
          exact ⟨by rw [hv'.out]; rfl, E2⟩
theorem right05_any (fc ad qt to code : Int) (A A2 : Option Addr) (n c n2 c2 : Nat) (r b : Bool) (xs ys : List Int) (w : World) (hx : RdI w w.heap.size .u16 A n xs) (hy : RdI w w.heap.size .u16 A2 n2 ys) (hn : n ≤ maxLen) (hn2 : n2 ≤ maxLen) :
    Calls Try.prog 96 #[.agg #[.int .i64 fc, .int .i64 ad, .int .i64 qt, .slice A n c, .int .i64 to, .bool r, .bool b, .int .i64 code, .slice A2 n2 c2]] w fun e w' => e = .returned (.bool (ansB (rightB' fc ad qt to xs) r b qt code ys)) ∧ Ext w w' := by
  cases h : rightB' fc ad qt to xs
  · rw [← h]; exact right05_no fc ad qt to code A A2 n c n2 c2 r b xs ys w hx hy hn (.inl h)
  · by_cases h2 : code = 0
    · subst h2
      have e : ansB true r b qt 0 ys = (((n2 : Int) == (if r then qt else 0)) && valuesB b ys) := by unfold ansB; rw [if_neg (by decide), hy.len, Bool.true_and]
      rw [e]
      exact right05_ok fc ad qt to A A2 n c n2 c2 r b xs ys w hx hy hn hn2 h
    · rw [← h]; exact right05_no fc ad qt to code A A2 n c n2 c2 r b xs ys w hx hy hn (.inr ⟨h, h2⟩)
end Go.Proofs.Ytgeahfkhfpdlhaa
