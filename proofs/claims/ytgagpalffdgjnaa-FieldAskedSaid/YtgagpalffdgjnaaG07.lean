/- Layer 5, the walks: what is asked, an exception's code, how many are read. · Layer 5, the walks: may that be answered? · Layer 5, the walks: the bytes of what was read. · Layer 4, the walks: the bytes of a request. -/
import Derived.Test.YtgagpalffdgjnaaG06
import Derived.Test.YtgagpalffdgjnaaG04
import Derived.Deep.RegionHeld
import Derived.Test.YtgagpalffdgjnaaG03
namespace Go.Proofs.Ytgagpalffdgjnaa
open Go.RowKit

theorem seven_reads {w : World} {i : Nat} {t : TypeId} {a0 a1 a2 a3 a4 a5 a6 : Value} (h : w.heap[i]? = some (.cells #[a0, a1, a2, a3, a4, a5, a6] t (0, 0))) (b0 b1 b2 b3 b4 b5 b6 : Value) :
    (w.setCell ⟨i, 0, none⟩ b0).cell? ⟨i, 0, none⟩ = some b0 ∧ ((w.setCell ⟨i, 0, none⟩ b0).setCell ⟨i, 1, none⟩ b1).cell? ⟨i, 1, none⟩ = some b1 ∧ (((w.setCell ⟨i, 0, none⟩ b0).setCell ⟨i, 1, none⟩ b1).setCell ⟨i, 2, none⟩ b2).cell? ⟨i, 2, none⟩ = some b2 ∧ ((((w.setCell ⟨i, 0, none⟩ b0).setCell ⟨i, 1, none⟩ b1).setCell ⟨i, 2, none⟩ b2).setCell ⟨i, 3, none⟩ b3).cell? ⟨i, 3, none⟩ = some b3 ∧ (((((w.setCell ⟨i, 0, none⟩ b0).setCell ⟨i, 1, none⟩ b1).setCell ⟨i, 2, none⟩ b2).setCell ⟨i, 3, none⟩ b3).setCell ⟨i, 4, none⟩ b4).cell? ⟨i, 4, none⟩ = some b4 ∧ ((((((w.setCell ⟨i, 0, none⟩ b0).setCell ⟨i, 1, none⟩ b1).setCell ⟨i, 2, none⟩ b2).setCell ⟨i, 3, none⟩ b3).setCell ⟨i, 4, none⟩ b4).setCell ⟨i, 5, none⟩ b5).cell? ⟨i, 5, none⟩ = some b5 ∧ (((((((w.setCell ⟨i, 0, none⟩ b0).setCell ⟨i, 1, none⟩ b1).setCell ⟨i, 2, none⟩ b2).setCell ⟨i, 3, none⟩ b3).setCell ⟨i, 4, none⟩ b4).setCell ⟨i, 5, none⟩ b5).setCell ⟨i, 6, none⟩ b6).cell? ⟨i, 6, none⟩ = some b6 := by
  have h0 : (w.setCell ⟨i, 0, none⟩ b0).heap[i]? = some (.cells #[b0, a1, a2, a3, a4, a5, a6] t (0, 0)) := set_block h 0 b0
  have h1 : ((w.setCell ⟨i, 0, none⟩ b0).setCell ⟨i, 1, none⟩ b1).heap[i]? = some (.cells #[b0, b1, a2, a3, a4, a5, a6] t (0, 0)) := set_block h0 1 b1
  have h2 : (((w.setCell ⟨i, 0, none⟩ b0).setCell ⟨i, 1, none⟩ b1).setCell ⟨i, 2, none⟩ b2).heap[i]? = some (.cells #[b0, b1, b2, a3, a4, a5, a6] t (0, 0)) := set_block h1 2 b2
  have h3 : ((((w.setCell ⟨i, 0, none⟩ b0).setCell ⟨i, 1, none⟩ b1).setCell ⟨i, 2, none⟩ b2).setCell ⟨i, 3, none⟩ b3).heap[i]? = some (.cells #[b0, b1, b2, b3, a4, a5, a6] t (0, 0)) := set_block h2 3 b3
  have h4 : (((((w.setCell ⟨i, 0, none⟩ b0).setCell ⟨i, 1, none⟩ b1).setCell ⟨i, 2, none⟩ b2).setCell ⟨i, 3, none⟩ b3).setCell ⟨i, 4, none⟩ b4).heap[i]? = some (.cells #[b0, b1, b2, b3, b4, a5, a6] t (0, 0)) := set_block h3 4 b4
  have h5 : ((((((w.setCell ⟨i, 0, none⟩ b0).setCell ⟨i, 1, none⟩ b1).setCell ⟨i, 2, none⟩ b2).setCell ⟨i, 3, none⟩ b3).setCell ⟨i, 4, none⟩ b4).setCell ⟨i, 5, none⟩ b5).heap[i]? = some (.cells #[b0, b1, b2, b3, b4, b5, a6] t (0, 0)) := set_block h4 5 b5
  have h6 : (((((((w.setCell ⟨i, 0, none⟩ b0).setCell ⟨i, 1, none⟩ b1).setCell ⟨i, 2, none⟩ b2).setCell ⟨i, 3, none⟩ b3).setCell ⟨i, 4, none⟩ b4).setCell ⟨i, 5, none⟩ b5).setCell ⟨i, 6, none⟩ b6).heap[i]? = some (.cells #[b0, b1, b2, b3, b4, b5, b6] t (0, 0)) := set_block h5 6 b6
  exact ⟨cellsAt h0 0, cellsAt h1 1, cellsAt h2 2, cellsAt h3 3, cellsAt h4 4, cellsAt h5 5, cellsAt h6 6⟩
theorem Ext.seven {v w : World} {i : Nat} (E : Ext v w) (hi : v.heap.size ≤ i) (b0 b1 b2 b3 b4 b5 b6 : Value) : Ext v (((((((w.setCell ⟨i, 0, none⟩ b0).setCell ⟨i, 1, none⟩ b1).setCell ⟨i, 2, none⟩ b2).setCell ⟨i, 3, none⟩ b3).setCell ⟨i, 4, none⟩ b4).setCell ⟨i, 5, none⟩ b5).setCell ⟨i, 6, none⟩ b6) := by
  have e : ∀ {u : World} (o : Nat) (x : Value), Ext v u → Ext v (u.setCell ⟨i, o, none⟩ x) := fun o x E => E.goS (p := ⟨i, o, none⟩) hi x
  exact e 6 _ (e 5 _ (e 4 _ (e 3 _ (e 2 _ (e 1 _ (e 0 _ E))))))

set_option maxRecDepth 100000 in
set_option maxHeartbeats 1600000 in
theorem of_any (fc ad qt to : Int) (A : Option Addr) (n c : Nat) (w : World) :
    Calls Try.prog 79 #[.agg #[.int .i64 fc, .int .i64 ad, .int .i64 qt, .slice A n c, .int .i64 to]] w fun e w' => e = .returned (.agg #[.int .i64 fc, .int .i64 ad, .int .i64 qt, .slice A n c, .int .i64 to, .bool (readsB fc), .bool (readsBits fc)]) ∧ Ext w w' := by
  have E1 := (Ext.refl w).goA (.cells #[.int .i64 fc, .int .i64 ad, .int .i64 qt, .slice A n c, .int .i64 to] 30)
  have F1 := Ext.refl (w.alloc (.cells #[.int .i64 fc, .int .i64 ad, .int .i64 qt, .slice A n c, .int .i64 to] 30))
  go_enter Try.func79, Try.ntmps79
  go_wp2_with fail
  refine (reads_any fc _).mono ?_
  rintro e w1 ⟨rfl, D1⟩
  have b1 := cellsAt (((F1.goA (.cells #[.int .i64 0, .int .i64 0, .int .i64 0, .slice none 0 0, .int .i64 0, .bool false, .bool false] 167)).go D1).block w.heap.size (by simp) |>.trans (heap_alloc_new w _))
  have R1 := (D1.block (w.heap.size + 1) (by simp)).trans (show ((w.alloc (.cells #[.int .i64 fc, .int .i64 ad, .int .i64 qt, .slice A n c, .int .i64 to] 30)).alloc (.cells #[.int .i64 0, .int .i64 0, .int .i64 0, .slice none 0 0, .int .i64 0, .bool false, .bool false] 167)).heap[w.heap.size + 1]? = _ by rw [alloc_get, if_pos (by simp)])
  have f1 := frozen_block R1
  have c1 := cellsAt R1
  have R1' := Lib.hid R1
  clear R1
  go_wp2_with fail
  obtain ⟨z0, z1, z2, z3, z4, z5, z6⟩ := seven_reads R1'.out (.int .i64 fc) (.int .i64 ad) (.int .i64 qt) (.slice A n c) (.int .i64 to) (.bool (readsB fc)) (.bool (readsBits fc))
  refine bodyPost_ret (v := .agg #[.int .i64 fc, .int .i64 ad, .int .i64 qt, .slice A n c, .int .i64 to, .bool (readsB fc), .bool (readsBits fc)]) (by simp [results, Try.results79, go_sem, z0, z1, z2, z3, z4, z5, z6]) rfl ?_
  exact ⟨rfl, ((E1.goA _).go D1).seven (by simp) _ _ _ _ _ _ _⟩
def excB (code : Int) : Bool := decide (1 ≤ code) && decide (code ≤ 4)
set_option maxRecDepth 100000 in
set_option maxHeartbeats 800000 in
theorem exception_any (code : Int) (w : World) : Calls Try.prog 111 #[.int .i64 code] w fun e w' => e = .returned (.bool (excB code)) ∧ w = w' := by
  unfold excB
  cases h1 : decide (1 ≤ code)
  · go_enter Try.func111, Try.ntmps111
    go_wp2_with fail
    go_ret
    exact ⟨rfl, rfl⟩
  · go_enter Try.func111, Try.ntmps111
    go_wp2_with fail
    go_ret
    exact ⟨rfl, rfl⟩
set_option maxRecDepth 100000 in
set_option maxHeartbeats 800000 in
theorem many_any (fc ad qt to : Int) (A : Option Addr) (n c : Nat) (r b : Bool) (w : World) :
    Calls Try.prog 112 #[.agg #[.int .i64 fc, .int .i64 ad, .int .i64 qt, .slice A n c, .int .i64 to, .bool r, .bool b]] w fun e w' => e = .returned (.int .i64 (if r then qt else 0)) ∧ Ext w w' := by
  have E1 := (Ext.refl w).goA (.cells #[.int .i64 fc, .int .i64 ad, .int .i64 qt, .slice A n c, .int .i64 to, .bool r, .bool b] 167)
  cases r
  · go_enter Try.func112, Try.ntmps112
    go_wp2_with fail
    go_ret
    exact ⟨rfl, E1⟩
  · go_enter Try.func112, Try.ntmps112
    go_wp2_with fail
    go_ret
    exact ⟨rfl, E1⟩
end Go.Proofs.Ytgagpalffdgjnaa
namespace Go.Proofs.Ytgagpalffdgjnaa
open Go.RowKit

/-- May that be answered, to a request that is right or not? -/
def ansB (rq r b : Bool) (qt code : Int) (ys : List Int) : Bool :=
  rq && (if code ≠ 0 then excB code && (ys.length == 0) else ((ys.length : Int) == (if r then qt else 0)) && valuesB b ys)

set_option maxRecDepth 100000 in
set_option maxHeartbeats 3200000 in
theorem right05_no (fc ad qt to code : Int) (A A2 : Option Addr) (n c n2 c2 : Nat) (r b : Bool) (xs ys : List Int) (w : World) (hx : RdI w w.heap.size .u16 A n xs) (hy : RdI w w.heap.size .u16 A2 n2 ys) (hn : n ≤ maxLen)
    (h : rightB' fc ad qt to xs = false ∨ rightB' fc ad qt to xs = true ∧ code ≠ 0) :
    Calls Try.prog 81 #[.agg #[.int .i64 fc, .int .i64 ad, .int .i64 qt, .slice A n c, .int .i64 to, .bool r, .bool b, .int .i64 code, .slice A2 n2 c2]] w fun e w' => e = .returned (.bool (ansB (rightB' fc ad qt to xs) r b qt code ys)) ∧ Ext w w' := by
  have bx := fun w' (D : Ext (w.alloc (.cells #[.int .i64 fc, .int .i64 ad, .int .i64 qt, .slice A n c, .int .i64 to, .bool r, .bool b, .int .i64 code, .slice A2 n2 c2] 170)) w') => cellsAt ((D.block w.heap.size (by simp)).trans (heap_alloc_new w _))
  have bx' := Lib.hid bx
  have E0 := (Ext.refl w).goA (.cells #[.int .i64 fc, .int .i64 ad, .int .i64 qt, .slice A n c, .int .i64 to, .bool r, .bool b, .int .i64 code, .slice A2 n2 c2] 170)
  have hx' := Lib.hid hx
  have hly := Lib.hid hy.len
  clear bx hx hy
  rcases h with h | ⟨h, h2⟩
  · have hL : ansB (rightB' fc ad qt to xs) r b qt code ys = false := by unfold ansB; rw [h]; rfl
    rw [hL]
    clear hL
    have h' := Lib.hid h
    clear h
    go_enter Try.func81, Try.ntmps81
    go_wp2_with fail
    refine (pduRight_any fc ad qt to A n c xs _ (hx'.out.ext E0) hn).mono ?_
    rw [h'.out]
    rintro e w1 ⟨rfl, D1⟩
    go_wp2_with fail
    go_ret
    exact ⟨rfl, E0.go D1⟩
  · have hL : ansB (rightB' fc ad qt to xs) r b qt code ys = (excB code && ((n2 : Int) == 0)) := by
      have e : ((n2 : Int) == 0) = (n2 == 0) := by cases n2 <;> rfl
      unfold ansB; rw [h, if_pos h2, hly.out, Bool.true_and, e]
    rw [hL]
    clear hL
    have t1 : (code != 0) = true := by simp; exact h2
    have t2 : (code == 0) = false := by simp; exact h2
    have h' := Lib.hid h
    clear h h2
    cases t3 : excB code
    all_goals
      go_enter Try.func81, Try.ntmps81
      go_wp2_with fail
      refine (pduRight_any fc ad qt to A n c xs _ (hx'.out.ext E0) hn).mono ?_
      rw [h'.out]
      rintro e w1 ⟨rfl, D1⟩
      have b1 := bx'.out w1 D1
      go_wp2_with fail
      refine (exception_any code w1).mono ?_
      rw [t3]
      rintro e w2 ⟨rfl, rfl⟩
      go_wp2_with fail
      go_ret
      exact ⟨rfl, E0.go D1⟩
set_option maxRecDepth 100000 in
set_option maxHeartbeats 3200000 in
theorem right05_ok (fc ad qt to : Int) (A A2 : Option Addr) (n c n2 c2 : Nat) (r b : Bool) (xs ys : List Int) (w : World) (hx : RdI w w.heap.size .u16 A n xs) (hy : RdI w w.heap.size .u16 A2 n2 ys) (hn : n ≤ maxLen) (hn2 : n2 ≤ maxLen)
    (h : rightB' fc ad qt to xs = true) :
    Calls Try.prog 81 #[.agg #[.int .i64 fc, .int .i64 ad, .int .i64 qt, .slice A n c, .int .i64 to, .bool r, .bool b, .int .i64 0, .slice A2 n2 c2]] w fun e w' => e = .returned (.bool (((n2 : Int) == (if r then qt else 0)) && valuesB b ys)) ∧ Ext w w' := by
  unfold maxLen at hn2
  have bx := fun w' (D : Ext (w.alloc (.cells #[.int .i64 fc, .int .i64 ad, .int .i64 qt, .slice A n c, .int .i64 to, .bool r, .bool b, .int .i64 0, .slice A2 n2 c2] 170)) w') => cellsAt ((D.block w.heap.size (by simp)).trans (heap_alloc_new w _))
  have bx' := Lib.hid bx
  have E0 := (Ext.refl w).goA (.cells #[.int .i64 fc, .int .i64 ad, .int .i64 qt, .slice A n c, .int .i64 to, .bool r, .bool b, .int .i64 0, .slice A2 n2 c2] 170)
  have hx' := Lib.hid hx
  have hy' := Lib.hid hy
  have hl := Lib.hid hy.len
  have h' := Lib.hid h
  clear bx hx hy h
  generalize hM : (if r = true then qt else 0) = M
  have hM' := Lib.hid hM
  clear hM
  cases t1 : ((n2 : Int) == M)
  all_goals
    have t2 : ((n2 : Int) != M) = !((n2 : Int) == M) := rfl
    rw [t1] at t2
    go_enter Try.func81, Try.ntmps81
    go_wp2_with fail
    refine (pduRight_any fc ad qt to A n c xs _ (hx'.out.ext E0) hn).mono ?_
    rw [h'.out]
    rintro e w1 ⟨rfl, D1⟩
    have b1 := fun w' (D : Ext w1 w') => bx'.out w' (D1.go D)
    have b1' := Lib.hid b1
    have b2 := b1 w1 (Ext.refl w1)
    have d0 : Ext w1 w1.drew := (Ext.refl _).god
    have hy1 := Lib.hid (hy'.out.ext (E0.go D1))
    clear b1
    go_wp2_with fail
    have b1 := b1'.out
    clear b2
    refine wp_region_held_drew (S := fun w' => Ext w1 w') (by kernel_rfl) d0 (fun hHeld => ?_)
    refine wpAnyH_take (i := 0) (oi := _) (v := ?_) rfl (by kernel_rfl) (by kernel_rfl) (by kernel_rfl) (fun _ _ _ h => h) (Or.inl ⟨by rfl, ?_⟩) (by assumption) ?_
    rotate_left
    · intro w hSw
      (try dsimp only at hSw)
      go_simp
      try (with_reducible rfl)
    try simp only [Act.put, List.getElem_toArray, List.getElem_cons_zero, List.setIfInBounds_toArray, List.set_cons_zero, List.set_cons_succ]
    refine wpAnyH_take (i := 1) (oi := _) (v := ?_) rfl (by kernel_rfl) (by kernel_rfl) (by kernel_rfl) (fun _ _ _ h => h) (Or.inl ⟨by rfl, ?_⟩) (by assumption) ?_
    rotate_left
    · intro w hSw
      (try dsimp only at hSw)
      go_simp
      try (with_reducible rfl)
    try simp only [Act.put, List.getElem_toArray, List.getElem_cons_succ, List.getElem_cons_zero, List.setIfInBounds_toArray, List.set_cons_zero, List.set_cons_succ]
    refine wpAnyH_take (i := 2) (oi := _) (v := ?_) rfl (by kernel_rfl) (by kernel_rfl) (by kernel_rfl) (fun _ _ _ h => h) (Or.inl ⟨by rfl, ?_⟩) (by assumption) ?_
    rotate_left
    · intro w hSw
      (try dsimp only at hSw)
      go_simp
      try (with_reducible rfl)
    try simp only [Act.put, List.getElem_toArray, List.getElem_cons_succ, List.getElem_cons_zero, List.setIfInBounds_toArray, List.set_cons_zero, List.set_cons_succ]
    refine wpAnyH_take (i := 3) (oi := _) (v := ?_) rfl (by kernel_rfl) (by kernel_rfl) (by kernel_rfl) (fun _ _ _ h => h) (Or.inl ⟨by rfl, ?_⟩) (by assumption) ?_
    rotate_left
    · intro w hSw
      (try dsimp only at hSw)
      go_simp
      try (with_reducible rfl)
    try simp only [Act.put, List.getElem_toArray, List.getElem_cons_succ, List.getElem_cons_zero, List.setIfInBounds_toArray, List.set_cons_zero, List.set_cons_succ]
    refine wpAnyH_take (i := 4) (oi := _) (v := ?_) rfl (by kernel_rfl) (by kernel_rfl) (by kernel_rfl) (fun _ _ _ h => h) (Or.inl ⟨by rfl, ?_⟩) (by assumption) ?_
    rotate_left
    · intro w hSw
      (try dsimp only at hSw)
      go_simp
      try (with_reducible rfl)
    try simp only [Act.put, List.getElem_toArray, List.getElem_cons_succ, List.getElem_cons_zero, List.setIfInBounds_toArray, List.set_cons_zero, List.set_cons_succ]
    refine wpAnyH_take (i := 5) (oi := _) (v := ?_) rfl (by kernel_rfl) (by kernel_rfl) (by kernel_rfl) (fun _ _ _ h => h) (Or.inl ⟨by rfl, ?_⟩) (by assumption) ?_
    rotate_left
    · intro w hSw
      (try dsimp only at hSw)
      go_simp
      try (with_reducible rfl)
    try simp only [Act.put, List.getElem_toArray, List.getElem_cons_succ, List.getElem_cons_zero, List.setIfInBounds_toArray, List.set_cons_zero, List.set_cons_succ]
    refine wpAnyH_ready (rs := [6]) (by kernel_rfl) (by simp) ?_
    refine AllReadyH.cons rfl (fun K hK => ?_) ?_
    rotate_left
    · exact AllReadyH.nil
    go_simp
    go_at_call 112
    refine (many_any fc ad qt to A n c r b _).mono ?_
    rw [hM'.out]
    rintro e w2 ⟨rfl, d2⟩
    have d2' := d0.go d2
    try dsimp only
    refine hK.out _ _ ?_ (fun hHeld => ?_)
    · first | assumption | (dsimp only; assumption)
    clear hK K
    try simp only [Act.put, List.getElem_toArray, List.getElem_cons_succ, List.getElem_cons_zero, List.setIfInBounds_toArray, List.set_cons_zero, List.set_cons_succ]
    refine wpAnyH_take (i := 7) (oi := _) (v := ?_) rfl (by kernel_rfl) (by kernel_rfl) (by kernel_rfl) (fun _ _ _ h => h) (Or.inl ⟨by rfl, ?_⟩) (by assumption) ?_
    rotate_left
    · intro w hSw
      (try dsimp only at hSw)
      go_simp
      try (with_reducible rfl)
    try simp only [Act.put, List.getElem_toArray, List.getElem_cons_succ, List.getElem_cons_zero, List.setIfInBounds_toArray, List.set_cons_zero, List.set_cons_succ]
    refine wpAnyH_done (by kernel_rfl) ?_ _
    have b3 := b1 w2 d2'
    have E2 := (E0.go D1).go d2'
    have hy2 := Lib.hid (hy1.out.ext d2')
    clear b1
    go_wp2_with fail
  · go_ret
    exact ⟨rfl, E2⟩
  · cases b
    · go_loop [37] (fun i => ∃ k : Nat, k ≤ n2 ∧ i = .int .i64 k) (fun i => n2 - (intOf i).toNat)
      case atStart => exact ⟨0, by omega, rfl⟩
      case round =>
        obtain ⟨k, hk, rfl⟩ := hrel
        by_cases hlt : k < n2
        · obtain ⟨bb, o, rfl, hb, hc⟩ := hy2.out.at_ hlt
          go_wp2
          go_round
          case rel => exact ⟨k + 1, by omega, by go_num⟩
          case measure => simp [intOf]; omega
        · obtain rfl : k = n2 := by omega
          go_wp2
          go_ret
          exact ⟨rfl, E2⟩
    · go_loop [37] (fun i => ∃ k : Nat, k ≤ n2 ∧ i = .int .i64 k ∧ ∀ j, j < k → ys.getD j 0 ≤ 1) (fun i => n2 - (intOf i).toNat)
      case atStart => exact ⟨0, by omega, rfl, fun j hj => absurd hj (by omega)⟩
      case round =>
        obtain ⟨k, hk, rfl, hz⟩ := hrel
        have hz' := Lib.hid hz
        clear hz
        by_cases hlt : k < n2
        · obtain ⟨bb, o, rfl, hb, hc⟩ := hy2.out.at_ hlt
          by_cases h1 : ys[k]?.getD 0 ≤ 1
          · go_wp2
            go_round
            case rel =>
              refine ⟨k + 1, by omega, by go_num, fun j hj => ?_⟩
              rcases Nat.lt_succ_iff_lt_or_eq.1 hj with h | rfl
              · exact hz'.out j h
              · rw [List.getD_eq_getElem?_getD]; exact h1
            case measure => simp [intOf]; omega
          · have hv : valuesB true ys = false := by
              have hk' : k < ys.length := by rw [hl.out]; exact hlt
              unfold valuesB
              simp only [Bool.not_true, Bool.false_or]
              rw [List.all_eq_false]
              refine ⟨ys[k]'hk', List.getElem_mem _, ?_⟩
              rw [List.getElem?_eq_getElem hk'] at h1
              simpa using h1
            have hv' := Lib.hid hv
            clear hv
            go_wp2
            go_ret
            exact ⟨by rw [hv'.out]; rfl, E2⟩
        · obtain rfl : k = n2 := by omega
          have hv : valuesB true ys = true := by
            unfold valuesB
            simp only [Bool.not_true, Bool.false_or, List.all_eq_true, decide_eq_true_eq]
            intro x hx'
            obtain ⟨j, hj, rfl⟩ := List.getElem_of_mem hx'
            have := hz'.out j (by rw [← hl.out]; exact hj)
            rwa [List.getD_eq_getElem?_getD, List.getElem?_eq_getElem hj] at this
          have hv' := Lib.hid hv
          clear hv
          go_wp2
          go_ret
          exact ⟨by rw [hv'.out]; rfl, E2⟩
theorem right05_any (fc ad qt to code : Int) (A A2 : Option Addr) (n c n2 c2 : Nat) (r b : Bool) (xs ys : List Int) (w : World) (hx : RdI w w.heap.size .u16 A n xs) (hy : RdI w w.heap.size .u16 A2 n2 ys) (hn : n ≤ maxLen) (hn2 : n2 ≤ maxLen) :
    Calls Try.prog 81 #[.agg #[.int .i64 fc, .int .i64 ad, .int .i64 qt, .slice A n c, .int .i64 to, .bool r, .bool b, .int .i64 code, .slice A2 n2 c2]] w fun e w' => e = .returned (.bool (ansB (rightB' fc ad qt to xs) r b qt code ys)) ∧ Ext w w' := by
  cases h : rightB' fc ad qt to xs
  · rw [← h]; exact right05_no fc ad qt to code A A2 n c n2 c2 r b xs ys w hx hy hn (.inl h)
  · by_cases h2 : code = 0
    · subst h2
      have e : ansB true r b qt 0 ys = (((n2 : Int) == (if r then qt else 0)) && valuesB b ys) := by unfold ansB; rw [if_neg (by decide), hy.len, Bool.true_and]
      rw [e]
      exact right05_ok fc ad qt to A A2 n c n2 c2 r b xs ys w hx hy hn hn2 h
    · rw [← h]; exact right05_no fc ad qt to code A A2 n c n2 c2 r b xs ys w hx hy hn (.inr ⟨h, h2⟩)
end Go.Proofs.Ytgagpalffdgjnaa
namespace Go.Proofs.Ytgagpalffdgjnaa
open Go.RowKit

theorem run_mk0 {P : Program} {t e : TypeId} {k : IntKind} {by_ : Nat} (ht : P.underlying t = some (.slice e)) (hi : (P.info? e).map (fun i => (i.zero, i.size, i.bytes)) = some (some (.int k 0), 1, by_))
    (z : Int) (n : Nat) (hz : z = n) (hb : n * by_ ≤ 281474976710656) (hn : n ≤ 9223372036854775807) (w : World) :
    (Instr.makeSlice t (.int .i64 0) (.int .i64 z)).run P w = .ok (.slice (some ⟨w.heap.size, 0, none⟩) 0 n) (w.alloc (.cells (row k (zs n)) e)) := by
  obtain ⟨i, h1, h2, h3, h4⟩ := info_parts hi
  have hh : (i.bytes : Int) * (n : Int) ≤ 281474976710656 := by
    rw [h4]
    have : ((n * by_ : Nat) : Int) ≤ 281474976710656 := by omega
    rwa [Int.natCast_mul, Int.mul_comm] at this
  subst hz
  have := run_make (P := P) w t e i _ ht h1 h2 .i64 .i64 0 (n : Int) (by omega) (by omega) hh (by omega)
  rw [h3] at this
  simpa only [Int.toNat_natCast, Int.toNat_zero, Nat.mul_one, madeCells_int] using this
theorem own_cap {w : World} {base g n : Nat} {e : TypeId} {k : IntKind} {xs : List Int} (h : Blk w g e k xs) (hb : base ≤ g) (hn : xs.length = n) (hm : n ≤ 9223372036854775807) : w.ownsRow base e 1 (.slice (some ⟨g, 0, none⟩) 0 n) 0 (([] : List Int).map (Value.int k)) := by
  subst hn
  exact ⟨by simp, .inr ⟨g, xs.length, row k xs, rfl, hb, h, Nat.zero_le _, by unfold maxLen; omega, by rw [row_size]; omega, by simp⟩⟩
/-- The bytes of what was read. -/
def bodyL (b : Bool) (ys : List Int) : List Int := if b then bitsL ys else wordsL ys

set_option maxRecDepth 100000 in
set_option maxHeartbeats 3200000 in
theorem body_any (fc ad qt to code : Int) (A A2 : Option Addr) (n c n2 c2 : Nat) (r b : Bool) (ys : List Int) (w : World) (hy : RdI w w.heap.size .u16 A2 n2 ys) (hyr : ∀ j : Nat, 0 ≤ ys[j]?.getD 0 ∧ ys[j]?.getD 0 ≤ 65535) (hn2 : n2 ≤ 3000) :
    Calls Try.prog 113 #[.agg #[.int .i64 fc, .int .i64 ad, .int .i64 qt, .slice A n c, .int .i64 to, .bool r, .bool b, .int .i64 code, .slice A2 n2 c2]] w (RetI .u8 (bodyL b ys) w) := by
  have E0 := (Ext.refl w).goA (.cells #[.int .i64 fc, .int .i64 ad, .int .i64 qt, .slice A n c, .int .i64 to, .bool r, .bool b, .int .i64 code, .slice A2 n2 c2] 170)
  have hl := Lib.hid hy.len
  have hy' := Lib.hid hy
  clear hy
  cases b
  · have hmk := fun w => run_mk0 Try.underlying34 info_u8 (2 * (n2 : Int)) (2 * n2) (by omega) (by omega) (by omega) w
    have wm : IntKind.i64.wrap (2 * (n2 : Int)) = 2 * (n2 : Int) := by rw [IntKind.wrap_i64]; omega
    have hyr' := Lib.hid hyr
    clear hyr
    go_enter Try.func113, Try.ntmps113
    go_wp2_with fail
    go_loopw [3, 23] (fun u i wr => ∃ k : Nat, k ≤ n2 ∧ i = .int .i64 k ∧ wr.ownsRow w.heap.size 5 1 u (2 * k) ((wordsL (ys.take k)).map (Value.int .u8)) ∧ Ext w wr) (fun _ i _ => n2 - (intOf i).toNat)
    case atStart =>
      have hb := (Blk.new (w.alloc (.cells #[.int .i64 fc, .int .i64 ad, .int .i64 qt, .slice A n c, .int .i64 to, .bool r, .bool false, .int .i64 code, .slice A2 n2 c2] 170)) 5 .u8 (zs (2 * n2)))
      rw [alloc_size] at hb
      exact ⟨0, by omega, rfl, by simpa [wordsL] using own_cap hb (by omega) (zs_length _) (by omega), E0.goA _⟩
    case round =>
      obtain ⟨k, hk, rfl, hown, hw⟩ := hrel
      by_cases hlt : k < n2
      · obtain ⟨bb, o, rfl, hbb, hc0⟩ := hy'.out.at_ hlt
        have hc := (hw.cell (o + k) hbb).trans hc0
        have hr0 := hyr'.out k
        have hc0' := Lib.hid hc0
        clear hc0
        go_wp2_with (at_builtin; refine wpList_appI rfl (.tmp 27) (.tmp 33) _ rfl Try.underlying34 info_u8 (hown.alloc _) rfl (RdI.pair _ _ _ _ _) rfl (by omega) (by omega) (by have := hw.size; simp; omega) ?_; intro v' w1 hown1 hg1 hat1)
        go_roundw
        case rel =>
          refine ⟨k + 1, by omega, by go_num, ?_, (hw.goA _).goG hg1 (fun g hg => (hown.lt g hg).1)⟩
          rw [wordsL_take ys k (by rw [hl.out]; exact hlt), List.getD_eq_getElem?_getD, show 2 * (k + 1) = 2 * k + 2 by omega, hiLo_small _ hr0.1 hr0.2]; exact hown1
        case measure => simp [intOf]; omega
      · obtain rfl : k = n2 := by omega
        go_wp2
        go_ret
        obtain ⟨A', c', rfl, ⟨hc1, hc2⟩, r'⟩ := own_rd hown
        rw [List.take_of_length_le (by rw [hl.out]; exact Nat.le_refl _)] at r'
        exact ⟨A', _, c', rfl, hc1, hc2, r', hw⟩
  · clear hyr
    go_enter Try.func113, Try.ntmps113
    go_wp2_with fail
    refine (bits_any A2 n2 c2 ys _ (hy'.out.ext E0) (by omega)).mono ?_
    rintro e w1 ⟨rfl, b1, D1⟩
    have r1 := b1.rd b1.lt
    have l2 : (bitsL ys).length = (n2 + 7) / 8 := by rw [← hl.out]; exact bitsTo_length _ _
    rw [l2, alloc_size] at r1
    have E1 := E0.go D1
    clear b1
    go_wp2_with fail
    go_ret
    exact ⟨_, _, _, rfl, Nat.le_refl _, by unfold maxLen; omega, r1, E1⟩
end Go.Proofs.Ytgagpalffdgjnaa
namespace Go.Proofs.Ytgagpalffdgjnaa
open Go.RowKit

set_option maxRecDepth 100000 in
set_option maxHeartbeats 1600000 in
theorem put_none (fc ad qt to : Int) (A : Option Addr) (n c : Nat) (w : World) (hs : shapeOf fc = none) :
    Calls Try.prog 78 #[.agg #[.int .i64 fc, .int .i64 ad, .int .i64 qt, .slice A n c, .int .i64 to]] w (RetI .u8 [] w) := by
  have hv : lookV fc = shapeZero := by unfold lookV; rw [hs]
  have lk1 := look_any (w := ((w.alloc (.cells #[.int .i64 fc, .int .i64 ad, .int .i64 qt, .slice A n c, .int .i64 to] 30)).alloc (.map E10 10)).drew) (g := w.heap.size + 1) (by show (World.alloc _ _).heap[_]? = _; rw [alloc_get, if_pos (by simp)]) fc
  have lk2 := look_any (w := (((w.alloc (.cells #[.int .i64 fc, .int .i64 ad, .int .i64 qt, .slice A n c, .int .i64 to] 30)).alloc (.map E10 10)).alloc (.cells #[.int .i64 0, .int .i64 0, .int .i64 0, .bool false] 162)).drew) (g := w.heap.size + 1) (by show (World.alloc _ _).heap[_]? = _; rw [alloc_get, if_neg (by simp), alloc_get, if_pos (by simp)]) fc
  have lk3 := look_any (w := (((w.alloc (.cells #[.int .i64 fc, .int .i64 ad, .int .i64 qt, .slice A n c, .int .i64 to] 30)).alloc (.cells #[.int .i64 0, .int .i64 0, .int .i64 0, .bool false] 162)).alloc (.map E10 10)).drew) (g := w.heap.size + 1 + 1) (by show (World.alloc _ _).heap[_]? = _; rw [alloc_get, if_pos (by simp)]) fc
  rw [hv, hs] at lk1 lk2 lk3
  clear hv hs
  unfold shapeZero at lk1 lk2 lk3
  rw [show (none : Option Shape).isSome = false from rfl] at lk1 lk2 lk3
  have E1 := (Ext.refl w).goA (.cells #[.int .i64 fc, .int .i64 ad, .int .i64 qt, .slice A n c, .int .i64 to] 30)
  go_enter Try.func78, Try.ntmps78
  go_wp2_with fail
  go_region_law
    (first
      | (go_simp
         go_at_call 75
         refine (shapes_any _).mono ?_
         rintro e w1 ⟨rfl, rfl⟩
         dsimp only))
  all_goals
    go_wp2_with fail
    go_ret
    exact ⟨_, _, _, rfl, Nat.le_refl _, by decide, RdI.nil _, ((E1.goA _).god).goA _⟩

set_option maxRecDepth 100000 in
set_option maxHeartbeats 1600000 in
theorem put_some (s : Shape) (fc ad qt to : Int) (A : Option Addr) (n c : Nat) (xs : List Int) (w : World) (hs : shapeOf fc = some s) (hx : RdI w w.heap.size .u16 A n xs) (hr : ∀ j : Nat, 0 ≤ xs[j]?.getD 0 ∧ xs[j]?.getD 0 ≤ 65535) (hn : n ≤ maxLen) :
    Calls Try.prog 78 #[.agg #[.int .i64 fc, .int .i64 ad, .int .i64 qt, .slice A n c, .int .i64 to]] w (RetI .u8 (if holdsB s ad qt to xs && fitsB ad qt to n then codedL s fc ad qt to xs else []) w) := by
  have hv : lookV fc = s.val := by unfold lookV; rw [hs]
  have hf := shape_bounds hs
  have lk1 := look_any (w := ((w.alloc (.cells #[.int .i64 fc, .int .i64 ad, .int .i64 qt, .slice A n c, .int .i64 to] 30)).alloc (.map E10 10)).drew) (g := w.heap.size + 1) (by show (World.alloc _ _).heap[_]? = _; rw [alloc_get, if_pos (by simp)]) fc
  have lk2 := look_any (w := (((w.alloc (.cells #[.int .i64 fc, .int .i64 ad, .int .i64 qt, .slice A n c, .int .i64 to] 30)).alloc (.map E10 10)).alloc (.cells #[.int .i64 0, .int .i64 0, .int .i64 0, .bool false] 162)).drew) (g := w.heap.size + 1) (by show (World.alloc _ _).heap[_]? = _; rw [alloc_get, if_neg (by simp), alloc_get, if_pos (by simp)]) fc
  have lk3 := look_any (w := (((w.alloc (.cells #[.int .i64 fc, .int .i64 ad, .int .i64 qt, .slice A n c, .int .i64 to] 30)).alloc (.cells #[.int .i64 0, .int .i64 0, .int .i64 0, .bool false] 162)).alloc (.map E10 10)).drew) (g := w.heap.size + 1 + 1) (by show (World.alloc _ _).heap[_]? = _; rw [alloc_get, if_pos (by simp)]) fc
  rw [hv, hs] at lk1 lk2 lk3
  rw [show (some s).isSome = true from rfl] at lk1 lk2 lk3
  have hp := Lib.hid (holds_parts (s := s) (ad := ad) (qt := qt) (to := to) (xs := xs))
  have hc := fun w' (E : Ext w w') => holds_any s fc ad qt to A n c w.heap.size xs w' (hx.below E) E.size hn hf.1 hf.2.1
  have hd := fun w' (E : Ext w w') h => coded_any s fc fc ad qt to hs A n c xs w' (hx.ext E) hr h
  have hf' := Lib.hid hf
  clear hv hs hf
  obtain ⟨f, q, v, b⟩ := s
  unfold Shape.val at lk1 lk2 lk3 hc hd
  dsimp only at lk1 lk2 lk3 hc hd
  have hd' := Lib.hid hd
  clear hd
  have E1 := (Ext.refl w).goA (.cells #[.int .i64 fc, .int .i64 ad, .int .i64 qt, .slice A n c, .int .i64 to] 30)
  have F1 := Ext.refl (w.alloc (.cells #[.int .i64 fc, .int .i64 ad, .int .i64 qt, .slice A n c, .int .i64 to] 30))
  have hlen := Lib.hid hx.len
  generalize hL : (if (holdsB ⟨f, q, v, b⟩ ad qt to xs && fitsB ad qt to n) = true then codedL ⟨f, q, v, b⟩ fc ad qt to xs else []) = L
  have hL' := Lib.hid hL
  clear hL
  have hr' := Lib.hid hr
  clear hr
  have hc' := Lib.hid hc
  clear hc
  go_enter Try.func78, Try.ntmps78
  go_wp2_with fail
  go_region_law
    (first
      | (go_simp
         go_at_call 75
         refine (shapes_any _).mono ?_
         rintro e w1 ⟨rfl, rfl⟩
         dsimp only))
  all_goals
    go_wp2_with fail
    refine (hc'.out _ (by first | exact ((E1.goA _).goA _).god)).mono ?_
    rintro e w2 ⟨rfl, D2⟩
    cases hh : holdsB ⟨f, q, v, b⟩ ad qt to xs
    · go_wp2_with fail
      go_ret
      have hL := hL'.out
      rw [hh, Bool.false_and, if_neg (by decide)] at hL
      subst hL
      exact ⟨_, _, _, rfl, Nat.le_refl _, by decide, RdI.nil _, (((E1.goA _).goA _).god).go D2⟩
    · obtain ⟨⟨a0, a1⟩, ⟨t0, t1⟩, ⟨q0, q1⟩, _, _, _⟩ := hp.out hh
      have bx := cellsAt (((((F1.goA _).goA _).god).go D2).block w.heap.size (by simp) |>.trans (heap_alloc_new w _))
      have q2 : qt ≤ 65535 := by have := hf'.out.2.2.1; have q1 : qt ≤ q := q1; have this : q ≤ 2000 := this; omega
      have n2 : n ≤ 65536 := by have := holds_len hf'.out hh; have := hlen.out; omega
      go_wp2_with fail
      refine (fits_any fc ad qt to A n c w2 a0 (by omega) t0 (by omega) q0 q2 n2).mono ?_
      rintro e w3 ⟨rfl, D3⟩
      have hL := hL'.out
      rw [hh, Bool.true_and] at hL
      have hL' := Lib.hid hL
      clear hL
      cases hb : fitsB ad qt to n
      · go_wp2_with fail
        go_ret
        have hL := hL'.out
        rw [hb, if_neg (by decide)] at hL
        subst hL
        exact ⟨_, _, _, rfl, Nat.le_refl _, by decide, RdI.nil _, ((((E1.goA _).goA _).god).go D2).go D3⟩
      · have bx3 := cellsAt ((((((F1.goA _).goA _).god).go D2).go D3).block w.heap.size (by simp) |>.trans (heap_alloc_new w _))
        have sy3 := fun a cs (h : _ = some (Obj.cells cs 162 (0, 0))) ha => cellsAt ((D2.go D3).block a ha |>.trans h)
        first
          | (refine have_then (sy3 (w.heap.size + 1) #[.int .i64 f, .int .i64 q, .int .i64 v, .bool b] ?_ ?_) (fun sx3 => ?_)
             · show (World.alloc _ _).heap[_]? = _
               rw [alloc_get, if_neg (by simp), alloc_get, if_pos (by simp)]
             · simp)
          | (refine have_then (sy3 (w.heap.size + 1 + 1) #[.int .i64 f, .int .i64 q, .int .i64 v, .bool b] ?_ ?_) (fun sx3 => ?_)
             · show (World.alloc _ _).heap[_]? = _
               rw [alloc_get, if_pos (by simp)]
             · simp)
        clear sy3
        go_wp2_with fail
        refine (hd'.out w3 (((((E1.goA _).goA _).god).go D2).go D3) hh).mono ?_
        rintro e w4 ⟨A', n', c', rfl, g1, g2, g3, D4⟩
        go_wp2_with fail
        go_ret
        have hL := hL'.out
        rw [hb, if_pos rfl] at hL
        subst hL
        exact ⟨_, _, _, rfl, g1, g2, g3, (((((E1.goA _).goA _).god).go D2).go D3).go D4⟩
def putL (fc ad qt to : Int) (xs : List Int) : List Int := match shapeOf fc with | some s => if holdsB s ad qt to xs && fitsB ad qt to xs.length then codedL s fc ad qt to xs else [] | none => []
theorem pduPut_any (fc ad qt to : Int) (A : Option Addr) (n c : Nat) (xs : List Int) (w : World) (hx : RdI w w.heap.size .u16 A n xs) (hr : ∀ j : Nat, 0 ≤ xs[j]?.getD 0 ∧ xs[j]?.getD 0 ≤ 65535) (hn : n ≤ maxLen) :
    Calls Try.prog 78 #[.agg #[.int .i64 fc, .int .i64 ad, .int .i64 qt, .slice A n c, .int .i64 to]] w (RetI .u8 (putL fc ad qt to xs) w) := by
  unfold putL
  cases hs : shapeOf fc with
  | none => exact put_none fc ad qt to A n c w hs
  | some s => dsimp only; rw [hx.len]; exact put_some s fc ad qt to A n c xs w hs hx hr hn
end Go.Proofs.Ytgagpalffdgjnaa
