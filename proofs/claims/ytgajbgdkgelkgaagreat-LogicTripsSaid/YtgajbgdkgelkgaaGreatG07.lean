/- Layer 14, the walks: At. · Layer 14, the walks: All. -/
import Derived.Test.YtgajbgdkgelkgaaGreatG06
namespace Go.Proofs.YtgajbgdkgelkgaaGreat
open Go.RowKit

abbrev Lt := Bool × Int × Bool
def ltCells (x : Lt) : List Value := [.bool x.1, .int .i64 x.2.1, .bool x.2.2]
def ltVal (x : Lt) : Value := .agg #[.bool x.1, .int .i64 x.2.1, .bool x.2.2]
set_option maxRecDepth 100000 in
set_option maxHeartbeats 3200000 in
theorem latchAt_any (g gl gf gs N : Nat) (r : Lw) (w : World) (h : Rw w g gl gf gs N r) (i : Nat) (hi : i < r.g.length) :
    Calls Tryz.prog 71 #[.pointer (some ⟨g, 0, none⟩), .int .i64 i] w fun e w' => e = .returned (ltVal (latchAt r i)) ∧ Ext w w' := by
  have hg := lt_of_block h.head
  have hgl := h.row.lt
  have hd : ∀ w', Ext w w' → w'.heap[g]? = some (.cells #[.slice (some ⟨gl, 0, none⟩) r.g.length r.g.length, .map (some gf), .map (some gs)] 137 (0, 0)) := fun w' E => (E.block g hg).trans h.head
  have c0 : ∀ w', Ext w w' → w'.cell? ⟨g, 0, none⟩ = some (.slice (some ⟨gl, 0, none⟩) r.g.length r.g.length) := fun w' E => cellsAt (hd w' E) 0
  have c1 : ∀ w', Ext w w' → w'.cell? ⟨g, 1, none⟩ = some (.map (some gf)) := fun w' E => cellsAt (hd w' E) 1
  have k0 : ∀ w', Ext w w' → w'.cell? ⟨gl, i * 4, none⟩ = some (.bool (setOf r i)) := fun w' E => ((h.row.keep (E.block gl hgl)).cells hi).1
  have k1 : ∀ w', Ext w w' → w'.cell? ⟨gl, i * 4 + 1, none⟩ = some (.int .i64 (atOf r i)) := fun w' E => ((h.row.keep (E.block gl hgl)).cells hi).2.1
  have k2 : ∀ w', Ext w w' → w'.cell? ⟨gl, i * 4 + 2, none⟩ = some (.bool false) := fun w' E => ((h.row.keep (E.block gl hgl)).cells hi).2.2.1
  have k3 : ∀ w', Ext w w' → w'.cell? ⟨gl, i * 4 + 3, none⟩ = some (.int .i64 (gOf r i)) := fun w' E => ((h.row.keep (E.block gl hgl)).cells hi).2.2.2
  have e3 : (i : Int) < (r.g.length : Int) := by omega
  have hfit := h.fit
  have hGr := h.grp i
  have wG : (Lit.int .i64 (gOf r i)).wf = true := WalkArith.wf_i64 (n := gOf r i) ⟨by omega, by omega⟩
  have L1 : ∀ w', Ext w w' → (Instr.lookup 135 (.map (some gf)) (.int .i64 (gOf r i)) true).run Tryz.prog w' = .ok (.tuple #[.int .i64 ((firO r (gOf r i)).getD 0), .bool (firO r (gOf r i)).isSome]) w' := fun w' E => (h.fm.ext E).look_ok wG
  have h' := Lib.hid h
  clear h hd wG
  have x0 := c0 _ ((Ext.refl w).goA (.cells #[.bool false, .int .i64 0, .bool false] 56))
  have y0 := k0 _ ((Ext.refl w).goA (.cells #[.bool false, .int .i64 0, .bool false] 56))
  have y1 := k1 _ ((Ext.refl w).goA (.cells #[.bool false, .int .i64 0, .bool false] 56))
  have y2 := k2 _ ((Ext.refl w).goA (.cells #[.bool false, .int .i64 0, .bool false] 56))
  unfold latchAt
  by_cases hs : setOf r i = true
  · rw [if_pos hs]
    rw [hs] at y0
    go_enter Tryz.func71, Tryz.ntmps71
    go_upto_region 4 with (go_at_call 77; refine (latchHas_any _ _ _ _ _ _ _ (h'.out.ext ((Ext.refl w).goA _)) i hi).mono ?_; rintro e w' ⟨rfl, rfl⟩)
    refine wp_region_held_drew (S := fun w' => Ext w w') (by kernel_rfl) (((Ext.refl w).goA _).goA _).god (fun hHeld => ?_)
    refine wpAnyH_take (i := 0) (oi := _) (v := ?_) rfl (by kernel_rfl) (by kernel_rfl) (by kernel_rfl) (fun _ _ _ h => h) (Or.inl ⟨by rfl, ?_⟩) (by assumption) ?_
    rotate_left
    · intro w hSw
      (try dsimp only at hSw)
      go_simp
      try (with_reducible rfl)
    try simp only [Act.put, List.getElem_toArray, List.getElem_cons_zero, List.setIfInBounds_toArray, List.set_cons_zero, List.set_cons_succ]
    refine wpAnyH_take (i := 1) (oi := _) (v := ?_) rfl (by kernel_rfl) (by kernel_rfl) (by kernel_rfl) (fun _ _ _ h => h) (Or.inl ⟨by rfl, ?_⟩) (by assumption) ?_
    rotate_left
    · intro w hSw
      (try dsimp only at hSw)
      go_simp
      try (with_reducible rfl)
    try simp only [Act.put, List.getElem_toArray, List.getElem_cons_succ, List.getElem_cons_zero, List.setIfInBounds_toArray, List.set_cons_zero, List.set_cons_succ]
    refine wpAnyH_take (i := 2) (oi := _) (v := ?_) rfl (by kernel_rfl) (by kernel_rfl) (by kernel_rfl) (fun _ _ _ h => h) (Or.inl ⟨by rfl, ?_⟩) (by assumption) ?_
    rotate_left
    · intro w hSw
      (try dsimp only at hSw)
      go_simp
      try (with_reducible rfl)
    try simp only [Act.put, List.getElem_toArray, List.getElem_cons_succ, List.getElem_cons_zero, List.setIfInBounds_toArray, List.set_cons_zero, List.set_cons_succ]
    refine wpAnyH_take (i := 3) (oi := _) (v := ?_) rfl (by kernel_rfl) (by kernel_rfl) (by kernel_rfl) (fun _ _ _ h => h) (Or.inl ⟨by rfl, ?_⟩) (by assumption) ?_
    rotate_left
    · intro w hSw
      (try dsimp only at hSw)
      go_simp
      try (with_reducible rfl)
    try simp only [Act.put, List.getElem_toArray, List.getElem_cons_succ, List.getElem_cons_zero, List.setIfInBounds_toArray, List.set_cons_zero, List.set_cons_succ]
    refine wpAnyH_take (i := 4) (oi := _) (v := ?_) rfl (by kernel_rfl) (by kernel_rfl) (by kernel_rfl) (fun _ _ _ h => h) (Or.inl ⟨by rfl, ?_⟩) (by assumption) ?_
    rotate_left
    · intro w hSw
      (try dsimp only at hSw)
      go_simp
      try (with_reducible rfl)
    try simp only [Act.put, List.getElem_toArray, List.getElem_cons_succ, List.getElem_cons_zero, List.setIfInBounds_toArray, List.set_cons_zero, List.set_cons_succ]
    refine wpAnyH_take (i := 5) (oi := _) (v := ?_) rfl (by kernel_rfl) (by kernel_rfl) (by kernel_rfl) (fun _ _ _ h => h) (Or.inl ⟨by rfl, ?_⟩) (by assumption) ?_
    rotate_left
    · intro w hSw
      (try dsimp only at hSw)
      go_simp
      try (with_reducible rfl)
    try simp only [Act.put, List.getElem_toArray, List.getElem_cons_succ, List.getElem_cons_zero, List.setIfInBounds_toArray, List.set_cons_zero, List.set_cons_succ]
    refine wpAnyH_take (i := 6) (oi := _) (v := ?_) rfl (by kernel_rfl) (by kernel_rfl) (by kernel_rfl) (fun _ _ _ h => h) (Or.inl ⟨by rfl, ?_⟩) (by assumption) ?_
    rotate_left
    · intro w hSw
      (try dsimp only at hSw)
      go_simp
      try (with_reducible rfl)
    try simp only [Act.put, List.getElem_toArray, List.getElem_cons_succ, List.getElem_cons_zero, List.setIfInBounds_toArray, List.set_cons_zero, List.set_cons_succ]
    refine wpAnyH_take (i := 7) (oi := _) (v := ?_) rfl (by kernel_rfl) (by kernel_rfl) (by kernel_rfl) (fun _ _ _ h => h) (Or.inl ⟨by rfl, ?_⟩) (by assumption) ?_
    rotate_left
    · intro w hSw
      (try dsimp only at hSw)
      go_simp
      try (with_reducible rfl)
    try simp only [Act.put, List.getElem_toArray, List.getElem_cons_succ, List.getElem_cons_zero, List.setIfInBounds_toArray, List.set_cons_zero, List.set_cons_succ]
    refine wpAnyH_take (i := 8) (oi := _) (v := ?_) rfl (by kernel_rfl) (by kernel_rfl) (by kernel_rfl) (fun _ _ _ h => h) (Or.inl ⟨by rfl, ?_⟩) (by assumption) ?_
    rotate_left
    · intro w hSw
      (try dsimp only at hSw)
      go_simp
      try (with_reducible rfl)
    try simp only [Act.put, List.getElem_toArray, List.getElem_cons_succ, List.getElem_cons_zero, List.setIfInBounds_toArray, List.set_cons_zero, List.set_cons_succ]
    refine wpAnyH_take (i := 9) (oi := _) (v := ?_) rfl (by kernel_rfl) (by kernel_rfl) (by kernel_rfl) (fun _ _ _ h => h) (Or.inl ⟨by rfl, ?_⟩) (by assumption) ?_
    rotate_left
    · intro w hSw
      (try dsimp only at hSw)
      go_simp
      try (with_reducible rfl)
    try simp only [Act.put, List.getElem_toArray, List.getElem_cons_succ, List.getElem_cons_zero, List.setIfInBounds_toArray, List.set_cons_zero, List.set_cons_succ]
    refine wpAnyH_take (i := 10) (oi := _) (v := ?_) rfl (by kernel_rfl) (by kernel_rfl) (by kernel_rfl) (fun _ _ _ h => h) (Or.inl ⟨by rfl, ?_⟩) (by assumption) ?_
    rotate_left
    · intro w hSw
      (try dsimp only at hSw)
      go_simp
      try (with_reducible rfl)
    try simp only [Act.put, List.getElem_toArray, List.getElem_cons_succ, List.getElem_cons_zero, List.setIfInBounds_toArray, List.set_cons_zero, List.set_cons_succ]
    refine wpAnyH_take (i := 11) (oi := _) (v := ?_) rfl (by kernel_rfl) (by kernel_rfl) (by kernel_rfl) (fun _ _ _ h => h) (Or.inl ⟨by rfl, ?_⟩) (by assumption) ?_
    rotate_left
    · intro w hSw
      (try dsimp only at hSw)
      go_simp
      try (with_reducible rfl)
    try simp only [Act.put, List.getElem_toArray, List.getElem_cons_succ, List.getElem_cons_zero, List.setIfInBounds_toArray, List.set_cons_zero, List.set_cons_succ]
    refine wpAnyH_take (i := 12) (oi := _) (v := ?_) rfl (by kernel_rfl) (by kernel_rfl) (by kernel_rfl) (fun _ _ _ h => h) (Or.inl ⟨by rfl, ?_⟩) (by assumption) ?_
    rotate_left
    · intro w hSw
      (try dsimp only at hSw)
      go_simp
      try (with_reducible rfl)
    try simp only [Act.put, List.getElem_toArray, List.getElem_cons_succ, List.getElem_cons_zero, List.setIfInBounds_toArray, List.set_cons_zero, List.set_cons_succ]
    refine wpAnyH_take (i := 13) (oi := _) (v := ?_) rfl (by kernel_rfl) (by kernel_rfl) (by kernel_rfl) (fun _ _ _ h => h) (Or.inl ⟨by rfl, ?_⟩) (by assumption) ?_
    rotate_left
    · intro w hSw
      (try dsimp only at hSw)
      go_simp
      try (with_reducible rfl)
    try simp only [Act.put, List.getElem_toArray, List.getElem_cons_succ, List.getElem_cons_zero, List.setIfInBounds_toArray, List.set_cons_zero, List.set_cons_succ]
    refine wpAnyH_take (i := 14) (oi := _) (v := ?_) rfl (by kernel_rfl) (by kernel_rfl) (by kernel_rfl) (fun _ _ _ h => h) (Or.inl ⟨by rfl, ?_⟩) (by assumption) ?_
    rotate_left
    · intro w hSw
      (try dsimp only at hSw)
      go_simp
      try (with_reducible rfl)
    try simp only [Act.put, List.getElem_toArray, List.getElem_cons_succ, List.getElem_cons_zero, List.setIfInBounds_toArray, List.set_cons_zero, List.set_cons_succ]
    refine wpAnyH_take (i := 15) (oi := _) (v := ?_) rfl (by kernel_rfl) (by kernel_rfl) (by kernel_rfl) (fun _ _ _ h => h) (Or.inl ⟨by rfl, ?_⟩) (by assumption) ?_
    rotate_left
    · intro w hSw
      (try dsimp only at hSw)
      go_simp
      try (with_reducible rfl)
    try simp only [Act.put, List.getElem_toArray, List.getElem_cons_succ, List.getElem_cons_zero, List.setIfInBounds_toArray, List.set_cons_zero, List.set_cons_succ]
    refine wpAnyH_take (i := 16) (oi := _) (v := ?_) rfl (by kernel_rfl) (by kernel_rfl) (by kernel_rfl) (fun _ _ _ h => h) (Or.inl ⟨by rfl, ?_⟩) (by assumption) ?_
    rotate_left
    · intro w hSw
      (try dsimp only at hSw)
      go_simp
      try (with_reducible rfl)
    try simp only [Act.put, List.getElem_toArray, List.getElem_cons_succ, List.getElem_cons_zero, List.setIfInBounds_toArray, List.set_cons_zero, List.set_cons_succ]
    refine wpAnyH_take (i := 17) (oi := _) (v := ?_) rfl (by kernel_rfl) (by kernel_rfl) (by kernel_rfl) (fun _ _ _ h => h) (Or.inl ⟨by rfl, ?_⟩) (by assumption) ?_
    rotate_left
    · intro w hSw
      (try dsimp only at hSw)
      go_simp
      try (with_reducible rfl)
    try simp only [Act.put, List.getElem_toArray, List.getElem_cons_succ, List.getElem_cons_zero, List.setIfInBounds_toArray, List.set_cons_zero, List.set_cons_succ]
    refine wpAnyH_done (by kernel_rfl) ?_ _
    clear hHeld L1 c0 c1 k0 k1 k2 k3
    cases hf : r.f (gOf r i) with
    | none =>
      have hfo : firO r (gOf r i) = none := by unfold firO; rw [hf]; rfl
      simp only [hfo, Option.getD_none, Option.isSome_none]
      go_wp2_with fail
      have z := cellsAt ((((Ext.refl (w.alloc (.cells #[.bool true, .int .i64 (atOf r i), .bool false] 56))).goA (.cells #[.bool true, .int .i64 (atOf r i), .bool false] 56)).god.block w.heap.size (by simp)).trans (heap_alloc_new w (.cells #[.bool true, .int .i64 (atOf r i), .bool false] 56)))
      refine bodyPost_ret (v := .agg #[.bool true, .int .i64 (atOf r i), .bool false]) (by simp [results, Tryz.results71, go_sem, z 0, z 1, z 2]) rfl ?_
      exact ⟨by rw [hf]; rfl, (((Ext.refl w).goA _).goA _).god⟩
    | some f =>
      have hfo : firO r (gOf r i) = some (f : Int) := by unfold firO; rw [hf]; rfl
      simp only [hfo, Option.getD_some, Option.isSome_some]
      by_cases hfi : f = i
      · subst hfi
        go_wp2_with fail
        have z := cellsAt ((((Ext.refl (w.alloc (.cells #[.bool true, .int .i64 (atOf r f), .bool true] 56))).goA (.cells #[.bool true, .int .i64 (atOf r f), .bool true] 56)).god.block w.heap.size (by simp)).trans (heap_alloc_new w (.cells #[.bool true, .int .i64 (atOf r f), .bool true] 56)))
        refine bodyPost_ret (v := .agg #[.bool true, .int .i64 (atOf r f), .bool true]) (by simp [results, Tryz.results71, go_sem, z 0, z 1, z 2]) rfl ?_
        exact ⟨by rw [hf]; simp [ltVal], (((Ext.refl w).goA _).goA _).god⟩
      · have hib : ((f : Int) == (i : Int)) = false := by simp; omega
        go_wp2_with fail
        have z := cellsAt ((((Ext.refl (w.alloc (.cells #[.bool true, .int .i64 (atOf r i), .bool false] 56))).goA (.cells #[.bool true, .int .i64 (atOf r i), .bool false] 56)).god.block w.heap.size (by simp)).trans (heap_alloc_new w (.cells #[.bool true, .int .i64 (atOf r i), .bool false] 56)))
        refine bodyPost_ret (v := .agg #[.bool true, .int .i64 (atOf r i), .bool false]) (by simp [results, Tryz.results71, go_sem, z 0, z 1, z 2]) rfl ?_
        exact ⟨by rw [hf]; simp [ltVal, hfi], (((Ext.refl w).goA _).goA _).god⟩
  · rw [if_neg hs]
    rw [show setOf r i = false by simpa using hs] at y0
    go_enter Tryz.func71, Tryz.ntmps71
    go_wp2_with (go_at_call 77; refine (latchHas_any _ _ _ _ _ _ _ (h'.out.ext ((Ext.refl w).goA _)) i hi).mono ?_; rintro e w' ⟨rfl, rfl⟩)
    have z := cellsAt (heap_alloc_new w (.cells #[.bool false, .int .i64 0, .bool false] 56))
    refine bodyPost_ret (v := .agg #[.bool false, .int .i64 0, .bool false]) (by simp [results, Tryz.results71, go_sem, z 0, z 1, z 2]) rfl ?_
    exact ⟨rfl, (Ext.refl w).goA _⟩
end Go.Proofs.YtgajbgdkgelkgaaGreat
namespace Go.Proofs.YtgajbgdkgelkgaaGreat
open Go.RowKit

theorem made3 (a b c : Value) (n j : Nat) (hj : j < n) : (madeCells #[a, b, c] (n * 3))[j * 3]? = some a ∧ (madeCells #[a, b, c] (n * 3))[j * 3 + 1]? = some b ∧ (madeCells #[a, b, c] (n * 3))[j * 3 + 2]? = some c := by
  have h0 : j * 3 < n * 3 := by omega
  have h1 : j * 3 + 1 < n * 3 := by omega
  have h2 : j * 3 + 2 < n * 3 := by omega
  have e0 : j * 3 % 3 = 0 := by omega
  have e1 : (j * 3 + 1) % 3 = 1 := by omega
  have e2 : (j * 3 + 2) % 3 = 2 := by omega
  unfold madeCells
  simp only [Array.getElem?_map, Array.getElem?_range, h0, h1, h2, if_true, Option.map_some, List.size_toArray, List.length_cons, List.length_nil, Nat.zero_add, Nat.reduceAdd, e0, e1, e2]
  exact ⟨rfl, rfl, rfl⟩
theorem made3_size (a b c : Value) (n : Nat) : (madeCells #[a, b, c] (n * 3)).size = n * 3 := by simp [madeCells]
/-- A slice of n structs of three cells, made. -/
theorem run_mk3 {P : Program} {t e : TypeId} {a b c : Value} {by_ : Nat} (ht : P.underlying t = some (.slice e)) (hi : (P.info? e).map (fun i => (i.zero, i.size, i.bytes)) = some (some (.agg #[a, b, c]), 3, by_)) (n : Nat) (hb : n * by_ ≤ 281474976710656) (hn : n ≤ 9223372036854775807) (w : World) :
    (Instr.makeSlice t (.int .i64 n) (.int .i64 n)).run P w = .ok (.slice (some ⟨w.heap.size, 0, none⟩) n n) (w.alloc (.cells (madeCells #[a, b, c] (n * 3)) e)) := by
  obtain ⟨i, h1, h2, h3, h4⟩ := info_parts hi
  have hh : (i.bytes : Int) * (n : Int) ≤ 281474976710656 := by
    rw [h4]
    have : ((n * by_ : Nat) : Int) ≤ 281474976710656 := by omega
    rwa [Int.natCast_mul, Int.mul_comm] at this
  have := run_make (P := P) w t e i _ ht h1 h2 .i64 .i64 (n : Int) (n : Int) (by omega) (Int.le_refl _) hh (by omega)
  rw [h3] at this
  simpa only [Int.toNat_natCast, Value.cells] using this
theorem info_latch : (Tryz.prog.info? 56).map (fun i => (i.zero, i.size, i.bytes)) = some (some (.agg #[.bool false, .int .i64 0, .bool false]), 3, 24) := by kernel_rfl
theorem three_put {cs : Array Value} {a b c : Value} {k n : Nat} (hs : cs.size = n * 3) (hk : k < n) (j : Nat) :
    (((cs.setIfInBounds (k * 3) a).setIfInBounds (k * 3 + 1) b).setIfInBounds (k * 3 + 2) c).size = n * 3 ∧
    (j = k → (((cs.setIfInBounds (k * 3) a).setIfInBounds (k * 3 + 1) b).setIfInBounds (k * 3 + 2) c)[j * 3]? = some a ∧ (((cs.setIfInBounds (k * 3) a).setIfInBounds (k * 3 + 1) b).setIfInBounds (k * 3 + 2) c)[j * 3 + 1]? = some b ∧ (((cs.setIfInBounds (k * 3) a).setIfInBounds (k * 3 + 1) b).setIfInBounds (k * 3 + 2) c)[j * 3 + 2]? = some c) ∧
    (j ≠ k → (((cs.setIfInBounds (k * 3) a).setIfInBounds (k * 3 + 1) b).setIfInBounds (k * 3 + 2) c)[j * 3]? = cs[j * 3]? ∧ (((cs.setIfInBounds (k * 3) a).setIfInBounds (k * 3 + 1) b).setIfInBounds (k * 3 + 2) c)[j * 3 + 1]? = cs[j * 3 + 1]? ∧ (((cs.setIfInBounds (k * 3) a).setIfInBounds (k * 3 + 1) b).setIfInBounds (k * 3 + 2) c)[j * 3 + 2]? = cs[j * 3 + 2]?) := by
  refine ⟨by simpa using hs, fun e => ?_, fun e => ?_⟩
  · subst e
    simp only [Array.getElem?_setIfInBounds, Array.size_setIfInBounds, hs]
    refine ⟨?_, ?_, ?_⟩
    · rw [if_neg (by omega), if_neg (by omega), if_pos trivial, if_pos (by omega)]
    · rw [if_neg (by omega), if_pos trivial, if_pos (by omega)]
    · rw [if_pos trivial, if_pos (by omega)]
  · simp only [Array.getElem?_setIfInBounds]
    refine ⟨?_, ?_, ?_⟩
    · rw [if_neg (by omega), if_neg (by omega), if_neg (by omega)]
    · rw [if_neg (by omega), if_neg (by omega), if_neg (by omega)]
    · rw [if_neg (by omega), if_neg (by omega), if_neg (by omega)]
/-- A slice of latches that a call hands back, in new memory. -/
def LtsPost (xs : List Lt) (w : World) (e : Ending) (w' : World) : Prop :=
  ∃ A n c, e = .returned (.slice A n c) ∧ n ≤ c ∧ c ≤ maxLen ∧ RdC ltCells 3 w' w'.heap.size A n xs ∧ Ext w w' ∧ ∀ b o, A = some ⟨b, o, none⟩ → w.heap.size ≤ b
set_option maxRecDepth 100000 in
set_option maxHeartbeats 3200000 in
theorem latchAll_any (g gl gf gs N : Nat) (r : Lw) (w : World) (h : Rw w g gl gf gs N r) :
    Calls Tryz.prog 32 #[.pointer (some ⟨g, 0, none⟩)] w (LtsPost (allL r) w) := by
  have hg := lt_of_block h.head
  have c0 : w.cell? ⟨g, 0, none⟩ = some (.slice (some ⟨gl, 0, none⟩) r.g.length r.g.length) := cellsAt h.head 0
  have hfit := h.fit
  have hmk := run_mk3 Tryz.underlying47 info_latch r.g.length (by omega) (by omega) w
  have h' := Lib.hid h
  clear h
  unfold allL
  rw [h'.out.ok.len]
  go_enter Tryz.func32, Tryz.ntmps32
  go_upto_region 3 with fail
  clear hmk c0
  have M0 := heap_alloc_new w (.cells (madeCells #[.bool false, .int .i64 0, .bool false] (r.g.length * 3)) 56)
  have EU := (Ext.refl w).goA (.cells (madeCells #[.bool false, .int .i64 0, .bool false] (r.g.length * 3)) 56)
  generalize w.alloc (.cells (madeCells #[.bool false, .int .i64 0, .bool false] (r.g.length * 3)) 56) = U at *
  go_loopw [4, 13] (fun _ i wr => ∃ k : Nat, k ≤ r.g.length ∧ i = .int .i64 k ∧ Ext w wr ∧ ∃ cs : Array Value, wr.heap[w.heap.size]? = some (.cells cs 56 (0, 0)) ∧ cs.size = r.g.length * 3 ∧ (∀ j, j < k → cs[j * 3]? = some (.bool (latchAt r j).1) ∧ cs[j * 3 + 1]? = some (.int .i64 (latchAt r j).2.1) ∧ cs[j * 3 + 2]? = some (.bool (latchAt r j).2.2))) (fun _ i _ => r.g.length - (intOf i).toNat)
  case atStart => exact ⟨0, by omega, rfl, EU, _, M0, by simp [made3_size], fun j hj => absurd hj (by omega)⟩
  case round =>
    obtain ⟨k, hk, rfl, E, cs, hcs, hsz, hv⟩ := hrel
    have hcs' := Lib.hid hcs
    have hv' := Lib.hid hv
    have E' := Lib.hid E
    clear hv E M0 EU
    by_cases hlt : k < r.g.length
    · have e3 : (k : Int) < (r.g.length : Int) := by omega
      have hB := lt_of_block hcs
      clear hcs
      go_wp2_with (go_at_call 71; refine (latchAt_any _ _ _ _ _ _ _ (h'.out.ext E'.out) k hlt).mono ?_; unfold ltVal; rintro e w1 ⟨rfl, E1⟩; have B1 := (E1.block w.heap.size hB).trans hcs'.out; have q1 := cellsAt B1; have y0 : w1.cell? ⟨w.heap.size, k * 3, none⟩ = some (cs[k * 3]'(by omega)) := (q1 _).trans (Array.getElem?_eq_getElem (by omega)); have y1 : w1.cell? ⟨w.heap.size, k * 3 + 1, none⟩ = some (cs[k * 3 + 1]'(by omega)) := (q1 _).trans (Array.getElem?_eq_getElem (by omega)); have y2 : w1.cell? ⟨w.heap.size, k * 3 + 2, none⟩ = some (cs[k * 3 + 2]'(by omega)) := (q1 _).trans (Array.getElem?_eq_getElem (by omega)); have z0 := frozenIn B1 (k * 3); have z1 := frozenIn B1 (k * 3 + 1); have z2 := frozenIn B1 (k * 3 + 2); have B1' := Lib.hid B1; clear q1 B1)
      go_roundw
      case rel =>
        refine ⟨k + 1, by omega, by go_num, (((E'.out.go E1).goS (p := ⟨w.heap.size, k * 3, none⟩) (Nat.le_refl _) _).goS (p := ⟨w.heap.size, k * 3 + 1, none⟩) (Nat.le_refl _) _).goS (p := ⟨w.heap.size, k * 3 + 2, none⟩) (Nat.le_refl _) _, _, sets_block (sets_block (sets_block B1'.out _ _) _ _) _ _, (three_put hsz hlt 0).1, fun j hj => ?_⟩
        obtain ⟨-, t1, t2⟩ := three_put (a := .bool (latchAt r k).1) (b := .int .i64 (latchAt r k).2.1) (c := .bool (latchAt r k).2.2) hsz hlt j
        by_cases e : j = k
        · obtain ⟨u0, u1, u2⟩ := t1 e
          subst e
          exact ⟨u0, u1, u2⟩
        · obtain ⟨u0, u1, u2⟩ := t2 e
          rw [u0, u1, u2]
          exact hv'.out j (by omega)
      case measure => simp [intOf]; omega
    · obtain rfl : k = r.g.length := by omega
      have hfr := hcs'.out
      clear hcs
      go_wp2_with fail
      go_ret
      refine ⟨_, _, _, rfl, Nat.le_refl _, by unfold maxLen; omega, ⟨by simp, fun hn => ⟨w.heap.size, 0, rfl, lt_of_block hfr, fun j x hx i hi => ?_⟩⟩, E'.out, fun b o e => by cases e; exact Nat.le_refl _⟩
      have hj : j < r.g.length := by
        rcases Nat.lt_or_ge j r.g.length with h | h
        · exact h
        · rw [List.getElem?_eq_none (by simpa using h)] at hx; cases hx
      have hx2 : x = latchAt r j := by
        rw [List.getElem?_map, List.getElem?_range hj] at hx
        cases hx; rfl
      subst hx2
      rw [Nat.zero_add, cellsAt hfr]
      obtain ⟨u0, u1, u2⟩ := hv'.out j hj
      match i, hi with
      | 0, _ => exact u0
      | 1, _ => exact u1
      | 2, _ => exact u2
end Go.Proofs.YtgajbgdkgelkgaaGreat
