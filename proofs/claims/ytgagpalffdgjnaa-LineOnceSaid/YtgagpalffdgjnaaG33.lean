/- Layer 21, the walks: the law's read; are lists of one thing done alike? · Layer 21: a line's calls, over the line as it is. · Layer 21: what the live question's calls answer. · Layer 21: of jobs that wait the urgent ones go first, each class in its order: the plain law. -/
import Derived.Test.YtgagpalffdgjnaaLineG
namespace Go.Proofs.Ytgagpalffdgjnaa
open Go.RowKit

/-- A job that reads registers. -/
def readJ (i : Nat) (u : Bool) : Jp := ⟨i, 3, 4, (i : Int) % 9, 1 + (i : Int) % 1024 % 5, [], 0, u⟩
set_option maxRecDepth 100000 in
set_option maxHeartbeats 1600000 in
theorem read_any (i : Nat) (u : Bool) (w : World) (hi : i < 64) :
    Calls Try.prog 13 #[.int .i64 i, .bool u] w fun e w' => e = .returned (jobV i 3 4 ((i : Int) % 9) (1 + (i : Int) % 1024 % 5) none 0 0 0 u) ∧ Ext w w' := by
  have hand : bits .and .i64 (i : Int) 1023 = (i : Int) % 1024 := by
    have h0 : ∀ i : Nat, i < 64 → bits .and .i64 (i : Int) 1023 = (i : Int) := by decide
    rw [h0 i hi]; omega
  have f1 : IntKind.i64.wrap ((i : Int) % 9) = (i : Int) % 9 := by rw [IntKind.wrap_i64]; omega
  go_enter Try.func13, Try.ntmps13
  go_wp2_with fail
  have hb := heap_alloc_new w (.cells #[.int .i64 (i : Int), .int .i64 3, .int .i64 4, .int .i64 ((i : Int) % 9), .int .i64 (1 + (i : Int) % 1024 % 5), .slice none 0 0, .int .i64 0, .bool u] 32)
  have z0 : (w.alloc (.cells #[.int .i64 (i : Int), .int .i64 3, .int .i64 4, .int .i64 ((i : Int) % 9), .int .i64 (1 + (i : Int) % 1024 % 5), .slice none 0 0, .int .i64 0, .bool u] 32)).cell? ⟨w.heap.size, 0, none⟩ = some (.int .i64 (i : Int)) := cellsAt hb 0
  have z1 : (w.alloc (.cells #[.int .i64 (i : Int), .int .i64 3, .int .i64 4, .int .i64 ((i : Int) % 9), .int .i64 (1 + (i : Int) % 1024 % 5), .slice none 0 0, .int .i64 0, .bool u] 32)).cell? ⟨w.heap.size, 1, none⟩ = some (.int .i64 3) := cellsAt hb 1
  have z2 : (w.alloc (.cells #[.int .i64 (i : Int), .int .i64 3, .int .i64 4, .int .i64 ((i : Int) % 9), .int .i64 (1 + (i : Int) % 1024 % 5), .slice none 0 0, .int .i64 0, .bool u] 32)).cell? ⟨w.heap.size, 2, none⟩ = some (.int .i64 4) := cellsAt hb 2
  have z3 : (w.alloc (.cells #[.int .i64 (i : Int), .int .i64 3, .int .i64 4, .int .i64 ((i : Int) % 9), .int .i64 (1 + (i : Int) % 1024 % 5), .slice none 0 0, .int .i64 0, .bool u] 32)).cell? ⟨w.heap.size, 3, none⟩ = some (.int .i64 ((i : Int) % 9)) := cellsAt hb 3
  have z4 : (w.alloc (.cells #[.int .i64 (i : Int), .int .i64 3, .int .i64 4, .int .i64 ((i : Int) % 9), .int .i64 (1 + (i : Int) % 1024 % 5), .slice none 0 0, .int .i64 0, .bool u] 32)).cell? ⟨w.heap.size, 4, none⟩ = some (.int .i64 (1 + (i : Int) % 1024 % 5)) := cellsAt hb 4
  have z5 : (w.alloc (.cells #[.int .i64 (i : Int), .int .i64 3, .int .i64 4, .int .i64 ((i : Int) % 9), .int .i64 (1 + (i : Int) % 1024 % 5), .slice none 0 0, .int .i64 0, .bool u] 32)).cell? ⟨w.heap.size, 5, none⟩ = some (.slice none 0 0) := cellsAt hb 5
  have z6 : (w.alloc (.cells #[.int .i64 (i : Int), .int .i64 3, .int .i64 4, .int .i64 ((i : Int) % 9), .int .i64 (1 + (i : Int) % 1024 % 5), .slice none 0 0, .int .i64 0, .bool u] 32)).cell? ⟨w.heap.size, 6, none⟩ = some (.int .i64 0) := cellsAt hb 6
  have z7 : (w.alloc (.cells #[.int .i64 (i : Int), .int .i64 3, .int .i64 4, .int .i64 ((i : Int) % 9), .int .i64 (1 + (i : Int) % 1024 % 5), .slice none 0 0, .int .i64 0, .bool u] 32)).cell? ⟨w.heap.size, 7, none⟩ = some (.bool u) := cellsAt hb 7
  refine bodyPost_ret (v := jobV i 3 4 ((i : Int) % 9) (1 + (i : Int) % 1024 % 5) none 0 0 0 u) (by simp [results, Try.results13, go_sem, jobV, z0, z1, z2, z3, z4, z5, z6, z7]) rfl ?_
  exact ⟨rfl, (Ext.refl w).goA _⟩
set_option maxRecDepth 100000 in
set_option maxHeartbeats 3200000 in
theorem sameDone_one (g1 o1 c1 g2 o2 c2 : Nat) (id err code : Int) (A1 A2 : Option Addr) (n1 m1 n2 m2 : Nat) (ys : List Int) (w : World)
    (h1 : w.cell? ⟨g1, o1, none⟩ = some (.int .i64 id) ∧ w.cell? ⟨g1, o1 + 1, none⟩ = some (.int .i64 err) ∧ w.cell? ⟨g1, o1 + 2, none⟩ = some (.int .i64 code) ∧ w.cell? ⟨g1, o1 + 3, none⟩ = some (.slice A1 n1 m1))
    (h2 : w.cell? ⟨g2, o2, none⟩ = some (.int .i64 id) ∧ w.cell? ⟨g2, o2 + 1, none⟩ = some (.int .i64 err) ∧ w.cell? ⟨g2, o2 + 2, none⟩ = some (.int .i64 code) ∧ w.cell? ⟨g2, o2 + 3, none⟩ = some (.slice A2 n2 m2))
    (r1 : RdI w w.heap.size .u16 A1 n1 ys) (r2 : RdI w w.heap.size .u16 A2 n2 ys) (hn1 : n1 ≤ maxLen) (hn2 : n2 ≤ maxLen) :
    Calls Try.prog 42 #[.slice (some ⟨g1, o1, none⟩) 1 c1, .slice (some ⟨g2, o2, none⟩) 1 c2] w fun e w' => e = .returned (.bool true) ∧ Ext w w' := by
  have l1 := cell_lt h1.1
  have l2 := cell_lt h2.1
  have a0 : ∀ w', Ext w w' → w'.cell? ⟨g1, o1, none⟩ = some (.int .i64 id) := fun w' E => (E.cell _ l1).trans h1.1
  have a1 : ∀ w', Ext w w' → w'.cell? ⟨g1, o1 + 1, none⟩ = some (.int .i64 err) := fun w' E => (E.cell _ l1).trans h1.2.1
  have a2 : ∀ w', Ext w w' → w'.cell? ⟨g1, o1 + 2, none⟩ = some (.int .i64 code) := fun w' E => (E.cell _ l1).trans h1.2.2.1
  have a3 : ∀ w', Ext w w' → w'.cell? ⟨g1, o1 + 3, none⟩ = some (.slice A1 n1 m1) := fun w' E => (E.cell _ l1).trans h1.2.2.2
  have b0 : ∀ w', Ext w w' → w'.cell? ⟨g2, o2, none⟩ = some (.int .i64 id) := fun w' E => (E.cell _ l2).trans h2.1
  have b1 : ∀ w', Ext w w' → w'.cell? ⟨g2, o2 + 1, none⟩ = some (.int .i64 err) := fun w' E => (E.cell _ l2).trans h2.2.1
  have b2 : ∀ w', Ext w w' → w'.cell? ⟨g2, o2 + 2, none⟩ = some (.int .i64 code) := fun w' E => (E.cell _ l2).trans h2.2.2.1
  have b3 : ∀ w', Ext w w' → w'.cell? ⟨g2, o2 + 3, none⟩ = some (.slice A2 n2 m2) := fun w' E => (E.cell _ l2).trans h2.2.2.2
  have hsame : ∀ w', Ext w w' → Calls Try.prog 74 #[.agg #[.int .i64 code, .slice A1 n1 m1], .agg #[.int .i64 code, .slice A2 n2 m2]] w' fun e w'' => e = .returned (.bool true) ∧ Ext w' w'' := fun w' E => by
    refine (same05_any code code A1 A2 n1 m1 n2 m2 _ ys ys w' (r1.ext E) (r2.ext E) (Nat.le_refl _) hn1 hn2).mono ?_
    rintro e w2 ⟨rfl, E2⟩
    exact ⟨by simp, E2⟩
  clear r1 r2 h1 h2
  go_enter Try.func42, Try.ntmps42
  go_wp2_with fail
  go_loopw [5] (fun i wr => ∃ j : Nat, j ≤ 1 ∧ i = .int .i64 j ∧ Ext w wr) (fun i _ => 1 - (intOf i).toNat)
  case atStart => exact ⟨0, by omega, rfl, Ext.refl w⟩
  case round =>
    obtain ⟨j, hj, rfl, E⟩ := hrel
    by_cases hj0 : j = 0
    · subst hj0
      have t1 : decide (((0 : Nat) : Int) < 1) = true := by decide
      go_upto_region 6 with fail
      refine wp_region_held_drew (S := fun w' => Ext w w') (by kernel_rfl) (E.god) (fun hHeld => ?_)
      refine wpAnyH_take (i := 0) (oi := _) (v := ?_) rfl (by kernel_rfl) (by kernel_rfl) (by kernel_rfl) (fun _ _ _ h => h) (Or.inl ⟨by rfl, ?_⟩) (by assumption) ?_
      rotate_left
      · intro w hSw
        (try dsimp only at hSw)
        go_simp
        try (with_reducible rfl)
      try simp only [Act.put, List.getElem_toArray, List.getElem_cons_zero, List.setIfInBounds_toArray, List.set_cons_zero, List.set_cons_succ]
      refine wpAnyH_take (i := 1) (oi := _) (v := ?_) rfl (by kernel_rfl) (by kernel_rfl) (by kernel_rfl) (fun _ _ _ h => h) (Or.inl ⟨by rfl, ?_⟩) (by assumption) ?_
      rotate_left
      · intro w hSw
        (try dsimp only at hSw)
        go_simp
        try (with_reducible rfl)
      try simp only [Act.put, List.getElem_toArray, List.getElem_cons_succ, List.getElem_cons_zero, List.setIfInBounds_toArray, List.set_cons_zero, List.set_cons_succ]
      refine wpAnyH_take (i := 2) (oi := _) (v := ?_) rfl (by kernel_rfl) (by kernel_rfl) (by kernel_rfl) (fun _ _ _ h => h) (Or.inl ⟨by rfl, ?_⟩) (by assumption) ?_
      rotate_left
      · intro w hSw
        (try dsimp only at hSw)
        go_simp
        try (with_reducible rfl)
      try simp only [Act.put, List.getElem_toArray, List.getElem_cons_succ, List.getElem_cons_zero, List.setIfInBounds_toArray, List.set_cons_zero, List.set_cons_succ]
      refine wpAnyH_take (i := 3) (oi := _) (v := ?_) rfl (by kernel_rfl) (by kernel_rfl) (by kernel_rfl) (fun _ _ _ h => h) (Or.inl ⟨by rfl, ?_⟩) (by assumption) ?_
      rotate_left
      · intro w hSw
        (try dsimp only at hSw)
        go_simp
        try (with_reducible rfl)
      try simp only [Act.put, List.getElem_toArray, List.getElem_cons_succ, List.getElem_cons_zero, List.setIfInBounds_toArray, List.set_cons_zero, List.set_cons_succ]
      refine wpAnyH_take (i := 4) (oi := _) (v := ?_) rfl (by kernel_rfl) (by kernel_rfl) (by kernel_rfl) (fun _ _ _ h => h) (Or.inl ⟨by rfl, ?_⟩) (by assumption) ?_
      rotate_left
      · intro w hSw
        (try dsimp only at hSw)
        go_simp
        try (with_reducible rfl)
      try simp only [Act.put, List.getElem_toArray, List.getElem_cons_succ, List.getElem_cons_zero, List.setIfInBounds_toArray, List.set_cons_zero, List.set_cons_succ]
      refine wpAnyH_take (i := 5) (oi := _) (v := ?_) rfl (by kernel_rfl) (by kernel_rfl) (by kernel_rfl) (fun _ _ _ h => h) (Or.inl ⟨by rfl, ?_⟩) (by assumption) ?_
      rotate_left
      · intro w hSw
        (try dsimp only at hSw)
        go_simp
        try (with_reducible rfl)
      try simp only [Act.put, List.getElem_toArray, List.getElem_cons_succ, List.getElem_cons_zero, List.setIfInBounds_toArray, List.set_cons_zero, List.set_cons_succ]
      refine wpAnyH_take (i := 6) (oi := _) (v := ?_) rfl (by kernel_rfl) (by kernel_rfl) (by kernel_rfl) (fun _ _ _ h => h) (Or.inl ⟨by rfl, ?_⟩) (by assumption) ?_
      rotate_left
      · intro w hSw
        (try dsimp only at hSw)
        go_simp
        try (with_reducible rfl)
      try simp only [Act.put, List.getElem_toArray, List.getElem_cons_succ, List.getElem_cons_zero, List.setIfInBounds_toArray, List.set_cons_zero, List.set_cons_succ]
      refine wpAnyH_take (i := 7) (oi := _) (v := ?_) rfl (by kernel_rfl) (by kernel_rfl) (by kernel_rfl) (fun _ _ _ h => h) (Or.inl ⟨by rfl, ?_⟩) (by assumption) ?_
      rotate_left
      · intro w hSw
        (try dsimp only at hSw)
        go_simp
        try (with_reducible rfl)
      try simp only [Act.put, List.getElem_toArray, List.getElem_cons_succ, List.getElem_cons_zero, List.setIfInBounds_toArray, List.set_cons_zero, List.set_cons_succ]
      refine wpAnyH_take (i := 8) (oi := _) (v := ?_) rfl (by kernel_rfl) (by kernel_rfl) (by kernel_rfl) (fun _ _ _ h => h) (Or.inl ⟨by rfl, ?_⟩) (by assumption) ?_
      rotate_left
      · intro w hSw
        (try dsimp only at hSw)
        go_simp
        try (with_reducible rfl)
      try simp only [Act.put, List.getElem_toArray, List.getElem_cons_succ, List.getElem_cons_zero, List.setIfInBounds_toArray, List.set_cons_zero, List.set_cons_succ]
      refine wpAnyH_take (i := 9) (oi := _) (v := ?_) rfl (by kernel_rfl) (by kernel_rfl) (by kernel_rfl) (fun _ _ _ h => h) (Or.inl ⟨by rfl, ?_⟩) (by assumption) ?_
      rotate_left
      · intro w hSw
        (try dsimp only at hSw)
        go_simp
        try (with_reducible rfl)
      try simp only [Act.put, List.getElem_toArray, List.getElem_cons_succ, List.getElem_cons_zero, List.setIfInBounds_toArray, List.set_cons_zero, List.set_cons_succ]
      refine wpAnyH_take (i := 10) (oi := _) (v := ?_) rfl (by kernel_rfl) (by kernel_rfl) (by kernel_rfl) (fun _ _ _ h => h) (Or.inl ⟨by rfl, ?_⟩) (by assumption) ?_
      rotate_left
      · intro w hSw
        (try dsimp only at hSw)
        go_simp
        try (with_reducible rfl)
      try simp only [Act.put, List.getElem_toArray, List.getElem_cons_succ, List.getElem_cons_zero, List.setIfInBounds_toArray, List.set_cons_zero, List.set_cons_succ]
      refine wpAnyH_take (i := 11) (oi := _) (v := ?_) rfl (by kernel_rfl) (by kernel_rfl) (by kernel_rfl) (fun _ _ _ h => h) (Or.inl ⟨by rfl, ?_⟩) (by assumption) ?_
      rotate_left
      · intro w hSw
        (try dsimp only at hSw)
        go_simp
        try (with_reducible rfl)
      try simp only [Act.put, List.getElem_toArray, List.getElem_cons_succ, List.getElem_cons_zero, List.setIfInBounds_toArray, List.set_cons_zero, List.set_cons_succ]
      refine wpAnyH_take (i := 12) (oi := _) (v := ?_) rfl (by kernel_rfl) (by kernel_rfl) (by kernel_rfl) (fun _ _ _ h => h) (Or.inl ⟨by rfl, ?_⟩) (by assumption) ?_
      rotate_left
      · intro w hSw
        (try dsimp only at hSw)
        go_simp
        try (with_reducible rfl)
      try simp only [Act.put, List.getElem_toArray, List.getElem_cons_succ, List.getElem_cons_zero, List.setIfInBounds_toArray, List.set_cons_zero, List.set_cons_succ]
      refine wpAnyH_take (i := 13) (oi := _) (v := ?_) rfl (by kernel_rfl) (by kernel_rfl) (by kernel_rfl) (fun _ _ _ h => h) (Or.inl ⟨by rfl, ?_⟩) (by assumption) ?_
      rotate_left
      · intro w hSw
        (try dsimp only at hSw)
        go_simp
        try (with_reducible rfl)
      try simp only [Act.put, List.getElem_toArray, List.getElem_cons_succ, List.getElem_cons_zero, List.setIfInBounds_toArray, List.set_cons_zero, List.set_cons_succ]
      refine wpAnyH_take (i := 14) (oi := _) (v := ?_) rfl (by kernel_rfl) (by kernel_rfl) (by kernel_rfl) (fun _ _ _ h => h) (Or.inl ⟨by rfl, ?_⟩) (by assumption) ?_
      rotate_left
      · intro w hSw
        (try dsimp only at hSw)
        go_simp
        try (with_reducible rfl)
      try simp only [Act.put, List.getElem_toArray, List.getElem_cons_succ, List.getElem_cons_zero, List.setIfInBounds_toArray, List.set_cons_zero, List.set_cons_succ]
      refine wpAnyH_take (i := 15) (oi := _) (v := ?_) rfl (by kernel_rfl) (by kernel_rfl) (by kernel_rfl) (fun _ _ _ h => h) (Or.inl ⟨by rfl, ?_⟩) (by assumption) ?_
      rotate_left
      · intro w hSw
        (try dsimp only at hSw)
        go_simp
        try (with_reducible rfl)
      try simp only [Act.put, List.getElem_toArray, List.getElem_cons_succ, List.getElem_cons_zero, List.setIfInBounds_toArray, List.set_cons_zero, List.set_cons_succ]
      refine wpAnyH_take (i := 16) (oi := _) (v := ?_) rfl (by kernel_rfl) (by kernel_rfl) (by kernel_rfl) (fun _ _ _ h => h) (Or.inl ⟨by rfl, ?_⟩) (by assumption) ?_
      rotate_left
      · intro w hSw
        (try dsimp only at hSw)
        go_simp
        try (with_reducible rfl)
      try simp only [Act.put, List.getElem_toArray, List.getElem_cons_succ, List.getElem_cons_zero, List.setIfInBounds_toArray, List.set_cons_zero, List.set_cons_succ]
      refine wpAnyH_take (i := 17) (oi := _) (v := ?_) rfl (by kernel_rfl) (by kernel_rfl) (by kernel_rfl) (fun _ _ _ h => h) (Or.inl ⟨by rfl, ?_⟩) (by assumption) ?_
      rotate_left
      · intro w hSw
        (try dsimp only at hSw)
        go_simp
        try (with_reducible rfl)
      try simp only [Act.put, List.getElem_toArray, List.getElem_cons_succ, List.getElem_cons_zero, List.setIfInBounds_toArray, List.set_cons_zero, List.set_cons_succ]
      refine wpAnyH_take (i := 18) (oi := _) (v := ?_) rfl (by kernel_rfl) (by kernel_rfl) (by kernel_rfl) (fun _ _ _ h => h) (Or.inl ⟨by rfl, ?_⟩) (by assumption) ?_
      rotate_left
      · intro w hSw
        (try dsimp only at hSw)
        go_simp
        try (with_reducible rfl)
      try simp only [Act.put, List.getElem_toArray, List.getElem_cons_succ, List.getElem_cons_zero, List.setIfInBounds_toArray, List.set_cons_zero, List.set_cons_succ]
      refine wpAnyH_take (i := 19) (oi := _) (v := ?_) rfl (by kernel_rfl) (by kernel_rfl) (by kernel_rfl) (fun _ _ _ h => h) (Or.inl ⟨by rfl, ?_⟩) (by assumption) ?_
      rotate_left
      · intro w hSw
        (try dsimp only at hSw)
        go_simp
        try (with_reducible rfl)
      try simp only [Act.put, List.getElem_toArray, List.getElem_cons_succ, List.getElem_cons_zero, List.setIfInBounds_toArray, List.set_cons_zero, List.set_cons_succ]
      refine wpAnyH_take (i := 20) (oi := _) (v := ?_) rfl (by kernel_rfl) (by kernel_rfl) (by kernel_rfl) (fun _ _ _ h => h) (Or.inl ⟨by rfl, ?_⟩) (by assumption) ?_
      rotate_left
      · intro w hSw
        (try dsimp only at hSw)
        go_simp
        try (with_reducible rfl)
      try simp only [Act.put, List.getElem_toArray, List.getElem_cons_succ, List.getElem_cons_zero, List.setIfInBounds_toArray, List.set_cons_zero, List.set_cons_succ]
      refine wpAnyH_take (i := 21) (oi := _) (v := ?_) rfl (by kernel_rfl) (by kernel_rfl) (by kernel_rfl) (fun _ _ _ h => h) (Or.inl ⟨by rfl, ?_⟩) (by assumption) ?_
      rotate_left
      · intro w hSw
        (try dsimp only at hSw)
        go_simp
        try (with_reducible rfl)
      try simp only [Act.put, List.getElem_toArray, List.getElem_cons_succ, List.getElem_cons_zero, List.setIfInBounds_toArray, List.set_cons_zero, List.set_cons_succ]
      refine wpAnyH_take (i := 22) (oi := _) (v := ?_) rfl (by kernel_rfl) (by kernel_rfl) (by kernel_rfl) (fun _ _ _ h => h) (Or.inl ⟨by rfl, ?_⟩) (by assumption) ?_
      rotate_left
      · intro w hSw
        (try dsimp only at hSw)
        go_simp
        try (with_reducible rfl)
      try simp only [Act.put, List.getElem_toArray, List.getElem_cons_succ, List.getElem_cons_zero, List.setIfInBounds_toArray, List.set_cons_zero, List.set_cons_succ]
      refine wpAnyH_take (i := 23) (oi := _) (v := ?_) rfl (by kernel_rfl) (by kernel_rfl) (by kernel_rfl) (fun _ _ _ h => h) (Or.inl ⟨by rfl, ?_⟩) (by assumption) ?_
      rotate_left
      · intro w hSw
        (try dsimp only at hSw)
        go_simp
        try (with_reducible rfl)
      try simp only [Act.put, List.getElem_toArray, List.getElem_cons_succ, List.getElem_cons_zero, List.setIfInBounds_toArray, List.set_cons_zero, List.set_cons_succ]
      refine wpAnyH_take (i := 24) (oi := _) (v := ?_) rfl (by kernel_rfl) (by kernel_rfl) (by kernel_rfl) (fun _ _ _ h => h) (Or.inl ⟨by rfl, ?_⟩) (by assumption) ?_
      rotate_left
      · intro w hSw
        (try dsimp only at hSw)
        go_simp
        try (with_reducible rfl)
      try simp only [Act.put, List.getElem_toArray, List.getElem_cons_succ, List.getElem_cons_zero, List.setIfInBounds_toArray, List.set_cons_zero, List.set_cons_succ]
      refine wpAnyH_take (i := 25) (oi := _) (v := ?_) rfl (by kernel_rfl) (by kernel_rfl) (by kernel_rfl) (fun _ _ _ h => h) (Or.inl ⟨by rfl, ?_⟩) (by assumption) ?_
      rotate_left
      · intro w hSw
        (try dsimp only at hSw)
        go_simp
        try (with_reducible rfl)
      try simp only [Act.put, List.getElem_toArray, List.getElem_cons_succ, List.getElem_cons_zero, List.setIfInBounds_toArray, List.set_cons_zero, List.set_cons_succ]
      refine wpAnyH_take (i := 26) (oi := _) (v := ?_) rfl (by kernel_rfl) (by kernel_rfl) (by kernel_rfl) (fun _ _ _ h => h) (Or.inl ⟨by rfl, ?_⟩) (by assumption) ?_
      rotate_left
      · intro w hSw
        (try dsimp only at hSw)
        go_simp
        try (with_reducible rfl)
      try simp only [Act.put, List.getElem_toArray, List.getElem_cons_succ, List.getElem_cons_zero, List.setIfInBounds_toArray, List.set_cons_zero, List.set_cons_succ]
      refine wpAnyH_take (i := 27) (oi := _) (v := ?_) rfl (by kernel_rfl) (by kernel_rfl) (by kernel_rfl) (fun _ _ _ h => h) (Or.inl ⟨by rfl, ?_⟩) (by assumption) ?_
      rotate_left
      · intro w hSw
        (try dsimp only at hSw)
        go_simp
        try (with_reducible rfl)
      try simp only [Act.put, List.getElem_toArray, List.getElem_cons_succ, List.getElem_cons_zero, List.setIfInBounds_toArray, List.set_cons_zero, List.set_cons_succ]
      refine wpAnyH_take (i := 28) (oi := _) (v := ?_) rfl (by kernel_rfl) (by kernel_rfl) (by kernel_rfl) (fun _ _ _ h => h) (Or.inl ⟨by rfl, ?_⟩) (by assumption) ?_
      rotate_left
      · intro w hSw
        (try dsimp only at hSw)
        go_simp
        try (with_reducible rfl)
      try simp only [Act.put, List.getElem_toArray, List.getElem_cons_succ, List.getElem_cons_zero, List.setIfInBounds_toArray, List.set_cons_zero, List.set_cons_succ]
      refine wpAnyH_take (i := 29) (oi := _) (v := ?_) rfl (by kernel_rfl) (by kernel_rfl) (by kernel_rfl) (fun _ _ _ h => h) (Or.inl ⟨by rfl, ?_⟩) (by assumption) ?_
      rotate_left
      · intro w hSw
        (try dsimp only at hSw)
        go_simp
        try (with_reducible rfl)
      try simp only [Act.put, List.getElem_toArray, List.getElem_cons_succ, List.getElem_cons_zero, List.setIfInBounds_toArray, List.set_cons_zero, List.set_cons_succ]
      refine wpAnyH_take (i := 30) (oi := _) (v := ?_) rfl (by kernel_rfl) (by kernel_rfl) (by kernel_rfl) (fun _ _ _ h => h) (Or.inl ⟨by rfl, ?_⟩) (by assumption) ?_
      rotate_left
      · intro w hSw
        (try dsimp only at hSw)
        go_simp
        try (with_reducible rfl)
      try simp only [Act.put, List.getElem_toArray, List.getElem_cons_succ, List.getElem_cons_zero, List.setIfInBounds_toArray, List.set_cons_zero, List.set_cons_succ]
      refine wpAnyH_take (i := 31) (oi := _) (v := ?_) rfl (by kernel_rfl) (by kernel_rfl) (by kernel_rfl) (fun _ _ _ h => h) (Or.inl ⟨by rfl, ?_⟩) (by assumption) ?_
      rotate_left
      · intro w hSw
        (try dsimp only at hSw)
        go_simp
        try (with_reducible rfl)
      try simp only [Act.put, List.getElem_toArray, List.getElem_cons_succ, List.getElem_cons_zero, List.setIfInBounds_toArray, List.set_cons_zero, List.set_cons_succ]
      refine wpAnyH_take (i := 32) (oi := _) (v := ?_) rfl (by kernel_rfl) (by kernel_rfl) (by kernel_rfl) (fun _ _ _ h => h) (Or.inl ⟨by rfl, ?_⟩) (by assumption) ?_
      rotate_left
      · intro w hSw
        (try dsimp only at hSw)
        go_simp
        try (with_reducible rfl)
      try simp only [Act.put, List.getElem_toArray, List.getElem_cons_succ, List.getElem_cons_zero, List.setIfInBounds_toArray, List.set_cons_zero, List.set_cons_succ]
      refine wpAnyH_take (i := 33) (oi := _) (v := ?_) rfl (by kernel_rfl) (by kernel_rfl) (by kernel_rfl) (fun _ _ _ h => h) (Or.inl ⟨by rfl, ?_⟩) (by assumption) ?_
      rotate_left
      · intro w hSw
        (try dsimp only at hSw)
        go_simp
        try (with_reducible rfl)
      try simp only [Act.put, List.getElem_toArray, List.getElem_cons_succ, List.getElem_cons_zero, List.setIfInBounds_toArray, List.set_cons_zero, List.set_cons_succ]
      refine wpAnyH_take (i := 34) (oi := _) (v := ?_) rfl (by kernel_rfl) (by kernel_rfl) (by kernel_rfl) (fun _ _ _ h => h) (Or.inl ⟨by rfl, ?_⟩) (by assumption) ?_
      rotate_left
      · intro w hSw
        (try dsimp only at hSw)
        go_simp
        try (with_reducible rfl)
      try simp only [Act.put, List.getElem_toArray, List.getElem_cons_succ, List.getElem_cons_zero, List.setIfInBounds_toArray, List.set_cons_zero, List.set_cons_succ]
      refine wpAnyH_ready (rs := [35]) (by kernel_rfl) (by simp) ?_
      refine AllReadyH.cons rfl (fun K hK => ?_) ?_
      rotate_left
      · exact AllReadyH.nil
      go_simp
      go_at_call 74
      refine (hsame _ hHeld).mono ?_
      rintro _ w4 ⟨rfl, E4⟩
      have hHeld4 := Ext.go hHeld E4
      try dsimp only
      refine hK.out _ _ ?_ (fun hHeld => ?_)
      · first | assumption | (dsimp only; assumption)
      clear hK K
      try simp only [Act.put, List.getElem_toArray, List.getElem_cons_succ, List.getElem_cons_zero, List.setIfInBounds_toArray, List.set_cons_zero, List.set_cons_succ]
      refine wpAnyH_take (i := 36) (oi := _) (v := ?_) rfl (by kernel_rfl) (by kernel_rfl) (by kernel_rfl) (fun _ _ _ h => h) (Or.inl ⟨by rfl, ?_⟩) (by assumption) ?_
      rotate_left
      · intro w hSw
        (try dsimp only at hSw)
        go_simp
        try (with_reducible rfl)
      try simp only [Act.put, List.getElem_toArray, List.getElem_cons_succ, List.getElem_cons_zero, List.setIfInBounds_toArray, List.set_cons_zero, List.set_cons_succ]
      refine wpAnyH_take (i := 37) (oi := _) (v := ?_) rfl (by kernel_rfl) (by kernel_rfl) (by kernel_rfl) (fun _ _ _ h => h) (Or.inl ⟨by rfl, ?_⟩) (by assumption) ?_
      rotate_left
      · intro w hSw
        (try dsimp only at hSw)
        go_simp
        try (with_reducible rfl)
      try simp only [Act.put, List.getElem_toArray, List.getElem_cons_succ, List.getElem_cons_zero, List.setIfInBounds_toArray, List.set_cons_zero, List.set_cons_succ]
      refine wpAnyH_done (by kernel_rfl) ?_ _
      go_wp2_with fail
      go_roundw
      case rel => exact ⟨1, by omega, by go_num, by assumption⟩
      case measure => simp [intOf]
    · obtain rfl : j = 1 := by omega
      go_wp2_with fail
      go_ret
      exact ⟨rfl, E⟩
end Go.Proofs.Ytgagpalffdgjnaa
namespace Go.Proofs.Ytgagpalffdgjnaa
open Go.RowKit

theorem byteL_all {l : List Int} (h : l.all (fun y => decide (0 ≤ y ∧ y ≤ 255)) = true) : ByteL l := fun j => by
  rw [List.all_eq_true] at h
  rcases Nat.lt_or_ge j l.length with hj | hj
  · rw [List.getElem?_eq_getElem hj]
    simpa using h _ (List.getElem_mem hj)
  · rw [List.getElem?_eq_none hj]; simp
/-- The line L lies in memory. -/
def HasL (k : Bool) (w : World) (a q cu co s : Nat) (re wa : Int) (L : Lp) : Prop := ∃ M, M.p = L ∧ HasLn k w a q cu co s re wa M
section
variable {k : Bool} {w w' : World} {a q cu co s : Nat} {re wa : Int} {L : Lp}
theorem HasL.ext (h : HasL k w a q cu co s re wa L) (E : Ext w w') : HasL k w' a q cu co s re wa L := let ⟨M, e, hm⟩ := h; ⟨M, e, hm.ext E⟩
theorem HasL.lt (h : HasL k w a q cu co s re wa L) {b : Nat} (hb : LnB k a q cu co s b) : b < w.heap.size := let ⟨_, _, hm⟩ := h; hm.lt hb
theorem lineNewL_any (w : World) (h : 0 ≤ re ∧ re ≤ 7) (h2 : 1 ≤ wa ∧ wa ≤ 1000) :
    Calls Try.prog 11 #[.bool k, .int .i64 re, .int .i64 wa] w fun e w' => ∃ a q cu co s, e = .returned (.pointer (some ⟨a, 0, none⟩)) ∧ HasL k w' a q cu co s re wa lineL0 ∧ Ext w w' ∧ ∀ i, LnB k a q cu co s i → w.heap.size ≤ i := by
  refine (lineNew_any re wa w k h h2).mono ?_
  rintro _ w' ⟨a, q, cu, co, s, rfl, hm, E, hg⟩
  exact ⟨a, q, cu, co, s, rfl, ⟨newM, rfl, hm⟩, E, hg⟩
theorem askYes (h : HasL k w a q cu co s re wa L) {id un fc ad qt to : Int} {xs : List Int} {u : Bool} {A : Option Addr} {n c : Nat} {L' : Lp} (hx : RdI w w.heap.size .u16 A n xs) (hr : Word16 xs) (hn : n ≤ maxLen)
    (ho : askOk L ⟨id, un, fc, ad, qt, xs, to, u⟩ = true) (hl : askL L ⟨id, un, fc, ad, qt, xs, to, u⟩ = L') :
    Calls Try.prog 12 #[.pointer (some ⟨a, 0, none⟩), jobV id un fc ad qt A n c to u] w fun e w' => e = .returned (.bool true) ∧ Mod (LnB k a q cu co s) w w' ∧ HasL k w' a q cu co s re wa L' := by
  obtain ⟨M, rfl, hm⟩ := h
  refine (lineAsk_any k a q cu co s re wa M ⟨id, un, fc, ad, qt, xs, to, u⟩ A n c w hm hx hr hn).mono ?_
  rintro e w' (⟨_, rfl, m, M', e1, h1⟩ | ⟨h0, _⟩)
  · exact ⟨rfl, m, M', e1.trans hl, h1⟩
  · rw [ho] at h0; cases h0
theorem askNo (h : HasL k w a q cu co s re wa L) {id un fc ad qt to : Int} {xs : List Int} {u : Bool} {A : Option Addr} {n c : Nat} (hx : RdI w w.heap.size .u16 A n xs) (hr : Word16 xs) (hn : n ≤ maxLen)
    (ho : askOk L ⟨id, un, fc, ad, qt, xs, to, u⟩ = false) :
    Calls Try.prog 12 #[.pointer (some ⟨a, 0, none⟩), jobV id un fc ad qt A n c to u] w fun e w' => e = .returned (.bool false) ∧ Ext w w' := by
  obtain ⟨M, rfl, hm⟩ := h
  refine (lineAsk_any k a q cu co s re wa M ⟨id, un, fc, ad, qt, xs, to, u⟩ A n c w hm hx hr hn).mono ?_
  rintro e w' (⟨h0, _⟩ | ⟨_, rfl, E⟩)
  · rw [ho] at h0; cases h0
  · exact ⟨rfl, E⟩
theorem tickIs (h : HasL k w a q cu co s re wa L) {now : Int} {b : List Int} {ds : List Dn} {L' : Lp} (ht : tickR k re wa L now = (b, ds, L')) :
    Calls Try.prog 14 #[.pointer (some ⟨a, 0, none⟩), .int .i64 now] w fun e w' => ∃ v d, e = .returned (.tuple #[v, d]) ∧ BytesOut w w' v b ∧ DonesAt w' w.heap.size d ds ∧ Mod (LnB k a q cu co s) w w' ∧ HasL k w' a q cu co s re wa L' := by
  obtain ⟨M, rfl, hm⟩ := h
  refine (lineTick_any k a q cu co s re wa M now w hm).mono ?_
  rintro e w' ⟨v, d, rfl, hB, hD, m, M', e1, h1⟩
  rw [ht] at hB hD e1
  exact ⟨v, d, rfl, hB, hD, m, M', e1, h1⟩
theorem manyIs (h : HasL k w a q cu co s re wa L) :
    Calls Try.prog 21 #[.pointer (some ⟨a, 0, none⟩)] w fun e w' => e = .returned (.tuple #[.int .i64 L.U.length, .int .i64 L.O.length]) ∧ Ext w w' := by
  obtain ⟨M, rfl, hm⟩ := h
  refine (lineMany_any k a q cu co s re wa M w hm).mono ?_
  rintro e w' ⟨rfl, E⟩
  exact ⟨by simp [Lm.p], E⟩
theorem busyYes (h : HasL k w a q cu co s re wa L) (hb : L.busy = true) :
    Calls Try.prog 15 #[.pointer (some ⟨a, 0, none⟩)] w fun e w' => ∃ A n c, e = .returned (.tuple #[jobV L.J.id L.J.un L.J.fc L.J.ad L.J.qt A n c L.J.to L.J.u, .bool true]) ∧ n ≤ c ∧ c ≤ maxLen ∧ RdI w' w'.heap.size .u16 A n L.J.xs ∧ Ext w w' := by
  obtain ⟨M, rfl, hm⟩ := h
  refine (lineBusy_any k a q cu co s re wa M w hm).mono ?_
  rintro e w' ⟨E, ⟨_, A, n, c, rfl, g1, g2, r, _⟩ | ⟨h0, _⟩⟩
  · exact ⟨A, n, c, rfl, g1, g2, r, E⟩
  · rw [show M.busy = true from hb] at h0; cases h0
/-- Whatever it is busy with; its numbers lie in new memory. -/
theorem busyAny (h : HasL k w a q cu co s re wa L) :
    Calls Try.prog 15 #[.pointer (some ⟨a, 0, none⟩)] w fun e w' => ∃ id un fc ad qt A n c to u, e = .returned (.tuple #[jobV id un fc ad qt A n c to u, .bool L.busy]) ∧ n ≤ c ∧ c ≤ maxLen ∧ Ext w w' ∧ (L.busy = true → id = L.J.id ∧ fc = L.J.fc ∧ ad = L.J.ad ∧ qt = L.J.qt ∧ to = L.J.to ∧ RdI w' w'.heap.size .u16 A n L.J.xs ∧ ∀ b o, A = some ⟨b, o, none⟩ → w.heap.size ≤ b) := by
  obtain ⟨M, rfl, hm⟩ := h
  refine (lineBusy_any k a q cu co s re wa M w hm).mono ?_
  rintro e w' ⟨E, ⟨hb, A, n, c, rfl, g1, g2, r, hf⟩ | ⟨h0, rfl⟩⟩
  · exact ⟨M.J.p.id, M.J.p.un, M.J.p.fc, M.J.p.ad, M.J.p.qt, A, n, c, M.J.p.to, M.J.p.u, by rw [show M.p.busy = true from hb], g1, g2, E, fun _ => ⟨rfl, rfl, rfl, rfl, rfl, r, hf⟩⟩
  · exact ⟨0, 0, 0, 0, 0, none, 0, 0, 0, false, by rw [show M.p.busy = false from h0]; rfl, Nat.le_refl _, by unfold maxLen; omega, E, fun hh => Bool.noConfusion (hh.symm.trans (show M.p.busy = false from h0))⟩
theorem busyNo (h : HasL k w a q cu co s re wa L) (hb : L.busy = false) :
    Calls Try.prog 15 #[.pointer (some ⟨a, 0, none⟩)] w fun e w' => e = .returned (.tuple #[jobZ, .bool false]) ∧ Ext w w' := by
  obtain ⟨M, rfl, hm⟩ := h
  refine (lineBusy_any k a q cu co s re wa M w hm).mono ?_
  rintro e w' ⟨E, ⟨h0, _⟩ | ⟨_, rfl⟩⟩
  · rw [show M.busy = false from hb] at h0; cases h0
  · exact ⟨rfl, E⟩
theorem hearSer (h : HasL false w a q cu co s re wa L) {A : Option Addr} {n c : Nat} {l : List Int} {xa : List (Int × List Int)} {ds : List Dn} {L' : Lp} (hx : RdI w w.heap.size .u8 A n l) (hl : ByteL l) (hnc : n ≤ c) (hcm : c ≤ maxLen)
    (hs : serHeard l = xa) (hf : hearF L xa = (L', ds)) :
    Calls Try.prog 17 #[.pointer (some ⟨a, 0, none⟩), .slice A n c] w fun e w' => ∃ d, e = .returned d ∧ DonesAt w' w.heap.size d ds ∧ Mod (LnB false a q cu co s) w w' ∧ HasL false w' a q cu co s re wa L' := by
  obtain ⟨M, rfl, hm⟩ := h
  refine (lineHear_ser a q cu co s re wa M A n c l w hm hx hl hnc hcm).mono ?_
  rintro e w' ⟨d, rfl, hD, m, M', e1, h1⟩
  rw [hs, hf] at hD e1
  exact ⟨d, rfl, hD, m, M', e1, h1⟩
end
end Go.Proofs.Ytgagpalffdgjnaa
namespace Go.Proofs.Ytgagpalffdgjnaa
open Go.RowKit

def jA : Jp := ⟨1, 3, 4, 1, 2, [], 0, false⟩
def jB : Jp := ⟨2, 3, 4, 2, 3, [], 0, true⟩
def ldb2 : List Int := rtuL 3 [4, 0, 2, 0, 3]
def ldb1 : List Int := rtuL 3 [4, 0, 1, 0, 2]
def ldL1 : Lp := ⟨[], [jA], false, jpZ, 0, 0, 0, []⟩
def ldL2 : Lp := ⟨[jB], [jA], false, jpZ, 0, 0, 0, []⟩
def ldL3 : Lp := ⟨[], [jA], true, jB, 0, 1, 0, []⟩
def ldL4 : Lp := ⟨[], [jA], true, jB, 3, 2, 0, []⟩
def ldL5 : Lp := ⟨[], [], true, jA, 6, 1, 0, []⟩
def ldL6 : Lp := ⟨[], [], false, jpZ, 6, 1, 0, []⟩
theorem hd_1 : askOk lineL0 jA = true ∧ askL lineL0 jA = ldL1 := ⟨by decide, rfl⟩
theorem hd_2 : askOk ldL1 jB = true ∧ askL ldL1 jB = ldL2 := ⟨by decide, rfl⟩
theorem hd_3 : tickR false 1 3 ldL2 0 = (ldb2, [], ldL3) := rfl
theorem hd_4 : tickR false 1 3 ldL3 2 = ([], [], ldL3) := rfl
theorem hd_5 : tickR false 1 3 ldL3 3 = (ldb2, [], ldL4) := rfl
theorem hd_6 : tickR false 1 3 ldL4 6 = (ldb1, [⟨2, 211, 0, []⟩], ldL5) := rfl
theorem hd_7 : serHeard (rtuL 3 [4, 4, 0, 7, 0, 8]) = [(3, [4, 4, 0, 7, 0, 8])] := by kernel_rfl
theorem hd_8 : hearF ldL5 [(3, [4, 4, 0, 7, 0, 8])] = (ldL6, [⟨1, 0, 0, [7, 8]⟩]) := by kernel_rfl
theorem hd_9 : askOk ldL6 ⟨0, 1, 0, 0, 0, [], 0, false⟩ = false := by decide
theorem hd_len : ldb2.length = 8 ∧ ldb1.length = 8 := ⟨rfl, rfl⟩
end Go.Proofs.Ytgagpalffdgjnaa
namespace Go.Proofs.Ytgagpalffdgjnaa
open Go.RowKit

/-- The first i places that are urgent; that are not. -/
def urgI (us : List Bool) (b : Bool) (i : Nat) : List Nat := (List.range i).filter fun j => us.getD j false == b
theorem urgI_succ (us : List Bool) (b : Bool) (i : Nat) : urgI us b (i + 1) = urgI us b i ++ (if us.getD i false = b then [i] else []) := by
  unfold urgI
  rw [List.range_succ, List.filter_append]
  congr 1
  by_cases h : us.getD i false = b
  · rw [if_pos h]; simp only [List.filter_cons, List.filter_nil]; rw [if_pos (by rw [h]; simp)]
  · rw [if_neg h]; simp only [List.filter_cons, List.filter_nil]; rw [if_neg (by simpa using h)]
theorem urgI_le (us : List Bool) (b : Bool) (i : Nat) : (urgI us b i).length ≤ i := by
  have := List.length_filter_le (fun j => us.getD j false == b) (List.range i)
  rw [List.length_range] at this
  exact this
theorem urgI_lt (us : List Bool) (b : Bool) (i : Nat) : ∀ j ∈ urgI us b i, j < i := fun j h => by
  unfold urgI at h
  exact List.mem_range.1 (List.mem_filter.1 h).1
theorem urgI_all (us : List Bool) (i : Nat) : (urgI us true i).length + (urgI us false i).length = i := by
  induction i with
  | zero => rfl
  | succ i ih =>
    rw [urgI_succ, urgI_succ, List.length_append, List.length_append]
    cases us.getD i false <;> simp <;> omega
/-- The line behind i asks. -/
def askedL (us : List Bool) (i : Nat) : Lp := ⟨(urgI us true i).map (readJ · true), (urgI us false i).map (readJ · false), false, jpZ, 0, 0, 0, []⟩
theorem read_ok (i : Nat) (u : Bool) : (decide (1 ≤ (readJ i u).un) && decide ((readJ i u).un ≤ 247) && rightB' (readJ i u).fc (readJ i u).ad (readJ i u).qt (readJ i u).to (readJ i u).xs) = true := by
  have h1 : (0 : Int) ≤ (i : Int) % 9 ∧ (i : Int) % 9 ≤ 8 := by omega
  have h2 : (1 : Int) ≤ 1 + (i : Int) % 1024 % 5 ∧ 1 + (i : Int) % 1024 % 5 ≤ 5 := by omega
  unfold readJ
  dsimp only
  generalize (i : Int) % 9 = x at *
  generalize 1 + (i : Int) % 1024 % 5 = y at *
  have hx : x = 0 ∨ x = 1 ∨ x = 2 ∨ x = 3 ∨ x = 4 ∨ x = 5 ∨ x = 6 ∨ x = 7 ∨ x = 8 := by omega
  have hy : y = 1 ∨ y = 2 ∨ y = 3 ∨ y = 4 ∨ y = 5 := by omega
  rcases hx with rfl | rfl | rfl | rfl | rfl | rfl | rfl | rfl | rfl <;> rcases hy with rfl | rfl | rfl | rfl | rfl <;> rfl
theorem asked_ask (us : List Bool) (i : Nat) (hi : i < 60) (u : Bool) (hu : us.getD i false = u) : askOk (askedL us i) (readJ i u) = true ∧ askL (askedL us i) (readJ i u) = askedL us (i + 1) := by
  have l1 := urgI_le us true i
  have l2 := urgI_le us false i
  refine ⟨?_, ?_⟩
  · unfold askOk
    rw [read_ok, Bool.true_and]
    apply decide_eq_true
    cases u <;> simp [askedL, readJ] <;> omega
  · unfold askL
    cases u
    · rw [if_neg (by simp [readJ])]
      unfold askedL
      rw [urgI_succ, urgI_succ, hu]
      simp
    · rw [if_pos (by rfl)]
      unfold askedL
      rw [urgI_succ, urgI_succ, hu]
      simp
/-- Who goes when. -/
def orderI (us : List Bool) : List Nat := urgI us true us.length ++ urgI us false us.length
theorem orderI_length (us : List Bool) : (orderI us).length = us.length := by unfold orderI; rw [List.length_append, urgI_all]
/-- The line behind i ticks. -/
def tickedL (us : List Bool) (i : Nat) : Lp :=
  ⟨((urgI us true us.length).drop i).map (readJ · true), ((urgI us false us.length).drop (i - (urgI us true us.length).length)).map (readJ · false), decide (0 < i),
    if i = 0 then jpZ else readJ ((orderI us).getD (i - 1) 0) (decide (i - 1 < (urgI us true us.length).length)), (i - 1 : Nat), if i = 0 then 0 else 1, 0, []⟩
theorem ticked_zero (us : List Bool) : tickedL us 0 = askedL us us.length := by simp [tickedL, askedL]
theorem ticked_take (us : List Bool) (i : Nat) (hi : i < us.length) :
    takeL (tickedL us i).U (tickedL us i).O = some (readJ ((orderI us).getD i 0) (decide (i < (urgI us true us.length).length)), (tickedL us (i + 1)).U, (tickedL us (i + 1)).O) := by
  have hall := urgI_all us us.length
  unfold tickedL orderI
  dsimp only
  by_cases h : i < (urgI us true us.length).length
  · rw [List.drop_eq_getElem_cons h, List.map_cons]
    unfold takeL
    rw [decide_eq_true h, List.getD_eq_getElem?_getD, List.getElem?_append_left h, List.getElem?_eq_getElem h]
    simp only [Option.getD_some]
    rw [show i - (urgI us true us.length).length = i + 1 - (urgI us true us.length).length from by omega]
  · have h2 : i - (urgI us true us.length).length < (urgI us false us.length).length := by omega
    rw [List.drop_of_length_le (by omega), List.map_nil, List.drop_eq_getElem_cons h2, List.map_cons]
    unfold takeL
    rw [decide_eq_false h, List.getD_eq_getElem?_getD, List.getElem?_append_right (by omega), List.getElem?_eq_getElem h2]
    simp only [Option.getD_some]
    have e1 : (urgI us true us.length).drop (i + 1) = [] := List.drop_of_length_le (by omega)
    rw [e1, List.map_nil, show i - (urgI us true us.length).length + 1 = i + 1 - (urgI us true us.length).length from by omega]
theorem ticked_sent (us : List Bool) (i : Nat) (L : Lp) (hn : L.num = 0) (hc : L.cm = []) :
    sentL false (takenL L (readJ ((orderI us).getD i 0) (decide (i < (urgI us true us.length).length))) (tickedL us (i + 1)).U (tickedL us (i + 1)).O) (i : Int) = tickedL us (i + 1) ∧
    sentBytes false (takenL L (readJ ((orderI us).getD i 0) (decide (i < (urgI us true us.length).length))) (tickedL us (i + 1)).U (tickedL us (i + 1)).O) = sentBytes false (tickedL us (i + 1)) := by
  refine ⟨?_, ?_⟩
  · unfold sentL takenL tickedL nextNum
    simp [hn, hc]
  · unfold sentBytes takenL tickedL nextNum
    simp [hn]
theorem ticked_tick (us : List Bool) (i : Nat) (hi : i < us.length) (h60 : us.length ≤ 60) : ∃ ds, tickR false 0 1 (tickedL us i) (i : Int) = (sentBytes false (tickedL us (i + 1)), ds, tickedL us (i + 1)) := by
  have ht := ticked_take us i hi
  rcases Nat.eq_zero_or_pos i with h0 | h0
  · subst h0
    refine ⟨[], ?_⟩
    rw [tick_idle_eq false 0 1 _ _ (by omega) (by omega) (by rfl)]
    unfold nextR
    rw [ht]
    dsimp only
    have := ticked_sent us 0 (tickedL us 0) rfl rfl
    rw [this.1, this.2]
  · refine ⟨[⟨(tickedL us i).J.id, 211, 0, []⟩], ?_⟩
    have hs : (tickedL us i).sent = ((i - 1 : Nat) : Int) := rfl
    have htm : (tickedL us i).times = 1 := by unfold tickedL; dsimp only; rw [if_neg (by omega)]
    rw [(tick_due false 0 1 (tickedL us i) i (by omega) (by omega) (by unfold tickedL; exact decide_eq_true h0)).2.2 (by rw [hs]; omega) (by rw [htm]; omega)]
    unfold nextR
    rw [show (endL (tickedL us i)).U = (tickedL us i).U from rfl, show (endL (tickedL us i)).O = (tickedL us i).O from rfl, ht]
    dsimp only
    have := ticked_sent us i (endL (tickedL us i)) rfl rfl
    rw [this.1, this.2]
theorem sent_read (L : Lp) (i : Nat) (u : Bool) (h : L.J = readJ i u) : (sentBytes false L).length = 8 := by
  have h1 : (0 : Int) ≤ (i : Int) % 9 ∧ (i : Int) % 9 ≤ 8 := by omega
  have h2 : (1 : Int) ≤ 1 + (i : Int) % 1024 % 5 ∧ 1 + (i : Int) % 1024 % 5 ≤ 5 := by omega
  unfold sentBytes frameL
  rw [if_neg (by decide), h]
  unfold readJ
  dsimp only
  generalize (i : Int) % 9 = x at *
  generalize 1 + (i : Int) % 1024 % 5 = y at *
  have hp : (putL 4 x y 0 []).length = 5 := by
    have hx : x = 0 ∨ x = 1 ∨ x = 2 ∨ x = 3 ∨ x = 4 ∨ x = 5 ∨ x = 6 ∨ x = 7 ∨ x = 8 := by omega
    have hy : y = 1 ∨ y = 2 ∨ y = 3 ∨ y = 4 ∨ y = 5 := by omega
    rcases hx with rfl | rfl | rfl | rfl | rfl | rfl | rfl | rfl | rfl <;> rcases hy with rfl | rfl | rfl | rfl | rfl <;> rfl
  unfold rtuL sealL
  rw [if_pos (by omega)]
  simp [hp]
end Go.Proofs.Ytgagpalffdgjnaa
