
/- Layer 6, the walks: New. -/
import Derived.Test.YtgeahfkhfpdlhaaBankA
import Derived.Test.YtgeahfkhfpdlhaaPduMap
import Derived.Deep.RegionHeld
namespace Go.Proofs.Ytgeahfkhfpdlhaa
open Go.RowKit

def clampN (n : Int) : Nat := (max 0 (min n 256)).toNat
theorem clampN_le (n : Int) : clampN n ≤ 256 := by unfold clampN; omega
def sz4 (a0 a1 a2 a3 : Int) : Nat → Int
  | 0 => a0
  | 1 => a1
  | 2 => a2
  | _ => a3
def newL (a0 a1 a2 a3 : Int) : Nat → List Int := fun k => zs (clampN (sz4 a0 a1 a2 a3 k))
def NewPost (a0 a1 a2 a3 : Int) (w : World) (e : Ending) (w' : World) : Prop :=
  ∃ g G, e = .returned (.pointer (some ⟨g, 0, none⟩)) ∧ Bk w' g (newL a0 a1 a2 a3) G ∧ Ext w w' ∧ w.heap.size ≤ g
def partV (L : Nat → List Int) (G : Nat → Nat) (k j : Nat) : Value := if j < k then slotV L G j else .slice none 0 0
/-- A bank of which the first k rows were made. -/
structure BkPart (w : World) (g : Nat) (L : Nat → List Int) (G : Nat → Nat) (k : Nat) : Prop where
  head : w.heap[g]? = some (.cells #[partV L G k 0, partV L G k 1, partV L G k 2, partV L G k 3] 109 (0, 0))
  rowAt : ∀ j, j < k → Blk w (G j) 34 .u16 (L j)
  up0 : ∀ j, j < k → g < G j
  up : ∀ i j, i < j → j < k → G i < G j
theorem BkPart.lt {w : World} {g : Nat} {L : Nat → List Int} {G : Nat → Nat} {k : Nat} (h : BkPart w g L G k) : g < w.heap.size := (Array.getElem?_eq_some_iff.1 h.head).1
theorem setCell_size (w : World) (p : Addr) (u : Value) : (w.setCell p u).heap.size = w.heap.size := by simp [World.setCell]
theorem BkPart.step {w w1 : World} {g : Nat} {L : Nat → List Int} {G : Nat → Nat} {k m : Nat} (h : BkPart w g L G k) (hk : k < 4) (hL : L k = zs m)
    (hw : w1.heap = ((w.setCell ⟨g, k, none⟩ (.slice (some ⟨w.heap.size, 0, none⟩) m m)).alloc (.cells (row .u16 (zs m)) 34)).heap) : BkPart w1 g L (fun j => if j = k then w.heap.size else G j) (k + 1) := by
  have hg := h.lt
  have hold : ∀ b, b < w.heap.size → b ≠ g → w1.heap[b]? = w.heap[b]? := fun b hb hn => by
    rw [hw, alloc_get, setCell_size, if_neg (by omega), Below.heap_setCell _ _ _ _ (by simpa using hn)]
  refine ⟨?_, fun j hj => ?_, fun j hj => ?_, fun i j hi hj => ?_⟩
  · have h0 := h.head
    rw [hw, alloc_get, setCell_size, if_neg (by omega)]
    simp only [World.setCell, Array.getElem?_modify, h0, if_true, Option.map_some]
    congr 2
    unfold partV slotV
    rcases (show k = 0 ∨ k = 1 ∨ k = 2 ∨ k = 3 by omega) with rfl | rfl | rfl | rfl
    all_goals simp [hL, zs_length]
  · by_cases e : j = k
    · subst e
      simp only [if_true]
      rw [hL]
      unfold Blk
      rw [hw, alloc_get, setCell_size, if_pos rfl]
    · simp only [if_neg e]
      have hj' : j < k := by omega
      have := h.rowAt j hj'
      exact (hold (G j) this.lt (by have := h.up0 j hj'; omega)).trans this
  · by_cases e : j = k
    · simp only [if_pos e]; exact hg
    · simp only [if_neg e]; exact h.up0 j (by omega)
  · by_cases e : j = k
    · simp only [if_pos e, if_neg (show ¬ i = k by omega)]; exact (h.rowAt i (by omega)).lt
    · simp only [if_neg e, if_neg (show ¬ i = k by omega)]; exact h.up i j hi (by omega)
theorem zs_range (n : Nat) : ∀ j : Nat, 0 ≤ (zs n)[j]?.getD 0 ∧ (zs n)[j]?.getD 0 ≤ 65535 := by
  refine rng_of (by omega) (by omega) fun y hy => ?_
  have := List.eq_of_mem_replicate hy
  omega
theorem BkPart.whole {w : World} {g : Nat} {a0 a1 a2 a3 : Int} {G : Nat → Nat} (h : BkPart w g (newL a0 a1 a2 a3) G 4) : Bk w g (newL a0 a1 a2 a3) G :=
  ⟨by have := h.head; simpa [partV] using this, fun k hk => h.rowAt k hk, h.up0 0 (by omega), fun i j hi hj => h.up i j hi hj, fun k => by unfold newL; rw [zs_length]; exact clampN_le _, fun k => zs_range _⟩
set_option maxRecDepth 100000 in
set_option maxHeartbeats 3200000 in
theorem bankNew_any (a0 a1 a2 a3 : Int) (w : World) :
    Calls Try.prog 17 #[.agg #[.int .i64 a0, .int .i64 a1, .int .i64 a2, .int .i64 a3]] w (NewPost a0 a1 a2 a3 w) := by
  go_enter Try.func17, Try.ntmps17
  go_wp2
  go_loopw [8] (fun i wr => ∃ k : Nat, k ≤ 4 ∧ i = .int .i64 k ∧ ∃ G, BkPart wr (w.heap.size + 1) (newL a0 a1 a2 a3) G k ∧ Ext w wr) (fun i _ => 4 - (intOf i).toNat)
  case atStart => exact ⟨0, by omega, rfl, fun _ => 0, ⟨by rw [alloc_get, if_pos (by simp)]; rfl, fun j hj => absurd hj (by omega), fun j hj => absurd hj (by omega), fun i j _ hj => absurd hj (by omega)⟩, ((Ext.refl w).goA _).goA _⟩
  case round =>
    obtain ⟨k, hk, rfl, G, hp, hE⟩ := hrel
    by_cases hlt : k < 4
    · have hix : ∀ w, (Instr.index 22 (.agg #[.int .i64 a0, .int .i64 a1, .int .i64 a2, .int .i64 a3]) (.int .i64 k)).run Try.prog w = .ok (.int .i64 (sz4 a0 a1 a2 a3 k)) w := fun w => by
        rcases (show k = 0 ∨ k = 1 ∨ k = 2 ∨ k = 3 by omega) with rfl | rfl | rfl | rfl <;> kernel_rfl
      have hL : newL a0 a1 a2 a3 k = zs (clampN (sz4 a0 a1 a2 a3 k)) := rfl
      have hL' := Lib.hid hL
      have hm := clampN_le (sz4 a0 a1 a2 a3 k)
      have hmk := fun w => run_mkI Try.underlying30 info_u16 (max 0 (min (sz4 a0 a1 a2 a3 k) 256)) (clampN (sz4 a0 a1 a2 a3 k)) (by unfold clampN; omega) (by omega) (by omega) w
      clear hL
      generalize sz4 a0 a1 a2 a3 k = x at *
      generalize hc : clampN x = m at *
      go_wp2
      have d0 : Ext w wr.drew := hE.god
      have hg := hp.lt
      have hp' := Lib.hid hp
      have hc1 : wr.frozen? ⟨w.heap.size + 1, k, none⟩ = false := by have := hp.head; simp [World.frozen?, this]
      have hc0 : ∃ v, wr.cell? ⟨w.heap.size + 1, k, none⟩ = some v := by
        rw [cellsAt hp.head]
        rcases (show k = 0 ∨ k = 1 ∨ k = 2 ∨ k = 3 by omega) with rfl | rfl | rfl | rfl <;> exact ⟨_, rfl⟩
      obtain ⟨v0, hc0⟩ := hc0
      clear hp
      refine wp_region_held_drew (S := fun w' => Ext w w') (by kernel_rfl) d0 (fun hHeld => ?_)
      refine wpAnyH_take (i := 0) (oi := _) (v := ?_) rfl (by kernel_rfl) (by kernel_rfl) (by kernel_rfl) (fun _ _ _ h => h) (Or.inl ⟨by rfl, ?_⟩) (by assumption) ?_
      rotate_left
      · intro w hSw
        (try dsimp only at hSw)
        go_simp
        try (with_reducible rfl)
      try simp only [Act.put, List.getElem_toArray, List.getElem_cons_zero, List.setIfInBounds_toArray, List.set_cons_zero, List.set_cons_succ]
      refine wpAnyH_take (i := 1) (oi := _) (v := ?_) rfl (by kernel_rfl) (by kernel_rfl) (by kernel_rfl) (fun _ _ _ h => h) (Or.inl ⟨by rfl, ?_⟩) (by assumption) ?_
      rotate_left
      · intro w hSw
        (try dsimp only at hSw)
        go_simp
        try (with_reducible rfl)
      try simp only [Act.put, List.getElem_toArray, List.getElem_cons_succ, List.getElem_cons_zero, List.setIfInBounds_toArray, List.set_cons_zero, List.set_cons_succ]
      refine wpAnyH_take (i := 2) (oi := _) (v := ?_) rfl (by kernel_rfl) (by kernel_rfl) (by kernel_rfl) (fun _ _ _ h => h) (Or.inl ⟨by rfl, ?_⟩) (by assumption) ?_
      rotate_left
      · intro w hSw
        (try dsimp only at hSw)
        go_simp
        try (with_reducible rfl)
      try simp only [Act.put, List.getElem_toArray, List.getElem_cons_succ, List.getElem_cons_zero, List.setIfInBounds_toArray, List.set_cons_zero, List.set_cons_succ]
      refine wpAnyH_take (i := 3) (oi := _) (v := ?_) rfl (by kernel_rfl) (by kernel_rfl) (by kernel_rfl) (fun _ _ _ h => h) (Or.inl ⟨by rfl, ?_⟩) (by assumption) ?_
      rotate_left
      · intro w hSw
        (try dsimp only at hSw)
        go_simp
        try (with_reducible rfl)
      try simp only [Act.put, List.getElem_toArray, List.getElem_cons_succ, List.getElem_cons_zero, List.setIfInBounds_toArray, List.set_cons_zero, List.set_cons_succ]
      refine wpAnyH_take (i := 4) (oi := _) (v := ?_) rfl (by kernel_rfl) (by kernel_rfl) (by kernel_rfl) (fun _ _ _ h => h) (Or.inl ⟨by rfl, ?_⟩) (by assumption) ?_
      rotate_left
      · intro w hSw
        (try dsimp only at hSw)
        go_simp
        try (with_reducible rfl)
      try simp only [Act.put, List.getElem_toArray, List.getElem_cons_succ, List.getElem_cons_zero, List.setIfInBounds_toArray, List.set_cons_zero, List.set_cons_succ]
      refine wpAnyH_take (i := 6) (oi := _) (v := ?_) rfl (by kernel_rfl) (by kernel_rfl) (by kernel_rfl) (fun _ _ _ h => h) (Or.inl ⟨by rfl, ?_⟩) (by assumption) ?_
      rotate_left
      · intro w hSw
        (try dsimp only at hSw)
        go_simp
        try (with_reducible rfl)
      try simp only [Act.put, List.getElem_toArray, List.getElem_cons_succ, List.getElem_cons_zero, List.setIfInBounds_toArray, List.set_cons_zero, List.set_cons_succ]
      refine wpAnyH_take (i := 7) (oi := _) (v := ?_) rfl (by kernel_rfl) (by kernel_rfl) (by kernel_rfl) (fun _ _ _ h => h) (Or.inl ⟨by rfl, ?_⟩) (by assumption) ?_
      rotate_left
      · intro w hSw
        (try dsimp only at hSw)
        go_simp
        try (with_reducible rfl)
      try simp only [Act.put, List.getElem_toArray, List.getElem_cons_succ, List.getElem_cons_zero, List.setIfInBounds_toArray, List.set_cons_zero, List.set_cons_succ]
      refine wpAnyH_ready (rs := [5]) (by kernel_rfl) (by simp) ?_
      refine AllReadyH.cons rfl (fun K hK => ?_) ?_
      rotate_left
      · exact AllReadyH.nil
      go_simp
      refine hK.out _ _ ?_ (fun hHeld => ?_)
      · exact d0.goA _
      clear hK K
      try simp only [Act.put, List.getElem_toArray, List.getElem_cons_succ, List.getElem_cons_zero, List.setIfInBounds_toArray, List.set_cons_zero, List.set_cons_succ]
      refine wpAnyH_take (i := 8) (oi := _) (v := ?_) rfl (by kernel_rfl) (by kernel_rfl) (by kernel_rfl) (fun _ _ _ h => h) (Or.inl ⟨by rfl, ?_⟩) (by assumption) ?_
      rotate_left
      · intro w hSw
        (try dsimp only at hSw)
        go_simp
        try (with_reducible rfl)
      try simp only [Act.put, List.getElem_toArray, List.getElem_cons_succ, List.getElem_cons_zero, List.setIfInBounds_toArray, List.set_cons_zero, List.set_cons_succ]
      refine wpAnyH_ready (rs := [9]) (by kernel_rfl) (by simp) ?_
      refine AllReadyH.cons rfl (fun K hK => ?_) ?_
      rotate_left
      · exact AllReadyH.nil
      go_simp
      refine hK.out _ _ ?_ (fun hHeld => ?_)
      · exact ((hE.goS (by simp) _).goA _).god
      clear hK K
      try simp only [Act.put, List.getElem_toArray, List.getElem_cons_succ, List.getElem_cons_zero, List.setIfInBounds_toArray, List.set_cons_zero, List.set_cons_succ]
      refine wpAnyH_done (by kernel_rfl) ?_ _
      go_wp2_with fail
      go_roundw
      case rel =>
        refine ⟨k + 1, by omega, by go_num, _, hp'.out.step hlt hL'.out rfl, ?_⟩
        exact ((hE.goS (by simp) _).goA _).god
      case measure => simp [intOf]; omega
    · obtain rfl : k = 4 := by omega
      go_wp2
      go_ret
      exact ⟨_, _, rfl, hp.whole, hE, by omega⟩
end Go.Proofs.Ytgeahfkhfpdlhaa
