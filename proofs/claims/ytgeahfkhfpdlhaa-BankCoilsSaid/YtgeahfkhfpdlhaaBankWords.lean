
/- Layer 6: words for a bank in memory; the builtin copy between slices of numbers. -/
import Derived.Test.YtgeahfkhfpdlhaaWords
import Derived.Laws.CopyOwn
namespace Go.Proofs.Ytgeahfkhfpdlhaa
open Go.RowKit

theorem wpList_copyI {P : Program} {ops : Array Oper} {rest : List Oper} {o : Oper} {a : Act} {w : World} {Q : Exit → Act → World → Prop} (hgd : o.guard = none) (d s : Operand) (dT sT : TypeId)
    (ho : o.op = .call { callee := .builtin .copy, args := #[d, s], argTypes := #[dT, sT] }) {elem : TypeId} {k : IntKind} (hu : P.underlying dT = some (.slice elem)) (hsz : (P.info? elem).map (·.size) = some 1)
    {dp : Option Addr} {n c : Nat} (hd : a.eval d = .slice dp n c) {A : Option Addr} {m c' : Nat} (hs : a.eval s = .slice A m c')
    {g off : Nat} {e : TypeId} {ds : List Int} (hg : Blk w g e k ds) (hdp : 0 < n → dp = some ⟨g, off, none⟩) (hfit : off + n ≤ ds.length)
    {B : Nat} {ys : List Int} (hr : RdI w B k A m ys)
    (h : ∀ w', Hid (Blk w' g e k (splice ds off (ys.take n))) → Mod (fun i => i = g) w w' → wpList P ops Q rest (a.put o.dst (goInt (min m n : Nat))) w') : wpList P ops Q (o :: rest) a w := by
  have hl : ((ys.take n).map (Value.int k)).length = min m n := by rw [List.length_map, List.length_take, hr.len, Nat.min_comm]
  by_cases h0 : min m n = 0
  · refine wpList_copy_nothing hgd d s dT sT ho elem hu hsz dp A n c m c' hd hs h0 ?_
    have h1 := h w (show Hid (Blk w g e k (splice ds off (ys.take n))) from by
      have : ys.take n = [] := List.eq_nil_of_length_eq_zero (by rw [List.length_take, hr.len]; omega)
      rw [this]
      have e2 : splice ds off [] = ds := by simp [splice]
      rw [e2]
      exact Lib.hid hg) (Mod.refl _ _)
    rw [h0] at h1
    exact h1
  · obtain rfl := hdp (by omega)
    obtain ⟨b, so, rfl, hb, hc⟩ := hr.2 (by omega)
    refine wpList_copy_own hgd d s dT sT ho elem hu hsz g off n c ⟨b, so, none⟩ m c' hd hs (row k ds) e hg ((ys.take n).map (Value.int k)) (by rw [hl]) (fun j v hj => ?_) (by rw [hl, row_size]; omega) (ints_oneCell _ _) ?_
    · have hj' : j < min m n := by
        rcases Nat.lt_or_ge j (min m n) with h2 | h2
        · exact h2
        · rw [List.getElem?_eq_none (by rw [hl]; exact h2)] at hj; cases hj
      have hadd : (⟨b, so, none⟩ : Addr).add j = ⟨b, so + j, none⟩ := by unfold Addr.add; split <;> simp_all
      have hjl : j < ys.length := by rw [hr.len]; omega
      rw [hadd, hc j (by omega), ← hj, List.getElem?_map, List.getElem?_take_of_lt (by omega), List.getElem?_eq_getElem hjl, List.getD_eq_getElem?_getD, List.getElem?_eq_getElem hjl]
      rfl
    · rw [hl]
      refine h _ (Lib.hid ?_) ⟨rfl, rfl, rfl, by simp [World.setRow], fun i _ hi => setRow_other w g i _ hi⟩
      unfold Blk
      rw [setRow_heap w g _ _ e _ hg]
      congr 2
      simp only [row, splice, List.map_append, List.map_take, List.map_drop, List.length_take, hr.len]
      rw [show min m n = min n m from Nat.min_comm m n]

/-- A row of a bank turned. -/
def upd (L : Nat → List Int) (k : Nat) (l : List Int) : Nat → List Int := fun j => if j = k then l else L j
theorem upd_same (L : Nat → List Int) (k : Nat) (l : List Int) : upd L k l k = l := if_pos rfl
theorem upd_other (L : Nat → List Int) {k j : Nat} (l : List Int) (h : j ≠ k) : upd L k l j = L j := if_neg h
theorem upd_self (L : Nat → List Int) (k : Nat) : upd L k (L k) = L := by
  funext j
  by_cases h : j = k
  · subst h; exact upd_same _ _ _
  · exact upd_other _ _ h
/-- The blocks of a bank's rows. -/
def RowsOf (G : Nat → Nat) (i : Nat) : Prop := ∃ k, k < 4 ∧ i = G k
def slotV (L : Nat → List Int) (G : Nat → Nat) (k : Nat) : Value := .slice (some ⟨G k, 0, none⟩) (L k).length (L k).length
/-- A bank lies in block g, its rows L in the blocks G. -/
structure Bk (w : World) (g : Nat) (L : Nat → List Int) (G : Nat → Nat) : Prop where
  head : w.heap[g]? = some (.cells #[slotV L G 0, slotV L G 1, slotV L G 2, slotV L G 3] 109 (0, 0))
  row : ∀ k, k < 4 → Blk w (G k) 34 .u16 (L k)
  up0 : g < G 0
  up : ∀ i j, i < j → j < 4 → G i < G j
  len : ∀ k, (L k).length ≤ 256
  rng : ∀ (k j : Nat), 0 ≤ (L k)[j]?.getD 0 ∧ (L k)[j]?.getD 0 ≤ 65535
section
variable {w w' : World} {g : Nat} {L : Nat → List Int} {G : Nat → Nat}
theorem Bk.ne (h : Bk w g L G) {i j : Nat} (hi : i < 4) (hj : j < 4) (hn : i ≠ j) : G i ≠ G j := by
  rcases Nat.lt_or_gt_of_ne hn with h1 | h1
  · have := h.up i j h1 hj; omega
  · have := h.up j i h1 hi; omega
theorem Bk.gt (h : Bk w g L G) {k : Nat} (hk : k < 4) : g < G k := by
  rcases Nat.eq_zero_or_pos k with h0 | h0
  · subst h0; exact h.up0
  · have := h.up 0 k h0 hk; have := h.up0; omega
theorem Bk.lt (h : Bk w g L G) : g < w.heap.size := (Array.getElem?_eq_some_iff.1 h.head).1
theorem Bk.keep (h : Bk w g L G) (hk : ∀ b, b = g ∨ RowsOf G b → w'.heap[b]? = w.heap[b]?) : Bk w' g L G :=
  ⟨(hk g (.inl rfl)).trans h.head, fun k hk4 => (hk (G k) (.inr ⟨k, hk4, rfl⟩)).trans (h.row k hk4), h.up0, h.up, h.len, h.rng⟩
theorem Bk.old (h : Bk w g L G) {b : Nat} (hb : b = g ∨ RowsOf G b) : b < w.heap.size := by
  rcases hb with rfl | ⟨k, hk, rfl⟩
  · exact h.lt
  · exact (h.row k hk).lt
theorem Bk.ext (h : Bk w g L G) (E : Ext w w') : Bk w' g L G := h.keep fun b hb => E.block b (h.old hb)
theorem Bk.mod (h : Bk w g L G) {S : Nat → Prop} (M : Mod S w w') (h0 : ¬ S g) (h1 : ∀ k, k < 4 → ¬ S (G k)) : Bk w' g L G :=
  h.keep fun b hb => M.block b (h.old hb) (by rcases hb with rfl | ⟨k, hk, rfl⟩; exact h0; exact h1 k hk)
theorem Bk.slot (h : Bk w g L G) {k : Nat} (hk : k < 4) : w.cell? ⟨g, k, none⟩ = some (slotV L G k) := by
  rw [cellsAt h.head]
  match k, hk with
  | 0, _ => rfl
  | 1, _ => rfl
  | 2, _ => rfl
  | 3, _ => rfl
/-- One row turned, at its old length. -/
theorem Bk.turn (h : Bk w g L G) {k : Nat} (hk : k < 4) {l : List Int} (hl : l.length = (L k).length) (hr : ∀ j : Nat, 0 ≤ l[j]?.getD 0 ∧ l[j]?.getD 0 ≤ 65535) (hb : Blk w' (G k) 34 .u16 l) (hM : Mod (fun i => i = G k) w w') : Bk w' g (upd L k l) G := by
  have hs : ∀ j, slotV (upd L k l) G j = slotV L G j := fun j => by
    unfold slotV
    by_cases e : j = k
    · subst e; rw [upd_same, hl]
    · rw [upd_other L l e]
  refine ⟨?_, fun j hj => ?_, h.up0, h.up, fun j => ?_, fun j => ?_⟩
  · rw [hs, hs, hs, hs]
    exact (hM.block g h.lt (by have := h.gt hk; omega)).trans h.head
  · by_cases e : j = k
    · subst e; rw [upd_same]; exact hb
    · rw [upd_other L l e]
      exact (hM.block (G j) (h.row j hj).lt (h.ne hj hk e)).trans (h.row j hj)
  · by_cases e : j = k
    · subst e; rw [upd_same, hl]; exact h.len j
    · rw [upd_other L l e]; exact h.len j
  · by_cases e : j = k
    · subst e; rw [upd_same]; exact hr
    · rw [upd_other L l e]; exact h.rng j
theorem Mod.rows {k : Nat} (h : Mod (fun i => i = G k) w w') (hk : k < 4) : Mod (RowsOf G) w w' := h.weak fun _ hi => ⟨k, hk, hi⟩
end
end Go.Proofs.Ytgeahfkhfpdlhaa
