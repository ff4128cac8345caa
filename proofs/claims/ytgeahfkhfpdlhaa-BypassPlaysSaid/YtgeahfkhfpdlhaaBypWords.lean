/- Layer 15: words for a table of bypasses in memory, and what its calls answer. -/
import Derived.Test.YtgeahfkhfpdlhaaMapI
import Derived.Test.YtgeahfkhfpdlhaaG01
namespace Go.Proofs.Ytgeahfkhfpdlhaa
open Go.RowKit

theorem info_i64 : (Try.prog.info? 2).map (fun i => (i.zero, i.size, i.bytes)) = some (some (.int .i64 0), 1, 8) := by kernel_rfl
theorem info_int : (Try.prog.info? 3).map (fun i => (i.zero, i.size, i.bytes)) = some (some (.int .i64 0), 1, 8) := by kernel_rfl
/-- The end of one. -/
def untilE (E : List Int) (i : Int) : Int := if 0 ≤ i then E[i.toNat]?.getD 0 else 0
theorem untilE_of (E : List Int) (i : Nat) : untilE E (i : Int) = E.getD i 0 := by unfold untilE; rw [if_pos (by omega), Int.toNat_natCast, List.getD_eq_getElem?_getD]
def setE (E : List Int) (i v : Int) : List Int := if 0 ≤ i then E.set i.toNat v else E
theorem setE_length (E : List Int) (i v : Int) : (setE E i v).length = E.length := by unfold setE; split <;> simp
theorem fupd_untilE {E : List Int} {i v : Int} (h : (0 ≤ i ∧ i < E.length) ∨ v = 0) (j : Int) : fupd (untilE E) i v j = untilE (setE E i v) j := by
  by_cases h0 : 0 ≤ i
  · obtain ⟨k, rfl⟩ := Int.eq_ofNat_of_zero_le h0
    unfold setE
    rw [if_pos h0, Int.toNat_natCast]
    by_cases e : j = k
    · subst e
      rw [fupd_same, untilE_of, List.getD_eq_getElem?_getD]
      by_cases hk : k < E.length
      · rw [List.getElem?_set_self hk]; rfl
      · rw [List.getElem?_eq_none (by simp; omega)]
        rcases h with h | h
        · omega
        · exact h
    · rw [fupd_other _ _ e]
      unfold untilE
      split
      · rename_i hj
        rw [List.getElem?_set_ne (by omega)]
      · rfl
  · unfold setE
    rw [if_neg h0]
    have hv : v = 0 := by rcases h with h | h; exact absurd h.1 h0; exact h
    subst hv
    by_cases e : j = i
    · subst e; rw [fupd_same]; unfold untilE; rw [if_neg h0]
    · exact fupd_other _ _ e
def RngE (E : List Int) : Prop := ∀ j : Nat, 0 ≤ E[j]?.getD 0 ∧ E[j]?.getD 0 ≤ 2199023255552
theorem RngE.until {E : List Int} (h : RngE E) (i : Int) : 0 ≤ untilE E i ∧ untilE E i ≤ 2199023255552 := by
  unfold untilE
  split
  · exact h _
  · omega
theorem RngE.set {E : List Int} (h : RngE E) (i : Int) {v : Int} (h0 : 0 ≤ v) (h1 : v ≤ 2199023255552) : RngE (setE E i v) := fun j => by
  unfold setE
  split
  · rw [List.getElem?_set]
    split
    · split
      · exact ⟨h0, h1⟩
      · exact ⟨by simp, by simp⟩
    · exact h j
  · exact h j
theorem RngE.zeros (n : Nat) : RngE (zs n) := by
  refine rng_of (by omega) (by omega) fun y hy => ?_
  have := List.eq_of_mem_replicate hy
  omega
theorem until_zeros (n : Nat) (i : Int) : untilE (zs n) i = 0 := by
  have := RngE.zeros n
  unfold untilE
  split
  · unfold zs
    rw [List.getElem?_replicate]
    split <;> rfl
  · rfl
def isB (E : List Int) (i now : Int) : Bool := (untilE E i != 0) && decide (now < untilE E i)
def putC (lims E : List Int) (i ticks now : Int) : Int :=
  if i < 0 ∨ (lims.length : Int) ≤ i then 3
  else if ticks < 1 ∨ lims.getD i.toNat 0 < ticks ∨ 1099511627776 < ticks ∨ now < 0 ∨ 1099511627776 < now then 1
  else if isB E i now = true then 4 else 0
def putE (lims E : List Int) (i ticks now : Int) : List Int := if putC lims E i ticks now = 0 then setE E i (now + ticks) else E
/-- A table lies in block g: its limits in block gl, its ends a map in block gm, of at most N entries. -/
structure Tb (w : World) (g gl gm N : Nat) (lims E : List Int) : Prop where
  head : w.heap[g]? = some (.cells #[.slice (some ⟨gl, 0, none⟩) lims.length lims.length, .map (some gm)] 123 (0, 0))
  row : Blk w gl 2 .i64 lims
  map : MapI w gm N (untilE E)
  len : E.length = lims.length
  n1 : g ≠ gm
  n2 : gl ≠ gm
  rng : RngE E
  fit : lims.length ≤ 140737488351232
section
variable {w w' : World} {g gl gm N : Nat} {lims E : List Int}
theorem Tb.old (h : Tb w g gl gm N lims E) {b : Nat} (hb : b = g ∨ b = gl ∨ b = gm) : b < w.heap.size := by
  rcases hb with rfl | rfl | rfl
  · exact lt_of_block h.head
  · exact h.row.lt
  · exact h.map.lt
theorem Tb.keep (h : Tb w g gl gm N lims E) (hk : ∀ b, b = g ∨ b = gl ∨ b = gm → w'.heap[b]? = w.heap[b]?) : Tb w' g gl gm N lims E :=
  ⟨(hk g (.inl rfl)).trans h.head, (hk gl (.inr (.inl rfl))).trans h.row, h.map.keep (hk gm (.inr (.inr rfl))), h.len, h.n1, h.n2, h.rng, h.fit⟩
theorem Tb.ext (h : Tb w g gl gm N lims E) (D : Ext w w') : Tb w' g gl gm N lims E := h.keep fun b hb => D.block b (h.old hb)
theorem Tb.mod (h : Tb w g gl gm N lims E) {S : Nat → Prop} (M : Mod S w w') (hs : ∀ b, b = g ∨ b = gl ∨ b = gm → ¬ S b) : Tb w' g gl gm N lims E := h.keep fun b hb => M.block b (h.old hb) (hs b hb)
theorem Tb.turn (h : Tb w g gl gm N lims E) {N' : Nat} {E' : List Int} (hm : MapI w' gm N' (untilE E')) (hl : E'.length = E.length) (hr : RngE E') (M : Mod (fun i => i = gm) w w') : Tb w' g gl gm N' lims E' :=
  ⟨(M.block g (h.old (.inl rfl)) h.n1).trans h.head, (M.block gl (h.old (.inr (.inl rfl))) h.n2).trans h.row, hm, hl.trans h.len, h.n1, h.n2, hr, h.fit⟩
theorem Tb.mono (h : Tb w g gl gm N lims E) {M : Nat} (hM : N ≤ M) : Tb w g gl gm M lims E := ⟨h.head, h.row, h.map.mono hM, h.len, h.n1, h.n2, h.rng, h.fit⟩
end
theorem RdI.turned {w w' : World} {k : IntKind} {A : Option Addr} {n : Nat} {xs : List Int} {S : Nat → Prop} (h : RdI w w.heap.size k A n xs) (M : Mod S w w') (hne : ∀ b o, A = some ⟨b, o, none⟩ → ¬ S b) : RdI w' w'.heap.size k A n xs :=
  ⟨h.1, fun hn => by
    obtain ⟨b, o, e, hb, hc⟩ := h.2 hn
    exact ⟨b, o, e, Nat.lt_of_lt_of_le hb M.size, fun j hj => (M.cell (o + j) hb (hne b o e)).trans (hc j hj)⟩⟩
end Go.Proofs.Ytgeahfkhfpdlhaa
