/- Layer 24, the walks: New. -/
import Derived.Test.YtgagpalffdgjnaaFieldH
namespace Go.Proofs.Ytgagpalffdgjnaa
open Go.RowKit

def wireV (j t : Nat) : Value := .agg #[openV j, frameV j, spoilV t, .slice none 0 0, .slice none 0 0]
def WirePost (j : Nat) (w : World) (e : Ending) (w' : World) : Prop := ∃ t, e = .returned (wireV j t) ∧ w'.heap[t]? = some (.cells #[.int .i64 (placeJ j)] 3 (0, 0)) ∧ Ext w w' ∧ w.heap.size ≤ t
theorem last_laid (W : World) (o1 o2 : Obj) : ((W.alloc o1).alloc o2).heap[W.heap.size + 1]? = some o2 := by
  rw [alloc_get, if_pos (by simp)]
set_option maxRecDepth 100000 in
theorem serial_any (j : Nat) (hj : j < 2) (w : World) : Calls Try.prog 54 #[] w (WirePost j w) := by
  unfold WirePost wireV openV frameV placeJ
  rw [if_pos hj, if_pos hj, if_pos hj]
  go_enter Try.func54, Try.ntmps54
  go_wp2
  have h1 := two_laid w (.cells #[.func (.func 86) #[] #[], .func (.func 88) #[] #[], .func (.func 117) #[] #[.pointer (some ⟨w.heap.size + 1, 0, none⟩)], .slice none 0 0, .slice none 0 0] 126) (.cells #[.int .i64 (-1)] 3)
  have h2 := last_laid w (.cells #[.func (.func 86) #[] #[], .func (.func 88) #[] #[], .func (.func 117) #[] #[.pointer (some ⟨w.heap.size + 1, 0, none⟩)], .slice none 0 0, .slice none 0 0] 126) (.cells #[.int .i64 (-1)] 3)
  refine bodyPost_ret (v := .agg #[.func (.func 86) #[] #[], .func (.func 88) #[] #[], .func (.func 117) #[] #[.pointer (some ⟨w.heap.size + 1, 0, none⟩)], .slice none 0 0, .slice none 0 0]) (by simp [results, Try.results54, go_sem, cellsAt h1 0, cellsAt h1 1, cellsAt h1 2, cellsAt h1 3, cellsAt h1 4]) rfl ?_
  exact ⟨w.heap.size + 1, rfl, h2, ((Ext.refl w).goA _).goA _, by omega⟩
set_option maxRecDepth 100000 in
theorem stream_any (j : Nat) (hj : ¬ j < 2) (w : World) : Calls Try.prog 55 #[] w (WirePost j w) := by
  unfold WirePost wireV openV frameV placeJ
  rw [if_neg hj, if_neg hj, if_neg hj]
  go_enter Try.func55, Try.ntmps55
  go_wp2
  have h1 := two_laid w (.cells #[.func (.func 91) #[] #[], .func (.func 93) #[] #[], .func (.func 117) #[] #[.pointer (some ⟨w.heap.size + 1, 0, none⟩)], .slice none 0 0, .slice none 0 0] 126) (.cells #[.int .i64 (2)] 3)
  have h2 := last_laid w (.cells #[.func (.func 91) #[] #[], .func (.func 93) #[] #[], .func (.func 117) #[] #[.pointer (some ⟨w.heap.size + 1, 0, none⟩)], .slice none 0 0, .slice none 0 0] 126) (.cells #[.int .i64 (2)] 3)
  refine bodyPost_ret (v := .agg #[.func (.func 91) #[] #[], .func (.func 93) #[] #[], .func (.func 117) #[] #[.pointer (some ⟨w.heap.size + 1, 0, none⟩)], .slice none 0 0, .slice none 0 0]) (by simp [results, Try.results55, go_sem, cellsAt h1 0, cellsAt h1 1, cellsAt h1 2, cellsAt h1 3, cellsAt h1 4]) rfl ?_
  exact ⟨w.heap.size + 1, rfl, h2, ((Ext.refl w).goA _).goA _, by omega⟩
/-- Five cells stored in a row. -/
theorem five_put {W : World} {f q : Nat} {cs : Array Value} {T : TypeId} (h : W.heap[f]? = some (.cells cs T (0, 0))) (hs : q + 5 ≤ cs.size) (a0 a1 a2 a3 a4 : Value) {W' : World}
    (hW : W' = ((((W.setCell ⟨f, q, none⟩ a0).setCell ⟨f, q + 1, none⟩ a1).setCell ⟨f, q + 2, none⟩ a2).setCell ⟨f, q + 3, none⟩ a3).setCell ⟨f, q + 4, none⟩ a4) :
    (∃ cs', W'.heap[f]? = some (.cells cs' T (0, 0)) ∧ cs'.size = cs.size) ∧ (W'.cell? ⟨f, q, none⟩ = some a0 ∧ W'.cell? ⟨f, q + 1, none⟩ = some a1 ∧ W'.cell? ⟨f, q + 2, none⟩ = some a2 ∧ W'.cell? ⟨f, q + 3, none⟩ = some a3 ∧ W'.cell? ⟨f, q + 4, none⟩ = some a4) ∧
      (∀ o, o < q ∨ q + 5 ≤ o → W'.cell? ⟨f, o, none⟩ = W.cell? ⟨f, o, none⟩) ∧ Mod (fun i => i = f) W W' := by
  subst hW
  have h1 := sets_block h q a0
  have h2 := sets_block h1 (q + 1) a1
  have h3 := sets_block h2 (q + 2) a2
  have h4 := sets_block h3 (q + 3) a3
  have h5 := sets_block h4 (q + 4) a4
  refine ⟨⟨_, h5, by simp⟩, ?_, fun o ho => ?_, ?_⟩
  · refine ⟨?_, ?_, ?_, ?_, ?_⟩ <;> rw [cellsAt h5] <;> simp [Array.getElem?_setIfInBounds] <;> omega
  · rw [cellsAt h5, cellsAt h]
    simp only [Array.getElem?_setIfInBounds]
    rw [if_neg (by omega), if_neg (by omega), if_neg (by omega), if_neg (by omega), if_neg (by omega)]
  · exact (((((Mod.refl (fun i => i = f) W).setCell (p := ⟨f, q, none⟩) (.inl rfl) a0).setCell (p := ⟨f, q + 1, none⟩) (.inl rfl) a1).setCell (p := ⟨f, q + 2, none⟩) (.inl rfl) a2).setCell (p := ⟨f, q + 3, none⟩) (.inl rfl) a3).setCell (p := ⟨f, q + 4, none⟩) (.inl rfl) a4
/-- A field being made: its first k lines are there. -/
structure NewPart (W : World) (f m k : Nat) (t : Nat → Nat) : Prop where
  head : ∃ cs, W.heap[f]? = some (.cells cs 129 (0, 0)) ∧ cs.size = 22
  c0 : W.cell? ⟨f, 0, none⟩ = some (.slice none 0 0)
  c1 : W.cell? ⟨f, 1, none⟩ = some (.map (some m))
  wi : ∀ j, j < k → W.cell? ⟨f, 2 + 5 * j, none⟩ = some (openV j) ∧ W.cell? ⟨f, 2 + 5 * j + 1, none⟩ = some (frameV j) ∧ W.cell? ⟨f, 2 + 5 * j + 2, none⟩ = some (spoilV (t j)) ∧ W.cell? ⟨f, 2 + 5 * j + 3, none⟩ = some (.slice none 0 0) ∧ W.cell? ⟨f, 2 + 5 * j + 4, none⟩ = some (.slice none 0 0)
  tj : ∀ j, j < k → W.heap[t j]? = some (.cells #[.int .i64 (placeJ j)] 3 (0, 0))
  mp : MapW W m 0 (fun _ _ => 0)
theorem NewPart.lt {W : World} {f m k : Nat} {t : Nat → Nat} (h : NewPart W f m k t) : f < W.heap.size := let ⟨_, e, _⟩ := h.head; lt_of_block e
theorem NewPart.ext {W W' : World} {f m k : Nat} {t : Nat → Nat} (h : NewPart W f m k t) (E : Ext W W') : NewPart W' f m k t := by
  have hl := h.lt
  obtain ⟨cs, e, hs⟩ := h.head
  refine ⟨⟨cs, (E.block _ hl).trans e, hs⟩, (E.cell _ hl).trans h.c0, (E.cell _ hl).trans h.c1, fun j hj => ?_, fun j hj => (E.block _ (lt_of_block (h.tj j hj))).trans (h.tj j hj), h.mp.ext E⟩
  obtain ⟨a0, a1, a2, a3, a4⟩ := h.wi j hj
  exact ⟨(E.cell _ hl).trans a0, (E.cell _ hl).trans a1, (E.cell _ hl).trans a2, (E.cell _ hl).trans a3, (E.cell _ hl).trans a4⟩
/-- One line more, whatever stood there. -/
theorem NewPart.step {W W' : World} {f m k : Nat} {t : Nat → Nat} (h : NewPart W f m k t) (hk : k < 4) {tk : Nat} (ht : W.heap[tk]? = some (.cells #[.int .i64 (placeJ k)] 3 (0, 0)))
    (hW : W' = ((((W.setCell ⟨f, 2 + 5 * k, none⟩ (openV k)).setCell ⟨f, 2 + 5 * k + 1, none⟩ (frameV k)).setCell ⟨f, 2 + 5 * k + 2, none⟩ (spoilV tk)).setCell ⟨f, 2 + 5 * k + 3, none⟩ (.slice none 0 0)).setCell ⟨f, 2 + 5 * k + 4, none⟩ (.slice none 0 0)) :
    NewPart W' f m (k + 1) (upf t k tk) := by
  obtain ⟨cs, e, hs⟩ := h.head
  obtain ⟨⟨cs', e', hs'⟩, a, b, mm⟩ := five_put e (by omega) _ _ _ _ _ hW
  have isF : Is W f 129 := ⟨_, _, e⟩
  refine ⟨⟨cs', e', hs'.trans hs⟩, (b _ (by omega)).trans h.c0, (b _ (by omega)).trans h.c1, fun j hj => ?_, fun j hj => ?_, h.mp.keep (mm.block _ h.mp.lt (fun e2 => ?_))⟩
  · by_cases hjk : j = k
    · subst hjk; rw [upf_same]; exact a
    · rw [upf_other _ _ hjk]
      obtain ⟨a0, a1, a2, a3, a4⟩ := h.wi j (by omega)
      exact ⟨(b _ (by omega)).trans a0, (b _ (by omega)).trans a1, (b _ (by omega)).trans a2, (b _ (by omega)).trans a3, (b _ (by omega)).trans a4⟩
  · by_cases hjk : j = k
    · subst hjk; rw [upf_same]
      exact (mm.block _ (lt_of_block ht) (fun e2 => Is.ne ⟨_, _, ht⟩ isF (by decide) e2)).trans ht
    · rw [upf_other _ _ hjk]
      have ht := h.tj j (by omega)
      exact (mm.block _ (lt_of_block ht) (fun e2 => Is.ne ⟨_, _, ht⟩ isF (by decide) e2)).trans ht
  · obtain ⟨es, ck, h1⟩ := h.mp.block
    rw [e2, e] at h1
    simp at h1
/-- The same at a line that is there already. -/
theorem NewPart.again {W W' : World} {f m k : Nat} {t : Nat → Nat} (h : NewPart W f m (k + 1) t) (hk : k < 4) {tk : Nat} (ht : W.heap[tk]? = some (.cells #[.int .i64 (placeJ k)] 3 (0, 0)))
    (hW : W' = ((((W.setCell ⟨f, 2 + 5 * k, none⟩ (openV k)).setCell ⟨f, 2 + 5 * k + 1, none⟩ (frameV k)).setCell ⟨f, 2 + 5 * k + 2, none⟩ (spoilV tk)).setCell ⟨f, 2 + 5 * k + 3, none⟩ (.slice none 0 0)).setCell ⟨f, 2 + 5 * k + 4, none⟩ (.slice none 0 0)) :
    NewPart W' f m (k + 1) (upf t k tk) :=
  NewPart.step (k := k) ⟨h.head, h.c0, h.c1, fun j hj => h.wi j (by omega), fun j hj => h.tj j (by omega), h.mp⟩ hk ht hW
end Go.Proofs.Ytgagpalffdgjnaa
