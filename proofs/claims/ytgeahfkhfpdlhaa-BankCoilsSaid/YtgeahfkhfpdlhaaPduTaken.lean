
/- Layer 4, the walks: what bytes ask for. -/
import Derived.Test.YtgeahfkhfpdlhaaPduTake
import Derived.Laws.EntriesVeiled
namespace Go.Proofs.Ytgeahfkhfpdlhaa
open Go.RowKit

/-- The blocks of 'taken': the shape, the bytes, the result, the place, the request. -/
structure Tk (w : World) (g : Nat) (S : Array Value) (B : Value) (R : Array Value) (a : Int) (Q : Array Value) : Prop where
  s : w.heap[g]? = some (.cells S 144 (0, 0))
  b : w.heap[g + 1]? = some (.cells #[B] 33 (0, 0))
  r : w.heap[g + 2]? = some (.cells R 32 (0, 0))
  p : w.heap[g + 3]? = some (.cells #[.int .i64 a] 3 (0, 0))
  q : w.heap[g + 4]? = some (.cells Q 32 (0, 0))
section
variable {w w' : World} {g : Nat} {S : Array Value} {B : Value} {R : Array Value} {a a' : Int} {Q : Array Value}
theorem Tk.new (w : World) (S : Array Value) (B : Value) (R : Array Value) (a : Int) (Q : Array Value) : Tk (((((w.alloc (.cells S 144)).alloc (.cells #[B] 33)).alloc (.cells R 32)).alloc (.cells #[.int .i64 a] 3)).alloc (.cells Q 32)) w.heap.size S B R a Q := by
  constructor
  · rw [alloc_get, if_neg (by simp; omega), alloc_get, if_neg (by simp; omega), alloc_get, if_neg (by simp; omega), alloc_get, if_neg (by simp), alloc_get, if_pos rfl]
  · rw [alloc_get, if_neg (by simp), alloc_get, if_neg (by simp), alloc_get, if_neg (by simp), alloc_get, if_pos (by simp)]
  · rw [alloc_get, if_neg (by simp), alloc_get, if_neg (by simp), alloc_get, if_pos (by simp)]
  · rw [alloc_get, if_neg (by simp), alloc_get, if_pos (by simp)]
  · rw [alloc_get, if_pos (by simp)]
theorem Tk.lt (h : Tk w g S B R a Q) : g + 4 < w.heap.size := lt_of_block h.q
theorem Tk.word (h : Tk w g S B R a Q) (hp : w'.heap[g + 3]? = some (.cells #[.int .i64 a'] 3 (0, 0))) (hm : Mod (fun i => i = g + 3) w w') : Tk w' g S B R a' Q :=
  have hlt := h.lt
  ⟨(hm.block _ (by omega) (by simp)).trans h.s, (hm.block _ (by omega) (by simp)).trans h.b, (hm.block _ (by omega) (by simp)).trans h.r, hp, (hm.block _ (by omega) (by simp)).trans h.q⟩
theorem Tk.ext (h : Tk w g S B R a Q) (e : Ext w w') : Tk w' g S B R a Q :=
  have hlt := h.lt
  ⟨(e.block _ (by omega)).trans h.s, (e.block _ (by omega)).trans h.b, (e.block _ (by omega)).trans h.r, (e.block _ (by omega)).trans h.p, (e.block _ (by omega)).trans h.q⟩
theorem Tk.drew (h : Tk w g S B R a Q) : Tk w.drew g S B R a Q := ⟨h.s, h.b, h.r, h.p, h.q⟩
theorem Tk.keep (h : Tk w g S B R a Q) (hk : ∀ i, i < g + 5 → w'.heap[i]? = w.heap[i]?) : Tk w' g S B R a Q :=
  ⟨(hk _ (by omega)).trans h.s, (hk _ (by omega)).trans h.b, (hk _ (by omega)).trans h.r, (hk _ (by omega)).trans h.p, (hk _ (by omega)).trans h.q⟩
theorem Tk.at_ (h : Tk w g S B R a Q) (e : a = a') : Tk w g S B R a' Q := e ▸ h
theorem own_mod1 {base n size p : Nat} {e : TypeId} {v : Value} {xs : List Value} (h : w.ownsRow base e size v n xs) (hm : Mod (fun i => i = p) w w') (hp : p < base) : w'.ownsRow base e size v n xs :=
  h.kept (row := some p) ⟨hm.os, hm.tape, hm.output, hm.size, fun k hk hn => hm.block k hk (fun e => hn (by rw [e]))⟩ (.inr fun e => by have := (h.lt p e).1; omega)
theorem set_block {i : Nat} {t : TypeId} (h : w.heap[i]? = some (.cells Q t (0, 0))) (j : Nat) (v : Value) : (w.setCell ⟨i, j, none⟩ v).heap[i]? = some (.cells (Q.setIfInBounds j v) t (0, 0)) := by
  simp [World.setCell, Array.getElem?_modify, h]
theorem Tk.setQ (h : Tk w g S B R a Q) (j : Nat) (v : Value) : Tk (w.setCell ⟨g + 4, j, none⟩ v) g S B R a (Q.setIfInBounds j v) :=
  have f : ∀ i, g + 4 ≠ i → (w.setCell ⟨g + 4, j, none⟩ v).heap[i]? = w.heap[i]? := fun i hi => Below.heap_setCell w ⟨g + 4, j, none⟩ v i (Ne.symm hi)
  ⟨(f _ (by omega)).trans h.s, (f _ (by omega)).trans h.b, (f _ (by omega)).trans h.r, (f _ (by omega)).trans h.p, set_block h.q j v⟩
theorem Tk.setP (h : Tk w g S B R a Q) (x : Int) : Tk (w.setCell ⟨g + 3, 0, none⟩ (.int .i64 x)) g S B R x Q :=
  have f : ∀ i, g + 3 ≠ i → (w.setCell ⟨g + 3, 0, none⟩ (.int .i64 x)).heap[i]? = w.heap[i]? := fun i hi => Below.heap_setCell w ⟨g + 3, 0, none⟩ _ i (Ne.symm hi)
  ⟨(f _ (by omega)).trans h.s, (f _ (by omega)).trans h.b, (f _ (by omega)).trans h.r, set_block h.p 0 _, (f _ (by omega)).trans h.q⟩
theorem frozen_block {i : Nat} {t : TypeId} (h : w.heap[i]? = some (.cells Q t (0, 0))) (j : Nat) : w.frozen? ⟨i, j, none⟩ = false := by simp [World.frozen?, h]
theorem five_reads {i : Nat} {t : TypeId} {a0 a1 a2 a3 a4 : Value} (h : w.heap[i]? = some (.cells #[a0, a1, a2, a3, a4] t (0, 0))) (b0 b1 b2 b3 b4 : Value) :
    (w.setCell ⟨i, 0, none⟩ b0).cell? ⟨i, 0, none⟩ = some b0 ∧ ((w.setCell ⟨i, 0, none⟩ b0).setCell ⟨i, 1, none⟩ b1).cell? ⟨i, 1, none⟩ = some b1
    ∧ (((w.setCell ⟨i, 0, none⟩ b0).setCell ⟨i, 1, none⟩ b1).setCell ⟨i, 2, none⟩ b2).cell? ⟨i, 2, none⟩ = some b2
    ∧ ((((w.setCell ⟨i, 0, none⟩ b0).setCell ⟨i, 1, none⟩ b1).setCell ⟨i, 2, none⟩ b2).setCell ⟨i, 3, none⟩ b3).cell? ⟨i, 3, none⟩ = some b3
    ∧ (((((w.setCell ⟨i, 0, none⟩ b0).setCell ⟨i, 1, none⟩ b1).setCell ⟨i, 2, none⟩ b2).setCell ⟨i, 3, none⟩ b3).setCell ⟨i, 4, none⟩ b4).cell? ⟨i, 4, none⟩ = some b4 := by
  have h0 := set_block h 0 b0
  have h1 := set_block h0 1 b1
  have h2 := set_block h1 2 b2
  have h3 := set_block h2 3 b3
  have h4 := set_block h3 4 b4
  exact ⟨cellsAt h0 0, cellsAt h1 1, cellsAt h2 2, cellsAt h3 3, cellsAt h4 4⟩
theorem Ext.five {v : World} {i : Nat} (E : Ext v w) (hi : v.heap.size ≤ i) (b0 b1 b2 b3 b4 : Value) : Ext v (((((w.setCell ⟨i, 0, none⟩ b0).setCell ⟨i, 1, none⟩ b1).setCell ⟨i, 2, none⟩ b2).setCell ⟨i, 3, none⟩ b3).setCell ⟨i, 4, none⟩ b4) :=
  ((((E.goS (p := ⟨i, 0, none⟩) hi b0).goS (p := ⟨i, 1, none⟩) hi b1).goS (p := ⟨i, 2, none⟩) hi b2).goS (p := ⟨i, 3, none⟩) hi b3).goS (p := ⟨i, 4, none⟩) hi b4
theorem setCell_size (w : World) (p : Addr) (v : Value) : (w.setCell p v).heap.size = w.heap.size := by simp [World.setCell]
theorem alloc_size (w : World) (o : Obj) : (w.alloc o).heap.size = w.heap.size + 1 := by simp
theorem five_keep (w : World) (i j : Nat) (h : j ≠ i) (b0 b1 b2 b3 b4 : Value) : (((((w.setCell ⟨i, 0, none⟩ b0).setCell ⟨i, 1, none⟩ b1).setCell ⟨i, 2, none⟩ b2).setCell ⟨i, 3, none⟩ b3).setCell ⟨i, 4, none⟩ b4).heap[j]? = w.heap[j]? := by
  have e : ∀ (w : World) (o : Nat) (v : Value), (w.setCell ⟨i, o, none⟩ v).heap[j]? = w.heap[j]? := fun w o v => Below.heap_setCell w ⟨i, o, none⟩ v j h
  rw [e, e, e, e, e]
theorem RdI.kept {k : IntKind} {n : Nat} {A : Option Addr} {xs : List Int} {C D : Nat} (h : RdI w C k A n xs) (hB : C ≤ D) (hk : 0 < n → ∀ b o, A = some ⟨b, o, none⟩ → w'.heap[b]? = w.heap[b]?) : RdI w' D k A n xs :=
  ⟨h.1, fun hn => by
    obtain ⟨b, o, e, hb, hc⟩ := h.2 hn
    exact ⟨b, o, e, by omega, fun j hj => (World.cell?_of_block (a := ⟨b, o + j, none⟩) (hk hn b o e)).trans (hc j hj)⟩⟩
theorem set_rd {k : IntKind} {n : Nat} {A : Option Addr} {xs : List Int} {C : Nat} (h : RdI w C k A n xs) (hC : C ≤ w.heap.size) (p : Addr) (hA : 0 < n → ∀ b o, A = some ⟨b, o, none⟩ → b ≠ p.block) (u : Value) : RdI (w.setCell p u) (w.setCell p u).heap.size k A n xs :=
  h.kept (by rw [setCell_size]; exact hC) (fun hn b o e => Below.heap_setCell w p u b (hA hn b o e))
theorem five_rd {k : IntKind} {n : Nat} {A : Option Addr} {xs : List Int} {C : Nat} (h : RdI w C k A n xs) (hC : C ≤ w.heap.size) (i : Nat) (hA : 0 < n → ∀ b o, A = some ⟨b, o, none⟩ → b ≠ i) (b0 b1 b2 b3 b4 : Value) :
    RdI (((((w.setCell ⟨i, 0, none⟩ b0).setCell ⟨i, 1, none⟩ b1).setCell ⟨i, 2, none⟩ b2).setCell ⟨i, 3, none⟩ b3).setCell ⟨i, 4, none⟩ b4) (((((w.setCell ⟨i, 0, none⟩ b0).setCell ⟨i, 1, none⟩ b1).setCell ⟨i, 2, none⟩ b2).setCell ⟨i, 3, none⟩ b3).setCell ⟨i, 4, none⟩ b4).heap.size k A n xs :=
  h.kept (by rw [setCell_size, setCell_size, setCell_size, setCell_size, setCell_size]; exact hC) (fun hn b o e => five_keep w i b (hA hn b o e) b0 b1 b2 b3 b4)
theorem RdI.drop {k : IntKind} {n C b o lo : Nat} {xs : List Int} (h : RdI w C k (some ⟨b, o, none⟩) n xs) (hlo : lo ≤ n) : RdI w C k (some ⟨b, o + lo, none⟩) (n - lo) (xs.drop lo) :=
  ⟨by rw [List.length_drop, h.1], fun hn => by
    obtain ⟨b', o', e, hb, hc⟩ := h.2 (by omega)
    injection e with e; injection e with e1 e2
    subst e1 e2
    refine ⟨_, _, rfl, hb, fun j hj => ?_⟩
    have := hc (lo + j) (by omega)
    rw [List.getD_eq_getElem?_getD, List.getElem?_drop, ← List.getD_eq_getElem?_getD, Nat.add_assoc]
    exact this⟩
end

/-- What bytes ask for, handed back. -/
def TakenPost (fc ad qt to : Int) (xs : List Int) (w : World) (e : Ending) (w' : World) : Prop :=
  ∃ A n c, e = .returned (.agg #[.int .i64 fc, .int .i64 ad, .int .i64 qt, .slice A n c, .int .i64 to]) ∧ n ≤ c ∧ c ≤ maxLen ∧ RdI w' w'.heap.size .u16 A n xs ∧ Ext w w' ∧ ∀ b o, A = some ⟨b, o, none⟩ → w.heap.size ≤ b

def wordsAt (l : List Int) (a k : Nat) : List Int := (List.range k).map fun i => wordAt l (a + 2 * i)
theorem wordsAt_succ (l : List Int) (a k : Nat) : wordsAt l a (k + 1) = wordsAt l a k ++ [wordAt l (a + 2 * k)] := by unfold wordsAt; rw [List.range_succ, List.map_append]; rfl
theorem wordsAt_length (l : List Int) (a k : Nat) : (wordsAt l a k).length = k := by simp [wordsAt]
end Go.Proofs.Ytgeahfkhfpdlhaa
