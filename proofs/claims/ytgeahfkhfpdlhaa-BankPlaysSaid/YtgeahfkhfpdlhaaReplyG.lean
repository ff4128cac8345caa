/- Layer 5, the walks: the answer of bytes. (Printed by wip/gen/rget.py.) -/
import Derived.Test.YtgeahfkhfpdlhaaG10
import Derived.Laws.EntriesVeiled
namespace Go.Proofs.Ytgeahfkhfpdlhaa
open Go.RowKit

theorem two_reads {w : World} {i : Nat} {t : TypeId} {a0 a1 : Value} (h : w.heap[i]? = some (.cells #[a0, a1] t (0, 0))) (b0 b1 : Value) :
    (w.setCell ⟨i, 0, none⟩ b0).cell? ⟨i, 0, none⟩ = some b0 ∧ ((w.setCell ⟨i, 0, none⟩ b0).setCell ⟨i, 1, none⟩ b1).cell? ⟨i, 1, none⟩ = some b1 := by
  have h0 := set_block h 0 b0
  have h1 := set_block h0 1 b1
  exact ⟨cellsAt h0 0, cellsAt h1 1⟩
theorem Ext.two {v w : World} {i : Nat} (E : Ext v w) (hi : v.heap.size ≤ i) (b0 b1 : Value) : Ext v ((w.setCell ⟨i, 0, none⟩ b0).setCell ⟨i, 1, none⟩ b1) :=
  (E.goS (p := ⟨i, 0, none⟩) hi b0).goS (p := ⟨i, 1, none⟩) hi b1
theorem two_rd {w : World} {k : IntKind} {n : Nat} {A : Option Addr} {xs : List Int} {C : Nat} (h : RdI w C k A n xs) (hC : C ≤ w.heap.size) (i : Nat) (hA : 0 < n → ∀ b o, A = some ⟨b, o, none⟩ → b ≠ i) (b0 b1 : Value) :
    RdI ((w.setCell ⟨i, 0, none⟩ b0).setCell ⟨i, 1, none⟩ b1) ((w.setCell ⟨i, 0, none⟩ b0).setCell ⟨i, 1, none⟩ b1).heap.size k A n xs :=
  h.kept (by rw [setCell_size, setCell_size]; exact hC) (fun hn b o e => by
    have f : ∀ (w : World) (o : Nat) (v : Value), (w.setCell ⟨i, o, none⟩ v).heap[b]? = w.heap[b]? := fun w o v => Below.heap_setCell w ⟨i, o, none⟩ v b (hA hn b _ e)
    rw [f, f])
theorem rep_far {w : World} {g C n : Nat} {t : TypeId} {A : Option Addr} {L : List Int} (h : w.heap[g]? = some (.cells #[.int .i64 0, .slice none 0 0] t (0, 0))) (r : RdI w C .u16 A n L) : 0 < n → ∀ b o, A = some ⟨b, o, none⟩ → b ≠ g := by
  intro hn b o e hb
  obtain ⟨b', o', e', _, hc⟩ := r.2 hn
  rw [e] at e'; injection e' with e'; injection e' with e1 e2
  subst e1 e2 hb
  have h0 := hc 0 hn
  rw [Nat.add_zero, cellsAt h o] at h0
  rcases o with _ | _ | o <;> simp at h0
/-- What bytes are answered by: an answer, and an error or 0. -/
def RGetPost (code : Int) (ys : List Int) (err : Int) (w : World) (e : Ending) (w' : World) : Prop :=
  ∃ A n c, e = .returned (.tuple #[.agg #[.int .i64 code, .slice A n c], .int .i64 err]) ∧ n ≤ c ∧ c ≤ maxLen ∧ RdI w' w'.heap.size .u16 A n ys ∧ Ext w w'
/-- Do bytes tell that answer? -/
def tellsB (fc ad qt to : Int) (xs bs : List Int) (code : Int) (ys : List Int) : Bool := ansR fc ad qt to xs code ys && ((strOfNums (repR fc ad qt to xs code ys)).toList == (strOfNums bs).toList)
def hiB (x : Int) : Bool := bits .and .u8 x 128 != 0

theorem takenV_range (r b : Bool) (qt : Int) (bs : List Int) (hb : ByteL bs) : ∀ j : Nat, 0 ≤ (takenV r b qt bs)[j]?.getD 0 ∧ (takenV r b qt bs)[j]?.getD 0 ≤ 65535 := by
  have hw := wordAt_range bs hb
  unfold takenV
  by_cases h1 : (if r then qt else 0) = 0 ∨ bs.length < 2
  · rw [if_pos h1]; intro j; simp
  · rw [if_neg h1]
    cases b
    · rw [if_neg (by decide)]
      by_cases h2 : ((bs.length - 2 : Nat) : Int) ≠ 2 * qt
      · rw [if_pos h2]; intro j; simp
      · rw [if_neg h2]
        exact rng_map _ _ (by omega) (by omega) fun x => hw _
    · rw [if_pos rfl]
      refine rng_map _ _ (by omega) (by omega) fun x => ?_
      split <;> omega
end Go.Proofs.Ytgeahfkhfpdlhaa
