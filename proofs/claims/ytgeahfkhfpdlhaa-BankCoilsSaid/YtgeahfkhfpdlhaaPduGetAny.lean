
/- Layer 4, the walks: the request of any bytes. -/
import Derived.Test.YtgeahfkhfpdlhaaPduGet
namespace Go.Proofs.Ytgeahfkhfpdlhaa
open Go.RowKit

theorem rng_map {α : Type} (f : α → Int) (xs : List α) {lo hi : Int} (h0 : lo ≤ 0) (h1 : 0 ≤ hi) (h : ∀ x, lo ≤ f x ∧ f x ≤ hi) : ∀ j : Nat, lo ≤ (xs.map f)[j]?.getD 0 ∧ (xs.map f)[j]?.getD 0 ≤ hi :=
  rng_of h0 h1 fun y hy => by
    obtain ⟨x, _, rfl⟩ := List.mem_map.1 hy
    exact h x
theorem takL_range (s : Shape) (l : List Int) (hl : ByteL l) : ∀ j : Nat, 0 ≤ (takL s l)[j]?.getD 0 ∧ (takL s l)[j]?.getD 0 ≤ 65535 := by
  have hw := wordAt_range l hl
  unfold takL
  split
  · intro j; simp
  split
  · split
    · refine rng_of (by omega) (by omega) fun y hy => ?_
      rw [List.mem_singleton] at hy
      have := hw 3
      omega
    · exact rng_map _ _ (by omega) (by omega) fun x => hw _
  split
  · split
    · refine rng_map _ _ (by omega) (by omega) fun x => ?_
      split <;> omega
    · exact rng_map _ _ (by omega) (by omega) fun x => hw _
  · exact rng_map _ _ (by omega) (by omega) fun x => hw _

/-- Do bytes say what a request of that shape may say, and as it would be said? -/
def gotB (s : Shape) (l : List Int) : Bool :=
  holdsB s (wordAt l 1) (takQ s l) (takT s l) (takL s l) && ((strOfNums (codedL s (l.getD 0 0) (wordAt l 1) (takQ s l) (takT s l) (takL s l))).toList == (strOfNums l).toList)
structure Rq where
  fc : Int
  ad : Int
  qt : Int
  to : Int
  xs : List Int
def Rq.none : Rq := ⟨0, 0, 0, 0, []⟩
def takR (s : Shape) (l : List Int) : Rq := ⟨l.getD 0 0, wordAt l 1, takQ s l, takT s l, takL s l⟩
/-- The request of bytes, and the exception that they deserve. -/
def getR (l : List Int) : Rq × Int :=
  if l.length = 0 then (Rq.none, 1) else match shapeOf (l.getD 0 0) with
  | none => (Rq.none, 1)
  | some s => if gotB s l then (if fitsB (wordAt l 1) (takQ s l) (takT s l) (takL s l).length then (takR s l, 0) else (Rq.none, 2)) else (Rq.none, 3)

theorem pduGet_any (A : Option Addr) (n c : Nat) (l : List Int) (w : World) (hx : RdI w w.heap.size .u8 A n l) (hl : ByteL l) (hnc : n ≤ c) (hcm : c ≤ maxLen) :
    Calls Try.prog 93 #[.slice A n c] w (GetPost (getR l).1.fc (getR l).1.ad (getR l).1.qt (getR l).1.to (getR l).1.xs (getR l).2 w) := by
  have hlen := hx.len
  rcases Nat.eq_zero_or_pos n with h0 | h0
  · subst h0
    have e : getR l = (Rq.none, 1) := by unfold getR; rw [if_pos hlen]
    rw [e]
    exact get_empty A c w
  · cases hs : shapeOf (l.getD 0 0) with
    | none =>
      have e : getR l = (Rq.none, 1) := by unfold getR; rw [if_neg (by omega), hs]
      rw [e]
      exact get_none A n c l w hx hl h0 hs
    | some s =>
      have e : getR l = if gotB s l then (if fitsB (wordAt l 1) (takQ s l) (takT s l) (takL s l).length then (takR s l, 0) else (Rq.none, 2)) else (Rq.none, 3) := by unfold getR; rw [if_neg (by omega), hs]
      have b := shape_bounds hs
      have x0 := hl 0
      rw [← List.getD_eq_getElem?_getD] at x0
      refine get_walk s.form s.qty s.vals s.bits (l.getD 0 0) (wordAt l 1) (takQ s l) (takT s l) (takL s l) (codedL s (l.getD 0 0) (wordAt l 1) (takQ s l) (takT s l) (takL s l))
        (holdsB s (wordAt l 1) (takQ s l) (takT s l) (takL s l)) ((strOfNums (codedL s (l.getD 0 0) (wordAt l 1) (takQ s l) (takT s l) (takL s l))).toList == (strOfNums l).toList)
        (fitsB (wordAt l 1) (takQ s l) (takT s l) (takL s l).length) A n c l w _ hs hx h0 rfl x0 ?_ ?_ ?_ ?_ ?_ ?_ ?_ ?_
      · exact fun w' E => taken_any s _ hs A n c l w' (hx.ext E) hl h0 hnc hcm
      · exact fun A' n' c' B w' r hB hn => holds_any s _ _ _ _ A' n' c' B _ w' r hB hn b.1 b.2.1
      · exact fun h A' n' c' w' r => coded_any s _ _ _ _ _ hs A' n' c' _ w' r (takL_range s l hl) h
      · exact fun _ A2 n2 c2 w' E r => equal_any A2 A n2 c2 n c w'.heap.size _ l w' r (hx.ext E)
      · intro h A' n' c' w' hn
        obtain ⟨⟨a0, a1⟩, ⟨t0, t1⟩, ⟨q0, q1⟩, _, _, _⟩ := holds_parts h
        have h3 := holds_len b h
        have b2 := b.2.2.1
        rw [hn]
        exact fits_any _ _ _ _ A' n' c' w' a0 (by omega) t0 (by omega) q0 (by omega) (by omega)
      · intro h e' w' hp
        rw [e, if_neg (by unfold gotB; rw [h]; decide)]
        exact hp
      · intro h h2 e' w' hp
        rw [e, if_pos (by unfold gotB; exact h), if_neg (by rw [h2]; decide)]
        exact hp
      · intro h h2 e' w' hp
        rw [e, if_pos (by unfold gotB; exact h), if_pos h2]
        exact hp
end Go.Proofs.Ytgeahfkhfpdlhaa
