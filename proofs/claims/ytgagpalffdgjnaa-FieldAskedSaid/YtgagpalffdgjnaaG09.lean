/- Layer 4, the walks: the request of any bytes. · Layer 4, plain: what is got of a right request's bytes is that request; of these bytes cut, or longer, nothing is. -/
import Derived.Test.YtgagpalffdgjnaaG08
import Derived.Test.YtgagpalffdgjnaaG07
namespace Go.Proofs.Ytgagpalffdgjnaa
open Go.RowKit

theorem rng_map {α : Type} (f : α → Int) (xs : List α) {lo hi : Int} (h0 : lo ≤ 0) (h1 : 0 ≤ hi) (h : ∀ x, lo ≤ f x ∧ f x ≤ hi) : ∀ j : Nat, lo ≤ (xs.map f)[j]?.getD 0 ∧ (xs.map f)[j]?.getD 0 ≤ hi :=
  rng_of h0 h1 fun y hy => by
    obtain ⟨x, _, rfl⟩ := List.mem_map.1 hy
    exact h x
theorem takL_range (s : Shape) (l : List Int) (hl : ByteL l) : ∀ j : Nat, 0 ≤ (takL s l)[j]?.getD 0 ∧ (takL s l)[j]?.getD 0 ≤ 65535 := by
  have hw := wordAt_range l hl
  unfold takL
  split
  · intro j; simp
  split
  · split
    · refine rng_of (by omega) (by omega) fun y hy => ?_
      rw [List.mem_singleton] at hy
      have := hw 3
      omega
    · exact rng_map _ _ (by omega) (by omega) fun x => hw _
  split
  · split
    · refine rng_map _ _ (by omega) (by omega) fun x => ?_
      split <;> omega
    · exact rng_map _ _ (by omega) (by omega) fun x => hw _
  · exact rng_map _ _ (by omega) (by omega) fun x => hw _

/-- Do bytes say what a request of that shape may say, and as it would be said? -/
def gotB (s : Shape) (l : List Int) : Bool :=
  holdsB s (wordAt l 1) (takQ s l) (takT s l) (takL s l) && ((strOfNums (codedL s (l.getD 0 0) (wordAt l 1) (takQ s l) (takT s l) (takL s l))).toList == (strOfNums l).toList)
structure Rq where
  fc : Int
  ad : Int
  qt : Int
  to : Int
  xs : List Int
def Rq.none : Rq := ⟨0, 0, 0, 0, []⟩
def takR (s : Shape) (l : List Int) : Rq := ⟨l.getD 0 0, wordAt l 1, takQ s l, takT s l, takL s l⟩
/-- The request of bytes, and the exception that they deserve. -/
def getR (l : List Int) : Rq × Int :=
  if l.length = 0 then (Rq.none, 1) else match shapeOf (l.getD 0 0) with
  | none => (Rq.none, 1)
  | some s => if gotB s l then (if fitsB (wordAt l 1) (takQ s l) (takT s l) (takL s l).length then (takR s l, 0) else (Rq.none, 2)) else (Rq.none, 3)

theorem pduGet_any (A : Option Addr) (n c : Nat) (l : List Int) (w : World) (hx : RdI w w.heap.size .u8 A n l) (hl : ByteL l) (hnc : n ≤ c) (hcm : c ≤ maxLen) :
    Calls Try.prog 120 #[.slice A n c] w (GetPost (getR l).1.fc (getR l).1.ad (getR l).1.qt (getR l).1.to (getR l).1.xs (getR l).2 w) := by
  have hlen := hx.len
  rcases Nat.eq_zero_or_pos n with h0 | h0
  · subst h0
    have e : getR l = (Rq.none, 1) := by unfold getR; rw [if_pos hlen]
    rw [e]
    exact get_empty A c w
  · cases hs : shapeOf (l.getD 0 0) with
    | none =>
      have e : getR l = (Rq.none, 1) := by unfold getR; rw [if_neg (by omega), hs]
      rw [e]
      exact get_none A n c l w hx hl h0 hs
    | some s =>
      have e : getR l = if gotB s l then (if fitsB (wordAt l 1) (takQ s l) (takT s l) (takL s l).length then (takR s l, 0) else (Rq.none, 2)) else (Rq.none, 3) := by unfold getR; rw [if_neg (by omega), hs]
      have b := shape_bounds hs
      have x0 := hl 0
      rw [← List.getD_eq_getElem?_getD] at x0
      refine get_walk s.form s.qty s.vals s.bits (l.getD 0 0) (wordAt l 1) (takQ s l) (takT s l) (takL s l) (codedL s (l.getD 0 0) (wordAt l 1) (takQ s l) (takT s l) (takL s l))
        (holdsB s (wordAt l 1) (takQ s l) (takT s l) (takL s l)) ((strOfNums (codedL s (l.getD 0 0) (wordAt l 1) (takQ s l) (takT s l) (takL s l))).toList == (strOfNums l).toList)
        (fitsB (wordAt l 1) (takQ s l) (takT s l) (takL s l).length) A n c l w _ hs hx h0 rfl x0 ?_ ?_ ?_ ?_ ?_ ?_ ?_ ?_
      · exact fun w' E => taken_any s _ hs A n c l w' (hx.ext E) hl h0 hnc hcm
      · exact fun A' n' c' B w' r hB hn => holds_any s _ _ _ _ A' n' c' B _ w' r hB hn b.1 b.2.1
      · exact fun h A' n' c' w' r => coded_any s _ _ _ _ _ hs A' n' c' _ w' r (takL_range s l hl) h
      · exact fun _ A2 n2 c2 w' E r => equal_any A2 A n2 c2 n c w'.heap.size _ l w' r (hx.ext E)
      · intro h A' n' c' w' hn
        obtain ⟨⟨a0, a1⟩, ⟨t0, t1⟩, ⟨q0, q1⟩, _, _, _⟩ := holds_parts h
        have h3 := holds_len b h
        have b2 := b.2.2.1
        rw [hn]
        exact fits_any _ _ _ _ A' n' c' w' a0 (by omega) t0 (by omega) q0 (by omega) (by omega)
      · intro h e' w' hp
        rw [e, if_neg (by unfold gotB; rw [h]; decide)]
        exact hp
      · intro h h2 e' w' hp
        rw [e, if_pos (by unfold gotB; exact h), if_neg (by rw [h2]; decide)]
        exact hp
      · intro h h2 e' w' hp
        rw [e, if_pos (by unfold gotB; exact h), if_pos h2]
        exact hp
end Go.Proofs.Ytgagpalffdgjnaa
namespace Go.Proofs.Ytgagpalffdgjnaa
open Go.RowKit

theorem wordAt_mid (pre rest : List Int) (x : Int) (h0 : 0 ≤ x) (h1 : x ≤ 65535) : wordAt (pre ++ (hiLo x ++ rest)) pre.length = x := by
  rw [show hiLo x ++ rest = x / 256 % 256 :: x % 256 :: rest from rfl]
  have e1 : (pre ++ x / 256 % 256 :: x % 256 :: rest)[pre.length]? = some (x / 256 % 256) := by simp
  have e2 : (pre ++ x / 256 % 256 :: x % 256 :: rest)[pre.length + 1]? = some (x % 256) := by
    rw [List.getElem?_append_right (by omega), show pre.length + 1 - pre.length = 1 by omega]; rfl
  unfold wordAt
  rw [if_neg (by simp), List.getD_eq_getElem?_getD, List.getD_eq_getElem?_getD, e1, e2]
  show 256 * (x / 256 % 256) + x % 256 = x
  omega
theorem wordAt_nth (rest : List Int) : ∀ (xs : List Int) (pre : List Int) (i : Nat), (∀ j : Nat, 0 ≤ xs[j]?.getD 0 ∧ xs[j]?.getD 0 ≤ 65535) → i < xs.length → wordAt (pre ++ (wordsL xs ++ rest)) (pre.length + 2 * i) = xs.getD i 0
  | [], _, _, _, h => by cases h
  | x :: t, pre, 0, hr, _ => by
    have := hr 0
    rw [show wordsL (x :: t) ++ rest = hiLo x ++ (wordsL t ++ rest) by show (hiLo x ++ wordsL t) ++ rest = _; rw [List.append_assoc]]
    exact wordAt_mid pre _ x this.1 this.2
  | x :: t, pre, i + 1, hr, h => by
    have ih := wordAt_nth rest t (pre ++ hiLo x) i (fun j => by have := hr (j + 1); simpa using this) (by simpa using h)
    rw [show wordsL (x :: t) ++ rest = hiLo x ++ (wordsL t ++ rest) by show (hiLo x ++ wordsL t) ++ rest = _; rw [List.append_assoc]]
    rw [← List.append_assoc, show pre.length + 2 * (i + 1) = (pre ++ hiLo x).length + 2 * i by simp [hiLo]; omega, ih]
    rfl
theorem wordsAt_mid (pre rest xs : List Int) (hr : ∀ j : Nat, 0 ≤ xs[j]?.getD 0 ∧ xs[j]?.getD 0 ≤ 65535) : wordsAt (pre ++ (wordsL xs ++ rest)) pre.length xs.length = xs := by
  unfold wordsAt
  apply List.ext_getElem?
  intro i
  by_cases h : i < xs.length
  · rw [List.getElem?_map, List.getElem?_range h, Option.map_some, wordAt_nth rest xs pre i hr h, List.getD_eq_getElem?_getD, List.getElem?_eq_getElem h]; rfl
  · rw [List.getElem?_eq_none (by simp; omega), List.getElem?_eq_none (by omega)]
theorem unbits_same (xs : List Int) (h : valuesB true xs = true) (hr : ∀ j : Nat, 0 ≤ xs[j]?.getD 0) : unbitsL (bitsL xs) xs.length = xs := by
  have h1 : ∀ y ∈ xs, y ≤ 1 := by simpa [valuesB] using h
  apply List.ext_getElem?
  intro i
  by_cases hi : i < xs.length
  · have e := unbits_bits xs i hi
    have a := h1 (xs.getD i 0) (by rw [List.getD_eq_getElem?_getD, List.getElem?_eq_getElem hi]; exact List.getElem_mem hi)
    have b := hr i
    rw [← List.getD_eq_getElem?_getD] at b
    have l2 : i < (unbitsL (bitsL xs) xs.length).length := by rw [unbitsL_length]; exact hi
    have s1 : (unbitsL (bitsL xs) xs.length)[i]? = some ((unbitsL (bitsL xs) xs.length).getD i 0) := by rw [List.getD_eq_getElem?_getD, List.getElem?_eq_getElem l2]; rfl
    have s2 : xs[i]? = some (xs.getD i 0) := by rw [List.getD_eq_getElem?_getD, List.getElem?_eq_getElem hi]; rfl
    rw [s1, s2, e]
    congr 1
    split <;> omega
  · rw [List.getElem?_eq_none (by rw [unbitsL_length]; omega), List.getElem?_eq_none (by omega)]

/-- How many bytes a request has. -/
def lenOf (s : Shape) (n : Int) : Int :=
  if s.form = 0 then 5 else if s.form = 1 then (if s.bits then 5 else 3 + 2 * n) else if s.form = 2 then (if s.bits then 6 + (n + 7) / 8 else 6 + 2 * n) else 10 + 2 * n
theorem codedL_length (s : Shape) (fc ad qt to : Int) (xs : List Int) : ((codedL s fc ad qt to xs).length : Int) = lenOf s xs.length + (if s.form ≠ 0 ∧ s.form ≠ 1 ∧ s.form ≠ 2 ∧ s.bits then ((xs.length : Int) + 7) / 8 - 2 * xs.length else 0) := by
  have e1 : ∀ x y, (headL x y).length = 3 := fun _ _ => rfl
  have e2 : ∀ x, (wordsL [x]).length = 2 := fun _ => rfl
  have e3 : ∀ x y z, (wordsL [x, y, z]).length = 6 := fun _ _ _ => rfl
  have e4 : (bitsL xs).length = (xs.length + 7) / 8 := bitsTo_length _ _
  unfold codedL lenOf
  by_cases h0 : s.form = 0
  · simp [h0, e1, e2]
  · by_cases h1 : s.form = 1
    · cases s.bits <;> simp [h1, e1, e2, wordsL_length]
    · by_cases h2 : s.form = 2
      · cases s.bits <;> simp [h2, e1, e2, e4, wordsL_length] <;> omega
      · cases s.bits <;> simp [h0, h1, h2, e1, e3, e4, wordsL_length] <;> omega

theorem codedL_tail (s : Shape) (fc ad qt to : Int) (xs : List Int) : codedL s fc ad qt to xs = [fc % 256] ++ (hiLo ad ++ (
    if s.form = 0 then hiLo qt ++ [] else if s.form = 1 then (if s.bits then hiLo (65280 * xs.getD 0 0) ++ [] else wordsL xs ++ [])
    else if s.form = 2 then hiLo qt ++ (if s.bits then [((xs.length : Int) + 7) / 8] ++ bitsL xs else [2 * (xs.length : Int)] ++ (wordsL xs ++ []))
    else hiLo qt ++ (hiLo to ++ (hiLo xs.length ++ (if s.bits then [((xs.length : Int) + 7) / 8] ++ bitsL xs else [2 * (xs.length : Int)] ++ (wordsL xs ++ [])))))) := by
  have hw : wordsL [qt] = hiLo qt ++ [] := rfl
  unfold codedL
  split
  · rfl
  split
  · split
    · rfl
    · rw [List.append_nil]; rfl
  split
  · split
    · rfl
    · rw [List.append_nil]; rfl
  · split
    · rfl
    · rw [List.append_nil]; rfl
structure CodedTaken (s : Shape) (fc ad qt to : Int) (xs c : List Int) : Prop where
  a : c.getD 0 0 = fc
  b : wordAt c 1 = ad
  q : takQ s c = qt
  t : takT s c = to
  l : takL s c = xs
  w2 : s.form = 2 → wordAt c 3 = qt
  w3 : s.form = 3 → wordAt c 7 = xs.length
theorem coded_taken (s : Shape) (fc ad qt to : Int) (xs : List Int) (hs : shapeOf fc = some s) (h : holdsB s ad qt to xs = true) (hr : ∀ j : Nat, 0 ≤ xs[j]?.getD 0 ∧ xs[j]?.getD 0 ≤ 65535) :
    CodedTaken s fc ad qt to xs (codedL s fc ad qt to xs) := by
  obtain ⟨⟨a0, a1⟩, ⟨t0, t1⟩, ⟨q0, q1⟩, hq, ht, f0, f1, f2, f3⟩ := holds_parts h
  have hl := holds_len (shape_bounds hs) h
  have key : ∀ T, ([fc % 256] ++ (hiLo ad ++ T)).getD 0 0 = fc % 256 ∧ wordAt ([fc % 256] ++ (hiLo ad ++ T)) 1 = ad := fun T => ⟨rfl, wordAt_mid [fc % 256] T ad a0 a1⟩
  have k3 : ∀ x T, 0 ≤ x → x ≤ 65535 → wordAt ([fc % 256] ++ (hiLo ad ++ (hiLo x ++ T))) 3 = x := fun x T h0 h1 => by
    have := wordAt_mid ([fc % 256] ++ hiLo ad) T x h0 h1
    rwa [List.append_assoc] at this
  have k5 : ∀ x y T, 0 ≤ y → y ≤ 65535 → wordAt ([fc % 256] ++ (hiLo ad ++ (hiLo x ++ (hiLo y ++ T)))) 5 = y := fun x y T h0 h1 => by
    have := wordAt_mid ([fc % 256] ++ hiLo ad ++ hiLo x) T y h0 h1
    rwa [List.append_assoc, List.append_assoc] at this
  have k7 : ∀ x y z T, 0 ≤ z → z ≤ 65535 → wordAt ([fc % 256] ++ (hiLo ad ++ (hiLo x ++ (hiLo y ++ (hiLo z ++ T))))) 7 = z := fun x y z T h0 h1 => by
    have := wordAt_mid ([fc % 256] ++ hiLo ad ++ hiLo x ++ hiLo y) T z h0 h1
    rwa [List.append_assoc, List.append_assoc, List.append_assoc] at this
  have w3 : ∀ T, wordsAt ([fc % 256] ++ (hiLo ad ++ (wordsL xs ++ T))) 3 xs.length = xs := fun T => by
    have := wordsAt_mid ([fc % 256] ++ hiLo ad) T xs hr
    rwa [List.append_assoc] at this
  have w6 : ∀ x y T, wordsAt ([fc % 256] ++ (hiLo ad ++ (hiLo x ++ ([y] ++ (wordsL xs ++ T))))) 6 xs.length = xs := fun x y T => by
    have := wordsAt_mid ([fc % 256] ++ hiLo ad ++ hiLo x ++ [y]) T xs hr
    rwa [List.append_assoc, List.append_assoc, List.append_assoc] at this
  have w10 : ∀ x y z u T, wordsAt ([fc % 256] ++ (hiLo ad ++ (hiLo x ++ (hiLo y ++ (hiLo z ++ ([u] ++ (wordsL xs ++ T))))))) 10 xs.length = xs := fun x y z u T => by
    have := wordsAt_mid ([fc % 256] ++ hiLo ad ++ hiLo x ++ hiLo y ++ hiLo z ++ [u]) T xs hr
    rwa [List.append_assoc, List.append_assoc, List.append_assoc, List.append_assoc, List.append_assoc] at this
  have n0 : (0 : Int) ≤ xs.length := by omega
  have n1 : (xs.length : Int) ≤ 65535 := by omega
  have x0 := hr 0
  rcases shape_cases hs with ⟨hf, rfl⟩ | ⟨hf, rfl⟩ | ⟨hf, rfl⟩ | ⟨hf, rfl⟩ | ⟨hf, rfl⟩ | ⟨hf, rfl⟩ | ⟨hf, rfl⟩ | ⟨hf, rfl⟩
  all_goals
    rw [codedL_tail]
    dsimp only at hq ht f0 f1 f2 f3 q1 ⊢
    have hfc : fc % 256 = fc := by omega
    simp only [Int.reduceEq, if_true, if_false, Bool.false_eq_true]
  · refine ⟨(key _).1.trans hfc, (key _).2, ?_, ?_, ?_, (fun e => by cases e), (fun e => by cases e)⟩
    · exact k3 qt [] q0 (by omega)
    · exact (ht (by decide)).symm
    · exact (f0 rfl).symm
  · refine ⟨(key _).1.trans hfc, (key _).2, ?_, ?_, ?_, (fun e => by cases e), (fun e => by cases e)⟩
    · exact k3 qt [] q0 (by omega)
    · exact (ht (by decide)).symm
    · exact (f0 rfl).symm
  · have hv := (f1 rfl).2
    have h1 : xs.length = 1 := by have := (f1 rfl).1; omega
    obtain ⟨x, rfl⟩ : ∃ x, xs = [x] := List.length_eq_one_iff.1 h1
    have hx : x ≤ 1 := by simpa [valuesB] using hv
    have hx0 : 0 ≤ x := x0.1
    refine ⟨(key _).1.trans hfc, (key _).2, (hq.2 rfl).symm, (ht (by decide)).symm, ?_, (fun e => by cases e), (fun e => by cases e)⟩
    show [wordAt _ 3 / 65280] = [x]
    have := k3 (65280 * x) [] (by omega) (by omega)
    show [wordAt ([fc % 256] ++ (hiLo ad ++ (hiLo (65280 * x) ++ []))) 3 / 65280] = [x]
    rw [this]
    congr 1
    omega
  · have h1 : xs.length = 1 := by have := (f1 rfl).1; omega
    refine ⟨(key _).1.trans hfc, (key _).2, (hq.2 rfl).symm, (ht (by decide)).symm, ?_, (fun e => by cases e), (fun e => by cases e)⟩
    have := w3 []
    rw [h1] at this
    exact this
  · have hv := (f2 rfl).2
    have hn := (f2 rfl).1
    have hw := k3 qt ([((xs.length : Int) + 7) / 8] ++ bitsL xs) q0 (by omega)
    refine ⟨(key _).1.trans hfc, (key _).2, hw, (ht (by decide)).symm, ?_, fun _ => hw, (fun e => by cases e)⟩
    show unbitsL (bitsL xs) (min (wordAt ([fc % 256] ++ (hiLo ad ++ (hiLo qt ++ ([((xs.length : Int) + 7) / 8] ++ bitsL xs)))) 3) 1968).toNat = xs
    rw [hw, show (min qt 1968).toNat = xs.length by omega]
    exact unbits_same xs hv (fun j => (hr j).1)
  · have hn := (f2 rfl).1
    have hw := k3 qt ([2 * (xs.length : Int)] ++ (wordsL xs ++ [])) q0 (by omega)
    refine ⟨(key _).1.trans hfc, (key _).2, hw, (ht (by decide)).symm, ?_, fun _ => hw, (fun e => by cases e)⟩
    show wordsAt ([fc % 256] ++ (hiLo ad ++ (hiLo qt ++ ([2 * (xs.length : Int)] ++ (wordsL xs ++ []))))) 6 (min (wordAt ([fc % 256] ++ (hiLo ad ++ (hiLo qt ++ ([2 * (xs.length : Int)] ++ (wordsL xs ++ []))))) 3) 123).toNat = xs
    rw [hw, show (min qt 123).toNat = xs.length by omega]
    exact w6 _ _ _
  · have h1 : xs.length = 2 := by have := (f1 rfl).1; omega
    refine ⟨(key _).1.trans hfc, (key _).2, (hq.2 rfl).symm, (ht (by decide)).symm, ?_, (fun e => by cases e), (fun e => by cases e)⟩
    have := w3 []
    rw [h1] at this
    exact this
  · have h1 := f3 (by decide) (by decide) (by decide)
    have hw := k3 qt (hiLo to ++ (hiLo xs.length ++ ([2 * (xs.length : Int)] ++ (wordsL xs ++ [])))) q0 (by omega)
    have ht := k5 qt to (hiLo xs.length ++ ([2 * (xs.length : Int)] ++ (wordsL xs ++ []))) t0 t1
    have hn := k7 qt to xs.length ([2 * (xs.length : Int)] ++ (wordsL xs ++ [])) n0 n1
    refine ⟨(key _).1.trans hfc, (key _).2, hw, ht, ?_, (fun e => by cases e), fun _ => hn⟩
    show wordsAt ([fc % 256] ++ (hiLo ad ++ (hiLo qt ++ (hiLo to ++ (hiLo xs.length ++ ([2 * (xs.length : Int)] ++ (wordsL xs ++ []))))))) 10 (min (wordAt ([fc % 256] ++ (hiLo ad ++ (hiLo qt ++ (hiLo to ++ (hiLo xs.length ++ ([2 * (xs.length : Int)] ++ (wordsL xs ++ []))))))) 7) 121).toNat = xs
    rw [hn, show (min (xs.length : Int) 121).toNat = xs.length by omega]
    exact w10 _ _ _ _ _

/-- A right request is got of its bytes. -/
theorem get_put (s : Shape) (fc ad qt to : Int) (xs : List Int) (hs : shapeOf fc = some s) (h : holdsB s ad qt to xs = true) (hf : fitsB ad qt to xs.length = true) (hr : ∀ j : Nat, 0 ≤ xs[j]?.getD 0 ∧ xs[j]?.getD 0 ≤ 65535) :
    getR (codedL s fc ad qt to xs) = (⟨fc, ad, qt, to, xs⟩, 0) := by
  have k := coded_taken s fc ad qt to xs hs h hr
  have hl : (codedL s fc ad qt to xs).length ≠ 0 := by rw [codedL_tail]; simp
  have hg : gotB s (codedL s fc ad qt to xs) = true := by
    unfold gotB
    rw [k.a, k.b, k.q, k.t, k.l, h, Bool.true_and, beq_self_eq_true]
  unfold getR takR
  rw [if_neg hl, k.a, hs]
  dsimp only
  rw [if_pos hg, k.b, k.q, k.t, k.l, if_pos hf]
/-- What is got of any bytes: a request that is right, and has them; or nothing, and an exception. -/
theorem got_any (l : List Int) : (getR l).2 = 0 ∧ (let q := (getR l).1; rightB' q.fc q.ad q.qt q.to q.xs = true ∧ (strOfNums (putL q.fc q.ad q.qt q.to q.xs)).toList = (strOfNums l).toList) ∨ (1 ≤ (getR l).2 ∧ (getR l).2 ≤ 3) ∧ (getR l).1 = Rq.none := by
  unfold getR
  split
  · exact .inr ⟨by decide, rfl⟩
  cases hs : shapeOf (l.getD 0 0) with
  | none => exact .inr ⟨⟨(by decide : (1 : Int) ≤ 1), (by decide : (1 : Int) ≤ 3)⟩, rfl⟩
  | some s =>
    dsimp only
    by_cases hg : gotB s l = true
    · rw [if_pos hg]
      by_cases hf : fitsB (wordAt l 1) (takQ s l) (takT s l) (takL s l).length = true
      · rw [if_pos hf]
        unfold gotB at hg
        rw [Bool.and_eq_true, beq_iff_eq] at hg
        refine .inl ⟨rfl, ?_, ?_⟩
        · unfold rightB' takR
          dsimp only
          rw [hs]
          dsimp only
          rw [hg.1, hf]; rfl
        · unfold putL takR
          dsimp only
          rw [hs]
          dsimp only
          rw [hg.1, hf, Bool.and_self, if_pos rfl]
          exact hg.2
      · rw [if_neg hf]
        exact .inr ⟨by decide, rfl⟩
    · rw [if_neg hg]
      exact .inr ⟨by decide, rfl⟩
theorem put_length (fc ad qt to : Int) (xs : List Int) : (rightB' fc ad qt to xs = true ↔ 0 < (putL fc ad qt to xs).length) ∧ (putL fc ad qt to xs).length ≤ 253 := by
  unfold rightB' putL
  cases hs : shapeOf fc with
  | none => exact ⟨by simp, by simp⟩
  | some s =>
    dsimp only
    by_cases h : (holdsB s ad qt to xs && fitsB ad qt to xs.length) = true
    · rw [if_pos h, h]
      rw [Bool.and_eq_true] at h
      obtain ⟨-, -, ⟨q0, q1⟩, -, -, f0, f1, f2, f3⟩ := holds_parts h.1
      have hl := codedL_length s fc ad qt to xs
      refine ⟨⟨fun _ => by rw [codedL_tail]; simp, fun _ => rfl⟩, ?_⟩
      rcases shape_cases hs with ⟨_, rfl⟩ | ⟨_, rfl⟩ | ⟨_, rfl⟩ | ⟨_, rfl⟩ | ⟨_, rfl⟩ | ⟨_, rfl⟩ | ⟨_, rfl⟩ | ⟨_, rfl⟩
      all_goals
        simp [lenOf] at hl f0 f1 f2 f3 q1
        omega
    · rw [if_neg h]
      exact ⟨by simp [h], by simp⟩

theorem strNums_length (xs : List Int) : (strOfNums xs).toList.length = xs.length := by
  have h : (strOfNums xs).toList = (strOfNums xs).data.toList := ByteArray.toList_eq _
  rw [h, strOfNums_data, List.length_map]
/-- How long bytes are that say what a request of that shape may say. -/
theorem got_length {s : Shape} {k : Int} (hs : shapeOf k = some s) (l : List Int) (h : gotB s l = true) :
    (l.length : Int) = lenOf s (if s.form = 2 then wordAt l 3 else if s.form = 3 then min (wordAt l 7) s.vals else s.vals) ∧ (s.form = 2 → 1 ≤ wordAt l 3) ∧ (s.form = 3 → 1 ≤ wordAt l 7) := by
  unfold gotB at h
  rw [Bool.and_eq_true, beq_iff_eq] at h
  obtain ⟨h, he⟩ := h
  have hl := congrArg List.length he
  rw [strNums_length, strNums_length] at hl
  have hc := codedL_length s (l.getD 0 0) (wordAt l 1) (takQ s l) (takT s l) (takL s l)
  rw [hl] at hc
  clear hl he
  obtain ⟨-, -, ⟨q0, q1⟩, hq, -, f0, f1, f2, f3⟩ := holds_parts h
  rcases shape_cases hs with ⟨_, rfl⟩ | ⟨_, rfl⟩ | ⟨_, rfl⟩ | ⟨_, rfl⟩ | ⟨_, rfl⟩ | ⟨_, rfl⟩ | ⟨_, rfl⟩ | ⟨_, rfl⟩
  · exact ⟨hc, (fun e => by cases e), (fun e => by cases e)⟩
  · exact ⟨hc, (fun e => by cases e), (fun e => by cases e)⟩
  · exact ⟨hc, (fun e => by cases e), (fun e => by cases e)⟩
  · rw [(f1 rfl).1] at hc; exact ⟨hc, (fun e => by cases e), (fun e => by cases e)⟩
  · rw [(f2 rfl).1] at hc
    have q0 : 0 ≤ wordAt l 3 := q0
    have hq : wordAt l 3 = 0 ↔ (2 : Int) = 1 := hq
    exact ⟨hc.trans (Int.add_zero _), fun _ => by omega, (fun e => by cases e)⟩
  · rw [(f2 rfl).1] at hc
    have q0 : 0 ≤ wordAt l 3 := q0
    have hq : wordAt l 3 = 0 ↔ (2 : Int) = 1 := hq
    exact ⟨hc.trans (Int.add_zero _), fun _ => by omega, (fun e => by cases e)⟩
  · rw [(f1 rfl).1] at hc; exact ⟨hc, (fun e => by cases e), (fun e => by cases e)⟩
  · have h1 := f3 (by decide) (by decide) (by decide)
    have e : (takL ⟨3, 125, 121, false⟩ l).length = (min (wordAt l 7) 121).toNat := wordsAt_length _ _ _
    have e2 : ((takL ⟨3, 125, 121, false⟩ l).length : Int) = min (wordAt l 7) 121 := by omega
    rw [e2] at hc
    exact ⟨hc.trans (Int.add_zero _), (fun e => by cases e), fun _ => by omega⟩
theorem wordAt_take (c : List Int) (k a : Nat) (hk : k ≤ c.length) : wordAt (c.take k) a = if k < a + 2 then 0 else wordAt c a := by
  unfold wordAt
  rw [List.length_take, Nat.min_eq_left hk]
  by_cases h : k < a + 2
  · rw [if_pos h, if_pos h]
  · rw [if_neg h, if_neg h, if_neg (by omega), List.getD_eq_getElem?_getD, List.getD_eq_getElem?_getD, List.getElem?_take, List.getElem?_take, if_pos (by omega), if_pos (by omega), ← List.getD_eq_getElem?_getD, ← List.getD_eq_getElem?_getD]
theorem wordAt_snoc (c : List Int) (m : Int) (a : Nat) (h : a + 2 ≤ c.length) : wordAt (c ++ [m]) a = wordAt c a := by
  unfold wordAt
  rw [if_neg (by simp; omega), if_neg (by omega), List.getD_eq_getElem?_getD, List.getD_eq_getElem?_getD, List.getElem?_append_left (by omega), List.getElem?_append_left (by omega), ← List.getD_eq_getElem?_getD, ← List.getD_eq_getElem?_getD]
section
variable (s : Shape) (fc ad qt to : Int) (xs : List Int) (hs : shapeOf fc = some s) (h : holdsB s ad qt to xs = true) (hr : ∀ j : Nat, 0 ≤ xs[j]?.getD 0 ∧ xs[j]?.getD 0 ≤ 65535)
include hs h hr
theorem coded_len : ((codedL s fc ad qt to xs).length : Int) = lenOf s (if s.form = 2 then wordAt (codedL s fc ad qt to xs) 3 else if s.form = 3 then min (wordAt (codedL s fc ad qt to xs) 7) s.vals else s.vals) := by
  refine (got_length hs _ ?_).1
  have k := coded_taken s fc ad qt to xs hs h hr
  unfold gotB
  rw [k.a, k.b, k.q, k.t, k.l, h, Bool.true_and, beq_self_eq_true]
theorem get_cut (k : Nat) (hk : k < (codedL s fc ad qt to xs).length) : (getR ((codedL s fc ad qt to xs).take k)).2 = if k = 0 then 1 else 3 := by
  by_cases h0 : k = 0
  · subst h0; rw [if_pos rfl]; rfl
  rw [if_neg h0]
  have e := coded_len s fc ad qt to xs hs h hr
  have kk := coded_taken s fc ad qt to xs hs h hr
  have hd : ((codedL s fc ad qt to xs).take k).getD 0 0 = fc := by
    rw [List.getD_eq_getElem?_getD, List.getElem?_take, if_pos (by omega), ← List.getD_eq_getElem?_getD]; exact kk.a
  have hg : ¬ gotB s ((codedL s fc ad qt to xs).take k) = true := by
    intro hg
    have g := got_length hs _ hg
    rw [wordAt_take _ _ _ (by omega), wordAt_take _ _ _ (by omega), List.length_take, Nat.min_eq_left (by omega)] at g
    rcases shape_cases hs with ⟨_, rfl⟩ | ⟨_, rfl⟩ | ⟨_, rfl⟩ | ⟨_, rfl⟩ | ⟨_, rfl⟩ | ⟨_, rfl⟩ | ⟨_, rfl⟩ | ⟨_, rfl⟩
    all_goals
      simp [lenOf] at g e
      first
        | omega
        | (by_cases h5 : k < 5
           · rw [if_pos h5] at g; omega
           · rw [if_neg h5] at g; omega)
        | (by_cases h9 : k < 9
           · rw [if_pos h9] at g; omega
           · rw [if_neg h9] at g; omega)
  unfold getR
  rw [if_neg (by rw [List.length_take]; omega), hd, hs]
  dsimp only
  rw [if_neg hg]
theorem get_more (m : Int) : (getR (codedL s fc ad qt to xs ++ [m])).2 = 3 := by
  have e := coded_len s fc ad qt to xs hs h hr
  have kk := coded_taken s fc ad qt to xs hs h hr
  have hd : (codedL s fc ad qt to xs ++ [m]).getD 0 0 = fc := by
    have := kk.a
    rw [codedL_tail] at this ⊢
    exact this
  have hg : ¬ gotB s (codedL s fc ad qt to xs ++ [m]) = true := by
    intro hg
    have g := got_length hs _ hg
    rw [List.length_append] at g
    have w3 := wordAt_snoc (codedL s fc ad qt to xs) m 3
    have w7 := wordAt_snoc (codedL s fc ad qt to xs) m 7
    rcases shape_cases hs with ⟨_, rfl⟩ | ⟨_, rfl⟩ | ⟨_, rfl⟩ | ⟨_, rfl⟩ | ⟨_, rfl⟩ | ⟨_, rfl⟩ | ⟨_, rfl⟩ | ⟨_, rfl⟩
    · simp [lenOf] at g e; omega
    · simp [lenOf] at g e; omega
    · simp [lenOf] at g e; omega
    · simp [lenOf] at g e; omega
    · have q := kk.w2 rfl
      have p := (holds_parts h).2.2.1
      simp [lenOf] at g e
      rw [w3 (by omega)] at g; omega
    · have q := kk.w2 rfl
      have p := (holds_parts h).2.2.1
      simp [lenOf] at g e
      rw [w3 (by omega)] at g; omega
    · simp [lenOf] at g e; omega
    · have q := kk.w3 rfl
      simp [lenOf] at g e
      rw [w7 (by omega)] at g; omega
  unfold getR
  rw [if_neg (by simp), hd, hs]
  dsimp only
  rw [if_neg hg]
end
theorem hiLo_bytes (x : Int) : ∀ y ∈ hiLo x, 0 ≤ y ∧ y ≤ 255 := by
  intro y hy
  simp only [hiLo, List.mem_cons, List.not_mem_nil, or_false] at hy
  rcases hy with rfl | rfl <;> omega
theorem wordsL_bytes (xs : List Int) : ∀ y ∈ wordsL xs, 0 ≤ y ∧ y ≤ 255 := by
  intro y hy
  obtain ⟨x, _, h⟩ := List.mem_flatMap.1 hy
  exact hiLo_bytes x y h
theorem bitsL_bytes (xs : List Int) : ∀ y ∈ bitsL xs, 0 ≤ y ∧ y ≤ 255 := by
  intro y hy
  obtain ⟨i, _, rfl⟩ := List.mem_map.1 hy
  have h := bitN_range (bitAt xs i) (min 8 (xs.length - 8 * i))
  have h2 : (2 : Int) ^ (min 8 (xs.length - 8 * i)) ≤ 2 ^ 8 := by
    have := Nat.pow_le_pow_right (n := 2) (by omega) (Nat.min_le_left 8 (xs.length - 8 * i))
    exact_mod_cast this
  omega
theorem putL_bytes (fc ad qt to : Int) (xs : List Int) : ByteL (putL fc ad qt to xs) := by
  refine rng_of (by omega) (by omega) fun y hy => ?_
  unfold putL at hy
  cases hs : shapeOf fc with
  | none => rw [hs] at hy; cases hy
  | some s =>
    rw [hs] at hy
    dsimp only at hy
    by_cases h : (holdsB s ad qt to xs && fitsB ad qt to xs.length) = true
    · rw [if_pos h, codedL_tail] at hy
      rw [Bool.and_eq_true] at h
      obtain ⟨-, -, ⟨q0, q1⟩, -, -, f0, f1, f2, f3⟩ := holds_parts h.1
      rcases List.mem_append.1 hy with hy | hy
      · rw [List.mem_singleton] at hy; omega
      rcases List.mem_append.1 hy with hy | hy
      · exact hiLo_bytes _ _ hy
      rcases shape_cases hs with ⟨_, rfl⟩ | ⟨_, rfl⟩ | ⟨_, rfl⟩ | ⟨_, rfl⟩ | ⟨_, rfl⟩ | ⟨_, rfl⟩ | ⟨_, rfl⟩ | ⟨_, rfl⟩
      all_goals
        simp only [Int.reduceEq, if_true, if_false, Bool.false_eq_true, List.mem_append, List.mem_singleton, List.not_mem_nil, or_false] at hy
      · exact hiLo_bytes _ _ hy
      · exact hiLo_bytes _ _ hy
      · exact hiLo_bytes _ _ hy
      · exact wordsL_bytes _ _ hy
      · have := (f2 rfl).1
        simp only at q1
        rcases hy with hy | hy | hy
        · exact hiLo_bytes _ _ hy
        · omega
        · exact bitsL_bytes _ _ hy
      · have := (f2 rfl).1
        simp only at q1
        rcases hy with hy | hy | hy
        · exact hiLo_bytes _ _ hy
        · omega
        · exact wordsL_bytes _ _ hy
      · exact wordsL_bytes _ _ hy
      · have := f3 (by decide) (by decide) (by decide)
        simp only at this
        rcases hy with hy | hy | hy | hy | hy
        · exact hiLo_bytes _ _ hy
        · exact hiLo_bytes _ _ hy
        · exact hiLo_bytes _ _ hy
        · omega
        · exact wordsL_bytes _ _ hy
    · rw [if_neg h] at hy; cases hy
theorem put_get (fc ad qt to : Int) (xs : List Int) (h : rightB' fc ad qt to xs = true) (hr : ∀ j : Nat, 0 ≤ xs[j]?.getD 0 ∧ xs[j]?.getD 0 ≤ 65535) :
    getR (putL fc ad qt to xs) = (⟨fc, ad, qt, to, xs⟩, 0) ∧ (∀ k, k < (putL fc ad qt to xs).length → (getR ((putL fc ad qt to xs).take k)).2 = if k = 0 then 1 else 3) ∧ ∀ m, (getR (putL fc ad qt to xs ++ [m])).2 = 3 := by
  unfold rightB' at h
  unfold putL
  cases hs : shapeOf fc with
  | none => rw [hs] at h; cases h
  | some s =>
    rw [hs] at h
    dsimp only at h ⊢
    rw [if_pos h]
    rw [Bool.and_eq_true] at h
    exact ⟨get_put s fc ad qt to xs hs h.1 h.2 hr, get_cut s fc ad qt to xs hs h.1 hr, get_more s fc ad qt to xs hs h.1 hr⟩
theorem getR_range (l : List Int) (h : ByteL l) : ∀ j : Nat, 0 ≤ (getR l).1.xs[j]?.getD 0 ∧ (getR l).1.xs[j]?.getD 0 ≤ 65535 := by
  have h0 : ∀ j : Nat, 0 ≤ Rq.none.xs[j]?.getD 0 ∧ Rq.none.xs[j]?.getD 0 ≤ 65535 := fun j => by simp [Rq.none]
  unfold getR
  split
  · exact h0
  cases shapeOf (l.getD 0 0) with
  | none => exact h0
  | some s =>
    dsimp only
    split
    · split
      · exact takL_range s l h
      · exact h0
    · exact h0
end Go.Proofs.Ytgagpalffdgjnaa
