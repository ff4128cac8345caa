/- Layer 5, the walks: is an answer one that bytes tell? · Layer 5, the walks: the values that an answer's bytes may tell. -/
import Derived.Test.YtgeahfkhfpdlhaaG07
import Derived.Test.YtgeahfkhfpdlhaaG08
import Derived.Test.YtgeahfkhfpdlhaaG05
import Derived.Test.YtgeahfkhfpdlhaaG09
import Derived.Deep.RegionHeld
namespace Go.Proofs.Ytgeahfkhfpdlhaa
open Go.RowKit

theorem right_parts {fc ad qt to : Int} {xs : List Int} (h : rightB' fc ad qt to xs = true) : ∃ s, shapeOf fc = some s ∧ holdsB s ad qt to xs = true ∧ fitsB ad qt to xs.length = true := by
  unfold rightB' at h
  cases hs : shapeOf fc with
  | none => rw [hs] at h; cases h
  | some s => rw [hs] at h; dsimp only at h; rw [Bool.and_eq_true] at h; exact ⟨s, rfl, h.1, h.2⟩
theorem right_qty {fc ad qt to : Int} {xs : List Int} (h : rightB' fc ad qt to xs = true) : 0 ≤ qt ∧ qt ≤ 2000 ∧ xs.length ≤ 2000 := by
  obtain ⟨s, hs, h1, _⟩ := right_parts h
  have b := shape_bounds hs
  have p := holds_parts h1
  have l := holds_len b h1
  omega
theorem right_five {fc ad qt to : Int} {xs : List Int} (h : rightB' fc ad qt to xs = true) : 5 ≤ (putL fc ad qt to xs).length := by
  obtain ⟨s, hs, h1, h2⟩ := right_parts h
  unfold putL
  rw [hs]
  dsimp only
  rw [h1, h2, Bool.and_self, if_pos rfl]
  obtain ⟨-, -, ⟨q0, q1⟩, -, -, f0, f1, f2, f3⟩ := holds_parts h1
  have hl := codedL_length s fc ad qt to xs
  rcases shape_cases hs with ⟨_, rfl⟩ | ⟨_, rfl⟩ | ⟨_, rfl⟩ | ⟨_, rfl⟩ | ⟨_, rfl⟩ | ⟨_, rfl⟩ | ⟨_, rfl⟩ | ⟨_, rfl⟩
  all_goals
    simp [lenOf] at hl f0 f1 f2 f3 q1
    omega
/-- The answer of that, to a request. -/
def ansR (fc ad qt to : Int) (xs : List Int) (code : Int) (ys : List Int) : Bool := ansB (rightB' fc ad qt to xs) (readsB fc) (readsBits fc) qt code ys
def repR (fc ad qt to : Int) (xs : List Int) (code : Int) (ys : List Int) : List Int := repL fc ad qt to xs (readsB fc) (readsBits fc) code ys
theorem ans_parts {fc ad qt to code : Int} {xs ys : List Int} (h : ansR fc ad qt to xs code ys = true) : rightB' fc ad qt to xs = true ∧ (code ≠ 0 → (1 ≤ code ∧ code ≤ 4) ∧ ys = []) ∧ (code = 0 → (ys.length : Int) = (if readsB fc then qt else 0) ∧ valuesB (readsBits fc) ys = true) := by
  unfold ansR ansB at h
  rw [Bool.and_eq_true] at h
  refine ⟨h.1, fun hc => ?_, fun hc => ?_⟩
  · have := h.2
    rw [if_pos hc, Bool.and_eq_true] at this
    unfold excB at this
    exact ⟨by simpa using this.1, by simpa using this.2⟩
  · have := h.2
    rw [if_neg (by simp [hc]), Bool.and_eq_true] at this
    exact ⟨by simpa using this.1, this.2⟩
theorem coded05_any (fc ad qt to code : Int) (A A2 : Option Addr) (n c n2 c2 : Nat) (xs ys : List Int) (w : World) (hx : RdI w w.heap.size .u16 A n xs) (hr : ∀ j : Nat, 0 ≤ xs[j]?.getD 0 ∧ xs[j]?.getD 0 ≤ 65535) (nm : n ≤ maxLen)
    (hy : RdI w w.heap.size .u16 A2 n2 ys) (hyr : ∀ j : Nat, 0 ≤ ys[j]?.getD 0 ∧ ys[j]?.getD 0 ≤ 65535) (h : ansR fc ad qt to xs code ys = true) :
    Calls Try.prog 97 #[.agg #[.int .i64 fc, .int .i64 ad, .int .i64 qt, .slice A n c, .int .i64 to, .bool (readsB fc), .bool (readsBits fc), .int .i64 code, .slice A2 n2 c2]] w (RetI .u8 (repR fc ad qt to xs code ys) w) := by
  obtain ⟨h1, h2, h3⟩ := ans_parts h
  unfold repR repL
  by_cases hc : code = 0
  · subst hc
    rw [if_neg (by simp)]
    have q := right_qty h1
    have h3 := (h3 rfl).1
    have hl := hy.len
    cases hb : readsB fc
    · rw [if_neg (by decide)]
      exact coded05_writes fc ad qt to A A2 n c n2 c2 _ xs w hx hr nm (fun _ => right_five h1)
    · rw [if_pos rfl]
      rw [hb, if_pos rfl] at h3
      exact coded05_reads fc ad qt to A A2 n c n2 c2 _ ys w hy hyr (by omega)
  · rw [if_pos hc]
    exact coded05_exc fc ad qt to code A A2 n c n2 c2 _ _ w hc

end Go.Proofs.Ytgeahfkhfpdlhaa
namespace Go.Proofs.Ytgeahfkhfpdlhaa
open Go.RowKit

/-- The values that bytes may tell of q that were read. -/
def takenV (r b : Bool) (qt : Int) (bs : List Int) : List Int :=
  if (if r then qt else 0) = 0 ∨ bs.length < 2 then [] else if b then unbitsL (bs.drop 2) qt.toNat else if ((bs.length - 2 : Nat) : Int) ≠ 2 * qt then [] else wordsAt bs 2 qt.toNat
def fillW (bs : List Int) (q k : Nat) : List Int := (List.range q).map fun i => if i < k then wordAt bs (2 + 2 * i) else 0
theorem fillW_length (bs : List Int) (q k : Nat) : (fillW bs q k).length = q := by simp [fillW]
theorem fillW_zero (bs : List Int) (q : Nat) : fillW bs q 0 = zs q := by
  unfold fillW zs
  apply List.ext_getElem?
  intro i
  by_cases h : i < q <;> simp [h]
theorem fillW_all (bs : List Int) (q : Nat) : fillW bs q q = wordsAt bs 2 q := by
  unfold fillW wordsAt
  apply List.map_congr_left
  intro i hi
  rw [List.mem_range] at hi
  rw [if_pos hi]
theorem fillW_set (bs : List Int) (q k : Nat) (hk : k < q) : (fillW bs q k).set k (wordAt bs (2 + 2 * k)) = fillW bs q (k + 1) := by
  apply List.ext_getElem?
  intro i
  rw [List.getElem?_set, fillW_length]
  by_cases hi : i < q
  · by_cases e : k = i
    · subst e
      rw [if_pos rfl, if_pos hi]
      unfold fillW
      rw [List.getElem?_map, List.getElem?_range hi]
      simp
    · rw [if_neg e]
      unfold fillW
      rw [List.getElem?_map, List.getElem?_map, List.getElem?_range hi]
      simp only [Option.map_some]
      by_cases h2 : i < k
      · rw [if_pos h2, if_pos (by omega)]
      · rw [if_neg h2, if_neg (by omega)]
  · rw [if_neg (by omega), List.getElem?_eq_none (by rw [fillW_length]; omega), List.getElem?_eq_none (by rw [fillW_length]; omega)]
theorem u16_or (x y : Int) (h0 : 0 ≤ x) (h1 : x ≤ 255) (h2 : 0 ≤ y) (h3 : y ≤ 255) : bits .or .u16 (x * 256) y = 256 * x + y := by
  rw [bits_join .u16 16 (by decide) (fun n h0 h1 => by rw [IntKind.wrap_u16]; omega) 8 (x * 256) y (by omega) (by omega) (by omega) h2 (by omega) (by omega)]
  omega

theorem wordAt_in (l : List Int) (a : Nat) (h : a + 2 ≤ l.length) : wordAt l a = 256 * l.getD a 0 + l.getD (a + 1) 0 := by unfold wordAt; rw [if_neg (by omega)]
end Go.Proofs.Ytgeahfkhfpdlhaa
