
/- Layer 5, the walks: the values that an answer's bytes may tell. -/
import Derived.Test.YtgeahfkhfpdlhaaReplyA
import Derived.Test.YtgeahfkhfpdlhaaPduTakenAny
import Derived.Deep.RegionHeld
namespace Go.Proofs.Ytgeahfkhfpdlhaa
open Go.RowKit

/-- The values that bytes may tell of q that were read. -/
def takenV (r b : Bool) (qt : Int) (bs : List Int) : List Int :=
  if (if r then qt else 0) = 0 ∨ bs.length < 2 then [] else if b then unbitsL (bs.drop 2) qt.toNat else if ((bs.length - 2 : Nat) : Int) ≠ 2 * qt then [] else wordsAt bs 2 qt.toNat
def fillW (bs : List Int) (q k : Nat) : List Int := (List.range q).map fun i => if i < k then wordAt bs (2 + 2 * i) else 0
theorem fillW_length (bs : List Int) (q k : Nat) : (fillW bs q k).length = q := by simp [fillW]
theorem fillW_zero (bs : List Int) (q : Nat) : fillW bs q 0 = zs q := by
  unfold fillW zs
  apply List.ext_getElem?
  intro i
  by_cases h : i < q <;> simp [h]
theorem fillW_all (bs : List Int) (q : Nat) : fillW bs q q = wordsAt bs 2 q := by
  unfold fillW wordsAt
  apply List.map_congr_left
  intro i hi
  rw [List.mem_range] at hi
  rw [if_pos hi]
theorem fillW_set (bs : List Int) (q k : Nat) (hk : k < q) : (fillW bs q k).set k (wordAt bs (2 + 2 * k)) = fillW bs q (k + 1) := by
  apply List.ext_getElem?
  intro i
  rw [List.getElem?_set, fillW_length]
  by_cases hi : i < q
  · by_cases e : k = i
    · subst e
      rw [if_pos rfl, if_pos hi]
      unfold fillW
      rw [List.getElem?_map, List.getElem?_range hi]
      simp
    · rw [if_neg e]
      unfold fillW
      rw [List.getElem?_map, List.getElem?_map, List.getElem?_range hi]
      simp only [Option.map_some]
      by_cases h2 : i < k
      · rw [if_pos h2, if_pos (by omega)]
      · rw [if_neg h2, if_neg (by omega)]
  · rw [if_neg (by omega), List.getElem?_eq_none (by rw [fillW_length]; omega), List.getElem?_eq_none (by rw [fillW_length]; omega)]
theorem u16_or (x y : Int) (h0 : 0 ≤ x) (h1 : x ≤ 255) (h2 : 0 ≤ y) (h3 : y ≤ 255) : bits .or .u16 (x * 256) y = 256 * x + y := by
  rw [bits_join .u16 16 (by decide) (fun n h0 h1 => by rw [IntKind.wrap_u16]; omega) 8 (x * 256) y (by omega) (by omega) (by omega) h2 (by omega) (by omega)]
  omega

theorem wordAt_in (l : List Int) (a : Nat) (h : a + 2 ≤ l.length) : wordAt l a = 256 * l.getD a 0 + l.getD (a + 1) 0 := by unfold wordAt; rw [if_neg (by omega)]
end Go.Proofs.Ytgeahfkhfpdlhaa
