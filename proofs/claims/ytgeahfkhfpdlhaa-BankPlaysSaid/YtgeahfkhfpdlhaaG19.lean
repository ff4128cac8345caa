/- Layer 16 without the program: a key, its sum, its words, the key of words. · The library's functions by their contracts, which the shelf has proved over any program: laid at this translation's numbers. · Layer 16, the walks: right. · Layer 16, the walks: what the functions of package key compute. · Layer 16, the walks: Sum, Match. -/
import Derived.Test.YtgeahfkhfpdlhaaWords
import Derived.Lib.Bytealg
import Derived.Test.YtgeahfkhfpdlhaaRows
import Derived.Shelf.Strings.Search1
import Derived.Shelf.Small.Strs
import Derived.Test.YtgeahfkhfpdlhaaG01
import Derived.Laws.EntriesVeiled
namespace Go.Proofs.Ytgeahfkhfpdlhaa
open Go.RowKit

/-- Is that a key? -/
def rightB (s : ByteArray) : Bool := decide (1 ≤ s.size) && decide (s.size ≤ 32) && decide (Lib.indexByte s.data.toList 0 < 0)

def mix (h x : Int) : Int := IntKind.u64.wrap (bits .xor .u64 h x * 1099511628211)
/-- The sum behind the first k bytes of a round. -/
def roundTo (s : ByteArray) (h : Int) : Nat → Int
  | 0 => h
  | k + 1 => mix (roundTo s h k) ((bs s).getD k 0)
def start : Int := 14695981039346656037
/-- The sum behind t rounds. -/
def sumTo (s : ByteArray) : Nat → Int
  | 0 => start
  | t + 1 => mix (roundTo s (sumTo s t) s.size) t

/-- The digit of sixteen at place k from the end. -/
def nib (n : Int) (k : Nat) : Int := bits .and .u64 (n / 2 ^ (4 * k)) 15
def hexS : ByteArray := ⟨#[48, 49, 50, 51, 52, 53, 54, 55, 56, 57, 97, 98, 99, 100, 101, 102]⟩
def hx (d : Int) : Int := ((hexS.data.toList.getD d.toNat 0).toNat : Int)
/-- The digits when the last k of them stand. -/
def toldTo (n : Int) (k : Nat) : List Int := (List.range 16).map fun j => if 15 - j < k then hx (nib n (15 - j)) else 0
def toldL (n : Int) : List Int := (List.range 16).map fun j => hx (nib n (15 - j))
def sumS (s : ByteArray) : ByteArray := if rightB s then strOfNums (toldL (sumTo s 64)) else ⟨#[]⟩

theorem nib_range (n : Int) (k : Nat) : 0 ≤ nib n k ∧ nib n k < 16 := by
  show 0 ≤ IntKind.u64.wrap ((BitVec.ofInt 64 (n / 2 ^ (4 * k)) &&& BitVec.ofInt 64 15).toNat : Int) ∧ IntKind.u64.wrap ((BitVec.ofInt 64 (n / 2 ^ (4 * k)) &&& BitVec.ofInt 64 15).toNat : Int) < 16
  have h : (BitVec.ofInt 64 (n / 2 ^ (4 * k)) &&& BitVec.ofInt 64 15).toNat ≤ 15 := by
    rw [BitVec.toNat_and]; exact Nat.and_le_right
  rw [IntKind.wrap_u64]; omega
theorem toldTo_zero (n : Int) : toldTo n 0 = zs 16 := by
  unfold toldTo zs
  apply List.ext_getElem?
  intro i
  simp only [List.getElem?_map, List.getElem?_replicate]
  by_cases h : i < 16
  · simp [h]
  · simp [h]
theorem toldTo_all (n : Int) : toldTo n 16 = toldL n := by
  unfold toldTo toldL
  apply List.map_congr_left
  intro j _
  rw [if_pos (by omega)]
theorem toldTo_step (n : Int) (k : Nat) (hk : k < 16) : (toldTo n k).set (15 - k) (hx (nib n k)) = toldTo n (k + 1) := by
  unfold toldTo
  apply List.ext_getElem?
  intro i
  rw [List.getElem?_set]
  simp only [List.getElem?_map, List.length_map, List.length_range]
  by_cases h : i < 16
  · simp only [List.getElem?_range h, Option.map_some]
    by_cases e : 15 - k = i
    · subst e
      rw [if_pos rfl, if_pos h, if_pos (by omega)]
      congr 3; omega
    · rw [if_neg e]
      congr 1
      by_cases h2 : 15 - i < k
      · rw [if_pos h2, if_pos (by omega)]
      · rw [if_neg h2, if_neg (by omega)]
  · have : (List.range 16)[i]? = none := by simp; omega
    rw [if_neg (by omega), this]; rfl
theorem toldTo_length (n : Int) (k : Nat) : (toldTo n k).length = 16 := by simp [toldTo]
theorem toldL_length (n : Int) : (toldL n).length = 16 := by simp [toldL]
theorem hex_at (d : Int) (h : d.toNat < hexS.size) : ((hexS[d.toNat]'h).toNat : Int) = hx d := by
  unfold hx
  have h2 : d.toNat < hexS.data.toList.length := h
  rw [List.getD_eq_getElem?_getD, List.getElem?_eq_getElem h2]
  rfl
/-- The words when k bytes have been put. -/
def wordsTo (s : ByteArray) (k : Nat) : List Int :=
  (List.range ((s.size + 1) / 2)).map fun i => (if 2 * i < k then (bs s).getD (2 * i) 0 * 256 else 0) + (if 2 * i + 1 < k then (bs s).getD (2 * i + 1) 0 else 0)
theorem wordsTo_length (s : ByteArray) (k : Nat) : (wordsTo s k).length = (s.size + 1) / 2 := by simp [wordsTo]
theorem wordsTo_zero (s : ByteArray) : wordsTo s 0 = zs ((s.size + 1) / 2) := by
  unfold wordsTo zs
  apply List.ext_getElem?
  intro i
  simp only [List.getElem?_map, List.getElem?_replicate]
  by_cases h : i < (s.size + 1) / 2
  · rw [List.getElem?_range h]; simp [h]
  · have : (List.range ((s.size + 1) / 2))[i]? = none := by simp; omega
    rw [this]; simp [h]
theorem wordsTo_getD (s : ByteArray) (k i : Nat) (h : i < (s.size + 1) / 2) :
    (wordsTo s k).getD i 0 = (if 2 * i < k then (bs s).getD (2 * i) 0 * 256 else 0) + (if 2 * i + 1 < k then (bs s).getD (2 * i + 1) 0 else 0) := by
  unfold wordsTo
  rw [List.getD_eq_getElem?_getD, List.getElem?_map, List.getElem?_range h]; rfl
theorem wordsTo_step (s : ByteArray) (k : Nat) (hk : k < s.size) (v : Int) (hv : v = (if k % 2 = 0 then (bs s).getD k 0 * 256 else (wordsTo s k).getD (k / 2) 0 + (bs s).getD k 0)) :
    (wordsTo s k).set (k / 2) v = wordsTo s (k + 1) := by
  apply List.ext_getElem?
  intro i
  rw [List.getElem?_set]
  by_cases e : k / 2 = i
  · subst e
    rw [if_pos rfl, if_pos (by rw [wordsTo_length]; omega)]
    have h1 : k / 2 < (s.size + 1) / 2 := by omega
    have hl : k / 2 < (wordsTo s (k + 1)).length := by rw [wordsTo_length]; omega
    have := wordsTo_getD s (k + 1) (k / 2) h1
    rw [List.getD_eq_getElem?_getD, List.getElem?_eq_getElem hl] at this
    rw [List.getElem?_eq_getElem hl]
    simp only [Option.getD_some] at this
    rw [this, hv, wordsTo_getD s k (k / 2) h1]
    by_cases h2 : k % 2 = 0
    · have e2 : 2 * (k / 2) = k := by omega
      rw [if_pos h2, if_pos (by omega), if_neg (by omega), e2]; simp
    · have e2 : 2 * (k / 2) + 1 = k := by omega
      rw [if_neg h2, if_pos (by omega), if_neg (by omega), if_pos (by omega), if_pos (by omega), e2]; simp
  · rw [if_neg e]
    by_cases h : i < (s.size + 1) / 2
    · unfold wordsTo
      rw [List.getElem?_map, List.getElem?_map, List.getElem?_range h]
      simp only [Option.map_some]
      congr 2
      · by_cases a : 2 * i < k
        · rw [if_pos a, if_pos (by omega)]
        · rw [if_neg a, if_neg (by omega)]
      · by_cases a : 2 * i + 1 < k
        · rw [if_pos a, if_pos (by omega)]
        · rw [if_neg a, if_neg (by omega)]
    · rw [List.getElem?_eq_none (by rw [wordsTo_length]; omega), List.getElem?_eq_none (by rw [wordsTo_length]; omega)]
theorem word_hi (b : Int) (h0 : 0 ≤ b) (h1 : b ≤ 255) : IntKind.u16.wrap (IntKind.u16.wrap b * 256) = b * 256 := by
  rw [IntKind.wrap_u16, IntKind.wrap_u16]; omega
theorem word_or (x b : Int) (h0 : 0 ≤ b) (h1 : b ≤ 255) (h2 : 0 ≤ x) (h3 : x ≤ 255) : bits .or .u16 (x * 256) (IntKind.u16.wrap b) = x * 256 + b := by
  have e : IntKind.u16.wrap b = b := by rw [IntKind.wrap_u16]; omega
  rw [e, u16_or (x * 256) b (by omega) (by omega) (by omega) (by omega), nat_join 8 _ _ (by omega) (by omega)]
  omega
theorem byte_range (s : ByteArray) (k : Nat) : 0 ≤ (bs s).getD k 0 ∧ (bs s).getD k 0 ≤ 255 := by
  unfold bs
  rw [List.getD_eq_getElem?_getD, List.getElem?_map]
  cases h : s.data.toList[k]? with
  | none => simp
  | some b => have := b.toNat_lt; simp; omega
/-- The byte i of words. -/
def byteAt (xs : List Int) (i : Nat) : Int := if i % 2 = 1 then xs.getD (i / 2) 0 % 256 else xs.getD (i / 2) 0 / 256 % 256
def textTo (xs : List Int) (k : Nat) : List Int := (List.range k).map (byteAt xs)
theorem textTo_length (xs : List Int) (k : Nat) : (textTo xs k).length = k := by simp [textTo]
theorem textTo_succ (xs : List Int) (k : Nat) : textTo xs (k + 1) = textTo xs k ++ [byteAt xs k] := by simp [textTo, List.range_succ]
/-- The bytes of words up to the first 0, of at most m. -/
def textL (xs : List Int) (m : Nat) : List Int := (textTo xs m).takeWhile (· ≠ 0)
def textS (xs : List Int) (n : Nat) : ByteArray :=
  if rightB (strOfNums (textL xs (2 * min n 32))) then strOfNums (textL xs (2 * min n 32)) else ⟨#[]⟩
theorem textL_stop (xs : List Int) (m k : Nat) (hk : k ≤ m) (h : ∀ j, j < k → byteAt xs j ≠ 0) (he : k = m ∨ byteAt xs k = 0) : textL xs m = textTo xs k := by
  unfold textL
  have h1 : ∀ x ∈ textTo xs k, (decide (x ≠ 0)) = true := by
    intro x hx
    simp only [textTo, List.mem_map, List.mem_range] at hx
    obtain ⟨j, hj, rfl⟩ := hx
    exact decide_eq_true (h j hj)
  have h0 : (textTo xs k).takeWhile (· ≠ 0) = textTo xs k := by
    have := List.takeWhile_append_of_pos (l₂ := []) h1
    simpa using this
  rcases he with rfl | he
  · exact h0
  · rcases Nat.eq_or_lt_of_le hk with rfl | hlt
    · exact h0
    · obtain ⟨d, rfl⟩ : ∃ d, m = k + (d + 1) := ⟨m - k - 1, by omega⟩
      have e : textTo xs (k + (d + 1)) = textTo xs k ++ (byteAt xs k :: ((List.range' (k + 1) d).map (byteAt xs))) := by
        simp only [textTo]
        rw [List.range_eq_range', List.range_eq_range', ← List.range'_append_1]
        simp [List.range'_succ]
      rw [e, List.takeWhile_append_of_pos h1, List.takeWhile_cons_of_neg (by simp [he])]
      simp
end Go.Proofs.Ytgeahfkhfpdlhaa
namespace Go.Proofs.Ytgeahfkhfpdlhaa
open Go.Shelf Go.RowKit
def lays137_ren : Go.Shelf.Ren := ⟨fun | 137 => 143 | 217 => 145 | 266 => 146 | n => n, fun | 9 => 9 | 5 => 5 | 3 => 3 | n => n, fun | n => n⟩
theorem lays137 : Go.Proofs.Lays.n137 Try.prog lays137_ren := {
  mixed := by kernel_rfl
  f137 := Try.func143.trans (congrArg some (by kernel_rfl))
  f217 := Try.func145.trans (congrArg some (by kernel_rfl))
  f266 := Try.func146.trans (congrArg some (by kernel_rfl))
  t3 := Try.underlying3
  a3 := Try.isAgg3
  z3 := Try.sizeOf3
  v3 := Try.zeroValue3
  t5 := Try.underlying5
  a5 := Try.isAgg5
  z5 := Try.sizeOf5
  v5 := Try.zeroValue5
  t9 := Try.underlying9
  a9 := Try.isAgg9
  z9 := Try.sizeOf9
  v9 := Try.zeroValue9 }
theorem idx_any (s : ByteArray) (c : Int) (w : World) :
    Calls Try.prog 143 #[.string s, .int .u8 c] w fun e w' => e = .returned (.int .i64 (Lib.indexByte s.data.toList c.toNat.toUInt8)) ∧ w' = w := Any.strings_IndexByte lays137 s c w
end Go.Proofs.Ytgeahfkhfpdlhaa
namespace Go.Proofs.Ytgeahfkhfpdlhaa
open Go.RowKit

set_option maxRecDepth 100000 in
set_option maxHeartbeats 400000 in
theorem right_any (s : ByteArray) (w : World) (hs : s.size ≤ maxLen) :
    Calls Try.prog 131 #[.string s] w fun e w' => e = .returned (.bool (rightB s)) ∧ w = w' := by
  unfold maxLen at hs
  go_enter Try.func131, Try.ntmps131
  go_wp2_with (go_at_call 143; refine (idx_any _ _ _).mono ?_; rintro e w' ⟨rfl, rfl⟩)
  all_goals go_ret
  · have h1 : 1 ≤ s.size := by omega
    have h2 : s.size ≤ 32 := by omega
    exact ⟨by simp [rightB, h1, h2], rfl⟩
  · have h1 : ¬ s.size ≤ 32 := by omega
    exact ⟨by simp [rightB, h1], rfl⟩
  · have h1 : ¬ 1 ≤ s.size := by omega
    exact ⟨by simp [rightB, h1], rfl⟩
end Go.Proofs.Ytgeahfkhfpdlhaa
namespace Go.Proofs.Ytgeahfkhfpdlhaa
open Go.RowKit
/-- The byte k of a string, in the walk's spelling. -/
theorem bs_getD (s : ByteArray) (k : Nat) (h : k < s.size) : (bs s).getD k 0 = ((s[k]'h).toNat : Int) := by
  unfold bs
  rw [List.getD_eq_getElem?_getD, List.getElem?_map, List.getElem?_eq_getElem (show k < s.data.toList.length from h)]
  rfl

end Go.Proofs.Ytgeahfkhfpdlhaa
namespace Go.Proofs.Ytgeahfkhfpdlhaa
open Go.RowKit

end Go.Proofs.Ytgeahfkhfpdlhaa
