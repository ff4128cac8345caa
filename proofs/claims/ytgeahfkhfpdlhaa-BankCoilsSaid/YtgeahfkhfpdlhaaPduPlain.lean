
/- Layer 4 without the program: what may be asked for, its bytes, what bytes ask for, bits. -/
import Derived.Test.YtgeahfkhfpdlhaaWords
namespace Go.Proofs.Ytgeahfkhfpdlhaa
open Go.RowKit

/-- What a request has: its form (0 reading, 1 single, 2 writing, 3 swapping), the greatest amount, how many values, whether bits. -/
structure Shape where
  form : Int
  qty : Int
  vals : Int
  bits : Bool
def shapeOf (fc : Int) : Option Shape :=
  if fc = 1 then some ⟨0, 2000, 0, true⟩ else if fc = 2 then some ⟨0, 2000, 0, true⟩ else if fc = 3 then some ⟨0, 125, 0, false⟩ else if fc = 4 then some ⟨0, 125, 0, false⟩
  else if fc = 5 then some ⟨1, 0, 1, true⟩ else if fc = 6 then some ⟨1, 0, 1, false⟩ else if fc = 15 then some ⟨2, 1968, 0, true⟩ else if fc = 16 then some ⟨2, 123, 0, false⟩
  else if fc = 22 then some ⟨1, 0, 2, false⟩ else if fc = 23 then some ⟨3, 125, 121, false⟩ else none
def Shape.val (s : Shape) : Value := .agg #[.int .i64 s.form, .int .i64 s.qty, .int .i64 s.vals, .bool s.bits]
def shapeZero : Value := .agg #[.int .i64 0, .int .i64 0, .int .i64 0, .bool false]
def lookV (fc : Int) : Value := match shapeOf fc with | some s => s.val | none => shapeZero

def ent (k f q v : Int) (b : Bool) (n : Nat) : MapEntry := ⟨.int .i64 k, .agg #[.int .i64 f, .int .i64 q, .int .i64 v, .bool b], n⟩
def E1 : Array MapEntry := #[ent 1 0 2000 0 true 0]
def E2 : Array MapEntry := E1.push (ent 2 0 2000 0 true 1)
def E3 : Array MapEntry := E2.push (ent 3 0 125 0 false 2)
def E4 : Array MapEntry := E3.push (ent 4 0 125 0 false 3)
def E5 : Array MapEntry := E4.push (ent 5 1 0 1 true 4)
def E6 : Array MapEntry := E5.push (ent 6 1 0 1 false 5)
def E7 : Array MapEntry := E6.push (ent 15 2 1968 0 true 6)
def E8 : Array MapEntry := E7.push (ent 16 2 123 0 false 7)
def E9 : Array MapEntry := E8.push (ent 22 1 0 2 false 8)
def E10 : Array MapEntry := E9.push (ent 23 3 125 121 false 9)

theorem find_E10 (k : Int) : ∃ r, Instr.findNow (.int .i64) (.int .i64 k) E10.toList 0 = some r ∧ pickV shapeZero r = lookV k ∧ r.isSome = (shapeOf k).isSome := by
  have e : E10.toList = [ent 1 0 2000 0 true 0, ent 2 0 2000 0 true 1, ent 3 0 125 0 false 2, ent 4 0 125 0 false 3, ent 5 1 0 1 true 4, ent 6 1 0 1 false 5, ent 15 2 1968 0 true 6, ent 16 2 123 0 false 7, ent 22 1 0 2 false 8, ent 23 3 125 121 false 9] := rfl
  rw [e]
  have step : ∀ (a f q v : Int) (b : Bool) (n i : Nat) (es : List MapEntry), Instr.findNow (.int .i64) (.int .i64 k) (ent a f q v b n :: es) i =
      if k = a then some (some (i, .agg #[.int .i64 f, .int .i64 q, .int .i64 v, .bool b])) else Instr.findNow (.int .i64) (.int .i64 k) es (i + 1) := by
    intro a f q v b n i es
    simp only [Instr.findNow, ent, Instr.sameNow]
    by_cases h : k = a
    · subst h; simp
    · have : (k == a) = false := by simp [h]
      simp [this, h]
  by_cases h1 : k = 1
  · subst h1; exact ⟨_, rfl, rfl, rfl⟩
  by_cases h2 : k = 2
  · subst h2; exact ⟨_, rfl, rfl, rfl⟩
  by_cases h3 : k = 3
  · subst h3; exact ⟨_, rfl, rfl, rfl⟩
  by_cases h4 : k = 4
  · subst h4; exact ⟨_, rfl, rfl, rfl⟩
  by_cases h5 : k = 5
  · subst h5; exact ⟨_, rfl, rfl, rfl⟩
  by_cases h6 : k = 6
  · subst h6; exact ⟨_, rfl, rfl, rfl⟩
  by_cases h15 : k = 15
  · subst h15; exact ⟨_, rfl, rfl, rfl⟩
  by_cases h16 : k = 16
  · subst h16; exact ⟨_, rfl, rfl, rfl⟩
  by_cases h22 : k = 22
  · subst h22; exact ⟨_, rfl, rfl, rfl⟩
  by_cases h23 : k = 23
  · subst h23; exact ⟨_, rfl, rfl, rfl⟩
  refine ⟨none, ?_, ?_, ?_⟩
  · rw [step, if_neg h1, step, if_neg h2, step, if_neg h3, step, if_neg h4, step, if_neg h5, step, if_neg h6, step, if_neg h15, step, if_neg h16, step, if_neg h22, step, if_neg h23]; rfl
  · unfold pickV lookV shapeOf; simp only [if_neg h1, if_neg h2, if_neg h3, if_neg h4, if_neg h5, if_neg h6, if_neg h15, if_neg h16, if_neg h22, if_neg h23]
  · unfold shapeOf; simp only [if_neg h1, if_neg h2, if_neg h3, if_neg h4, if_neg h5, if_neg h6, if_neg h15, if_neg h16, if_neg h22, if_neg h23]; rfl

/-- May these be written? -/
def valuesB (bits : Bool) (xs : List Int) : Bool := !bits || xs.all (· ≤ 1)
/-- Has a request what one of that shape has, and no more? -/
def holdsB (s : Shape) (ad qt to : Int) (xs : List Int) : Bool :=
  if ad < 0 ∨ 65536 ≤ ad ∨ to < 0 ∨ 65536 ≤ to ∨ qt < 0 ∨ s.qty < qt then false
  else if ((qt == 0) != (s.form == 1)) ∨ (s.form ≠ 3 ∧ to ≠ 0) then false
  else if s.form = 0 then xs.length == 0
  else if s.form = 1 then ((xs.length : Int) == s.vals) && valuesB s.bits xs
  else if s.form = 2 then ((xs.length : Int) == qt) && valuesB s.bits xs
  else decide (1 ≤ (xs.length : Int)) && decide ((xs.length : Int) ≤ s.vals)
/-- Are the places below what can be told? -/
def fitsB (ad qt to : Int) (n : Nat) : Bool := decide (ad + max qt 1 ≤ 65536) && decide (to + (n : Int) ≤ 65536)
/-- A word in two bytes, the higher first. -/
def hiLo (x : Int) : List Int := [x / 256 % 256, x % 256]
theorem hiLo_small (x : Int) (h0 : 0 ≤ x) (h1 : x ≤ 65535) : hiLo x = [x / 256, x % 256] := by unfold hiLo; rw [Int.emod_eq_of_lt (by omega) (by omega)]
def wordsL (xs : List Int) : List Int := xs.flatMap hiLo
theorem wordsL_length (xs : List Int) : (wordsL xs).length = 2 * xs.length := by
  induction xs with
  | nil => rfl
  | cons x l ih => show (hiLo x ++ wordsL l).length = _; rw [List.length_append, ih]; simp [hiLo]; omega
theorem wordsL_take (xs : List Int) (k : Nat) (h : k < xs.length) : wordsL (xs.take (k + 1)) = wordsL (xs.take k) ++ hiLo (xs.getD k 0) := by
  rw [List.take_succ_eq_append_getElem h]
  unfold wordsL
  rw [List.flatMap_append, List.getD_eq_getElem?_getD, List.getElem?_eq_getElem h]
  simp
/-- The number of m bits, the first the lowest. -/
def bitN (f : Nat → Bool) : Nat → Int
  | 0 => 0
  | j + 1 => bitN f j + (if f j then 2 ^ j else 0)
theorem bitN_range (f : Nat → Bool) (m : Nat) : 0 ≤ bitN f m ∧ bitN f m < 2 ^ m := by
  induction m with
  | zero => simp [bitN]
  | succ j ih =>
    have hp : (0 : Int) < 2 ^ j := Int.pow_pos (by omega)
    have e : (2 : Int) ^ (j + 1) = 2 ^ j * 2 := rfl
    simp only [bitN]
    split <;> omega
def bitAt (xs : List Int) (i j : Nat) : Bool := xs.getD (8 * i + j) 0 != 0
/-- The bytes when k bits have been put. -/
def bitsTo (xs : List Int) (k : Nat) : List Int := (List.range ((xs.length + 7) / 8)).map fun i => bitN (bitAt xs i) (min 8 (k - 8 * i))
def bitsL (xs : List Int) : List Int := bitsTo xs xs.length
theorem bitsTo_length (xs : List Int) (k : Nat) : (bitsTo xs k).length = (xs.length + 7) / 8 := by simp [bitsTo]
theorem bitsTo_getD (xs : List Int) (k i : Nat) (h : i < (xs.length + 7) / 8) : (bitsTo xs k).getD i 0 = bitN (bitAt xs i) (min 8 (k - 8 * i)) := by
  unfold bitsTo
  rw [List.getD_eq_getElem?_getD, List.getElem?_map, List.getElem?_range h]; rfl
theorem bitsTo_zero (xs : List Int) : bitsTo xs 0 = zs ((xs.length + 7) / 8) := by
  unfold bitsTo zs
  apply List.ext_getElem?
  intro i
  by_cases h : i < (xs.length + 7) / 8
  · rw [List.getElem?_map, List.getElem?_range h, List.getElem?_replicate, if_pos h]; simp [bitN]
  · rw [List.getElem?_eq_none (by simp; omega), List.getElem?_eq_none (by simp; omega)]
theorem bitsTo_other (xs : List Int) (k i : Nat) (hi : k / 8 ≠ i) : (bitsTo xs (k + 1))[i]? = (bitsTo xs k)[i]? := by
  by_cases h : i < (xs.length + 7) / 8
  · unfold bitsTo
    rw [List.getElem?_map, List.getElem?_map, List.getElem?_range h]
    simp only [Option.map_some]
    have e : min 8 (k + 1 - 8 * i) = min 8 (k - 8 * i) := by omega
    rw [e]
  · rw [List.getElem?_eq_none (by rw [bitsTo_length]; omega), List.getElem?_eq_none (by rw [bitsTo_length]; omega)]
theorem bitsTo_here (xs : List Int) (k : Nat) (hk : k < xs.length) : (bitsTo xs (k + 1)).getD (k / 8) 0 = (bitsTo xs k).getD (k / 8) 0 + (if xs.getD k 0 ≠ 0 then 2 ^ (k % 8) else 0) := by
  rw [bitsTo_getD _ _ _ (by omega), bitsTo_getD _ _ _ (by omega)]
  have e1 : min 8 (k + 1 - 8 * (k / 8)) = k % 8 + 1 := by omega
  have e2 : min 8 (k - 8 * (k / 8)) = k % 8 := by omega
  have e3 : 8 * (k / 8) + k % 8 = k := by omega
  rw [e1, e2]
  simp only [bitN, bitAt, e3, bne_iff_ne]
theorem bitsTo_set (xs : List Int) (k : Nat) (hk : k < xs.length) (h : xs.getD k 0 ≠ 0) : (bitsTo xs k).set (k / 8) ((bitsTo xs k).getD (k / 8) 0 + 2 ^ (k % 8)) = bitsTo xs (k + 1) := by
  apply List.ext_getElem?
  intro i
  rw [List.getElem?_set]
  by_cases e : k / 8 = i
  · subst e
    rw [if_pos rfl, if_pos (by rw [bitsTo_length]; omega)]
    have := bitsTo_here xs k hk
    rw [if_pos h] at this
    have hl : k / 8 < (bitsTo xs (k + 1)).length := by rw [bitsTo_length]; omega
    rw [← this, List.getD_eq_getElem?_getD, List.getElem?_eq_getElem hl]; rfl
  · rw [if_neg e, bitsTo_other xs k i e]
theorem bitsTo_same (xs : List Int) (k : Nat) (hk : k < xs.length) (h : xs.getD k 0 = 0) : bitsTo xs k = bitsTo xs (k + 1) := by
  apply List.ext_getElem?
  intro i
  by_cases e : k / 8 = i
  · subst e
    have := bitsTo_here xs k hk
    rw [if_neg (fun e => e h), Int.add_zero] at this
    have h1 : k / 8 < (bitsTo xs (k + 1)).length := by rw [bitsTo_length]; omega
    have h2 : k / 8 < (bitsTo xs k).length := by rw [bitsTo_length]; omega
    rw [List.getD_eq_getElem?_getD, List.getD_eq_getElem?_getD, List.getElem?_eq_getElem h1, List.getElem?_eq_getElem h2] at this
    rw [List.getElem?_eq_getElem h1, List.getElem?_eq_getElem h2]
    exact congrArg some this.symm
  · exact (bitsTo_other xs k i e).symm
theorem bit_or (x : Int) (j : Nat) (h0 : 0 ≤ x) (h1 : x < 2 ^ j) (hj : j < 8) : bits .or .u8 x (2 ^ j) = x + 2 ^ j := by
  have hp : ((2 : Int) ^ j).toNat = 2 ^ j := by rw [show (2 : Int) ^ j = ((2 ^ j : Nat) : Int) by simp]; rfl
  have hx : x = (x.toNat : Int) := by omega
  have hlt : x.toNat < 2 ^ j := by
    have : (x.toNat : Int) < ((2 ^ j : Nat) : Int) := by rw [← hx]; simpa using h1
    omega
  have h8 : (2 : Nat) ^ j ≤ 2 ^ 7 := Nat.pow_le_pow_right (by omega) (by omega)
  have hp2 : (0 : Nat) < 2 ^ j := Nat.pow_pos (by omega)
  have e2 : (2 : Int) ^ j = ((2 ^ j : Nat) : Int) := by simp
  rw [u8_or x (2 ^ j) h0 (by rw [e2] at h1; omega) (by rw [e2]; omega) (by rw [e2]; omega), hp, Nat.or_comm, nat_join j _ _ (by simp) hlt, hx]
  rw [e2]; omega

theorem bit_or' (x : Int) (j : Nat) (h0 : 0 ≤ x) (h1 : x < 2 ^ j) (hj : j < 8) : bits .or .u8 x (2 ^ j % 256) = x + 2 ^ j := by
  have e2 : (2 : Int) ^ j = ((2 ^ j : Nat) : Int) := by simp
  have h8 : (2 : Nat) ^ j ≤ 2 ^ 7 := Nat.pow_le_pow_right (by omega) (by omega)
  rw [Int.emod_eq_of_lt (by rw [e2]; omega) (by rw [e2]; omega), bit_or x j h0 h1 hj]
/-- The first n bits of bytes. -/
def unbitsL (bs : List Int) (n : Nat) : List Int := (List.range n).map fun i => if i / 8 < bs.length then bs.getD (i / 8) 0 / 2 ^ (i % 8) % 2 else 0
theorem unbit_val (x : Int) (j : Nat) (h0 : 0 ≤ x) (h1 : x ≤ 255) : IntKind.u16.wrap (bits .and .u8 (x / 2 ^ j) 1) = x / 2 ^ j % 2 := by
  have hp : (0 : Int) < 2 ^ j := Int.pow_pos (by omega)
  have a0 : 0 ≤ x / 2 ^ j := Int.ediv_nonneg h0 (by omega)
  have a1 : x / 2 ^ j ≤ x := Int.ediv_le_self _ h0
  rw [u8_and _ 1 a0 (by omega) (by omega) (by omega)]
  show IntKind.u16.wrap ((_ &&& 1 : Nat) : Int) = _
  rw [nat_mask1, IntKind.wrap_u16]; omega
def unbitsTo (bs : List Int) (n k : Nat) : List Int := (List.range n).map fun i => if i < k ∧ i / 8 < bs.length then bs.getD (i / 8) 0 / 2 ^ (i % 8) % 2 else 0
theorem unbitsTo_length (bs : List Int) (n k : Nat) : (unbitsTo bs n k).length = n := by simp [unbitsTo]
theorem unbitsL_length (bs : List Int) (n : Nat) : (unbitsL bs n).length = n := by simp [unbitsL]
theorem unbitsTo_zero (bs : List Int) (n : Nat) : unbitsTo bs n 0 = zs n := by
  unfold unbitsTo zs
  apply List.ext_getElem?
  intro i
  by_cases h : i < n <;> simp [h]
theorem unbitsTo_all (bs : List Int) (n k : Nat) (h : n ≤ k ∨ bs.length ≤ k / 8) : unbitsTo bs n k = unbitsL bs n := by
  unfold unbitsTo unbitsL
  apply List.map_congr_left
  intro i hi
  rw [List.mem_range] at hi
  by_cases h1 : i / 8 < bs.length
  · rw [if_pos ⟨by omega, h1⟩, if_pos h1]
  · rw [if_neg (fun h => h1 h.2), if_neg h1]
theorem unbitsTo_set (bs : List Int) (n k : Nat) (hk : k < n) (h : k / 8 < bs.length) : (unbitsTo bs n k).set k (bs.getD (k / 8) 0 / 2 ^ (k % 8) % 2) = unbitsTo bs n (k + 1) := by
  apply List.ext_getElem?
  intro i
  rw [List.getElem?_set, unbitsTo_length]
  by_cases hi : i < n
  · unfold unbitsTo
    rw [List.getElem?_map, List.getElem?_map, List.getElem?_range hi]
    simp only [Option.map_some]
    by_cases e : k = i
    · subst e
      rw [if_pos rfl, if_pos hi, if_pos ⟨by omega, h⟩]
    · rw [if_neg e]
      congr 1
      by_cases h2 : i < k
      · by_cases h3 : i / 8 < bs.length
        · rw [if_pos ⟨h2, h3⟩, if_pos ⟨by omega, h3⟩]
        · rw [if_neg (fun h => h3 h.2), if_neg (fun h => h3 h.2)]
      · rw [if_neg (fun h => h2 h.1), if_neg (fun h => by omega)]
  · rw [if_neg (by omega), List.getElem?_eq_none (by simp [unbitsTo]; omega), List.getElem?_eq_none (by simp [unbitsTo]; omega)]
/-- The bytes of a request. -/
def headL (fc ad : Int) : List Int := [fc % 256] ++ wordsL [ad]
def codedL (s : Shape) (fc ad qt to : Int) (xs : List Int) : List Int :=
  if s.form = 0 then headL fc ad ++ wordsL [qt]
  else if s.form = 1 then (if s.bits then headL fc ad ++ wordsL [65280 * xs.getD 0 0] else headL fc ad ++ wordsL xs)
  else
    let mid := if s.form = 2 then headL fc ad ++ wordsL [qt] else headL fc ad ++ wordsL [qt, to, (xs.length : Int)]
    if s.bits then mid ++ [((xs.length : Int) + 7) / 8] ++ bitsL xs else mid ++ [2 * (xs.length : Int)] ++ wordsL xs
end Go.Proofs.Ytgeahfkhfpdlhaa
