
/- Layer 4, plain: bits and the bytes of bits are each other's inverse. -/
import Derived.Test.YtgeahfkhfpdlhaaPduTake
namespace Go.Proofs.Ytgeahfkhfpdlhaa
open Go.RowKit

theorem bitN_bit (f : Nat → Bool) (j : Nat) : ∀ m, j < m → bitN f m / 2 ^ j % 2 = if f j then 1 else 0 := by
  intro m
  induction m with
  | zero => intro h; omega
  | succ m ih =>
    intro h
    have hr := bitN_range f j
    have hp : (0 : Int) < 2 ^ j := Int.pow_pos (by omega)
    by_cases e : j = m
    · subst e
      show (bitN f j + (if f j then 2 ^ j else 0)) / 2 ^ j % 2 = _
      split
      · rw [Int.add_ediv_of_dvd_right (Int.dvd_refl _), Int.ediv_eq_zero_of_lt hr.1 hr.2, Int.ediv_self (by omega)]; rfl
      · rw [Int.add_zero, Int.ediv_eq_zero_of_lt hr.1 hr.2]; rfl
    · have ih := ih (by omega)
      show (bitN f m + (if f m then 2 ^ m else 0)) / 2 ^ j % 2 = _
      rw [← ih]
      split
      · have e2 : (2 : Int) ^ m = 2 ^ j * (2 * 2 ^ (m - j - 1)) := by
          rw [← Int.mul_assoc, Int.mul_comm (2 ^ j) 2, Int.mul_assoc, ← Int.pow_add]
          have : m = 1 + (j + (m - j - 1)) := by omega
          conv => lhs; rw [this, Int.pow_add]
          rfl
        rw [e2, Int.add_mul_ediv_left _ _ (by omega), Int.add_mul_emod_self_left]
      · rw [Int.add_zero]
theorem bitN_val (x : Int) (_h0 : 0 ≤ x) : ∀ m, bitN (fun j => x / 2 ^ j % 2 != 0) m = x % 2 ^ m := by
  intro m
  induction m with
  | zero => show (0 : Int) = x % 1; omega
  | succ m ih =>
    show bitN _ m + (if (x / 2 ^ m % 2 != 0) then 2 ^ m else 0) = _
    rw [ih]
    have hp : (0 : Int) < 2 ^ m := Int.pow_pos (by omega)
    have e : (2 : Int) ^ (m + 1) = 2 ^ m * 2 := Int.pow_succ ..
    have key : x % (2 ^ m * 2) = x % 2 ^ m + 2 ^ m * (x / 2 ^ m % 2) := by
      generalize hp2 : (2 : Int) ^ m = p at hp
      have a1 := Int.emod_add_mul_ediv x p
      have a2 := Int.emod_add_mul_ediv (x / p) 2
      have a3 := Int.emod_nonneg x (show p ≠ 0 by omega)
      have a4 := Int.emod_lt_of_pos x hp
      have e1 : x = (x % p + p * (x / p % 2)) + p * 2 * (x / p / 2) := by
        conv => lhs; rw [← a1, ← a2, Int.mul_add]
        rw [Int.mul_assoc, ← Int.add_assoc]
      conv => lhs; rw [e1]
      rw [Int.add_mul_emod_self_left]
      rcases Int.emod_two_eq (x / p) with h | h
      · rw [h]; apply Int.emod_eq_of_lt <;> omega
      · rw [h]; apply Int.emod_eq_of_lt <;> omega
    rw [e, key]
    rcases Int.emod_two_eq (x / 2 ^ m) with h | h
    · rw [h]; simp
    · rw [h]; simp
theorem bitN_congr (f g : Nat → Bool) : ∀ m, (∀ j, j < m → f j = g j) → bitN f m = bitN g m := by
  intro m
  induction m with
  | zero => intro _; rfl
  | succ m ih =>
    intro h
    show bitN f m + _ = bitN g m + _
    rw [ih (fun j hj => h j (by omega)), h m (by omega)]
/-- Bits are told of their bytes as they were. -/
theorem unbits_bits (xs : List Int) (k : Nat) (hk : k < xs.length) : (unbitsL (bitsL xs) xs.length).getD k 0 = if xs.getD k 0 = 0 then 0 else 1 := by
  unfold unbitsL
  have hlen : (bitsL xs).length = (xs.length + 7) / 8 := bitsTo_length _ _
  rw [List.getD_eq_getElem?_getD, List.getElem?_map, List.getElem?_range hk, Option.map_some, Option.getD_some, if_pos (by rw [hlen]; omega)]
  unfold bitsL
  rw [bitsTo_getD _ _ _ (by omega), bitN_bit _ _ _ (by omega)]
  unfold bitAt
  rw [show 8 * (k / 8) + k % 8 = k by omega]
  by_cases h : xs.getD k 0 = 0
  · rw [if_pos h, h]; rfl
  · rw [if_neg h, if_pos (by simpa using h)]
/-- The bytes of a byte's bits are the bytes. -/
theorem bits_unbits (bs : List Int) (hb : ByteL bs) : bitsL (unbitsL bs (8 * bs.length)) = bs := by
  have hl : (unbitsL bs (8 * bs.length)).length = 8 * bs.length := unbitsL_length _ _
  have e8 : (8 * bs.length + 7) / 8 = bs.length := by omega
  unfold bitsL
  rw [hl]
  apply List.ext_getElem?
  intro i
  by_cases hi : i < bs.length
  · have h1 : (bitsTo (unbitsL bs (8 * bs.length)) (8 * bs.length))[i]? = some ((bitsTo (unbitsL bs (8 * bs.length)) (8 * bs.length)).getD i 0) := by
      rw [List.getD_eq_getElem?_getD, List.getElem?_eq_getElem (by rw [bitsTo_length, hl]; omega)]; rfl
    have h2 : bs[i]? = some (bs.getD i 0) := by rw [List.getD_eq_getElem?_getD, List.getElem?_eq_getElem hi]; rfl
    rw [h1, h2, bitsTo_getD _ _ _ (by rw [hl]; omega)]
    have hx := hb i
    rw [← List.getD_eq_getElem?_getD] at hx
    rw [show min 8 (8 * bs.length - 8 * i) = 8 by omega, bitN_congr _ (fun j => bs.getD i 0 / 2 ^ j % 2 != 0) 8 ?_, bitN_val _ hx.1, Int.emod_eq_of_lt hx.1 (by omega)]
    intro j hj
    unfold bitAt unbitsL
    rw [List.getD_eq_getElem?_getD, List.getElem?_map, List.getElem?_range (by omega), Option.map_some, Option.getD_some, show (8 * i + j) / 8 = i by omega, show (8 * i + j) % 8 = j by omega, if_pos hi]
  · rw [List.getElem?_eq_none (by rw [bitsTo_length, hl]; omega), List.getElem?_eq_none (by omega)]
end Go.Proofs.Ytgeahfkhfpdlhaa
