/- Layer 1, a plain law: a sum by halves of bytes is the sum bit by bit. · Layer 1, the walks: table, Sum. -/
import Derived.Test.YtgagpalffdgjnaaWords
import Derived.Test.YtgagpalffdgjnaaG01
import Derived.Laws.BitsAllLaws
namespace Go.Proofs.Ytgagpalffdgjnaa

/-- One bit of a sum falls off. -/
def crcStep (s : Nat) : Nat := s / 2 ^^^ (if s % 2 = 1 then 40961 else 0)
def crcSteps : Nat → Nat → Nat
  | 0, s => s
  | n + 1, s => crcSteps n (crcStep s)
theorem crcSteps_add (m n s : Nat) : crcSteps (m + n) s = crcSteps n (crcSteps m s) := by
  induction m generalizing s with
  | zero => rw [Nat.zero_add]; rfl
  | succ m ih => rw [Nat.succ_add]; exact ih _
def crcTab (i : Nat) : Nat := crcSteps 4 i
theorem xor_mod2 (a b : Nat) : (a ^^^ b) % 2 = (a + b) % 2 := by
  have hx := Nat.testBit_zero (a ^^^ b)
  rw [Nat.testBit_xor, Nat.testBit_zero, Nat.testBit_zero] at hx
  rcases Nat.mod_two_eq_zero_or_one a with ha | ha <;> rcases Nat.mod_two_eq_zero_or_one b with hb | hb <;> rcases Nat.mod_two_eq_zero_or_one (a ^^^ b) with hc | hc
  all_goals
    rw [ha, hb, hc] at hx
    first
      | (exfalso; revert hx; decide)
      | omega
theorem xor_div2 (a b : Nat) : (a ^^^ b) / 2 = a / 2 ^^^ b / 2 := by
  have := Nat.shiftRight_xor_distrib (a := a) (b := b) (i := 1)
  simpa [Nat.shiftRight_eq_div_pow] using this
theorem crcStep_xor (a b : Nat) : crcStep (a ^^^ b) = crcStep a ^^^ crcStep b := by
  unfold crcStep
  rw [xor_div2, xor_mod2]
  rcases Nat.mod_two_eq_zero_or_one a with ha | ha <;> rcases Nat.mod_two_eq_zero_or_one b with hb | hb
  · rw [if_neg (by omega), if_neg (by omega), if_neg (by omega)]; simp
  · rw [if_pos (by omega), if_neg (by omega), if_pos (by omega), Nat.xor_zero, Nat.xor_assoc]
  · rw [if_pos (by omega), if_pos (by omega), if_neg (by omega), Nat.xor_zero, Nat.xor_assoc, Nat.xor_assoc, Nat.xor_comm (b / 2)]
  · rw [if_neg (by omega), if_pos (by omega), if_pos (by omega), Nat.xor_zero]
    rw [Nat.xor_assoc, ← Nat.xor_assoc 40961, Nat.xor_comm 40961, Nat.xor_assoc, Nat.xor_self, Nat.xor_zero]
theorem crcSteps_xor (n a b : Nat) : crcSteps n (a ^^^ b) = crcSteps n a ^^^ crcSteps n b := by
  induction n generalizing a b with
  | zero => rfl
  | succ n ih => show crcSteps n (crcStep _) = crcSteps n (crcStep _) ^^^ crcSteps n (crcStep _); rw [crcStep_xor, ih]
theorem crcStep_even (a : Nat) : crcStep (2 * a) = a := by
  unfold crcStep
  rw [if_neg (by omega), Nat.xor_zero]
  omega
/-- Four bits at once, by the table. -/
theorem crc_four (s : Nat) : crcSteps 4 s = s / 16 ^^^ crcTab (s % 16) := by
  have hs : s = (16 * (s / 16)) ^^^ (s % 16) := by
    have h := Nat.two_pow_add_eq_or_of_lt (i := 4) (b := s % 16) (show s % 16 < 2 ^ 4 by omega) (s / 16)
    have hx : 16 * (s / 16) ^^^ s % 16 = 16 * (s / 16) ||| s % 16 := by
      apply Nat.eq_of_testBit_eq
      intro i
      rw [Nat.testBit_xor, Nat.testBit_or]
      by_cases hi : i < 4
      · have : (16 * (s / 16)).testBit i = false := by
          have := Nat.testBit_two_pow_mul (a := s / 16) (i := 4) (j := i)
          rw [show (2 : Nat) ^ 4 = 16 by rfl] at this
          rw [this, decide_eq_false (by omega)]
          rfl
        rw [this]; simp
      · have : (s % 16).testBit i = false := Nat.testBit_lt_two_pow (Nat.lt_of_lt_of_le (show s % 16 < 2 ^ 4 by omega) (Nat.pow_le_pow_right (by omega) (by omega)))
        rw [this]; simp
    rw [hx]
    rw [show (2 : Nat) ^ 4 = 16 by rfl] at h
    rw [← h]
    omega
  have h1 : crcSteps 4 (16 * (s / 16)) = s / 16 := by
    show crcStep (crcStep (crcStep (crcStep _))) = _
    rw [show 16 * (s / 16) = 2 * (2 * (2 * (2 * (s / 16)))) by omega, crcStep_even, crcStep_even, crcStep_even, crcStep_even]
  conv => lhs; rw [hs]
  rw [crcSteps_xor, h1]
  rfl
theorem crcStep_lt {s : Nat} (h : s < 65536) : crcStep s < 65536 := by
  unfold crcStep
  have h1 : s / 2 < 2 ^ 16 := by omega
  have h2 : (if s % 2 = 1 then 40961 else 0) < 2 ^ 16 := by split <;> omega
  exact Nat.xor_lt_two_pow h1 h2
theorem crcSteps_lt {n s : Nat} (h : s < 65536) : crcSteps n s < 65536 := by
  induction n generalizing s with
  | zero => exact h
  | succ n ih => exact ih (crcStep_lt h)
/-- What one byte makes of a sum; the sum of bytes. -/
def crcByte (s c : Nat) : Nat := crcSteps 8 (s ^^^ c)
def crcFold (s : Nat) (l : List Int) : Nat := l.foldl (fun s c => crcByte s c.toNat) s
def crcOf (l : List Int) : Nat := crcFold 65535 l
theorem crcByte_halves (s c : Nat) : crcByte s c = (let x := (s ^^^ c) / 16 ^^^ crcTab ((s ^^^ c) % 16); x / 16 ^^^ crcTab (x % 16)) := by
  unfold crcByte
  rw [show (8 : Nat) = 4 + 4 by rfl, crcSteps_add, crc_four (s ^^^ c), crc_four]
theorem crcByte_lt {s c : Nat} (hs : s < 65536) (hc : c < 256) : crcByte s c < 65536 := crcSteps_lt (Nat.xor_lt_two_pow (n := 16) (by omega) (by omega))
theorem crcFold_lt {s : Nat} {l : List Int} (hs : s < 65536) (hl : ∀ y ∈ l, y ≤ 255) : crcFold s l < 65536 := by
  induction l generalizing s with
  | nil => exact hs
  | cons c l ih =>
    refine ih (crcByte_lt hs ?_) (fun y hy => hl y (List.mem_cons_of_mem _ hy))
    have := hl c (List.mem_cons_self ..)
    omega
theorem crcFold_snoc (s : Nat) (l : List Int) (c : Int) : crcFold s (l ++ [c]) = crcByte (crcFold s l) c.toNat := by
  unfold crcFold
  rw [List.foldl_append]
  rfl
end Go.Proofs.Ytgagpalffdgjnaa
namespace Go.Proofs.Ytgagpalffdgjnaa
open Go.RowKit

def crcTabTo (k : Nat) : List Int := (List.range 16).map fun j => if j < k then (crcTab j : Int) else 0
def crcTabL : List Int := [0, 52225, 55297, 5120, 61441, 15360, 10240, 58369, 40961, 27648, 30720, 46081, 20480, 39937, 34817, 17408]
theorem crcTabTo_all : crcTabTo 16 = crcTabL := by kernel_rfl
theorem crcTabL_get (i : Nat) (h : i < 16) : crcTabL.getD i 0 = (crcTab i : Int) := by
  rw [← crcTabTo_all]
  unfold crcTabTo
  rw [List.getD_eq_getElem?_getD, List.getElem?_map, List.getElem?_range h]
  simp [h]
theorem crcTabTo_length (k : Nat) : (crcTabTo k).length = 16 := by simp [crcTabTo]
theorem crcTabTo_set (k : Nat) : (crcTabTo k).set k (crcTab k : Int) = crcTabTo (k + 1) := by
  unfold crcTabTo
  apply List.ext_getElem?
  intro j
  by_cases h : j < 16
  · by_cases e : k = j
    · subst e
      rw [List.getElem?_set_self (by simpa using h)]
      simp [h]
    · rw [List.getElem?_set_ne e]
      simp only [List.getElem?_map, List.getElem?_range h, Option.map_some]
      congr 1
      by_cases h2 : j < k
      · rw [if_pos h2, if_pos (by omega)]
      · rw [if_neg h2, if_neg (by omega)]
  · rw [List.getElem?_eq_none (by simp; omega), List.getElem?_eq_none (by simp; omega)]
theorem crcSteps_snoc (j k : Nat) : crcSteps (j + 1) k = crcStep (crcSteps j k) := by rw [crcSteps_add]; rfl
theorem crcAnd1 {x : Nat} (h : x < 65536) : bits .and .u16 (x : Int) 1 = ((x % 2 : Nat) : Int) := by
  have := u16_and_nat x 1 h (by omega)
  rw [Nat.and_one_is_mod] at this
  exact this
theorem crc_block {w : World} {i : Nat} {t : TypeId} {Q : Array Value} (h : w.heap[i]? = some (.cells Q t (0, 0))) (j : Nat) (v : Value) : (w.setCell ⟨i, j, none⟩ v).heap[i]? = some (.cells (Q.setIfInBounds j v) t (0, 0)) := by
  simp only [World.setCell, Array.getElem?_modify, h, if_true, Option.map_some]
  rfl
/-- The table, stored whole. -/
theorem crc_stored {w : World} {b : Nat} {t : TypeId} (h : w.heap[b]? = some (.cells #[.int .u16 0, .int .u16 0, .int .u16 0, .int .u16 0, .int .u16 0, .int .u16 0, .int .u16 0, .int .u16 0, .int .u16 0, .int .u16 0, .int .u16 0, .int .u16 0, .int .u16 0, .int .u16 0, .int .u16 0, .int .u16 0] t (0, 0))) :
    (((((((((((((((((w).setCell ⟨b, 0, none⟩ (.int .u16 0)).setCell ⟨b, 1, none⟩ (.int .u16 52225)).setCell ⟨b, 2, none⟩ (.int .u16 55297)).setCell ⟨b, 3, none⟩ (.int .u16 5120)).setCell ⟨b, 4, none⟩ (.int .u16 61441)).setCell ⟨b, 5, none⟩ (.int .u16 15360)).setCell ⟨b, 6, none⟩ (.int .u16 10240)).setCell ⟨b, 7, none⟩ (.int .u16 58369)).setCell ⟨b, 8, none⟩ (.int .u16 40961)).setCell ⟨b, 9, none⟩ (.int .u16 27648)).setCell ⟨b, 10, none⟩ (.int .u16 30720)).setCell ⟨b, 11, none⟩ (.int .u16 46081)).setCell ⟨b, 12, none⟩ (.int .u16 20480)).setCell ⟨b, 13, none⟩ (.int .u16 39937)).setCell ⟨b, 14, none⟩ (.int .u16 34817)).setCell ⟨b, 15, none⟩ (.int .u16 17408)).heap[b]? = some (.cells #[.int .u16 0, .int .u16 52225, .int .u16 55297, .int .u16 5120, .int .u16 61441, .int .u16 15360, .int .u16 10240, .int .u16 58369, .int .u16 40961, .int .u16 27648, .int .u16 30720, .int .u16 46081, .int .u16 20480, .int .u16 39937, .int .u16 34817, .int .u16 17408] t (0, 0)) := by
  have h0 := crc_block h 0 (.int .u16 0)
  have h1 := crc_block h0 1 (.int .u16 52225)
  have h2 := crc_block h1 2 (.int .u16 55297)
  have h3 := crc_block h2 3 (.int .u16 5120)
  have h4 := crc_block h3 4 (.int .u16 61441)
  have h5 := crc_block h4 5 (.int .u16 15360)
  have h6 := crc_block h5 6 (.int .u16 10240)
  have h7 := crc_block h6 7 (.int .u16 58369)
  have h8 := crc_block h7 8 (.int .u16 40961)
  have h9 := crc_block h8 9 (.int .u16 27648)
  have h10 := crc_block h9 10 (.int .u16 30720)
  have h11 := crc_block h10 11 (.int .u16 46081)
  have h12 := crc_block h11 12 (.int .u16 20480)
  have h13 := crc_block h12 13 (.int .u16 39937)
  have h14 := crc_block h13 14 (.int .u16 34817)
  have h15 := crc_block h14 15 (.int .u16 17408)
  exact h15
theorem crc_ext {v w : World} {b : Nat} (h0 : Ext v w) (hb : v.heap.size ≤ b) : Ext v (((((((((((((((((w).setCell ⟨b, 0, none⟩ (.int .u16 0)).setCell ⟨b, 1, none⟩ (.int .u16 52225)).setCell ⟨b, 2, none⟩ (.int .u16 55297)).setCell ⟨b, 3, none⟩ (.int .u16 5120)).setCell ⟨b, 4, none⟩ (.int .u16 61441)).setCell ⟨b, 5, none⟩ (.int .u16 15360)).setCell ⟨b, 6, none⟩ (.int .u16 10240)).setCell ⟨b, 7, none⟩ (.int .u16 58369)).setCell ⟨b, 8, none⟩ (.int .u16 40961)).setCell ⟨b, 9, none⟩ (.int .u16 27648)).setCell ⟨b, 10, none⟩ (.int .u16 30720)).setCell ⟨b, 11, none⟩ (.int .u16 46081)).setCell ⟨b, 12, none⟩ (.int .u16 20480)).setCell ⟨b, 13, none⟩ (.int .u16 39937)).setCell ⟨b, 14, none⟩ (.int .u16 34817)).setCell ⟨b, 15, none⟩ (.int .u16 17408)) := by
  have h1 := h0.goS (p := ⟨b, 0, none⟩) hb (.int .u16 0)
  have h2 := h1.goS (p := ⟨b, 1, none⟩) hb (.int .u16 52225)
  have h3 := h2.goS (p := ⟨b, 2, none⟩) hb (.int .u16 55297)
  have h4 := h3.goS (p := ⟨b, 3, none⟩) hb (.int .u16 5120)
  have h5 := h4.goS (p := ⟨b, 4, none⟩) hb (.int .u16 61441)
  have h6 := h5.goS (p := ⟨b, 5, none⟩) hb (.int .u16 15360)
  have h7 := h6.goS (p := ⟨b, 6, none⟩) hb (.int .u16 10240)
  have h8 := h7.goS (p := ⟨b, 7, none⟩) hb (.int .u16 58369)
  have h9 := h8.goS (p := ⟨b, 8, none⟩) hb (.int .u16 40961)
  have h10 := h9.goS (p := ⟨b, 9, none⟩) hb (.int .u16 27648)
  have h11 := h10.goS (p := ⟨b, 10, none⟩) hb (.int .u16 30720)
  have h12 := h11.goS (p := ⟨b, 11, none⟩) hb (.int .u16 46081)
  have h13 := h12.goS (p := ⟨b, 12, none⟩) hb (.int .u16 20480)
  have h14 := h13.goS (p := ⟨b, 13, none⟩) hb (.int .u16 39937)
  have h15 := h14.goS (p := ⟨b, 14, none⟩) hb (.int .u16 34817)
  have h16 := h15.goS (p := ⟨b, 15, none⟩) hb (.int .u16 17408)
  exact h16
set_option maxRecDepth 100000 in
set_option maxHeartbeats 3200000 in
theorem crcTable_any (w : World) :
    Calls Try.prog 129 #[] w fun e w' => e = .returned (.agg #[.int .u16 0, .int .u16 52225, .int .u16 55297, .int .u16 5120, .int .u16 61441, .int .u16 15360, .int .u16 10240, .int .u16 58369, .int .u16 40961, .int .u16 27648, .int .u16 30720, .int .u16 46081, .int .u16 20480, .int .u16 39937, .int .u16 34817, .int .u16 17408]) ∧ Ext w w' := by
  have R0 : ((w.alloc (.cells #[.int .u16 0, .int .u16 0, .int .u16 0, .int .u16 0, .int .u16 0, .int .u16 0, .int .u16 0, .int .u16 0, .int .u16 0, .int .u16 0, .int .u16 0, .int .u16 0, .int .u16 0, .int .u16 0, .int .u16 0, .int .u16 0] 199)).alloc (.cells #[.int .u16 0, .int .u16 0, .int .u16 0, .int .u16 0, .int .u16 0, .int .u16 0, .int .u16 0, .int .u16 0, .int .u16 0, .int .u16 0, .int .u16 0, .int .u16 0, .int .u16 0, .int .u16 0, .int .u16 0, .int .u16 0] 199)).heap[w.heap.size]? = some (.cells #[.int .u16 0, .int .u16 0, .int .u16 0, .int .u16 0, .int .u16 0, .int .u16 0, .int .u16 0, .int .u16 0, .int .u16 0, .int .u16 0, .int .u16 0, .int .u16 0, .int .u16 0, .int .u16 0, .int .u16 0, .int .u16 0] 199 (0, 0)) := by rw [alloc_get, if_neg (by simp), alloc_get, if_pos rfl]
  have T0 : Blk ((w.alloc (.cells #[.int .u16 0, .int .u16 0, .int .u16 0, .int .u16 0, .int .u16 0, .int .u16 0, .int .u16 0, .int .u16 0, .int .u16 0, .int .u16 0, .int .u16 0, .int .u16 0, .int .u16 0, .int .u16 0, .int .u16 0, .int .u16 0] 199)).alloc (.cells #[.int .u16 0, .int .u16 0, .int .u16 0, .int .u16 0, .int .u16 0, .int .u16 0, .int .u16 0, .int .u16 0, .int .u16 0, .int .u16 0, .int .u16 0, .int .u16 0, .int .u16 0, .int .u16 0, .int .u16 0, .int .u16 0] 199)) (w.heap.size + 1) 199 .u16 (crcTabTo 0) := by
    unfold Blk
    rw [alloc_get, if_pos (by simp)]
    kernel_rfl
  have E0 := ((Ext.refl w).goA (.cells #[.int .u16 0, .int .u16 0, .int .u16 0, .int .u16 0, .int .u16 0, .int .u16 0, .int .u16 0, .int .u16 0, .int .u16 0, .int .u16 0, .int .u16 0, .int .u16 0, .int .u16 0, .int .u16 0, .int .u16 0, .int .u16 0] 199)).goA (.cells #[.int .u16 0, .int .u16 0, .int .u16 0, .int .u16 0, .int .u16 0, .int .u16 0, .int .u16 0, .int .u16 0, .int .u16 0, .int .u16 0, .int .u16 0, .int .u16 0, .int .u16 0, .int .u16 0, .int .u16 0, .int .u16 0] 199)
  have R0' := Lib.hid R0
  have T0' := Lib.hid T0
  clear R0 T0
  go_enter Try.func129, Try.ntmps129
  go_wp2_with fail
  generalize (w.alloc (.cells #[.int .u16 0, .int .u16 0, .int .u16 0, .int .u16 0, .int .u16 0, .int .u16 0, .int .u16 0, .int .u16 0, .int .u16 0, .int .u16 0, .int .u16 0, .int .u16 0, .int .u16 0, .int .u16 0, .int .u16 0, .int .u16 0] 199)).alloc (.cells #[.int .u16 0, .int .u16 0, .int .u16 0, .int .u16 0, .int .u16 0, .int .u16 0, .int .u16 0, .int .u16 0, .int .u16 0, .int .u16 0, .int .u16 0, .int .u16 0, .int .u16 0, .int .u16 0, .int .u16 0, .int .u16 0] 199) = U at *
  go_loopw [5] (fun i wr => ∃ k : Nat, k ≤ 16 ∧ i = .int .i64 k ∧ Blk wr (w.heap.size + 1) 199 .u16 (crcTabTo k) ∧ Mod (fun b => b = w.heap.size + 1) U wr) (fun i _ => 16 - (intOf i).toNat)
  case atStart => exact ⟨0, by omega, rfl, T0'.out, Mod.refl _ _⟩
  case round =>
    obtain ⟨k, hk, rfl, hB, hM⟩ := hrel
    have hB' := Lib.hid hB
    have hM' := Lib.hid hM
    clear hB hM
    by_cases hlt : k < 16
    · go_wp2_with fail
      go_loopw [10, 3, 4] (fun i v o w' => ∃ j : Nat, j ≤ 4 ∧ i = .int .i64 j ∧ v = .int .u16 (crcSteps j k : Nat) ∧ wr = w') (fun i _ _ _ => 4 - (intOf i).toNat)
      case atStart => exact ⟨0, by omega, rfl, rfl, rfl⟩
      case round =>
        obtain ⟨j, hj, rfl, rfl, rfl⟩ := hrel
        by_cases hjl : j < 4
        · have hx : crcSteps j k < 65536 := crcSteps_lt (by omega)
          have ha := crcAnd1 hx
          have hs : crcSteps (j + 1) k = crcSteps j k / 2 ^^^ (if crcSteps j k % 2 = 1 then 40961 else 0) := crcSteps_snoc j k
          have hxo := u16_xor_nat (crcSteps j k / 2) 40961 (by omega) (by omega)
          generalize crcSteps j k = x at *
          have hs' := Lib.hid hs
          clear hs
          have hxo' : bits .xor .u16 ((x : Int) / 2) 40961 = ((x / 2 ^^^ 40961 : Nat) : Int) := by
            rw [← hxo]; rfl
          clear hxo
          rcases Nat.mod_two_eq_zero_or_one x with hm | hm
          · have hf : (bits .and .u16 (x : Int) 1 == 1) = false := by rw [ha, hm]; rfl
            clear ha
            go_wp2_with fail
            go_roundw
            case rel => exact ⟨j + 1, by omega, by go_num, by rw [hs'.out, if_neg (by omega), Nat.xor_zero]; rfl, by trivial⟩
            case measure => simp [intOf]; omega
          · have hf : (bits .and .u16 (x : Int) 1 == 1) = true := by rw [ha, hm]; rfl
            clear ha
            go_wp2_with fail
            go_roundw
            case rel => exact ⟨j + 1, by omega, by go_num, by rw [hs'.out, if_pos hm], by trivial⟩
            case measure => simp [intOf]; omega
        · obtain rfl : j = 4 := by omega
          have hc := hB'.out.cell k (by rw [crcTabTo_length]; exact hlt)
          have hz := hB'.out.frozen k
          go_wp2_with fail
          go_roundw
          case rel => exact ⟨k + 1, by omega, by go_num, by have := hB'.out.set_ k (crcTab k : Int); rw [crcTabTo_set] at this; exact this, hM'.out.setCell (p := ⟨w.heap.size + 1, k, none⟩) (.inl rfl) _⟩
          case measure => simp [intOf]; omega
    · obtain rfl : k = 16 := by omega
      have hT := hB'.out
      rw [crcTabTo_all] at hT
      have hT2 : wr.heap[w.heap.size + 1]? = some (.cells #[.int .u16 0, .int .u16 52225, .int .u16 55297, .int .u16 5120, .int .u16 61441, .int .u16 15360, .int .u16 10240, .int .u16 58369, .int .u16 40961, .int .u16 27648, .int .u16 30720, .int .u16 46081, .int .u16 20480, .int .u16 39937, .int .u16 34817, .int .u16 17408] 199 (0, 0)) := hT
      have hR2 := (hM'.out.block _ (lt_of_block R0'.out) (by omega)).trans R0'.out
      have hR2' := Lib.hid hR2
      have c1 := cellsAt hT2
      have c0 := cellsAt hR2
      have f0 : ∀ o, wr.frozen? ⟨w.heap.size, o, none⟩ = false := fun o => by simp [World.frozen?, hR2]
      clear hT hT2 hR2
      go_wp2_with fail
      have hS := crc_stored hR2'.out
      have hE := crc_ext (v := w) (b := w.heap.size) (E0.goM hM'.out (fun i hi => by have hi : i = w.heap.size + 1 := hi; omega)) (Nat.le_refl _)
      generalize ((((((((((((((((wr).setCell ⟨w.heap.size, 0, none⟩ (.int .u16 0)).setCell ⟨w.heap.size, 1, none⟩ (.int .u16 52225)).setCell ⟨w.heap.size, 2, none⟩ (.int .u16 55297)).setCell ⟨w.heap.size, 3, none⟩ (.int .u16 5120)).setCell ⟨w.heap.size, 4, none⟩ (.int .u16 61441)).setCell ⟨w.heap.size, 5, none⟩ (.int .u16 15360)).setCell ⟨w.heap.size, 6, none⟩ (.int .u16 10240)).setCell ⟨w.heap.size, 7, none⟩ (.int .u16 58369)).setCell ⟨w.heap.size, 8, none⟩ (.int .u16 40961)).setCell ⟨w.heap.size, 9, none⟩ (.int .u16 27648)).setCell ⟨w.heap.size, 10, none⟩ (.int .u16 30720)).setCell ⟨w.heap.size, 11, none⟩ (.int .u16 46081)).setCell ⟨w.heap.size, 12, none⟩ (.int .u16 20480)).setCell ⟨w.heap.size, 13, none⟩ (.int .u16 39937)).setCell ⟨w.heap.size, 14, none⟩ (.int .u16 34817)).setCell ⟨w.heap.size, 15, none⟩ (.int .u16 17408) = W16 at *
      have z := cellsAt hS
      refine bodyPost_ret (v := .agg #[.int .u16 0, .int .u16 52225, .int .u16 55297, .int .u16 5120, .int .u16 61441, .int .u16 15360, .int .u16 10240, .int .u16 58369, .int .u16 40961, .int .u16 27648, .int .u16 30720, .int .u16 46081, .int .u16 20480, .int .u16 39937, .int .u16 34817, .int .u16 17408]) (by simp [results, Try.results129, go_sem, z]) rfl ?_
      exact ⟨rfl, hE⟩
end Go.Proofs.Ytgagpalffdgjnaa
