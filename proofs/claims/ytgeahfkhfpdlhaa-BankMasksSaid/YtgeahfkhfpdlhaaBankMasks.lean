
/- Layer 6: the law BankMasks, walked. -/
import Derived.Test.YtgeahfkhfpdlhaaBankHead
namespace Go.Proofs.Ytgeahfkhfpdlhaa
open Go.RowKit

/-- The bit of a mask's word. -/
theorem mask_nat (a x y k : Nat) (ha : a < 65536) (hx : x < 65536) (hy : y < 65536) (hk : k < 16) :
    ((a &&& x) ||| (y &&& (65535 - x))) &&& 2 ^ k = if x &&& 2 ^ k ≠ 0 then a &&& 2 ^ k else y &&& 2 ^ k := by
  have _ := ha
  have _ := hy
  have hs : ∀ j, (65535 - x).testBit j = (decide (j < 16) && !x.testBit j) := fun j => by
    have := Nat.testBit_two_pow_sub_succ (x := x) (n := 16) (by omega) j
    rw [show 2 ^ 16 - (x + 1) = 65535 - x by omega] at this
    exact this
  have h0 : (x &&& 2 ^ k = 0) ↔ x.testBit k = false := by
    constructor
    · intro h
      have := congrArg (fun z => Nat.testBit z k) h
      simpa [Nat.testBit_and, Nat.testBit_two_pow_self] using this
    · intro h
      apply Nat.eq_of_testBit_eq
      intro j
      rw [Nat.testBit_and, Nat.testBit_two_pow]
      by_cases e : k = j
      · subst e; simp [h]
      · simp [e]
  apply Nat.eq_of_testBit_eq
  intro j
  by_cases e : k = j
  · subst e
    cases hb : x.testBit k
    · rw [if_neg (by rw [h0.2 hb]; simp)]
      simp [Nat.testBit_and, Nat.testBit_or, hs, hb, hk]
    · have hne : x &&& 2 ^ k ≠ 0 := fun h => by rw [h0.1 h] at hb; cases hb
      rw [if_pos hne]
      simp [Nat.testBit_and, Nat.testBit_or, hs, hb]
  · split <;> simp [Nat.testBit_and, e]
theorem pow_u16 (k : Nat) (hk : k < 16) : (2 : Int) ^ k % 65536 = ((2 ^ k : Nat) : Int) ∧ (2 ^ k : Nat) < 65536 := by
  have h : (2 : Nat) ^ k ≤ 2 ^ 15 := Nat.pow_le_pow_right (by omega) (by omega)
  have e : (2 : Int) ^ k = ((2 ^ k : Nat) : Int) := by simp
  have h' : (2 : Nat) ^ k ≤ 32768 := h
  rw [e]
  clear e h
  generalize (2 : Nat) ^ k = p at *
  omega
theorem mask_bit (a x y : Int) (k : Nat) (hk : k < 16) (a0 : 0 ≤ a) (a1 : a ≤ 65535) (x0 : 0 ≤ x) (x1 : x ≤ 65535) (y0 : 0 ≤ y) (y1 : y ≤ 65535) :
    bits .and .u16 (maskV a x y) (IntKind.u16.wrap (2 ^ k)) = if (bits .and .u16 x (IntKind.u16.wrap (2 ^ k)) != 0) = true then bits .and .u16 a (IntKind.u16.wrap (2 ^ k)) else bits .and .u16 y (IntKind.u16.wrap (2 ^ k)) := by
  rw [IntKind.wrap_u16]
  obtain ⟨hp, hl⟩ := pow_u16 k hk
  obtain ⟨v0, v1⟩ := maskV_range a x y a0 a1 x0 x1 y0 y1
  have hv : (maskV a x y).toNat = (a.toNat &&& x.toNat) ||| (y.toNat &&& (65535 - x.toNat)) := by
    unfold maskV
    have h1 : a.toNat &&& x.toNat < 2 ^ 16 := Nat.and_lt_two_pow _ (by omega)
    have h2 : y.toNat &&& (65535 - x.toNat) < 2 ^ 16 := Nat.and_lt_two_pow _ (by omega)
    rw [Go.u16_and a x a0 (by omega) x0 (by omega), Go.u16_andNot y x y0 (by omega) x0 (by omega), Go.u16_or _ _ (by omega) (by omega) (by omega) (by omega), Int.toNat_natCast, Int.toNat_natCast, Int.toNat_natCast]
  have hm := mask_nat a.toNat x.toNat y.toNat k (by omega) (by omega) (by omega) hk
  rw [hp, Go.u16_and _ _ v0 (by omega) (by omega) (by omega), Go.u16_and x _ x0 (by omega) (by omega) (by omega), Go.u16_and a _ a0 (by omega) (by omega) (by omega), Go.u16_and y _ y0 (by omega) (by omega) (by omega), Int.toNat_natCast, hv, hm]
  by_cases h : x.toNat &&& 2 ^ k = 0
  · rw [if_neg (by simpa using h), if_neg (by simp [h])]
  · rw [if_pos h, if_pos (by simp; omega)]

def mL0 : Nat → List Int := newL 1 1 1 1
theorem mask_facts (a x y : Int) : spanB mL0 2 0 1 = true ∧ doC (putB mL0 2 0 a) 22 0 0 0 [x, y] = 0 ∧ doY (putB mL0 2 0 a) 22 0 0 0 [x, y] = [] ∧ spanB (doL (putB mL0 2 0 a) 22 0 0 0 [x, y]) 2 0 1 = true ∧ atB (doL (putB mL0 2 0 a) 22 0 0 0 [x, y]) 2 0 = maskV a x y := by
  have h0 : putB mL0 2 0 a = upd mL0 2 [a] := by
    unfold putB
    rw [show spanB mL0 2 0 1 = true by kernel_rfl, if_pos rfl]
    rfl
  have hr : rightB' 22 0 0 0 [x, y] = true := by kernel_rfl
  have hf : doFits (upd mL0 2 [a]) 22 0 0 0 2 = true := by kernel_rfl
  have hg : doGoes (upd mL0 2 [a]) 22 0 0 0 [x, y] = true := by unfold doGoes; rw [hr, Bool.true_and]; exact hf
  have hL : doL (upd mL0 2 [a]) 22 0 0 0 [x, y] = upd (upd mL0 2 [a]) 2 [maskV a x y] := by
    unfold doL
    rw [if_pos hg]
    rfl
  rw [h0]
  refine ⟨by kernel_rfl, ?_, ?_, ?_, ?_⟩
  · unfold doC; rw [if_pos hr]; exact if_pos hf
  · unfold doY; rw [if_pos hg, if_neg (by decide)]
  · rw [hL]; kernel_rfl
  · rw [hL]; unfold atB; rw [if_pos (by kernel_rfl)]; rfl
set_option maxRecDepth 100000 in
set_option maxHeartbeats 6400000 in
theorem bankMasks_any (a x y : Int) (w : World) (a0 : 0 ≤ a) (a1 : a ≤ 65535) (x0 : 0 ≤ x) (x1 : x ≤ 65535) (y0 : 0 ≤ y) (y1 : y ≤ 65535) :
    Calls Try.prog 6 #[.int .u16 a, .int .u16 x, .int .u16 y] w fun e w' => e = .returned (.bool true) ∧ Ext w w' := by
  obtain ⟨m1, m2, m3, m4, m5⟩ := mask_facts a x y
  have hbit := fun k hk => mask_bit a x y k hk a0 a1 x0 x1 y0 y1
  have hv := maskV_range a x y a0 a1 x0 x1 y0 y1
  have m1' := Lib.hid m1
  have m2' := Lib.hid m2
  have m3' := Lib.hid m3
  have m4' := Lib.hid m4
  have m5' := Lib.hid m5
  have hbit' := Lib.hid hbit
  clear m1 m2 m3 m4 m5 hbit
  go_enter Try.func6, Try.ntmps6
  go_wp2_with fail
  refine (bankHead_any w).mono ?_
  rintro e w0 ⟨rfl, E0⟩
  go_wp2_with fail
  refine (bankNew_any 1 1 1 1 w0).mono ?_
  rintro e w1 ⟨g, G, rfl, B1, E1, hg⟩
  have hrow : ∀ i, RowsOf G i → w0.heap.size ≤ i ∧ i < w1.heap.size := fun i h => ⟨by obtain ⟨k, hk, rfl⟩ := h; have := B1.gt hk; omega, B1.old (.inr h)⟩
  have hrow' := Lib.hid hrow
  have B1' : Hid (Bk w1 g mL0 G) := Lib.hid B1
  clear hrow B1
  go_wp2_with fail
  refine (bankPut_any g 2 0 a mL0 G _ B1'.out a0 a1).mono ?_
  rintro e w2 ⟨rfl, B2, M2⟩
  rw [m1'.out]
  have B2' := Lib.hid B2
  have s2 := M2.size
  clear B2
  go_wp2_with fail
  have D2 := (Ext.refl w2).goA (.cells #[.int .u16 x, .int .u16 y] 34)
  refine (bankDo_any g 22 0 0 0 _ 2 2 [x, y] _ G _ (B2'.out.ext D2) (by rw [alloc_size]; exact RdI.new [x, y] rfl rfl rfl) (rng_of (by omega) (by omega) (by simp; omega)) (by decide)).mono ?_
  rw [m2'.out, m3'.out]
  rintro e w3 ⟨A3, n3, c3, rfl, g3, g3', r3, -, B3, M3⟩
  have M13 := (M2.trans (Mod.ofBelow D2)).trans M3
  have s3 := M13.size
  obtain rfl : n3 = 0 := r3.len.symm
  have Q3 := heap_alloc_new w3 (.cells #[.int .i64 0, .slice A3 0 c3] 40)
  have q3 := cellsAt Q3
  have B3' := Lib.hid (B3.ext ((Ext.refl w3).goA (.cells #[.int .i64 0, .slice A3 0 c3] 40)))
  clear B3 r3 Q3
  go_wp2_with fail
  refine (bankAt_any g 2 0 _ G _ B3'.out).mono ?_
  rw [m4'.out, m5'.out]
  rintro e w4 ⟨rfl, rfl⟩
  have EE : Ext w (w3.alloc (.cells #[.int .i64 0, .slice A3 0 c3] 40)) := ((E0.go E1).goM M13 (fun i hi => by have := hrow'.out i hi; have := E0.size; omega)).goA _
  generalize maskV a x y = v at *
  have q3' := Lib.hid q3
  have EE' := Lib.hid EE
  clear EE q3 M13 E0 E1 M2 M3 D2 s2 s3 g3 g3' hg hv B3' B2' m1' m2' m3' m4' m5' hrow'
  go_wp2_with fail
  go_loop [12] (fun i => ∃ k : Nat, k ≤ 16 ∧ i = .int .i64 k) (fun i => 16 - (intOf i).toNat)
  case atStart => exact ⟨0, by omega, rfl⟩
  case round =>
    obtain ⟨k, hk, rfl⟩ := hrel
    by_cases hlt : k < 16
    · have hb := hbit'.out k hlt
      generalize hT : IntKind.u16.wrap (2 ^ k) = T at hb
      cases hx : (bits .and .u16 x T != 0)
      · rw [hx, if_neg (by decide)] at hb
        have hn : (bits .and .u16 v T != bits .and .u16 y T) = false := by rw [hb]; simp
        clear hb
        go_wp2
        go_round
        case rel => exact ⟨k + 1, by omega, by go_num⟩
        case measure => simp [intOf]; omega
      · rw [hx, if_pos rfl] at hb
        have hn : (bits .and .u16 v T != bits .and .u16 a T) = false := by rw [hb]; simp
        clear hb
        go_wp2
        go_round
        case rel => exact ⟨k + 1, by omega, by go_num⟩
        case measure => simp [intOf]; omega
    · obtain rfl : k = 16 := by omega
      have q3 := q3'.out
      go_wp2
      go_ret
      exact ⟨rfl, EE'.out⟩
end Go.Proofs.Ytgeahfkhfpdlhaa
