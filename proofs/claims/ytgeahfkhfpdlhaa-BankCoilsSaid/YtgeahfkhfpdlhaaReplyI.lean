
/- Layer 5, the walks: the answer of any bytes, an exception's bytes, are answers alike, are they too much? -/
import Derived.Test.YtgeahfkhfpdlhaaReplyG
import Derived.Test.YtgeahfkhfpdlhaaReplyH
import Derived.Test.YtgeahfkhfpdlhaaRef04
namespace Go.Proofs.Ytgeahfkhfpdlhaa
open Go.RowKit

/-- The answer of bytes to a request, and its error. -/
def rgetR (fc ad qt to : Int) (xs bs : List Int) : Int × List Int × Int :=
  if rightB' fc ad qt to xs = true then
    (if bs.length = 2 ∧ hiB (bs.getD 0 0) = true then (if tellsB fc ad qt to xs bs (bs.getD 1 0) [] = true then (bs.getD 1 0, [], 52) else (0, [], 51))
     else (if tellsB fc ad qt to xs bs 0 (takenV (readsB fc) (readsBits fc) qt bs) = true then (0, takenV (readsB fc) (readsBits fc) qt bs, 0) else (0, [], 51)))
  else (0, [], 51)
/-- The bytes of an exception to bytes. -/
def alarmL (bs : List Int) (code : Int) : List Int := if excB code = true then [orHi (bs.getD 0 0), code % 256] else []
set_option maxRecDepth 100000 in
set_option maxHeartbeats 1600000 in
theorem alarm_any (A : Option Addr) (m c : Nat) (bs : List Int) (code : Int) (w : World) (hz : RdI w w.heap.size .u8 A m bs) :
    Calls Try.prog 67 #[.slice A m c, .int .i64 code] w (RetI .u8 (alarmL bs code) w) := by
  have e1 : ∀ x, bits .or .u8 x 128 = orHi x := fun _ => rfl
  have hL : (excB code = true → alarmL bs code = [orHi (bs.getD 0 0), code % 256]) ∧ (excB code = false → alarmL bs code = []) := ⟨fun h => if_pos h, fun h => if_neg (by rw [h]; decide)⟩
  have hL' := Lib.hid hL
  have hl := hz.len
  clear hL
  cases h : excB code
  · rw [hL'.out.2 h]
    go_enter Try.func67, Try.ntmps67
    go_wp2_with fail
    refine (exception_any code w).mono ?_
    rw [h]
    rintro e w1 ⟨rfl, rfl⟩
    go_wp2_with fail
    go_ret
    exact ⟨_, _, _, rfl, Nat.le_refl _, by decide, RdI.nil _, Ext.refl _⟩
  · rw [hL'.out.1 h]
    rcases Nat.eq_zero_or_pos m with hm | hm
    · subst hm
      obtain rfl : bs = [] := List.length_eq_zero_iff.1 hl
      clear hL' hz hl
      have e2 : bits .or .u8 0 128 = orHi 0 := rfl
      go_enter Try.func67, Try.ntmps67
      go_wp2_with fail
      refine (exception_any code w).mono ?_
      rw [h]
      rintro e w1 ⟨rfl, rfl⟩
      go_wp2_with fail
      go_ret
      refine ⟨_, _, _, rfl, Nat.le_refl _, by decide, ?_, (Ext.refl w).goA _⟩
      have := RdI.new (w := w) (e := 5) (k := .u8) [orHi 0, code % 256] rfl rfl rfl
      rw [alloc_size]
      exact this
    · obtain ⟨bb, o, rfl, hbb, hc0⟩ := hz.at_ hm
      rw [Nat.add_zero] at hc0
      generalize bs.getD 0 0 = x at hc0 ⊢
      have t1 : decide (0 < m) = true := by simp; exact hm
      have t2 : (0 : Int) < m := by omega
      clear hL' hz hl hm
      go_enter Try.func67, Try.ntmps67
      go_wp2_with fail
      refine (exception_any code w).mono ?_
      rw [h]
      rintro e w1 ⟨rfl, rfl⟩
      go_wp2_with fail
      go_ret
      refine ⟨_, _, _, rfl, Nat.le_refl _, by decide, ?_, (Ext.refl w).goA _⟩
      have := RdI.new (w := w) (e := 5) (k := .u8) [orHi x, code % 256] rfl rfl rfl
      rw [alloc_size]
      exact this

set_option maxRecDepth 100000 in
set_option maxHeartbeats 1600000 in
theorem same05_any (co co' : Int) (A A' : Option Addr) (n c n' c' B : Nat) (xs ys : List Int) (w : World) (h1 : RdI w B .u16 A n xs) (h2 : RdI w B .u16 A' n' ys) (hB : B ≤ w.heap.size) (hn : n ≤ maxLen) (hn' : n' ≤ maxLen) :
    Calls Try.prog 26 #[.agg #[.int .i64 co, .slice A n c], .agg #[.int .i64 co', .slice A' n' c']] w
      fun e w' => e = .returned (.bool ((co == co') && decide (xs = ys))) ∧ Ext w w' := by
  have E2 := ((Ext.refl w).goA (.cells #[.int .i64 co, .slice A n c] 40)).goA (.cells #[.int .i64 co', .slice A' n' c'] 40)
  have r1 := Lib.hid (h1.keep (w' := _) fun b hb => E2.block b (Nat.lt_of_lt_of_le hb hB))
  have r2 := Lib.hid (h2.keep (w' := _) fun b hb => E2.block b (Nat.lt_of_lt_of_le hb hB))
  clear h1 h2
  cases e1 : (co == co')
  · go_enter Try.func26, Try.ntmps26
    go_wp2_with fail
    go_ret
    exact ⟨rfl, E2⟩
  · go_enter Try.func26, Try.ntmps26
    go_wp2_with fail
    refine (sameVals_any A A' n c n' c' B xs ys _ r1.out r2.out hn hn').mono ?_
    rintro e w1 ⟨rfl, m, rfl⟩
    go_wp2_with fail
    go_ret
    exact ⟨rfl, E2.goD m⟩
end Go.Proofs.Ytgeahfkhfpdlhaa
