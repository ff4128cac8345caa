/- Layer 5, the walks: the answer of any bytes, an exception's bytes, are answers alike, are they too much? -/
import Derived.Test.YtkkbjchoilcjlaaReplyG
import Derived.Test.YtkkbjchoilcjlaaReplyH
import Derived.Test.YtkkbjchoilcjlaaRef04
namespace Go.Proofs.Ytkkbjchoilcjlaa
open Go.RowKit

/-- The answer of bytes to a request, and its error. -/
def rgetR (fc ad qt to : Int) (xs bs : List Int) : Int × List Int × Int :=
  if rightB' fc ad qt to xs = true then
    (if bs.length = 2 ∧ hiB (bs.getD 0 0) = true then (if tellsB fc ad qt to xs bs (bs.getD 1 0) [] = true then (bs.getD 1 0, [], 52) else (0, [], 51))
     else (if tellsB fc ad qt to xs bs 0 (takenV (readsB fc) (readsBits fc) qt bs) = true then (0, takenV (readsB fc) (readsBits fc) qt bs, 0) else (0, [], 51)))
  else (0, [], 51)
theorem rget_any (fc ad qt to : Int) (A Ab : Option Addr) (n c m cb : Nat) (xs bs : List Int) (w : World) (hx : RdI w w.heap.size .u16 A n xs) (hr : ∀ j : Nat, 0 ≤ xs[j]?.getD 0 ∧ xs[j]?.getD 0 ≤ 65535) (nm : n ≤ maxLen) (hz : RdI w w.heap.size .u8 Ab m bs) (hb : ByteL bs) (hmc : m ≤ cb) (hcm : cb ≤ maxLen) :
    Calls Try.prog 33 #[.agg #[.int .i64 fc, .int .i64 ad, .int .i64 qt, .slice A n c, .int .i64 to], .slice Ab m cb] w (RGetPost (rgetR fc ad qt to xs bs).1 (rgetR fc ad qt to xs bs).2.1 (rgetR fc ad qt to xs bs).2.2 w) := by
  have hl := hz.len
  cases h : rightB' fc ad qt to xs
  · have e : rgetR fc ad qt to xs bs = (0, [], 51) := by unfold rgetR; rw [if_neg (by rw [h]; decide)]
    rw [e]
    exact rget_no fc ad qt to A Ab n c m cb xs bs w hx hr nm hz hb h
  · by_cases h2 : bs.length = 2 ∧ hiB (bs.getD 0 0) = true
    · have e : rgetR fc ad qt to xs bs = if tellsB fc ad qt to xs bs (bs.getD 1 0) [] = true then (bs.getD 1 0, [], 52) else (0, [], 51) := by unfold rgetR; rw [if_pos h, if_pos h2]
      obtain rfl : m = 2 := by omega
      obtain ⟨x0, x1, hbs⟩ : ∃ x0 x1, bs = [x0, x1] := by
        match bs, h2.1 with
        | [a, b], _ => exact ⟨a, b, rfl⟩
      have e1 : bs.getD 1 0 = x1 := by rw [hbs]; rfl
      have e0 : bs.getD 0 0 = x0 := by rw [hbs]; rfl
      rw [e1] at e
      rw [e0] at h2
      refine rget_alarm fc ad qt to x0 x1 A Ab n c cb xs bs w hx hr nm hz hb h hbs h2.2 _ (fun ht e' w' hp => ?_) (fun ht e' w' hp => ?_)
      · rw [e, if_pos ht]; exact hp
      · rw [e, if_neg (by rw [ht]; decide)]; exact hp
    · have e : rgetR fc ad qt to xs bs = if tellsB fc ad qt to xs bs 0 (takenV (readsB fc) (readsBits fc) qt bs) = true then (0, takenV (readsB fc) (readsBits fc) qt bs, 0) else (0, [], 51) := by unfold rgetR; rw [if_pos h, if_neg h2]
      have hno : m ≠ 2 ∨ m = 2 ∧ hiB (bs.getD 0 0) = false := by
        by_cases hm : m = 2
        · right
          refine ⟨hm, ?_⟩
          cases hh : hiB (bs.getD 0 0)
          · rfl
          · exact absurd ⟨by omega, hh⟩ h2
        · exact .inl hm
      refine rget_vals fc ad qt to A Ab n c m cb xs bs w hx hr nm hz hb hmc hcm h hno _ (fun ht e' w' hp => ?_) (fun ht e' w' hp => ?_)
      · rw [e, if_pos ht]; exact hp
      · rw [e, if_neg (by rw [ht]; decide)]; exact hp

/-- The bytes of an exception to bytes. -/
def alarmL (bs : List Int) (code : Int) : List Int := if excB code = true then [orHi (bs.getD 0 0), code % 256] else []
set_option maxHeartbeats 1600000 in
theorem alarm_any (A : Option Addr) (m c : Nat) (bs : List Int) (code : Int) (w : World) (hz : RdI w w.heap.size .u8 A m bs) :
    Calls Try.prog 38 #[.slice A m c, .int .i64 code] w (RetI .u8 (alarmL bs code) w) := by
  have e1 : ∀ x, bits .or .u8 x 128 = orHi x := fun _ => rfl
  have hL : (excB code = true → alarmL bs code = [orHi (bs.getD 0 0), code % 256]) ∧ (excB code = false → alarmL bs code = []) := ⟨fun h => if_pos h, fun h => if_neg (by rw [h]; decide)⟩
  have hL' := Lib.hid hL
  have hl := hz.len
  clear hL
  cases h : excB code
  · rw [hL'.out.2 h]
    go_enter Try.func38, Try.ntmps38
    go_wp2_with fail
    refine (exception_any code w).mono ?_
    rw [h]
    rintro e w1 ⟨rfl, rfl⟩
    go_wp2_with fail
    go_ret
    exact ⟨_, _, _, rfl, Nat.le_refl _, by decide, RdI.nil _, Ext.refl _⟩
  · rw [hL'.out.1 h]
    rcases Nat.eq_zero_or_pos m with hm | hm
    · subst hm
      obtain rfl : bs = [] := List.length_eq_zero_iff.1 hl
      clear hL' hz hl
      have e2 : bits .or .u8 0 128 = orHi 0 := rfl
      go_enter Try.func38, Try.ntmps38
      go_wp2_with fail
      refine (exception_any code w).mono ?_
      rw [h]
      rintro e w1 ⟨rfl, rfl⟩
      go_wp2_with fail
      go_ret
      refine ⟨_, _, _, rfl, Nat.le_refl _, by decide, ?_, (Ext.refl w).goA _⟩
      have := RdI.new (w := w) (e := 5) (k := .u8) [orHi 0, code % 256] rfl rfl rfl
      rw [alloc_size]
      exact this
    · obtain ⟨bb, o, rfl, hbb, hc0⟩ := hz.at_ hm
      rw [Nat.add_zero] at hc0
      generalize bs.getD 0 0 = x at hc0 ⊢
      have t1 : decide (0 < m) = true := by simp; exact hm
      have t2 : (0 : Int) < m := by omega
      clear hL' hz hl hm
      go_enter Try.func38, Try.ntmps38
      go_wp2_with fail
      refine (exception_any code w).mono ?_
      rw [h]
      rintro e w1 ⟨rfl, rfl⟩
      go_wp2_with fail
      go_ret
      refine ⟨_, _, _, rfl, Nat.le_refl _, by decide, ?_, (Ext.refl w).goA _⟩
      have := RdI.new (w := w) (e := 5) (k := .u8) [orHi x, code % 256] rfl rfl rfl
      rw [alloc_size]
      exact this

set_option maxHeartbeats 1600000 in
theorem same05_any (co co' : Int) (A A' : Option Addr) (n c n' c' B : Nat) (xs ys : List Int) (w : World) (h1 : RdI w B .u16 A n xs) (h2 : RdI w B .u16 A' n' ys) (hB : B ≤ w.heap.size) (hn : n ≤ maxLen) (hn' : n' ≤ maxLen) :
    Calls Try.prog 34 #[.agg #[.int .i64 co, .slice A n c], .agg #[.int .i64 co', .slice A' n' c']] w
      fun e w' => e = .returned (.bool ((co == co') && decide (xs = ys))) ∧ Ext w w' := by
  have E2 := ((Ext.refl w).goA (.cells #[.int .i64 co, .slice A n c] 50)).goA (.cells #[.int .i64 co', .slice A' n' c'] 50)
  have r1 := Lib.hid (h1.keep (w' := _) fun b hb => E2.block b (Nat.lt_of_lt_of_le hb hB))
  have r2 := Lib.hid (h2.keep (w' := _) fun b hb => E2.block b (Nat.lt_of_lt_of_le hb hB))
  clear h1 h2
  cases e1 : (co == co')
  · go_enter Try.func34, Try.ntmps34
    go_wp2_with fail
    go_ret
    exact ⟨rfl, E2⟩
  · go_enter Try.func34, Try.ntmps34
    go_wp2_with fail
    refine (sameVals_any A A' n c n' c' B xs ys _ r1.out r2.out hn hn').mono ?_
    rintro e w1 ⟨rfl, m, rfl⟩
    go_wp2_with fail
    go_ret
    exact ⟨rfl, E2.goD m⟩
set_option maxHeartbeats 1600000 in
theorem great_any (fc ad qt to code : Int) (A A2 : Option Addr) (n c n2 c2 : Nat) (w : World) :
    Calls Try.prog 30 #[.agg #[.int .i64 fc, .int .i64 ad, .int .i64 qt, .slice A n c, .int .i64 to], .agg #[.int .i64 code, .slice A2 n2 c2]] w fun e w' => e = .returned (.bool (decide (3000 < (n : Int)) || decide (3000 < (n2 : Int)))) ∧ Ext w w' := by
  cases t1 : decide (3000 < (n : Int))
  all_goals
    go_enter Try.func30, Try.ntmps30
    go_wp2_with fail
    go_ret
    exact ⟨rfl, ((Ext.refl _).goA _).goA _⟩
end Go.Proofs.Ytkkbjchoilcjlaa
