
/- Layer 4, the walks: a word of bytes, two at a time. -/
import Derived.Test.YtgeahfkhfpdlhaaPduCoded4
import Derived.OneCell
namespace Go.Proofs.Ytgeahfkhfpdlhaa
open Go.RowKit

/-- The word at a place of bytes; 0 if these end ahead of its end. -/
def wordAt (l : List Int) (a : Nat) : Int := if l.length < a + 2 then 0 else 256 * l.getD a 0 + l.getD (a + 1) 0
theorem i64_or (x y : Int) (h0 : 0 ≤ x) (h1 : x ≤ 255) (h2 : 0 ≤ y) (h3 : y ≤ 255) : bits .or .i64 (x * 256) y = 256 * x + y := by
  rw [bits_join .i64 32 (by decide) (fun n h0 h1 => by rw [IntKind.wrap_i64]; omega) 8 (x * 256) y (by omega) (by omega) (by omega) h2 (by omega) (by omega)]
  omega
def ByteL (l : List Int) : Prop := ∀ j : Nat, 0 ≤ l[j]?.getD 0 ∧ l[j]?.getD 0 ≤ 255
theorem wordAt_range (l : List Int) (h : ByteL l) (a : Nat) : 0 ≤ wordAt l a ∧ wordAt l a ≤ 65535 := by
  unfold wordAt
  have h1 := h a
  have h2 := h (a + 1)
  rw [List.getD_eq_getElem?_getD, List.getD_eq_getElem?_getD]
  split <;> omega

/-- What a call of 'word' leaves: the block of the place alone has turned. -/
def WordPost (p a : Nat) (l : List Int) (w : World) (e : Ending) (w' : World) : Prop :=
  e = .returned (.int .i64 (wordAt l a)) ∧ w'.heap[p]? = some (.cells #[.int .i64 ((a : Int) + 2)] 3 (0, 0)) ∧ Mod (fun i => i = p) w w'

set_option maxRecDepth 100000 in
set_option maxHeartbeats 1600000 in
theorem word_any (p r a n : Nat) (c : Nat) (A : Option Addr) (B : Nat) (l : List Int) (w : World) (hx : RdI w B .u8 A n l) (hl : ByteL l) (hB : B ≤ p) (ha : a ≤ 1048576)
    (hp : w.heap[p]? = some (.cells #[.int .i64 a] 3 (0, 0))) (hr : w.heap[r]? = some (.cells #[.slice A n c] 33 (0, 0))) (hpr : r ≠ p) :
    Calls Try.prog 132 #[.pointer (some ⟨p, 0, none⟩), .pointer (some ⟨r, 0, none⟩)] w (WordPost p a l w) := by
  have p1 := cell_of_one hp
  have p2 := free_of_one hp
  have r1 := cell_of_one hr
  have hlen := Lib.hid hx.len
  have hp' := Lib.hid hp
  have hset := one_setCell (u := .int .i64 ((a : Int) + 2)) hp
  have hM : Mod (fun i => i = p) w (w.setCell ⟨p, 0, none⟩ (.int .i64 ((a : Int) + 2))) := (Mod.refl (fun i => i = p) w).setCell (p := ⟨p, 0, none⟩) (.inl rfl) _
  have hx' : RdI (w.setCell ⟨p, 0, none⟩ (.int .i64 ((a : Int) + 2))) B .u8 A n l := hx.keep fun b hb => Below.heap_setCell _ _ _ _ (by simp; omega)
  have hset' := Lib.hid hset
  clear hp hr hset
  by_cases hn : n < a + 2
  · have hw : wordAt l a = 0 := by unfold wordAt; rw [hlen.out, if_pos hn]
    have t1 : decide ((n : Int) < (a : Int) + 2) = true := by simp; omega
    clear hx hx'
    go_enter Try.func132, Try.ntmps132
    go_wp2_with fail
    go_ret
    exact ⟨by rw [hw]; rfl, hset'.out, hM⟩
  · have hw : wordAt l a = 256 * l.getD a 0 + l.getD (a + 1) 0 := by unfold wordAt; rw [hlen.out, if_neg hn]
    have t1 : decide ((n : Int) < (a : Int) + 2) = false := by simp; omega
    obtain ⟨b, o, rfl, hb, c1⟩ := hx'.at_ (j := a) (by omega)
    obtain ⟨b', o', e, _, c2⟩ := hx'.at_ (j := a + 1) (by omega)
    injection e with e; injection e with e1 e2; subst e1; subst e2
    clear hx hx'
    have d1 := hl a
    have d2 := hl (a + 1)
    rw [← List.getD_eq_getElem?_getD] at d1 d2
    obtain ⟨x, hx⟩ : ∃ x, l.getD a 0 = x := ⟨_, rfl⟩
    obtain ⟨y, hy⟩ : ∃ y, l.getD (a + 1) 0 = y := ⟨_, rfl⟩
    rw [hx] at d1 c1 hw
    rw [hy] at d2 c2 hw
    have ho := i64_or x y d1.1 d1.2 d2.1 d2.2
    have n1 : (((a : Int) + 2 - 2)).toNat = a := by omega
    have n2 : (((a : Int) + 2 - 1)).toNat = a + 1 := by omega
    clear hx hy
    have u1 : IntKind.i64.wrap (a : Int) = a := by rw [IntKind.wrap_i64]; omega
    have u2 : IntKind.i64.wrap ((a : Int) + 1) = (a : Int) + 1 := by rw [IntKind.wrap_i64]; omega
    have u3 : IntKind.i64.wrap x = x := by rw [IntKind.wrap_i64]; omega
    have u4 : IntKind.i64.wrap (x * 256) = x * 256 := by rw [IntKind.wrap_i64]; omega
    have u5 : IntKind.i64.wrap y = y := by rw [IntKind.wrap_i64]; omega
    have g1 : (a : Int) < n := by omega
    have g2 : (a : Int) + 1 < n := by omega
    have g3 : (0 : Int) ≤ (a : Int) + 1 := by omega
    have g4 : a < n := by omega
    have g5 : a + 1 < n := by omega
    have q1 : decide ((a : Int) < n) = true := by simp; omega
    have q2 : decide ((a : Int) + 1 < n) = true := by simp; omega
    have q3 : (a : Int) + 2 - 1 = (a : Int) + 1 := by omega
    have q4 : decide (0 ≤ (a : Int) + 1) = true := by simp; omega
    go_enter Try.func132, Try.ntmps132
    go_wp2_with fail
    go_quiet (fail)
    go_wp2_with fail
    go_ret
    exact ⟨by rw [hw]; rfl, hset'.out, hM.drewN _⟩
end Go.Proofs.Ytgeahfkhfpdlhaa
