/- slices.Grow and slices.Concat of bytes. -/
import Derived.Test.YtgagpalffdgjnaaG29
namespace Go.Proofs.Ytgagpalffdgjnaa
open Go.RowKit

set_option maxRecDepth 100000 in
set_option maxHeartbeats 1600000 in
theorem growNil_any (n : Nat) (hn : n ≤ 1000000) (w : World) :
    Calls Try.prog 155 #[.slice none 0 0, .int .i64 (n : Int)] w fun e w' => ∃ v, e = .returned v ∧ w'.ownsRow w.heap.size 5 1 v 0 [] ∧ Ext w w' := by
  have f1 : decide ((n : Int) < 0) = false := by simp
  have hw : IntKind.i64.wrap (n : Int) = n := by rw [IntKind.wrap_i64]; omega
  rcases Nat.eq_zero_or_pos n with h0 | h0
  · subst h0
    go_enter Try.func155, Try.ntmps155
    go_wp2_with fail
    go_ret
    exact ⟨_, rfl, World.ownsRow_nil _ _ _ _, Ext.refl _⟩
  · have e5 : ¬ (281474976710656 < Builtin.nextslicecap n 0 * Try.t5.bytes) := by rw [nextslicecap_zero h0, show Try.t5.bytes = 1 from rfl]; omega
    have e6 : ¬ (281474976710656 < (n : Int) * (Try.t5.bytes : Int)) := by rw [show Try.t5.bytes = 1 from rfl]; omega
    have hgm := grownCap_le_maxLen w n 0 5 (by unfold maxLen; omega)
    have hge := grownCap_ge w n 0 5
    have f2 : decide (0 < (n : Int)) = true := by simp; exact h0
    go_enter Try.func155, Try.ntmps155
    go_wp2_with fail
    go_ret
    refine ⟨_, rfl, ⟨rfl, .inr ⟨w.heap.size, _, _, rfl, Nat.le_refl _, heap_alloc_new w _, Nat.zero_le _, hgm, ?_, rfl⟩⟩, ((Ext.refl w).goA _).god⟩
    rw [Array.size_append, size_zeroCells, size_zeroCells]
    unfold grownCap at hge
    simp
    omega
def catJ (xs ys : List Int) (j : Nat) : List Int := if j = 0 then [] else if j = 1 then xs else xs ++ ys
/-- What the call owns, read; in memory that is new. -/
theorem own_fresh {w w' : World} {n : Nat} {v : Value} {xs : List Int} (h : w'.ownsRow w.heap.size 5 1 v n (xs.map (Value.int .u8))) (E : Ext w w') : FreshI .u8 xs w (.returned v) w' := by
  obtain ⟨A, c, rfl, ⟨h1, h2⟩, hr⟩ := own_rd h
  exact ⟨A, n, c, rfl, h1, h2, hr, E, fun b o e => by subst e; exact (h.lt b rfl).1⟩
/-- As FreshI; the address is that of a block of its own, or there is none. -/
def FreshB (k : IntKind) (xs : List Int) (w : World) (e : Ending) (w' : World) : Prop :=
  ∃ A n c, e = .returned (.slice A n c) ∧ n ≤ c ∧ c ≤ maxLen ∧ RdI w' w'.heap.size k A n xs ∧ Ext w w' ∧ (∀ b o, A = some ⟨b, o, none⟩ → w.heap.size ≤ b) ∧ ((A = none ∧ c = 0) ∨ ∃ b o, A = some ⟨b, o, none⟩)
theorem own_freshB {w w' : World} {n : Nat} {v : Value} {xs : List Int} (h : w'.ownsRow w.heap.size 5 1 v n (xs.map (Value.int .u8))) (E : Ext w w') : FreshB .u8 xs w (.returned v) w' := by
  obtain ⟨A, c, rfl, ⟨h1, h2⟩, hr⟩ := own_rd h
  refine ⟨A, n, c, rfl, h1, h2, hr, E, fun b o e => by subst e; exact (h.lt b rfl).1, ?_⟩
  rcases h.2 with ⟨hv, _⟩ | ⟨g, _, _, hv, _⟩
  · injection hv with h1 _ h3
    exact .inl ⟨h1, h3⟩
  · injection hv with h1 _ _
    exact .inr ⟨g, 0, h1⟩
set_option maxRecDepth 100000 in
set_option maxHeartbeats 3200000 in
theorem concat_any (g : Nat) (A1 A2 : Option Addr) (n1 c1 n2 c2 : Nat) (xs ys : List Int) (w : World) (hg : w.heap[g]? = some (.cells #[.slice A1 n1 c1, .slice A2 n2 c2] 34 (0, 0))) (h1 : RdI w w.heap.size .u8 A1 n1 xs) (h2 : RdI w w.heap.size .u8 A2 n2 ys) (hn : n1 + n2 ≤ 1000000) :
    Calls Try.prog 153 #[.slice (some ⟨g, 0, none⟩) 2 2] w (FreshB .u8 (xs ++ ys) w) := by
  have k0 : w.cell? ⟨g, 0, none⟩ = some (.slice A1 n1 c1) := cellsAt hg 0
  have k1 : w.cell? ⟨g, 1, none⟩ = some (.slice A2 n2 c2) := cellsAt hg 1
  have h1' := Lib.hid h1
  have h2' := Lib.hid h2
  have l1 := h1.len
  have l2 := h2.len
  have hgl := lt_of_block hg
  clear h1 h2 hg
  go_enter Try.func153, Try.ntmps153
  go_wp2_with fail
  go_loopw [3, 11] (fun z i wr => ∃ j : Nat, j ≤ 2 ∧ i = .int .i64 j ∧ z = .int .i64 ((if j = 0 then 0 else if j = 1 then n1 else n1 + n2 : Nat) : Int) ∧ wr = w) (fun _ i _ => 2 - (intOf i).toNat)
  case atStart => exact ⟨0, by omega, rfl, rfl, rfl⟩
  case round =>
    obtain ⟨j, hj, rfl, rfl, rfl⟩ := hrel
    rcases j with _ | _ | _ | j
    · have w1 : IntKind.i64.wrap (n1 : Int) = n1 := by rw [IntKind.wrap_i64]; omega
      have f1 : decide ((n1 : Int) < 0) = false := by simp
      go_wp2_with fail
      go_roundw
      case rel => exact ⟨1, by omega, rfl, by simp, by simp⟩
      case measure => simp [intOf]
    · have w1 : IntKind.i64.wrap ((n1 : Int) + (n2 : Int)) = (n1 : Int) + (n2 : Int) := by rw [IntKind.wrap_i64]; omega
      have f1 : decide ((n1 : Int) + (n2 : Int) < 0) = false := by simp; omega
      go_wp2_with fail
      go_roundw
      case rel => exact ⟨2, by omega, rfl, by simp, by simp⟩
      case measure => simp [intOf]
    · go_wp2_with fail
      refine (by simpa using growNil_any (n1 + n2) hn wr : Calls Try.prog 155 #[.slice none 0 0, .int .i64 ((n1 : Int) + (n2 : Int))] wr _).mono ?_
      rintro e w1 ⟨v, rfl, own1, E1⟩
      have own1' := Lib.hid own1
      have E1' := Lib.hid E1
      have m0 := (E1.cell 0 hgl).trans k0
      have m1 := (E1.cell 1 hgl).trans k1
      have hgl1 : g < w1.heap.size := Nat.lt_of_lt_of_le hgl E1.size
      clear own1 E1 m0 m1
      go_wp2_with fail
      generalize hbw : wr = bw at *
      clear hbw
      have hsz : bw.heap.size ≤ w1.heap.size := E1'.out.size
      go_loopw [6, 27] (fun z i w2 => ∃ j : Nat, j ≤ 2 ∧ i = .int .i64 j ∧ w2.ownsRow bw.heap.size 5 1 z (catJ xs ys j).length ((catJ xs ys j).map (Value.int .u8)) ∧ Ext bw w2) (fun _ i _ => 2 - (intOf i).toNat)
      case atStart => exact ⟨0, by omega, rfl, own1'.out, E1'.out⟩
      case round =>
        obtain ⟨j, hj, rfl, own, E⟩ := hrel
        have own' := Lib.hid own
        have E' := Lib.hid E
        have hs2 := E.size
        have m0 := (E.cell 0 hgl).trans k0
        have m1 := (E.cell 1 hgl).trans k1
        clear own E
        rcases j with _ | _ | _ | j
        · go_wp2_with (at_builtin; refine wpList_appI rfl (.tmp 31) (.tmp 32) _ rfl Try.underlying34 info_u8 own'.out rfl (h1'.out.ext E'.out) rfl (by simp [catJ]; omega) (by simp [catJ]; omega) hs2 ?_; intro v3 w3 own3 hg3 hat3)
          go_roundw
          case rel => exact ⟨1, by omega, rfl, by simpa [catJ, l1] using own3, E'.out.goG hg3 (fun i hi => (own'.out.lt i hi).1)⟩
          case measure => simp [intOf]
        · go_wp2_with (at_builtin; refine wpList_appI rfl (.tmp 31) (.tmp 32) _ rfl Try.underlying34 info_u8 own'.out rfl (h2'.out.ext E'.out) rfl (by simp [catJ]; omega) (by simp [catJ]; omega) hs2 ?_; intro v3 w3 own3 hg3 hat3)
          go_roundw
          case rel => exact ⟨2, by omega, rfl, by simpa [catJ, l1, l2] using own3, E'.out.goG hg3 (fun i hi => (own'.out.lt i hi).1)⟩
          case measure => simp [intOf]
        · go_wp2_with fail
          go_ret
          exact own_freshB own'.out E'.out
        · omega
    · omega
end Go.Proofs.Ytgagpalffdgjnaa
