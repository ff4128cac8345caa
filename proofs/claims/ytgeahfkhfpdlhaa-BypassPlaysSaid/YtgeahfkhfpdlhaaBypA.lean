/- Layer 15, the walks: New, Until, Is, Drop, Put. -/
import Derived.Test.YtgeahfkhfpdlhaaBypWords
import Derived.Deep.RegionHeld
namespace Go.Proofs.Ytgeahfkhfpdlhaa
open Go.RowKit

section
variable (g gl gm N : Nat) (lims E : List Int) (i ticks now : Int) (w : World)
set_option maxRecDepth 100000 in
set_option maxHeartbeats 800000 in
theorem bypUntil_any (hb : Tb w g gl gm N lims E) (hi : (Lit.int .i64 i).wf = true) :
    Calls Try.prog 47 #[.pointer (some ⟨g, 0, none⟩), .int .i64 i] w fun e w' => e = .returned (.int .i64 (untilE E i)) ∧ w = w' := by
  have hl := hb.map.look hi
  have hc := cellsAt hb.head
  clear hi hb
  go_enter Try.func47, Try.ntmps47
  go_wp2_with fail
  go_ret
  exact ⟨rfl, rfl⟩
set_option maxRecDepth 100000 in
set_option maxHeartbeats 800000 in
theorem bypIs_any (hb : Tb w g gl gm N lims E) (hi : (Lit.int .i64 i).wf = true) :
    Calls Try.prog 49 #[.pointer (some ⟨g, 0, none⟩), .int .i64 i, .int .i64 now] w fun e w' => e = .returned (.bool (isB E i now)) ∧ w = w' := by
  have hl := hb.map.look_ok hi
  have hc := cellsAt hb.head
  have hv : isB E i now = ((untilE E i != 0) && decide (now < untilE E i)) := rfl
  rw [hv]
  generalize untilE E i = u at *
  clear hi hb hv
  cases h : (u != 0)
  · rw [h] at hl
    rw [Bool.false_and]
    clear h
    go_enter Try.func49, Try.ntmps49
    go_wp2_with fail
    go_ret
    exact ⟨rfl, rfl⟩
  · rw [h] at hl
    rw [Bool.true_and]
    clear h
    go_enter Try.func49, Try.ntmps49
    go_wp2_with fail
    go_ret
    exact ⟨rfl, rfl⟩
def TurnPost (v : Value) (g gl gm N : Nat) (lims E : List Int) (w : World) (e : Ending) (w' : World) : Prop := e = .returned v ∧ Tb w' g gl gm N lims E ∧ Mod (fun i => i = gm) w w'
set_option maxRecDepth 100000 in
set_option maxHeartbeats 800000 in
theorem bypDrop_any (hb : Tb w g gl gm N lims E) (hi : (Lit.int .i64 i).wf = true) :
    Calls Try.prog 38 #[.pointer (some ⟨g, 0, none⟩), .int .i64 i] w (TurnPost (.bool (untilE E i != 0)) g gl gm N lims (setE E i 0) w) := by
  have hl := hb.map.look_ok hi
  have hc := cellsAt hb.head
  have hm := hb.map
  have hb' := Lib.hid hb
  have hi' := Lib.hid hi
  have hm' := Lib.hid hm
  clear hb hi hm
  go_enter Try.func38, Try.ntmps38
  go_wp2_with ((with_reducible refine wpList_dropI rfl (.tmp 19) (.tmp 20) rfl rfl rfl hm'.out hi'.out ?_); intro w1 hm1 hM1)
  go_ret
  exact ⟨rfl, hb'.out.turn (hm1.congr fun j => fupd_untilE (.inr rfl) j) (setE_length _ _ _) (hb'.out.rng.set i (by omega) (by omega)) hM1, hM1⟩
set_option maxRecDepth 100000 in
set_option maxHeartbeats 3200000 in
theorem bypPut_any (hb : Tb w g gl gm N lims E) (hi : (Lit.int .i64 i).wf = true) (hN : N < maxLen) :
    Calls Try.prog 45 #[.pointer (some ⟨g, 0, none⟩), .int .i64 i, .int .i64 ticks, .int .i64 now] w (TurnPost (.int .i64 (putC lims E i ticks now)) g gl gm (N + 1) lims (putE lims E i ticks now) w) := by
  have hc := cellsAt hb.head
  have hfit := hb.fit
  have hv : putE lims E i ticks now = if putC lims E i ticks now = 0 then setE E i (now + ticks) else E := rfl
  have hpc : putC lims E i ticks now = if i < 0 ∨ (lims.length : Int) ≤ i then 3 else if ticks < 1 ∨ lims.getD i.toNat 0 < ticks ∨ 1099511627776 < ticks ∨ now < 0 ∨ 1099511627776 < now then 1 else if isB E i now = true then 4 else 0 := rfl
  rw [hv]
  clear hv
  generalize putC lims E i ticks now = pc at *
  have hb' := Lib.hid hb
  have hi' := Lib.hid hi
  clear hb hi
  by_cases i0 : i < 0
  · rw [if_pos (.inl i0)] at hpc
    subst hpc
    rw [if_neg (by decide)]
    have f1 : decide (i < 0) = true := by simp; omega
    go_enter Try.func45, Try.ntmps45
    go_wp2_with fail
    go_ret
    exact ⟨rfl, hb'.out.mono (by omega), Mod.refl _ _⟩
  by_cases i1 : (lims.length : Int) ≤ i
  · rw [if_pos (.inr i1)] at hpc
    subst hpc
    rw [if_neg (by decide)]
    have f1 : decide (i < 0) = false := by simp; omega
    have f2 : decide ((lims.length : Int) ≤ i) = true := by simp; omega
    go_enter Try.func45, Try.ntmps45
    go_wp2_with fail
    go_ret
    exact ⟨rfl, hb'.out.mono (by omega), Mod.refl _ _⟩
  obtain ⟨k, rfl⟩ := Int.eq_ofNat_of_zero_le (show 0 ≤ i by omega)
  rw [if_neg (by omega), Int.toNat_natCast] at hpc
  have hlim := hb'.out.row.cell k (by omega)
  have hlen := Lib.hid hb'.out.len
  have his := fun w' (h : Tb w' g gl gm N lims E) => bypIs_any g gl gm N lims E (k : Int) now w' h hi'.out
  generalize lims.getD k 0 = lim at *
  generalize isB E (k : Int) now = bb at *
  have his' := Lib.hid his
  have hpc' := Lib.hid hpc
  clear his hpc
  generalize hL : lims.length = n at *
  clear hL
  have g1 : decide ((k : Int) < 0) = false := by simp
  have g2 : decide ((n : Int) ≤ (k : Int)) = false := by simp; omega
  have g3 : decide (n ≤ k) = false := by simp; omega
  by_cases hbad : ticks < 1 ∨ lim < ticks ∨ 1099511627776 < ticks ∨ now < 0 ∨ 1099511627776 < now
  · have hpc := hpc'.out
    rw [if_pos hbad] at hpc
    subst hpc
    rw [if_neg (by decide)]
    rcases (show ticks < 1 ∨ (1 ≤ ticks ∧ lim < ticks) ∨ (1 ≤ ticks ∧ ticks ≤ lim ∧ 1099511627776 < ticks) ∨ (1 ≤ ticks ∧ ticks ≤ lim ∧ ticks ≤ 1099511627776 ∧ now < 0) ∨ (1 ≤ ticks ∧ ticks ≤ lim ∧ ticks ≤ 1099511627776 ∧ 0 ≤ now ∧ 1099511627776 < now) by omega) with h | h | h | h | h
    · have c0 : decide (ticks < 1) = true := by simp; omega
      clear hbad h
      go_enter Try.func45, Try.ntmps45
      go_wp2_with fail
      go_ret
      exact ⟨rfl, hb'.out.mono (by omega), Mod.refl _ _⟩
    · have c0 : decide (ticks < 1) = false := by simp; omega
      have c1 : decide (lim < ticks) = true := by simp; omega
      clear hbad h
      go_enter Try.func45, Try.ntmps45
      go_wp2_with fail
      go_ret
      exact ⟨rfl, hb'.out.mono (by omega), Mod.refl _ _⟩
    · have c0 : decide (ticks < 1) = false := by simp; omega
      have c1 : decide (lim < ticks) = false := by simp; omega
      have c2 : decide (1099511627776 < ticks) = true := by simp; omega
      clear hbad h
      go_enter Try.func45, Try.ntmps45
      go_wp2_with fail
      go_ret
      exact ⟨rfl, hb'.out.mono (by omega), Mod.refl _ _⟩
    · have c0 : decide (ticks < 1) = false := by simp; omega
      have c1 : decide (lim < ticks) = false := by simp; omega
      have c2 : decide (1099511627776 < ticks) = false := by simp; omega
      have c3 : decide (now < 0) = true := by simp; omega
      clear hbad h
      go_enter Try.func45, Try.ntmps45
      go_wp2_with fail
      go_ret
      exact ⟨rfl, hb'.out.mono (by omega), Mod.refl _ _⟩
    · have c0 : decide (ticks < 1) = false := by simp; omega
      have c1 : decide (lim < ticks) = false := by simp; omega
      have c2 : decide (1099511627776 < ticks) = false := by simp; omega
      have c3 : decide (now < 0) = false := by simp; omega
      have c4 : decide (1099511627776 < now) = true := by simp; omega
      clear hbad h
      go_enter Try.func45, Try.ntmps45
      go_wp2_with fail
      go_ret
      exact ⟨rfl, hb'.out.mono (by omega), Mod.refl _ _⟩
  have hgood : 1 ≤ ticks ∧ ticks ≤ lim ∧ ticks ≤ 1099511627776 ∧ 0 ≤ now ∧ now ≤ 1099511627776 := by omega
  have c0 : decide (ticks < 1) = false := by simp; omega
  have c1 : decide (lim < ticks) = false := by simp; omega
  have c2 : decide (1099511627776 < ticks) = false := by simp; omega
  have c3 : decide (now < 0) = false := by simp; omega
  have c4 : decide (1099511627776 < now) = false := by simp; omega
  cases bb
  · have hpc := hpc'.out
    rw [if_neg hbad, if_neg (by decide)] at hpc
    subst hpc
    rw [if_pos rfl]
    have u1 : IntKind.i64.wrap (now + ticks) = now + ticks := by rw [IntKind.wrap_i64]; omega
    have wc : (Lit.int .i64 (now + ticks)).wf = true := WalkArith.wf_i64 ⟨by omega, by omega⟩
    have hm' := Lib.hid hb'.out.map
    have wc' := Lib.hid wc
    have hg' := Lib.hid hgood
    have hkn : (k : Int) < n := by omega
    have hkn' := Lib.hid hkn
    clear hbad hgood wc hkn
    go_enter Try.func45, Try.ntmps45
    go_wp2_with fail
    refine (his'.out _ hb'.out).mono ?_
    rintro e w1 ⟨rfl, rfl⟩
    go_wp2_with ((with_reducible refine wpList_storeI rfl (.tmp 55) (.tmp 56) (.tmp 59) rfl rfl rfl rfl hm'.out hN hi'.out wc'.out (by have := hg'.out; omega) ?_); intro w1 hm1 hM1)
    go_ret
    exact ⟨rfl, hb'.out.turn (hm1.congr fun j => fupd_untilE (.inl ⟨by omega, by have := hlen.out; have := hkn'.out; omega⟩) j) (setE_length _ _ _) (hb'.out.rng.set _ (by have := hg'.out; omega) (by have := hg'.out; omega)) hM1, hM1⟩
  · have hpc := hpc'.out
    rw [if_neg hbad, if_pos rfl] at hpc
    subst hpc
    rw [if_neg (by decide)]
    clear hbad hgood
    go_enter Try.func45, Try.ntmps45
    go_wp2_with fail
    refine (his'.out _ hb'.out).mono ?_
    rintro e w1 ⟨rfl, rfl⟩
    go_wp2_with fail
    go_ret
    exact ⟨rfl, hb'.out.mono (by omega), Mod.refl _ _⟩
end
end Go.Proofs.Ytgeahfkhfpdlhaa
