/- Layer 14, the walks: Trip. -/
import Derived.Test.YtgajbgdkgelkgaaGreatG05
import Derived.StillTailTactics
import Derived.Deep.Cut
namespace Go.Proofs.YtgajbgdkgelkgaaGreat
open Go.RowKit

theorem cnt_trip {r : Lw} {i : Nat} (hl : r.s.length = r.g.length) (hi : i < r.g.length) (hs : setOf r i = false) (now x : Int) : cntG (tripL r i now).g (tripL r i now).s x = cntG r.g r.s x + (if gOf r i = x then 1 else 0) := by
  have := cntG_put r.g r.s i true now x hl hi
  unfold setOf at hs
  rw [hs] at this
  unfold gOf
  simp only [Bool.false_eq_true, and_false, if_false, Nat.add_zero, and_true] at this
  exact this
theorem cntO_trip0 {r : Lw} {i : Nat} (hl : r.s.length = r.g.length) (hi : i < r.g.length) (hs : setOf r i = false) (now : Int) (hG : gOf r i = 0) (x : Int) : cntO r x = cntO (tripL r i now) x := by
  unfold cntO
  rw [cnt_trip hl hi hs, hG]
  by_cases hx : x = 0
  · rw [if_pos (.inl hx), if_pos (.inl hx)]
  · rw [show (if (0 : Int) = x then 1 else 0) = 0 from if_neg (fun e => hx e.symm)]; rfl
theorem cntO_trip {r : Lw} {i : Nat} (hl : r.s.length = r.g.length) (hi : i < r.g.length) (hs : setOf r i = false) (now : Int) (hG : gOf r i ≠ 0) (x : Int) : oup (cntO r) (gOf r i) (some ((cntG r.g r.s (gOf r i) : Int) + 1)) x = cntO (tripL r i now) x := by
  by_cases hx : x = gOf r i
  · subst hx
    rw [oup_same]
    unfold cntO
    rw [cnt_trip hl hi hs, if_pos rfl, if_neg (by omega)]
    simp
  · rw [oup_other _ _ hx]
    unfold cntO
    rw [cnt_trip hl hi hs, show (if gOf r i = x then 1 else 0) = 0 from if_neg (fun e => hx e.symm)]; rfl
theorem firO_stay {r : Lw} {i : Nat} {now : Int} (h : gOf r i = 0 ∨ firstMoves r i now = false) (x : Int) : firO r x = firO (tripL r i now) x := by
  unfold firO tripL
  dsimp only
  rcases h with h | h
  · rw [if_pos h]
  · split
    · rfl
    · rw [h]; rfl
theorem firO_moves {r : Lw} {i : Nat} {now : Int} (hG : gOf r i ≠ 0) (h : firstMoves r i now = true) (x : Int) : oup (firO r) (gOf r i) (some (i : Int)) x = firO (tripL r i now) x := by
  unfold tripL
  rw [if_neg hG, if_pos h]
  unfold firO fup oup
  dsimp only
  split <;> rfl
def RwS (gl gf gs : Nat) (b : Nat) : Prop := b = gl ∨ b = gf ∨ b = gs
def TripPost (g gl gf gs N : Nat) (r : Lw) (i : Nat) (now : Int) (w : World) (e : Ending) (w' : World) : Prop :=
  e = .returned (.bool (!setOf r i)) ∧ Rw w' g gl gf gs (N + 1) (if setOf r i = true then r else tripL r i now) ∧ Mod (RwS gl gf gs) w w'
set_option maxRecDepth 100000 in
set_option maxHeartbeats 6400000 in
theorem latchTrip_any (g gl gf gs N : Nat) (r : Lw) (w : World) (h : Rw w g gl gf gs N r) (i : Nat) (hi : i < r.g.length) (now : Int) (hN : N ≤ 4611686018427) :
    Calls Tryz.prog 69 #[.pointer (some ⟨g, 0, none⟩), .int .i64 i, .int .i64 now] w (TripPost g gl gf gs N r i now w) := by
  have hg := lt_of_block h.head
  have hgl := h.row.lt
  have c0 : w.cell? ⟨g, 0, none⟩ = some (.slice (some ⟨gl, 0, none⟩) r.g.length r.g.length) := cellsAt h.head 0
  obtain ⟨k0, k1, k2, k3⟩ := h.row.cells hi
  have z0 := h.row.frozen (i * 4)
  have z1 := h.row.frozen (i * 4 + 1)
  have e3 : (i : Int) < (r.g.length : Int) := by omega
  have hfit := h.fit
  have h' := Lib.hid h
  clear h
  unfold TripPost
  by_cases hs : setOf r i = true
  · rw [if_pos hs, hs]
    rw [hs] at k0
    go_enter Tryz.func69, Tryz.ntmps69
    go_wp2_with (go_at_call 77; refine (latchHas_any _ _ _ _ _ _ _ h'.out i hi).mono ?_; rintro e w' ⟨rfl, rfl⟩)
    go_ret
    exact ⟨rfl, h'.out.mono (by omega), Mod.refl _ _⟩
  · rw [if_neg hs, show setOf r i = false by simpa using hs]
    rw [show setOf r i = false by simpa using hs] at k0
    go_enter Tryz.func69, Tryz.ntmps69
    go_upto_region 5 with (go_at_call 77; refine (latchHas_any _ _ _ _ _ _ _ h'.out i hi).mono ?_; rintro e w' ⟨rfl, rfl⟩)
    have hs0 : setOf r i = false := by simpa using hs
    have hl := h'.out.ok.len
    have ap := h'.out.ap
    have HR : RowL ((w.setCell ⟨gl, i * 4, none⟩ (.bool true)).setCell ⟨gl, i * 4 + 1, none⟩ (.int .i64 now)) gl (tripL r i now) := h'.out.row.put hi hl true now (tripL r i now).f
    have MW : Mod (fun b => b = gl) w ((w.setCell ⟨gl, i * 4, none⟩ (.bool true)).setCell ⟨gl, i * 4 + 1, none⟩ (.int .i64 now)) := ((Mod.refl (fun b => b = gl) w).setCell (p := ⟨gl, i * 4, none⟩) (.inl rfl) _).setCell (p := ⟨gl, i * 4 + 1, none⟩) (.inl rfl) _
    generalize (w.setCell ⟨gl, i * 4, none⟩ (.bool true)).setCell ⟨gl, i * 4 + 1, none⟩ (.int .i64 now) = W at *
    have HD := (MW.block g hg ap.1).trans h'.out.head
    have gW := lt_of_block HD
    have glW := HR.lt
    have FM := h'.out.fm.keep (MW.block gf h'.out.fm.lt (Ne.symm ap.2.2.2.1))
    have SM := h'.out.sm.keep (MW.block gs h'.out.sm.lt (Ne.symm ap.2.2.2.2.1))
    have MW3 : Mod (RwS gl gf gs) w W := MW.weak fun b hb => .inl hb
    have MW' := Lib.hid MW3
    have HR' := Lib.hid HR
    have HD' := Lib.hid HD
    have FM' := Lib.hid FM
    have SM' := Lib.hid SM
    have mk : ∀ W2 F N', W2.heap[g]? = W.heap[g]? → W2.heap[gl]? = W.heap[gl]? → MapO W2 gf N' (firO F) → MapO W2 gs N' (cntO F) → F = tripL r i now → Rw W2 g gl gf gs N' (tripL r i now) := fun W2 F N' q1 q2 q3 q4 q5 => by
      subst q5
      exact ⟨q1.trans HD'.out, HR'.out.keep q2, q3, q4, h'.out.ok.trip (by rw [hl]; exact hi) now, h'.out.grp, ap, hfit⟩
    have mk' := Lib.hid mk
    have c0 : W.cell? ⟨g, 0, none⟩ = some (.slice (some ⟨gl, 0, none⟩) r.g.length r.g.length) := cellsAt HD 0
    have c1 : W.cell? ⟨g, 1, none⟩ = some (.map (some gf)) := cellsAt HD 1
    have c2 : W.cell? ⟨g, 2, none⟩ = some (.map (some gs)) := cellsAt HD 2
    have k3 : W.cell? ⟨gl, i * 4 + 3, none⟩ = some (.int .i64 (gOf r i)) := (HR.cells (i := i) hi).2.2.2
    clear HR MW HD FM SM MW3 k0 k1 k2 z0 z1 mk hs
    by_cases hG : gOf r i = 0
    · rw [hG] at k3
      go_wp2_with fail
      go_ret
      exact ⟨rfl, mk'.out W _ _ rfl rfl ((FM'.out.congr (fun x => firO_stay (.inl hG) x)).mono (by omega)) ((SM'.out.congr (fun x => cntO_trip0 hl hi hs0 now hG x)).mono (by omega)) rfl, MW'.out⟩
    have hGr := h'.out.grp i
    have wG := Lib.hid (WalkArith.wf_i64 (n := gOf r i) ⟨by omega, by omega⟩)
    have hGb : (gOf r i == 0) = false := by simpa using hG
    go_upto_region 7 with fail
    have L1 := (FM'.out.keep (w' := W.drew) rfl).look_ok wG.out
    go_region
    clear L1
    have c0 : W.drew.cell? ⟨g, 0, none⟩ = some (.slice (some ⟨gl, 0, none⟩) r.g.length r.g.length) := c0
    have c1 : W.drew.cell? ⟨g, 1, none⟩ = some (.map (some gf)) := c1
    have c2 : W.drew.cell? ⟨g, 2, none⟩ = some (.map (some gs)) := c2
    have L2 := (SM'.out.keep (w' := W.drew.drew) rfl).look wG.out
    rw [cntO_getD hG] at L2
    have hcb := cntG_le r.g r.s (gOf r i)
    have hcb2 : (cntG r.g r.s (gOf r i) : Int) ≤ 1000 := by omega
    have hcb3 : (0 : Int) ≤ (cntG r.g r.s (gOf r i) : Int) := by omega
    have hw1 : IntKind.i64.wrap ((cntG r.g r.s (gOf r i) : Int) + 1) = (cntG r.g r.s (gOf r i) : Int) + 1 := Go.IntWalk.i64_in _ ⟨by omega, by omega⟩
    clear hcb
    by_cases hc : cntG r.g r.s (gOf r i) = 0
    · have hm' := Lib.hid (show firstMoves r i now = true by unfold firstMoves; rw [hc]; rfl)
      have hcz : ((cntG r.g r.s (gOf r i) : Int) == 0) = true := by simp; omega
      clear hc
      go_upto_region 8 with fail
      go_region
      generalize hV : W.drew.drew = V at *
      have HV : ∀ b : Nat, V.heap[b]? = W.heap[b]? := fun b => by rw [← hV]; rfl
      have MV : Mod (RwS gl gf gs) w V := by rw [← hV]; exact MW'.out.drew.drew
      have FV := FM'.out.keep (HV gf)
      have SV := SM'.out.keep (HV gs)
      have HDV := (HV g).trans HD'.out
      have HBV' := Lib.hid (HV gl)
      have HRV := HR'.out.keep (HV gl)
      have c0 : V.cell? ⟨g, 0, none⟩ = some (.slice (some ⟨gl, 0, none⟩) r.g.length r.g.length) := cellsAt HDV 0
      have c1 : V.cell? ⟨g, 1, none⟩ = some (.map (some gf)) := cellsAt HDV 1
      have c2 : V.cell? ⟨g, 2, none⟩ = some (.map (some gs)) := cellsAt HDV 2
      have k3 : V.cell? ⟨gl, i * 4 + 3, none⟩ = some (.int .i64 (gOf r i)) := (HRV.cells (i := i) hi).2.2.2
      have gV := lt_of_block HDV
      have glV := HRV.lt
      have FV' := Lib.hid FV
      have SV' := Lib.hid SV
      have MV' := Lib.hid MV
      have HDV' := Lib.hid HDV
      have HRV' := Lib.hid HRV
      clear hV HV MV FV SV HDV HRV L2
      go_upto_region 9 with fail
      go_still_tail 9, (by kernel_rfl)
      go_wp2_with (refine wpList_storeO rfl (.tmp 91) (.tmp 95) (.tmp 96) rfl rfl rfl rfl (w := V.drew) (FV'.out.keep rfl) (by unfold maxLen; omega) wG.out (WalkArith.wf_i64 (n := (i : Int)) ⟨by omega, by omega⟩) ?_; intro V1 FV1 MV1)
      have SV1' := Lib.hid ((SV'.out.keep (w' := V.drew) rfl).keep (MV1.block gs SV'.out.lt (Ne.symm ap.2.2.2.2.2)))
      have FV1' := Lib.hid (FV1.congr (firO_moves hG hm'.out))
      have HDV1' := Lib.hid ((MV1.block g gV ap.2.1).trans HDV'.out)
      have HBV1' := Lib.hid ((MV1.block gl glV ap.2.2.2.1).trans HBV'.out)
      have HRV1' := Lib.hid (HRV'.out.keep (MV1.block gl glV ap.2.2.2.1))
      have MV1' := Lib.hid (MV'.out.drew.trans (MV1.weak fun b hb => .inr (.inl hb)))
      have c0 : V1.cell? ⟨g, 0, none⟩ = some (.slice (some ⟨gl, 0, none⟩) r.g.length r.g.length) := cellsAt HDV1'.out 0
      have c1 : V1.cell? ⟨g, 1, none⟩ = some (.map (some gf)) := cellsAt HDV1'.out 1
      have c2 : V1.cell? ⟨g, 2, none⟩ = some (.map (some gs)) := cellsAt HDV1'.out 2
      have k3 : V1.cell? ⟨gl, i * 4 + 3, none⟩ = some (.int .i64 (gOf r i)) := (HRV1'.out.cells (i := i) hi).2.2.2
      have gV1 := lt_of_block HDV1'.out
      have glV1 := HRV1'.out.lt
      clear FV1 MV1
      go_upto_region 10 with fail
      have L3 := (SV1'.out.keep (w' := V1.drew) rfl).look wG.out
      rw [cntO_getD hG] at L3
      go_still_tail 10, (by kernel_rfl)
      go_wp2_with (refine wpList_storeO rfl (.tmp 100) (.tmp 104) (.tmp 106) rfl rfl rfl rfl (w := V1.drew) (SV1'.out.keep rfl) (by unfold maxLen; omega) wG.out (WalkArith.wf_i64 (n := (cntG r.g r.s (gOf r i) : Int) + 1) ⟨by omega, by omega⟩) ?_; intro Z SZ MZ)
      go_ret
      have ZF : MapO Z gf (N + 1) (firO (tripL r i now)) := (FV1'.out.keep (w' := V1.drew) rfl).keep (MZ.block gf FV1'.out.lt ap.2.2.2.2.2)
      exact ⟨rfl, mk'.out Z _ _ ((MZ.block g gV1 ap.2.2.1).trans (HDV1'.out.trans HD'.out.symm)) ((MZ.block gl glV1 ap.2.2.2.2.1).trans (HBV1'.out)) ZF (SZ.congr (cntO_trip hl hi hs0 now hG)) rfl, MV1'.out.drew.trans (MZ.weak fun b hb => .inr (.inr hb))⟩
    · have hcz : ((cntG r.g r.s (gOf r i) : Int) == 0) = false := by simp; omega
      have hcn : (cntG r.g r.s (gOf r i) == 0) = false := by simpa using hc
      clear hc
      cases hf : r.f (gOf r i) with
      | none =>
        have hm' := Lib.hid (show firstMoves r i now = false by unfold firstMoves; rw [hcn, hf]; rfl)
        have hfo : firO r (gOf r i) = none := by unfold firO; rw [hf]; rfl
        simp only [hfo, Option.getD_none, Option.isSome_none]
        go_upto_region 8 with fail
        go_region
        generalize hV : W.drew.drew = V at *
        have HV : ∀ b : Nat, V.heap[b]? = W.heap[b]? := fun b => by rw [← hV]; rfl
        have MV : Mod (RwS gl gf gs) w V := by rw [← hV]; exact MW'.out.drew.drew
        have FV := FM'.out.keep (HV gf)
        have SV := SM'.out.keep (HV gs)
        have HDV := (HV g).trans HD'.out
        have HBV' := Lib.hid (HV gl)
        have HRV := HR'.out.keep (HV gl)
        have c0 : V.cell? ⟨g, 0, none⟩ = some (.slice (some ⟨gl, 0, none⟩) r.g.length r.g.length) := cellsAt HDV 0
        have c1 : V.cell? ⟨g, 1, none⟩ = some (.map (some gf)) := cellsAt HDV 1
        have c2 : V.cell? ⟨g, 2, none⟩ = some (.map (some gs)) := cellsAt HDV 2
        have k3 : V.cell? ⟨gl, i * 4 + 3, none⟩ = some (.int .i64 (gOf r i)) := (HRV.cells (i := i) hi).2.2.2
        have gV := lt_of_block HDV
        have glV := HRV.lt
        have FV' := Lib.hid FV
        have SV' := Lib.hid SV
        have MV' := Lib.hid MV
        have HDV' := Lib.hid HDV
        have HRV' := Lib.hid HRV
        clear hV HV MV FV SV HDV HRV L2
        have FV' := Lib.hid ((FV'.out.congr (firO_stay (.inr hm'.out))).mono (show N ≤ N + 1 by omega))
        go_upto_region 10 with fail
        have L3 := (SV'.out.keep (w' := V.drew) rfl).look wG.out
        rw [cntO_getD hG] at L3
        go_still_tail 10, (by kernel_rfl)
        go_wp2_with (refine wpList_storeO rfl (.tmp 100) (.tmp 104) (.tmp 106) rfl rfl rfl rfl (w := V.drew) (SV'.out.keep rfl) (by unfold maxLen; omega) wG.out (WalkArith.wf_i64 (n := (cntG r.g r.s (gOf r i) : Int) + 1) ⟨by omega, by omega⟩) ?_; intro Z SZ MZ)
        go_ret
        have ZF : MapO Z gf (N + 1) (firO (tripL r i now)) := (FV'.out.keep (w' := V.drew) rfl).keep (MZ.block gf FV'.out.lt ap.2.2.2.2.2)
        exact ⟨rfl, mk'.out Z _ _ ((MZ.block g gV ap.2.2.1).trans (HDV'.out.trans HD'.out.symm)) ((MZ.block gl glV ap.2.2.2.2.1).trans (HBV'.out)) ZF (SZ.congr (cntO_trip hl hi hs0 now hG)) rfl, MV'.out.drew.trans (MZ.weak fun b hb => .inr (.inr hb))⟩
      | some f =>
        have hfo : firO r (gOf r i) = some (f : Int) := by unfold firO; rw [hf]; rfl
        simp only [hfo, Option.getD_some, Option.isSome_some]
        obtain ⟨-, hfl, -, hfs⟩ := h'.out.ok.fi _ _ hf
        have hfi : f ≠ i := fun e => by rw [e, hs0] at hfs; cases hfs
        have hfg : f < r.g.length := by omega
        have e5 : (f : Int) < (r.g.length : Int) := by omega
        have kf : W.drew.cell? ⟨gl, f * 4 + 1, none⟩ = some (.int .i64 (atOf r f)) := by
          have h1 := (HR'.out.cells (i := f) hfg).2.1
          rw [show atOf (tripL r i now) f = atOf r f from atOf_put r i true now _ hfi] at h1
          exact h1
        by_cases ha : atOf r f = now
        · have hab : (atOf r f == now) = true := by simpa using ha
          by_cases hif : i < f
          · have hib : decide ((i : Int) < (f : Int)) = true := by simp; omega
            have hm' := Lib.hid (show firstMoves r i now = true by unfold firstMoves; rw [hcn, hf]; simp [ha, hif])
            go_upto_region 8 with fail
            go_region
            generalize hV : W.drew.drew = V at *
            have HV : ∀ b : Nat, V.heap[b]? = W.heap[b]? := fun b => by rw [← hV]; rfl
            have MV : Mod (RwS gl gf gs) w V := by rw [← hV]; exact MW'.out.drew.drew
            have FV := FM'.out.keep (HV gf)
            have SV := SM'.out.keep (HV gs)
            have HDV := (HV g).trans HD'.out
            have HBV' := Lib.hid (HV gl)
            have HRV := HR'.out.keep (HV gl)
            have c0 : V.cell? ⟨g, 0, none⟩ = some (.slice (some ⟨gl, 0, none⟩) r.g.length r.g.length) := cellsAt HDV 0
            have c1 : V.cell? ⟨g, 1, none⟩ = some (.map (some gf)) := cellsAt HDV 1
            have c2 : V.cell? ⟨g, 2, none⟩ = some (.map (some gs)) := cellsAt HDV 2
            have k3 : V.cell? ⟨gl, i * 4 + 3, none⟩ = some (.int .i64 (gOf r i)) := (HRV.cells (i := i) hi).2.2.2
            have gV := lt_of_block HDV
            have glV := HRV.lt
            have FV' := Lib.hid FV
            have SV' := Lib.hid SV
            have MV' := Lib.hid MV
            have HDV' := Lib.hid HDV
            have HRV' := Lib.hid HRV
            clear hV HV MV FV SV HDV HRV L2
            go_upto_region 9 with fail
            go_still_tail 9, (by kernel_rfl)
            go_wp2_with (refine wpList_storeO rfl (.tmp 91) (.tmp 95) (.tmp 96) rfl rfl rfl rfl (w := V.drew) (FV'.out.keep rfl) (by unfold maxLen; omega) wG.out (WalkArith.wf_i64 (n := (i : Int)) ⟨by omega, by omega⟩) ?_; intro V1 FV1 MV1)
            have SV1' := Lib.hid ((SV'.out.keep (w' := V.drew) rfl).keep (MV1.block gs SV'.out.lt (Ne.symm ap.2.2.2.2.2)))
            have FV1' := Lib.hid (FV1.congr (firO_moves hG hm'.out))
            have HDV1' := Lib.hid ((MV1.block g gV ap.2.1).trans HDV'.out)
            have HBV1' := Lib.hid ((MV1.block gl glV ap.2.2.2.1).trans HBV'.out)
            have HRV1' := Lib.hid (HRV'.out.keep (MV1.block gl glV ap.2.2.2.1))
            have MV1' := Lib.hid (MV'.out.drew.trans (MV1.weak fun b hb => .inr (.inl hb)))
            have c0 : V1.cell? ⟨g, 0, none⟩ = some (.slice (some ⟨gl, 0, none⟩) r.g.length r.g.length) := cellsAt HDV1'.out 0
            have c1 : V1.cell? ⟨g, 1, none⟩ = some (.map (some gf)) := cellsAt HDV1'.out 1
            have c2 : V1.cell? ⟨g, 2, none⟩ = some (.map (some gs)) := cellsAt HDV1'.out 2
            have k3 : V1.cell? ⟨gl, i * 4 + 3, none⟩ = some (.int .i64 (gOf r i)) := (HRV1'.out.cells (i := i) hi).2.2.2
            have gV1 := lt_of_block HDV1'.out
            have glV1 := HRV1'.out.lt
            clear FV1 MV1
            go_upto_region 10 with fail
            have L3 := (SV1'.out.keep (w' := V1.drew) rfl).look wG.out
            rw [cntO_getD hG] at L3
            go_still_tail 10, (by kernel_rfl)
            go_wp2_with (refine wpList_storeO rfl (.tmp 100) (.tmp 104) (.tmp 106) rfl rfl rfl rfl (w := V1.drew) (SV1'.out.keep rfl) (by unfold maxLen; omega) wG.out (WalkArith.wf_i64 (n := (cntG r.g r.s (gOf r i) : Int) + 1) ⟨by omega, by omega⟩) ?_; intro Z SZ MZ)
            go_ret
            have ZF : MapO Z gf (N + 1) (firO (tripL r i now)) := (FV1'.out.keep (w' := V1.drew) rfl).keep (MZ.block gf FV1'.out.lt ap.2.2.2.2.2)
            exact ⟨rfl, mk'.out Z _ _ ((MZ.block g gV1 ap.2.2.1).trans (HDV1'.out.trans HD'.out.symm)) ((MZ.block gl glV1 ap.2.2.2.2.1).trans (HBV1'.out)) ZF (SZ.congr (cntO_trip hl hi hs0 now hG)) rfl, MV1'.out.drew.trans (MZ.weak fun b hb => .inr (.inr hb))⟩
          · have hib : decide ((i : Int) < (f : Int)) = false := by simp; omega
            have hm' := Lib.hid (show firstMoves r i now = false by unfold firstMoves; rw [hcn, hf]; simp [hif])
            go_upto_region 8 with fail
            go_region
            generalize hV : W.drew.drew = V at *
            have HV : ∀ b : Nat, V.heap[b]? = W.heap[b]? := fun b => by rw [← hV]; rfl
            have MV : Mod (RwS gl gf gs) w V := by rw [← hV]; exact MW'.out.drew.drew
            have FV := FM'.out.keep (HV gf)
            have SV := SM'.out.keep (HV gs)
            have HDV := (HV g).trans HD'.out
            have HBV' := Lib.hid (HV gl)
            have HRV := HR'.out.keep (HV gl)
            have c0 : V.cell? ⟨g, 0, none⟩ = some (.slice (some ⟨gl, 0, none⟩) r.g.length r.g.length) := cellsAt HDV 0
            have c1 : V.cell? ⟨g, 1, none⟩ = some (.map (some gf)) := cellsAt HDV 1
            have c2 : V.cell? ⟨g, 2, none⟩ = some (.map (some gs)) := cellsAt HDV 2
            have k3 : V.cell? ⟨gl, i * 4 + 3, none⟩ = some (.int .i64 (gOf r i)) := (HRV.cells (i := i) hi).2.2.2
            have gV := lt_of_block HDV
            have glV := HRV.lt
            have FV' := Lib.hid FV
            have SV' := Lib.hid SV
            have MV' := Lib.hid MV
            have HDV' := Lib.hid HDV
            have HRV' := Lib.hid HRV
            clear hV HV MV FV SV HDV HRV L2
            have FV' := Lib.hid ((FV'.out.congr (firO_stay (.inr hm'.out))).mono (show N ≤ N + 1 by omega))
            go_upto_region 10 with fail
            have L3 := (SV'.out.keep (w' := V.drew) rfl).look wG.out
            rw [cntO_getD hG] at L3
            go_still_tail 10, (by kernel_rfl)
            go_wp2_with (refine wpList_storeO rfl (.tmp 100) (.tmp 104) (.tmp 106) rfl rfl rfl rfl (w := V.drew) (SV'.out.keep rfl) (by unfold maxLen; omega) wG.out (WalkArith.wf_i64 (n := (cntG r.g r.s (gOf r i) : Int) + 1) ⟨by omega, by omega⟩) ?_; intro Z SZ MZ)
            go_ret
            have ZF : MapO Z gf (N + 1) (firO (tripL r i now)) := (FV'.out.keep (w' := V.drew) rfl).keep (MZ.block gf FV'.out.lt ap.2.2.2.2.2)
            exact ⟨rfl, mk'.out Z _ _ ((MZ.block g gV ap.2.2.1).trans (HDV'.out.trans HD'.out.symm)) ((MZ.block gl glV ap.2.2.2.2.1).trans (HBV'.out)) ZF (SZ.congr (cntO_trip hl hi hs0 now hG)) rfl, MV'.out.drew.trans (MZ.weak fun b hb => .inr (.inr hb))⟩
        · have hab : (atOf r f == now) = false := by simpa using ha
          have hm' := Lib.hid (show firstMoves r i now = false by unfold firstMoves; rw [hcn, hf]; simp [ha])
          go_upto_region 8 with fail
          go_region
          generalize hV : W.drew.drew = V at *
          have HV : ∀ b : Nat, V.heap[b]? = W.heap[b]? := fun b => by rw [← hV]; rfl
          have MV : Mod (RwS gl gf gs) w V := by rw [← hV]; exact MW'.out.drew.drew
          have FV := FM'.out.keep (HV gf)
          have SV := SM'.out.keep (HV gs)
          have HDV := (HV g).trans HD'.out
          have HBV' := Lib.hid (HV gl)
          have HRV := HR'.out.keep (HV gl)
          have c0 : V.cell? ⟨g, 0, none⟩ = some (.slice (some ⟨gl, 0, none⟩) r.g.length r.g.length) := cellsAt HDV 0
          have c1 : V.cell? ⟨g, 1, none⟩ = some (.map (some gf)) := cellsAt HDV 1
          have c2 : V.cell? ⟨g, 2, none⟩ = some (.map (some gs)) := cellsAt HDV 2
          have k3 : V.cell? ⟨gl, i * 4 + 3, none⟩ = some (.int .i64 (gOf r i)) := (HRV.cells (i := i) hi).2.2.2
          have gV := lt_of_block HDV
          have glV := HRV.lt
          have FV' := Lib.hid FV
          have SV' := Lib.hid SV
          have MV' := Lib.hid MV
          have HDV' := Lib.hid HDV
          have HRV' := Lib.hid HRV
          clear hV HV MV FV SV HDV HRV L2
          have FV' := Lib.hid ((FV'.out.congr (firO_stay (.inr hm'.out))).mono (show N ≤ N + 1 by omega))
          go_upto_region 10 with fail
          have L3 := (SV'.out.keep (w' := V.drew) rfl).look wG.out
          rw [cntO_getD hG] at L3
          go_still_tail 10, (by kernel_rfl)
          go_wp2_with (refine wpList_storeO rfl (.tmp 100) (.tmp 104) (.tmp 106) rfl rfl rfl rfl (w := V.drew) (SV'.out.keep rfl) (by unfold maxLen; omega) wG.out (WalkArith.wf_i64 (n := (cntG r.g r.s (gOf r i) : Int) + 1) ⟨by omega, by omega⟩) ?_; intro Z SZ MZ)
          go_ret
          have ZF : MapO Z gf (N + 1) (firO (tripL r i now)) := (FV'.out.keep (w' := V.drew) rfl).keep (MZ.block gf FV'.out.lt ap.2.2.2.2.2)
          exact ⟨rfl, mk'.out Z _ _ ((MZ.block g gV ap.2.2.1).trans (HDV'.out.trans HD'.out.symm)) ((MZ.block gl glV ap.2.2.2.2.1).trans (HBV'.out)) ZF (SZ.congr (cntO_trip hl hi hs0 now hG)) rfl, MV'.out.drew.trans (MZ.weak fun b hb => .inr (.inr hb))⟩
end Go.Proofs.YtgajbgdkgelkgaaGreat
