/- Layer 14, the walks: Reset. (Printed by wip/gen/reset.py.) -/
import Derived.Test.YtgajbgdkgelkgaaGreatLgD
namespace Go.Proofs.YtgajbgdkgelkgaaGreat
open Go.RowKit

theorem cnt_reset {r : Lw} {i : Nat} (hl : r.s.length = r.g.length) (hi : i < r.g.length) (hs : setOf r i = true) (x : Int) : cntG (resetL r i).g (resetL r i).s x + (if gOf r i = x then 1 else 0) = cntG r.g r.s x := by
  have := cntG_put r.g r.s i false 0 x hl hi
  unfold setOf at hs
  rw [hs] at this
  unfold gOf
  simp only [Bool.false_eq_true, and_false, if_false, Nat.add_zero, and_true] at this
  exact this
theorem cntO_reset0 {r : Lw} {i : Nat} (hl : r.s.length = r.g.length) (hi : i < r.g.length) (hs : setOf r i = true) (hG : gOf r i = 0) (x : Int) : cntO r x = cntO (resetL r i) x := by
  unfold cntO
  have := cnt_reset hl hi hs x
  rw [hG] at this
  by_cases hx : x = 0
  · rw [if_pos (.inl hx), if_pos (.inl hx)]
  · rw [show (if (0 : Int) = x then 1 else 0) = 0 from if_neg (fun e => hx e.symm), Nat.add_zero] at this
    rw [this]
theorem cntO_resetG {r : Lw} {i : Nat} (hl : r.s.length = r.g.length) (hi : i < r.g.length) (hs : setOf r i = true) {v : Option Int} (hv : v = cntO (resetL r i) (gOf r i)) (x : Int) : oup (cntO r) (gOf r i) v x = cntO (resetL r i) x := by
  by_cases hx : x = gOf r i
  · subst hx; rw [oup_same]; exact hv
  · rw [oup_other _ _ hx]
    unfold cntO
    have := cnt_reset hl hi hs x
    rw [show (if gOf r i = x then 1 else 0) = 0 from if_neg (fun e => hx e.symm), Nat.add_zero] at this
    rw [this]
theorem cntO_reset2 {r : Lw} {i q : Nat} (hl : r.s.length = r.g.length) (hi : i < r.g.length) (hs : setOf r i = true) (hG : gOf r i ≠ 0) (hq : cntG r.g r.s (gOf r i) = q + 1) (h0 : q ≠ 0) (x : Int) : oup (cntO r) (gOf r i) (some (q : Int)) x = cntO (resetL r i) x := by
  refine cntO_resetG hl hi hs ?_ x
  have := cnt_reset hl hi hs (gOf r i)
  rw [if_pos rfl, hq] at this
  unfold cntO
  rw [show cntG (resetL r i).g (resetL r i).s (gOf r i) = q by omega, if_neg (by rintro (h | h) <;> contradiction)]
theorem cntO_reset1 {r : Lw} {i q : Nat} (hl : r.s.length = r.g.length) (hi : i < r.g.length) (hs : setOf r i = true) (hq : cntG r.g r.s (gOf r i) = q + 1) (h0 : q = 0) (x : Int) : oup (oup (cntO r) (gOf r i) (some (q : Int))) (gOf r i) none x = cntO (resetL r i) x := by
  have h1 : cntO (resetL r i) (gOf r i) = none := by
    have := cnt_reset hl hi hs (gOf r i)
    rw [if_pos rfl, hq] at this
    unfold cntO
    rw [if_pos (.inr (by omega))]
  by_cases hx : x = gOf r i
  · subst hx; rw [oup_same, h1]
  · have h2 := cntO_resetG hl hi hs h1.symm x
    rw [oup_other _ _ hx] at h2 ⊢
    rw [oup_other _ _ hx]; exact h2
theorem firO_kept {r : Lw} {i : Nat} (h : gOf r i = 0 ∨ r.f (gOf r i) ≠ some i) (x : Int) : firO r x = firO (resetL r i) x := by
  unfold firO resetL
  dsimp only
  rcases h with h | h
  · rw [if_pos h]
  · by_cases hg0 : gOf r i = 0
    · rw [if_pos hg0]
    · rw [if_neg hg0, if_neg h]
theorem firO_gone {r : Lw} {i : Nat} (hG : gOf r i ≠ 0) (h : r.f (gOf r i) = some i) (x : Int) : oup (firO r) (gOf r i) none x = firO (resetL r i) x := by
  unfold resetL
  rw [if_neg hG, if_pos h]
  unfold firO fup oup
  dsimp only
  split <;> rfl
def ResetPost (g gl gf gs N : Nat) (r : Lw) (i : Nat) (w : World) (e : Ending) (w' : World) : Prop :=
  e = .returned (.bool (setOf r i)) ∧ Rw w' g gl gf gs (N + 1) (if setOf r i = true then resetL r i else r) ∧ Mod (RwS gl gf gs) w w'
set_option maxRecDepth 100000 in
set_option maxHeartbeats 6400000 in
theorem latchReset_any (g gl gf gs N : Nat) (r : Lw) (w : World) (h : Rw w g gl gf gs N r) (i : Nat) (hi : i < r.g.length) (hN : N ≤ 4611686018427) :
    Calls Tryz.prog 41 #[.pointer (some ⟨g, 0, none⟩), .int .i64 i] w (ResetPost g gl gf gs N r i w) := by
  have hg := lt_of_block h.head
  have hgl := h.row.lt
  have c0 : w.cell? ⟨g, 0, none⟩ = some (.slice (some ⟨gl, 0, none⟩) r.g.length r.g.length) := cellsAt h.head 0
  obtain ⟨k0, k1, k2, k3⟩ := h.row.cells hi
  have z0 := h.row.frozen (i * 4)
  have z1 := h.row.frozen (i * 4 + 1)
  have e3 : (i : Int) < (r.g.length : Int) := by omega
  have hfit := h.fit
  have h' := Lib.hid h
  clear h
  unfold ResetPost
  by_cases hs : setOf r i = true
  · rw [if_pos hs, hs]
    rw [hs] at k0
    go_enter Tryz.func41, Tryz.ntmps41
    go_upto_region 5 with (go_at_call 77; refine (latchHas_any _ _ _ _ _ _ _ h'.out i hi).mono ?_; rintro e w' ⟨rfl, rfl⟩)
    have hs0 : setOf r i = true := hs
    have hl := h'.out.ok.len
    have ap := h'.out.ap
    have HR : RowL ((w.setCell ⟨gl, i * 4, none⟩ (.bool false)).setCell ⟨gl, i * 4 + 1, none⟩ (.int .i64 0)) gl (resetL r i) := h'.out.row.put hi hl false 0 (resetL r i).f
    have MW : Mod (fun b => b = gl) w ((w.setCell ⟨gl, i * 4, none⟩ (.bool false)).setCell ⟨gl, i * 4 + 1, none⟩ (.int .i64 0)) := ((Mod.refl (fun b => b = gl) w).setCell (p := ⟨gl, i * 4, none⟩) (.inl rfl) _).setCell (p := ⟨gl, i * 4 + 1, none⟩) (.inl rfl) _
    generalize (w.setCell ⟨gl, i * 4, none⟩ (.bool false)).setCell ⟨gl, i * 4 + 1, none⟩ (.int .i64 0) = W at *
    have HD := (MW.block g hg ap.1).trans h'.out.head
    have gW := lt_of_block HD
    have glW := HR.lt
    have FM := h'.out.fm.keep (MW.block gf h'.out.fm.lt (Ne.symm ap.2.2.2.1))
    have SM := h'.out.sm.keep (MW.block gs h'.out.sm.lt (Ne.symm ap.2.2.2.2.1))
    have MW3 : Mod (RwS gl gf gs) w W := MW.weak fun b hb => .inl hb
    have MW' := Lib.hid MW3
    have HR' := Lib.hid HR
    have HD' := Lib.hid HD
    have FM' := Lib.hid FM
    have SM' := Lib.hid SM
    have mk : ∀ W2 F N', W2.heap[g]? = W.heap[g]? → W2.heap[gl]? = W.heap[gl]? → MapO W2 gf N' (firO F) → MapO W2 gs N' (cntO F) → F = resetL r i → Rw W2 g gl gf gs N' (resetL r i) := fun W2 F N' q1 q2 q3 q4 q5 => by
      subst q5
      exact ⟨q1.trans HD'.out, HR'.out.keep q2, q3, q4, h'.out.ok.reset i, h'.out.grp, ap, hfit⟩
    have mk' := Lib.hid mk
    have c0 : W.cell? ⟨g, 0, none⟩ = some (.slice (some ⟨gl, 0, none⟩) r.g.length r.g.length) := cellsAt HD 0
    have c1 : W.cell? ⟨g, 1, none⟩ = some (.map (some gf)) := cellsAt HD 1
    have c2 : W.cell? ⟨g, 2, none⟩ = some (.map (some gs)) := cellsAt HD 2
    have k3 : W.cell? ⟨gl, i * 4 + 3, none⟩ = some (.int .i64 (gOf r i)) := (HR.cells (i := i) hi).2.2.2
    clear HR MW HD FM SM MW3 k0 k1 k2 z0 z1 mk hs
    by_cases hG : gOf r i = 0
    · rw [hG] at k3
      go_wp2_with fail
      go_ret
      exact ⟨rfl, mk'.out W _ _ rfl rfl ((FM'.out.congr (fun x => firO_kept (.inl hG) x)).mono (by omega)) ((SM'.out.congr (fun x => cntO_reset0 hl hi hs0 hG x)).mono (by omega)) rfl, MW'.out⟩
    have hGr := h'.out.grp i
    have wG := Lib.hid (WalkArith.wf_i64 (n := gOf r i) ⟨by omega, by omega⟩)
    have hGb : (gOf r i == 0) = false := by simpa using hG
    obtain ⟨q, hcq0⟩ : ∃ q, cntG r.g r.s (gOf r i) = q + 1 := ⟨_, by have := cnt_reset hl hi hs0 (gOf r i); rw [if_pos rfl] at this; exact this.symm⟩
    have hcq : (cntG r.g r.s (gOf r i) : Int) = (q : Int) + 1 := by omega
    have hqb9 : (q : Int) ≤ 1000 := by have := cntG_le r.g r.s (gOf r i); omega
    have hw1 : IntKind.i64.wrap ((q : Int) + 1 - 1) = (q : Int) := by rw [Int.add_sub_cancel]; exact Go.IntWalk.i64_in _ ⟨by omega, by omega⟩
    have hw2 : IntKind.i64.wrap (q : Int) = (q : Int) := Go.IntWalk.i64_in _ ⟨by omega, by omega⟩
    have hcq := Lib.hid hcq
    have hcq0' := Lib.hid hcq0
    clear hcq0
    go_upto_region 7 with fail
    have L1 := (FM'.out.keep (w' := W.drew) rfl).look_ok wG.out
    go_region
    clear L1
    cases hf : r.f (gOf r i) with
    | none =>
      have hfo : firO r (gOf r i) = none := by unfold firO; rw [hf]; rfl
      simp only [hfo, Option.getD_none, Option.isSome_none]
      generalize hV : W.drew = V at *
      have HV : ∀ b : Nat, V.heap[b]? = W.heap[b]? := fun b => by rw [← hV]; rfl
      have MV : Mod (RwS gl gf gs) w V := by rw [← hV]; exact MW'.out.drew
      have FV := FM'.out.keep (HV gf)
      have SV := SM'.out.keep (HV gs)
      have HDV := (HV g).trans HD'.out
      have HBV' := Lib.hid (HV gl)
      have HRV := HR'.out.keep (HV gl)
      have c0 : V.cell? ⟨g, 0, none⟩ = some (.slice (some ⟨gl, 0, none⟩) r.g.length r.g.length) := cellsAt HDV 0
      have c1 : V.cell? ⟨g, 1, none⟩ = some (.map (some gf)) := cellsAt HDV 1
      have c2 : V.cell? ⟨g, 2, none⟩ = some (.map (some gs)) := cellsAt HDV 2
      have k3 : V.cell? ⟨gl, i * 4 + 3, none⟩ = some (.int .i64 (gOf r i)) := (HRV.cells (i := i) hi).2.2.2
      have gV := lt_of_block HDV
      have glV := HRV.lt
      have FV' := Lib.hid FV
      have SV' := Lib.hid SV
      have MV' := Lib.hid MV
      have HDV' := Lib.hid HDV
      have HRV' := Lib.hid HRV
      clear hV HV MV FV SV HDV HRV
      have FV' := Lib.hid ((FV'.out.congr (firO_kept (.inr (by rw [hf]; simp)))).mono (show N ≤ N + 1 by omega))
      go_upto_region 10 with fail
      have L3 := (SV'.out.keep (w' := V.drew) rfl).look wG.out
      rw [cntO_getD hG, hcq.out] at L3
      go_still_tail 10, (by kernel_rfl)
      go_wp2_with (refine wpList_storeO rfl (.tmp 72) (.tmp 76) (.tmp 78) rfl rfl rfl rfl (w := V.drew) (SV'.out.keep rfl) (by unfold maxLen; omega) wG.out (WalkArith.wf_i64 (n := (q : Int)) ⟨by omega, by omega⟩) ?_; intro Z SZ MZ)
      have FZ' := Lib.hid ((FV'.out.keep (w' := V.drew) rfl).keep (MZ.block gf FV'.out.lt ap.2.2.2.2.2))
      have HDZ' := Lib.hid ((MZ.block g gV ap.2.2.1).trans HDV'.out)
      have HBZ' := Lib.hid ((MZ.block gl glV ap.2.2.2.2.1).trans HBV'.out)
      have HRZ' := Lib.hid (HRV'.out.keep (MZ.block gl glV ap.2.2.2.2.1))
      have MZ' := Lib.hid (MV'.out.drew.trans (MZ.weak fun b hb => .inr (.inr hb)))
      have c0 : Z.cell? ⟨g, 0, none⟩ = some (.slice (some ⟨gl, 0, none⟩) r.g.length r.g.length) := cellsAt HDZ'.out 0
      have c1 : Z.cell? ⟨g, 1, none⟩ = some (.map (some gf)) := cellsAt HDZ'.out 1
      have c2 : Z.cell? ⟨g, 2, none⟩ = some (.map (some gs)) := cellsAt HDZ'.out 2
      have k3 : Z.cell? ⟨gl, i * 4 + 3, none⟩ = some (.int .i64 (gOf r i)) := (HRZ'.out.cells (i := i) hi).2.2.2
      have gZ := lt_of_block HDZ'.out
      have glZ := HRZ'.out.lt
      have SZ' := Lib.hid SZ
      clear SZ MZ L3
      have L4 := (SZ'.out.keep (w' := Z.drew) rfl).look wG.out
      rw [oup_same, Option.getD_some] at L4
      have L4 := fun w' (e : w' = Z.drew) => (show (Instr.lookup 135 (.map (some gs)) (.int .i64 (gOf r i)) false).run Tryz.prog w' = .ok (.int .i64 (q : Int)) w' by subst e; exact L4)
      have x2 := fun w' (e : w' = Z.drew) => (show w'.cell? ⟨g, 2, none⟩ = some (.map (some gs)) by subst e; exact c2)
      have x3 := fun w' (e : w' = Z.drew) => (show w'.cell? ⟨gl, i * 4 + 3, none⟩ = some (.int .i64 (gOf r i)) by subst e; exact k3)
      by_cases hq : q = 0
      · have hqb : ((q : Int) == 0) = true := by simp; omega
        go_upto_region 11 with fail
        refine wp_region_held_drew (S := fun w' => w' = Z.drew) (by kernel_rfl) rfl (fun hHeld => ?_)
        refine wpAnyH_take (i := 0) (oi := _) (v := ?_) rfl (by kernel_rfl) (by kernel_rfl) (by kernel_rfl) (fun _ _ _ h => h) (Or.inl ⟨by rfl, ?_⟩) (by assumption) ?_
        rotate_left
        · intro w hSw
          (try dsimp only at hSw)
          go_simp
          try (with_reducible rfl)
        try simp only [Act.put, List.getElem_toArray, List.getElem_cons_zero, List.setIfInBounds_toArray, List.set_cons_zero, List.set_cons_succ]
        refine wpAnyH_take (i := 1) (oi := _) (v := ?_) rfl (by kernel_rfl) (by kernel_rfl) (by kernel_rfl) (fun _ _ _ h => h) (Or.inl ⟨by rfl, ?_⟩) (by assumption) ?_
        rotate_left
        · intro w hSw
          (try dsimp only at hSw)
          go_simp
          try (with_reducible rfl)
        try simp only [Act.put, List.getElem_toArray, List.getElem_cons_succ, List.getElem_cons_zero, List.setIfInBounds_toArray, List.set_cons_zero, List.set_cons_succ]
        refine wpAnyH_take (i := 2) (oi := _) (v := ?_) rfl (by kernel_rfl) (by kernel_rfl) (by kernel_rfl) (fun _ _ _ h => h) (Or.inl ⟨by rfl, ?_⟩) (by assumption) ?_
        rotate_left
        · intro w hSw
          (try dsimp only at hSw)
          go_simp
          try (with_reducible rfl)
        try simp only [Act.put, List.getElem_toArray, List.getElem_cons_succ, List.getElem_cons_zero, List.setIfInBounds_toArray, List.set_cons_zero, List.set_cons_succ]
        refine wpAnyH_take (i := 3) (oi := _) (v := ?_) rfl (by kernel_rfl) (by kernel_rfl) (by kernel_rfl) (fun _ _ _ h => h) (Or.inl ⟨by rfl, ?_⟩) (by assumption) ?_
        rotate_left
        · intro w hSw
          (try dsimp only at hSw)
          go_simp
          try (with_reducible rfl)
        try simp only [Act.put, List.getElem_toArray, List.getElem_cons_succ, List.getElem_cons_zero, List.setIfInBounds_toArray, List.set_cons_zero, List.set_cons_succ]
        refine wpAnyH_take (i := 4) (oi := _) (v := ?_) rfl (by kernel_rfl) (by kernel_rfl) (by kernel_rfl) (fun _ _ _ h => h) (Or.inl ⟨by rfl, ?_⟩) (by assumption) ?_
        rotate_left
        · intro w hSw
          (try dsimp only at hSw)
          go_simp
          try (with_reducible rfl)
        try simp only [Act.put, List.getElem_toArray, List.getElem_cons_succ, List.getElem_cons_zero, List.setIfInBounds_toArray, List.set_cons_zero, List.set_cons_succ]
        refine wpAnyH_take (i := 5) (oi := _) (v := ?_) rfl (by kernel_rfl) (by kernel_rfl) (by kernel_rfl) (fun _ _ _ h => h) (Or.inl ⟨by rfl, ?_⟩) (by assumption) ?_
        rotate_left
        · intro w hSw
          (try dsimp only at hSw)
          go_simp
          try (with_reducible rfl)
        try simp only [Act.put, List.getElem_toArray, List.getElem_cons_succ, List.getElem_cons_zero, List.setIfInBounds_toArray, List.set_cons_zero, List.set_cons_succ]
        refine wpAnyH_take (i := 6) (oi := _) (v := ?_) rfl (by kernel_rfl) (by kernel_rfl) (by kernel_rfl) (fun _ _ _ h => h) (Or.inl ⟨by rfl, ?_⟩) (by assumption) ?_
        rotate_left
        · intro w hSw
          (try dsimp only at hSw)
          go_simp
          try (with_reducible rfl)
        try simp only [Act.put, List.getElem_toArray, List.getElem_cons_succ, List.getElem_cons_zero, List.setIfInBounds_toArray, List.set_cons_zero, List.set_cons_succ]
        refine wpAnyH_take (i := 7) (oi := _) (v := ?_) rfl (by kernel_rfl) (by kernel_rfl) (by kernel_rfl) (fun _ _ _ h => h) (Or.inl ⟨by rfl, ?_⟩) (by assumption) ?_
        rotate_left
        · intro w hSw
          (try dsimp only at hSw)
          go_simp
          try (with_reducible rfl)
        try simp only [Act.put, List.getElem_toArray, List.getElem_cons_succ, List.getElem_cons_zero, List.setIfInBounds_toArray, List.set_cons_zero, List.set_cons_succ]
        refine wpAnyH_take (i := 8) (oi := _) (v := ?_) rfl (by kernel_rfl) (by kernel_rfl) (by kernel_rfl) (fun _ _ _ h => h) (Or.inl ⟨by rfl, ?_⟩) (by assumption) ?_
        rotate_left
        · intro w hSw
          (try dsimp only at hSw)
          go_simp
          try (with_reducible rfl)
        try simp only [Act.put, List.getElem_toArray, List.getElem_cons_succ, List.getElem_cons_zero, List.setIfInBounds_toArray, List.set_cons_zero, List.set_cons_succ]
        refine wpAnyH_take (i := 9) (oi := _) (v := ?_) rfl (by kernel_rfl) (by kernel_rfl) (by kernel_rfl) (fun _ _ _ h => h) (Or.inl ⟨by rfl, ?_⟩) (by assumption) ?_
        rotate_left
        · intro w hSw
          (try dsimp only at hSw)
          go_simp
          try (with_reducible rfl)
        try simp only [Act.put, List.getElem_toArray, List.getElem_cons_succ, List.getElem_cons_zero, List.setIfInBounds_toArray, List.set_cons_zero, List.set_cons_succ]
        refine wpAnyH_done (by kernel_rfl) ?_ _
        clear L4 x2 x3 hHeld
        generalize hY : Z.drew = Y at *
        have HY : ∀ b : Nat, Y.heap[b]? = Z.heap[b]? := fun b => by rw [← hY]; rfl
        have MY' : Hid (Mod (RwS gl gf gs) w Y) := Lib.hid (by rw [← hY]; exact MZ'.out.drew)
        have FY' := Lib.hid (FZ'.out.keep (HY gf))
        have SY' := Lib.hid (SZ'.out.keep (HY gs))
        have HDY' := Lib.hid ((HY g).trans HDZ'.out)
        have HBY' := Lib.hid ((HY gl).trans HBZ'.out)
        have HRY' := Lib.hid (HRZ'.out.keep (HY gl))
        have c0 : Y.cell? ⟨g, 0, none⟩ = some (.slice (some ⟨gl, 0, none⟩) r.g.length r.g.length) := cellsAt HDY'.out 0
        have c1 : Y.cell? ⟨g, 1, none⟩ = some (.map (some gf)) := cellsAt HDY'.out 1
        have c2 : Y.cell? ⟨g, 2, none⟩ = some (.map (some gs)) := cellsAt HDY'.out 2
        have k3 : Y.cell? ⟨gl, i * 4 + 3, none⟩ = some (.int .i64 (gOf r i)) := (HRY'.out.cells (i := i) hi).2.2.2
        have gY := lt_of_block HDY'.out
        have glY := HRY'.out.lt
        clear hY HY
        go_upto_region 12 with fail
        go_still_tail 8, (by kernel_rfl)
        go_wp2_with (refine wpList_dropO rfl (.tmp 92) (.tmp 96) rfl rfl rfl (w := Y.drew) (SY'.out.keep rfl) wG.out ?_; intro X SX MX)
        go_ret
        have FX := (FY'.out.keep (w' := Y.drew) rfl).keep (MX.block gf FY'.out.lt ap.2.2.2.2.2)
        exact ⟨rfl, mk'.out X _ _ ((MX.block g gY ap.2.2.1).trans (HDY'.out.trans HD'.out.symm)) ((MX.block gl glY ap.2.2.2.2.1).trans (HBY'.out)) FX (SX.congr (cntO_reset1 hl hi hs0 hcq0'.out hq)) rfl, MY'.out.drew.trans (MX.weak fun b hb => .inr (.inr hb))⟩
      · have hqb : ((q : Int) == 0) = false := by simp; omega
        go_upto_region 11 with fail
        refine wp_region_held_drew (S := fun w' => w' = Z.drew) (by kernel_rfl) rfl (fun hHeld => ?_)
        refine wpAnyH_take (i := 0) (oi := _) (v := ?_) rfl (by kernel_rfl) (by kernel_rfl) (by kernel_rfl) (fun _ _ _ h => h) (Or.inl ⟨by rfl, ?_⟩) (by assumption) ?_
        rotate_left
        · intro w hSw
          (try dsimp only at hSw)
          go_simp
          try (with_reducible rfl)
        try simp only [Act.put, List.getElem_toArray, List.getElem_cons_zero, List.setIfInBounds_toArray, List.set_cons_zero, List.set_cons_succ]
        refine wpAnyH_take (i := 1) (oi := _) (v := ?_) rfl (by kernel_rfl) (by kernel_rfl) (by kernel_rfl) (fun _ _ _ h => h) (Or.inl ⟨by rfl, ?_⟩) (by assumption) ?_
        rotate_left
        · intro w hSw
          (try dsimp only at hSw)
          go_simp
          try (with_reducible rfl)
        try simp only [Act.put, List.getElem_toArray, List.getElem_cons_succ, List.getElem_cons_zero, List.setIfInBounds_toArray, List.set_cons_zero, List.set_cons_succ]
        refine wpAnyH_take (i := 2) (oi := _) (v := ?_) rfl (by kernel_rfl) (by kernel_rfl) (by kernel_rfl) (fun _ _ _ h => h) (Or.inl ⟨by rfl, ?_⟩) (by assumption) ?_
        rotate_left
        · intro w hSw
          (try dsimp only at hSw)
          go_simp
          try (with_reducible rfl)
        try simp only [Act.put, List.getElem_toArray, List.getElem_cons_succ, List.getElem_cons_zero, List.setIfInBounds_toArray, List.set_cons_zero, List.set_cons_succ]
        refine wpAnyH_take (i := 3) (oi := _) (v := ?_) rfl (by kernel_rfl) (by kernel_rfl) (by kernel_rfl) (fun _ _ _ h => h) (Or.inl ⟨by rfl, ?_⟩) (by assumption) ?_
        rotate_left
        · intro w hSw
          (try dsimp only at hSw)
          go_simp
          try (with_reducible rfl)
        try simp only [Act.put, List.getElem_toArray, List.getElem_cons_succ, List.getElem_cons_zero, List.setIfInBounds_toArray, List.set_cons_zero, List.set_cons_succ]
        refine wpAnyH_take (i := 4) (oi := _) (v := ?_) rfl (by kernel_rfl) (by kernel_rfl) (by kernel_rfl) (fun _ _ _ h => h) (Or.inl ⟨by rfl, ?_⟩) (by assumption) ?_
        rotate_left
        · intro w hSw
          (try dsimp only at hSw)
          go_simp
          try (with_reducible rfl)
        try simp only [Act.put, List.getElem_toArray, List.getElem_cons_succ, List.getElem_cons_zero, List.setIfInBounds_toArray, List.set_cons_zero, List.set_cons_succ]
        refine wpAnyH_take (i := 5) (oi := _) (v := ?_) rfl (by kernel_rfl) (by kernel_rfl) (by kernel_rfl) (fun _ _ _ h => h) (Or.inl ⟨by rfl, ?_⟩) (by assumption) ?_
        rotate_left
        · intro w hSw
          (try dsimp only at hSw)
          go_simp
          try (with_reducible rfl)
        try simp only [Act.put, List.getElem_toArray, List.getElem_cons_succ, List.getElem_cons_zero, List.setIfInBounds_toArray, List.set_cons_zero, List.set_cons_succ]
        refine wpAnyH_take (i := 6) (oi := _) (v := ?_) rfl (by kernel_rfl) (by kernel_rfl) (by kernel_rfl) (fun _ _ _ h => h) (Or.inl ⟨by rfl, ?_⟩) (by assumption) ?_
        rotate_left
        · intro w hSw
          (try dsimp only at hSw)
          go_simp
          try (with_reducible rfl)
        try simp only [Act.put, List.getElem_toArray, List.getElem_cons_succ, List.getElem_cons_zero, List.setIfInBounds_toArray, List.set_cons_zero, List.set_cons_succ]
        refine wpAnyH_take (i := 7) (oi := _) (v := ?_) rfl (by kernel_rfl) (by kernel_rfl) (by kernel_rfl) (fun _ _ _ h => h) (Or.inl ⟨by rfl, ?_⟩) (by assumption) ?_
        rotate_left
        · intro w hSw
          (try dsimp only at hSw)
          go_simp
          try (with_reducible rfl)
        try simp only [Act.put, List.getElem_toArray, List.getElem_cons_succ, List.getElem_cons_zero, List.setIfInBounds_toArray, List.set_cons_zero, List.set_cons_succ]
        refine wpAnyH_take (i := 8) (oi := _) (v := ?_) rfl (by kernel_rfl) (by kernel_rfl) (by kernel_rfl) (fun _ _ _ h => h) (Or.inl ⟨by rfl, ?_⟩) (by assumption) ?_
        rotate_left
        · intro w hSw
          (try dsimp only at hSw)
          go_simp
          try (with_reducible rfl)
        try simp only [Act.put, List.getElem_toArray, List.getElem_cons_succ, List.getElem_cons_zero, List.setIfInBounds_toArray, List.set_cons_zero, List.set_cons_succ]
        refine wpAnyH_take (i := 9) (oi := _) (v := ?_) rfl (by kernel_rfl) (by kernel_rfl) (by kernel_rfl) (fun _ _ _ h => h) (Or.inl ⟨by rfl, ?_⟩) (by assumption) ?_
        rotate_left
        · intro w hSw
          (try dsimp only at hSw)
          go_simp
          try (with_reducible rfl)
        try simp only [Act.put, List.getElem_toArray, List.getElem_cons_succ, List.getElem_cons_zero, List.setIfInBounds_toArray, List.set_cons_zero, List.set_cons_succ]
        refine wpAnyH_done (by kernel_rfl) ?_ _
        clear L4 x2 x3 hHeld
        go_wp2_with fail
        go_ret
        exact ⟨rfl, mk'.out Z.drew _ _ (HDZ'.out.trans HD'.out.symm) HBZ'.out (FZ'.out.keep rfl) ((SZ'.out.keep (w' := Z.drew) rfl).congr (cntO_reset2 hl hi hs0 hG hcq0'.out hq)) rfl, MZ'.out.drew⟩
    | some f =>
      have hfo : firO r (gOf r i) = some (f : Int) := by unfold firO; rw [hf]; rfl
      simp only [hfo, Option.getD_some, Option.isSome_some]
      by_cases hfi : f = i
      · subst hfi
        have hib : ((f : Int) == (f : Int)) = true := by simp
        generalize hV : W.drew = V at *
        have HV : ∀ b : Nat, V.heap[b]? = W.heap[b]? := fun b => by rw [← hV]; rfl
        have MV : Mod (RwS gl gf gs) w V := by rw [← hV]; exact MW'.out.drew
        have FV := FM'.out.keep (HV gf)
        have SV := SM'.out.keep (HV gs)
        have HDV := (HV g).trans HD'.out
        have HBV' := Lib.hid (HV gl)
        have HRV := HR'.out.keep (HV gl)
        have c0 : V.cell? ⟨g, 0, none⟩ = some (.slice (some ⟨gl, 0, none⟩) r.g.length r.g.length) := cellsAt HDV 0
        have c1 : V.cell? ⟨g, 1, none⟩ = some (.map (some gf)) := cellsAt HDV 1
        have c2 : V.cell? ⟨g, 2, none⟩ = some (.map (some gs)) := cellsAt HDV 2
        have k3 : V.cell? ⟨gl, f * 4 + 3, none⟩ = some (.int .i64 (gOf r f)) := (HRV.cells (i := f) hi).2.2.2
        have gV := lt_of_block HDV
        have glV := HRV.lt
        have FV' := Lib.hid FV
        have SV' := Lib.hid SV
        have MV' := Lib.hid MV
        have HDV' := Lib.hid HDV
        have HRV' := Lib.hid HRV
        clear hV HV MV FV SV HDV HRV
        go_upto_region 9 with fail
        go_still_tail 8, (by kernel_rfl)
        go_wp2_with (refine wpList_dropO rfl (.tmp 64) (.tmp 68) rfl rfl rfl (w := V.drew) (FV'.out.keep rfl) wG.out ?_; intro V1 FV1 MV1)
        have SV1' := Lib.hid ((SV'.out.keep (w' := V.drew) rfl).keep (MV1.block gs SV'.out.lt (Ne.symm ap.2.2.2.2.2)))
        have FV1' := Lib.hid ((FV1.congr (firO_gone hG hf)).mono (show N ≤ N + 1 by omega))
        have HDV1' := Lib.hid ((MV1.block g gV ap.2.1).trans HDV'.out)
        have HBV1' := Lib.hid ((MV1.block gl glV ap.2.2.2.1).trans HBV'.out)
        have HRV1' := Lib.hid (HRV'.out.keep (MV1.block gl glV ap.2.2.2.1))
        have MV1' := Lib.hid (MV'.out.drew.trans (MV1.weak fun b hb => .inr (.inl hb)))
        have c0 : V1.cell? ⟨g, 0, none⟩ = some (.slice (some ⟨gl, 0, none⟩) r.g.length r.g.length) := cellsAt HDV1'.out 0
        have c1 : V1.cell? ⟨g, 1, none⟩ = some (.map (some gf)) := cellsAt HDV1'.out 1
        have c2 : V1.cell? ⟨g, 2, none⟩ = some (.map (some gs)) := cellsAt HDV1'.out 2
        have k3 : V1.cell? ⟨gl, f * 4 + 3, none⟩ = some (.int .i64 (gOf r f)) := (HRV1'.out.cells (i := f) hi).2.2.2
        have gV1 := lt_of_block HDV1'.out
        have glV1 := HRV1'.out.lt
        clear FV1 MV1
        go_upto_region 10 with fail
        have L3 := (SV1'.out.keep (w' := V1.drew) rfl).look wG.out
        rw [cntO_getD hG, hcq.out] at L3
        go_still_tail 10, (by kernel_rfl)
        go_wp2_with (refine wpList_storeO rfl (.tmp 72) (.tmp 76) (.tmp 78) rfl rfl rfl rfl (w := V1.drew) (SV1'.out.keep rfl) (by unfold maxLen; omega) wG.out (WalkArith.wf_i64 (n := (q : Int)) ⟨by omega, by omega⟩) ?_; intro Z SZ MZ)
        have FZ' := Lib.hid ((FV1'.out.keep (w' := V1.drew) rfl).keep (MZ.block gf FV1'.out.lt ap.2.2.2.2.2))
        have HDZ' := Lib.hid ((MZ.block g gV1 ap.2.2.1).trans HDV1'.out)
        have HBZ' := Lib.hid ((MZ.block gl glV1 ap.2.2.2.2.1).trans HBV1'.out)
        have HRZ' := Lib.hid (HRV1'.out.keep (MZ.block gl glV1 ap.2.2.2.2.1))
        have MZ' := Lib.hid (MV1'.out.drew.trans (MZ.weak fun b hb => .inr (.inr hb)))
        have c0 : Z.cell? ⟨g, 0, none⟩ = some (.slice (some ⟨gl, 0, none⟩) r.g.length r.g.length) := cellsAt HDZ'.out 0
        have c1 : Z.cell? ⟨g, 1, none⟩ = some (.map (some gf)) := cellsAt HDZ'.out 1
        have c2 : Z.cell? ⟨g, 2, none⟩ = some (.map (some gs)) := cellsAt HDZ'.out 2
        have k3 : Z.cell? ⟨gl, f * 4 + 3, none⟩ = some (.int .i64 (gOf r f)) := (HRZ'.out.cells (i := f) hi).2.2.2
        have gZ := lt_of_block HDZ'.out
        have glZ := HRZ'.out.lt
        have SZ' := Lib.hid SZ
        clear SZ MZ L3
        have L4 := (SZ'.out.keep (w' := Z.drew) rfl).look wG.out
        rw [oup_same, Option.getD_some] at L4
        have L4 := fun w' (e : w' = Z.drew) => (show (Instr.lookup 135 (.map (some gs)) (.int .i64 (gOf r f)) false).run Tryz.prog w' = .ok (.int .i64 (q : Int)) w' by subst e; exact L4)
        have x2 := fun w' (e : w' = Z.drew) => (show w'.cell? ⟨g, 2, none⟩ = some (.map (some gs)) by subst e; exact c2)
        have x3 := fun w' (e : w' = Z.drew) => (show w'.cell? ⟨gl, f * 4 + 3, none⟩ = some (.int .i64 (gOf r f)) by subst e; exact k3)
        by_cases hq : q = 0
        · have hqb : ((q : Int) == 0) = true := by simp; omega
          go_upto_region 11 with fail
          refine wp_region_held_drew (S := fun w' => w' = Z.drew) (by kernel_rfl) rfl (fun hHeld => ?_)
          refine wpAnyH_take (i := 0) (oi := _) (v := ?_) rfl (by kernel_rfl) (by kernel_rfl) (by kernel_rfl) (fun _ _ _ h => h) (Or.inl ⟨by rfl, ?_⟩) (by assumption) ?_
          rotate_left
          · intro w hSw
            (try dsimp only at hSw)
            go_simp
            try (with_reducible rfl)
          try simp only [Act.put, List.getElem_toArray, List.getElem_cons_zero, List.setIfInBounds_toArray, List.set_cons_zero, List.set_cons_succ]
          refine wpAnyH_take (i := 1) (oi := _) (v := ?_) rfl (by kernel_rfl) (by kernel_rfl) (by kernel_rfl) (fun _ _ _ h => h) (Or.inl ⟨by rfl, ?_⟩) (by assumption) ?_
          rotate_left
          · intro w hSw
            (try dsimp only at hSw)
            go_simp
            try (with_reducible rfl)
          try simp only [Act.put, List.getElem_toArray, List.getElem_cons_succ, List.getElem_cons_zero, List.setIfInBounds_toArray, List.set_cons_zero, List.set_cons_succ]
          refine wpAnyH_take (i := 2) (oi := _) (v := ?_) rfl (by kernel_rfl) (by kernel_rfl) (by kernel_rfl) (fun _ _ _ h => h) (Or.inl ⟨by rfl, ?_⟩) (by assumption) ?_
          rotate_left
          · intro w hSw
            (try dsimp only at hSw)
            go_simp
            try (with_reducible rfl)
          try simp only [Act.put, List.getElem_toArray, List.getElem_cons_succ, List.getElem_cons_zero, List.setIfInBounds_toArray, List.set_cons_zero, List.set_cons_succ]
          refine wpAnyH_take (i := 3) (oi := _) (v := ?_) rfl (by kernel_rfl) (by kernel_rfl) (by kernel_rfl) (fun _ _ _ h => h) (Or.inl ⟨by rfl, ?_⟩) (by assumption) ?_
          rotate_left
          · intro w hSw
            (try dsimp only at hSw)
            go_simp
            try (with_reducible rfl)
          try simp only [Act.put, List.getElem_toArray, List.getElem_cons_succ, List.getElem_cons_zero, List.setIfInBounds_toArray, List.set_cons_zero, List.set_cons_succ]
          refine wpAnyH_take (i := 4) (oi := _) (v := ?_) rfl (by kernel_rfl) (by kernel_rfl) (by kernel_rfl) (fun _ _ _ h => h) (Or.inl ⟨by rfl, ?_⟩) (by assumption) ?_
          rotate_left
          · intro w hSw
            (try dsimp only at hSw)
            go_simp
            try (with_reducible rfl)
          try simp only [Act.put, List.getElem_toArray, List.getElem_cons_succ, List.getElem_cons_zero, List.setIfInBounds_toArray, List.set_cons_zero, List.set_cons_succ]
          refine wpAnyH_take (i := 5) (oi := _) (v := ?_) rfl (by kernel_rfl) (by kernel_rfl) (by kernel_rfl) (fun _ _ _ h => h) (Or.inl ⟨by rfl, ?_⟩) (by assumption) ?_
          rotate_left
          · intro w hSw
            (try dsimp only at hSw)
            go_simp
            try (with_reducible rfl)
          try simp only [Act.put, List.getElem_toArray, List.getElem_cons_succ, List.getElem_cons_zero, List.setIfInBounds_toArray, List.set_cons_zero, List.set_cons_succ]
          refine wpAnyH_take (i := 6) (oi := _) (v := ?_) rfl (by kernel_rfl) (by kernel_rfl) (by kernel_rfl) (fun _ _ _ h => h) (Or.inl ⟨by rfl, ?_⟩) (by assumption) ?_
          rotate_left
          · intro w hSw
            (try dsimp only at hSw)
            go_simp
            try (with_reducible rfl)
          try simp only [Act.put, List.getElem_toArray, List.getElem_cons_succ, List.getElem_cons_zero, List.setIfInBounds_toArray, List.set_cons_zero, List.set_cons_succ]
          refine wpAnyH_take (i := 7) (oi := _) (v := ?_) rfl (by kernel_rfl) (by kernel_rfl) (by kernel_rfl) (fun _ _ _ h => h) (Or.inl ⟨by rfl, ?_⟩) (by assumption) ?_
          rotate_left
          · intro w hSw
            (try dsimp only at hSw)
            go_simp
            try (with_reducible rfl)
          try simp only [Act.put, List.getElem_toArray, List.getElem_cons_succ, List.getElem_cons_zero, List.setIfInBounds_toArray, List.set_cons_zero, List.set_cons_succ]
          refine wpAnyH_take (i := 8) (oi := _) (v := ?_) rfl (by kernel_rfl) (by kernel_rfl) (by kernel_rfl) (fun _ _ _ h => h) (Or.inl ⟨by rfl, ?_⟩) (by assumption) ?_
          rotate_left
          · intro w hSw
            (try dsimp only at hSw)
            go_simp
            try (with_reducible rfl)
          try simp only [Act.put, List.getElem_toArray, List.getElem_cons_succ, List.getElem_cons_zero, List.setIfInBounds_toArray, List.set_cons_zero, List.set_cons_succ]
          refine wpAnyH_take (i := 9) (oi := _) (v := ?_) rfl (by kernel_rfl) (by kernel_rfl) (by kernel_rfl) (fun _ _ _ h => h) (Or.inl ⟨by rfl, ?_⟩) (by assumption) ?_
          rotate_left
          · intro w hSw
            (try dsimp only at hSw)
            go_simp
            try (with_reducible rfl)
          try simp only [Act.put, List.getElem_toArray, List.getElem_cons_succ, List.getElem_cons_zero, List.setIfInBounds_toArray, List.set_cons_zero, List.set_cons_succ]
          refine wpAnyH_done (by kernel_rfl) ?_ _
          clear L4 x2 x3 hHeld
          generalize hY : Z.drew = Y at *
          have HY : ∀ b : Nat, Y.heap[b]? = Z.heap[b]? := fun b => by rw [← hY]; rfl
          have MY' : Hid (Mod (RwS gl gf gs) w Y) := Lib.hid (by rw [← hY]; exact MZ'.out.drew)
          have FY' := Lib.hid (FZ'.out.keep (HY gf))
          have SY' := Lib.hid (SZ'.out.keep (HY gs))
          have HDY' := Lib.hid ((HY g).trans HDZ'.out)
          have HBY' := Lib.hid ((HY gl).trans HBZ'.out)
          have HRY' := Lib.hid (HRZ'.out.keep (HY gl))
          have c0 : Y.cell? ⟨g, 0, none⟩ = some (.slice (some ⟨gl, 0, none⟩) r.g.length r.g.length) := cellsAt HDY'.out 0
          have c1 : Y.cell? ⟨g, 1, none⟩ = some (.map (some gf)) := cellsAt HDY'.out 1
          have c2 : Y.cell? ⟨g, 2, none⟩ = some (.map (some gs)) := cellsAt HDY'.out 2
          have k3 : Y.cell? ⟨gl, f * 4 + 3, none⟩ = some (.int .i64 (gOf r f)) := (HRY'.out.cells (i := f) hi).2.2.2
          have gY := lt_of_block HDY'.out
          have glY := HRY'.out.lt
          clear hY HY
          go_upto_region 12 with fail
          go_still_tail 8, (by kernel_rfl)
          go_wp2_with (refine wpList_dropO rfl (.tmp 92) (.tmp 96) rfl rfl rfl (w := Y.drew) (SY'.out.keep rfl) wG.out ?_; intro X SX MX)
          go_ret
          have FX := (FY'.out.keep (w' := Y.drew) rfl).keep (MX.block gf FY'.out.lt ap.2.2.2.2.2)
          exact ⟨rfl, mk'.out X _ _ ((MX.block g gY ap.2.2.1).trans (HDY'.out.trans HD'.out.symm)) ((MX.block gl glY ap.2.2.2.2.1).trans (HBY'.out)) FX (SX.congr (cntO_reset1 hl hi hs0 hcq0'.out hq)) rfl, MY'.out.drew.trans (MX.weak fun b hb => .inr (.inr hb))⟩
        · have hqb : ((q : Int) == 0) = false := by simp; omega
          go_upto_region 11 with fail
          refine wp_region_held_drew (S := fun w' => w' = Z.drew) (by kernel_rfl) rfl (fun hHeld => ?_)
          refine wpAnyH_take (i := 0) (oi := _) (v := ?_) rfl (by kernel_rfl) (by kernel_rfl) (by kernel_rfl) (fun _ _ _ h => h) (Or.inl ⟨by rfl, ?_⟩) (by assumption) ?_
          rotate_left
          · intro w hSw
            (try dsimp only at hSw)
            go_simp
            try (with_reducible rfl)
          try simp only [Act.put, List.getElem_toArray, List.getElem_cons_zero, List.setIfInBounds_toArray, List.set_cons_zero, List.set_cons_succ]
          refine wpAnyH_take (i := 1) (oi := _) (v := ?_) rfl (by kernel_rfl) (by kernel_rfl) (by kernel_rfl) (fun _ _ _ h => h) (Or.inl ⟨by rfl, ?_⟩) (by assumption) ?_
          rotate_left
          · intro w hSw
            (try dsimp only at hSw)
            go_simp
            try (with_reducible rfl)
          try simp only [Act.put, List.getElem_toArray, List.getElem_cons_succ, List.getElem_cons_zero, List.setIfInBounds_toArray, List.set_cons_zero, List.set_cons_succ]
          refine wpAnyH_take (i := 2) (oi := _) (v := ?_) rfl (by kernel_rfl) (by kernel_rfl) (by kernel_rfl) (fun _ _ _ h => h) (Or.inl ⟨by rfl, ?_⟩) (by assumption) ?_
          rotate_left
          · intro w hSw
            (try dsimp only at hSw)
            go_simp
            try (with_reducible rfl)
          try simp only [Act.put, List.getElem_toArray, List.getElem_cons_succ, List.getElem_cons_zero, List.setIfInBounds_toArray, List.set_cons_zero, List.set_cons_succ]
          refine wpAnyH_take (i := 3) (oi := _) (v := ?_) rfl (by kernel_rfl) (by kernel_rfl) (by kernel_rfl) (fun _ _ _ h => h) (Or.inl ⟨by rfl, ?_⟩) (by assumption) ?_
          rotate_left
          · intro w hSw
            (try dsimp only at hSw)
            go_simp
            try (with_reducible rfl)
          try simp only [Act.put, List.getElem_toArray, List.getElem_cons_succ, List.getElem_cons_zero, List.setIfInBounds_toArray, List.set_cons_zero, List.set_cons_succ]
          refine wpAnyH_take (i := 4) (oi := _) (v := ?_) rfl (by kernel_rfl) (by kernel_rfl) (by kernel_rfl) (fun _ _ _ h => h) (Or.inl ⟨by rfl, ?_⟩) (by assumption) ?_
          rotate_left
          · intro w hSw
            (try dsimp only at hSw)
            go_simp
            try (with_reducible rfl)
          try simp only [Act.put, List.getElem_toArray, List.getElem_cons_succ, List.getElem_cons_zero, List.setIfInBounds_toArray, List.set_cons_zero, List.set_cons_succ]
          refine wpAnyH_take (i := 5) (oi := _) (v := ?_) rfl (by kernel_rfl) (by kernel_rfl) (by kernel_rfl) (fun _ _ _ h => h) (Or.inl ⟨by rfl, ?_⟩) (by assumption) ?_
          rotate_left
          · intro w hSw
            (try dsimp only at hSw)
            go_simp
            try (with_reducible rfl)
          try simp only [Act.put, List.getElem_toArray, List.getElem_cons_succ, List.getElem_cons_zero, List.setIfInBounds_toArray, List.set_cons_zero, List.set_cons_succ]
          refine wpAnyH_take (i := 6) (oi := _) (v := ?_) rfl (by kernel_rfl) (by kernel_rfl) (by kernel_rfl) (fun _ _ _ h => h) (Or.inl ⟨by rfl, ?_⟩) (by assumption) ?_
          rotate_left
          · intro w hSw
            (try dsimp only at hSw)
            go_simp
            try (with_reducible rfl)
          try simp only [Act.put, List.getElem_toArray, List.getElem_cons_succ, List.getElem_cons_zero, List.setIfInBounds_toArray, List.set_cons_zero, List.set_cons_succ]
          refine wpAnyH_take (i := 7) (oi := _) (v := ?_) rfl (by kernel_rfl) (by kernel_rfl) (by kernel_rfl) (fun _ _ _ h => h) (Or.inl ⟨by rfl, ?_⟩) (by assumption) ?_
          rotate_left
          · intro w hSw
            (try dsimp only at hSw)
            go_simp
            try (with_reducible rfl)
          try simp only [Act.put, List.getElem_toArray, List.getElem_cons_succ, List.getElem_cons_zero, List.setIfInBounds_toArray, List.set_cons_zero, List.set_cons_succ]
          refine wpAnyH_take (i := 8) (oi := _) (v := ?_) rfl (by kernel_rfl) (by kernel_rfl) (by kernel_rfl) (fun _ _ _ h => h) (Or.inl ⟨by rfl, ?_⟩) (by assumption) ?_
          rotate_left
          · intro w hSw
            (try dsimp only at hSw)
            go_simp
            try (with_reducible rfl)
          try simp only [Act.put, List.getElem_toArray, List.getElem_cons_succ, List.getElem_cons_zero, List.setIfInBounds_toArray, List.set_cons_zero, List.set_cons_succ]
          refine wpAnyH_take (i := 9) (oi := _) (v := ?_) rfl (by kernel_rfl) (by kernel_rfl) (by kernel_rfl) (fun _ _ _ h => h) (Or.inl ⟨by rfl, ?_⟩) (by assumption) ?_
          rotate_left
          · intro w hSw
            (try dsimp only at hSw)
            go_simp
            try (with_reducible rfl)
          try simp only [Act.put, List.getElem_toArray, List.getElem_cons_succ, List.getElem_cons_zero, List.setIfInBounds_toArray, List.set_cons_zero, List.set_cons_succ]
          refine wpAnyH_done (by kernel_rfl) ?_ _
          clear L4 x2 x3 hHeld
          go_wp2_with fail
          go_ret
          exact ⟨rfl, mk'.out Z.drew _ _ (HDZ'.out.trans HD'.out.symm) HBZ'.out (FZ'.out.keep rfl) ((SZ'.out.keep (w' := Z.drew) rfl).congr (cntO_reset2 hl hi hs0 hG hcq0'.out hq)) rfl, MZ'.out.drew⟩
      · have hib : ((f : Int) == (i : Int)) = false := by simp; omega
        generalize hV : W.drew = V at *
        have HV : ∀ b : Nat, V.heap[b]? = W.heap[b]? := fun b => by rw [← hV]; rfl
        have MV : Mod (RwS gl gf gs) w V := by rw [← hV]; exact MW'.out.drew
        have FV := FM'.out.keep (HV gf)
        have SV := SM'.out.keep (HV gs)
        have HDV := (HV g).trans HD'.out
        have HBV' := Lib.hid (HV gl)
        have HRV := HR'.out.keep (HV gl)
        have c0 : V.cell? ⟨g, 0, none⟩ = some (.slice (some ⟨gl, 0, none⟩) r.g.length r.g.length) := cellsAt HDV 0
        have c1 : V.cell? ⟨g, 1, none⟩ = some (.map (some gf)) := cellsAt HDV 1
        have c2 : V.cell? ⟨g, 2, none⟩ = some (.map (some gs)) := cellsAt HDV 2
        have k3 : V.cell? ⟨gl, i * 4 + 3, none⟩ = some (.int .i64 (gOf r i)) := (HRV.cells (i := i) hi).2.2.2
        have gV := lt_of_block HDV
        have glV := HRV.lt
        have FV' := Lib.hid FV
        have SV' := Lib.hid SV
        have MV' := Lib.hid MV
        have HDV' := Lib.hid HDV
        have HRV' := Lib.hid HRV
        clear hV HV MV FV SV HDV HRV
        have FV' := Lib.hid ((FV'.out.congr (firO_kept (.inr (by rw [hf]; intro e; cases e; exact hfi rfl)))).mono (show N ≤ N + 1 by omega))
        go_upto_region 10 with fail
        have L3 := (SV'.out.keep (w' := V.drew) rfl).look wG.out
        rw [cntO_getD hG, hcq.out] at L3
        go_still_tail 10, (by kernel_rfl)
        go_wp2_with (refine wpList_storeO rfl (.tmp 72) (.tmp 76) (.tmp 78) rfl rfl rfl rfl (w := V.drew) (SV'.out.keep rfl) (by unfold maxLen; omega) wG.out (WalkArith.wf_i64 (n := (q : Int)) ⟨by omega, by omega⟩) ?_; intro Z SZ MZ)
        have FZ' := Lib.hid ((FV'.out.keep (w' := V.drew) rfl).keep (MZ.block gf FV'.out.lt ap.2.2.2.2.2))
        have HDZ' := Lib.hid ((MZ.block g gV ap.2.2.1).trans HDV'.out)
        have HBZ' := Lib.hid ((MZ.block gl glV ap.2.2.2.2.1).trans HBV'.out)
        have HRZ' := Lib.hid (HRV'.out.keep (MZ.block gl glV ap.2.2.2.2.1))
        have MZ' := Lib.hid (MV'.out.drew.trans (MZ.weak fun b hb => .inr (.inr hb)))
        have c0 : Z.cell? ⟨g, 0, none⟩ = some (.slice (some ⟨gl, 0, none⟩) r.g.length r.g.length) := cellsAt HDZ'.out 0
        have c1 : Z.cell? ⟨g, 1, none⟩ = some (.map (some gf)) := cellsAt HDZ'.out 1
        have c2 : Z.cell? ⟨g, 2, none⟩ = some (.map (some gs)) := cellsAt HDZ'.out 2
        have k3 : Z.cell? ⟨gl, i * 4 + 3, none⟩ = some (.int .i64 (gOf r i)) := (HRZ'.out.cells (i := i) hi).2.2.2
        have gZ := lt_of_block HDZ'.out
        have glZ := HRZ'.out.lt
        have SZ' := Lib.hid SZ
        clear SZ MZ L3
        have L4 := (SZ'.out.keep (w' := Z.drew) rfl).look wG.out
        rw [oup_same, Option.getD_some] at L4
        have L4 := fun w' (e : w' = Z.drew) => (show (Instr.lookup 135 (.map (some gs)) (.int .i64 (gOf r i)) false).run Tryz.prog w' = .ok (.int .i64 (q : Int)) w' by subst e; exact L4)
        have x2 := fun w' (e : w' = Z.drew) => (show w'.cell? ⟨g, 2, none⟩ = some (.map (some gs)) by subst e; exact c2)
        have x3 := fun w' (e : w' = Z.drew) => (show w'.cell? ⟨gl, i * 4 + 3, none⟩ = some (.int .i64 (gOf r i)) by subst e; exact k3)
        by_cases hq : q = 0
        · have hqb : ((q : Int) == 0) = true := by simp; omega
          go_upto_region 11 with fail
          refine wp_region_held_drew (S := fun w' => w' = Z.drew) (by kernel_rfl) rfl (fun hHeld => ?_)
          refine wpAnyH_take (i := 0) (oi := _) (v := ?_) rfl (by kernel_rfl) (by kernel_rfl) (by kernel_rfl) (fun _ _ _ h => h) (Or.inl ⟨by rfl, ?_⟩) (by assumption) ?_
          rotate_left
          · intro w hSw
            (try dsimp only at hSw)
            go_simp
            try (with_reducible rfl)
          try simp only [Act.put, List.getElem_toArray, List.getElem_cons_zero, List.setIfInBounds_toArray, List.set_cons_zero, List.set_cons_succ]
          refine wpAnyH_take (i := 1) (oi := _) (v := ?_) rfl (by kernel_rfl) (by kernel_rfl) (by kernel_rfl) (fun _ _ _ h => h) (Or.inl ⟨by rfl, ?_⟩) (by assumption) ?_
          rotate_left
          · intro w hSw
            (try dsimp only at hSw)
            go_simp
            try (with_reducible rfl)
          try simp only [Act.put, List.getElem_toArray, List.getElem_cons_succ, List.getElem_cons_zero, List.setIfInBounds_toArray, List.set_cons_zero, List.set_cons_succ]
          refine wpAnyH_take (i := 2) (oi := _) (v := ?_) rfl (by kernel_rfl) (by kernel_rfl) (by kernel_rfl) (fun _ _ _ h => h) (Or.inl ⟨by rfl, ?_⟩) (by assumption) ?_
          rotate_left
          · intro w hSw
            (try dsimp only at hSw)
            go_simp
            try (with_reducible rfl)
          try simp only [Act.put, List.getElem_toArray, List.getElem_cons_succ, List.getElem_cons_zero, List.setIfInBounds_toArray, List.set_cons_zero, List.set_cons_succ]
          refine wpAnyH_take (i := 3) (oi := _) (v := ?_) rfl (by kernel_rfl) (by kernel_rfl) (by kernel_rfl) (fun _ _ _ h => h) (Or.inl ⟨by rfl, ?_⟩) (by assumption) ?_
          rotate_left
          · intro w hSw
            (try dsimp only at hSw)
            go_simp
            try (with_reducible rfl)
          try simp only [Act.put, List.getElem_toArray, List.getElem_cons_succ, List.getElem_cons_zero, List.setIfInBounds_toArray, List.set_cons_zero, List.set_cons_succ]
          refine wpAnyH_take (i := 4) (oi := _) (v := ?_) rfl (by kernel_rfl) (by kernel_rfl) (by kernel_rfl) (fun _ _ _ h => h) (Or.inl ⟨by rfl, ?_⟩) (by assumption) ?_
          rotate_left
          · intro w hSw
            (try dsimp only at hSw)
            go_simp
            try (with_reducible rfl)
          try simp only [Act.put, List.getElem_toArray, List.getElem_cons_succ, List.getElem_cons_zero, List.setIfInBounds_toArray, List.set_cons_zero, List.set_cons_succ]
          refine wpAnyH_take (i := 5) (oi := _) (v := ?_) rfl (by kernel_rfl) (by kernel_rfl) (by kernel_rfl) (fun _ _ _ h => h) (Or.inl ⟨by rfl, ?_⟩) (by assumption) ?_
          rotate_left
          · intro w hSw
            (try dsimp only at hSw)
            go_simp
            try (with_reducible rfl)
          try simp only [Act.put, List.getElem_toArray, List.getElem_cons_succ, List.getElem_cons_zero, List.setIfInBounds_toArray, List.set_cons_zero, List.set_cons_succ]
          refine wpAnyH_take (i := 6) (oi := _) (v := ?_) rfl (by kernel_rfl) (by kernel_rfl) (by kernel_rfl) (fun _ _ _ h => h) (Or.inl ⟨by rfl, ?_⟩) (by assumption) ?_
          rotate_left
          · intro w hSw
            (try dsimp only at hSw)
            go_simp
            try (with_reducible rfl)
          try simp only [Act.put, List.getElem_toArray, List.getElem_cons_succ, List.getElem_cons_zero, List.setIfInBounds_toArray, List.set_cons_zero, List.set_cons_succ]
          refine wpAnyH_take (i := 7) (oi := _) (v := ?_) rfl (by kernel_rfl) (by kernel_rfl) (by kernel_rfl) (fun _ _ _ h => h) (Or.inl ⟨by rfl, ?_⟩) (by assumption) ?_
          rotate_left
          · intro w hSw
            (try dsimp only at hSw)
            go_simp
            try (with_reducible rfl)
          try simp only [Act.put, List.getElem_toArray, List.getElem_cons_succ, List.getElem_cons_zero, List.setIfInBounds_toArray, List.set_cons_zero, List.set_cons_succ]
          refine wpAnyH_take (i := 8) (oi := _) (v := ?_) rfl (by kernel_rfl) (by kernel_rfl) (by kernel_rfl) (fun _ _ _ h => h) (Or.inl ⟨by rfl, ?_⟩) (by assumption) ?_
          rotate_left
          · intro w hSw
            (try dsimp only at hSw)
            go_simp
            try (with_reducible rfl)
          try simp only [Act.put, List.getElem_toArray, List.getElem_cons_succ, List.getElem_cons_zero, List.setIfInBounds_toArray, List.set_cons_zero, List.set_cons_succ]
          refine wpAnyH_take (i := 9) (oi := _) (v := ?_) rfl (by kernel_rfl) (by kernel_rfl) (by kernel_rfl) (fun _ _ _ h => h) (Or.inl ⟨by rfl, ?_⟩) (by assumption) ?_
          rotate_left
          · intro w hSw
            (try dsimp only at hSw)
            go_simp
            try (with_reducible rfl)
          try simp only [Act.put, List.getElem_toArray, List.getElem_cons_succ, List.getElem_cons_zero, List.setIfInBounds_toArray, List.set_cons_zero, List.set_cons_succ]
          refine wpAnyH_done (by kernel_rfl) ?_ _
          clear L4 x2 x3 hHeld
          generalize hY : Z.drew = Y at *
          have HY : ∀ b : Nat, Y.heap[b]? = Z.heap[b]? := fun b => by rw [← hY]; rfl
          have MY' : Hid (Mod (RwS gl gf gs) w Y) := Lib.hid (by rw [← hY]; exact MZ'.out.drew)
          have FY' := Lib.hid (FZ'.out.keep (HY gf))
          have SY' := Lib.hid (SZ'.out.keep (HY gs))
          have HDY' := Lib.hid ((HY g).trans HDZ'.out)
          have HBY' := Lib.hid ((HY gl).trans HBZ'.out)
          have HRY' := Lib.hid (HRZ'.out.keep (HY gl))
          have c0 : Y.cell? ⟨g, 0, none⟩ = some (.slice (some ⟨gl, 0, none⟩) r.g.length r.g.length) := cellsAt HDY'.out 0
          have c1 : Y.cell? ⟨g, 1, none⟩ = some (.map (some gf)) := cellsAt HDY'.out 1
          have c2 : Y.cell? ⟨g, 2, none⟩ = some (.map (some gs)) := cellsAt HDY'.out 2
          have k3 : Y.cell? ⟨gl, i * 4 + 3, none⟩ = some (.int .i64 (gOf r i)) := (HRY'.out.cells (i := i) hi).2.2.2
          have gY := lt_of_block HDY'.out
          have glY := HRY'.out.lt
          clear hY HY
          go_upto_region 12 with fail
          go_still_tail 8, (by kernel_rfl)
          go_wp2_with (refine wpList_dropO rfl (.tmp 92) (.tmp 96) rfl rfl rfl (w := Y.drew) (SY'.out.keep rfl) wG.out ?_; intro X SX MX)
          go_ret
          have FX := (FY'.out.keep (w' := Y.drew) rfl).keep (MX.block gf FY'.out.lt ap.2.2.2.2.2)
          exact ⟨rfl, mk'.out X _ _ ((MX.block g gY ap.2.2.1).trans (HDY'.out.trans HD'.out.symm)) ((MX.block gl glY ap.2.2.2.2.1).trans (HBY'.out)) FX (SX.congr (cntO_reset1 hl hi hs0 hcq0'.out hq)) rfl, MY'.out.drew.trans (MX.weak fun b hb => .inr (.inr hb))⟩
        · have hqb : ((q : Int) == 0) = false := by simp; omega
          go_upto_region 11 with fail
          refine wp_region_held_drew (S := fun w' => w' = Z.drew) (by kernel_rfl) rfl (fun hHeld => ?_)
          refine wpAnyH_take (i := 0) (oi := _) (v := ?_) rfl (by kernel_rfl) (by kernel_rfl) (by kernel_rfl) (fun _ _ _ h => h) (Or.inl ⟨by rfl, ?_⟩) (by assumption) ?_
          rotate_left
          · intro w hSw
            (try dsimp only at hSw)
            go_simp
            try (with_reducible rfl)
          try simp only [Act.put, List.getElem_toArray, List.getElem_cons_zero, List.setIfInBounds_toArray, List.set_cons_zero, List.set_cons_succ]
          refine wpAnyH_take (i := 1) (oi := _) (v := ?_) rfl (by kernel_rfl) (by kernel_rfl) (by kernel_rfl) (fun _ _ _ h => h) (Or.inl ⟨by rfl, ?_⟩) (by assumption) ?_
          rotate_left
          · intro w hSw
            (try dsimp only at hSw)
            go_simp
            try (with_reducible rfl)
          try simp only [Act.put, List.getElem_toArray, List.getElem_cons_succ, List.getElem_cons_zero, List.setIfInBounds_toArray, List.set_cons_zero, List.set_cons_succ]
          refine wpAnyH_take (i := 2) (oi := _) (v := ?_) rfl (by kernel_rfl) (by kernel_rfl) (by kernel_rfl) (fun _ _ _ h => h) (Or.inl ⟨by rfl, ?_⟩) (by assumption) ?_
          rotate_left
          · intro w hSw
            (try dsimp only at hSw)
            go_simp
            try (with_reducible rfl)
          try simp only [Act.put, List.getElem_toArray, List.getElem_cons_succ, List.getElem_cons_zero, List.setIfInBounds_toArray, List.set_cons_zero, List.set_cons_succ]
          refine wpAnyH_take (i := 3) (oi := _) (v := ?_) rfl (by kernel_rfl) (by kernel_rfl) (by kernel_rfl) (fun _ _ _ h => h) (Or.inl ⟨by rfl, ?_⟩) (by assumption) ?_
          rotate_left
          · intro w hSw
            (try dsimp only at hSw)
            go_simp
            try (with_reducible rfl)
          try simp only [Act.put, List.getElem_toArray, List.getElem_cons_succ, List.getElem_cons_zero, List.setIfInBounds_toArray, List.set_cons_zero, List.set_cons_succ]
          refine wpAnyH_take (i := 4) (oi := _) (v := ?_) rfl (by kernel_rfl) (by kernel_rfl) (by kernel_rfl) (fun _ _ _ h => h) (Or.inl ⟨by rfl, ?_⟩) (by assumption) ?_
          rotate_left
          · intro w hSw
            (try dsimp only at hSw)
            go_simp
            try (with_reducible rfl)
          try simp only [Act.put, List.getElem_toArray, List.getElem_cons_succ, List.getElem_cons_zero, List.setIfInBounds_toArray, List.set_cons_zero, List.set_cons_succ]
          refine wpAnyH_take (i := 5) (oi := _) (v := ?_) rfl (by kernel_rfl) (by kernel_rfl) (by kernel_rfl) (fun _ _ _ h => h) (Or.inl ⟨by rfl, ?_⟩) (by assumption) ?_
          rotate_left
          · intro w hSw
            (try dsimp only at hSw)
            go_simp
            try (with_reducible rfl)
          try simp only [Act.put, List.getElem_toArray, List.getElem_cons_succ, List.getElem_cons_zero, List.setIfInBounds_toArray, List.set_cons_zero, List.set_cons_succ]
          refine wpAnyH_take (i := 6) (oi := _) (v := ?_) rfl (by kernel_rfl) (by kernel_rfl) (by kernel_rfl) (fun _ _ _ h => h) (Or.inl ⟨by rfl, ?_⟩) (by assumption) ?_
          rotate_left
          · intro w hSw
            (try dsimp only at hSw)
            go_simp
            try (with_reducible rfl)
          try simp only [Act.put, List.getElem_toArray, List.getElem_cons_succ, List.getElem_cons_zero, List.setIfInBounds_toArray, List.set_cons_zero, List.set_cons_succ]
          refine wpAnyH_take (i := 7) (oi := _) (v := ?_) rfl (by kernel_rfl) (by kernel_rfl) (by kernel_rfl) (fun _ _ _ h => h) (Or.inl ⟨by rfl, ?_⟩) (by assumption) ?_
          rotate_left
          · intro w hSw
            (try dsimp only at hSw)
            go_simp
            try (with_reducible rfl)
          try simp only [Act.put, List.getElem_toArray, List.getElem_cons_succ, List.getElem_cons_zero, List.setIfInBounds_toArray, List.set_cons_zero, List.set_cons_succ]
          refine wpAnyH_take (i := 8) (oi := _) (v := ?_) rfl (by kernel_rfl) (by kernel_rfl) (by kernel_rfl) (fun _ _ _ h => h) (Or.inl ⟨by rfl, ?_⟩) (by assumption) ?_
          rotate_left
          · intro w hSw
            (try dsimp only at hSw)
            go_simp
            try (with_reducible rfl)
          try simp only [Act.put, List.getElem_toArray, List.getElem_cons_succ, List.getElem_cons_zero, List.setIfInBounds_toArray, List.set_cons_zero, List.set_cons_succ]
          refine wpAnyH_take (i := 9) (oi := _) (v := ?_) rfl (by kernel_rfl) (by kernel_rfl) (by kernel_rfl) (fun _ _ _ h => h) (Or.inl ⟨by rfl, ?_⟩) (by assumption) ?_
          rotate_left
          · intro w hSw
            (try dsimp only at hSw)
            go_simp
            try (with_reducible rfl)
          try simp only [Act.put, List.getElem_toArray, List.getElem_cons_succ, List.getElem_cons_zero, List.setIfInBounds_toArray, List.set_cons_zero, List.set_cons_succ]
          refine wpAnyH_done (by kernel_rfl) ?_ _
          clear L4 x2 x3 hHeld
          go_wp2_with fail
          go_ret
          exact ⟨rfl, mk'.out Z.drew _ _ (HDZ'.out.trans HD'.out.symm) HBZ'.out (FZ'.out.keep rfl) ((SZ'.out.keep (w' := Z.drew) rfl).congr (cntO_reset2 hl hi hs0 hG hcq0'.out hq)) rfl, MZ'.out.drew⟩
  · rw [if_neg hs, show setOf r i = false by simpa using hs]
    rw [show setOf r i = false by simpa using hs] at k0
    go_enter Tryz.func41, Tryz.ntmps41
    go_wp2_with (go_at_call 77; refine (latchHas_any _ _ _ _ _ _ _ h'.out i hi).mono ?_; rintro e w' ⟨rfl, rfl⟩)
    go_ret
    exact ⟨rfl, h'.out.mono (by omega), Mod.refl _ _⟩
end Go.Proofs.YtgajbgdkgelkgaaGreat
