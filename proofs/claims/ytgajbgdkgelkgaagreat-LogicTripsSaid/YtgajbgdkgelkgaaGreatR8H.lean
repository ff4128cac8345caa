/- Layer 8, the reference's parser: line. Printed by gen/r8h.py. -/
import Derived.Test.YtgajbgdkgelkgaaGreatR8G
import Derived.Deep.DeepCutAuto
namespace Go.Proofs.YtgajbgdkgelkgaaGreat
open Go.RowKit

theorem oneAt_map8 {α β : Type} (f : α → β) (one : β → β → Bool) (l : List α) (k j : Nat) : oneAt one (l.map f) k j = oneAt (fun a b => one (f a) (f b)) l k j := by
  unfold oneAt
  rw [List.getElem?_map, List.getElem?_map]
  cases l[j]? <;> cases l[k]? <;> rfl
theorem twinsB_map8 {α β : Type} (f : α → β) (one : β → β → Bool) (l : List α) : twinsB one (l.map f) = twinsB (fun a b => one (f a) (f b)) l := by
  unfold twinsB twinsTo
  rw [List.length_map]
  congr 1
  funext k
  congr 1
  funext j
  exact oneAt_map8 f one l k j
theorem rightM_bareR (m : Mx) : rightM m.bareR = rightM m := by
  have h1 : sizesB m.bareR = sizesB m := by
    show (decide (m.dvs.length ≤ 4) && decide (m.pts.length ≤ 16) && decide ((m.cas.map caStrip).length ≤ 8) && decide ((m.efs.map efStrip).length ≤ 8)) = _
    rw [List.length_map, List.length_map]; rfl
  have h2 : timesB m.bareR = timesB m := rfl
  have h3 : namedB m.bareR = namedB m := by unfold namedB; rw [names_bare]
  have h4 : devicesB m.bareR = devicesB m := rfl
  have h5 : pointsB m.bareR = pointsB m := rfl
  have h6 : causesB m.bareR = causesB m := by
    show (m.cas.map caStrip).all (caB m.pts.length) = _
    rw [List.all_map]; rfl
  have h7 : effectsB m.bareR = effectsB m := by
    show ((m.efs.map efStrip).all (efB m.dvs.length (m.cas.map caStrip).length) && !twinsB (fun a b : Ef => a.dv == b.dv && a.pl == b.pl) (m.efs.map efStrip)) = _
    rw [List.all_map, List.length_map, twinsB_map8]; rfl
  unfold rightM
  rw [h1, h2, h3, h4, h5, h6, h7]
  rfl
def isWB (ws : List ByteArray) : Bool := (ws.getD 0 ByteArray.empty).toList == kWatch
def isKB (ws : List ByteArray) : Bool := (ws.getD 0 ByteArray.empty).toList == kKey
def thingR (b : Mx) (e : Int) (ws : List ByteArray) : Mx × Int :=
  if (ws.getD 0 ByteArray.empty).toList == kDevice then devR b e (ws.getD 1 ByteArray.empty) (ws.getD 2 ByteArray.empty) (ws.getD 3 ByteArray.empty)
  else if (ws.getD 0 ByteArray.empty).toList == kPoint then ptR b e (ws.getD 1 ByteArray.empty) (ws.getD 2 ByteArray.empty) (ws.getD 3 ByteArray.empty) (ws.getD 4 ByteArray.empty) (ws.getD 5 ByteArray.empty) (ws.getD 6 ByteArray.empty)
  else if (ws.getD 0 ByteArray.empty).toList == kCause then caR b e (ws.getD 1 ByteArray.empty) (ws.getD 2 ByteArray.empty) (ws.getD 3 ByteArray.empty) (ws.getD 4 ByteArray.empty) (ws.drop 5)
  else efR b e (ws.getD 1 ByteArray.empty) (ws.getD 2 ByteArray.empty) (ws.getD 3 ByteArray.empty) (ws.getD 4 ByteArray.empty) (ws.drop 5)
abbrev PsT := Mx × Bool × Bool × Int
def watchR (b : Mx) (ky : Bool) (e : Int) (ws : List ByteArray) : PsT :=
  ({ b with rt := (numR (ws.getD 1 ByteArray.empty)).getD 0, wt := (numR (ws.getD 2 ByteArray.empty)).getD 0, bk := (numR (ws.getD 3 ByteArray.empty)).getD 0, cy := (numR (ws.getD 4 ByteArray.empty)).getD 0 }, true, ky,
    failE (failE (failE (failE e (numR (ws.getD 1 ByteArray.empty))) (numR (ws.getD 2 ByteArray.empty))) (numR (ws.getD 3 ByteArray.empty))) (numR (ws.getD 4 ByteArray.empty)))
def midR (b : Mx) (wt ky : Bool) (e : Int) (ws : List ByteArray) : PsT :=
  if isWB ws then watchR b ky e ws
  else if isKB ws then ({ b with key := ws.getD 1 ByteArray.empty }, wt, true, e)
  else ((thingR b e ws).1, wt, ky, (thingR b e ws).2)
def zeros16 : ByteArray := ⟨#[48, 48, 48, 48, 48, 48, 48, 48, 48, 48, 48, 48, 48, 48, 48, 48]⟩
def patchM (m : Mx) (wt ky : Bool) : Mx := { m with wt := if wt then m.wt else 1, cy := if wt then m.cy else 1, key := if ky then m.key else zeros16 }
def badR (wt ky : Bool) (ws : List ByteArray) : Bool := !manyR (ws.getD 0 ByteArray.empty) ws.length || (isWB ws && wt) || (isKB ws && ky)
def lineR (b : Mx) (wt ky : Bool) (e : Int) (ws : List ByteArray) : PsT :=
  if badR wt ky ws then (b, wt, ky, orE e 81)
  else ((midR b wt ky e ws).1, (midR b wt ky e ws).2.1, (midR b wt ky e ws).2.2.1, if rightM (patchM (midR b wt ky e ws).1 (midR b wt ky e ws).2.1 (midR b wt ky e ws).2.2.1) then (midR b wt ky e ws).2.2.2 else orE (midR b wt ky e ws).2.2.2 81)
/-- The parser behind something. -/
def PsAt (g : Nat) (m : Mx) (x : PsT) (w w' : World) : Prop :=
  ∃ m', HasPs w' g m' x.2.1 x.2.2.1 x.2.2.2 ∧ m'.bareR = x.1 ∧ Mod (fun b => g ≤ b) w w' ∧ m'.nd ≤ m.nd + 1 ∧ m'.np ≤ m.np + 1 ∧ m'.nc ≤ m.nc + 1 ∧ m'.ne ≤ m.ne + 1
def LinePost (g : Nat) (m : Mx) (x : PsT) (w : World) (en : Ending) (w' : World) : Prop := en = .returned (.tuple #[]) ∧ PsAt g m x w w'
theorem many_kind {s : ByteArray} {n : Nat} (h : manyR s n = true) (hw : (s.toList == kWatch) = false) (hk : (s.toList == kKey) = false) :
    ((s.toList == kDevice) = true ∧ n = 4) ∨ ((s.toList == kDevice) = false ∧ (s.toList == kPoint) = true ∧ n = 7) ∨ ((s.toList == kDevice) = false ∧ (s.toList == kPoint) = false ∧ (s.toList == kCause) = true ∧ 6 ≤ n ∧ n ≤ 100) ∨
    ((s.toList == kDevice) = false ∧ (s.toList == kPoint) = false ∧ (s.toList == kCause) = false ∧ (s.toList == kEffect) = true ∧ 6 ≤ n ∧ n ≤ 100) := by
  unfold manyR at h
  rw [hw, hk] at h
  simp only [Bool.false_eq_true, if_false] at h
  cases h1 : (s.toList == kDevice) with
  | true => rw [h1] at h; simp at h; exact .inl ⟨rfl, by omega⟩
  | false =>
    rw [h1] at h
    simp only [Bool.false_eq_true, if_false] at h
    cases h2 : (s.toList == kPoint) with
    | true => rw [h2] at h; simp at h; exact .inr (.inl ⟨rfl, rfl, by omega⟩)
    | false =>
      rw [h2] at h
      simp only [Bool.false_eq_true, if_false] at h
      cases h3 : (s.toList == kCause) with
      | true => rw [h3] at h; simp at h; exact .inr (.inr (.inl ⟨rfl, rfl, rfl, by omega, by omega⟩))
      | false =>
        rw [h3] at h
        simp only [Bool.false_eq_true, if_false] at h
        cases h4 : (s.toList == kEffect) with
        | true => rw [h4] at h; simp at h; exact .inr (.inr (.inr ⟨rfl, rfl, rfl, rfl, by omega, by omega⟩))
        | false => rw [h4] at h; simp at h
theorem OkMx.patch {w : World} {B : Nat} {m : Mx} (h : OkMx w B m) (wt ky : Bool) : OkMx w B (patchM m wt ky) := ⟨h.dv, h.pt, h.ca, h.ef, h.cao, h.efo, h.cap⟩
theorem rThing_any (g : Nat) (m : Mx) (wt ky : Bool) (e : Int) (A : Option Addr) (n c : Nat) (ws : List ByteArray) (w : World) (h : HasPs w g m wt ky e) (hw : Wds w g A n ws) (hnc : n ≤ c ∧ c ≤ maxLen) (hs : m.nd ≤ 9000 ∧ m.np ≤ 9000 ∧ m.nc ≤ 9000 ∧ m.ne ≤ 9000)
    (hm : manyR (ws.getD 0 ByteArray.empty) n = true) (q1 : ((ws.getD 0 ByteArray.empty).toList == kWatch) = false) (q2 : ((ws.getD 0 ByteArray.empty).toList == kKey) = false) :
    Calls Tryz.prog 110 #[.pointer (some ⟨g, 0, none⟩), .slice A n c] w (ThingPost g m wt ky (thingR m.bareR e ws) w) := by
  have hk : ∀ s, ws[0]? = some s → ws.getD 0 ByteArray.empty = s := fun s hs => by rw [List.getD_eq_getElem?_getD, hs]; rfl
  unfold thingR
  rcases many_kind hm q1 q2 with ⟨h1, h2⟩ | ⟨h0, h1, h2⟩ | ⟨h0, h00, h1, h2⟩ | ⟨h0, h00, h000, h1, h2⟩
  · rw [if_pos h1]; exact rThingDevice_any g m wt ky e A n c ws w h hw hnc h2 hs fun s h => by rw [← hk s h]; exact h1
  · rw [if_neg (by rw [h0]; decide), if_pos h1]; exact rThingPoint_any g m wt ky e A n c ws w h hw hnc h2 hs fun s h => by rw [← hk s h]; exact h1
  · rw [if_neg (by rw [h0]; decide), if_neg (by rw [h00]; decide), if_pos h1]; exact rThingCause_any g m wt ky e A n c ws w h hw hnc h2 hs fun s h => by rw [← hk s h]; exact h1
  · rw [if_neg (by rw [h0]; decide), if_neg (by rw [h00]; decide), if_neg (by rw [h000]; decide)]; exact rThingEffect_any g m wt ky e A n c ws w h hw hnc h2 hs fun s h => by rw [← hk s h]; exact h1
set_option maxRecDepth 100000 in
set_option maxHeartbeats 12800000 in
theorem rLine_any (g : Nat) (m : Mx) (wt ky : Bool) (e : Int) (A : Option Addr) (n c : Nat) (ws : List ByteArray) (w : World) (h : HasPs w g m wt ky e) (hw : Wds w g A n ws) (hnc : n ≤ c ∧ c ≤ maxLen) (hn : 0 < n) (hs : m.nd ≤ 8000 ∧ m.np ≤ 8000 ∧ m.nc ≤ 8000 ∧ m.ne ≤ 8000) :
    Calls Tryz.prog 81 #[.pointer (some ⟨g, 0, none⟩), .slice A n c] w (LinePost g m (lineR m.bareR wt ky e ws) w) := by
  obtain ⟨b1, o1, rfl, hb1, hbg, hat⟩ := hw.at_ hn
  obtain ⟨s0, es0, ez0, x0⟩ := hat 0 hn
  have x00 : ∀ w', Mod (fun b => g ≤ b) w w' → w'.cell? ⟨b1, o1, none⟩ = some (.string s0) := fun w' hh => x0 w' hh
  clear x0
  have hg0 : ws.getD 0 ByteArray.empty = s0 := by rw [List.getD_eq_getElem?_getD, es0]; rfl
  have hlen : ws.length = n := hw.rd.len
  have hbd : Hid (badR wt ky ws = (!manyR s0 n || ((s0.toList == kWatch) && wt) || ((s0.toList == kKey) && ky))) := Lib.hid (by unfold badR isWB isKB; rw [hg0, hlen])
  have hg0' := Lib.hid hg0
  have hlen' := Lib.hid hlen
  have es0' := Lib.hid es0
  have hat' := Lib.hid hat
  have hw' := Lib.hid hw
  have H0 := Lib.hid h
  have hgw := h.hd.lt
  have k9 : w.cell? ⟨g, 9, none⟩ = some (.bool wt) := cellsAt h.hd 9
  have k10 : w.cell? ⟨g, 10, none⟩ = some (.bool ky) := cellsAt h.hd 10
  have M0 : Mod (fun b => g ≤ b) w w := Mod.refl _ w
  have e9 : (0 : Int) < (n : Int) := by omega
  clear hat hw h es0 hg0 hlen
  cases hbad : badR wt ky ws with
  | true =>
    have hl : Hid (lineR m.bareR wt ky e ws = (m.bareR, wt, ky, orE e 81)) := Lib.hid (by unfold lineR; rw [hbad]; rfl)
    have hb2 := hbd.out.symm.trans hbad
    clear hbad
    cases hm : manyR s0 n with
    | false =>
      clear hb2
      go_enter Tryz.func81, Tryz.ntmps81
      go_wp2_with (first | (go_at_call 108; refine (rFail_any g m wt ky e 81 _ H0.out.hd).mono ?_; rintro en W1 ⟨rfl, p1, d1⟩) | (go_at_call 107; refine (rMany_any _ _ _).mono ?_; rintro en w' ⟨rfl, rfl⟩))
      refine bodyPost_ret (results_none rfl _ _ _) rfl ?_
      rw [hl.out]
      exact ⟨rfl, m, H0.out.modG d1 p1, rfl, d1.weak fun b hb => Nat.le_of_eq hb.symm, by omega, by omega, by omega, by omega⟩
    | true =>
      rw [hm] at hb2
      simp only [Bool.not_true, Bool.false_or] at hb2
      cases q1 : (s0.toList == kWatch) with
      | true =>
        have q2 : (s0.toList == ([107, 101, 121] : List UInt8)) = false := by rw [eq_of_beq q1]; decide
        rw [q1, show (s0.toList == kKey) = false from q2] at hb2
        simp at hb2
        subst hb2
        have q1' : (s0.toList == ([119, 97, 116, 99, 104] : List UInt8)) = true := q1
        clear q1
        go_enter Tryz.func81, Tryz.ntmps81
        go_wp2_with (first | (go_at_call 108; refine (rFail_any g m true ky e 81 _ H0.out.hd).mono ?_; rintro en W1 ⟨rfl, p1, d1⟩) | (go_at_call 107; refine (rMany_any _ _ _).mono ?_; rintro en w' ⟨rfl, rfl⟩))
        refine bodyPost_ret (results_none rfl _ _ _) rfl ?_
        rw [hl.out]
        exact ⟨rfl, m, H0.out.modG d1 p1, rfl, d1.weak fun b hb => Nat.le_of_eq hb.symm, by omega, by omega, by omega, by omega⟩
      | false =>
        rw [q1] at hb2
        simp only [Bool.false_and, Bool.false_or, Bool.and_eq_true] at hb2
        obtain ⟨q2, rfl⟩ := hb2
        have q1' : (s0.toList == ([119, 97, 116, 99, 104] : List UInt8)) = false := q1
        have q2' : (s0.toList == ([107, 101, 121] : List UInt8)) = true := q2
        clear q1 q2
        go_enter Tryz.func81, Tryz.ntmps81
        go_wp2_with (first | (go_at_call 108; refine (rFail_any g m wt true e 81 _ H0.out.hd).mono ?_; rintro en W1 ⟨rfl, p1, d1⟩) | (go_at_call 107; refine (rMany_any _ _ _).mono ?_; rintro en w' ⟨rfl, rfl⟩))
        refine bodyPost_ret (results_none rfl _ _ _) rfl ?_
        rw [hl.out]
        exact ⟨rfl, m, H0.out.modG d1 p1, rfl, d1.weak fun b hb => Nat.le_of_eq hb.symm, by omega, by omega, by omega, by omega⟩
  | false =>
    have hl : Hid (lineR m.bareR wt ky e ws = ((midR m.bareR wt ky e ws).1, (midR m.bareR wt ky e ws).2.1, (midR m.bareR wt ky e ws).2.2.1, if rightM (patchM (midR m.bareR wt ky e ws).1 (midR m.bareR wt ky e ws).2.1 (midR m.bareR wt ky e ws).2.2.1) then (midR m.bareR wt ky e ws).2.2.2 else orE (midR m.bareR wt ky e ws).2.2.2 81)) := Lib.hid (by unfold lineR; rw [hbad]; rfl)
    have hb2 := hbd.out.symm.trans hbad
    clear hbad
    rw [Bool.or_eq_false_iff, Bool.or_eq_false_iff, Bool.not_eq_false'] at hb2
    obtain ⟨⟨hm, hbw⟩, hbk⟩ := hb2
    have hcases : ((s0.toList == ([119, 97, 116, 99, 104] : List UInt8)) = true ∧ (s0.toList == ([107, 101, 121] : List UInt8)) = false ∧ wt = false ∧ n = 5) ∨ ((s0.toList == ([119, 97, 116, 99, 104] : List UInt8)) = false ∧ (s0.toList == ([107, 101, 121] : List UInt8)) = true ∧ ky = false ∧ n = 2) ∨ ((s0.toList == ([119, 97, 116, 99, 104] : List UInt8)) = false ∧ (s0.toList == ([107, 101, 121] : List UInt8)) = false) := by
      cases q1 : (s0.toList == kWatch) with
      | true =>
        have q2 : (s0.toList == ([107, 101, 121] : List UInt8)) = false := by rw [eq_of_beq q1]; decide
        rw [q1] at hbw
        refine .inl ⟨rfl, q2, by simpa using hbw, ?_⟩
        unfold manyR at hm
        rw [q1] at hm
        simp at hm; omega
      | false =>
        cases q2 : (s0.toList == kKey) with
        | true =>
          rw [q2] at hbk
          refine .inr (.inl ⟨rfl, rfl, by simpa using hbk, ?_⟩)
          unfold manyR at hm
          rw [q1, q2] at hm
          simp at hm; omega
        | false => exact .inr (.inr ⟨rfl, rfl⟩)
    have hcases' := Lib.hid hcases
    have hm' := Lib.hid hm
    clear hbw hbk hcases
    rcases hcases'.out with ⟨q1, q2, rfl, rfl⟩ | ⟨q1, q2, rfl, rfl⟩ | ⟨q1, q2⟩
    · obtain ⟨s1, es1, ez1, x1⟩ := hat'.out 1 (by omega)
      have gs1 : ws.getD 1 ByteArray.empty = s1 := by rw [List.getD_eq_getElem?_getD, es1]; rfl
      have v1 : (1 : Int) < ((5 : Nat) : Int) := by decide
      obtain ⟨s2, es2, ez2, x2⟩ := hat'.out 2 (by omega)
      have gs2 : ws.getD 2 ByteArray.empty = s2 := by rw [List.getD_eq_getElem?_getD, es2]; rfl
      have v2 : (2 : Int) < ((5 : Nat) : Int) := by decide
      obtain ⟨s3, es3, ez3, x3⟩ := hat'.out 3 (by omega)
      have gs3 : ws.getD 3 ByteArray.empty = s3 := by rw [List.getD_eq_getElem?_getD, es3]; rfl
      have v3 : (3 : Int) < ((5 : Nat) : Int) := by decide
      obtain ⟨s4, es4, ez4, x4⟩ := hat'.out 4 (by omega)
      have gs4 : ws.getD 4 ByteArray.empty = s4 := by rw [List.getD_eq_getElem?_getD, es4]; rfl
      have v4 : (4 : Int) < ((5 : Nat) : Int) := by decide
      have hmid : Hid (midR m.bareR false ky e ws = ({ m.bareR with rt := (numR s1).getD 0, wt := (numR s2).getD 0, bk := (numR s3).getD 0, cy := (numR s4).getD 0 }, true, ky, failE (failE (failE (failE e (numR s1)) (numR s2)) (numR s3)) (numR s4))) := Lib.hid (by
        unfold midR
        rw [if_pos (by unfold isWB; rw [hg0'.out]; exact q1)]
        unfold watchR
        rw [gs1, gs2, gs3, gs4])
      have f9 := frozenIn H0.out.hd 9
      clear es1 es2 es3 es4 gs1 gs2 gs3 gs4
      go_enter Tryz.func81, Tryz.ntmps81
      go_upto_region 4 with (go_at_call 107; refine (rMany_any _ _ _).mono ?_; rintro en w' ⟨rfl, rfl⟩)
      have P0 : PsHd (w.setCell ⟨g, 9, none⟩ (.bool true)) g m true ky e := by have := sets_block H0.out.hd 9 (.bool true); simpa [PsHd] using this
      have D0 : Mod (fun b => b = g) w (w.setCell ⟨g, 9, none⟩ (.bool true)) := (Mod.refl (fun b => b = g) w).setCell (p := ⟨g, 9, none⟩) (.inl rfl) _
      generalize w.setCell ⟨g, 9, none⟩ (.bool true) = X0 at *
      have MX0 : Mod (fun b => g ≤ b) w X0 := D0.weak fun b hb => Nat.le_of_eq hb.symm
      have gX0 := P0.lt
      have bX0 : b1 < X0.heap.size := Nat.lt_of_lt_of_le hb1 MX0.size
      go_upto_region 5 with (go_at_call 109; refine (rNum_any g (m) true ky (e) s1 _ P0 ez1).mono ?_; rintro en W1 ⟨rfl, p1, d1⟩; have h1c : W1.cell? ⟨g, 0, none⟩ = some (.int .i64 m.rt) := cellsAt p1 0; have h1f := frozenIn p1 0; have h1g := p1.lt)
      have P1 : PsHd (W1.setCell ⟨g, 0, none⟩ (.int .i64 ((numR s1).getD 0))) g ({ m with rt := (numR s1).getD 0 }) true ky (failE (e) (numR s1)) := by have := sets_block p1 0 (.int .i64 ((numR s1).getD 0)); simpa [PsHd] using this
      have D1 : Mod (fun b => b = g) w (W1.setCell ⟨g, 0, none⟩ (.int .i64 ((numR s1).getD 0))) := (D0.trans d1).setCell (p := ⟨g, 0, none⟩) (.inl rfl) _
      clear h1c h1f h1g
      generalize W1.setCell ⟨g, 0, none⟩ (.int .i64 ((numR s1).getD 0)) = X1 at *
      have MX1 : Mod (fun b => g ≤ b) w X1 := D1.weak fun b hb => Nat.le_of_eq hb.symm
      have gX1 := P1.lt
      have bX1 : b1 < X1.heap.size := Nat.lt_of_lt_of_le hb1 MX1.size
      go_upto_region 6 with (go_at_call 109; refine (rNum_any g ({ m with rt := (numR s1).getD 0 }) true ky (failE (e) (numR s1)) s2 _ P1 ez2).mono ?_; rintro en W2 ⟨rfl, p2, d2⟩; have h2c : W2.cell? ⟨g, 1, none⟩ = some (.int .i64 m.wt) := cellsAt p2 1; have h2f := frozenIn p2 1; have h2g := p2.lt)
      have P2 : PsHd (W2.setCell ⟨g, 1, none⟩ (.int .i64 ((numR s2).getD 0))) g ({ m with rt := (numR s1).getD 0, wt := (numR s2).getD 0 }) true ky (failE (failE (e) (numR s1)) (numR s2)) := by have := sets_block p2 1 (.int .i64 ((numR s2).getD 0)); simpa [PsHd] using this
      have D2 : Mod (fun b => b = g) w (W2.setCell ⟨g, 1, none⟩ (.int .i64 ((numR s2).getD 0))) := (D1.trans d2).setCell (p := ⟨g, 1, none⟩) (.inl rfl) _
      clear h2c h2f h2g
      generalize W2.setCell ⟨g, 1, none⟩ (.int .i64 ((numR s2).getD 0)) = X2 at *
      have MX2 : Mod (fun b => g ≤ b) w X2 := D2.weak fun b hb => Nat.le_of_eq hb.symm
      have gX2 := P2.lt
      have bX2 : b1 < X2.heap.size := Nat.lt_of_lt_of_le hb1 MX2.size
      go_upto_region 7 with (go_at_call 109; refine (rNum_any g ({ m with rt := (numR s1).getD 0, wt := (numR s2).getD 0 }) true ky (failE (failE (e) (numR s1)) (numR s2)) s3 _ P2 ez3).mono ?_; rintro en W3 ⟨rfl, p3, d3⟩; have h3c : W3.cell? ⟨g, 2, none⟩ = some (.int .i64 m.bk) := cellsAt p3 2; have h3f := frozenIn p3 2; have h3g := p3.lt)
      have P3 : PsHd (W3.setCell ⟨g, 2, none⟩ (.int .i64 ((numR s3).getD 0))) g ({ m with rt := (numR s1).getD 0, wt := (numR s2).getD 0, bk := (numR s3).getD 0 }) true ky (failE (failE (failE (e) (numR s1)) (numR s2)) (numR s3)) := by have := sets_block p3 2 (.int .i64 ((numR s3).getD 0)); simpa [PsHd] using this
      have D3 : Mod (fun b => b = g) w (W3.setCell ⟨g, 2, none⟩ (.int .i64 ((numR s3).getD 0))) := (D2.trans d3).setCell (p := ⟨g, 2, none⟩) (.inl rfl) _
      clear h3c h3f h3g
      generalize W3.setCell ⟨g, 2, none⟩ (.int .i64 ((numR s3).getD 0)) = X3 at *
      have MX3 : Mod (fun b => g ≤ b) w X3 := D3.weak fun b hb => Nat.le_of_eq hb.symm
      have gX3 := P3.lt
      have bX3 : b1 < X3.heap.size := Nat.lt_of_lt_of_le hb1 MX3.size
      go_upto_region 12 with (go_at_call 109; refine (rNum_any g ({ m with rt := (numR s1).getD 0, wt := (numR s2).getD 0, bk := (numR s3).getD 0 }) true ky (failE (failE (failE (e) (numR s1)) (numR s2)) (numR s3)) s4 _ P3 ez4).mono ?_; rintro en W4 ⟨rfl, p4, d4⟩; have h4c : W4.cell? ⟨g, 3, none⟩ = some (.int .i64 m.cy) := cellsAt p4 3; have h4f := frozenIn p4 3; have h4g := p4.lt)
      have P4 : PsHd (W4.setCell ⟨g, 3, none⟩ (.int .i64 ((numR s4).getD 0))) g ({ m with rt := (numR s1).getD 0, wt := (numR s2).getD 0, bk := (numR s3).getD 0, cy := (numR s4).getD 0 }) true ky (failE (failE (failE (failE (e) (numR s1)) (numR s2)) (numR s3)) (numR s4)) := by have := sets_block p4 3 (.int .i64 ((numR s4).getD 0)); simpa [PsHd] using this
      have D4 : Mod (fun b => b = g) w (W4.setCell ⟨g, 3, none⟩ (.int .i64 ((numR s4).getD 0))) := (D3.trans d4).setCell (p := ⟨g, 3, none⟩) (.inl rfl) _
      clear h4c h4f h4g
      generalize W4.setCell ⟨g, 3, none⟩ (.int .i64 ((numR s4).getD 0)) = X4 at *
      have HX0 := H0.out.turn D4 (rt := (numR s1).getD 0) (wn := (numR s2).getD 0) (bk := (numR s3).getD 0) (cy := (numR s4).getD 0) (key := m.key) P4 H0.out.ksz
      have HX := Lib.hid HX0
      have MX : Mod (fun b => g ≤ b) w X4 := D4.weak fun b hb => Nat.le_of_eq hb.symm
      obtain ⟨X, hX⟩ : ∃ X, X = X4 := ⟨_, rfl⟩
      subst hX
      obtain ⟨mm, hmm⟩ : ∃ mm : Mx, mm = { m with rt := (numR s1).getD 0, wt := (numR s2).getD 0, bk := (numR s3).getD 0, cy := (numR s4).getD 0 } := ⟨_, rfl⟩
      have hbm : mm.bareR = { m.bareR with rt := (numR s1).getD 0, wt := (numR s2).getD 0, bk := (numR s3).getD 0, cy := (numR s4).getD 0 } := by rw [hmm]; rfl
      have hbn : Hid (mm.nd = m.nd ∧ mm.np = m.np ∧ mm.nc = m.nc ∧ mm.ne = m.ne) := Lib.hid (by rw [hmm]; exact ⟨rfl, rfl, rfl, rfl⟩)
      rw [← hbm] at hmid
      rw [← hmm] at HX
      clear hmm hbm HX0 P4 D4
      cases ky with
      | true =>
        have hgX := HX.out.hd.lt
        have hcX := cellsAt HX.out.hd
        have j0 : X.cell? ⟨g, 0, none⟩ = some (.int .i64 mm.rt) := hcX 0
        have j1 : X.cell? ⟨g, 1, none⟩ = some (.int .i64 mm.wt) := hcX 1
        have j2 : X.cell? ⟨g, 2, none⟩ = some (.int .i64 mm.bk) := hcX 2
        have j3 : X.cell? ⟨g, 3, none⟩ = some (.int .i64 mm.cy) := hcX 3
        have j4 : X.cell? ⟨g, 4, none⟩ = some (.string mm.key) := hcX 4
        have j5 : X.cell? ⟨g, 5, none⟩ = some (.slice mm.Ad mm.nd mm.cd) := hcX 5
        have j6 : X.cell? ⟨g, 6, none⟩ = some (.slice mm.Ap mm.np mm.cp) := hcX 6
        have j7 : X.cell? ⟨g, 7, none⟩ = some (.slice mm.Ac mm.nc mm.cc) := hcX 7
        have j8 : X.cell? ⟨g, 8, none⟩ = some (.slice mm.Ae mm.ne mm.ce) := hcX 8
        have j9 : X.cell? ⟨g, 9, none⟩ = some (.bool true) := hcX 9
        have j10 : X.cell? ⟨g, 10, none⟩ = some (.bool true) := hcX 10
        have EX := (Ext.refl X).goA (.cells #[.int .i64 mm.rt, .int .i64 mm.wt, .int .i64 mm.bk, .int .i64 mm.cy, .string mm.key, .slice mm.Ad mm.nd mm.cd, .slice mm.Ap mm.np mm.cp, .slice mm.Ac mm.nc mm.cc, .slice mm.Ae mm.ne mm.ce] 27)
        clear hcX
        go_upto_region 18 with fail
        have BV := heap_alloc_new X (.cells #[.int .i64 mm.rt, .int .i64 mm.wt, .int .i64 mm.bk, .int .i64 mm.cy, .string mm.key, .slice mm.Ad mm.nd mm.cd, .slice mm.Ap mm.np mm.cp, .slice mm.Ac mm.nc mm.cc, .slice mm.Ae mm.ne mm.ce] 27)
        generalize X.alloc (.cells #[.int .i64 mm.rt, .int .i64 mm.wt, .int .i64 mm.bk, .int .i64 mm.cy, .string mm.key, .slice mm.Ad mm.nd mm.cd, .slice mm.Ap mm.np mm.cp, .slice mm.Ac mm.nc mm.cc, .slice mm.Ae mm.ne mm.ce] 27) = V at *
        have gBV := lt_of_block BV
        have r0 : V.cell? ⟨X.heap.size, 0, none⟩ = some (.int .i64 mm.rt) := cellsAt BV 0
        have r1 : V.cell? ⟨X.heap.size, 1, none⟩ = some (.int .i64 mm.wt) := cellsAt BV 1
        have r2 : V.cell? ⟨X.heap.size, 2, none⟩ = some (.int .i64 mm.bk) := cellsAt BV 2
        have r3 : V.cell? ⟨X.heap.size, 3, none⟩ = some (.int .i64 mm.cy) := cellsAt BV 3
        have r4 : V.cell? ⟨X.heap.size, 4, none⟩ = some (.string mm.key) := cellsAt BV 4
        have r5 : V.cell? ⟨X.heap.size, 5, none⟩ = some (.slice mm.Ad mm.nd mm.cd) := cellsAt BV 5
        have r6 : V.cell? ⟨X.heap.size, 6, none⟩ = some (.slice mm.Ap mm.np mm.cp) := cellsAt BV 6
        have r7 : V.cell? ⟨X.heap.size, 7, none⟩ = some (.slice mm.Ac mm.nc mm.cc) := cellsAt BV 7
        have r8 : V.cell? ⟨X.heap.size, 8, none⟩ = some (.slice mm.Ae mm.ne mm.ce) := cellsAt BV 8
        clear BV
        have HV := Lib.hid (HX.out.ext EX)
        clear j0 j1 j2 j3 j4 j5 j6 j7 j8 j9 j10
        have hrr : Hid (rightM (patchM mm.bareR true true) = rightM (patchM mm true true)) := Lib.hid (rightM_bareR (patchM mm true true))
        cases hr : rightM (patchM mm true true) with
        | true =>
          have hfin : Hid (lineR m.bareR false true e ws = (mm.bareR, true, true, failE (failE (failE (failE (e) (numR s1)) (numR s2)) (numR s3)) (numR s4))) := Lib.hid (by rw [hl.out, hmid.out]; dsimp only; rw [hrr.out, hr]; rfl)
          go_wp2_with (go_at_call 111; refine (rRight_any (patchM mm true true) _ (HV.out.ok.patch true true) (HV.out.ksz) HV.out.nsz).mono ?_; rintro en V2 ⟨rfl, Y2⟩)
          refine bodyPost_ret (results_none rfl _ _ _) rfl ?_
          rw [hfin.out]
          exact ⟨rfl, mm, HV.out.ext Y2, rfl, (MX.trans (EX.mod _)).trans (Y2.mod _), by have := hbn.out; omega, by have := hbn.out; omega, by have := hbn.out; omega, by have := hbn.out; omega⟩
        | false =>
          have hfin : Hid (lineR m.bareR false true e ws = (mm.bareR, true, true, orE (failE (failE (failE (failE (e) (numR s1)) (numR s2)) (numR s3)) (numR s4)) 81)) := Lib.hid (by rw [hl.out, hmid.out]; dsimp only; rw [hrr.out, hr]; rfl)
          go_wp2_with (first | (go_at_call 108; refine (rFail_any g mm true true (failE (failE (failE (failE (e) (numR s1)) (numR s2)) (numR s3)) (numR s4)) 81 _ (HV.out.ext Y2).hd).mono ?_; rintro en W9 ⟨rfl, p9, d9⟩) | (go_at_call 111; refine (rRight_any (patchM mm true true) _ (HV.out.ok.patch true true) (HV.out.ksz) HV.out.nsz).mono ?_; rintro en V2 ⟨rfl, Y2⟩))
          refine bodyPost_ret (results_none rfl _ _ _) rfl ?_
          rw [hfin.out]
          exact ⟨rfl, mm, (HV.out.ext Y2).modG d9 p9, rfl, ((MX.trans (EX.mod _)).trans (Y2.mod _)).trans (d9.weak fun b hb => Nat.le_of_eq hb.symm), by have := hbn.out; omega, by have := hbn.out; omega, by have := hbn.out; omega, by have := hbn.out; omega⟩
      | false =>
        have hgX := HX.out.hd.lt
        have hcX := cellsAt HX.out.hd
        have j0 : X.cell? ⟨g, 0, none⟩ = some (.int .i64 mm.rt) := hcX 0
        have j1 : X.cell? ⟨g, 1, none⟩ = some (.int .i64 mm.wt) := hcX 1
        have j2 : X.cell? ⟨g, 2, none⟩ = some (.int .i64 mm.bk) := hcX 2
        have j3 : X.cell? ⟨g, 3, none⟩ = some (.int .i64 mm.cy) := hcX 3
        have j4 : X.cell? ⟨g, 4, none⟩ = some (.string mm.key) := hcX 4
        have j5 : X.cell? ⟨g, 5, none⟩ = some (.slice mm.Ad mm.nd mm.cd) := hcX 5
        have j6 : X.cell? ⟨g, 6, none⟩ = some (.slice mm.Ap mm.np mm.cp) := hcX 6
        have j7 : X.cell? ⟨g, 7, none⟩ = some (.slice mm.Ac mm.nc mm.cc) := hcX 7
        have j8 : X.cell? ⟨g, 8, none⟩ = some (.slice mm.Ae mm.ne mm.ce) := hcX 8
        have j9 : X.cell? ⟨g, 9, none⟩ = some (.bool true) := hcX 9
        have j10 : X.cell? ⟨g, 10, none⟩ = some (.bool false) := hcX 10
        have EX := (Ext.refl X).goA (.cells #[.int .i64 mm.rt, .int .i64 mm.wt, .int .i64 mm.bk, .int .i64 mm.cy, .string ⟨#[48, 48, 48, 48, 48, 48, 48, 48, 48, 48, 48, 48, 48, 48, 48, 48]⟩, .slice mm.Ad mm.nd mm.cd, .slice mm.Ap mm.np mm.cp, .slice mm.Ac mm.nc mm.cc, .slice mm.Ae mm.ne mm.ce] 27)
        clear hcX
        go_upto_region 18 with fail
        have BV := heap_alloc_new X (.cells #[.int .i64 mm.rt, .int .i64 mm.wt, .int .i64 mm.bk, .int .i64 mm.cy, .string ⟨#[48, 48, 48, 48, 48, 48, 48, 48, 48, 48, 48, 48, 48, 48, 48, 48]⟩, .slice mm.Ad mm.nd mm.cd, .slice mm.Ap mm.np mm.cp, .slice mm.Ac mm.nc mm.cc, .slice mm.Ae mm.ne mm.ce] 27)
        generalize X.alloc (.cells #[.int .i64 mm.rt, .int .i64 mm.wt, .int .i64 mm.bk, .int .i64 mm.cy, .string ⟨#[48, 48, 48, 48, 48, 48, 48, 48, 48, 48, 48, 48, 48, 48, 48, 48]⟩, .slice mm.Ad mm.nd mm.cd, .slice mm.Ap mm.np mm.cp, .slice mm.Ac mm.nc mm.cc, .slice mm.Ae mm.ne mm.ce] 27) = V at *
        have gBV := lt_of_block BV
        have r0 : V.cell? ⟨X.heap.size, 0, none⟩ = some (.int .i64 mm.rt) := cellsAt BV 0
        have r1 : V.cell? ⟨X.heap.size, 1, none⟩ = some (.int .i64 mm.wt) := cellsAt BV 1
        have r2 : V.cell? ⟨X.heap.size, 2, none⟩ = some (.int .i64 mm.bk) := cellsAt BV 2
        have r3 : V.cell? ⟨X.heap.size, 3, none⟩ = some (.int .i64 mm.cy) := cellsAt BV 3
        have r4 : V.cell? ⟨X.heap.size, 4, none⟩ = some (.string ⟨#[48, 48, 48, 48, 48, 48, 48, 48, 48, 48, 48, 48, 48, 48, 48, 48]⟩) := cellsAt BV 4
        have r5 : V.cell? ⟨X.heap.size, 5, none⟩ = some (.slice mm.Ad mm.nd mm.cd) := cellsAt BV 5
        have r6 : V.cell? ⟨X.heap.size, 6, none⟩ = some (.slice mm.Ap mm.np mm.cp) := cellsAt BV 6
        have r7 : V.cell? ⟨X.heap.size, 7, none⟩ = some (.slice mm.Ac mm.nc mm.cc) := cellsAt BV 7
        have r8 : V.cell? ⟨X.heap.size, 8, none⟩ = some (.slice mm.Ae mm.ne mm.ce) := cellsAt BV 8
        clear BV
        have HV := Lib.hid (HX.out.ext EX)
        clear j0 j1 j2 j3 j4 j5 j6 j7 j8 j9 j10
        have hrr : Hid (rightM (patchM mm.bareR true false) = rightM (patchM mm true false)) := Lib.hid (rightM_bareR (patchM mm true false))
        cases hr : rightM (patchM mm true false) with
        | true =>
          have hfin : Hid (lineR m.bareR false false e ws = (mm.bareR, true, false, failE (failE (failE (failE (e) (numR s1)) (numR s2)) (numR s3)) (numR s4))) := Lib.hid (by rw [hl.out, hmid.out]; dsimp only; rw [hrr.out, hr]; rfl)
          go_wp2_with (go_at_call 111; refine (rRight_any (patchM mm true false) _ (HV.out.ok.patch true false) (by show (16 : Nat) ≤ maxLen; unfold maxLen; omega) HV.out.nsz).mono ?_; rintro en V2 ⟨rfl, Y2⟩)
          refine bodyPost_ret (results_none rfl _ _ _) rfl ?_
          rw [hfin.out]
          exact ⟨rfl, mm, HV.out.ext Y2, rfl, (MX.trans (EX.mod _)).trans (Y2.mod _), by have := hbn.out; omega, by have := hbn.out; omega, by have := hbn.out; omega, by have := hbn.out; omega⟩
        | false =>
          have hfin : Hid (lineR m.bareR false false e ws = (mm.bareR, true, false, orE (failE (failE (failE (failE (e) (numR s1)) (numR s2)) (numR s3)) (numR s4)) 81)) := Lib.hid (by rw [hl.out, hmid.out]; dsimp only; rw [hrr.out, hr]; rfl)
          go_wp2_with (first | (go_at_call 108; refine (rFail_any g mm true false (failE (failE (failE (failE (e) (numR s1)) (numR s2)) (numR s3)) (numR s4)) 81 _ (HV.out.ext Y2).hd).mono ?_; rintro en W9 ⟨rfl, p9, d9⟩) | (go_at_call 111; refine (rRight_any (patchM mm true false) _ (HV.out.ok.patch true false) (by show (16 : Nat) ≤ maxLen; unfold maxLen; omega) HV.out.nsz).mono ?_; rintro en V2 ⟨rfl, Y2⟩))
          refine bodyPost_ret (results_none rfl _ _ _) rfl ?_
          rw [hfin.out]
          exact ⟨rfl, mm, (HV.out.ext Y2).modG d9 p9, rfl, ((MX.trans (EX.mod _)).trans (Y2.mod _)).trans (d9.weak fun b hb => Nat.le_of_eq hb.symm), by have := hbn.out; omega, by have := hbn.out; omega, by have := hbn.out; omega, by have := hbn.out; omega⟩
    · obtain ⟨s1, es1, ez1, x1⟩ := hat'.out 1 (by omega)
      have gs1 : ws.getD 1 ByteArray.empty = s1 := by rw [List.getD_eq_getElem?_getD, es1]; rfl
      have v1 : (1 : Int) < ((2 : Nat) : Int) := by decide
      have hmid : Hid (midR m.bareR wt false e ws = ({ m.bareR with key := s1 }, wt, true, e)) := Lib.hid (by
        unfold midR
        rw [if_neg (by unfold isWB; rw [hg0'.out]; show ¬ (s0.toList == kWatch) = true; rw [show (s0.toList == kWatch) = false from q1]; decide), if_pos (by unfold isKB; rw [hg0'.out]; exact q2), gs1])
      have f10 := frozenIn H0.out.hd 10
      clear es1 gs1
      go_enter Tryz.func81, Tryz.ntmps81
      go_upto_region 10 with (go_at_call 107; refine (rMany_any _ _ _).mono ?_; rintro en w' ⟨rfl, rfl⟩)
      have P0 : PsHd (w.setCell ⟨g, 10, none⟩ (.bool true)) g m wt true e := by have := sets_block H0.out.hd 10 (.bool true); simpa [PsHd] using this
      have D0 : Mod (fun b => b = g) w (w.setCell ⟨g, 10, none⟩ (.bool true)) := (Mod.refl (fun b => b = g) w).setCell (p := ⟨g, 10, none⟩) (.inl rfl) _
      generalize w.setCell ⟨g, 10, none⟩ (.bool true) = X0 at *
      have MX0 : Mod (fun b => g ≤ b) w X0 := D0.weak fun b hb => Nat.le_of_eq hb.symm
      have gX0 := P0.lt
      have bX0 : b1 < X0.heap.size := Nat.lt_of_lt_of_le hb1 MX0.size
      have c4 : X0.cell? ⟨g, 4, none⟩ = some (.string m.key) := cellsAt P0 4
      have f4 := frozenIn P0 4
      go_upto_region 12 with fail
      have P4 : PsHd (X0.setCell ⟨g, 4, none⟩ (.string s1)) g { m with key := s1 } wt true e := by have := sets_block P0 4 (.string s1); simpa [PsHd] using this
      have D4 : Mod (fun b => b = g) w (X0.setCell ⟨g, 4, none⟩ (.string s1)) := D0.setCell (p := ⟨g, 4, none⟩) (.inl rfl) _
      clear c4 f4
      generalize X0.setCell ⟨g, 4, none⟩ (.string s1) = X at *
      have HX0 := H0.out.turn D4 (rt := m.rt) (wn := m.wt) (bk := m.bk) (cy := m.cy) (key := s1) P4 ez1
      have HX := Lib.hid HX0
      have MX : Mod (fun b => g ≤ b) w X := D4.weak fun b hb => Nat.le_of_eq hb.symm
      obtain ⟨mm, hmm⟩ : ∃ mm : Mx, mm = { m with rt := m.rt, wt := m.wt, bk := m.bk, cy := m.cy, key := s1 } := ⟨_, rfl⟩
      have hbm : mm.bareR = { m.bareR with key := s1 } := by rw [hmm]; rfl
      have hbn : Hid (mm.nd = m.nd ∧ mm.np = m.np ∧ mm.nc = m.nc ∧ mm.ne = m.ne) := Lib.hid (by rw [hmm]; exact ⟨rfl, rfl, rfl, rfl⟩)
      rw [← hbm] at hmid
      rw [← hmm] at HX
      clear hmm hbm HX0 P4 D4
      cases wt with
      | true =>
        have hgX := HX.out.hd.lt
        have hcX := cellsAt HX.out.hd
        have j0 : X.cell? ⟨g, 0, none⟩ = some (.int .i64 mm.rt) := hcX 0
        have j1 : X.cell? ⟨g, 1, none⟩ = some (.int .i64 mm.wt) := hcX 1
        have j2 : X.cell? ⟨g, 2, none⟩ = some (.int .i64 mm.bk) := hcX 2
        have j3 : X.cell? ⟨g, 3, none⟩ = some (.int .i64 mm.cy) := hcX 3
        have j4 : X.cell? ⟨g, 4, none⟩ = some (.string mm.key) := hcX 4
        have j5 : X.cell? ⟨g, 5, none⟩ = some (.slice mm.Ad mm.nd mm.cd) := hcX 5
        have j6 : X.cell? ⟨g, 6, none⟩ = some (.slice mm.Ap mm.np mm.cp) := hcX 6
        have j7 : X.cell? ⟨g, 7, none⟩ = some (.slice mm.Ac mm.nc mm.cc) := hcX 7
        have j8 : X.cell? ⟨g, 8, none⟩ = some (.slice mm.Ae mm.ne mm.ce) := hcX 8
        have j9 : X.cell? ⟨g, 9, none⟩ = some (.bool true) := hcX 9
        have j10 : X.cell? ⟨g, 10, none⟩ = some (.bool true) := hcX 10
        have EX := (Ext.refl X).goA (.cells #[.int .i64 mm.rt, .int .i64 mm.wt, .int .i64 mm.bk, .int .i64 mm.cy, .string mm.key, .slice mm.Ad mm.nd mm.cd, .slice mm.Ap mm.np mm.cp, .slice mm.Ac mm.nc mm.cc, .slice mm.Ae mm.ne mm.ce] 27)
        clear hcX
        go_upto_region 18 with fail
        have BV := heap_alloc_new X (.cells #[.int .i64 mm.rt, .int .i64 mm.wt, .int .i64 mm.bk, .int .i64 mm.cy, .string mm.key, .slice mm.Ad mm.nd mm.cd, .slice mm.Ap mm.np mm.cp, .slice mm.Ac mm.nc mm.cc, .slice mm.Ae mm.ne mm.ce] 27)
        generalize X.alloc (.cells #[.int .i64 mm.rt, .int .i64 mm.wt, .int .i64 mm.bk, .int .i64 mm.cy, .string mm.key, .slice mm.Ad mm.nd mm.cd, .slice mm.Ap mm.np mm.cp, .slice mm.Ac mm.nc mm.cc, .slice mm.Ae mm.ne mm.ce] 27) = V at *
        have gBV := lt_of_block BV
        have r0 : V.cell? ⟨X.heap.size, 0, none⟩ = some (.int .i64 mm.rt) := cellsAt BV 0
        have r1 : V.cell? ⟨X.heap.size, 1, none⟩ = some (.int .i64 mm.wt) := cellsAt BV 1
        have r2 : V.cell? ⟨X.heap.size, 2, none⟩ = some (.int .i64 mm.bk) := cellsAt BV 2
        have r3 : V.cell? ⟨X.heap.size, 3, none⟩ = some (.int .i64 mm.cy) := cellsAt BV 3
        have r4 : V.cell? ⟨X.heap.size, 4, none⟩ = some (.string mm.key) := cellsAt BV 4
        have r5 : V.cell? ⟨X.heap.size, 5, none⟩ = some (.slice mm.Ad mm.nd mm.cd) := cellsAt BV 5
        have r6 : V.cell? ⟨X.heap.size, 6, none⟩ = some (.slice mm.Ap mm.np mm.cp) := cellsAt BV 6
        have r7 : V.cell? ⟨X.heap.size, 7, none⟩ = some (.slice mm.Ac mm.nc mm.cc) := cellsAt BV 7
        have r8 : V.cell? ⟨X.heap.size, 8, none⟩ = some (.slice mm.Ae mm.ne mm.ce) := cellsAt BV 8
        clear BV
        have HV := Lib.hid (HX.out.ext EX)
        clear j0 j1 j2 j3 j4 j5 j6 j7 j8 j9 j10
        have hrr : Hid (rightM (patchM mm.bareR true true) = rightM (patchM mm true true)) := Lib.hid (rightM_bareR (patchM mm true true))
        cases hr : rightM (patchM mm true true) with
        | true =>
          have hfin : Hid (lineR m.bareR true false e ws = (mm.bareR, true, true, e)) := Lib.hid (by rw [hl.out, hmid.out]; dsimp only; rw [hrr.out, hr]; rfl)
          go_wp2_with (go_at_call 111; refine (rRight_any (patchM mm true true) _ (HV.out.ok.patch true true) (HV.out.ksz) HV.out.nsz).mono ?_; rintro en V2 ⟨rfl, Y2⟩)
          refine bodyPost_ret (results_none rfl _ _ _) rfl ?_
          rw [hfin.out]
          exact ⟨rfl, mm, HV.out.ext Y2, rfl, (MX.trans (EX.mod _)).trans (Y2.mod _), by have := hbn.out; omega, by have := hbn.out; omega, by have := hbn.out; omega, by have := hbn.out; omega⟩
        | false =>
          have hfin : Hid (lineR m.bareR true false e ws = (mm.bareR, true, true, orE (e) 81)) := Lib.hid (by rw [hl.out, hmid.out]; dsimp only; rw [hrr.out, hr]; rfl)
          go_wp2_with (first | (go_at_call 108; refine (rFail_any g mm true true (e) 81 _ (HV.out.ext Y2).hd).mono ?_; rintro en W9 ⟨rfl, p9, d9⟩) | (go_at_call 111; refine (rRight_any (patchM mm true true) _ (HV.out.ok.patch true true) (HV.out.ksz) HV.out.nsz).mono ?_; rintro en V2 ⟨rfl, Y2⟩))
          refine bodyPost_ret (results_none rfl _ _ _) rfl ?_
          rw [hfin.out]
          exact ⟨rfl, mm, (HV.out.ext Y2).modG d9 p9, rfl, ((MX.trans (EX.mod _)).trans (Y2.mod _)).trans (d9.weak fun b hb => Nat.le_of_eq hb.symm), by have := hbn.out; omega, by have := hbn.out; omega, by have := hbn.out; omega, by have := hbn.out; omega⟩
      | false =>
        have hgX := HX.out.hd.lt
        have hcX := cellsAt HX.out.hd
        have j0 : X.cell? ⟨g, 0, none⟩ = some (.int .i64 mm.rt) := hcX 0
        have j1 : X.cell? ⟨g, 1, none⟩ = some (.int .i64 mm.wt) := hcX 1
        have j2 : X.cell? ⟨g, 2, none⟩ = some (.int .i64 mm.bk) := hcX 2
        have j3 : X.cell? ⟨g, 3, none⟩ = some (.int .i64 mm.cy) := hcX 3
        have j4 : X.cell? ⟨g, 4, none⟩ = some (.string mm.key) := hcX 4
        have j5 : X.cell? ⟨g, 5, none⟩ = some (.slice mm.Ad mm.nd mm.cd) := hcX 5
        have j6 : X.cell? ⟨g, 6, none⟩ = some (.slice mm.Ap mm.np mm.cp) := hcX 6
        have j7 : X.cell? ⟨g, 7, none⟩ = some (.slice mm.Ac mm.nc mm.cc) := hcX 7
        have j8 : X.cell? ⟨g, 8, none⟩ = some (.slice mm.Ae mm.ne mm.ce) := hcX 8
        have j9 : X.cell? ⟨g, 9, none⟩ = some (.bool false) := hcX 9
        have j10 : X.cell? ⟨g, 10, none⟩ = some (.bool true) := hcX 10
        have EX := (Ext.refl X).goA (.cells #[.int .i64 mm.rt, .int .i64 1, .int .i64 mm.bk, .int .i64 1, .string mm.key, .slice mm.Ad mm.nd mm.cd, .slice mm.Ap mm.np mm.cp, .slice mm.Ac mm.nc mm.cc, .slice mm.Ae mm.ne mm.ce] 27)
        clear hcX
        go_upto_region 18 with fail
        have BV := heap_alloc_new X (.cells #[.int .i64 mm.rt, .int .i64 1, .int .i64 mm.bk, .int .i64 1, .string mm.key, .slice mm.Ad mm.nd mm.cd, .slice mm.Ap mm.np mm.cp, .slice mm.Ac mm.nc mm.cc, .slice mm.Ae mm.ne mm.ce] 27)
        generalize X.alloc (.cells #[.int .i64 mm.rt, .int .i64 1, .int .i64 mm.bk, .int .i64 1, .string mm.key, .slice mm.Ad mm.nd mm.cd, .slice mm.Ap mm.np mm.cp, .slice mm.Ac mm.nc mm.cc, .slice mm.Ae mm.ne mm.ce] 27) = V at *
        have gBV := lt_of_block BV
        have r0 : V.cell? ⟨X.heap.size, 0, none⟩ = some (.int .i64 mm.rt) := cellsAt BV 0
        have r1 : V.cell? ⟨X.heap.size, 1, none⟩ = some (.int .i64 1) := cellsAt BV 1
        have r2 : V.cell? ⟨X.heap.size, 2, none⟩ = some (.int .i64 mm.bk) := cellsAt BV 2
        have r3 : V.cell? ⟨X.heap.size, 3, none⟩ = some (.int .i64 1) := cellsAt BV 3
        have r4 : V.cell? ⟨X.heap.size, 4, none⟩ = some (.string mm.key) := cellsAt BV 4
        have r5 : V.cell? ⟨X.heap.size, 5, none⟩ = some (.slice mm.Ad mm.nd mm.cd) := cellsAt BV 5
        have r6 : V.cell? ⟨X.heap.size, 6, none⟩ = some (.slice mm.Ap mm.np mm.cp) := cellsAt BV 6
        have r7 : V.cell? ⟨X.heap.size, 7, none⟩ = some (.slice mm.Ac mm.nc mm.cc) := cellsAt BV 7
        have r8 : V.cell? ⟨X.heap.size, 8, none⟩ = some (.slice mm.Ae mm.ne mm.ce) := cellsAt BV 8
        clear BV
        have HV := Lib.hid (HX.out.ext EX)
        clear j0 j1 j2 j3 j4 j5 j6 j7 j8 j9 j10
        have hrr : Hid (rightM (patchM mm.bareR false true) = rightM (patchM mm false true)) := Lib.hid (rightM_bareR (patchM mm false true))
        cases hr : rightM (patchM mm false true) with
        | true =>
          have hfin : Hid (lineR m.bareR false false e ws = (mm.bareR, false, true, e)) := Lib.hid (by rw [hl.out, hmid.out]; dsimp only; rw [hrr.out, hr]; rfl)
          go_wp2_with (go_at_call 111; refine (rRight_any (patchM mm false true) _ (HV.out.ok.patch false true) (HV.out.ksz) HV.out.nsz).mono ?_; rintro en V2 ⟨rfl, Y2⟩)
          refine bodyPost_ret (results_none rfl _ _ _) rfl ?_
          rw [hfin.out]
          exact ⟨rfl, mm, HV.out.ext Y2, rfl, (MX.trans (EX.mod _)).trans (Y2.mod _), by have := hbn.out; omega, by have := hbn.out; omega, by have := hbn.out; omega, by have := hbn.out; omega⟩
        | false =>
          have hfin : Hid (lineR m.bareR false false e ws = (mm.bareR, false, true, orE (e) 81)) := Lib.hid (by rw [hl.out, hmid.out]; dsimp only; rw [hrr.out, hr]; rfl)
          go_wp2_with (first | (go_at_call 108; refine (rFail_any g mm false true (e) 81 _ (HV.out.ext Y2).hd).mono ?_; rintro en W9 ⟨rfl, p9, d9⟩) | (go_at_call 111; refine (rRight_any (patchM mm false true) _ (HV.out.ok.patch false true) (HV.out.ksz) HV.out.nsz).mono ?_; rintro en V2 ⟨rfl, Y2⟩))
          refine bodyPost_ret (results_none rfl _ _ _) rfl ?_
          rw [hfin.out]
          exact ⟨rfl, mm, (HV.out.ext Y2).modG d9 p9, rfl, ((MX.trans (EX.mod _)).trans (Y2.mod _)).trans (d9.weak fun b hb => Nat.le_of_eq hb.symm), by have := hbn.out; omega, by have := hbn.out; omega, by have := hbn.out; omega, by have := hbn.out; omega⟩
    · have hmid0 : Hid (midR m.bareR wt ky e ws = ((thingR m.bareR e ws).1, wt, ky, (thingR m.bareR e ws).2)) := Lib.hid (by
        unfold midR
        rw [if_neg (by unfold isWB; rw [hg0'.out]; show ¬ (s0.toList == kWatch) = true; rw [show (s0.toList == kWatch) = false from q1]; decide), if_neg (by unfold isKB; rw [hg0'.out]; show ¬ (s0.toList == kKey) = true; rw [show (s0.toList == kKey) = false from q2]; decide)])
      have hth := Lib.hid (rThing_any g m wt ky e _ n c ws w H0.out hw'.out hnc (by omega) (by rw [hg0'.out]; exact hm) (by rw [hg0'.out]; exact q1) (by rw [hg0'.out]; exact q2))
      obtain ⟨te, hte⟩ : ∃ te, te = thingR m.bareR e ws := ⟨_, rfl⟩
      rw [← hte] at hmid0 hth
      clear hte
      go_enter Tryz.func81, Tryz.ntmps81
      go_upto_region 12 with (first | (go_at_call 110; refine hth.out.mono ?_; rintro en X ⟨rfl, mm, hX1, hX2, MX, hbn⟩) | (go_at_call 107; refine (rMany_any _ _ _).mono ?_; rintro en w' ⟨rfl, rfl⟩))
      have HX := Lib.hid hX1
      have hmid : Hid (midR m.bareR wt ky e ws = (mm.bareR, wt, ky, te.2)) := Lib.hid (by rw [hmid0.out, hX2])
      clear hX1 hX2 hmid0 hth
      cases wt with
      | true =>
        cases ky with
        | true =>
          have hgX := HX.out.hd.lt
          have hcX := cellsAt HX.out.hd
          have j0 : X.cell? ⟨g, 0, none⟩ = some (.int .i64 mm.rt) := hcX 0
          have j1 : X.cell? ⟨g, 1, none⟩ = some (.int .i64 mm.wt) := hcX 1
          have j2 : X.cell? ⟨g, 2, none⟩ = some (.int .i64 mm.bk) := hcX 2
          have j3 : X.cell? ⟨g, 3, none⟩ = some (.int .i64 mm.cy) := hcX 3
          have j4 : X.cell? ⟨g, 4, none⟩ = some (.string mm.key) := hcX 4
          have j5 : X.cell? ⟨g, 5, none⟩ = some (.slice mm.Ad mm.nd mm.cd) := hcX 5
          have j6 : X.cell? ⟨g, 6, none⟩ = some (.slice mm.Ap mm.np mm.cp) := hcX 6
          have j7 : X.cell? ⟨g, 7, none⟩ = some (.slice mm.Ac mm.nc mm.cc) := hcX 7
          have j8 : X.cell? ⟨g, 8, none⟩ = some (.slice mm.Ae mm.ne mm.ce) := hcX 8
          have j9 : X.cell? ⟨g, 9, none⟩ = some (.bool true) := hcX 9
          have j10 : X.cell? ⟨g, 10, none⟩ = some (.bool true) := hcX 10
          have EX := (Ext.refl X).goA (.cells #[.int .i64 mm.rt, .int .i64 mm.wt, .int .i64 mm.bk, .int .i64 mm.cy, .string mm.key, .slice mm.Ad mm.nd mm.cd, .slice mm.Ap mm.np mm.cp, .slice mm.Ac mm.nc mm.cc, .slice mm.Ae mm.ne mm.ce] 27)
          clear hcX
          go_upto_region 18 with fail
          have BV := heap_alloc_new X (.cells #[.int .i64 mm.rt, .int .i64 mm.wt, .int .i64 mm.bk, .int .i64 mm.cy, .string mm.key, .slice mm.Ad mm.nd mm.cd, .slice mm.Ap mm.np mm.cp, .slice mm.Ac mm.nc mm.cc, .slice mm.Ae mm.ne mm.ce] 27)
          generalize X.alloc (.cells #[.int .i64 mm.rt, .int .i64 mm.wt, .int .i64 mm.bk, .int .i64 mm.cy, .string mm.key, .slice mm.Ad mm.nd mm.cd, .slice mm.Ap mm.np mm.cp, .slice mm.Ac mm.nc mm.cc, .slice mm.Ae mm.ne mm.ce] 27) = V at *
          have gBV := lt_of_block BV
          have r0 : V.cell? ⟨X.heap.size, 0, none⟩ = some (.int .i64 mm.rt) := cellsAt BV 0
          have r1 : V.cell? ⟨X.heap.size, 1, none⟩ = some (.int .i64 mm.wt) := cellsAt BV 1
          have r2 : V.cell? ⟨X.heap.size, 2, none⟩ = some (.int .i64 mm.bk) := cellsAt BV 2
          have r3 : V.cell? ⟨X.heap.size, 3, none⟩ = some (.int .i64 mm.cy) := cellsAt BV 3
          have r4 : V.cell? ⟨X.heap.size, 4, none⟩ = some (.string mm.key) := cellsAt BV 4
          have r5 : V.cell? ⟨X.heap.size, 5, none⟩ = some (.slice mm.Ad mm.nd mm.cd) := cellsAt BV 5
          have r6 : V.cell? ⟨X.heap.size, 6, none⟩ = some (.slice mm.Ap mm.np mm.cp) := cellsAt BV 6
          have r7 : V.cell? ⟨X.heap.size, 7, none⟩ = some (.slice mm.Ac mm.nc mm.cc) := cellsAt BV 7
          have r8 : V.cell? ⟨X.heap.size, 8, none⟩ = some (.slice mm.Ae mm.ne mm.ce) := cellsAt BV 8
          clear BV
          have HV := Lib.hid (HX.out.ext EX)
          clear j0 j1 j2 j3 j4 j5 j6 j7 j8 j9 j10
          have hrr : Hid (rightM (patchM mm.bareR true true) = rightM (patchM mm true true)) := Lib.hid (rightM_bareR (patchM mm true true))
          cases hr : rightM (patchM mm true true) with
          | true =>
            have hfin : Hid (lineR m.bareR true true e ws = (mm.bareR, true, true, te.2)) := Lib.hid (by rw [hl.out, hmid.out]; dsimp only; rw [hrr.out, hr]; rfl)
            go_wp2_with (go_at_call 111; refine (rRight_any (patchM mm true true) _ (HV.out.ok.patch true true) (HV.out.ksz) HV.out.nsz).mono ?_; rintro en V2 ⟨rfl, Y2⟩)
            refine bodyPost_ret (results_none rfl _ _ _) rfl ?_
            rw [hfin.out]
            exact ⟨rfl, mm, HV.out.ext Y2, rfl, (MX.trans (EX.mod _)).trans (Y2.mod _), by omega, by omega, by omega, by omega⟩
          | false =>
            have hfin : Hid (lineR m.bareR true true e ws = (mm.bareR, true, true, orE (te.2) 81)) := Lib.hid (by rw [hl.out, hmid.out]; dsimp only; rw [hrr.out, hr]; rfl)
            go_wp2_with (first | (go_at_call 108; refine (rFail_any g mm true true (te.2) 81 _ (HV.out.ext Y2).hd).mono ?_; rintro en W9 ⟨rfl, p9, d9⟩) | (go_at_call 111; refine (rRight_any (patchM mm true true) _ (HV.out.ok.patch true true) (HV.out.ksz) HV.out.nsz).mono ?_; rintro en V2 ⟨rfl, Y2⟩))
            refine bodyPost_ret (results_none rfl _ _ _) rfl ?_
            rw [hfin.out]
            exact ⟨rfl, mm, (HV.out.ext Y2).modG d9 p9, rfl, ((MX.trans (EX.mod _)).trans (Y2.mod _)).trans (d9.weak fun b hb => Nat.le_of_eq hb.symm), by omega, by omega, by omega, by omega⟩
        | false =>
          have hgX := HX.out.hd.lt
          have hcX := cellsAt HX.out.hd
          have j0 : X.cell? ⟨g, 0, none⟩ = some (.int .i64 mm.rt) := hcX 0
          have j1 : X.cell? ⟨g, 1, none⟩ = some (.int .i64 mm.wt) := hcX 1
          have j2 : X.cell? ⟨g, 2, none⟩ = some (.int .i64 mm.bk) := hcX 2
          have j3 : X.cell? ⟨g, 3, none⟩ = some (.int .i64 mm.cy) := hcX 3
          have j4 : X.cell? ⟨g, 4, none⟩ = some (.string mm.key) := hcX 4
          have j5 : X.cell? ⟨g, 5, none⟩ = some (.slice mm.Ad mm.nd mm.cd) := hcX 5
          have j6 : X.cell? ⟨g, 6, none⟩ = some (.slice mm.Ap mm.np mm.cp) := hcX 6
          have j7 : X.cell? ⟨g, 7, none⟩ = some (.slice mm.Ac mm.nc mm.cc) := hcX 7
          have j8 : X.cell? ⟨g, 8, none⟩ = some (.slice mm.Ae mm.ne mm.ce) := hcX 8
          have j9 : X.cell? ⟨g, 9, none⟩ = some (.bool true) := hcX 9
          have j10 : X.cell? ⟨g, 10, none⟩ = some (.bool false) := hcX 10
          have EX := (Ext.refl X).goA (.cells #[.int .i64 mm.rt, .int .i64 mm.wt, .int .i64 mm.bk, .int .i64 mm.cy, .string ⟨#[48, 48, 48, 48, 48, 48, 48, 48, 48, 48, 48, 48, 48, 48, 48, 48]⟩, .slice mm.Ad mm.nd mm.cd, .slice mm.Ap mm.np mm.cp, .slice mm.Ac mm.nc mm.cc, .slice mm.Ae mm.ne mm.ce] 27)
          clear hcX
          go_upto_region 18 with fail
          have BV := heap_alloc_new X (.cells #[.int .i64 mm.rt, .int .i64 mm.wt, .int .i64 mm.bk, .int .i64 mm.cy, .string ⟨#[48, 48, 48, 48, 48, 48, 48, 48, 48, 48, 48, 48, 48, 48, 48, 48]⟩, .slice mm.Ad mm.nd mm.cd, .slice mm.Ap mm.np mm.cp, .slice mm.Ac mm.nc mm.cc, .slice mm.Ae mm.ne mm.ce] 27)
          generalize X.alloc (.cells #[.int .i64 mm.rt, .int .i64 mm.wt, .int .i64 mm.bk, .int .i64 mm.cy, .string ⟨#[48, 48, 48, 48, 48, 48, 48, 48, 48, 48, 48, 48, 48, 48, 48, 48]⟩, .slice mm.Ad mm.nd mm.cd, .slice mm.Ap mm.np mm.cp, .slice mm.Ac mm.nc mm.cc, .slice mm.Ae mm.ne mm.ce] 27) = V at *
          have gBV := lt_of_block BV
          have r0 : V.cell? ⟨X.heap.size, 0, none⟩ = some (.int .i64 mm.rt) := cellsAt BV 0
          have r1 : V.cell? ⟨X.heap.size, 1, none⟩ = some (.int .i64 mm.wt) := cellsAt BV 1
          have r2 : V.cell? ⟨X.heap.size, 2, none⟩ = some (.int .i64 mm.bk) := cellsAt BV 2
          have r3 : V.cell? ⟨X.heap.size, 3, none⟩ = some (.int .i64 mm.cy) := cellsAt BV 3
          have r4 : V.cell? ⟨X.heap.size, 4, none⟩ = some (.string ⟨#[48, 48, 48, 48, 48, 48, 48, 48, 48, 48, 48, 48, 48, 48, 48, 48]⟩) := cellsAt BV 4
          have r5 : V.cell? ⟨X.heap.size, 5, none⟩ = some (.slice mm.Ad mm.nd mm.cd) := cellsAt BV 5
          have r6 : V.cell? ⟨X.heap.size, 6, none⟩ = some (.slice mm.Ap mm.np mm.cp) := cellsAt BV 6
          have r7 : V.cell? ⟨X.heap.size, 7, none⟩ = some (.slice mm.Ac mm.nc mm.cc) := cellsAt BV 7
          have r8 : V.cell? ⟨X.heap.size, 8, none⟩ = some (.slice mm.Ae mm.ne mm.ce) := cellsAt BV 8
          clear BV
          have HV := Lib.hid (HX.out.ext EX)
          clear j0 j1 j2 j3 j4 j5 j6 j7 j8 j9 j10
          have hrr : Hid (rightM (patchM mm.bareR true false) = rightM (patchM mm true false)) := Lib.hid (rightM_bareR (patchM mm true false))
          cases hr : rightM (patchM mm true false) with
          | true =>
            have hfin : Hid (lineR m.bareR true false e ws = (mm.bareR, true, false, te.2)) := Lib.hid (by rw [hl.out, hmid.out]; dsimp only; rw [hrr.out, hr]; rfl)
            go_wp2_with (go_at_call 111; refine (rRight_any (patchM mm true false) _ (HV.out.ok.patch true false) (by show (16 : Nat) ≤ maxLen; unfold maxLen; omega) HV.out.nsz).mono ?_; rintro en V2 ⟨rfl, Y2⟩)
            refine bodyPost_ret (results_none rfl _ _ _) rfl ?_
            rw [hfin.out]
            exact ⟨rfl, mm, HV.out.ext Y2, rfl, (MX.trans (EX.mod _)).trans (Y2.mod _), by omega, by omega, by omega, by omega⟩
          | false =>
            have hfin : Hid (lineR m.bareR true false e ws = (mm.bareR, true, false, orE (te.2) 81)) := Lib.hid (by rw [hl.out, hmid.out]; dsimp only; rw [hrr.out, hr]; rfl)
            go_wp2_with (first | (go_at_call 108; refine (rFail_any g mm true false (te.2) 81 _ (HV.out.ext Y2).hd).mono ?_; rintro en W9 ⟨rfl, p9, d9⟩) | (go_at_call 111; refine (rRight_any (patchM mm true false) _ (HV.out.ok.patch true false) (by show (16 : Nat) ≤ maxLen; unfold maxLen; omega) HV.out.nsz).mono ?_; rintro en V2 ⟨rfl, Y2⟩))
            refine bodyPost_ret (results_none rfl _ _ _) rfl ?_
            rw [hfin.out]
            exact ⟨rfl, mm, (HV.out.ext Y2).modG d9 p9, rfl, ((MX.trans (EX.mod _)).trans (Y2.mod _)).trans (d9.weak fun b hb => Nat.le_of_eq hb.symm), by omega, by omega, by omega, by omega⟩
      | false =>
        cases ky with
        | true =>
          have hgX := HX.out.hd.lt
          have hcX := cellsAt HX.out.hd
          have j0 : X.cell? ⟨g, 0, none⟩ = some (.int .i64 mm.rt) := hcX 0
          have j1 : X.cell? ⟨g, 1, none⟩ = some (.int .i64 mm.wt) := hcX 1
          have j2 : X.cell? ⟨g, 2, none⟩ = some (.int .i64 mm.bk) := hcX 2
          have j3 : X.cell? ⟨g, 3, none⟩ = some (.int .i64 mm.cy) := hcX 3
          have j4 : X.cell? ⟨g, 4, none⟩ = some (.string mm.key) := hcX 4
          have j5 : X.cell? ⟨g, 5, none⟩ = some (.slice mm.Ad mm.nd mm.cd) := hcX 5
          have j6 : X.cell? ⟨g, 6, none⟩ = some (.slice mm.Ap mm.np mm.cp) := hcX 6
          have j7 : X.cell? ⟨g, 7, none⟩ = some (.slice mm.Ac mm.nc mm.cc) := hcX 7
          have j8 : X.cell? ⟨g, 8, none⟩ = some (.slice mm.Ae mm.ne mm.ce) := hcX 8
          have j9 : X.cell? ⟨g, 9, none⟩ = some (.bool false) := hcX 9
          have j10 : X.cell? ⟨g, 10, none⟩ = some (.bool true) := hcX 10
          have EX := (Ext.refl X).goA (.cells #[.int .i64 mm.rt, .int .i64 1, .int .i64 mm.bk, .int .i64 1, .string mm.key, .slice mm.Ad mm.nd mm.cd, .slice mm.Ap mm.np mm.cp, .slice mm.Ac mm.nc mm.cc, .slice mm.Ae mm.ne mm.ce] 27)
          clear hcX
          go_upto_region 18 with fail
          have BV := heap_alloc_new X (.cells #[.int .i64 mm.rt, .int .i64 1, .int .i64 mm.bk, .int .i64 1, .string mm.key, .slice mm.Ad mm.nd mm.cd, .slice mm.Ap mm.np mm.cp, .slice mm.Ac mm.nc mm.cc, .slice mm.Ae mm.ne mm.ce] 27)
          generalize X.alloc (.cells #[.int .i64 mm.rt, .int .i64 1, .int .i64 mm.bk, .int .i64 1, .string mm.key, .slice mm.Ad mm.nd mm.cd, .slice mm.Ap mm.np mm.cp, .slice mm.Ac mm.nc mm.cc, .slice mm.Ae mm.ne mm.ce] 27) = V at *
          have gBV := lt_of_block BV
          have r0 : V.cell? ⟨X.heap.size, 0, none⟩ = some (.int .i64 mm.rt) := cellsAt BV 0
          have r1 : V.cell? ⟨X.heap.size, 1, none⟩ = some (.int .i64 1) := cellsAt BV 1
          have r2 : V.cell? ⟨X.heap.size, 2, none⟩ = some (.int .i64 mm.bk) := cellsAt BV 2
          have r3 : V.cell? ⟨X.heap.size, 3, none⟩ = some (.int .i64 1) := cellsAt BV 3
          have r4 : V.cell? ⟨X.heap.size, 4, none⟩ = some (.string mm.key) := cellsAt BV 4
          have r5 : V.cell? ⟨X.heap.size, 5, none⟩ = some (.slice mm.Ad mm.nd mm.cd) := cellsAt BV 5
          have r6 : V.cell? ⟨X.heap.size, 6, none⟩ = some (.slice mm.Ap mm.np mm.cp) := cellsAt BV 6
          have r7 : V.cell? ⟨X.heap.size, 7, none⟩ = some (.slice mm.Ac mm.nc mm.cc) := cellsAt BV 7
          have r8 : V.cell? ⟨X.heap.size, 8, none⟩ = some (.slice mm.Ae mm.ne mm.ce) := cellsAt BV 8
          clear BV
          have HV := Lib.hid (HX.out.ext EX)
          clear j0 j1 j2 j3 j4 j5 j6 j7 j8 j9 j10
          have hrr : Hid (rightM (patchM mm.bareR false true) = rightM (patchM mm false true)) := Lib.hid (rightM_bareR (patchM mm false true))
          cases hr : rightM (patchM mm false true) with
          | true =>
            have hfin : Hid (lineR m.bareR false true e ws = (mm.bareR, false, true, te.2)) := Lib.hid (by rw [hl.out, hmid.out]; dsimp only; rw [hrr.out, hr]; rfl)
            go_wp2_with (go_at_call 111; refine (rRight_any (patchM mm false true) _ (HV.out.ok.patch false true) (HV.out.ksz) HV.out.nsz).mono ?_; rintro en V2 ⟨rfl, Y2⟩)
            refine bodyPost_ret (results_none rfl _ _ _) rfl ?_
            rw [hfin.out]
            exact ⟨rfl, mm, HV.out.ext Y2, rfl, (MX.trans (EX.mod _)).trans (Y2.mod _), by omega, by omega, by omega, by omega⟩
          | false =>
            have hfin : Hid (lineR m.bareR false true e ws = (mm.bareR, false, true, orE (te.2) 81)) := Lib.hid (by rw [hl.out, hmid.out]; dsimp only; rw [hrr.out, hr]; rfl)
            go_wp2_with (first | (go_at_call 108; refine (rFail_any g mm false true (te.2) 81 _ (HV.out.ext Y2).hd).mono ?_; rintro en W9 ⟨rfl, p9, d9⟩) | (go_at_call 111; refine (rRight_any (patchM mm false true) _ (HV.out.ok.patch false true) (HV.out.ksz) HV.out.nsz).mono ?_; rintro en V2 ⟨rfl, Y2⟩))
            refine bodyPost_ret (results_none rfl _ _ _) rfl ?_
            rw [hfin.out]
            exact ⟨rfl, mm, (HV.out.ext Y2).modG d9 p9, rfl, ((MX.trans (EX.mod _)).trans (Y2.mod _)).trans (d9.weak fun b hb => Nat.le_of_eq hb.symm), by omega, by omega, by omega, by omega⟩
        | false =>
          have hgX := HX.out.hd.lt
          have hcX := cellsAt HX.out.hd
          have j0 : X.cell? ⟨g, 0, none⟩ = some (.int .i64 mm.rt) := hcX 0
          have j1 : X.cell? ⟨g, 1, none⟩ = some (.int .i64 mm.wt) := hcX 1
          have j2 : X.cell? ⟨g, 2, none⟩ = some (.int .i64 mm.bk) := hcX 2
          have j3 : X.cell? ⟨g, 3, none⟩ = some (.int .i64 mm.cy) := hcX 3
          have j4 : X.cell? ⟨g, 4, none⟩ = some (.string mm.key) := hcX 4
          have j5 : X.cell? ⟨g, 5, none⟩ = some (.slice mm.Ad mm.nd mm.cd) := hcX 5
          have j6 : X.cell? ⟨g, 6, none⟩ = some (.slice mm.Ap mm.np mm.cp) := hcX 6
          have j7 : X.cell? ⟨g, 7, none⟩ = some (.slice mm.Ac mm.nc mm.cc) := hcX 7
          have j8 : X.cell? ⟨g, 8, none⟩ = some (.slice mm.Ae mm.ne mm.ce) := hcX 8
          have j9 : X.cell? ⟨g, 9, none⟩ = some (.bool false) := hcX 9
          have j10 : X.cell? ⟨g, 10, none⟩ = some (.bool false) := hcX 10
          have EX := (Ext.refl X).goA (.cells #[.int .i64 mm.rt, .int .i64 1, .int .i64 mm.bk, .int .i64 1, .string ⟨#[48, 48, 48, 48, 48, 48, 48, 48, 48, 48, 48, 48, 48, 48, 48, 48]⟩, .slice mm.Ad mm.nd mm.cd, .slice mm.Ap mm.np mm.cp, .slice mm.Ac mm.nc mm.cc, .slice mm.Ae mm.ne mm.ce] 27)
          clear hcX
          go_upto_region 18 with fail
          have BV := heap_alloc_new X (.cells #[.int .i64 mm.rt, .int .i64 1, .int .i64 mm.bk, .int .i64 1, .string ⟨#[48, 48, 48, 48, 48, 48, 48, 48, 48, 48, 48, 48, 48, 48, 48, 48]⟩, .slice mm.Ad mm.nd mm.cd, .slice mm.Ap mm.np mm.cp, .slice mm.Ac mm.nc mm.cc, .slice mm.Ae mm.ne mm.ce] 27)
          generalize X.alloc (.cells #[.int .i64 mm.rt, .int .i64 1, .int .i64 mm.bk, .int .i64 1, .string ⟨#[48, 48, 48, 48, 48, 48, 48, 48, 48, 48, 48, 48, 48, 48, 48, 48]⟩, .slice mm.Ad mm.nd mm.cd, .slice mm.Ap mm.np mm.cp, .slice mm.Ac mm.nc mm.cc, .slice mm.Ae mm.ne mm.ce] 27) = V at *
          have gBV := lt_of_block BV
          have r0 : V.cell? ⟨X.heap.size, 0, none⟩ = some (.int .i64 mm.rt) := cellsAt BV 0
          have r1 : V.cell? ⟨X.heap.size, 1, none⟩ = some (.int .i64 1) := cellsAt BV 1
          have r2 : V.cell? ⟨X.heap.size, 2, none⟩ = some (.int .i64 mm.bk) := cellsAt BV 2
          have r3 : V.cell? ⟨X.heap.size, 3, none⟩ = some (.int .i64 1) := cellsAt BV 3
          have r4 : V.cell? ⟨X.heap.size, 4, none⟩ = some (.string ⟨#[48, 48, 48, 48, 48, 48, 48, 48, 48, 48, 48, 48, 48, 48, 48, 48]⟩) := cellsAt BV 4
          have r5 : V.cell? ⟨X.heap.size, 5, none⟩ = some (.slice mm.Ad mm.nd mm.cd) := cellsAt BV 5
          have r6 : V.cell? ⟨X.heap.size, 6, none⟩ = some (.slice mm.Ap mm.np mm.cp) := cellsAt BV 6
          have r7 : V.cell? ⟨X.heap.size, 7, none⟩ = some (.slice mm.Ac mm.nc mm.cc) := cellsAt BV 7
          have r8 : V.cell? ⟨X.heap.size, 8, none⟩ = some (.slice mm.Ae mm.ne mm.ce) := cellsAt BV 8
          clear BV
          have HV := Lib.hid (HX.out.ext EX)
          clear j0 j1 j2 j3 j4 j5 j6 j7 j8 j9 j10
          have hrr : Hid (rightM (patchM mm.bareR false false) = rightM (patchM mm false false)) := Lib.hid (rightM_bareR (patchM mm false false))
          cases hr : rightM (patchM mm false false) with
          | true =>
            have hfin : Hid (lineR m.bareR false false e ws = (mm.bareR, false, false, te.2)) := Lib.hid (by rw [hl.out, hmid.out]; dsimp only; rw [hrr.out, hr]; rfl)
            go_wp2_with (go_at_call 111; refine (rRight_any (patchM mm false false) _ (HV.out.ok.patch false false) (by show (16 : Nat) ≤ maxLen; unfold maxLen; omega) HV.out.nsz).mono ?_; rintro en V2 ⟨rfl, Y2⟩)
            refine bodyPost_ret (results_none rfl _ _ _) rfl ?_
            rw [hfin.out]
            exact ⟨rfl, mm, HV.out.ext Y2, rfl, (MX.trans (EX.mod _)).trans (Y2.mod _), by omega, by omega, by omega, by omega⟩
          | false =>
            have hfin : Hid (lineR m.bareR false false e ws = (mm.bareR, false, false, orE (te.2) 81)) := Lib.hid (by rw [hl.out, hmid.out]; dsimp only; rw [hrr.out, hr]; rfl)
            go_wp2_with (first | (go_at_call 108; refine (rFail_any g mm false false (te.2) 81 _ (HV.out.ext Y2).hd).mono ?_; rintro en W9 ⟨rfl, p9, d9⟩) | (go_at_call 111; refine (rRight_any (patchM mm false false) _ (HV.out.ok.patch false false) (by show (16 : Nat) ≤ maxLen; unfold maxLen; omega) HV.out.nsz).mono ?_; rintro en V2 ⟨rfl, Y2⟩))
            refine bodyPost_ret (results_none rfl _ _ _) rfl ?_
            rw [hfin.out]
            exact ⟨rfl, mm, (HV.out.ext Y2).modG d9 p9, rfl, ((MX.trans (EX.mod _)).trans (Y2.mod _)).trans (d9.weak fun b hb => Nat.le_of_eq hb.symm), by omega, by omega, by omega, by omega⟩
end Go.Proofs.YtgajbgdkgelkgaaGreat
