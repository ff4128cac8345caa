/- Layer 8, the reference's parser: many, names of a kind, lamp, named, places, fresh. Printed by gen/r8e.py. -/
import Derived.Test.YtgajbgdkgelkgaaGreatR8D
namespace Go.Proofs.YtgajbgdkgelkgaaGreat
open Go.RowKit

abbrev kWatch : List UInt8 := [119, 97, 116, 99, 104]
abbrev kKey : List UInt8 := [107, 101, 121]
abbrev kDevice : List UInt8 := [100, 101, 118, 105, 99, 101]
abbrev kPoint : List UInt8 := [112, 111, 105, 110, 116]
abbrev kCause : List UInt8 := [99, 97, 117, 115, 101]
abbrev kEffect : List UInt8 := [101, 102, 102, 101, 99, 116]
def manyR (s : ByteArray) (n : Nat) : Bool :=
  if s.toList == kWatch then (n : Int) == 5 else if s.toList == kKey then (n : Int) == 2 else if s.toList == kDevice then (n : Int) == 4 else if s.toList == kPoint then (n : Int) == 7
  else if s.toList == kCause then decide ((6 : Int) ≤ n) && decide ((n : Int) ≤ 9) else if s.toList == kEffect then decide ((6 : Int) ≤ n) && decide ((n : Int) ≤ 13) else false
set_option maxRecDepth 100000 in
set_option maxHeartbeats 1600000 in
theorem rMany_any (s : ByteArray) (n : Nat) (w : World) : Calls Tryz.prog 107 #[.string s, .int .i64 n] w fun e w' => e = .returned (.bool (manyR s n)) ∧ w = w' := by
  obtain ⟨t, ht⟩ : ∃ t, t = manyR s n := ⟨_, rfl⟩
  rw [← ht]
  unfold manyR at ht
  cases q0 : (s.toList == ([119, 97, 116, 99, 104] : List UInt8)) with
  | true =>
    rw [q0] at ht
    simp only [if_true] at ht
    have ht' := Lib.hid ht
    clear ht
    go_enter Tryz.func107, Tryz.ntmps107
    go_wp2_with fail
    go_ret
    exact ⟨by rw [ht'.out]; rfl, rfl⟩
  | false =>
    cases q1 : (s.toList == ([107, 101, 121] : List UInt8)) with
    | true =>
      rw [q0, q1] at ht
      simp only [Bool.false_eq_true, if_false, if_true] at ht
      have ht' := Lib.hid ht
      clear ht
      go_enter Tryz.func107, Tryz.ntmps107
      go_wp2_with fail
      go_ret
      exact ⟨by rw [ht'.out]; rfl, rfl⟩
    | false =>
      cases q2 : (s.toList == ([100, 101, 118, 105, 99, 101] : List UInt8)) with
      | true =>
        rw [q0, q1, q2] at ht
        simp only [Bool.false_eq_true, if_false, if_true] at ht
        have ht' := Lib.hid ht
        clear ht
        go_enter Tryz.func107, Tryz.ntmps107
        go_wp2_with fail
        go_ret
        exact ⟨by rw [ht'.out]; rfl, rfl⟩
      | false =>
        cases q3 : (s.toList == ([112, 111, 105, 110, 116] : List UInt8)) with
        | true =>
          rw [q0, q1, q2, q3] at ht
          simp only [Bool.false_eq_true, if_false, if_true] at ht
          have ht' := Lib.hid ht
          clear ht
          go_enter Tryz.func107, Tryz.ntmps107
          go_wp2_with fail
          go_ret
          exact ⟨by rw [ht'.out]; rfl, rfl⟩
        | false =>
          cases q4 : (s.toList == ([99, 97, 117, 115, 101] : List UInt8)) with
          | true =>
            rw [q0, q1, q2, q3, q4] at ht
            by_cases h6 : (6 : Int) ≤ n
            · have d6 : decide ((6 : Int) ≤ n) = true := decide_eq_true h6
              rw [d6] at ht
              simp only [Bool.false_eq_true, if_false, if_true, Bool.true_and] at ht
              have ht' := Lib.hid ht
              clear ht h6
              go_enter Tryz.func107, Tryz.ntmps107
              go_wp2_with fail
              go_ret
              exact ⟨by rw [ht'.out]; rfl, rfl⟩
            · have d6 : decide ((6 : Int) ≤ n) = false := decide_eq_false h6
              rw [d6] at ht
              simp only [Bool.false_eq_true, if_false, if_true, Bool.false_and] at ht
              have ht' := Lib.hid ht
              clear ht h6
              go_enter Tryz.func107, Tryz.ntmps107
              go_wp2_with fail
              go_ret
              exact ⟨by rw [ht'.out]; rfl, rfl⟩
          | false =>
            cases q5 : (s.toList == ([101, 102, 102, 101, 99, 116] : List UInt8)) with
            | true =>
              rw [q0, q1, q2, q3, q4, q5] at ht
              by_cases h6 : (6 : Int) ≤ n
              · have d6 : decide ((6 : Int) ≤ n) = true := decide_eq_true h6
                rw [d6] at ht
                simp only [Bool.false_eq_true, if_false, if_true, Bool.true_and] at ht
                have ht' := Lib.hid ht
                clear ht h6
                go_enter Tryz.func107, Tryz.ntmps107
                go_wp2_with fail
                go_ret
                exact ⟨by rw [ht'.out]; rfl, rfl⟩
              · have d6 : decide ((6 : Int) ≤ n) = false := decide_eq_false h6
                rw [d6] at ht
                simp only [Bool.false_eq_true, if_false, if_true, Bool.false_and] at ht
                have ht' := Lib.hid ht
                clear ht h6
                go_enter Tryz.func107, Tryz.ntmps107
                go_wp2_with fail
                go_ret
                exact ⟨by rw [ht'.out]; rfl, rfl⟩
            | false =>
              rw [q0, q1, q2, q3, q4, q5] at ht
              simp only [Bool.false_eq_true, if_false] at ht
              have ht' := Lib.hid ht
              clear ht
              go_enter Tryz.func107, Tryz.ntmps107
              go_wp2_with fail
              go_ret
              exact ⟨by rw [ht'.out]; rfl, rfl⟩
/-- Names of a kind, in a row of the call's own. -/
def SNamesPost (l : List ByteArray) (w : World) (e : Ending) (w' : World) : Prop := ∃ A n c, e = .returned (.slice A n c) ∧ n ≤ c ∧ c ≤ maxLen ∧ RdC strCells 1 w' w'.heap.size A n l ∧ (∀ b o, A = some ⟨b, o, none⟩ → w.heap.size ≤ b) ∧ Ext w w'
set_option maxRecDepth 100000 in
set_option maxHeartbeats 3200000 in
theorem rDeviceNames_any (m : Mx) (w : World) (h : OkMx w w.heap.size m) (hs : m.nd ≤ 10000) : Calls Tryz.prog 130 #[m.val] w (SNamesPost (m.dvs.map Dv.nm) w) := by
  have hl := Lib.hid h.dv.len
  have EB := (Ext.refl w).goA (.cells m.arr 27)
  have B0 := heap_alloc_new w (.cells m.arr 27)
  have S0 : (w.alloc (.cells m.arr 27)).heap.size = w.heap.size + 1 := by simp
  have h' := Lib.hid (h.ext EB)
  clear h
  unfold Mx.val
  go_enter Tryz.func130, Tryz.ntmps130
  go_upto_region 1 with fail
  generalize w.alloc (.cells m.arr 27) = V at *
  have q0 := Lib.hid B0
  have hwV : w.heap.size < V.heap.size := by omega
  clear B0
  go_wp2_with fail
  go_loopw [3, 4] (fun u i wr => ∃ k : Nat, k ≤ m.nd ∧ i = .int .i64 k ∧ Ext V wr ∧ wr.ownsRow V.heap.size 9 1 u k ((([] : List ByteArray) ++ (m.dvs.take k).map Dv.nm).map Value.string)) (fun _ i _ => m.nd - (intOf i).toNat)
  case atStart => exact ⟨0, by omega, rfl, Ext.refl _, by simpa using World.ownsRow_nil _ _ _ _⟩
  case round =>
    obtain ⟨k, hk, rfl, E, own⟩ := hrel
    have E0 := Lib.hid E
    have own0 := Lib.hid own
    have S0 := E.size
    have m0 : wr.cell? ⟨w.heap.size, 5, none⟩ = some (.slice m.Ad m.nd m.cd) := cellsAt ((E.block w.heap.size hwV).trans q0.out) 5
    clear E own
    by_cases hlt : k < m.nd
    · have e3 : (k : Int) < (m.nd : Int) := by omega
      obtain ⟨x, hx⟩ := h'.out.dv.get hlt
      obtain ⟨b, o, hA, hb, hc⟩ := h'.out.dv.at_ hx
      have hx' := Lib.hid hx
      have cx0 : wr.cell? ⟨b, o + k * 3, none⟩ = some (.string x.nm) := (E0.out.cell _ hb).trans (hc 0 (by decide))
      have hbw : b < wr.heap.size := by omega
      rw [hA] at m0
      clear hx hc hA
      go_wp2_with (at_builtin; refine wpList_appS rfl (.tmp 12) (.tmp 19) _ rfl Tryz.underlying154 info_str rfl (by decide) (own0.out.alloc _) rfl (new := [.string x.nm]) rfl (heap_new_at (by simp)) rfl (by intro u hu; simp at hu; subst hu; rfl) (by omega) (by unfold maxLen; omega) (by simp; omega) ?_; intro vz wz ownz hgz _)
      go_roundw
      case rel => exact ⟨k + 1, by omega, by go_num, (E0.out.goA _).goG hgz (fun i hi => (own0.out.lt i hi).1), by rw [← strs_more Dv.nm hx'.out]; exact ownz⟩
      case measure => simp [intOf] <;> omega
    · obtain rfl : k = m.nd := by omega
      go_wp2_with fail
      go_ret
      have oend := own0.out
      rw [List.take_of_length_le (by rw [hl.out]; exact Nat.le_refl _), List.nil_append] at oend
      obtain ⟨A, c, rfl, ⟨hc1, hc2⟩, hrd, hfr⟩ := own_rdC (cells := strCells) oend (by rw [List.length_map]; exact hl.out) (strs_flat _) (fun _ => rfl)
      exact ⟨A, _, c, rfl, hc1, hc2, hrd, fun b o e => by have := hfr b o e; omega, EB.go E0.out⟩
set_option maxRecDepth 100000 in
set_option maxHeartbeats 3200000 in
theorem rPointNames_any (m : Mx) (w : World) (h : OkMx w w.heap.size m) (hs : m.np ≤ 10000) : Calls Tryz.prog 133 #[m.val] w (SNamesPost (m.pts.map Pt.nm) w) := by
  have hl := Lib.hid h.pt.len
  have EB := (Ext.refl w).goA (.cells m.arr 27)
  have B0 := heap_alloc_new w (.cells m.arr 27)
  have S0 : (w.alloc (.cells m.arr 27)).heap.size = w.heap.size + 1 := by simp
  have h' := Lib.hid (h.ext EB)
  clear h
  unfold Mx.val
  go_enter Tryz.func133, Tryz.ntmps133
  go_upto_region 1 with fail
  generalize w.alloc (.cells m.arr 27) = V at *
  have q0 := Lib.hid B0
  have hwV : w.heap.size < V.heap.size := by omega
  clear B0
  go_wp2_with fail
  go_loopw [3, 4] (fun u i wr => ∃ k : Nat, k ≤ m.np ∧ i = .int .i64 k ∧ Ext V wr ∧ wr.ownsRow V.heap.size 9 1 u k ((([] : List ByteArray) ++ (m.pts.take k).map Pt.nm).map Value.string)) (fun _ i _ => m.np - (intOf i).toNat)
  case atStart => exact ⟨0, by omega, rfl, Ext.refl _, by simpa using World.ownsRow_nil _ _ _ _⟩
  case round =>
    obtain ⟨k, hk, rfl, E, own⟩ := hrel
    have E0 := Lib.hid E
    have own0 := Lib.hid own
    have S0 := E.size
    have m0 : wr.cell? ⟨w.heap.size, 6, none⟩ = some (.slice m.Ap m.np m.cp) := cellsAt ((E.block w.heap.size hwV).trans q0.out) 6
    clear E own
    by_cases hlt : k < m.np
    · have e3 : (k : Int) < (m.np : Int) := by omega
      obtain ⟨x, hx⟩ := h'.out.pt.get hlt
      obtain ⟨b, o, hA, hb, hc⟩ := h'.out.pt.at_ hx
      have hx' := Lib.hid hx
      have cx0 : wr.cell? ⟨b, o + k * 6, none⟩ = some (.string x.nm) := (E0.out.cell _ hb).trans (hc 0 (by decide))
      have hbw : b < wr.heap.size := by omega
      rw [hA] at m0
      clear hx hc hA
      go_wp2_with (at_builtin; refine wpList_appS rfl (.tmp 12) (.tmp 19) _ rfl Tryz.underlying154 info_str rfl (by decide) (own0.out.alloc _) rfl (new := [.string x.nm]) rfl (heap_new_at (by simp)) rfl (by intro u hu; simp at hu; subst hu; rfl) (by omega) (by unfold maxLen; omega) (by simp; omega) ?_; intro vz wz ownz hgz _)
      go_roundw
      case rel => exact ⟨k + 1, by omega, by go_num, (E0.out.goA _).goG hgz (fun i hi => (own0.out.lt i hi).1), by rw [← strs_more Pt.nm hx'.out]; exact ownz⟩
      case measure => simp [intOf] <;> omega
    · obtain rfl : k = m.np := by omega
      go_wp2_with fail
      go_ret
      have oend := own0.out
      rw [List.take_of_length_le (by rw [hl.out]; exact Nat.le_refl _), List.nil_append] at oend
      obtain ⟨A, c, rfl, ⟨hc1, hc2⟩, hrd, hfr⟩ := own_rdC (cells := strCells) oend (by rw [List.length_map]; exact hl.out) (strs_flat _) (fun _ => rfl)
      exact ⟨A, _, c, rfl, hc1, hc2, hrd, fun b o e => by have := hfr b o e; omega, EB.go E0.out⟩
set_option maxRecDepth 100000 in
set_option maxHeartbeats 3200000 in
theorem rCauseNames_any (m : Mx) (w : World) (h : OkMx w w.heap.size m) (hs : m.nc ≤ 10000) : Calls Tryz.prog 134 #[m.val] w (SNamesPost (m.cas.map Ca.nm) w) := by
  have hl := Lib.hid h.ca.len
  have EB := (Ext.refl w).goA (.cells m.arr 27)
  have B0 := heap_alloc_new w (.cells m.arr 27)
  have S0 : (w.alloc (.cells m.arr 27)).heap.size = w.heap.size + 1 := by simp
  have h' := Lib.hid (h.ext EB)
  clear h
  unfold Mx.val
  go_enter Tryz.func134, Tryz.ntmps134
  go_upto_region 1 with fail
  generalize w.alloc (.cells m.arr 27) = V at *
  have q0 := Lib.hid B0
  have hwV : w.heap.size < V.heap.size := by omega
  clear B0
  go_wp2_with fail
  go_loopw [3, 4] (fun u i wr => ∃ k : Nat, k ≤ m.nc ∧ i = .int .i64 k ∧ Ext V wr ∧ wr.ownsRow V.heap.size 9 1 u k ((([] : List ByteArray) ++ (m.cas.take k).map Ca.nm).map Value.string)) (fun _ i _ => m.nc - (intOf i).toNat)
  case atStart => exact ⟨0, by omega, rfl, Ext.refl _, by simpa using World.ownsRow_nil _ _ _ _⟩
  case round =>
    obtain ⟨k, hk, rfl, E, own⟩ := hrel
    have E0 := Lib.hid E
    have own0 := Lib.hid own
    have S0 := E.size
    have m0 : wr.cell? ⟨w.heap.size, 7, none⟩ = some (.slice m.Ac m.nc m.cc) := cellsAt ((E.block w.heap.size hwV).trans q0.out) 7
    clear E own
    by_cases hlt : k < m.nc
    · have e3 : (k : Int) < (m.nc : Int) := by omega
      obtain ⟨x, hx⟩ := h'.out.ca.get hlt
      obtain ⟨b, o, hA, hb, hc⟩ := h'.out.ca.at_ hx
      have hx' := Lib.hid hx
      have cx0 : wr.cell? ⟨b, o + k * 5, none⟩ = some (.string x.nm) := (E0.out.cell _ hb).trans (hc 0 (by decide))
      have hbw : b < wr.heap.size := by omega
      rw [hA] at m0
      clear hx hc hA
      go_wp2_with (at_builtin; refine wpList_appS rfl (.tmp 12) (.tmp 19) _ rfl Tryz.underlying154 info_str rfl (by decide) (own0.out.alloc _) rfl (new := [.string x.nm]) rfl (heap_new_at (by simp)) rfl (by intro u hu; simp at hu; subst hu; rfl) (by omega) (by unfold maxLen; omega) (by simp; omega) ?_; intro vz wz ownz hgz _)
      go_roundw
      case rel => exact ⟨k + 1, by omega, by go_num, (E0.out.goA _).goG hgz (fun i hi => (own0.out.lt i hi).1), by rw [← strs_more Ca.nm hx'.out]; exact ownz⟩
      case measure => simp [intOf] <;> omega
    · obtain rfl : k = m.nc := by omega
      go_wp2_with fail
      go_ret
      have oend := own0.out
      rw [List.take_of_length_le (by rw [hl.out]; exact Nat.le_refl _), List.nil_append] at oend
      obtain ⟨A, c, rfl, ⟨hc1, hc2⟩, hrd, hfr⟩ := own_rdC (cells := strCells) oend (by rw [List.length_map]; exact hl.out) (strs_flat _) (fun _ => rfl)
      exact ⟨A, _, c, rfl, hc1, hc2, hrd, fun b o e => by have := hfr b o e; omega, EB.go E0.out⟩
def lampsR : List ByteArray := [⟨#[]⟩, ⟨#[97]⟩, ⟨#[109]⟩, ⟨#[114]⟩, ⟨#[102, 49, 97]⟩, ⟨#[102, 50, 109]⟩, ⟨#[102, 51, 97]⟩]
set_option maxRecDepth 100000 in
set_option maxHeartbeats 800000 in
theorem rLamps_any (w : World) : Calls Tryz.prog 152 #[] w (SNamesPost lampsR w) := by
  go_enter Tryz.func152, Tryz.ntmps152
  go_wp2_with fail
  go_ret
  refine ⟨_, _, _, rfl, Nat.le_refl _, by unfold maxLen; omega, ⟨rfl, fun _ => ⟨w.heap.size, 0, rfl, by simp, fun j x hx i hi => ?_⟩⟩, fun b o e => by cases e; exact Nat.le_refl _, (Ext.refl w).goA _⟩
  obtain rfl : i = 0 := by omega
  rw [Nat.mul_one, Nat.add_zero, Nat.zero_add, cellsAt (heap_alloc_new w _) j]
  have h := congrArg (Option.map Value.string) hx
  rw [← List.getElem?_map] at h
  simpa [lampsR, strCells] using h
theorem PsHd.keep {w w' : World} {g : Nat} {m : Mx} {wt ky : Bool} {e : Int} (h : PsHd w g m wt ky e) (hk : w'.heap[g]? = w.heap[g]?) : PsHd w' g m wt ky e := hk.trans h
def atR (l : List ByteArray) (s : ByteArray) (e : Int) : Int × Int := if findR l s 0 < 0 then (0, orE e 82) else (findR l s 0, e)
def PsPost (g : Nat) (m : Mx) (wt ky : Bool) (x : Int × Int) (w : World) (en : Ending) (w' : World) : Prop := en = .returned (.int .i64 x.1) ∧ PsHd w' g m wt ky x.2 ∧ Mod (fun b => b = g) w w'
set_option maxRecDepth 100000 in
set_option maxHeartbeats 800000 in
theorem rNamed_any (g : Nat) (m : Mx) (wt ky : Bool) (e : Int) (A : Option Addr) (n c : Nat) (l : List ByteArray) (s : ByteArray) (w : World) (h : PsHd w g m wt ky e) (hx : RdC strCells 1 w w.heap.size A n l) (hn : n ≤ maxLen) :
    Calls Tryz.prog 129 #[.pointer (some ⟨g, 0, none⟩), .slice A n c, .string s] w (PsPost g m wt ky (atR l s e) w) := by
  have h' := Lib.hid h
  have hx' := Lib.hid hx
  clear h hx
  by_cases hf : findR l s 0 < 0
  · have d0 : decide (findR l s 0 < 0) = true := decide_eq_true hf
    rw [show atR l s e = (0, orE e 82) from if_pos hf]
    clear hf
    go_enter Tryz.func129, Tryz.ntmps129
    go_wp2_with (first | (go_at_call 151; refine (rName_any g m wt ky e _ h'.out).mono ?_; rintro e W1 ⟨rfl, hF⟩) | (go_at_call 150; refine (rFind_any _ _ _ _ l s _ hx'.out (Nat.le_refl _) hn).mono ?_; rintro e w' ⟨rfl, rfl⟩))
    go_ret
    exact ⟨rfl, hF.1, hF.2⟩
  · have d0 : decide (findR l s 0 < 0) = false := decide_eq_false hf
    rw [show atR l s e = (findR l s 0, e) from if_neg hf]
    clear hf
    go_enter Tryz.func129, Tryz.ntmps129
    go_wp2_with (go_at_call 150; refine (rFind_any _ _ _ _ l s _ hx'.out (Nat.le_refl _) hn).mono ?_; rintro e w' ⟨rfl, rfl⟩)
    go_ret
    exact ⟨rfl, h'.out, Mod.refl _ _⟩
def lampR (s : ByteArray) (e : Int) : Int × Int := if findR lampsR s 0 < 1 then (0, orE e 81) else (findR lampsR s 0, e)
set_option maxRecDepth 100000 in
set_option maxHeartbeats 800000 in
theorem rLamp_any (g : Nat) (m : Mx) (wt ky : Bool) (e : Int) (s : ByteArray) (w : World) (h : PsHd w g m wt ky e) :
    Calls Tryz.prog 131 #[.pointer (some ⟨g, 0, none⟩), .string s] w (PsPost g m wt ky (lampR s e) w) := by
  have h' := Lib.hid h
  clear h
  by_cases hf : findR lampsR s 0 < 1
  · have d0 : decide (findR lampsR s 0 < 1) = true := decide_eq_true hf
    rw [show lampR s e = (0, orE e 81) from if_pos hf]
    clear hf
    go_enter Tryz.func131, Tryz.ntmps131
    go_wp2_with (first | (go_at_call 108; refine (rFail_any g m wt ky e 81 _ (h'.out.ext X1)).mono ?_; rintro e W2 ⟨rfl, hF⟩) | (go_at_call 150; refine (rFind_any _ _ _ _ lampsR s _ r3 (Nat.le_refl _) (Nat.le_trans r1 r2)).mono ?_; rintro e w' ⟨rfl, rfl⟩) | (go_at_call 152; refine (rLamps_any _).mono ?_; rintro e W1 ⟨A1, n1, c1, rfl, r1, r2, r3, r4, X1⟩))
    go_ret
    exact ⟨rfl, hF.1, (X1.mod _).trans hF.2⟩
  · have d0 : decide (findR lampsR s 0 < 1) = false := decide_eq_false hf
    rw [show lampR s e = (findR lampsR s 0, e) from if_neg hf]
    clear hf
    go_enter Tryz.func131, Tryz.ntmps131
    go_wp2_with (first | (go_at_call 150; refine (rFind_any _ _ _ _ lampsR s _ r3 (Nat.le_refl _) (Nat.le_trans r1 r2)).mono ?_; rintro e w' ⟨rfl, rfl⟩) | (go_at_call 152; refine (rLamps_any _).mono ?_; rintro e W1 ⟨A1, n1, c1, rfl, r1, r2, r3, r4, X1⟩))
    go_ret
    exact ⟨rfl, h'.out.ext X1, X1.mod _⟩
theorem own_modR {w w' : World} {base n size : Nat} {e : TypeId} {v : Value} {xs : List Value} {S : Nat → Prop} (h : w.ownsRow base e size v n xs) (hm : Mod S w w') (hp : ∀ i, S i → i < base) : w'.ownsRow base e size v n xs := by
  refine ⟨h.1, ?_⟩
  rcases h.2 with hn | ⟨g, cap, cur, hv, hb, hg, rest⟩
  · exact .inl hn
  · exact .inr ⟨g, cap, cur, hv, hb, (hm.block g (Array.getElem?_eq_some_iff.1 hg).1 (fun hs => by have := hp g hs; omega)).trans hg, rest⟩
/-- Places of names of some. -/
def placesStep (l ws : List ByteArray) (st : List Int × Int) (i : Nat) : List Int × Int := (st.1 ++ [(atR l (ws.getD i ByteArray.empty) st.2).1], (atR l (ws.getD i ByteArray.empty) st.2).2)
def placesR (l ws : List ByteArray) (e : Int) : List Int × Int := foldN (placesStep l ws) ([], e) ws.length
def PlacesPost (g : Nat) (m : Mx) (wt ky : Bool) (x : List Int × Int) (w : World) (en : Ending) (w' : World) : Prop :=
  ∃ v, en = .returned v ∧ w'.ownsRow w.heap.size 3 1 v x.1.length (x.1.map (Value.int .i64)) ∧ PsHd w' g m wt ky x.2 ∧ Mod (fun b => b = g) w w'
theorem places_len (l ws : List ByteArray) (e : Int) : ∀ k, (foldN (placesStep l ws) ([], e) k).1.length = k
  | 0 => rfl
  | k + 1 => by rw [foldN_succ]; show ((foldN (placesStep l ws) ([], e) k).1 ++ [_]).length = k + 1; rw [List.length_append, places_len l ws e k]; rfl
set_option maxRecDepth 100000 in
set_option maxHeartbeats 3200000 in
theorem rPlaces_any (g : Nat) (m : Mx) (wt ky : Bool) (e : Int) (A : Option Addr) (n c : Nat) (l : List ByteArray) (A2 : Option Addr) (n2 c2 : Nat) (ws : List ByteArray) (w : World) (h : PsHd w g m wt ky e) (hx : RdC strCells 1 w w.heap.size A n l) (hn : n ≤ maxLen) (hx2 : RdC strCells 1 w w.heap.size A2 n2 ws) (hn2 : n2 ≤ 1000)
    (ho : 0 < n → ∀ b o, A = some ⟨b, o, none⟩ → b ≠ g) (ho2 : 0 < n2 → ∀ b o, A2 = some ⟨b, o, none⟩ → b ≠ g) :
    Calls Tryz.prog 132 #[.pointer (some ⟨g, 0, none⟩), .slice A n c, .slice A2 n2 c2] w (PlacesPost g m wt ky (placesR l ws e) w) := by
  have hgw := h.lt
  have h' := Lib.hid h
  have hx' := Lib.hid hx
  have hx2' := Lib.hid hx2
  have hl2 := Lib.hid hx2.len
  have ho' := Lib.hid ho
  have ho2' := Lib.hid ho2
  clear h hx hx2 ho ho2
  go_enter Tryz.func132, Tryz.ntmps132
  go_wp2_with fail
  go_loopw [7, 8] (fun v i wr => ∃ k : Nat, k ≤ n2 ∧ i = .int .i64 k ∧ wr.ownsRow w.heap.size 3 1 v k ((foldN (placesStep l ws) ([], e) k).1.map (Value.int .i64)) ∧ PsHd wr g m wt ky (foldN (placesStep l ws) ([], e) k).2 ∧ Mod (fun b => b = g) w wr) (fun _ i _ => n2 - (intOf i).toNat)
  case atStart => exact ⟨0, by omega, rfl, World.ownsRow_nil _ _ _ _, h'.out, Mod.refl _ _⟩
  case round =>
    obtain ⟨k, hk, rfl, own, hP, hM⟩ := hrel
    have own' := Lib.hid own
    have hP' := Lib.hid hP
    have hM' := Lib.hid hM
    have hsz := hM.size
    clear own hP hM
    by_cases hlt : k < n2
    · have e3 : (k : Int) < (n2 : Int) := by omega
      obtain ⟨x, hxk⟩ := hx2'.out.get hlt
      obtain ⟨b1, o1, hA, hb1, hcc⟩ := (hx2'.out.mod hM'.out ho2'.out).at_ hxk
      have hc1 : wr.cell? ⟨b1, o1 + k, none⟩ = some (.string x) := by have := hcc 0 (by decide); rw [Nat.mul_one, Nat.add_zero] at this; exact this
      have hnx : Hid (foldN (placesStep l ws) ([], e) (k + 1) = ((foldN (placesStep l ws) ([], e) k).1 ++ [(atR l x (foldN (placesStep l ws) ([], e) k).2).1], (atR l x (foldN (placesStep l ws) ([], e) k).2).2)) := Lib.hid (by
        rw [foldN_succ]; unfold placesStep; rw [List.getD_eq_getElem?_getD, hxk]; rfl)
      rw [hA]
      clear hxk hcc hA
      obtain ⟨st, hst⟩ : ∃ st, st = foldN (placesStep l ws) ([], e) k := ⟨_, rfl⟩
      rw [← hst] at own' hP' hnx
      clear hst
      go_wp2_with (first
        | (at_builtin; refine wpList_appS rfl (.tmp 23) (.tmp 25) _ rfl Tryz.underlying57 info_int rfl (by decide) ((own_modR own'.out hF.2 (fun i hi => by omega)).alloc _) rfl (new := [.int .i64 (atR l x st.2).1]) rfl (heap_new_at (by simp)) rfl (by intro u hu; simp at hu; subst hu; rfl) (by omega) (by unfold maxLen; omega) (by have := hF.2.size; simp; omega) ?_; intro vz wz ownz hgz _)
        | (go_at_call 129; refine (rNamed_any g m wt ky st.2 _ _ _ l x _ hP'.out (hx'.out.mod hM'.out ho'.out) hn).mono ?_; rintro e W1 ⟨rfl, hF⟩))
      go_roundw
      case rel =>
        have E2 := (Ext.refl W1).goA (.cells #[.int .i64 (atR l x st.2).1] 3)
        refine ⟨k + 1, by omega, by go_num, by rw [hnx.out]; simpa using ownz, ?_, ?_⟩
        · rw [hnx.out]
          have h1 := hF.1.ext E2
          exact h1.keep (hgz.block g h1.lt (fun e => by have := (own'.out.lt g e.symm).1; omega))
        · exact ((hM'.out.trans hF.2).trans (E2.mod _)).grown hgz (fun i hi => .inr (own'.out.lt i hi).1)
      case measure => simp [intOf] <;> omega
    · obtain rfl : k = n2 := by omega
      have hpl : Hid (foldN (placesStep l ws) ([], e) k = placesR l ws e) := Lib.hid (by unfold placesR; rw [hl2.out])
      go_wp2_with fail
      go_ret
      refine ⟨_, rfl, ?_, by rw [← hpl.out]; exact hP'.out, hM'.out⟩
      have := own'.out
      rw [hpl.out] at this
      have hlen : (placesR l ws e).1.length = k := by rw [← hpl.out]; exact places_len l ws e k
      rw [hlen]
      exact this
end Go.Proofs.YtgajbgdkgelkgaaGreat
