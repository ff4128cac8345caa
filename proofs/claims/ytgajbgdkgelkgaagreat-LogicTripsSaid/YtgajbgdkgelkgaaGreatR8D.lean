/- Layer 8, the reference's parser: what it is in memory; fail, name, num, find, many. -/
import Derived.Test.YtgajbgdkgelkgaaGreatR8C
import Derived.Test.YtgajbgdkgelkgaaGreatG17
namespace Go.Proofs.YtgajbgdkgelkgaaGreat
open Go.RowKit

def orE (e x : Int) : Int := if e = 0 then x else e
abbrev psArr (m : Mx) (wt ky : Bool) (e : Int) : Array Value := #[.int .i64 m.rt, .int .i64 m.wt, .int .i64 m.bk, .int .i64 m.cy, .string m.key, .slice m.Ad m.nd m.cd, .slice m.Ap m.np m.cp, .slice m.Ac m.nc m.cc, .slice m.Ae m.ne m.ce, .bool wt, .bool ky, .int .i64 e]
/-- The parser's block. -/
def PsHd (w : World) (g : Nat) (m : Mx) (wt ky : Bool) (e : Int) : Prop := w.heap[g]? = some (.cells (psArr m wt ky e) 152 (0, 0))
theorem PsHd.lt {w : World} {g : Nat} {m : Mx} {wt ky : Bool} {e : Int} (h : PsHd w g m wt ky e) : g < w.heap.size := lt_of_block h
theorem PsHd.ext {w w' : World} {g : Nat} {m : Mx} {wt ky : Bool} {e : Int} (h : PsHd w g m wt ky e) (E : Ext w w') : PsHd w' g m wt ky e := (E.block g h.lt).trans h
/-- What has gone wrong is told. -/
def FailPost (g : Nat) (m : Mx) (wt ky : Bool) (e : Int) (w : World) (en : Ending) (w' : World) : Prop := en = .returned (.tuple #[]) ∧ PsHd w' g m wt ky e ∧ Mod (fun b => b = g) w w'
theorem setE_hd {w : World} {g : Nat} {m : Mx} {wt ky : Bool} {e : Int} (h : PsHd w g m wt ky e) (x : Int) : PsHd (w.setCell ⟨g, 11, none⟩ (.int .i64 x)) g m wt ky x := by
  have := sets_block h 11 (.int .i64 x)
  simpa [PsHd] using this
set_option maxRecDepth 100000 in
set_option maxHeartbeats 800000 in
theorem rFail_any (g : Nat) (m : Mx) (wt ky : Bool) (e x : Int) (w : World) (h : PsHd w g m wt ky e) : Calls Tryz.prog 108 #[.pointer (some ⟨g, 0, none⟩), .int .i64 x] w (FailPost g m wt ky (orE e x) w) := by
  have hg := h.lt
  have c11 : w.cell? ⟨g, 11, none⟩ = some (.int .i64 e) := cellsAt h 11
  have f11 := frozenIn h 11
  have h' := Lib.hid h
  clear h
  by_cases h0 : e = 0
  · have d0 : (e == 0) = true := by simp [h0]
    rw [show orE e x = x from if_pos h0]
    clear h0
    go_enter Tryz.func108, Tryz.ntmps108
    go_wp2_with fail
    refine bodyPost_ret (results_none rfl _ _ _) rfl ?_
    exact ⟨rfl, setE_hd h'.out x, (Mod.refl (fun b => b = g) w).setCell (p := ⟨g, 11, none⟩) (.inl rfl) _⟩
  · have d0 : (e == 0) = false := by simp [h0]
    rw [show orE e x = e from if_neg h0]
    clear h0
    go_enter Tryz.func108, Tryz.ntmps108
    go_wp2_with fail
    refine bodyPost_ret (results_none rfl _ _ _) rfl ?_
    exact ⟨rfl, h'.out, Mod.refl _ w⟩
set_option maxRecDepth 100000 in
set_option maxHeartbeats 800000 in
theorem rName_any (g : Nat) (m : Mx) (wt ky : Bool) (e : Int) (w : World) (h : PsHd w g m wt ky e) : Calls Tryz.prog 151 #[.pointer (some ⟨g, 0, none⟩)] w (FailPost g m wt ky (orE e 82) w) := by
  have hg := h.lt
  have c11 : w.cell? ⟨g, 11, none⟩ = some (.int .i64 e) := cellsAt h 11
  have f11 := frozenIn h 11
  have h' := Lib.hid h
  clear h
  by_cases h0 : e = 0
  · have d0 : (e == 0) = true := by simp [h0]
    rw [show orE e 82 = 82 from if_pos h0]
    clear h0
    go_enter Tryz.func151, Tryz.ntmps151
    go_wp2_with fail
    refine bodyPost_ret (results_none rfl _ _ _) rfl ?_
    exact ⟨rfl, setE_hd h'.out 82, (Mod.refl (fun b => b = g) w).setCell (p := ⟨g, 11, none⟩) (.inl rfl) _⟩
  · have d0 : (e == 0) = false := by simp [h0]
    rw [show orE e 82 = e from if_neg h0]
    clear h0
    go_enter Tryz.func151, Tryz.ntmps151
    go_wp2_with fail
    refine bodyPost_ret (results_none rfl _ _ _) rfl ?_
    exact ⟨rfl, h'.out, Mod.refl _ w⟩
/-- A number, of a word. -/
def numStep (s : ByteArray) (st : Option Int) (i : Nat) : Option Int :=
  match st with
  | none => none
  | some n => if bAt s i < 48 ∨ 57 < bAt s i ∨ 5 < i then none else some (10 * n + ((bAt s i : Int) - 48))
def numR (s : ByteArray) : Option Int :=
  match foldN (numStep s) (some 0) s.size with
  | none => none
  | some n => if s.size = 0 ∨ (bAt s 0 = 48 ∧ 1 < s.size) ∨ 100000 < n then none else some n
def failE (e : Int) (x : Option Int) : Int := if x.isSome then e else orE e 81
def NumPost (g : Nat) (m : Mx) (wt ky : Bool) (e : Int) (x : Option Int) (w : World) (en : Ending) (w' : World) : Prop := en = .returned (.int .i64 (x.getD 0)) ∧ PsHd w' g m wt ky (failE e x) ∧ Mod (fun b => b = g) w w'
set_option maxRecDepth 100000 in
set_option maxHeartbeats 3200000 in
theorem rNum_any (g : Nat) (m : Mx) (wt ky : Bool) (e : Int) (s : ByteArray) (w : World) (h : PsHd w g m wt ky e) (hs : s.size ≤ maxLen) : Calls Tryz.prog 109 #[.pointer (some ⟨g, 0, none⟩), .string s] w (NumPost g m wt ky e (numR s) w) := by
  unfold maxLen at hs
  have h' := Lib.hid h
  clear h
  have hnr : Hid (numR s = match foldN (numStep s) (some 0) s.size with | none => none | some n => if s.size = 0 ∨ (bAt s 0 = 48 ∧ 1 < s.size) ∨ 100000 < n then none else some n) := Lib.hid rfl
  have hbad : Hid (numR s = none → ∀ w', FailPost g m wt ky (orE e 81) w (.returned (.tuple #[])) w' → NumPost g m wt ky e (numR s) w (.returned (.int .i64 0)) w') := Lib.hid fun hn w' hp => by rw [hn]; exact ⟨rfl, hp.2.1, hp.2.2⟩
  go_enter Tryz.func109, Tryz.ntmps109
  go_wp2_with fail
  go_loopw [5, 6] (fun a i wr => ∃ (k : Nat) (n : Int), k ≤ s.size ∧ k ≤ 6 ∧ i = .int .i64 k ∧ a = .int .i64 n ∧ 0 ≤ n ∧ n < (10 ^ k : Nat) ∧ foldN (numStep s) (some 0) k = some n ∧ w = wr) (fun _ i _ => s.size - (intOf i).toNat)
  case atStart => exact ⟨0, 0, by omega, by omega, rfl, rfl, by omega, by decide, rfl, rfl⟩
  case round =>
    obtain ⟨k, n, hk, hk6, rfl, rfl, hn0, hn1, hst, rfl⟩ := hrel
    have hst' := Lib.hid hst
    have hpow : 10 ^ k ≤ 10 ^ 6 := Nat.pow_le_pow_right (by omega) hk6
    have hn6 : n < 1000000 := by omega
    have hn1' := Lib.hid hn1
    clear hst hn1 hpow
    by_cases hlt : k < s.size
    · have e3 : (k : Int) < (s.size : Int) := by omega
      have hnx : Hid (foldN (numStep s) (some 0) (k + 1) = if (s[k]'hlt).toNat < 48 ∨ 57 < (s[k]'hlt).toNat ∨ 5 < k then none else some (10 * n + (((s[k]'hlt).toNat : Int) - 48))) := Lib.hid (by rw [foldN_succ, hst'.out]; show (if bAt s k < 48 ∨ 57 < bAt s k ∨ 5 < k then none else some (10 * n + ((bAt s k : Int) - 48))) = _; rw [bAt_of hlt])
      have hno : Hid (((s[k]'hlt).toNat < 48 ∨ 57 < (s[k]'hlt).toNat ∨ 5 < k) → numR s = none) := Lib.hid fun hc => by
        have h1 : foldN (numStep s) (some 0) (k + 1) = none := by rw [hnx.out, if_pos hc]
        have h2 := foldN_none (numStep s) (fun i => rfl) _ h1 (s.size - (k + 1))
        rw [show k + 1 + (s.size - (k + 1)) = s.size by omega] at h2
        rw [hnr.out, h2]
      by_cases hc1 : (s[k]'hlt).toNat < 48
      · have d1 : decide (((s[k]'hlt).toNat : Int) < 48) = true := by simp; omega
        have hno' := Lib.hid (hno.out (.inl hc1))
        clear hc1
        go_wp2_with (go_at_call 108; refine (rFail_any g m wt ky e 81 _ h'.out).mono ?_; rintro e W1 ⟨rfl, hF⟩)
        go_ret
        exact hbad.out hno'.out _ ⟨rfl, hF⟩
      · have d1 : decide (((s[k]'hlt).toNat : Int) < 48) = false := by simp; omega
        by_cases hc2 : 57 < (s[k]'hlt).toNat
        · have d2 : decide ((57 : Int) < ((s[k]'hlt).toNat : Int)) = true := by simp; omega
          have hno' := Lib.hid (hno.out (.inr (.inl hc2)))
          clear hc1 hc2
          go_wp2_with (go_at_call 108; refine (rFail_any g m wt ky e 81 _ h'.out).mono ?_; rintro e W1 ⟨rfl, hF⟩)
          go_ret
          exact hbad.out hno'.out _ ⟨rfl, hF⟩
        · have d2 : decide ((57 : Int) < ((s[k]'hlt).toNat : Int)) = false := by simp; omega
          by_cases hc3 : 5 < k
          · have d3 : decide ((5 : Int) < (k : Int)) = true := by simp; omega
            have hno' := Lib.hid (hno.out (.inr (.inr hc3)))
            clear hc1 hc2 hc3
            go_wp2_with (go_at_call 108; refine (rFail_any g m wt ky e 81 _ h'.out).mono ?_; rintro e W1 ⟨rfl, hF⟩)
            go_ret
            exact hbad.out hno'.out _ ⟨rfl, hF⟩
          · have d3 : decide ((5 : Int) < (k : Int)) = false := by simp; omega
            have hnx2 : Hid (foldN (numStep s) (some 0) (k + 1) = some (10 * n + (((s[k]'hlt).toNat : Int) - 48))) := Lib.hid (by rw [hnx.out, if_neg (by omega)])
            have w1 : IntKind.u8.wrap (((s[k]'hlt).toNat : Int) - 48) = ((s[k]'hlt).toNat : Int) - 48 := by rw [IntKind.wrap_u8]; omega
            have w2 : IntKind.i64.wrap (((s[k]'hlt).toNat : Int) - 48) = ((s[k]'hlt).toNat : Int) - 48 := by rw [IntKind.wrap_i64]; omega
            have w3 : IntKind.i64.wrap (10 * n) = 10 * n := by rw [IntKind.wrap_i64]; omega
            have w4 : IntKind.i64.wrap (10 * n + (((s[k]'hlt).toNat : Int) - 48)) = 10 * n + (((s[k]'hlt).toNat : Int) - 48) := by rw [IntKind.wrap_i64]; omega
            have hbd : Hid (0 ≤ 10 * n + (((s[k]'hlt).toNat : Int) - 48) ∧ 10 * n + (((s[k]'hlt).toNat : Int) - 48) < (10 ^ (k + 1) : Nat)) := Lib.hid ⟨by omega, by have := hn1'.out; rw [Nat.pow_succ]; omega⟩
            have hk5 : k + 1 ≤ 6 := by omega
            clear hc1 hc2 hc3
            go_wp2_with fail
            go_roundw
            case rel => exact ⟨k + 1, _, by omega, hk5, by go_num, rfl, hbd.out.1, hbd.out.2, hnx2.out, trivial⟩
            case measure => simp [intOf] <;> omega
    · obtain rfl : k = s.size := by omega
      have hfin : Hid (numR s = if s.size = 0 ∨ (bAt s 0 = 48 ∧ 1 < s.size) ∨ 100000 < n then none else some n) := Lib.hid (by rw [hnr.out, hst'.out])
      by_cases hz : s.size = 0
      · have d1 : ((s.size : Int) == 0) = true := by rw [beq_iff_eq]; omega
        have hno' := Lib.hid (hfin.out.trans (if_pos (.inl hz)))
        clear hz
        go_wp2_with (go_at_call 108; refine (rFail_any g m wt ky e 81 _ h'.out).mono ?_; rintro e W1 ⟨rfl, hF⟩)
        go_ret
        exact hbad.out hno'.out _ ⟨rfl, hF⟩
      · have d1 : ((s.size : Int) == 0) = false := by rw [beq_eq_false_iff_ne]; omega
        have h0s : 0 < s.size := by omega
        have e4 : (0 : Int) < (s.size : Int) := by omega
        have hb0 : bAt s 0 = (s[0]'h0s).toNat := bAt_of h0s
        have hb0' := Lib.hid hb0
        clear hb0
        by_cases hq : (s[0]'h0s).toNat = 48
        · have d2 : (((s[0]'h0s).toNat : Int) == 48) = true := by rw [beq_iff_eq]; omega
          by_cases hq2 : 1 < s.size
          · have d3 : decide ((1 : Int) < (s.size : Int)) = true := by simp; omega
            have hno' := Lib.hid (hfin.out.trans (if_pos (.inr (.inl ⟨by rw [hb0'.out]; exact hq, hq2⟩))))
            clear hz hq hq2
            go_wp2_with (go_at_call 108; refine (rFail_any g m wt ky e 81 _ h'.out).mono ?_; rintro e W1 ⟨rfl, hF⟩)
            go_ret
            exact hbad.out hno'.out _ ⟨rfl, hF⟩
          · have d3 : decide ((1 : Int) < (s.size : Int)) = false := by simp; omega
            by_cases hq3 : 100000 < n
            · have d4 : decide (100000 < n) = true := decide_eq_true hq3
              have hno' := Lib.hid (hfin.out.trans (if_pos (.inr (.inr hq3))))
              clear hz hq hq2 hq3
              go_wp2_with (go_at_call 108; refine (rFail_any g m wt ky e 81 _ h'.out).mono ?_; rintro e W1 ⟨rfl, hF⟩)
              go_ret
              exact hbad.out hno'.out _ ⟨rfl, hF⟩
            · have d4 : decide (100000 < n) = false := decide_eq_false hq3
              have hyes := Lib.hid (hfin.out.trans (if_neg (by omega)))
              clear hz hq hq2 hq3
              go_wp2_with fail
              go_ret
              rw [hyes.out]
              exact ⟨rfl, h'.out, Mod.refl _ _⟩
        · have d2 : (((s[0]'h0s).toNat : Int) == 48) = false := by rw [beq_eq_false_iff_ne]; omega
          by_cases hq3 : 100000 < n
          · have d4 : decide (100000 < n) = true := decide_eq_true hq3
            have hno' := Lib.hid (hfin.out.trans (if_pos (.inr (.inr hq3))))
            clear hz hq hq3
            go_wp2_with (go_at_call 108; refine (rFail_any g m wt ky e 81 _ h'.out).mono ?_; rintro e W1 ⟨rfl, hF⟩)
            go_ret
            exact hbad.out hno'.out _ ⟨rfl, hF⟩
          · have d4 : decide (100000 < n) = false := decide_eq_false hq3
            have hyes := Lib.hid (hfin.out.trans (if_neg (by rw [hb0'.out]; omega)))
            clear hz hq hq3
            go_wp2_with fail
            go_ret
            rw [hyes.out]
            exact ⟨rfl, h'.out, Mod.refl _ _⟩
/-- The place of a word of some. -/
def findR : List ByteArray → ByteArray → Nat → Int
  | [], _, _ => -1
  | x :: l, s, i => if strEq x s then (i : Int) else findR l s (i + 1)
theorem findR_drop {l : List ByteArray} {s x : ByteArray} {k : Nat} (h : l[k]? = some x) : findR (l.drop k) s k = if strEq x s then (k : Int) else findR (l.drop (k + 1)) s (k + 1) := by
  have hk : k < l.length := by
    rcases Nat.lt_or_ge k l.length with h1 | h1
    · exact h1
    · rw [List.getElem?_eq_none h1] at h; cases h
  rw [List.drop_eq_getElem_cons hk]
  rw [List.getElem?_eq_getElem hk] at h
  cases h
  rfl
set_option maxRecDepth 100000 in
set_option maxHeartbeats 1600000 in
theorem rFind_any (A : Option Addr) (n c B : Nat) (l : List ByteArray) (s : ByteArray) (w : World) (hx : RdC strCells 1 w B A n l) (hB : B ≤ w.heap.size) (hn : n ≤ maxLen) : Calls Tryz.prog 150 #[.slice A n c, .string s] w fun e w' => e = .returned (.int .i64 (findR l s 0)) ∧ w = w' := by
  unfold maxLen at hn
  have hl' := Lib.hid hx.len
  have hx' := Lib.hid hx
  clear hx
  go_enter Tryz.func150, Tryz.ntmps150
  go_wp2_with fail
  go_loopw [5] (fun i wr => ∃ k : Nat, k ≤ n ∧ i = .int .i64 k ∧ findR l s 0 = findR (l.drop k) s k ∧ w = wr) (fun i _ => n - (intOf i).toNat)
  case atStart => exact ⟨0, by omega, rfl, rfl, rfl⟩
  case round =>
    obtain ⟨k, hk, rfl, hf, rfl⟩ := hrel
    have hf' := Lib.hid hf
    clear hf
    by_cases hlt : k < n
    · have e3 : (k : Int) < (n : Int) := by omega
      obtain ⟨x, hxk⟩ := hx'.out.get hlt
      obtain ⟨b1, o1, rfl, hb1, hcc⟩ := hx'.out.at_ hxk
      have hc1 : w.cell? ⟨b1, o1 + k, none⟩ = some (.string x) := by have := hcc 0 (by decide); rw [Nat.mul_one, Nat.add_zero] at this; exact this
      have hbw : b1 < w.heap.size := by omega
      have hd := Lib.hid (findR_drop (s := s) hxk)
      clear hxk hcc hb1
      cases hb : (x.toList == s.toList)
      · have hb' := Lib.hid (show strEq x s = false from hb)
        go_wp2_with fail
        go_roundw
        case rel => exact ⟨k + 1, by omega, by go_num, by rw [hf'.out, hd.out, hb'.out]; rfl, trivial⟩
        case measure => simp [intOf] <;> omega
      · have hb' := Lib.hid (show strEq x s = true from hb)
        go_wp2_with fail
        go_ret
        exact ⟨by rw [hf'.out, hd.out, hb'.out]; rfl, rfl⟩
    · obtain rfl : k = n := by omega
      go_wp2_with fail
      go_ret
      exact ⟨by rw [hf'.out, List.drop_of_length_le (by rw [hl'.out]; exact Nat.le_refl _)]; rfl, rfl⟩
end Go.Proofs.YtgajbgdkgelkgaaGreat
