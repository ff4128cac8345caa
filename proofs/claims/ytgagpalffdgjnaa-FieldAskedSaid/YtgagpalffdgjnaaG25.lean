/- The reference of layer 6: its bank, walked: Do. · The reference of layer 6: its bank, walked: Do, where it goes through. -/
import Derived.Test.YtgagpalffdgjnaaG24
import Derived.Test.YtgagpalffdgjnaaG14
import Derived.Test.YtgagpalffdgjnaaRef05D
import Derived.Test.YtgagpalffdgjnaaG13
import Derived.Test.YtgagpalffdgjnaaG61
import Derived.Deep.DeepCutAuto
namespace Go.Proofs.Ytgagpalffdgjnaa
open Go.RowKit

theorem right_bounds {fc ad qt tw : Int} {xs : List Int} (h : rightB' fc ad qt tw xs = true) : (0 ≤ ad ∧ ad ≤ 65535) ∧ (0 ≤ qt ∧ qt ≤ 2000) ∧ (0 ≤ tw ∧ tw ≤ 65535) := by
  obtain ⟨b0, b1, b2, b3, -⟩ := right_do h
  obtain ⟨s, hs, h1, h2⟩ := right_parts h
  obtain ⟨⟨a0, a1⟩, ⟨t0, t1⟩, ⟨q0, q1⟩, hq, ht, f0, f1, f2, f3⟩ := holds_parts h1
  exact ⟨⟨b0, by omega⟩, ⟨b1, b2⟩, ⟨b3, by omega⟩⟩
/-- Where it writes, and what. -/
def rfFrom (fc ad tw : Int) : Nat := if fc = 23 then tw.toNat else ad.toNat
def rfVals (L : Nat → List Int) (fc ad : Int) (xs : List Int) : List Int := if fc = 22 then [maskV ((L (kindN fc)).getD ad.toNat 0) (xs.getD 0 0) (xs.getD 1 0)] else xs
theorem fits_rf {L : Nat → List Int} {fc ad qt tw : Int} {n : Nat} (h0 : 0 ≤ ad) (h1 : 0 ≤ tw) :
    doFits L fc ad qt tw n = true ↔ (ad + max qt 1 ≤ ((L (kindN fc)).length : Int) ∧ (fc = 23 → tw + n ≤ ((L (kindN fc)).length : Int))) := by
  unfold doFits spanB
  rw [sizeB_of L _ (kindN_lt fc)]
  by_cases hf : fc = 23
  · subst hf
    simp
    omega
  · have : (fc != 23) = true := by simp; exact hf
    rw [this]
    simp [hf]
    omega
theorem splice_set {l : List Int} {a : Nat} {x : Int} (h : a < l.length) : splice l a [x] = l.set a x := by
  have h0 : splice l a [] = l := splice_nil _ _
  apply List.ext_getElem?
  intro j
  unfold splice
  rw [List.getElem?_set]
  by_cases e1 : j < a
  · rw [List.getElem?_append_left (by rw [List.length_take]; omega), List.getElem?_take_of_lt e1, if_neg (by omega)]
  · rw [List.getElem?_append_right (by rw [List.length_take]; omega), List.length_take, Nat.min_eq_left (by omega)]
    by_cases e2 : a = j
    · subst e2
      simp [h]
    · rw [List.getElem?_append_right (by simp; omega), List.getElem?_drop, if_neg e2]
      congr 1
      simp
      omega
section
variable {L : Nat → List Int} {fc ad qt tw : Int} {xs : List Int}
theorem rf_parts (hq : rightB' fc ad qt tw xs = true) (hf : doFits L fc ad qt tw xs.length = true) :
    doRow L fc ad tw xs = splice (L (kindN fc)) (rfFrom fc ad tw) (rfVals L fc ad xs) ∧ rfFrom fc ad tw + (rfVals L fc ad xs).length ≤ (L (kindN fc)).length ∧ (rfVals L fc ad xs).length ≤ 2000 ∧ (kindN fc < 2 → ∀ y ∈ rfVals L fc ad xs, y ≤ 1) := by
  obtain ⟨a0, q0, q2, t0, xl, x23, x1, x22, xr, y22⟩ := right_do hq
  have hfi := (fits_rf a0 t0).1 hf
  unfold doRow rfFrom rfVals
  by_cases h22 : fc = 22
  · subst h22
    obtain ⟨e1, e2⟩ := x22 rfl
    have hlt : ad.toNat < (L (kindN 22)).length := by omega
    rw [if_pos rfl, if_pos rfl, if_neg (by decide)]
    exact ⟨(splice_set hlt).symm, by simp; omega, by simp, fun h => absurd h (by decide)⟩
  · rw [if_neg h22, if_neg h22]
    refine ⟨rfl, ?_, xl, fun hk => (right_bits hq hk).1⟩
    by_cases h23 : fc = 23
    · rw [if_pos h23]
      have := hfi.2 h23
      omega
    · rw [if_neg h23]
      have := x23 h23 h22
      omega
theorem rfVals_range (hL : ∀ (k j : Nat), 0 ≤ (L k)[j]?.getD 0 ∧ (L k)[j]?.getD 0 ≤ 65535) (hr : ∀ j : Nat, 0 ≤ xs[j]?.getD 0 ∧ xs[j]?.getD 0 ≤ 65535) : ∀ j : Nat, 0 ≤ (rfVals L fc ad xs)[j]?.getD 0 ∧ (rfVals L fc ad xs)[j]?.getD 0 ≤ 65535 := by
  unfold rfVals
  split
  · intro j
    have hx : ∀ j, 0 ≤ xs.getD j 0 ∧ xs.getD j 0 ≤ 65535 := fun j => by rw [List.getD_eq_getElem?_getD]; exact hr j
    have hl := hL (kindN fc) ad.toNat
    rw [← List.getD_eq_getElem?_getD] at hl
    have := maskV_range _ _ _ hl.1 hl.2 (hx 0).1 (hx 0).2 (hx 1).1 (hx 1).2
    cases j with
    | zero => simpa using this
    | succ j => simp
  · exact hr
theorem rf_put_step {k f j : Nat} {vs : List Int} (hk : k < 4) (hfit : f + vs.length ≤ (L k).length) (hb : k < 2 → ∀ y ∈ vs, y ≤ 1) (hj : j < vs.length) :
    spanB (upd L k (fillA (L k) f vs j)) k ((f + j : Nat) : Int) 1 = true ∧ putB (upd L k (fillA (L k) f vs j)) k ((f + j : Nat) : Int) (vs.getD j 0) = upd L k (fillA (L k) f vs (j + 1)) := by
  have hlen : (fillA (L k) f vs j).length = (L k).length := fillA_length _ _ _ _ (by omega)
  have hs : spanB (upd L k (fillA (L k) f vs j)) k ((f + j : Nat) : Int) 1 = true := by
    unfold spanB
    rw [sizeB_of _ k hk, upd_same, hlen]
    simp
    omega
  refine ⟨hs, ?_⟩
  unfold putB
  rw [if_pos hs, Int.toNat_natCast, Int.toNat_natCast, upd_same, upd_upd]
  have hv : putV (k : Int) (vs.getD j 0) = vs.getD j 0 := by
    unfold putV
    split
    · rename_i h
      have := hb (by omega) (vs.getD j 0) (by rw [List.getD_eq_getElem?_getD, List.getElem?_eq_getElem hj]; exact List.getElem_mem hj)
      omega
    · rfl
  rw [hv, fillA_set _ _ _ _ hj (by omega)]
end
def RfDoPost (code : Int) (ys : List Int) (base r : Nat) (L' : Nat → List Int) (w : World) (e : Ending) (w' : World) : Prop :=
  ∃ A n c, e = .returned (.agg #[.int .i64 code, .slice A n c]) ∧ n ≤ c ∧ c ≤ maxLen ∧ RdI w' w'.heap.size .u16 A n ys ∧ (∀ b o, A = some ⟨b, o, none⟩ → w.heap.size ≤ b) ∧ HasRf w' base r L' ∧ Mod (fun b => b = r) w w'
/-- What is stored into a block of another type leaves the bank as it was. -/
theorem HasRf.far {w w' : World} {base r p : Nat} {L : Nat → List Int} {cs : Array Value} {t : TypeId} (h : HasRf w base r L) (hp : w.heap[p]? = some (.cells cs t (0, 0))) (h1 : t ≠ 138) (h2 : 43 ≠ t) (M : Mod (fun b => b = p) w w') : HasRf w' base r L := by
  obtain ⟨A, c, h⟩ := h
  refine ⟨A, c, (M.block r h.lt ?_).trans h.head, fun k hk => own_keep6 (h.own k hk) (fun b hb => M.block b ((h.own k hk).lt b hb).2 ?_), h.hb, h.len, h.rng⟩
  · intro e
    subst e
    have := h.head
    rw [hp] at this
    injection this with this
    injection this with _ e
    exact h1 e
  · intro e
    subst e
    exact own_type (h.own k hk) hp h2 hb
/-- Numbers that are read lie in no bank's head. -/
theorem RdI.ne_rf {w : World} {base r n : Nat} {k : IntKind} {A : Option Addr} {xs : List Int} {L : Nat → List Int} (h : RdI w w.heap.size k A n xs) (hb : HasRf w base r L) (hn : 0 < n) {b o : Nat} (e : A = some ⟨b, o, none⟩) : b ≠ r := by
  intro hbr
  subst hbr
  obtain ⟨Af, cf, hb⟩ := hb
  obtain ⟨b', o', e', _, hc⟩ := h.2 hn
  rw [e] at e'; injection e' with e'; injection e' with e1 e2
  subst e1 e2
  have := hc 0 hn
  rw [cellsAt hb.head] at this
  match o, this with
  | 0, this => simp at this
  | 1, this => simp at this
  | 2, this => simp at this
  | 3, this => simp at this
  | _ + 4, this => simp at this
theorem RdI.past_rf {w w' : World} {base r n : Nat} {k : IntKind} {A : Option Addr} {xs : List Int} {L : Nat → List Int} (h : RdI w w.heap.size k A n xs) (hb : HasRf w base r L) (M : Mod (fun b => b = r) w w') : RdI w' w'.heap.size k A n xs :=
  ⟨h.1, fun hn => by
    obtain ⟨b, o, e, hlt, hc⟩ := h.2 hn
    exact ⟨b, o, e, Nat.lt_of_lt_of_le hlt M.size, fun j hj => (M.cell (o + j) hlt (h.ne_rf hb hn e)).trans (hc j hj)⟩⟩
theorem two_mod (w : World) (i : Nat) (b0 b1 : Value) : Mod (fun j => j = i) w ((w.setCell ⟨i, 0, none⟩ b0).setCell ⟨i, 1, none⟩ b1) :=
  ((Mod.refl (fun j => j = i) w).setCell (p := ⟨i, 0, none⟩) (.inl rfl) b0).setCell (p := ⟨i, 1, none⟩) (.inl rfl) b1
section
variable (base r : Nat) (L : Nat → List Int) (fc ad qt tw : Int) (A : Option Addr) (n c : Nat) (xs : List Int) (w : World)
set_option maxRecDepth 100000 in
set_option maxHeartbeats 3200000 in
theorem rfDo_refused (hb : HasRf w base r L) (hx : RdI w w.heap.size .u16 A n xs) (nm : n ≤ maxLen) (hg : doGoes L fc ad qt tw xs = false) :
    Calls Try.prog 67 #[.pointer (some ⟨r, 0, none⟩), .agg #[.int .i64 fc, .int .i64 ad, .int .i64 qt, .slice A n c, .int .i64 tw]] w (RfDoPost (doC L fc ad qt tw xs) [] base r L w) := by
  have E0 := ((Ext.refl w).goA (.cells #[.int .i64 fc, .int .i64 ad, .int .i64 qt, .slice A n c, .int .i64 tw] 30)).goA (.cells #[.int .i64 0, .slice none 0 0] 54)
  have hQ : ((w.alloc (.cells #[.int .i64 fc, .int .i64 ad, .int .i64 qt, .slice A n c, .int .i64 tw] 30)).alloc (.cells #[.int .i64 0, .slice none 0 0] 54)).heap[w.heap.size]? = some (.cells #[.int .i64 fc, .int .i64 ad, .int .i64 qt, .slice A n c, .int .i64 tw] 30 (0, 0)) := by rw [alloc_get, if_neg (by simp), alloc_get, if_pos rfl]
  have hP : ((w.alloc (.cells #[.int .i64 fc, .int .i64 ad, .int .i64 qt, .slice A n c, .int .i64 tw] 30)).alloc (.cells #[.int .i64 0, .slice none 0 0] 54)).heap[w.heap.size + 1]? = some (.cells #[.int .i64 0, .slice none 0 0] 54 (0, 0)) := by rw [alloc_get, if_pos (by simp)]
  have hQ' := Lib.hid hQ
  have hP' := Lib.hid hP
  have hx' := Lib.hid hx
  have hb' := Lib.hid hb
  have hl := hx.len
  have q0 := cellsAt hQ
  have hfin : ∀ (w1 : World) (code : Int), Ext w w1 → w1.heap[w.heap.size + 1]? = some (.cells #[.int .i64 0, .slice none 0 0] 54 (0, 0)) → RfDoPost code [] base r L w (.returned (.agg #[.int .i64 code, .slice none 0 0])) ((w1.setCell ⟨w.heap.size + 1, 0, none⟩ (.int .i64 code)).setCell ⟨w.heap.size + 1, 1, none⟩ (.slice none 0 0)) := fun w1 code E h =>
    ⟨none, 0, 0, rfl, Nat.le_refl _, by unfold maxLen; omega, RdI.nil _, fun b o e => (by cases e), (hb'.out.ext E).far h (by decide) (by decide) (two_mod _ _ _ _), (Mod.ofBelow (E.two (by omega) _ _))⟩
  have hfin' := Lib.hid hfin
  have hright := fun w' (E : Ext w w') => refRight_any fc ad qt tw A n c xs w' (hx'.out.ext E) nm
  have hright' := Lib.hid hright
  unfold doGoes at hg
  unfold doC
  clear hQ hP hx hb hfin hright
  unfold maxLen at nm
  cases hq : rightB' fc ad qt tw xs
  · rw [hq] at hright'
    rw [if_neg (by decide)]
    clear hg hq
    go_enter Try.func67, Try.ntmps67
    go_wp2_with fail
    generalize (w.alloc (.cells #[.int .i64 fc, .int .i64 ad, .int .i64 qt, .slice A n c, .int .i64 tw] 30)).alloc (.cells #[.int .i64 0, .slice none 0 0] 54) = U at *
    refine (hright'.out U E0).mono ?_
    rintro e w1 ⟨rfl, D1⟩
    have P1 := (D1.block _ (lt_of_block hP'.out)).trans hP'.out
    have f1 := frozen_block P1
    have p1 := cellsAt P1
    have P1' := Lib.hid P1
    clear P1 q0
    go_wp2_with fail
    obtain ⟨z0, z1⟩ := two_reads P1'.out (.int .i64 3) (.slice none 0 0)
    refine bodyPost_ret (v := .agg #[.int .i64 3, .slice none 0 0]) (by simp [results, Try.results67, go_sem, z0, z1]) rfl ?_
    exact hfin'.out w1 3 (E0.go D1) P1'.out
  · rw [hq, Bool.true_and] at hg
    rw [hg, if_pos rfl, if_neg (by decide)]
    obtain ⟨⟨a0, a1⟩, ⟨b0, b1⟩, ⟨t0, t1⟩⟩ := right_bounds hq
    obtain ⟨-, -, -, -, xl, -⟩ := right_do hq
    rw [hl] at xl hg
    have hnf : ¬ (doFits L fc ad qt tw n = true) := by rw [hg]; decide
    rw [fits_rf a0 t0] at hnf
    rw [hq] at hright'
    have hways : (decide (((L (kindN fc)).length : Int) < ad + max qt 1) = true) ∨ (decide (((L (kindN fc)).length : Int) < ad + max qt 1) = false ∧ fc = 23 ∧ decide (((L (kindN fc)).length : Int) < tw + (n : Int)) = true) := by
      by_cases h : ad + max qt 1 ≤ ((L (kindN fc)).length : Int)
      · right
        have h23 : fc = 23 := Decidable.byContradiction fun h23 => hnf ⟨h, fun e => absurd e h23⟩
        refine ⟨by simp; omega, h23, ?_⟩
        have : ¬ (tw + (n : Int) ≤ ((L (kindN fc)).length : Int)) := fun e => hnf ⟨h, fun _ => e⟩
        simp; omega
      · left; simp; omega
    have hslot : ∀ w', Ext w w' → ∃ Ak ck, w'.cell? ⟨r, kindN fc, none⟩ = some (.slice Ak (L (kindN fc)).length ck) := fun w' E => by
      obtain ⟨Af, cf, h⟩ := hb'.out.ext E
      exact ⟨_, _, h.slot (kindN_lt fc)⟩
    have hslot' := Lib.hid hslot
    have hkl := kindN_lt fc
    have hkind := fun w => rfKind_any fc w
    have hkind' := Lib.hid hkind
    clear hg hq hnf hslot hkind
    generalize kindN fc = k at *
    generalize (L k).length = len at *
    rcases hways with d1 | ⟨d1, rfl, d2⟩
    all_goals
      go_enter Try.func67, Try.ntmps67
      go_wp2_with fail
      generalize (w.alloc (.cells #[.int .i64 _, .int .i64 ad, .int .i64 qt, .slice A n c, .int .i64 tw] 30)).alloc (.cells #[.int .i64 0, .slice none 0 0] 54) = U at *
      refine (hright'.out U E0).mono ?_
      rintro e w1 ⟨rfl, D1⟩
      have q1 := cellsAt ((D1.block _ (lt_of_block hQ'.out)).trans hQ'.out)
      have P1 := (D1.block _ (lt_of_block hP'.out)).trans hP'.out
      have f1 := frozen_block P1
      have p1 := cellsAt P1
      have P1' := Lib.hid P1
      obtain ⟨Ak, ck, s1⟩ := hslot'.out w1 (E0.go D1)
      clear P1 q0
      go_wp2_with fail
      refine (hkind'.out w1).mono ?_
      rintro e w2 ⟨rfl, rfl⟩
      go_wp2_with fail
      obtain ⟨z0, z1⟩ := two_reads P1'.out (.int .i64 2) (.slice none 0 0)
      refine bodyPost_ret (v := .agg #[.int .i64 2, .slice none 0 0]) (by simp [results, Try.results67, go_sem, z0, z1]) rfl ?_
      exact hfin'.out w1 2 (E0.go D1) P1'.out
end
end Go.Proofs.Ytgagpalffdgjnaa
namespace Go.Proofs.Ytgagpalffdgjnaa
open Go.RowKit

section
variable (base r : Nat) (L : Nat → List Int) (fc ad qt tw : Int) (A : Option Addr) (n c : Nat) (xs : List Int) (w : World)
set_option maxRecDepth 100000 in
set_option maxHeartbeats 6400000 in
theorem rfDo_goes (hb : HasRf w base r L) (hx : RdI w w.heap.size .u16 A n xs) (hr : ∀ j : Nat, 0 ≤ xs[j]?.getD 0 ∧ xs[j]?.getD 0 ≤ 65535) (hnc : n ≤ c ∧ c ≤ maxLen) (hg : doGoes L fc ad qt tw xs = true) :
    Calls Try.prog 67 #[.pointer (some ⟨r, 0, none⟩), .agg #[.int .i64 fc, .int .i64 ad, .int .i64 qt, .slice A n c, .int .i64 tw]] w (RfDoPost 0 (doY L fc ad qt tw xs) base r (doL L fc ad qt tw xs) w) := by
  have E0 := ((Ext.refl w).goA (.cells #[.int .i64 fc, .int .i64 ad, .int .i64 qt, .slice A n c, .int .i64 tw] 30)).goA (.cells #[.int .i64 0, .slice none 0 0] 54)
  have hQ : ((w.alloc (.cells #[.int .i64 fc, .int .i64 ad, .int .i64 qt, .slice A n c, .int .i64 tw] 30)).alloc (.cells #[.int .i64 0, .slice none 0 0] 54)).heap[w.heap.size]? = some (.cells #[.int .i64 fc, .int .i64 ad, .int .i64 qt, .slice A n c, .int .i64 tw] 30 (0, 0)) := by rw [alloc_get, if_neg (by simp), alloc_get, if_pos rfl]
  have hP : ((w.alloc (.cells #[.int .i64 fc, .int .i64 ad, .int .i64 qt, .slice A n c, .int .i64 tw] 30)).alloc (.cells #[.int .i64 0, .slice none 0 0] 54)).heap[w.heap.size + 1]? = some (.cells #[.int .i64 0, .slice none 0 0] 54 (0, 0)) := by rw [alloc_get, if_pos (by simp)]
  have nm := Nat.le_trans hnc.1 hnc.2
  have hQ' := Lib.hid hQ
  have hP' := Lib.hid hP
  have hx' := Lib.hid hx
  have hb' := Lib.hid hb
  have hl := hx.len
  have q0 := cellsAt hQ
  have hright := fun w' (E : Ext w w') => refRight_any fc ad qt tw A n c xs w' (hx'.out.ext E) nm
  obtain ⟨hq, hf⟩ := doGoes_parts hg
  have hrp := rf_parts hq hf
  obtain ⟨⟨a0, a1⟩, ⟨b0, b1⟩, ⟨t0, t1⟩⟩ := right_bounds hq
  obtain ⟨-, -, -, -, xl, -, -, x22, xr, -⟩ := right_do hq
  rw [fits_rf a0 t0] at hf
  rw [hl] at xl hf x22
  rw [hq] at hright
  have hright' := Lib.hid hright
  obtain ⟨hf1, hf2⟩ := hf
  have hvr : ∀ (j : Nat), 0 ≤ (rfVals L fc ad xs)[j]?.getD 0 ∧ (rfVals L fc ad xs)[j]?.getD 0 ≤ 65535 := by
    obtain ⟨Af, cf, h⟩ := hb
    exact rfVals_range h.rng hr
  have d1 : decide (((L (kindN fc)).length : Int) < ad + max qt 1) = false := by simp; omega
  have d2 : fc = 23 → decide (((L (kindN fc)).length : Int) < tw + (n : Int)) = false := fun e => by have := hf2 e; simp; omega
  have hl256 : (L (kindN fc)).length ≤ 256 := by
    obtain ⟨Af, cf, h⟩ := hb
    exact h.len _
  have hrow : ∀ w' (L' : Nat → List Int), HasRf w' base r L' → ∃ Ak ck, w'.cell? ⟨r, kindN fc, none⟩ = some (.slice Ak (L' (kindN fc)).length ck) ∧ RdI w' w'.heap.size .u16 Ak (L' (kindN fc)).length (L' (kindN fc)) ∧ (L' (kindN fc)).length ≤ ck ∧ ck ≤ maxLen := fun w' L' h => by
    obtain ⟨Af, cf, h⟩ := h
    obtain ⟨A1, c1, e, ⟨g1, g2⟩, hr⟩ := own_rd (h.own _ (kindN_lt fc))
    injection e with e1 _ e3
    subst e1 e3
    exact ⟨_, _, h.slot (kindN_lt fc), hr, g1, g2⟩
  have hrow' := Lib.hid hrow
  have hkl := kindN_lt fc
  have hkind := fun w => rfKind_any fc w
  have hkind' := Lib.hid hkind
  have hstep : ∀ j, j < (rfVals L fc ad xs).length → _ := fun j hj => rf_put_step (L := L) (j := j) (f := rfFrom fc ad tw) (vs := rfVals L fc ad xs) hkl hrp.2.1 hrp.2.2.2 hj
  have hstep' := Lib.hid hstep
  have hrowe := hrp.1
  have hfit := hrp.2.1
  have hvl := hrp.2.2.1
  have hLd : doL L fc ad qt tw xs = upd L (kindN fc) (splice (L (kindN fc)) (rfFrom fc ad tw) (rfVals L fc ad xs)) := by unfold doL; rw [if_pos hg, hrowe]
  have hYd : doY L fc ad qt tw xs = if readsB fc = true then ((splice (L (kindN fc)) (rfFrom fc ad tw) (rfVals L fc ad xs)).drop ad.toNat).take qt.toNat else [] := by unfold doY; rw [if_pos hg, hrowe]
  have hvals : rfVals L fc ad xs = if fc = 22 then [maskV ((L (kindN fc)).getD ad.toNat 0) (xs.getD 0 0) (xs.getD 1 0)] else xs := rfl
  have hfrom : rfFrom fc ad tw = if fc = 23 then tw.toNat else ad.toNat := rfl
  have hall : fillA (L (kindN fc)) (rfFrom fc ad tw) (rfVals L fc ad xs) (rfVals L fc ad xs).length = splice (L (kindN fc)) (rfFrom fc ad tw) (rfVals L fc ad xs) := fillA_all _ _ _ _ (Nat.le_refl _)
  have hzero : fillA (L (kindN fc)) (rfFrom fc ad tw) (rfVals L fc ad xs) 0 = L (kindN fc) := fillA_zero _ _ _
  have hspl : (splice (L (kindN fc)) (rfFrom fc ad tw) (rfVals L fc ad xs)).length = (L (kindN fc)).length := length_splice _ _ _ hfit
  rw [hLd, hYd]
  have hall' := Lib.hid hall
  have hzero' := Lib.hid hzero
  have hspl' := Lib.hid hspl
  have hvr' := Lib.hid hvr
  have hvals' := Lib.hid hvals
  have hfrom' := Lib.hid hfrom
  have xr' := Lib.hid xr
  clear hg hq hf2 hrow hkind hstep hrowe hrp hLd hYd hall hzero hspl hvr hvals hfrom hQ hP hx hright xr
  unfold maxLen at nm
  generalize hY : (if readsB fc = true then ((splice (L (kindN fc)) (rfFrom fc ad tw) (rfVals L fc ad xs)).drop ad.toNat).take qt.toNat else []) = Y
  have hY' := Lib.hid hY
  clear hY
  generalize rfVals L fc ad xs = vs at *
  generalize rfFrom fc ad tw = f at *
  generalize kindN fc = k at *
  generalize hlen : (L k).length = len at *
  have hlen' := Lib.hid hlen
  clear hlen
  go_enter Try.func67, Try.ntmps67
  go_wp2_with fail
  generalize (w.alloc (.cells #[.int .i64 fc, .int .i64 ad, .int .i64 qt, .slice A n c, .int .i64 tw] 30)).alloc (.cells #[.int .i64 0, .slice none 0 0] 54) = U at *
  refine (hright'.out U E0).mono ?_
  rintro e w1 ⟨rfl, D1⟩
  have E1 := E0.go D1
  have Q1 := (D1.block _ (lt_of_block hQ'.out)).trans hQ'.out
  have P1 := (D1.block _ (lt_of_block hP'.out)).trans hP'.out
  have Q1' := Lib.hid Q1
  have P1' := Lib.hid P1
  have q1 := cellsAt Q1
  obtain ⟨Ak, ck, s1, rk, ck1, ck2⟩ := hrow'.out w1 L (hb'.out.ext E1)
  rw [hlen'.out] at s1 rk ck1
  have rk' := Lib.hid rk
  have b1' := Lib.hid (hb'.out.ext E1)
  have x1' := Lib.hid (hx'.out.ext E1)
  clear Q1 P1 q0 rk hQ' hP' hx' hb' hright' D1 E0
  go_wp2_with fail
  refine (hkind'.out w1).mono ?_
  rintro e w2 ⟨rfl, rfl⟩
  clear hkind'
  have hd2 : (fc == 23) = false ∨ ((fc == 23) = true ∧ decide ((len : Int) < tw + (n : Int)) = false) := by
    by_cases e : fc = 23
    · exact .inr ⟨by simp [e], d2 e⟩
    · exact .inl (by simp [e])
  go_upto_region 5 with fail
  go_cut [49] (fun s wx => s = .bool false ∧ w1 = wx)
  case first =>
    rcases hd2 with e1 | ⟨e1, e2⟩
    all_goals
      go_wp2_with fail
      go_meet
      exact ⟨rfl, rfl⟩
  case rest =>
    obtain ⟨rfl, rfl⟩ := hcut
    clear hd2 d1 d2
    go_upto_if 57 with fail
    go_cut [7] (fun s wx => s = .int .i64 (f : Int) ∧ w1 = wx)
    case first =>
      by_cases e : fc = 23
      · have e' : (fc == 23) = true := by simp [e]
        have hf0 : tw = (f : Int) := by have := hfrom'.out; rw [if_pos e] at this; omega
        go_wp2_with fail
        go_meet
        first
          | exact ⟨rfl, rfl⟩
          | exact ⟨by rw [hf0], rfl⟩
      · have e' : (fc == 23) = false := by simp [e]
        have hf0 : ad = (f : Int) := by have := hfrom'.out; rw [if_neg e] at this; omega
        go_wp2_with fail
        go_meet
        first
          | exact ⟨rfl, rfl⟩
          | exact ⟨by rw [hf0], rfl⟩
    case rest =>
      obtain ⟨rfl, rfl⟩ := hcut
      go_upto_if 62 with fail
      go_cut [8] (fun s wx => (∃ Av nv cv, s = .slice Av nv cv ∧ nv = vs.length ∧ (nv ≤ cv ∧ cv ≤ maxLen) ∧ RdI wx wx.heap.size .u16 Av nv vs) ∧ Ext w1 wx)
      case first =>
        by_cases e : fc = 22
        · obtain ⟨rfl, rfl⟩ := x22 e
          have e' : (fc == 22) = true := by simp [e]
          have hf0 : f = ad.toNat := by have := hfrom'.out; rw [if_neg (by omega)] at this; exact this
          have hv0 := hvals'.out
          rw [if_pos e, ← hf0] at hv0
          have hv0' := Lib.hid hv0
          have hfl : f < len := by rw [hv0] at hfit; simp at hfit; omega
          obtain ⟨bk, ok, hAk, hbk, hck⟩ := rk'.out.at_ hfl
          obtain ⟨bx, ox, rfl, hbx, hcx0⟩ := x1'.out.at_ (show 0 < 2 by omega)
          obtain ⟨bx', ox', ee, _, hcx1⟩ := x1'.out.at_ (show 1 < 2 by omega)
          injection ee with ee; injection ee with ee1 ee2
          subst ee1 ee2
          rw [hAk] at s1
          generalize (L k).getD f 0 = was at *
          generalize xs.getD 0 0 = y0 at *
          generalize xs.getD 1 0 = y1 at *
          rw [Nat.add_zero] at hcx0
          have hg0 : ∀ w', Ext w1 w' → w'.cell? ⟨bx, ox, none⟩ = some (.int .u16 y0) := fun w' E => (E.cell _ hbx).trans hcx0
          have hg1 : ∀ w', Ext w1 w' → w'.cell? ⟨bx, ox + 1, none⟩ = some (.int .u16 y1) := fun w' E => (E.cell _ hbx).trans hcx1
          have hgq : ∀ w', Ext w1 w' → ∀ o, w'.cell? ⟨w.heap.size, o, none⟩ = _ := fun w' E => cellsAt ((E.block _ (lt_of_block Q1'.out)).trans Q1'.out)
          clear hv0 hAk hf0 e
          go_upto_region 13 with fail
          have d0 : Ext w1 w1.drew := (Ext.refl _).god
          refine wp_region_held_drew (S := fun w' => Ext w1 w') (by kernel_rfl) d0 (fun hHeld => ?_)
          refine tk 0 ?_
          try simp only [Act.put, gA, gC, List.setIfInBounds_toArray, gE, gF]
          refine tk 1 ?_
          try simp only [Act.put, gA, gB, gC, List.setIfInBounds_toArray, gE, gF]
          refine tk 2 ?_
          try simp only [Act.put, gA, gB, gC, List.setIfInBounds_toArray, gE, gF]
          refine tk 3 ?_
          try simp only [Act.put, gA, gB, gC, List.setIfInBounds_toArray, gE, gF]
          refine tk 4 ?_
          try simp only [Act.put, gA, gB, gC, List.setIfInBounds_toArray, gE, gF]
          refine tk 5 ?_
          try simp only [Act.put, gA, gB, gC, List.setIfInBounds_toArray, gE, gF]
          refine tk 6 ?_
          try simp only [Act.put, gA, gB, gC, List.setIfInBounds_toArray, gE, gF]
          refine tk 7 ?_
          try simp only [Act.put, gA, gB, gC, List.setIfInBounds_toArray, gE, gF]
          refine tk 8 ?_
          try simp only [Act.put, gA, gB, gC, List.setIfInBounds_toArray, gE, gF]
          refine tk 9 ?_
          try simp only [Act.put, gA, gB, gC, List.setIfInBounds_toArray, gE, gF]
          refine tk 10 ?_
          try simp only [Act.put, gA, gB, gC, List.setIfInBounds_toArray, gE, gF]
          refine tk 11 ?_
          try simp only [Act.put, gA, gB, gC, List.setIfInBounds_toArray, gE, gF]
          refine tk 12 ?_
          try simp only [Act.put, gA, gB, gC, List.setIfInBounds_toArray, gE, gF]
          refine tk 13 ?_
          try simp only [Act.put, gA, gB, gC, List.setIfInBounds_toArray, gE, gF]
          refine tk 14 ?_
          try simp only [Act.put, gA, gB, gC, List.setIfInBounds_toArray, gE, gF]
          refine tk 15 ?_
          try simp only [Act.put, gA, gB, gC, List.setIfInBounds_toArray, gE, gF]
          refine wpAnyH_ready (rs := [16]) (by kernel_rfl) (by simp) ?_
          refine AllReadyH.cons rfl (fun K hK => ?_) ?_
          rotate_left
          · exact AllReadyH.nil
          go_simp
          refine hK.out _ _ ?_ (fun hHeld => ?_)
          · exact d0.goA _
          clear hK K
          try simp only [Act.put, gA, gB, gC, List.setIfInBounds_toArray, gE, gF]
          refine tk 17 ?_
          try simp only [Act.put, gA, gB, gC, List.setIfInBounds_toArray, gE, gF]
          refine wpAnyH_done (by kernel_rfl) ?_ _
          go_wp2_with fail
          go_meet
          refine ⟨⟨_, 1, 1, rfl, by rw [hv0'.out]; rfl, ⟨Nat.le_refl _, by unfold maxLen; omega⟩, ?_⟩, ?_⟩
          · rw [hv0'.out]
            have h1 := RdI.one w1 43 .u16 (bits .or .u16 (bits .and .u16 was y0) (bits .andNot .u16 y1 y0))
            rw [← show (w1.alloc (.cells #[.int .u16 (bits .or .u16 (bits .and .u16 was y0) (bits .andNot .u16 y1 y0))] 43)).heap.size = w1.heap.size + 1 by simp] at h1
            exact h1
          · exact d0.goA _
        · have e' : (fc == 22) = false := by simp [e]
          have hv0 : vs = xs := by have := hvals'.out; rwa [if_neg e] at this
          go_wp2_with fail
          go_meet
          exact ⟨⟨A, n, c, rfl, by rw [hv0, hl], hnc, by rw [hv0]; exact x1'.out⟩, Ext.refl _⟩
      case rest =>
        obtain ⟨⟨Av, nv, cv, rfl, hnv, ⟨gv, gv'⟩, rv⟩, hX⟩ := hcut
        have Ec := E1.go hX
        have bc' := Lib.hid (b1'.out.ext hX)
        have Qc' := Lib.hid ((hX.block _ (lt_of_block Q1'.out)).trans Q1'.out)
        have Pc' := Lib.hid ((hX.block _ (lt_of_block P1'.out)).trans P1'.out)
        have rv' := Lib.hid rv
        have hnv' := Lib.hid hnv
        have hrl : r < w.heap.size := by obtain ⟨Af, cf, h⟩ := hb; exact h.lt
        clear hnv rv q1 s1 rk' b1' x1' Q1' P1' hvals' hfrom' hb hr
        go_wp2_with fail
        go_loopw [10] (fun i wr => ∃ j : Nat, j ≤ nv ∧ i = .int .i64 j ∧ HasRf wr base r (upd L k (fillA (L k) f vs j)) ∧ Mod (fun b => b = r) wc wr) (fun i _ => nv - (intOf i).toNat)
        case atStart => exact ⟨0, by omega, rfl, by rw [hzero'.out, upd_self]; exact bc'.out, Mod.refl _ _⟩
        case round =>
          obtain ⟨j, hj, rfl, hB, hM⟩ := hrel
          have hB' := Lib.hid hB
          have hM' := Lib.hid hM
          clear hB hM
          by_cases hlt : j < nv
          · obtain ⟨bv, ov, hAv, hbv, hcv⟩ := (rv'.out.past_rf bc'.out hM'.out).at_ hlt
            have hvj := hvr'.out j
            rw [← List.getD_eq_getElem?_getD] at hvj
            have hst := hstep'.out j (by have := hnv'.out; omega)
            have hput := rfPut_any base r (upd L k (fillA (L k) f vs j)) wr k ((f + j : Nat) : Int) (vs.getD j 0) hB'.out hvj.1 hvj.2
            unfold RfPutPost at hput
            rw [hst.1, hst.2] at hput
            obtain ⟨m, hm⟩ : ∃ m : Nat, f + j = m := ⟨_, rfl⟩
            rw [hm] at hput
            have um : (f : Int) + (j : Int) = (m : Int) := by omega
            have hvl2 : nv ≤ 2000 := by have := hnv'.out; omega
            have hfl2 : f ≤ 256 := by omega
            generalize vs.getD j 0 = v at *
            have hput' := Lib.hid hput
            clear hst hput hm
            subst hAv
            go_wp2_with fail
            refine hput'.out.mono ?_
            rintro e w5 ⟨rfl, B5, M5⟩
            have B5' := Lib.hid B5
            have M5' := Lib.hid (hM'.out.trans M5)
            clear B5 M5 hcv um
            go_wp2_with fail
            go_roundw
            case rel => exact ⟨j + 1, by omega, by go_num, B5'.out, M5'.out⟩
            case measure => simp [intOf]; omega
          · obtain rfl : j = nv := by omega
            have hBf := hB'.out
            rw [hnv'.out, hall'.out] at hBf
            have hBf' := Lib.hid hBf
            have hrb : r ≠ w.heap.size := by omega
            have hrp : r ≠ w.heap.size + 1 := by omega
            have Qr' := Lib.hid ((hM'.out.block w.heap.size (lt_of_block Qc'.out) (fun e => hrb e.symm)).trans Qc'.out)
            have Pr' := Lib.hid ((hM'.out.block (w.heap.size + 1) (lt_of_block Pc'.out) (fun e => hrp e.symm)).trans Pc'.out)
            have qr := cellsAt Qr'.out
            have Mr : Mod (fun b => b = r) w wr := (Mod.ofBelow Ec).trans hM'.out
            have Mr' := Lib.hid Mr
            have hszr : w.heap.size + 2 ≤ wr.heap.size := by have := lt_of_block Pr'.out; omega
            obtain ⟨Ar, cr, sr, rr, cr1, cr2⟩ := hrow'.out wr _ hBf
            rw [upd_same, hspl'.out] at sr rr cr1
            have rr' := Lib.hid rr
            clear hBf Mr hM' hB' Qc' Pc' rv' bc' Ec hX hall' hzero' hstep' rr
            have hYr := hY'.out
            go_upto_region 18 with fail
            go_wp2_with fail
            refine (refReads_any fc wr).mono ?_
            rintro e w6 ⟨rfl, rfl⟩
            have p1 := cellsAt Pr'.out
            have f1 := frozen_block Pr'.out
            cases hrd : readsB fc
            · rw [hrd, if_neg (by decide)] at hYr
              subst hYr
              clear hY' hrd xr' qr sr
              go_wp2_with fail
              obtain ⟨z0, z1⟩ := two_reads Pr'.out (.int .i64 0) (.slice none 0 0)
              refine bodyPost_ret (v := .agg #[.int .i64 0, .slice none 0 0]) (by simp [results, Try.results67, go_sem, z0, z1]) rfl ?_
              exact ⟨none, 0, 0, rfl, Nat.le_refl _, by unfold maxLen; omega, RdI.nil _, fun b o e => (by cases e), hBf'.out.far Pr'.out (by decide) (by decide) (two_mod _ _ _ _), Mr'.out.step (two_mod _ _ _ _) (fun i e => .inr (by rw [e]; omega))⟩
            · rw [hrd, if_pos rfl] at hYr
              have hq1 := xr'.out hrd
              obtain ⟨a, rfl⟩ := Int.eq_ofNat_of_zero_le a0
              obtain ⟨q, rfl⟩ := Int.eq_ofNat_of_zero_le b0
              rw [Int.toNat_natCast, Int.toNat_natCast] at hYr
              have hYr' := Lib.hid hYr
              have hal : a + q ≤ len := by omega
              have ha1 : a < len := by omega
              have hq2 : 1 ≤ q := by omega
              have hca : ¬ cr = a := by omega
              obtain ⟨br, or_, hAr, hbr, -⟩ := rr'.out.at_ ha1
              subst hAr
              have hcut := Lib.hid ((rr'.out.drop (lo := a) (by omega)).cutTo (m := q) (by omega))
              have hrlt : r < wr.heap.size := by omega
              have hgq : ∀ w', Mod (fun i => i = w.heap.size + 1) wr w' → ∀ o, w'.cell? ⟨w.heap.size, o, none⟩ = _ := fun w' M => cellsAt ((M.block _ (lt_of_block Qr'.out) (by omega)).trans Qr'.out)
              have hgs : ∀ w', Mod (fun i => i = w.heap.size + 1) wr w' → w'.cell? ⟨r, k, none⟩ = some (.slice (some ⟨br, or_, none⟩) len cr) := fun w' M => (M.cell k hrlt (by omega)).trans sr
              have uq : (a : Int) + (q : Int) = ((a + q : Nat) : Int) := by omega
              clear hY' hrd hYr rr' qr sr p1 f1
              have hki : (k : Int) < 4 := by omega
              obtain ⟨e, he⟩ : ∃ e : Nat, a + q = e := ⟨_, rfl⟩
              rw [he] at uq
              have i1 : (a : Int) ≤ (e : Int) := by omega
              have i2 : (e : Int) ≤ (cr : Int) := by omega
              have i3 : a ≤ e := by omega
              have i4 : e ≤ cr := by omega
              have i5 : e - a = q := by omega
              have i6 : IntKind.i64.wrap (e : Int) = (e : Int) := by rw [IntKind.wrap_i64]; omega
              clear he
              go_upto_region 21 with fail
              have d0 : Mod (fun i => i = w.heap.size + 1) wr wr.drew := (Mod.refl _ _).drew
              have x0 : Ext wr wr.drew := (Ext.refl _).god
              refine wp_region_held_drew (S := fun w' => Mod (fun i => i = w.heap.size + 1) wr w') (by kernel_rfl) d0 (fun hHeld => ?_)
              refine tk 1 ?_
              try simp only [Act.put, gA, gB, gC, List.setIfInBounds_toArray, gE, gF]
              refine tk 2 ?_
              try simp only [Act.put, gA, gB, gC, List.setIfInBounds_toArray, gE, gF]
              refine tk 3 ?_
              try simp only [Act.put, gA, gB, gC, List.setIfInBounds_toArray, gE, gF]
              refine tk 4 ?_
              try simp only [Act.put, gA, gB, gC, List.setIfInBounds_toArray, gE, gF]
              refine tk 5 ?_
              try simp only [Act.put, gA, gB, gC, List.setIfInBounds_toArray, gE, gF]
              refine tk 6 ?_
              try simp only [Act.put, gA, gB, gC, List.setIfInBounds_toArray, gE, gF]
              refine tk 7 ?_
              try simp only [Act.put, gA, gB, gC, List.setIfInBounds_toArray, gE, gF]
              refine tk 8 ?_
              try simp only [Act.put, gA, gB, gC, List.setIfInBounds_toArray, gE, gF]
              refine tk 9 ?_
              try simp only [Act.put, gA, gB, gC, List.setIfInBounds_toArray, gE, gF]
              refine tk 10 ?_
              try simp only [Act.put, gA, gB, gC, List.setIfInBounds_toArray, gE, gF]
              refine tk 11 ?_
              try simp only [Act.put, gA, gB, gC, List.setIfInBounds_toArray, gE, gF]
              refine tk 12 ?_
              try simp only [Act.put, gA, gB, gC, List.setIfInBounds_toArray, gE, gF]
              refine tk 13 ?_
              try simp only [Act.put, gA, gB, gC, List.setIfInBounds_toArray, gE, gF]
              refine tk 14 ?_
              try simp only [Act.put, gA, gB, gC, List.setIfInBounds_toArray, gE, gF]
              refine wpAnyH_ready (rs := [0]) (by kernel_rfl) (by simp) ?_
              refine AllReadyH.cons rfl (fun K hK => ?_) ?_
              rotate_left
              · exact AllReadyH.nil
              go_simp
              refine hK.out _ _ ?_ (fun hHeld => ?_)
              · exact d0.alloc _
              clear hK K
              try simp only [Act.put, gA, gB, gC, List.setIfInBounds_toArray, gE, gF]
              refine wpAnyH_ready (rs := [15]) (by kernel_rfl) (by simp) ?_
              refine AllReadyH.cons rfl (fun K hK => ?_) ?_
              rotate_left
              · exact AllReadyH.nil
              refine step_appI rfl (.tmp 114) (.tmp 128) _ rfl Try.underlying28 info_u16 (own_empty (w := wr.drew) (base := wr.heap.size) 43 .u16 rfl (Nat.le_refl _)) rfl (hcut.out.ext (x0.goA (.cells #[] 43))) rfl (by omega) (by omega) (by simp) ?_
              intro v' w8 hown8 hg8 hat8
              have hown8 : w8.ownsRow wr.heap.size 43 1 v' q ((((splice (L k) f vs).drop a).take q).map (Value.int .u16)) := (by simpa using hown8)
              obtain ⟨A8, c8, rfl, hc8, r8⟩ := own_rd hown8
              have x8 : Ext wr w8 := (x0.goA (.cells #[] 43)).goG hg8 (fun i hi => by have hi' : some wr.heap.size = some i := hi; injection hi' with hi'; omega)
              have d8 : Mod (fun i => i = w.heap.size + 1) wr w8 := Mod.ofBelow x8
              have P8 := (x8.block _ (lt_of_block Pr'.out)).trans Pr'.out
              have p8 := cellsAt P8
              have f8 := frozen_block P8
              try dsimp only
              refine hK.out _ _ ?_ (fun hHeld => ?_)
              · first | assumption | (dsimp only; assumption)
              clear hK K
              try simp only [Act.put, gA, gB, gC, List.setIfInBounds_toArray, gE, gF]
              refine tk 16 ?_
              try simp only [Act.put, gA, gB, gC, List.setIfInBounds_toArray, gE, gF]
              refine wpAnyH_ready (rs := [17]) (by kernel_rfl) (by simp) ?_
              refine AllReadyH.cons rfl (fun K hK => ?_) ?_
              rotate_left
              · exact AllReadyH.nil
              go_simp
              refine hK.out _ _ ?_ (fun hHeld => ?_)
              · exact d8.trans (two_mod _ _ _ _)
              clear hK K
              try simp only [Act.put, gA, gB, gC, List.setIfInBounds_toArray, gE, gF]
              refine wpAnyH_done (by kernel_rfl) ?_ _
              go_wp2_with fail
              obtain ⟨z0, z1⟩ := two_reads P8 (.int .i64 0) (.slice A8 q c8)
              refine bodyPost_ret (v := .agg #[.int .i64 0, .slice A8 q c8]) (by simp [results, Try.results67, go_sem, z0, z1]) rfl ?_
              have hA8 : ∀ b o, A8 = some ⟨b, o, none⟩ → wr.heap.size ≤ b := fun b o e => by subst e; exact (hown8.lt b rfl).1
              refine ⟨A8, q, c8, rfl, hc8.1, hc8.2, ?_, fun b o e => by have := hA8 b o e; omega, (hBf'.out.ext x8).far P8 (by decide) (by decide) (two_mod _ _ _ _), (Mr'.out.trans (Mod.ofBelow x8)).step (two_mod _ _ _ _) (fun i e => .inr (by rw [e]; omega))⟩
              rw [← hYr'.out]
              exact two_rd r8 (Nat.le_refl _) _ (fun _ b o e => by have := hA8 b o e; omega) _ _
theorem rfDo_any (hb : HasRf w base r L) (hx : RdI w w.heap.size .u16 A n xs) (hr : ∀ j : Nat, 0 ≤ xs[j]?.getD 0 ∧ xs[j]?.getD 0 ≤ 65535) (hnc : n ≤ c ∧ c ≤ maxLen) :
    Calls Try.prog 67 #[.pointer (some ⟨r, 0, none⟩), .agg #[.int .i64 fc, .int .i64 ad, .int .i64 qt, .slice A n c, .int .i64 tw]] w (RfDoPost (doC L fc ad qt tw xs) (doY L fc ad qt tw xs) base r (doL L fc ad qt tw xs) w) := by
  cases hg : doGoes L fc ad qt tw xs
  · have h := rfDo_refused base r L fc ad qt tw A n c xs w hb hx (Nat.le_trans hnc.1 hnc.2) hg
    have e1 : doY L fc ad qt tw xs = [] := by unfold doY; rw [hg, if_neg (by decide)]
    have e2 : doL L fc ad qt tw xs = L := by unfold doL; rw [hg, if_neg (by decide)]
    rw [e1, e2]
    exact h
  · have h := rfDo_goes base r L fc ad qt tw A n c xs w hb hx hr hnc hg
    obtain ⟨hq, hf⟩ := doGoes_parts hg
    have e1 : doC L fc ad qt tw xs = 0 := by unfold doC; rw [if_pos hq, if_pos hf]
    rw [e1]
    exact h
end
end Go.Proofs.Ytgagpalffdgjnaa
