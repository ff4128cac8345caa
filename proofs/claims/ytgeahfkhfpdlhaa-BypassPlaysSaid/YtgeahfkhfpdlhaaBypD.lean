/- Layer 15, the walks: All, Lapse. -/
import Derived.Test.YtgeahfkhfpdlhaaBypC
import Derived.Test.YtgeahfkhfpdlhaaSortB
namespace Go.Proofs.Ytgeahfkhfpdlhaa
open Go.RowKit Go.Maps

/-- What All has filled while those of 'left' are still to come. -/
def outL (E : List Int) (left : Lit → Bool) : List Int := (List.range E.length).map fun (j : Nat) => if left (.int .i64 (j : Int)) = true then 0 else E.getD j 0
theorem outL_length (E : List Int) (left : Lit → Bool) : (outL E left).length = E.length := by simp [outL]
theorem outL_get (E : List Int) (left : Lit → Bool) (j : Nat) (hj : j < E.length) : (outL E left)[j]? = some (if left (.int .i64 (j : Int)) = true then 0 else E.getD j 0) := by simp [outL, hj]
theorem outL_none {E : List Int} {left : Lit → Bool} (h : ∀ kl, left kl = false) : outL E left = E := by
  apply List.ext_getElem?
  intro j
  by_cases hj : j < E.length
  · rw [outL_get _ _ _ hj, h]; simp [List.getElem?_eq_getElem hj]
  · rw [List.getElem?_eq_none (by rw [outL_length]; omega), List.getElem?_eq_none (by omega)]
theorem outL_start {E : List Int} {D : DataW Unit} (h : Reads D (untilE E)) : outL E (has D) = zs E.length := by
  apply List.ext_getElem?
  intro j
  by_cases hj : j < E.length
  · rw [outL_get _ _ _ hj, (h j).1, untilE_of]
    unfold zs
    rw [List.getElem?_replicate, if_pos hj]
    split
    · rfl
    · rename_i h0
      have : E.getD j 0 = 0 := by simpa using h0
      rw [this]
  · rw [List.getElem?_eq_none (by rw [outL_length]; omega), List.getElem?_eq_none (by rw [zs_length]; omega)]
theorem key_ne {i j : Nat} (h : i ≠ j) : Lit.sameKey (.int .i64 (i : Int)) (.int .i64 (j : Int)) = false := sameKey_ne fun e => h (by injection e with _ e; omega)
theorem key_eq (i : Int) : Lit.sameKey (.int .i64 i) (.int .i64 i) = true := by simp [Lit.sameKey]
theorem outL_step (E : List Int) (left : Lit → Bool) (k : Nat) : (outL E left).set k (E.getD k 0) = outL E (fun z => left z && !z.sameKey (.int .i64 (k : Int))) := by
  apply List.ext_getElem?
  intro j
  by_cases hj : j < E.length
  · rw [outL_get _ _ _ hj]
    by_cases e : k = j
    · subst e
      rw [List.getElem?_set_self (by rw [outL_length]; exact hj), key_eq]
      simp
    · rw [List.getElem?_set_ne e, outL_get _ _ _ hj, key_ne (fun h => e h.symm)]
      simp
  · rw [List.getElem?_eq_none (by rw [List.length_set, outL_length]; omega), List.getElem?_eq_none (by rw [outL_length]; omega)]
/-- As RetI, and what is handed back lies in new memory. -/
def RetF (k : IntKind) (xs : List Int) (w : World) (e : Ending) (w' : World) : Prop :=
  ∃ A n c, e = .returned (.slice A n c) ∧ n ≤ c ∧ c ≤ maxLen ∧ RdI w' w'.heap.size k A n xs ∧ Ext w w' ∧ ∀ b o, A = some ⟨b, o, none⟩ → w.heap.size ≤ b
theorem until_in {E : List Int} {i : Int} (h : untilE E i ≠ 0) : ∃ k : Nat, i = k ∧ k < E.length := by
  unfold untilE at h
  split at h
  · rename_i h0
    obtain ⟨k, rfl⟩ := Int.eq_ofNat_of_zero_le h0
    refine ⟨k, rfl, ?_⟩
    rw [Int.toNat_natCast] at h
    exact Decidable.byContradiction fun hk => h (by rw [List.getElem?_eq_none (by omega)]; rfl)
  · exact absurd rfl h
set_option maxRecDepth 100000 in
set_option maxHeartbeats 3200000 in
theorem bypAll_any (g gl gm N : Nat) (lims E : List Int) (w : World) (hb : Tb w g gl gm N lims E) (hf : lims.length * 8 ≤ 140737488351232) :
    Calls Try.prog 52 #[.pointer (some ⟨g, 0, none⟩)] w (RetF .i64 E w) := by
  have hlen := hb.len
  obtain ⟨D, hown, hr⟩ := hb.map
  have hc := cellsAt hb.head
  have E1 := (Ext.refl w).goA (.cells (row .i64 (zs lims.length)) 2)
  have hmk := fun w => run_mkI Try.underlying61 info_i64 (lims.length : Int) lims.length rfl (by omega) (by omega) w
  have hc1 := cellsAt ((E1.block g (hb.old (.inl rfl))).trans hb.head)
  have hown1 := hown.alloc (.cells (row .i64 (zs lims.length)) 2)
  have hB := Blk.new w 2 .i64 (zs lims.length)
  have hgm := hb.old (.inr (.inr rfl))
  have hout := outL_start hr
  rw [hlen] at hout
  generalize hz : lims.length = z at *
  have hB' := Lib.hid hB
  have hr' := Lib.hid hr
  have hlen' := Lib.hid hlen
  have hout' := Lib.hid hout
  have hown1' := Lib.hid hown1
  have hz' := Lib.hid hz
  clear hB hr hlen hout hb hown hown1 hz
  go_enter Try.func52, Try.ntmps52
  go_wp2_with (first
    | (at_range; refine wpList_range_own _ rfl _ 121 rfl 3 2 keyI Try.underlying121 _ gm N _ rfl hown1'.out ?_; intro w0 hrg0 hg0 hs0)
    | go_in)
  go_frame
  have hsz : (w.alloc (.cells (row .i64 (zs z)) 2)).heap.size = w.heap.size + 1 := by simp
  generalize (w.alloc (.cells (row .i64 (zs z)) 2)).heap.size = r at *
  have M0 : Ext (w.alloc (.cells (row .i64 (zs z)) 2)) w0 := ⟨hg0.os, hg0.tape, hg0.output, hg0.size, fun k hk => hg0.block k hk (by simp)⟩
  have E0 := E1.go M0
  have B0 := hB'.out.below M0 hB'.out.lt
  rw [← hout'.out] at B0
  have hrg0' := Lib.hid hrg0
  have hsz' := Lib.hid hsz
  have B0' := Lib.hid B0
  clear hrg0 B0 hg0 hs0 hmk hc hc1 hsz
  go_loopw [4] (fun _ wr => ∃ (left : Lit → Bool) (cnt : Nat), wr.ranges Try.prog 3 (plainElem Try.prog 2) gm r N D left cnt ∧ Blk wr w.heap.size 2 .i64 (outL E left) ∧ Ext w wr)
    (fun _ wr => wr.rangeLeft gm r)
  case atStart => exact ⟨_, _, hrg0'.out, B0'.out, E0⟩
  case round =>
    obtain ⟨left, cnt, hrg, hB, hE⟩ := hrel
    have hrg' := Lib.hid hrg
    have hB' := Lib.hid hB
    clear hrg hB
    go_wp2_with (first
      | (at_next; refine wpList_next_ranges_ii _ rfl _ rfl 3 2 .i64 .i64 keyI Try.underlying3 Try.underlying2 gm _ N _ _ _ rfl hrg'.out ?_ ?_)
      | go_in)
    · intro _ hl0
      go_wp2_with fail
      go_ret
      have hB := hB'.out
      rw [outL_none hl0] at hB
      refine ⟨_, _, _, rfl, Nat.le_refl _, by unfold maxLen; omega, ?_, hE, fun b o e => by injection e with e; injection e with e; omega⟩
      have := hB.rd (B := wr.heap.size) hB.lt
      rwa [hlen'.out] at this
    · intro x c w1 cnt1 hwx hwc hlx hat hrg1 hlt hg1 hs1 hen
      have hfx : untilE E x = c := by
        have := (hr'.out x).2
        rw [hat] at this
        injection this with this
        injection this with _ this
        exact this.symm
      have hne : untilE E x ≠ 0 := by
        have := has_true_of_atKey hat
        rw [(hr'.out x).1] at this
        simpa using this
      obtain ⟨k, rfl, hk⟩ := until_in hne
      have hst := outL_step E left k
      rw [untilE_of] at hfx
      rw [hfx] at hst
      have hi1 := key_eq (k : Int)
      clear hi1 hne hat hfx hwx hwc hlx
      have M1 : Mod (fun i => i = r) wr w1 := Mod.ofGrown hg1
      have hB1 : Blk w1 w.heap.size 2 .i64 (outL E left) := (M1.block _ hB'.out.lt (by have := hsz'.out; omega)).trans hB'.out
      have hfr := hB1.frozen k
      have hcell := hB1.cell k (by rw [outL_length]; exact hk)
      have hB2 := hB1.set_ k c
      rw [hst] at hB2
      have hkz : k < z := by have := hlen'.out; omega
      have E1' : Ext w w1 := hE.goM M1 (fun i hi => by have := hsz'.out; omega)
      have E2' := E1'.goS (p := ⟨w.heap.size, k, none⟩) (Nat.le_refl _) (.int .i64 c)
      have hrg2 := hrg1.kept (w' := w1.setCell ⟨w.heap.size, k, none⟩ (.int .i64 c)) (row := some w.heap.size) ⟨rfl, rfl, rfl, by simp [World.setCell], fun i _ hi => Below.heap_setCell _ _ _ i (by intro h; exact hi (by rw [h]))⟩ (by simp; omega) (by have := hsz'.out; simp; omega)
      have hB2' := Lib.hid hB2
      have hrg2' := Lib.hid hrg2
      clear hB1 hB2 hrg1 hrg2 hst hs1 hg1
      go_wp2_with fail
      go_roundw
      case rel => exact ⟨_, cnt1, hrg2'.out, hB2'.out, E2'⟩
      case measure => rw [hrg2'.out.left_eq, hrg'.out.left_eq]; exact hlt
end Go.Proofs.Ytgeahfkhfpdlhaa
