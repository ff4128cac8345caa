/- Layer 15, the walks: All, Lapse. · Layer 15, the walks: Lapse. · Layers 12, 13, 14, 17, plain: delays, votes, latches, and a core. -/
import Derived.Test.YtgajbgdkgelkgaaGreatG02
import Derived.Test.YtgajbgdkgelkgaaGreatG01
namespace Go.Proofs.YtgajbgdkgelkgaaGreat
open Go.RowKit Go.Maps

/-- What All has filled while those of 'left' are still to come. -/
def outL (E : List Int) (left : Lit → Bool) : List Int := (List.range E.length).map fun (j : Nat) => if left (.int .i64 (j : Int)) = true then 0 else E.getD j 0
theorem outL_length (E : List Int) (left : Lit → Bool) : (outL E left).length = E.length := by simp [outL]
theorem outL_get (E : List Int) (left : Lit → Bool) (j : Nat) (hj : j < E.length) : (outL E left)[j]? = some (if left (.int .i64 (j : Int)) = true then 0 else E.getD j 0) := by simp [outL, hj]
theorem outL_none {E : List Int} {left : Lit → Bool} (h : ∀ kl, left kl = false) : outL E left = E := by
  apply List.ext_getElem?
  intro j
  by_cases hj : j < E.length
  · rw [outL_get _ _ _ hj, h]; simp [List.getElem?_eq_getElem hj]
  · rw [List.getElem?_eq_none (by rw [outL_length]; omega), List.getElem?_eq_none (by omega)]
theorem outL_start {E : List Int} {D : DataW Unit} (h : Reads D (untilE E)) : outL E (has D) = zs E.length := by
  apply List.ext_getElem?
  intro j
  by_cases hj : j < E.length
  · rw [outL_get _ _ _ hj, (h j).1, untilE_of]
    unfold zs
    rw [List.getElem?_replicate, if_pos hj]
    split
    · rfl
    · rename_i h0
      have : E.getD j 0 = 0 := by simpa using h0
      rw [this]
  · rw [List.getElem?_eq_none (by rw [outL_length]; omega), List.getElem?_eq_none (by rw [zs_length]; omega)]
theorem key_ne {i j : Nat} (h : i ≠ j) : Lit.sameKey (.int .i64 (i : Int)) (.int .i64 (j : Int)) = false := sameKey_ne fun e => h (by injection e with _ e; omega)
theorem key_eq (i : Int) : Lit.sameKey (.int .i64 i) (.int .i64 i) = true := by simp [Lit.sameKey]
theorem outL_step (E : List Int) (left : Lit → Bool) (k : Nat) : (outL E left).set k (E.getD k 0) = outL E (fun z => left z && !z.sameKey (.int .i64 (k : Int))) := by
  apply List.ext_getElem?
  intro j
  by_cases hj : j < E.length
  · rw [outL_get _ _ _ hj]
    by_cases e : k = j
    · subst e
      rw [List.getElem?_set_self (by rw [outL_length]; exact hj), key_eq]
      simp
    · rw [List.getElem?_set_ne e, outL_get _ _ _ hj, key_ne (fun h => e h.symm)]
      simp
  · rw [List.getElem?_eq_none (by rw [List.length_set, outL_length]; omega), List.getElem?_eq_none (by rw [outL_length]; omega)]
/-- As RetI, and what is handed back lies in new memory. -/
def RetF (k : IntKind) (xs : List Int) (w : World) (e : Ending) (w' : World) : Prop :=
  ∃ A n c, e = .returned (.slice A n c) ∧ n ≤ c ∧ c ≤ maxLen ∧ RdI w' w'.heap.size k A n xs ∧ Ext w w' ∧ ∀ b o, A = some ⟨b, o, none⟩ → w.heap.size ≤ b
theorem until_in {E : List Int} {i : Int} (h : untilE E i ≠ 0) : ∃ k : Nat, i = k ∧ k < E.length := by
  unfold untilE at h
  split at h
  · rename_i h0
    obtain ⟨k, rfl⟩ := Int.eq_ofNat_of_zero_le h0
    refine ⟨k, rfl, ?_⟩
    rw [Int.toNat_natCast] at h
    exact Decidable.byContradiction fun hk => h (by rw [List.getElem?_eq_none (by omega)]; rfl)
  · exact absurd rfl h
set_option maxRecDepth 100000 in
set_option maxHeartbeats 3200000 in
theorem bypAll_any (g gl gm N : Nat) (lims E : List Int) (w : World) (hb : Tb w g gl gm N lims E) (hf : lims.length * 8 ≤ 140737488351232) :
    Calls Tryz.prog 33 #[.pointer (some ⟨g, 0, none⟩)] w (RetF .i64 E w) := by
  have hlen := hb.len
  obtain ⟨D, hown, hr⟩ := hb.map
  have hc := cellsAt hb.head
  have E1 := (Ext.refl w).goA (.cells (row .i64 (zs lims.length)) 2)
  have hmk := fun w => run_mkI Tryz.underlying48 info_i64 (lims.length : Int) lims.length rfl (by omega) (by omega) w
  have hc1 := cellsAt ((E1.block g (hb.old (.inl rfl))).trans hb.head)
  have hown1 := hown.alloc (.cells (row .i64 (zs lims.length)) 2)
  have hB := Blk.new w 2 .i64 (zs lims.length)
  have hgm := hb.old (.inr (.inr rfl))
  have hout := outL_start hr
  rw [hlen] at hout
  generalize hz : lims.length = z at *
  have hB' := Lib.hid hB
  have hr' := Lib.hid hr
  have hlen' := Lib.hid hlen
  have hout' := Lib.hid hout
  have hown1' := Lib.hid hown1
  have hz' := Lib.hid hz
  clear hB hr hlen hout hb hown hown1 hz
  go_enter Tryz.func33, Tryz.ntmps33
  go_wp2_with (first
    | (at_range; refine wpList_range_own _ rfl _ 125 rfl 3 2 keyI Tryz.underlying125 _ gm N _ rfl hown1'.out ?_; intro w0 hrg0 hg0 hs0)
    | go_in)
  go_frame
  have hsz : (w.alloc (.cells (row .i64 (zs z)) 2)).heap.size = w.heap.size + 1 := by simp
  generalize (w.alloc (.cells (row .i64 (zs z)) 2)).heap.size = r at *
  have M0 : Ext (w.alloc (.cells (row .i64 (zs z)) 2)) w0 := ⟨hg0.os, hg0.tape, hg0.output, hg0.size, fun k hk => hg0.block k hk (by simp)⟩
  have E0 := E1.go M0
  have B0 := hB'.out.below M0 hB'.out.lt
  rw [← hout'.out] at B0
  have hrg0' := Lib.hid hrg0
  have hsz' := Lib.hid hsz
  have B0' := Lib.hid B0
  clear hrg0 B0 hg0 hs0 hmk hc hc1 hsz
  go_loopw [4] (fun _ wr => ∃ (left : Lit → Bool) (cnt : Nat), wr.ranges Tryz.prog 3 (plainElem Tryz.prog 2) gm r N D left cnt ∧ Blk wr w.heap.size 2 .i64 (outL E left) ∧ Ext w wr)
    (fun _ wr => wr.rangeLeft gm r)
  case atStart => exact ⟨_, _, hrg0'.out, B0'.out, E0⟩
  case round =>
    obtain ⟨left, cnt, hrg, hB, hE⟩ := hrel
    have hrg' := Lib.hid hrg
    have hB' := Lib.hid hB
    clear hrg hB
    go_wp2_with (first
      | (at_next; refine wpList_next_ranges_ii _ rfl _ rfl 3 2 .i64 .i64 keyI Tryz.underlying3 Tryz.underlying2 gm _ N _ _ _ rfl hrg'.out ?_ ?_)
      | go_in)
    · intro _ hl0
      go_wp2_with fail
      go_ret
      have hB := hB'.out
      rw [outL_none hl0] at hB
      refine ⟨_, _, _, rfl, Nat.le_refl _, by unfold maxLen; omega, ?_, hE, fun b o e => by injection e with e; injection e with e; omega⟩
      have := hB.rd (B := wr.heap.size) hB.lt
      rwa [hlen'.out] at this
    · intro x c w1 cnt1 hwx hwc hlx hat hrg1 hlt hg1 hs1 hen
      have hfx : untilE E x = c := by
        have := (hr'.out x).2
        rw [hat] at this
        injection this with this
        injection this with _ this
        exact this.symm
      have hne : untilE E x ≠ 0 := by
        have := has_true_of_atKey hat
        rw [(hr'.out x).1] at this
        simpa using this
      obtain ⟨k, rfl, hk⟩ := until_in hne
      have hst := outL_step E left k
      rw [untilE_of] at hfx
      rw [hfx] at hst
      have hi1 := key_eq (k : Int)
      clear hi1 hne hat hfx hwx hwc hlx
      have M1 : Mod (fun i => i = r) wr w1 := Mod.ofGrown hg1
      have hB1 : Blk w1 w.heap.size 2 .i64 (outL E left) := (M1.block _ hB'.out.lt (by have := hsz'.out; omega)).trans hB'.out
      have hfr := hB1.frozen k
      have hcell := hB1.cell k (by rw [outL_length]; exact hk)
      have hB2 := hB1.set_ k c
      rw [hst] at hB2
      have hkz : k < z := by have := hlen'.out; omega
      have E1' : Ext w w1 := hE.goM M1 (fun i hi => by have := hsz'.out; omega)
      have E2' := E1'.goS (p := ⟨w.heap.size, k, none⟩) (Nat.le_refl _) (.int .i64 c)
      have hrg2 := hrg1.kept (w' := w1.setCell ⟨w.heap.size, k, none⟩ (.int .i64 c)) (row := some w.heap.size) ⟨rfl, rfl, rfl, by simp [World.setCell], fun i _ hi => Below.heap_setCell _ _ _ i (by intro h; exact hi (by rw [h]))⟩ (by simp; omega) (by have := hsz'.out; simp; omega)
      have hB2' := Lib.hid hB2
      have hrg2' := Lib.hid hrg2
      clear hB1 hB2 hrg1 hrg2 hst hs1 hg1
      go_wp2_with fail
      go_roundw
      case rel => exact ⟨_, cnt1, hrg2'.out, hB2'.out, E2'⟩
      case measure => rw [hrg2'.out.left_eq, hrg'.out.left_eq]; exact hlt
end Go.Proofs.YtgajbgdkgelkgaaGreat
namespace Go.Proofs.YtgajbgdkgelkgaaGreat
open Go.RowKit Go.Maps

/-- Those whose end is not above a time, rising; and the ends behind it. -/
def lapseL (E : List Int) (now : Int) : List Int := ((List.range E.length).filter fun k => decide (0 < E.getD k 0) && decide (E.getD k 0 ≤ now)).map fun (k : Nat) => (k : Int)
def lapseE (E : List Int) (now : Int) : List Int := E.map fun e => if 0 < e ∧ e ≤ now then 0 else e
theorem lapse_mem (E : List Int) (now i : Int) : i ∈ lapseL E now ↔ 0 < untilE E i ∧ untilE E i ≤ now := by
  unfold lapseL
  rw [List.mem_map]
  constructor
  · rintro ⟨k, hk, rfl⟩
    rw [untilE_of]
    have := (List.mem_filter.1 hk).2
    simpa using this
  · rintro ⟨h0, h1⟩
    obtain ⟨k, rfl, hk⟩ := until_in (show untilE E i ≠ 0 by omega)
    rw [untilE_of] at h0 h1
    exact ⟨k, List.mem_filter.2 ⟨List.mem_range.2 hk, by simp only [Bool.and_eq_true, decide_eq_true_eq]; exact ⟨h0, h1⟩⟩, rfl⟩
theorem lapse_rising (E : List Int) (now : Int) : (lapseL E now).Pairwise (fun a b => a < b) := by
  unfold lapseL
  rw [List.pairwise_map]
  refine List.Pairwise.imp ?_ ((List.pairwise_lt_range).filter _)
  intro a b h
  omega
theorem lapse_length (E : List Int) (now : Int) : (lapseL E now).length ≤ E.length := by
  unfold lapseL
  rw [List.length_map]
  exact Nat.le_trans (List.length_filter_le _ _) (by simp)
theorem lapse_sort {E : List Int} {now : Int} {xs : List Int} (hE : RngE E) (hn : xs.Nodup) (hm : ∀ i, i ∈ xs ↔ untilE E i ≠ 0 ∧ untilE E i ≤ now) : sortL xs = lapseL E now := by
  have hp : xs.Perm (lapseL E now) := (List.perm_ext_iff_of_nodup hn ((lapse_rising E now).imp fun h e => by omega)).2 fun i => by
    rw [hm, lapse_mem]
    have := hE.until i
    constructor
    · rintro ⟨h0, h1⟩; exact ⟨by omega, h1⟩
    · rintro ⟨h0, h1⟩; exact ⟨by omega, h1⟩
  have tr : ∀ a b c : Int, decide (a ≤ b) = true → decide (b ≤ c) = true → decide (a ≤ c) = true := fun a b c h1 h2 => by simp only [decide_eq_true_eq] at *; omega
  have to : ∀ a b : Int, (decide (a ≤ b) || decide (b ≤ a)) = true := fun a b => by simp only [Bool.or_eq_true, decide_eq_true_eq]; omega
  refine List.Perm.eq_of_pairwise (le := fun a b => a ≤ b) (fun a b _ _ h1 h2 => by omega) ((List.pairwise_mergeSort tr to xs).imp fun h => by simpa using h) ((lapse_rising E now).imp fun h => by omega) ((List.mergeSort_perm xs _).trans hp)
theorem lapse_until (E : List Int) (now i : Int) : (if i ∈ lapseL E now then 0 else untilE E i) = untilE (lapseE E now) i := by
  have hv : untilE (lapseE E now) i = if 0 < untilE E i ∧ untilE E i ≤ now then 0 else untilE E i := by
    unfold untilE lapseE
    split
    · rw [List.getElem?_map]
      cases E[i.toNat]? with
      | none => simp
      | some e => rfl
    · simp
  rw [hv]
  by_cases h : i ∈ lapseL E now
  · rw [if_pos h, if_pos ((lapse_mem E now i).1 h)]
  · rw [if_neg h, if_neg (fun h' => h ((lapse_mem E now i).2 h'))]
theorem lapseE_length (E : List Int) (now : Int) : (lapseE E now).length = E.length := by simp [lapseE]
theorem lapseE_rng {E : List Int} (h : RngE E) (now : Int) : RngE (lapseE E now) := fun j => by
  unfold lapseE
  rw [List.getElem?_map]
  have := h j
  cases he : E[j]? with
  | none => simp
  | some e =>
    rw [he] at this
    simp only [Option.map_some, Option.getD_some] at this ⊢
    split <;> omega
set_option maxRecDepth 100000 in
set_option maxHeartbeats 800000 in
theorem bypOver_any (x now : Int) (p : Nat) (w : World) (hc : w.cell? ⟨p, 0, none⟩ = some (.int .i64 now)) : Calls Tryz.prog 65 #[.int .i64 x, .pointer (some ⟨p, 0, none⟩)] w fun e w' => e = .returned (.bool (decide (x ≤ now))) ∧ w = w' := by
  go_enter Tryz.func65, Tryz.ntmps65
  go_wp2_with fail
  go_ret
  exact ⟨rfl, rfl⟩
def LapsePost (g gl gm N : Nat) (lims E : List Int) (now : Int) (w : World) (e : Ending) (w' : World) : Prop :=
  ∃ A n c, e = .returned (.slice A n c) ∧ n ≤ c ∧ c ≤ maxLen ∧ RdI w' w'.heap.size .i64 A n (lapseL E now) ∧ (∀ b o, A = some ⟨b, o, none⟩ → w.heap.size ≤ b) ∧ Tb w' g gl gm N lims (lapseE E now) ∧ Mod (fun i => i = gm) w w'
set_option maxRecDepth 100000 in
set_option maxHeartbeats 3200000 in
theorem bypLapse_any (g gl gm N : Nat) (lims E : List Int) (now : Int) (w : World) (hb : Tb w g gl gm N lims E) (hN : N ≤ 4611686018427) :
    Calls Tryz.prog 29 #[.pointer (some ⟨g, 0, none⟩), .int .i64 now] w (LapsePost g gl gm N lims E now w) := by
  obtain ⟨D, hown, hr⟩ := hb.map
  have E1 := (Ext.refl w).goA (.cells #[.int .i64 now] 2)
  have hc1 := cellsAt ((E1.block g (hb.old (.inl rfl))).trans hb.head)
  have hown1 := hown.alloc (.cells #[.int .i64 now] 2)
  have hp := heap_alloc_new w (.cells #[.int .i64 now] 2)
  have hgm := hb.old (.inr (.inr rfl))
  have hb' := Lib.hid hb
  have hr' := Lib.hid hr
  have hp' := Lib.hid hp
  have hown1' := Lib.hid hown1
  clear hb hr hown hown1 hp
  go_enter Tryz.func29, Tryz.ntmps29
  go_wp2_with (first
    | (at_range; refine wpList_range_own _ rfl _ 125 rfl 3 2 keyI Tryz.underlying125 _ gm N _ rfl hown1'.out ?_; intro w0 hrg0 hg0 hs0)
    | go_in)
  go_frame
  have hsz : (w.alloc (.cells #[.int .i64 now] 2)).heap.size = w.heap.size + 1 := by simp
  generalize (w.alloc (.cells #[.int .i64 now] 2)).heap.size = r at *
  have M0 : Ext (w.alloc (.cells #[.int .i64 now] 2)) w0 := ⟨hg0.os, hg0.tape, hg0.output, hg0.size, fun k hk => hg0.block k hk (by simp)⟩
  have E0 := E1.go M0
  have P0 := (M0.block _ (lt_of_block hp'.out)).trans hp'.out
  have hsd := hrg0.owns.size_le
  have hs0' : w.heap.size + 2 ≤ w0.heap.size := by omega
  have hrg0' := Lib.hid hrg0
  have hsz' := Lib.hid hsz
  have P0' := Lib.hid P0
  clear hrg0 hg0 hs0 hc1 hsz P0
  go_loopw [6] (fun u wr => ∃ (left : Lit → Bool) (cnt : Nat) (xs : List Int), wr.ranges Tryz.prog 3 (plainElem Tryz.prog 2) gm r N D left cnt ∧ wr.ownsRow (w.heap.size + 2) 3 1 u xs.length (xs.map (Value.int .i64)) ∧ xs.Nodup ∧ (∀ i, i ∈ xs ↔ untilE E i ≠ 0 ∧ left (.int .i64 i) = false ∧ untilE E i ≤ now) ∧ xs.length + cnt ≤ N
      ∧ Ext w wr ∧ w.heap.size + 2 ≤ wr.heap.size ∧ wr.heap[w.heap.size]? = some (.cells #[.int .i64 now] 2 (0, 0)))
    (fun _ wr => wr.rangeLeft gm r)
  case atStart => exact ⟨_, _, [], hrg0'.out, World.ownsRow_nil w0 (w.heap.size + 2) 3 1, List.nodup_nil, fun i => ⟨fun h => absurd h List.not_mem_nil, fun ⟨h0, h1, _⟩ => by rw [(hr'.out i).1] at h1; simp at h1; exact absurd h1 h0⟩, by simp; exact hsd, E0, hs0', P0'.out⟩
  case round =>
    obtain ⟨left, cnt, xs, hrg, hro, hnd, hmem, hcnt, hE, hS, hP⟩ := hrel
    have hrg' := Lib.hid hrg
    have hro' := Lib.hid hro
    have hmem' := Lib.hid hmem
    have hP' := Lib.hid hP
    have hS' := Lib.hid hS
    clear hrg hro hmem hP hS
    go_wp2_with (first
      | (at_next; refine wpList_next_ranges_ii _ rfl _ rfl 3 2 .i64 .i64 keyI Tryz.underlying3 Tryz.underlying2 gm _ N _ _ _ rfl hrg'.out ?_ ?_)
      | go_in)
    · intro _ hl0
      have hfin : ∀ i, i ∈ xs ↔ untilE E i ≠ 0 ∧ untilE E i ≤ now := fun i => by rw [hmem'.out i, hl0]; simp
      have hsort := lapse_sort hb'.out.rng hnd hfin
      have hsl : (sortL xs).length = xs.length := by simp [sortL]
      rw [hsort] at hsl
      have hsort' := Lib.hid hsort
      have hsl' := Lib.hid hsl
      clear hfin hsort hsl hl0
      go_wp2_with fail
      refine (sortOwn_any _ _ _ xs wr hro'.out (by omega)).mono ?_
      rintro e w2 ⟨rfl, ho2, hg2⟩
      rw [hsort'.out] at ho2
      obtain ⟨A, c, rfl, ⟨hc1, hc2⟩, hrd⟩ := own_rd hro'.out
      have hfr : ∀ b o, A = some ⟨b, o, none⟩ → w.heap.size + 2 ≤ b := fun b o e => by subst e; exact (hro'.out.lt b rfl).1
      obtain ⟨A2, c2, he2, -, hrd2⟩ := own_rd ho2
      injection he2 with e1 _ e3
      subst e1 e3
      have E2 : Ext w w2 := hE.goG hg2 (fun k hk => by have := (hro'.out.lt k hk).1; omega)
      have hmap2 : MapI w2 gm N (untilE E) := by
        have : MapI wr gm N (untilE E) := ⟨D, hrg'.out.owns, hr'.out⟩
        exact this.keep (hg2.block gm this.lt (fun e => by have := (hro'.out.lt gm e.symm).1; omega))
      have hmap2' := Lib.hid hmap2
      have hrd2' := Lib.hid hrd2
      have hsz2 : wr.heap.size ≤ w2.heap.size := hg2.size
      clear hmap2 hrd hrd2 ho2 hg2 hmem' hnd
      have hnn : xs.length ≤ 4611686018427 := by omega
      generalize hm : xs.length = m at *
      have hm' := Lib.hid hm
      clear hm
      go_wp2_with fail
      go_loopw [33] (fun i wr => ∃ k : Nat, k ≤ m ∧ i = .int .i64 k ∧ MapI wr gm N (fun i => if i ∈ (lapseL E now).take k then 0 else untilE E i) ∧ Mod (fun i => i = gm) w2 wr) (fun i _ => m - (intOf i).toNat)
      case atStart => exact ⟨0, by omega, rfl, hmap2'.out.congr (fun i => by simp), Mod.refl _ _⟩
      case round =>
        obtain ⟨k, hk, rfl, hmk, hM⟩ := hrel
        have hmk' := Lib.hid hmk
        clear hmk
        by_cases hlt : k < m
        · obtain ⟨b, o, rfl, hbl, hc0⟩ := hrd2'.out.at_ hlt
          have hbg := hfr b o rfl
          have hc1 := (hM.cell (o + k) hbl (by omega)).trans hc0
          have hhd := (hM.block g (by have := E2.size; have := hb'.out.old (.inl rfl); omega) hb'.out.n1).trans ((E2.block g (hb'.out.old (.inl rfl))).trans hb'.out.head)
          have hc2 := cellsAt hhd
          have hkl : k < (lapseL E now).length := by have := hsl'.out; omega
          have htk : (lapseL E now).take (k + 1) = (lapseL E now).take k ++ [(lapseL E now).getD k 0] := by
            rw [List.take_succ_eq_append_getElem hkl, List.getD_eq_getElem?_getD, List.getElem?_eq_getElem hkl]; rfl
          have hx := (lapse_mem E now _).1 (show (lapseL E now).getD k 0 ∈ lapseL E now by rw [List.getD_eq_getElem?_getD, List.getElem?_eq_getElem hkl]; exact List.getElem_mem hkl)
          obtain ⟨y, hy, hyl⟩ := until_in (show untilE E ((lapseL E now).getD k 0) ≠ 0 by omega)
          generalize (lapseL E now).getD k 0 = x at *
          subst hy
          have hyf := hb'.out.fit
          have hyn := hb'.out.len
          have wx := Lib.hid (WalkArith.wf_i64 (n := (y : Int)) ⟨by omega, by omega⟩)
          have htk' := Lib.hid htk
          clear htk hc0 hhd hx hyf hyn
          go_wp2_with ((with_reducible refine wpList_dropI rfl (.tmp 40) (.tmp 41) rfl rfl rfl hmk'.out wx.out ?_); intro w3 hm3 hM3)
          go_roundw
          case rel => exact ⟨k + 1, by omega, by go_num, hm3.congr (fun i => by
            rw [htk'.out]
            by_cases e : i = (y : Int)
            · subst e; rw [fupd_same, if_pos (by simp)]
            · rw [fupd_other _ _ e]; simp [e]), hM.trans hM3⟩
          case measure => simp [intOf]; omega
        · obtain rfl : k = m := by omega
          go_wp2_with fail
          go_ret
          have hmk := hmk'.out
          rw [List.take_of_length_le (by rw [hsl'.out]; exact Nat.le_refl _)] at hmk
          have M2 : Mod (fun i => i = gm) w wr := (Mod.ofBelow E2).trans hM
          exact ⟨_, _, _, rfl, hc1, hc2, hrd2'.out.turned hM (fun b o e => by have := hfr b o e; omega), fun b o e => by have := hfr b o e; omega,
            hb'.out.turn (hmk.congr (fun i => lapse_until E now i)) (lapseE_length E now) (lapseE_rng hb'.out.rng now) M2, M2⟩
    · intro x c w1 cnt1 hwx hwc hlx hat hrg1 hlt hg1 hs1 hen
      have hfx : untilE E x = c := by
        have := (hr'.out x).2
        rw [hat] at this
        injection this with this
        injection this with _ this
        exact this.symm
      have hne : c ≠ 0 := by
        have := has_true_of_atKey hat
        rw [(hr'.out x).1, hfx] at this
        simpa using this
      have M1 : Mod (fun i => i = r) wr w1 := Mod.ofGrown hg1
      have E1' : Ext w w1 := hE.goM M1 (fun i hi => by have := hsz'.out; omega)
      have hP1 := (M1.block _ (lt_of_block hP'.out) (by have := hsz'.out; omega)).trans hP'.out
      have hro1 := hro'.out.kept hg1 (.inr (fun h => by
        have := (hro'.out.lt r h).1
        have := hsz'.out
        omega))
      have hS1 : w.heap.size + 2 ≤ w1.heap.size := by have := M1.size; have := hS'.out; omega
      have hp1 := cellsAt hP1 0
      have hxs : x ∉ xs := fun h => by have := ((hmem'.out x).1 h).2.1; rw [hlx] at this; cases this
      have hstep : ∀ i, (left (.int .i64 i) && !(Lit.int IntKind.i64 i).sameKey (.int .i64 x)) = false ↔ (left (.int .i64 i) = false ∨ i = x) := fun i => by
        by_cases e : i = x
        · subst e; rw [key_eq]; simp
        · rw [sameKey_ne (fun h => e (by injection h))]; simp [e]
      have hro1' := Lib.hid hro1
      have hrg1' := Lib.hid hrg1
      have hP1' := Lib.hid hP1
      have hxs' := Lib.hid hxs
      have hstep' := Lib.hid hstep
      have hfx' := Lib.hid hfx
      have hlx' := Lib.hid hlx
      have hne' := Lib.hid hne
      have hlt' := Lib.hid hlt
      clear hro1 hrg1 hP1 hxs hstep hfx hne hat hg1 hs1 hlx hwx hwc hlt
      by_cases hov : c ≤ now
      · have t1 : decide (c ≤ now) = true := decide_eq_true hov
        go_wp2_with fail
        refine (bypOver_any c now w.heap.size w1 hp1).mono ?_
        rw [t1]
        rintro e w2 ⟨rfl, rfl⟩
        go_wp2_with (at_builtin; refine wpList_appI rfl (.tmp 25) (.tmp 27) _ rfl Tryz.underlying57 info_int (hro1'.out.alloc _) rfl (RdI.one _ _ _ _) rfl (by omega) (by omega) (by simp; omega) ?_; intro v' w3 hown3 hg3 hat3)
        go_roundw
        case rel => exact ⟨_, cnt1, xs ++ [x], (hrg1'.out.alloc _).kept hg3 (by
            intro h
            have := (hro1'.out.lt gm h.symm).1
            omega) (by
            intro h
            have := (hro1'.out.lt r h.symm).1
            have := hsz'.out
            omega), by rw [List.length_append]; exact hown3, List.nodup_append.2 ⟨hnd, by simp, fun a ha b hb => by rw [List.mem_singleton] at hb; subst hb; exact fun e => hxs'.out (e ▸ ha)⟩, fun i => by
            rw [List.mem_append, List.mem_singleton, hmem'.out i, hstep'.out i]
            constructor
            · rintro (⟨h0, h1, h2⟩ | rfl)
              · exact ⟨h0, .inl h1, h2⟩
              · exact ⟨by rw [hfx'.out]; exact hne'.out, .inr rfl, by rw [hfx'.out]; exact hov⟩
            · rintro ⟨h0, h1 | h1, h2⟩
              · exact .inl ⟨h0, h1, h2⟩
              · exact .inr h1, by rw [List.length_append]; have := hlt'.out; simp; omega,
            (E1'.goA _).goG hg3 (fun k hk => by have := (hro1'.out.lt k hk).1; omega), by have := hg3.size; simp at this; omega,
            (hg3.block _ (by simp; omega) (fun h => by have := (hro1'.out.lt _ h.symm).1; omega)).trans (((Ext.refl w1).goA _).block _ (lt_of_block hP1'.out) |>.trans hP1'.out)⟩
        case measure => rw [((hrg1'.out.alloc _).kept hg3 (by
            intro h
            have := (hro1'.out.lt gm h.symm).1
            omega) (by
            intro h
            have := (hro1'.out.lt r h.symm).1
            have := hsz'.out
            omega)).left_eq, hrg'.out.left_eq]; exact hlt'.out
      · have t1 : decide (c ≤ now) = false := decide_eq_false hov
        go_wp2_with fail
        refine (bypOver_any c now w.heap.size w1 hp1).mono ?_
        rw [t1]
        rintro e w2 ⟨rfl, rfl⟩
        go_wp2_with fail
        go_roundw
        case rel => exact ⟨_, cnt1, xs, hrg1'.out, hro1'.out, hnd, fun i => by
            rw [hmem'.out i, hstep'.out i]
            constructor
            · rintro ⟨h0, h1, h2⟩
              exact ⟨h0, .inl h1, h2⟩
            · rintro ⟨h0, h1 | rfl, h2⟩
              · exact ⟨h0, h1, h2⟩
              · rw [hfx'.out] at h2; omega, by have := hlt'.out; omega, E1', hS1, hP1'.out⟩
        case measure => rw [hrg1'.out.left_eq, hrg'.out.left_eq]; exact hlt'.out
end Go.Proofs.YtgajbgdkgelkgaaGreat
namespace Go.Proofs.YtgajbgdkgelkgaaGreat

/-- The first n steps, from a state on. -/
def foldN {β : Type} (f : β → Nat → β) (s : β) (n : Nat) : β := (List.range n).foldl f s
theorem foldN_zero {β : Type} (f : β → Nat → β) (s : β) : foldN f s 0 = s := rfl
theorem foldN_succ {β : Type} (f : β → Nat → β) (s : β) (n : Nat) : foldN f s (n + 1) = f (foldN f s n) n := by
  unfold foldN
  rw [List.range_succ, List.foldl_append]
  rfl
structure Dl where
  cnt : Bool
  tf : Int
  tt : Int
  oth : Bool
  since : Int
  last : Int
def clampI (v lo hi : Int) : Int := min (max v lo) hi
def newD (on_ off : Int) : Dl := ⟨false, clampI off 0 1099511627776, clampI on_ 0 1099511627776, false, 0, 0⟩
def seeD (d : Dl) (v : Bool) (now : Int) : Dl :=
  if v = d.cnt then { d with oth := false, since := 0, last := clampI now d.last 1099511627776 }
  else if (if v then d.tt else d.tf) ≤ clampI now d.last 1099511627776 - (if d.oth then d.since else clampI now d.last 1099511627776) then { d with cnt := v, oth := false, since := 0, last := clampI now d.last 1099511627776 }
  else { d with oth := true, since := (if d.oth then d.since else clampI now d.last 1099511627776), last := clampI now d.last 1099511627776 }
/-- A row of latches: their groups; whether each is set, and when; the first one of each group. -/
structure Lw where
  g : List Int
  s : List (Bool × Int)
  f : Int → Option Nat
def setOf (r : Lw) (i : Nat) : Bool := (r.s.getD i (false, 0)).1
def atOf (r : Lw) (i : Nat) : Int := (r.s.getD i (false, 0)).2
def gOf (r : Lw) (i : Nat) : Int := r.g.getD i 0
/-- How many of a group are set. -/
def cntG (g : List Int) (s : List (Bool × Int)) (x : Int) : Nat := (g.zip s).countP fun p => p.1 == x && p.2.1
def fup (f : Int → Option Nat) (x : Int) (v : Option Nat) : Int → Option Nat := fun y => if y = x then v else f y
def firstMoves (r : Lw) (i : Nat) (now : Int) : Bool := cntG r.g r.s (gOf r i) == 0 || (match r.f (gOf r i) with | some f => atOf r f == now && decide (i < f) | none => false)
def tripL (r : Lw) (i : Nat) (now : Int) : Lw := { r with s := r.s.set i (true, now), f := if gOf r i = 0 then r.f else if firstMoves r i now then fup r.f (gOf r i) (some i) else r.f }
def resetL (r : Lw) (i : Nat) : Lw := { r with s := r.s.set i (false, 0), f := if gOf r i = 0 then r.f else if r.f (gOf r i) = some i then fup r.f (gOf r i) none else r.f }
def latchAt (r : Lw) (i : Nat) : Bool × Int × Bool := if setOf r i then (true, atOf r i, r.f (gOf r i) == some i) else (false, 0, false)
def allL (r : Lw) : List (Bool × Int × Bool) := (List.range r.s.length).map (latchAt r)
def newL (g : List Int) : Lw := ⟨g, List.replicate g.length (false, 0), fun _ => none⟩
/-- Those that may be loaded, from place i on: the first one of each group. -/
def loadF (g : List Int) : List (Bool × Int × Bool) → Nat → (Int → Option Nat) → Option (Int → Option Nat)
  | [], _, f => some f
  | (st, at_, fi) :: l, i, f =>
    if st then
      if fi then
        if (f (g.getD i 0)).isSome || g.getD i 0 == 0 then none else loadF g l (i + 1) (fup f (g.getD i 0) (some i))
      else loadF g l (i + 1) f
    else if at_ == 0 && !fi then loadF g l (i + 1) f else none
def loadL (r : Lw) (l : List (Bool × Int × Bool)) : Option Lw :=
  if l.length = r.s.length then (loadF r.g l 0 (fun _ => none)).map fun f => { r with s := l.map fun x => (x.1, x.2.1), f := f } else none
/-- A vote: as many yes as are needed, of those that are not bypassed. (trip, bad, bypass) -/
def voteB (wanted : Int) (l : List (Bool × Bool × Bool)) : Bool :=
  decide (0 < l.countP fun x => !x.2.2) && decide (clampI wanted 1 (l.countP fun x => !x.2.2) ≤ (l.countP fun x => !x.2.2 && (x.1 || x.2.1)))
/-- A note: its kind, whose, when. -/
abbrev Nt := Int × Int × Int
structure Co where
  dl : List Dl
  kn : List Bool
  tr : List Bool
  ca : Lw
  ef : Lw
  en : List Int
def dl0 : Dl := ⟨false, 0, 0, false, 0, 0⟩
def caAt (m : Mx) (q : Nat) : Ca := m.cas.getD q ⟨ByteArray.empty, 0, 0, 0, none, 0, 0, []⟩
def efAt (m : Mx) (e : Nat) : Ef := m.efs.getD e ⟨ByteArray.empty, 0, 0, 0, none, 0, 0, []⟩
def groupOf (x : Ca) : Int := if 4 ≤ x.lp then x.lp else 0
def newC (m : Mx) : Co := ⟨m.pts.map fun p => newD p.on_ p.off, m.pts.map fun _ => false, m.cas.map fun _ => false, newL (m.cas.map groupOf), newL (m.efs.map fun _ => 0), m.cas.map fun _ => 0⟩
def insOf (c : Co) (x : Ca) : List (Bool × Bool × Bool) := x.ps.map fun p => ((c.dl.getD p.toNat dl0).cnt, !c.kn.getD p.toNat false, false)
def healthyC (c : Co) (q : Nat) (now : Int) : Bool := !c.tr.getD q false || isB c.en q now
def efStep (m : Mx) (q : Nat) (now : Int) (s : Co × List Nt) (e : Nat) : Co × List Nt :=
  if (efAt m e).ps.contains (q : Int) && !setOf s.1.ef e then ({ s.1 with ef := tripL s.1.ef e now }, s.2 ++ [(2, (e : Int), now)]) else s
def scanQ (m : Mx) (now : Int) (s : Co × List Nt) (q : Nat) : Co × List Nt :=
  let c := { s.1 with tr := s.1.tr.set q (voteB (caAt m q).vt (insOf s.1 (caAt m q))) }
  if healthyC c q now then (c, s.2)
  else foldN (efStep m q now) (if setOf c.ca q then (c, s.2) else ({ c with ca := tripL c.ca q now }, s.2 ++ [(1, (q : Int), now)])) m.efs.length
def seeQ (m : Mx) (l : List (Bool × Int)) (now : Int) (c : Co) (i : Nat) : Co :=
  { c with
    kn := c.kn.set i (l.getD i (false, 0)).1
    dl := if (l.getD i (false, 0)).1 then c.dl.set i (seeD (c.dl.getD i dl0) ((l.getD i (false, 0)).2 == (m.pts.getD i ⟨ByteArray.empty, 0, 0, 0, 0, 0⟩).tr) now) else c.dl }
def scanC (m : Mx) (l : List (Bool × Int)) (now : Int) (c : Co) : Co × List Nt :=
  if now < 0 ∨ 1099511627776 < now ∨ l.length ≠ c.dl.length then (c, [])
  else foldN (scanQ m now) (foldN (seeQ m l now) { c with en := lapseE c.en now } l.length, (lapseL c.en now).map fun i => (5, i, now)) m.cas.length
def bypassC (m : Mx) (q ticks now : Int) (c : Co) : Co × List Nt × Int :=
  if putC (m.cas.map Ca.lm) c.en q ticks now = 0 then ({ c with en := putE (m.cas.map Ca.lm) c.en q ticks now }, [(3, q, now)], 0) else (c, [], putC (m.cas.map Ca.lm) c.en q ticks now)
def dropC (q now : Int) (c : Co) : Co × List Nt × Int :=
  if untilE c.en q = 0 then (c, [], 3) else ({ c with en := setE c.en q 0 }, [(4, q, now)], 0)
def freeStep (m : Mx) (now : Int) (s : Co × List Nt) (e : Nat) : Co × List Nt :=
  if (efAt m e).ps.all (fun q => healthyC s.1 q.toNat now) && setOf s.1.ef e then ({ s.1 with ef := resetL s.1.ef e }, s.2 ++ [(7, (e : Int), now)]) else s
def clearStep (now : Int) (s : Co × List Nt) (q : Nat) : Co × List Nt :=
  if healthyC s.1 q now && setOf s.1.ca q then ({ s.1 with ca := resetL s.1.ca q }, s.2 ++ [(6, (q : Int), now)]) else s
def resetC (m : Mx) (keyed : Bool) (now : Int) (c : Co) : Co × List Nt × Int :=
  if keyed then
    let s := foldN (clearStep now) (foldN (freeStep m now) (c, []) m.efs.length) m.cas.length
    (s.1, s.2, 0)
  else (c, [], 161)
/-- What stands. -/
abbrev St := List (Bool × Int × Bool) × List (Bool × Int × Bool) × List Int
def stateC (c : Co) : St := (allL c.ca, allL c.ef, c.en)
def endOk (e : Int) : Bool := decide (0 ≤ e) && decide (e ≤ 2199023255552)
def loadC (m : Mx) (s : St) (c : Co) : Option Co :=
  match loadL (newL (m.cas.map groupOf)) s.1, loadL (newL (m.efs.map fun _ => 0)) s.2.1 with
  | some a, some b => if s.2.2.length = m.cas.length ∧ s.2.2.all endOk then some { c with ca := a, ef := b, en := s.2.2 } else none
  | _, _ => none
def tripsC (c : Co) (q : Int) : Bool := decide (0 ≤ q) && c.tr.getD q.toNat false
end Go.Proofs.YtgajbgdkgelkgaaGreat
