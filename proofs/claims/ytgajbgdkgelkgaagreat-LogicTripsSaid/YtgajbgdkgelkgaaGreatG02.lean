/- Layer 15, the walks: New, Until, Is, Drop, Put. · Layer 15, the walks: New, Load. · Layer 15, the walks: Load. · The library's sort at []int: its contract at this program (the table: laid by the kit's lay-shelf and lay-plain, its numbers by name), and said of a slice that the call owns. -/
import Derived.Test.YtgajbgdkgelkgaaGreatG01
import Derived.Deep.RegionHeld
import Derived.Shelf.Sort.Plain
import Derived.Shelf.Slices.In.SortNone
import Derived.Sort.OwnSortedInts
namespace Go.Proofs.YtgajbgdkgelkgaaGreat
open Go.RowKit

section
variable (g gl gm N : Nat) (lims E : List Int) (i ticks now : Int) (w : World)
set_option maxRecDepth 100000 in
set_option maxHeartbeats 800000 in
theorem bypIs_any (hb : Tb w g gl gm N lims E) (hi : (Lit.int .i64 i).wf = true) :
    Calls Tryz.prog 75 #[.pointer (some ⟨g, 0, none⟩), .int .i64 i, .int .i64 now] w fun e w' => e = .returned (.bool (isB E i now)) ∧ w = w' := by
  have hl := hb.map.look_ok hi
  have hc := cellsAt hb.head
  have hv : isB E i now = ((untilE E i != 0) && decide (now < untilE E i)) := rfl
  rw [hv]
  generalize untilE E i = u at *
  clear hi hb hv
  cases h : (u != 0)
  · rw [h] at hl
    rw [Bool.false_and]
    clear h
    go_enter Tryz.func75, Tryz.ntmps75
    go_wp2_with fail
    go_ret
    exact ⟨rfl, rfl⟩
  · rw [h] at hl
    rw [Bool.true_and]
    clear h
    go_enter Tryz.func75, Tryz.ntmps75
    go_wp2_with fail
    go_ret
    exact ⟨rfl, rfl⟩
def TurnPost (v : Value) (g gl gm N : Nat) (lims E : List Int) (w : World) (e : Ending) (w' : World) : Prop := e = .returned v ∧ Tb w' g gl gm N lims E ∧ Mod (fun i => i = gm) w w'
set_option maxRecDepth 100000 in
set_option maxHeartbeats 800000 in
theorem bypDrop_any (hb : Tb w g gl gm N lims E) (hi : (Lit.int .i64 i).wf = true) :
    Calls Tryz.prog 72 #[.pointer (some ⟨g, 0, none⟩), .int .i64 i] w (TurnPost (.bool (untilE E i != 0)) g gl gm N lims (setE E i 0) w) := by
  have hl := hb.map.look_ok hi
  have hc := cellsAt hb.head
  have hm := hb.map
  have hb' := Lib.hid hb
  have hi' := Lib.hid hi
  have hm' := Lib.hid hm
  clear hb hi hm
  go_enter Tryz.func72, Tryz.ntmps72
  go_wp2_with ((with_reducible refine wpList_dropI rfl (.tmp 19) (.tmp 20) rfl rfl rfl hm'.out hi'.out ?_); intro w1 hm1 hM1)
  go_ret
  exact ⟨rfl, hb'.out.turn (hm1.congr fun j => fupd_untilE (.inr rfl) j) (setE_length _ _ _) (hb'.out.rng.set i (by omega) (by omega)) hM1, hM1⟩
set_option maxRecDepth 100000 in
set_option maxHeartbeats 3200000 in
theorem bypPut_any (hb : Tb w g gl gm N lims E) (hi : (Lit.int .i64 i).wf = true) (hN : N < maxLen) :
    Calls Tryz.prog 49 #[.pointer (some ⟨g, 0, none⟩), .int .i64 i, .int .i64 ticks, .int .i64 now] w (TurnPost (.int .i64 (putC lims E i ticks now)) g gl gm (N + 1) lims (putE lims E i ticks now) w) := by
  have hc := cellsAt hb.head
  have hfit := hb.fit
  have hv : putE lims E i ticks now = if putC lims E i ticks now = 0 then setE E i (now + ticks) else E := rfl
  have hpc : putC lims E i ticks now = if i < 0 ∨ (lims.length : Int) ≤ i then 3 else if ticks < 1 ∨ lims.getD i.toNat 0 < ticks ∨ 1099511627776 < ticks ∨ now < 0 ∨ 1099511627776 < now then 1 else if isB E i now = true then 4 else 0 := rfl
  rw [hv]
  clear hv
  generalize putC lims E i ticks now = pc at *
  have hb' := Lib.hid hb
  have hi' := Lib.hid hi
  clear hb hi
  by_cases i0 : i < 0
  · rw [if_pos (.inl i0)] at hpc
    subst hpc
    rw [if_neg (by decide)]
    have f1 : decide (i < 0) = true := by simp; omega
    go_enter Tryz.func49, Tryz.ntmps49
    go_wp2_with fail
    go_ret
    exact ⟨rfl, hb'.out.mono (by omega), Mod.refl _ _⟩
  by_cases i1 : (lims.length : Int) ≤ i
  · rw [if_pos (.inr i1)] at hpc
    subst hpc
    rw [if_neg (by decide)]
    have f1 : decide (i < 0) = false := by simp; omega
    have f2 : decide ((lims.length : Int) ≤ i) = true := by simp; omega
    go_enter Tryz.func49, Tryz.ntmps49
    go_wp2_with fail
    go_ret
    exact ⟨rfl, hb'.out.mono (by omega), Mod.refl _ _⟩
  obtain ⟨k, rfl⟩ := Int.eq_ofNat_of_zero_le (show 0 ≤ i by omega)
  rw [if_neg (by omega), Int.toNat_natCast] at hpc
  have hlim := hb'.out.row.cell k (by omega)
  have hlen := Lib.hid hb'.out.len
  have his := fun w' (h : Tb w' g gl gm N lims E) => bypIs_any g gl gm N lims E (k : Int) now w' h hi'.out
  generalize lims.getD k 0 = lim at *
  generalize isB E (k : Int) now = bb at *
  have his' := Lib.hid his
  have hpc' := Lib.hid hpc
  clear his hpc
  generalize hL : lims.length = n at *
  clear hL
  have g1 : decide ((k : Int) < 0) = false := by simp
  have g2 : decide ((n : Int) ≤ (k : Int)) = false := by simp; omega
  have g3 : decide (n ≤ k) = false := by simp; omega
  by_cases hbad : ticks < 1 ∨ lim < ticks ∨ 1099511627776 < ticks ∨ now < 0 ∨ 1099511627776 < now
  · have hpc := hpc'.out
    rw [if_pos hbad] at hpc
    subst hpc
    rw [if_neg (by decide)]
    rcases (show ticks < 1 ∨ (1 ≤ ticks ∧ lim < ticks) ∨ (1 ≤ ticks ∧ ticks ≤ lim ∧ 1099511627776 < ticks) ∨ (1 ≤ ticks ∧ ticks ≤ lim ∧ ticks ≤ 1099511627776 ∧ now < 0) ∨ (1 ≤ ticks ∧ ticks ≤ lim ∧ ticks ≤ 1099511627776 ∧ 0 ≤ now ∧ 1099511627776 < now) by omega) with h | h | h | h | h
    · have c0 : decide (ticks < 1) = true := by simp; omega
      clear hbad h
      go_enter Tryz.func49, Tryz.ntmps49
      go_wp2_with fail
      go_ret
      exact ⟨rfl, hb'.out.mono (by omega), Mod.refl _ _⟩
    · have c0 : decide (ticks < 1) = false := by simp; omega
      have c1 : decide (lim < ticks) = true := by simp; omega
      clear hbad h
      go_enter Tryz.func49, Tryz.ntmps49
      go_wp2_with fail
      go_ret
      exact ⟨rfl, hb'.out.mono (by omega), Mod.refl _ _⟩
    · have c0 : decide (ticks < 1) = false := by simp; omega
      have c1 : decide (lim < ticks) = false := by simp; omega
      have c2 : decide (1099511627776 < ticks) = true := by simp; omega
      clear hbad h
      go_enter Tryz.func49, Tryz.ntmps49
      go_wp2_with fail
      go_ret
      exact ⟨rfl, hb'.out.mono (by omega), Mod.refl _ _⟩
    · have c0 : decide (ticks < 1) = false := by simp; omega
      have c1 : decide (lim < ticks) = false := by simp; omega
      have c2 : decide (1099511627776 < ticks) = false := by simp; omega
      have c3 : decide (now < 0) = true := by simp; omega
      clear hbad h
      go_enter Tryz.func49, Tryz.ntmps49
      go_wp2_with fail
      go_ret
      exact ⟨rfl, hb'.out.mono (by omega), Mod.refl _ _⟩
    · have c0 : decide (ticks < 1) = false := by simp; omega
      have c1 : decide (lim < ticks) = false := by simp; omega
      have c2 : decide (1099511627776 < ticks) = false := by simp; omega
      have c3 : decide (now < 0) = false := by simp; omega
      have c4 : decide (1099511627776 < now) = true := by simp; omega
      clear hbad h
      go_enter Tryz.func49, Tryz.ntmps49
      go_wp2_with fail
      go_ret
      exact ⟨rfl, hb'.out.mono (by omega), Mod.refl _ _⟩
  have hgood : 1 ≤ ticks ∧ ticks ≤ lim ∧ ticks ≤ 1099511627776 ∧ 0 ≤ now ∧ now ≤ 1099511627776 := by omega
  have c0 : decide (ticks < 1) = false := by simp; omega
  have c1 : decide (lim < ticks) = false := by simp; omega
  have c2 : decide (1099511627776 < ticks) = false := by simp; omega
  have c3 : decide (now < 0) = false := by simp; omega
  have c4 : decide (1099511627776 < now) = false := by simp; omega
  cases bb
  · have hpc := hpc'.out
    rw [if_neg hbad, if_neg (by decide)] at hpc
    subst hpc
    rw [if_pos rfl]
    have u1 : IntKind.i64.wrap (now + ticks) = now + ticks := by rw [IntKind.wrap_i64]; omega
    have wc : (Lit.int .i64 (now + ticks)).wf = true := WalkArith.wf_i64 ⟨by omega, by omega⟩
    have hm' := Lib.hid hb'.out.map
    have wc' := Lib.hid wc
    have hg' := Lib.hid hgood
    have hkn : (k : Int) < n := by omega
    have hkn' := Lib.hid hkn
    clear hbad hgood wc hkn
    go_enter Tryz.func49, Tryz.ntmps49
    go_wp2_with fail
    refine (his'.out _ hb'.out).mono ?_
    rintro e w1 ⟨rfl, rfl⟩
    go_wp2_with ((with_reducible refine wpList_storeI rfl (.tmp 55) (.tmp 56) (.tmp 59) rfl rfl rfl rfl hm'.out hN hi'.out wc'.out (by have := hg'.out; omega) ?_); intro w1 hm1 hM1)
    go_ret
    exact ⟨rfl, hb'.out.turn (hm1.congr fun j => fupd_untilE (.inl ⟨by omega, by have := hlen.out; have := hkn'.out; omega⟩) j) (setE_length _ _ _) (hb'.out.rng.set _ (by have := hg'.out; omega) (by have := hg'.out; omega)) hM1, hM1⟩
  · have hpc := hpc'.out
    rw [if_neg hbad, if_pos rfl] at hpc
    subst hpc
    rw [if_neg (by decide)]
    clear hbad hgood
    go_enter Tryz.func49, Tryz.ntmps49
    go_wp2_with fail
    refine (his'.out _ hb'.out).mono ?_
    rintro e w1 ⟨rfl, rfl⟩
    go_wp2_with fail
    go_ret
    exact ⟨rfl, hb'.out.mono (by omega), Mod.refl _ _⟩
end
end Go.Proofs.YtgajbgdkgelkgaaGreat
namespace Go.Proofs.YtgajbgdkgelkgaaGreat
open Go.RowKit

theorem splice_whole {l ys : List Int} (h : ys.length = l.length) : splice l 0 ys = ys := by simp [splice, h]
theorem sz_i64 : (Tryz.prog.info? 2).map (·.size) = some 1 := by kernel_rfl
theorem makeI (w : World) : (Instr.makeMap 125 none).run Tryz.prog w = .ok (.map (some w.heap.size)) (w.alloc (.map #[] 0)) := rfl
def BypNewPost (xs : List Int) (w : World) (e : Ending) (w' : World) : Prop :=
  ∃ g gl gm, e = .returned (.pointer (some ⟨g, 0, none⟩)) ∧ Tb w' g gl gm 0 xs (zs xs.length) ∧ Ext w w' ∧ w.heap.size ≤ g ∧ w.heap.size ≤ gl ∧ w.heap.size ≤ gm
set_option maxRecDepth 100000 in
set_option maxHeartbeats 1600000 in
theorem bypNew_any (A : Option Addr) (n c : Nat) (xs : List Int) (w : World) (hx : RdI w w.heap.size .i64 A n xs) (hn : n * 8 ≤ 140737488351232) :
    Calls Tryz.prog 64 #[.slice A n c] w (BypNewPost xs w) := by
  have hmk := fun w => run_mkI Tryz.underlying48 info_i64 (n : Int) n rfl (by omega) (by omega) w
  have hmm := makeI
  have E1 := (Ext.refl w).goA (.cells (row .i64 (zs n)) 2)
  have E2 := E1.goA (.map #[] 0)
  have E3 := E2.goA (.cells #[.slice (some ⟨w.heap.size, 0, none⟩) n n, .map (some (w.heap.size + 1))] 127)
  have h0 : (((w.alloc (.cells (row .i64 (zs n)) 2)).alloc (.map #[] 0)).alloc (.cells #[.slice (some ⟨w.heap.size, 0, none⟩) n n, .map (some (w.heap.size + 1))] 127)).heap[w.heap.size + 2]? = some (.cells #[.slice (some ⟨w.heap.size, 0, none⟩) n n, .map (some (w.heap.size + 1))] 127 (0, 0)) := by rw [alloc_get, if_pos (by simp)]
  have h1 : Blk (((w.alloc (.cells (row .i64 (zs n)) 2)).alloc (.map #[] 0)).alloc (.cells #[.slice (some ⟨w.heap.size, 0, none⟩) n n, .map (some (w.heap.size + 1))] 127)) w.heap.size 2 .i64 (zs n) := by
    unfold Blk
    rw [alloc_get, if_neg (by simp; omega), alloc_get, if_neg (by simp), alloc_get, if_pos rfl]
  have h2 : MapI (((w.alloc (.cells (row .i64 (zs n)) 2)).alloc (.map #[] 0)).alloc (.cells #[.slice (some ⟨w.heap.size, 0, none⟩) n n, .map (some (w.heap.size + 1))] 127)) (w.heap.size + 1) 0 (fun _ => 0) := by
    have := MapI.made (w.alloc (.cells (row .i64 (zs n)) 2))
    rw [show (w.alloc (.cells (row .i64 (zs n)) 2)).heap.size = w.heap.size + 1 by simp] at this
    exact this.ext ((Ext.refl _).goA _)
  have hx3 := hx.ext E3
  have hc := cellsAt h0
  have hl := hx.len
  have hfm : 0 + n ≤ (zs n).length := by rw [zs_length]; omega
  have h0' := Lib.hid h0
  have h2' := Lib.hid h2
  have hl' := Lib.hid hl
  clear h0 h2 hl hx
  go_enter Tryz.func64, Tryz.ntmps64
  go_wp2_with ((with_reducible refine wpList_copyI rfl (.tmp 13) (.tmp 14) 48 48 rfl Tryz.underlying48 sz_i64 rfl rfl h1 (fun _ => rfl) hfm hx3 ?_))
  intro w4 K4 M4
  go_wp2_with fail
  go_ret
  have hk := K4.out
  rw [List.take_of_length_le (by rw [hl'.out]; exact Nat.le_refl _), splice_whole (by rw [zs_length]; exact hl'.out)] at hk
  have hh := (M4.block (w.heap.size + 2) (lt_of_block h0'.out) (by omega)).trans h0'.out
  refine ⟨w.heap.size + 2, w.heap.size, w.heap.size + 1, rfl, ⟨?_, hk, (h2'.out.keep (M4.block _ h2'.out.lt (by omega))).congr (fun i => (until_zeros _ i).symm), by rw [zs_length], by omega, by omega, RngE.zeros _, by have := hl'.out; omega⟩, E3.goM M4 (fun i hi => by omega), by omega, by omega, by omega⟩
  rw [hl'.out]
  exact hh
end Go.Proofs.YtgajbgdkgelkgaaGreat
namespace Go.Proofs.YtgajbgdkgelkgaaGreat
open Go.RowKit

/-- May an end not be that? -/
def wrongE (e : Int) : Bool := decide (e < 0) || decide (2199023255552 < e)
set_option maxRecDepth 100000 in
set_option maxHeartbeats 800000 in
theorem bypWrong_any (x : Int) (w : World) : Calls Tryz.prog 78 #[.int .i64 x] w fun e w' => e = .returned (.bool (wrongE x)) ∧ w = w' := by
  by_cases h0 : x < 0
  · have hv : wrongE x = true := by unfold wrongE; rw [decide_eq_true h0]; rfl
    have t0 : decide (x < 0) = true := by simp; omega
    rw [hv]
    clear hv
    go_enter Tryz.func78, Tryz.ntmps78
    go_wp2_with fail
    go_ret
    exact ⟨rfl, rfl⟩
  · have t0 : decide (x < 0) = false := by simp; omega
    have hv : wrongE x = decide (2199023255552 < x) := by unfold wrongE; rw [t0, Bool.false_or]
    rw [hv]
    clear hv
    go_enter Tryz.func78, Tryz.ntmps78
    go_wp2_with fail
    go_ret
    exact ⟨rfl, rfl⟩
/-- Some number that is 0 or more just if one of them may not be. -/
def IdxPost (xs : List Int) (w : World) (e : Ending) (w' : World) : Prop := ∃ r : Int, e = .returned (.int .i64 r) ∧ decide (0 ≤ r) = xs.any wrongE ∧ w = w'
theorem IdxPost.mk {xs : List Int} {w : World} {r : Int} (h : decide (0 ≤ r) = xs.any wrongE) : IdxPost xs w (.returned (.int .i64 r)) w := ⟨r, rfl, h, rfl⟩
set_option maxRecDepth 100000 in
set_option maxHeartbeats 1600000 in
theorem bypIndex_any (A : Option Addr) (n c B : Nat) (xs : List Int) (w : World) (hx : RdI w B .i64 A n xs) (hn : n ≤ maxLen) :
    Calls Tryz.prog 105 #[.slice A n c, .func (.func 78) #[] #[]] w (IdxPost xs w) := by
  unfold maxLen at hn
  have hl := Lib.hid hx.len
  have hx' := Lib.hid hx
  clear hx
  go_enter Tryz.func105, Tryz.ntmps105
  go_wp2_with fail
  go_loop [8] (fun i => ∃ k : Nat, k ≤ n ∧ i = .int .i64 k ∧ (xs.take k).any wrongE = false) (fun i => n - (intOf i).toNat)
  case atStart => exact ⟨0, by omega, rfl, rfl⟩
  case round =>
    obtain ⟨k, hk, rfl, hno⟩ := hrel
    have hno' := Lib.hid hno
    clear hno
    by_cases hlt : k < n
    · obtain ⟨b, o, rfl, hb, hc⟩ := hx'.out.at_ hlt
      have htk : xs.take (k + 1) = xs.take k ++ [xs.getD k 0] := by
        have hkl : k < xs.length := by rw [hl.out]; exact hlt
        rw [List.take_succ_eq_append_getElem hkl, List.getD_eq_getElem?_getD, List.getElem?_eq_getElem hkl]; rfl
      have hmem : xs.getD k 0 ∈ xs := by
        have hkl : k < xs.length := by rw [hl.out]; exact hlt
        rw [List.getD_eq_getElem?_getD, List.getElem?_eq_getElem hkl]; exact List.getElem_mem hkl
      generalize xs.getD k 0 = x at *
      have htk' := Lib.hid htk
      have hmem' := Lib.hid hmem
      clear htk hmem
      cases hw : wrongE x
      · have hw' := Lib.hid hw
        clear hw
        go_wp2_with fail
        refine (bypWrong_any x _).mono ?_
        rw [hw'.out]
        rintro e w2 ⟨rfl, rfl⟩
        go_wp2_with fail
        go_round
        case rel => exact ⟨k + 1, by omega, by go_num, by rw [htk'.out, List.any_append, hno'.out, Bool.false_or]; simp [hw'.out]⟩
        case measure => simp [intOf]; omega
      · have hw' := Lib.hid hw
        clear hw
        go_wp2_with fail
        refine (bypWrong_any x _).mono ?_
        rw [hw'.out]
        rintro e w2 ⟨rfl, rfl⟩
        go_wp2_with fail
        go_ret
        exact IdxPost.mk (by rw [decide_eq_true (by omega)]; exact (List.any_eq_true.2 ⟨x, hmem'.out, hw'.out⟩).symm)
    · obtain rfl : k = n := by omega
      go_wp2_with fail
      go_ret
      exact IdxPost.mk (by have := hno'.out; rw [List.take_of_length_le (by rw [hl.out]; exact Nat.le_refl _)] at this; rw [this]; rfl)
set_option maxRecDepth 100000 in
set_option maxHeartbeats 800000 in
theorem bypContains_any (A : Option Addr) (n c B : Nat) (xs : List Int) (w : World) (hx : RdI w B .i64 A n xs) (hn : n ≤ maxLen) :
    Calls Tryz.prog 79 #[.slice A n c, .func (.func 78) #[] #[]] w fun e w' => e = .returned (.bool (xs.any wrongE)) ∧ w = w' := by
  go_enter Tryz.func79, Tryz.ntmps79
  go_wp2_with fail
  refine (bypIndex_any A n c B xs w hx hn).mono ?_
  cases hv : xs.any wrongE
  · rintro e w1 ⟨r, rfl, hr, rfl⟩
    rw [hv] at hr
    go_wp2_with fail
    go_ret
    exact ⟨by rw [hv]; rfl, rfl⟩
  · rintro e w1 ⟨r, rfl, hr, rfl⟩
    rw [hv] at hr
    go_wp2_with fail
    go_ret
    exact ⟨by rw [hv]; rfl, rfl⟩
def loadB (n : Nat) (xs : List Int) : Bool := (xs.length == n) && !xs.any wrongE
theorem until_take (xs : List Int) (k : Nat) (_hk : k < xs.length) (j : Int) : fupd (untilE (xs.take k)) (k : Int) (xs.getD k 0) j = untilE (xs.take (k + 1)) j := by
  by_cases e : j = k
  · subst e
    rw [fupd_same, untilE_of, List.getD_eq_getElem?_getD, List.getD_eq_getElem?_getD, List.getElem?_take_of_lt (by omega)]
  · rw [fupd_other _ _ e]
    unfold untilE
    split
    · by_cases h : j.toNat < k
      · rw [List.getElem?_take_of_lt h, List.getElem?_take_of_lt (by omega)]
      · rw [List.getElem?_take, if_neg h, List.getElem?_take, if_neg (by omega)]
    · rfl
theorem until_take_zero (xs : List Int) (k : Nat) (hk : k < xs.length) (h0 : xs.getD k 0 = 0) (j : Int) : untilE (xs.take k) j = untilE (xs.take (k + 1)) j := by
  rw [← until_take xs k hk j, h0]
  by_cases e : j = k
  · subst e
    rw [fupd_same, untilE_of, List.getD_eq_getElem?_getD, List.getElem?_take, if_neg (by omega)]; rfl
  · rw [fupd_other _ _ e]
theorem wrong_range {xs : List Int} (h : xs.any wrongE = false) : RngE xs := by
  refine rng_of (by omega) (by omega) fun y hy => ?_
  have := List.any_eq_false.1 h y hy
  unfold wrongE at this
  simp at this
  omega
set_option maxRecDepth 100000 in
set_option maxHeartbeats 3200000 in
theorem bypLoad_any (g gl gm N : Nat) (lims E : List Int) (A : Option Addr) (n c : Nat) (xs : List Int) (w : World) (hb : Tb w g gl gm N lims E) (hx : RdI w w.heap.size .i64 A n xs) (hn : n ≤ 140737488351232) (hne : 0 < n → ∀ b o, A = some ⟨b, o, none⟩ → b ≠ gm) :
    Calls Tryz.prog 45 #[.pointer (some ⟨g, 0, none⟩), .slice A n c] w (TurnPost (.bool (loadB lims.length xs)) g gl gm (max N n) lims (if loadB lims.length xs = true then xs else E) w) := by
  have hc := cellsAt hb.head
  have hl := hx.len
  have hv : loadB lims.length xs = ((n == lims.length) && !xs.any wrongE) := by unfold loadB; rw [hl]
  rw [hv]
  have hfit := hb.fit
  have hb' := Lib.hid hb
  have hx' := Lib.hid hx
  have hl' := Lib.hid hl
  clear hb hx hl hv
  by_cases hnl : n = lims.length
  · have hcon := bypContains_any A n c w.heap.size xs w hx'.out (by unfold maxLen; omega)
    have t1 : ((n : Int) != (lims.length : Int)) = false := by simp; omega
    have t2 : (n != lims.length) = false := by simp; omega
    have e1 : (n == lims.length) = true := by simp; omega
    rw [e1, Bool.true_and]
    clear e1
    cases hw : xs.any wrongE
    · rw [hw] at hcon
      have hcon' := Lib.hid hcon
      have hr := wrong_range hw
      have hr' := Lib.hid hr
      have hnl' := Lib.hid hnl
      clear hw hcon hr
      have hm' := Lib.hid hb'.out.map
      generalize hz : lims.length = z at *
      have hz' := Lib.hid hz
      clear hz hnl
      go_enter Tryz.func45, Tryz.ntmps45
      go_wp2_with fail
      refine hcon'.out.mono ?_
      rintro e w1 ⟨rfl, rfl⟩
      go_wp2_with ((with_reducible refine wpList_clearI rfl (.tmp 24) rfl rfl hm'.out ?_); intro w1 hm1 hM1)
      have hm1' := Lib.hid hm1
      clear hm1
      go_loopw [27] (fun i wr => ∃ k : Nat, k ≤ n ∧ i = .int .i64 k ∧ MapI wr gm k (untilE (xs.take k)) ∧ Mod (fun i => i = gm) w wr) (fun i _ => n - (intOf i).toNat)
      case atStart => exact ⟨0, by omega, rfl, hm1'.out.congr (fun i => by unfold untilE; simp), hM1⟩
      case round =>
        obtain ⟨k, hk, rfl, hmk, hM⟩ := hrel
        have hmk' := Lib.hid hmk
        clear hmk
        by_cases hlt : k < n
        · have hkl : k < xs.length := by rw [hl'.out]; exact hlt
          have hst := until_take xs k hkl
          have hsz := until_take_zero xs k hkl
          have hxr := hr'.out k
          rw [← List.getD_eq_getElem?_getD] at hxr
          obtain ⟨b, o, rfl, hbl, hc0⟩ := hx'.out.at_ hlt
          have hc1 := (hM.cell (o + k) hbl (hne (by omega) b o rfl)).trans hc0
          have hhd := (hM.block g (hb'.out.old (.inl rfl)) hb'.out.n1).trans hb'.out.head
          have hc2 := cellsAt hhd
          generalize xs.getD k 0 = x at *
          have hst' := Lib.hid hst
          have hsz' := Lib.hid hsz
          have hxr' := Lib.hid hxr
          have wk := Lib.hid (WalkArith.wf_i64 (n := (k : Int)) ⟨by omega, by omega⟩)
          have wx := Lib.hid (WalkArith.wf_i64 (n := x) ⟨by omega, by omega⟩)
          clear hst hsz hhd hc0
          by_cases hx0 : 0 < x
          · have t3 : decide (0 < x) = true := by simp; omega
            have hx0' : Hid (x ≠ 0) := Lib.hid (by omega)
            go_wp2_with ((with_reducible refine wpList_storeI rfl (.tmp 37) (.tmp 38) (.tmp 39) rfl rfl rfl rfl hmk'.out (by unfold maxLen; omega) wk.out wx.out hx0'.out ?_); intro w2 hm2 hM2)
            go_roundw
            case rel => exact ⟨k + 1, by omega, by go_num, hm2.congr hst'.out, hM.trans hM2⟩
            case measure => simp [intOf]; omega
          · have t3 : decide (0 < x) = false := by simp; omega
            go_wp2_with fail
            go_roundw
            case rel => exact ⟨k + 1, by omega, by go_num, (hmk'.out.congr (hsz'.out (by omega))).mono (by omega), hM⟩
            case measure => simp [intOf]; omega
        · obtain rfl : k = n := by omega
          go_wp2_with fail
          go_ret
          have hmk := hmk'.out
          rw [List.take_of_length_le (by rw [hl'.out]; exact Nat.le_refl _)] at hmk
          exact ⟨rfl, (hb'.out.turn (hmk.mono (by omega)) (by rw [hl'.out, hb'.out.len]; have := hz'.out; have := hnl'.out; omega) hr'.out hM), hM⟩
    · rw [hw] at hcon
      have hcon' := Lib.hid hcon
      clear hw hcon hnl
      go_enter Tryz.func45, Tryz.ntmps45
      go_wp2_with fail
      refine hcon'.out.mono ?_
      rintro e w1 ⟨rfl, rfl⟩
      go_wp2_with fail
      go_ret
      exact ⟨rfl, hb'.out.mono (by omega), Mod.refl _ _⟩
  · have t1 : ((n : Int) != (lims.length : Int)) = true := by simp; omega
    have t2 : (n != lims.length) = true := by simp; omega
    have e1 : (n == lims.length) = false := by simp; omega
    rw [e1, Bool.false_and]
    clear e1 hnl
    go_enter Tryz.func45, Tryz.ntmps45
    go_wp2_with fail
    go_ret
    exact ⟨rfl, hb'.out.mono (by omega), Mod.refl _ _⟩
end Go.Proofs.YtgajbgdkgelkgaaGreat
namespace Go.Proofs.YtgajbgdkgelkgaaGreat
open Go.RowKit Go.Sort

def laysSort_ren : Go.Shelf.Ren := ⟨fun | 189 => 66 | 125 => 95 | 257 => 94 | 128 => 124 | 129 => 125 | 294 => 115 | 295 => 116 | 296 => 117 | 297 => 118 | 298 => 119 | 299 => 120 | 216 => 121 | 300 => 122 | 301 => 123 | 328 => 143 | 329 => 144 | 330 => 145 | 331 => 146 | 332 => 147 | 215 => 148 | 343 => 155 | n => n, fun | 28 => 57 | 3 => 3 | 46 => 169 | 0 => 0 | 51 => 28 | 53 => 144 | 4 => 4 | 183 => 190 | 182 => 189 | 131 => 143 | 5 => 5 | 9 => 9 | 218 => 206 | 222 => 210 | 228 => 213 | 229 => 214 | n => n, fun | n => n⟩
theorem laysSort : Go.Proofs.Lays.n189 Tryz.prog laysSort_ren := {
  mixed := by kernel_rfl
  f125 := Tryz.func95.trans (congrArg some (by kernel_rfl))
  f128 := Tryz.func124.trans (congrArg some (by kernel_rfl))
  f129 := Tryz.func125.trans (congrArg some (by kernel_rfl))
  f189 := Tryz.func66.trans (congrArg some (by kernel_rfl))
  f215 := Tryz.func148.trans (congrArg some (by kernel_rfl))
  f216 := Tryz.func121.trans (congrArg some (by kernel_rfl))
  f257 := Tryz.func94.trans (congrArg some (by kernel_rfl))
  f294 := Tryz.func115.trans (congrArg some (by kernel_rfl))
  f295 := Tryz.func116.trans (congrArg some (by kernel_rfl))
  f296 := Tryz.func117.trans (congrArg some (by kernel_rfl))
  f297 := Tryz.func118.trans (congrArg some (by kernel_rfl))
  f298 := Tryz.func119.trans (congrArg some (by kernel_rfl))
  f299 := Tryz.func120.trans (congrArg some (by kernel_rfl))
  f300 := Tryz.func122.trans (congrArg some (by kernel_rfl))
  f301 := Tryz.func123.trans (congrArg some (by kernel_rfl))
  f328 := Tryz.func143.trans (congrArg some (by kernel_rfl))
  f329 := Tryz.func144.trans (congrArg some (by kernel_rfl))
  f330 := Tryz.func145.trans (congrArg some (by kernel_rfl))
  f331 := Tryz.func146.trans (congrArg some (by kernel_rfl))
  f332 := Tryz.func147.trans (congrArg some (by kernel_rfl))
  f343 := Tryz.func155.trans (congrArg some (by kernel_rfl))
  t0 := Tryz.underlying0
  a0 := Tryz.isAgg0
  z0 := Tryz.sizeOf0
  v0 := Tryz.zeroValue0
  t3 := Tryz.underlying3
  a3 := Tryz.isAgg3
  z3 := Tryz.sizeOf3
  v3 := Tryz.zeroValue3
  t4 := Tryz.underlying4
  a4 := Tryz.isAgg4
  z4 := Tryz.sizeOf4
  v4 := Tryz.zeroValue4
  t5 := Tryz.underlying5
  a5 := Tryz.isAgg5
  z5 := Tryz.sizeOf5
  v5 := Tryz.zeroValue5
  t9 := Tryz.underlying9
  a9 := Tryz.isAgg9
  z9 := Tryz.sizeOf9
  v9 := Tryz.zeroValue9
  t28 := Tryz.underlying57
  a28 := Tryz.isAgg57
  z28 := Tryz.sizeOf57
  v28 := Tryz.zeroValue57
  t46 := Tryz.underlying169
  a46 := Tryz.isAgg169
  z46 := Tryz.sizeOf169
  v46 := Tryz.zeroValue169
  t51 := Tryz.underlying28
  a51 := Tryz.isAgg28
  z51 := Tryz.sizeOf28
  v51 := Tryz.zeroValue28
  t53 := Tryz.underlying144
  a53 := Tryz.isAgg144
  z53 := Tryz.sizeOf144
  v53 := Tryz.zeroValue144
  t131 := Tryz.underlying143
  a131 := Tryz.isAgg143
  z131 := Tryz.sizeOf143
  v131 := Tryz.zeroValue143
  t182 := Tryz.underlying189
  a182 := Tryz.isAgg189
  z182 := Tryz.sizeOf189
  v182 := Tryz.zeroValue189
  t183 := Tryz.underlying190
  a183 := Tryz.isAgg190
  z183 := Tryz.sizeOf190
  v183 := Tryz.zeroValue190
  t218 := Tryz.underlying206
  a218 := Tryz.isAgg206
  z218 := Tryz.sizeOf206
  v218 := Tryz.zeroValue206
  t222 := Tryz.underlying210
  a222 := Tryz.isAgg210
  z222 := Tryz.sizeOf210
  v222 := Tryz.zeroValue210
  t228 := Tryz.underlying213
  a228 := Tryz.isAgg213
  z228 := Tryz.sizeOf213
  v228 := Tryz.zeroValue213
  t229 := Tryz.underlying214
  a229 := Tryz.isAgg214
  z229 := Tryz.sizeOf214
  v229 := Tryz.zeroValue214 }
def sortL (xs : List Int) : List Int := xs.mergeSort fun x y => decide (x ≤ y)
theorem sortOwn_any (v : Value) (n base : Nat) (xs : List Int) (w : World) (hown : w.ownsRow base 3 1 v n (xs.map (Value.int .i64))) (hn : n < 4611686018427387904) :
    Calls Tryz.prog 66 #[v] w fun e w' => e = .returned (.tuple #[]) ∧ w'.ownsRow base 3 1 v n ((sortL xs).map (Value.int .i64)) ∧ w.grownBy w' v.ownBlock := by
  have hl : xs.length = n := by have := hown.1; simpa using this
  rcases hown.2 with ⟨rfl, h0⟩ | ⟨g, cap, cur, rfl, hbase, hb, h1, h2, h3, h4⟩
  · subst h0
    obtain rfl : xs = [] := List.eq_nil_of_length_eq_zero hl
    refine (Any.slices_Sort_int_none laysSort none 0 w).mono ?_
    rintro e w' ⟨rfl, rfl⟩
    exact ⟨rfl, by rw [show sortL [] = [] by simp [sortL]]; exact hown, World.grownBy.refl _ _⟩
  · subst hl
    rw [Nat.mul_one] at h4
    have hlt : g < w.heap.size := (Array.getElem?_eq_some_iff.1 hb).1
    refine (Any.slices_Sort_int laysSort g 0 cap xs w (holds_of_blockI hb h4) hlt hn).mono ?_
    rintro e w' ⟨rfl, m, os, rfl⟩
    exact ⟨rfl, ownsRow_sortedI (ss := xs) (ts := sortL xs) (by simp [sortL]) hbase hb h1 h2 h3, grownBy_sortedI _⟩
end Go.Proofs.YtgajbgdkgelkgaaGreat
