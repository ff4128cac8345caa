/- The reference of layer 15: Lapse, Load, New. (Printed by wip/gen/ref15.py.) -/
import Derived.Test.YtgeahfkhfpdlhaaRef15
import Derived.Test.YtgeahfkhfpdlhaaBypLapses
namespace Go.Proofs.Ytgeahfkhfpdlhaa
open Go.RowKit

/-- The ends while the first k were looked at. -/
def midE (E : List Int) (now : Int) (k : Nat) : List Int := (lapseE E now).take k ++ E.drop k
theorem midE_length (E : List Int) (now : Int) (k : Nat) (hk : k ≤ E.length) : (midE E now k).length = E.length := by
  unfold midE
  rw [List.length_append, List.length_take, List.length_drop, lapseE_length]
  omega
theorem midE_get (E : List Int) (now : Int) (k : Nat) (hk : k < E.length) : (midE E now k).getD k 0 = E.getD k 0 := by
  unfold midE
  rw [List.getD_eq_getElem?_getD, List.getD_eq_getElem?_getD, List.getElem?_append_right (by rw [List.length_take, lapseE_length]; omega), List.length_take, lapseE_length, Nat.min_eq_left (by omega), List.getElem?_drop]
  simp
theorem midE_step (E : List Int) (now : Int) (k : Nat) (hk : k < E.length) : midE E now (k + 1) = if 0 < E.getD k 0 ∧ E.getD k 0 ≤ now then (midE E now k).set k 0 else midE E now k := by
  have hl : (lapseE E now).getD k 0 = if 0 < E.getD k 0 ∧ E.getD k 0 ≤ now then 0 else E.getD k 0 := by
    unfold lapseE
    rw [List.getD_eq_getElem?_getD, List.getElem?_map, List.getD_eq_getElem?_getD, List.getElem?_eq_getElem hk]
    rfl
  have hs : midE E now (k + 1) = (midE E now k).set k ((lapseE E now).getD k 0) := by
    apply List.ext_getElem?
    intro j
    unfold midE
    by_cases e : k = j
    · subst e
      rw [List.getElem?_set_self (by rw [List.length_append, List.length_take, List.length_drop, lapseE_length]; omega), List.getElem?_append_left (by rw [List.length_take, lapseE_length]; omega), List.getElem?_take_of_lt (by omega), List.getD_eq_getElem?_getD, List.getElem?_eq_getElem (by rw [lapseE_length]; omega)]
      rfl
    · rw [List.getElem?_set_ne e]
      by_cases h : j < k
      · rw [List.getElem?_append_left (by rw [List.length_take, lapseE_length]; omega), List.getElem?_append_left (by rw [List.length_take, lapseE_length]; omega), List.getElem?_take_of_lt (by omega), List.getElem?_take_of_lt (by omega)]
      · rw [List.getElem?_append_right (by rw [List.length_take, lapseE_length]; omega), List.getElem?_append_right (by rw [List.length_take, lapseE_length]; omega), List.length_take, List.length_take, lapseE_length, Nat.min_eq_left (by omega), Nat.min_eq_left (by omega), List.getElem?_drop, List.getElem?_drop]
        congr 1
        omega
  rw [hs, hl]
  split
  · rfl
  · apply List.ext_getElem?
    intro j
    by_cases e : k = j
    · subst e
      have hkm : k < (midE E now k).length := by rw [midE_length E now k (by omega)]; exact hk
      have := midE_get E now k hk
      rw [List.getElem?_set_self hkm, List.getElem?_eq_getElem hkm]
      rw [List.getD_eq_getElem?_getD, List.getElem?_eq_getElem hkm] at this
      exact congrArg some this.symm
    · rw [List.getElem?_set_ne e]
theorem midE_all (E : List Int) (now : Int) : midE E now E.length = lapseE E now := by
  unfold midE
  rw [List.take_of_length_le (by rw [lapseE_length]; exact Nat.le_refl _), List.drop_eq_nil_of_le (Nat.le_refl _), List.append_nil]
def RLapsePost (h base : Nat) (Al : Option Addr) (cl : Nat) (lims E : List Int) (now : Int) (Ao : Option Addr) (co : Nat) (w : World) (e : Ending) (w' : World) : Prop :=
  ∃ A n c, e = .returned (.slice A n c) ∧ n ≤ c ∧ c ≤ maxLen ∧ RdI w' w'.heap.size .i64 A n (lapseL E now) ∧ (∀ b o, A = some ⟨b, o, none⟩ → w.heap.size ≤ b) ∧ (∃ Ae ce, Rt w' h base Al Ae cl ce lims (lapseE E now)) ∧ Mod (HasRt h Al Ao lims.length E.length co) w w'
section
variable (h base cl ce : Nat) (Al Ae : Option Addr) (lims E : List Int) (now : Int) (w : World)
set_option maxRecDepth 100000 in
set_option maxHeartbeats 3200000 in
theorem rtLapse_any (t : Rt w h base Al Ae cl ce lims E) (hf : E.length * 8 ≤ 140737488351232) (_hw : base ≤ w.heap.size) :
    Calls Try.prog 41 #[.pointer (some ⟨h, 0, none⟩), .int .i64 now] w (RLapsePost h base Al cl lims E now Ae ce w) := by
  have t' := Lib.hid t
  have hst := fun k hk => midE_step E now k hk
  have hlt' := lapse_take E now
  have hget := fun k hk => midE_get E now k hk
  have hlen := fun k hk => midE_length E now k hk
  have hall := midE_all E now
  have hrE := t.rng
  generalize hn : E.length = n at *
  have hn' := Lib.hid hn
  have hst' := Lib.hid hst
  have hlt2 := Lib.hid hlt'
  have hget' := Lib.hid hget
  have hlen' := Lib.hid hlen
  have hall' := Lib.hid hall
  have hrE' := Lib.hid hrE
  clear t hst hlt' hget hlen hall hn hrE
  go_enter Try.func41, Try.ntmps41
  go_wp2_with fail
  have hH : Hid (∀ b, HasRt h Al Ae lims.length n ce b → b < w.heap.size) := Lib.hid (fun b hb => t'.out.has (by rw [hn'.out]; exact hb))
  go_loopw [5, 6] (fun u i wr => ∃ k : Nat, k ≤ n ∧ i = .int .i64 k ∧ wr.ownsRow w.heap.size 3 1 u (lapseL (E.take k) now).length ((lapseL (E.take k) now).map (Value.int .i64)) ∧ Rt wr h base Al Ae cl ce lims (midE E now k) ∧ Mod (HasRt h Al Ae lims.length n ce) w wr ∧ w.heap.size ≤ wr.heap.size) (fun _ i _ => n - (intOf i).toNat)
  case atStart => exact ⟨0, by omega, rfl, World.ownsRow_nil w w.heap.size 3 1, t'.out, Mod.refl _ _, Nat.le_refl _⟩
  case round =>
    obtain ⟨k, hk, rfl, own, hT, hM, hS⟩ := hrel
    have hml := hlen'.out k hk
    have hc := cellsAt hT.head
    rw [hml] at hc
    have hml' := Lib.hid hml
    have own' := Lib.hid own
    have hT' := Lib.hid hT
    have hM' := Lib.hid hM
    clear own hT hml hM
    by_cases hlt : k < n
    · have hs1 := hlt2.out k hlt
      have hs2 := hst'.out k hlt
      have hg := hget'.out k hlt
      obtain ⟨b, hAe, hb, hcell, hfr, -⟩ := hT'.out.set_ (k := k) (v := 0) (by rw [hml'.out]; exact hlt) (by omega) (by omega)
      rw [hg] at hcell
      have hxr := hrE'.out k
      rw [← List.getD_eq_getElem?_getD] at hxr
      have hlen2 := lapse_length (E.take k) now
      rw [List.length_take] at hlen2
      generalize E.getD k 0 = x at *
      have hs1' := Lib.hid hs1
      have hs2' := Lib.hid hs2
      subst hAe
      clear hs1 hs2 hg
      by_cases hx0 : 0 < x
      · have f1 : decide (0 < x) = true := by simp; omega
        by_cases hx1 : x ≤ now
        · have f2 : decide (x ≤ now) = true := by simp; omega
          go_wp2_with (at_builtin; refine wpList_appI rfl (.tmp 35) (.tmp 37) _ rfl Try.underlying71 info_int (own'.out.alloc _) rfl (RdI.one _ _ _ _) rfl (by omega) (by omega) (by simp; omega) ?_)
          intro v' w3 hown3 hg3 hat3
          have T3 : Rt w3 h base Al (some ⟨b, 0, none⟩) cl ce lims (midE E now k) := hT'.out.keep2 (by have := hg3.size; simp at this; omega) (fun g hg => by
            rw [hml'.out] at hg
            have h1 := hH.out g hg
            refine (hg3.block g (by simp; omega) (fun e => ?_)).trans (((Ext.refl wr).goA _).block g (by omega))
            have := (own'.out.lt g e.symm).1
            omega)
          obtain ⟨b4, hb4, -, hcell4, hfr4, T4⟩ := T3.set_ (k := k) (v := 0) (by rw [hml'.out]; exact hlt) (by omega) (by omega)
          injection hb4 with hb4
          injection hb4 with hb4
          subst hb4
          have hc3 := cellsAt T3.head
          rw [hml'.out] at hc3
          have hS3 : w.heap.size ≤ w3.heap.size := by have := hg3.size; simp at this; omega
          have hM3 : Mod (HasRt h Al (some ⟨b, 0, none⟩) lims.length n ce) w (w3.setCell ⟨b, k, none⟩ (.int .i64 0)) := ((hM'.out.alloc _).grown hg3 (fun g hg => .inr (own'.out.lt g hg).1)).setCell (p := ⟨b, k, none⟩) (.inl (.inr (.inr rfl))) _
          have hob := hH.out b (.inr (.inr rfl))
          have hown4 := ownsRow_setCell_below hown3 (a := ⟨b, k, none⟩) hob (.int .i64 0)
          have T4' := Lib.hid T4
          have hown4' := Lib.hid hown4
          have hM3' := Lib.hid hM3
          have hS3' := Lib.hid hS3
          clear T3 T4 hown3 hown4 hg3 hat3 hM3 hS3 hob hc hcell hfr
          go_wp2_with fail
          go_roundw
          case rel => exact ⟨k + 1, by omega, by go_num, by rw [hs1'.out, if_pos ⟨hx0, hx1⟩, List.length_append, List.map_append]; exact hown4'.out, by rw [hs2'.out, if_pos ⟨hx0, hx1⟩]; exact T4'.out, hM3'.out, by have := hS3'.out; simp [World.setCell]; omega⟩
          case measure => simp [intOf]; omega
        · have f2 : decide (x ≤ now) = false := by simp; omega
          go_wp2_with fail
          go_roundw
          case rel => exact ⟨k + 1, by omega, by go_num, by rw [hs1'.out, if_neg (fun h => by omega), List.append_nil]; exact own'.out, by rw [hs2'.out, if_neg (fun h => by omega)]; exact hT'.out, hM'.out, hS⟩
          case measure => simp [intOf]; omega
      · have f1 : decide (0 < x) = false := by simp; omega
        go_wp2_with fail
        go_roundw
        case rel => exact ⟨k + 1, by omega, by go_num, by rw [hs1'.out, if_neg (fun h => by omega), List.append_nil]; exact own'.out, by rw [hs2'.out, if_neg (fun h => by omega)]; exact hT'.out, hM'.out, hS⟩
        case measure => simp [intOf]; omega
    · obtain rfl : k = n := by omega
      have f1 : decide (k < k) = false := by simp
      go_wp2_with fail
      go_ret
      have hown := own'.out
      rw [List.take_of_length_le (by rw [hn'.out]; exact Nat.le_refl _)] at hown
      obtain ⟨A3, c3, rfl, ⟨g1, g2⟩, r3⟩ := own_rd hown
      have hTT := hT'.out
      rw [hall'.out] at hTT
      exact ⟨A3, _, c3, rfl, g1, g2, r3, fun b o e => by subst e; exact (hown.lt b rfl).1, ⟨Ae, ce, hTT⟩, by rw [hn'.out]; exact hM'.out⟩
set_option maxRecDepth 100000 in
set_option maxHeartbeats 3200000 in
theorem rtLoad_any (A : Option Addr) (n c : Nat) (xs : List Int) (t : Rt w h base Al Ae cl ce lims E) (hx : RdI w w.heap.size .i64 A n xs) (hn : n * 8 ≤ 140737488351232) (hw : base ≤ w.heap.size) :
    Calls Try.prog 44 #[.pointer (some ⟨h, 0, none⟩), .slice A n c] w (RtPost (.bool (loadB lims.length xs)) h base Al cl lims (if loadB lims.length xs = true then xs else E) Ae E.length ce w) := by
  have hl := hx.len
  have hv : loadB lims.length xs = ((n == lims.length) && !xs.any wrongE) := by unfold loadB; rw [hl]
  rw [hv]
  clear hv
  obtain ⟨bv, hbv⟩ : ∃ bv, ((n == lims.length) && !xs.any wrongE) = bv := ⟨_, rfl⟩
  obtain ⟨Ef, hEf⟩ : ∃ Ef, (if bv = true then xs else E) = Ef := ⟨_, rfl⟩
  rw [hbv, hEf]
  have hbv' := Lib.hid hbv
  have hEf' := Lib.hid hEf
  clear hbv hEf
  have hc := cellsAt t.head
  have hlen := t.len
  rw [hlen] at hc
  have t' := Lib.hid t
  have hx' := Lib.hid hx
  have hl' := Lib.hid hl
  have hlen' := Lib.hid hlen
  have hat := any_take xs
  rw [hl] at hat
  have hat' := Lib.hid hat
  have hcap := t.capl
  unfold maxLen at hcap
  generalize hz : lims.length = z at *
  have hz' := Lib.hid hz
  clear t hx hl hlen hat hz
  go_enter Try.func44, Try.ntmps44
  go_wp2_with fail
  go_loop [5] (fun i => ∃ k : Nat, k ≤ n ∧ i = .int .i64 k ∧ (xs.take k).any wrongE = false) (fun i => n - (intOf i).toNat)
  case atStart => exact ⟨0, by omega, rfl, rfl⟩
  case round =>
    obtain ⟨k, hk, rfl, hno⟩ := hrel
    have hno' := Lib.hid hno
    clear hno
    by_cases hlt : k < n
    · obtain ⟨b, o, rfl, hb, hc1⟩ := hx'.out.at_ hlt
      have hst := hat'.out k hlt
      have hkl : k < xs.length := by rw [hl'.out]; exact hlt
      have hmem : xs.getD k 0 ∈ xs := by rw [List.getD_eq_getElem?_getD, List.getElem?_eq_getElem hkl]; exact List.getElem_mem hkl
      generalize xs.getD k 0 = x at *
      have hst' := Lib.hid hst
      have hmem' := Lib.hid hmem
      clear hst hmem hkl
      by_cases h0 : x < 0
      · have f1 : decide (x < 0) = true := by simp; omega
        go_wp2_with fail
        go_ret
        have hany : xs.any wrongE = true := List.any_eq_true.2 ⟨x, hmem'.out, by unfold wrongE; rw [f1]; rfl⟩
        obtain rfl : bv = false := by rw [← hbv'.out, hany]; simp
        obtain rfl : E = Ef := by rw [← hEf'.out, if_neg (by decide)]
        exact ⟨rfl, ⟨_, _, t'.out⟩, Mod.refl _ _⟩
      · have f1 : decide (x < 0) = false := by simp; omega
        by_cases h1 : 2199023255552 < x
        · have f2 : decide (2199023255552 < x) = true := by simp; omega
          go_wp2_with fail
          go_ret
          have hany : xs.any wrongE = true := List.any_eq_true.2 ⟨x, hmem'.out, by unfold wrongE; rw [f1, f2]; rfl⟩
          obtain rfl : bv = false := by rw [← hbv'.out, hany]; simp
          obtain rfl : E = Ef := by rw [← hEf'.out, if_neg (by decide)]
          exact ⟨rfl, ⟨_, _, t'.out⟩, Mod.refl _ _⟩
        · have f2 : decide (2199023255552 < x) = false := by simp; omega
          go_wp2_with fail
          go_round
          case rel => exact ⟨k + 1, by omega, by go_num, by rw [hst'.out, hno'.out]; unfold wrongE; rw [f1, f2]; rfl⟩
          case measure => simp [intOf]; omega
    · obtain rfl : k = n := by omega
      have hany := hno'.out
      rw [List.take_of_length_le (by rw [hl'.out]; exact Nat.le_refl _)] at hany
      have hbv2 := hbv'.out
      rw [hany, Bool.not_false, Bool.and_true] at hbv2
      have hbv2' := Lib.hid hbv2
      clear hbv2
      have hr := wrong_range hany
      have hr' := Lib.hid hr
      clear hany hr hno'
      by_cases hnz : k = z
      · subst hnz
        obtain rfl : bv = true := by rw [← hbv2'.out]; simp
        obtain rfl : xs = Ef := by rw [← hEf'.out, if_pos rfl]
        have E1 := (Ext.refl w).goA (.cells #[] 2)
        have hown := own_empty (w := w) (base := w.heap.size) 2 .i64 rfl (Nat.le_refl _)
        have hr1 := hx'.out.ext E1
        have f3 : ((k : Int) != (k : Int)) = false := by simp
        have f4 : (k != k) = false := by simp
        have f5 : decide (k < k) = false := by simp
        go_wp2_with (at_builtin; refine wpList_appI rfl (.tmp 33) (.tmp 34) _ rfl Try.underlying61 info_i64 hown rfl hr1 rfl (by omega) (by omega) (by simp) ?_)
        intro v' w3 hown3 hg3 hat3
        obtain ⟨A3, c3, rfl, ⟨g1, g2⟩, r3⟩ := own_rd hown3
        have hfr : ∀ b, (Value.slice A3 k c3).ownBlock = some b → w.heap.size ≤ b := fun b hb => (hown3.lt b hb).1
        have E3 : Ext w w3 := E1.goG hg3 (fun i hi => by have hi' : some w.heap.size = some i := hi; injection hi' with hi'; omega)
        have hlt0 := lt_of_block t'.out.head
        have hh3 := (E3.block h hlt0).trans t'.out.head
        have hc3 := cellsAt hh3
        have hf3 : ∀ o, w3.frozen? ⟨h, o, none⟩ = false := fun o => by simp [World.frozen?, hh3]
        rw [hlen'.out, hz'.out] at hh3
        rw [hlen'.out, hz'.out] at hc3
        have T4 : Rt (w3.setCell ⟨h, 1, none⟩ (.slice A3 k c3)) h base Al A3 cl c3 lims xs := by
          have hkb : ∀ g, g ≠ h → (w3.setCell ⟨h, 1, none⟩ (.slice A3 k c3)).heap[g]? = w3.heap[g]? := fun g hg => Below.heap_setCell _ _ _ _ (by simpa using hg)
          have hsz : (w3.setCell ⟨h, 1, none⟩ (.slice A3 k c3)).heap.size = w3.heap.size := by simp [World.setCell]
          have hld := t'.out.lb
          have hrow := t'.out.row.ext E3
          refine ⟨?_, ⟨hrow.1, fun hn => ?_⟩, ?_, hl'.out.trans hz'.out.symm, t'.out.hb, fun hn b o e => ⟨(hld hn b o e).1, (hld hn b o e).2.1, fun h => ?_⟩, fun e => ?_, t'.out.capl, by rw [hl'.out]; exact ⟨g1, g2⟩, hr'.out⟩
          · rw [hl'.out, hz'.out]
            unfold World.setCell
            simp [Array.getElem?_modify, hh3]
          · obtain ⟨b, o, e, hb, hcc⟩ := hrow.2 hn
            exact ⟨b, o, e, by rw [hsz]; exact hb, fun j hj => (World.cell?_of_block (a := ⟨b, o + j, none⟩) (hkb b (hld hn b o e).2.1)).trans (hcc j hj)⟩
          · rw [hl'.out]
            have hoo := ownsRow_setCell_below hown3 (a := ⟨h, 1, none⟩) hlt0 (.slice A3 k c3)
            exact ⟨hoo.1, hoo.2.imp id fun ⟨g, cap, cur, e, hb, h1⟩ => ⟨g, cap, cur, e, Nat.le_trans hw hb, h1⟩⟩
          · rw [hl'.out] at h
            have h1 := hfr _ h
            have h2 := t'.out.row.lt_of hn e
            omega
          · rw [hl'.out] at e
            have := hfr _ e
            omega
        have hM4 : Mod (HasRt h Al Ae lims.length E.length ce) w (w3.setCell ⟨h, 1, none⟩ (.slice A3 k c3)) := (Mod.ofBelow E3).setCell (p := ⟨h, 1, none⟩) (.inl (.inl rfl)) _
        have T4' := Lib.hid T4
        have hM4' := Lib.hid hM4
        clear T4 hM4 hh3 hown3 r3 hg3 hat3 hc
        go_wp2_with fail
        go_ret
        exact ⟨rfl, ⟨_, _, T4'.out⟩, hM4'.out⟩
      · obtain rfl : bv = false := by rw [← hbv2'.out]; simp; omega
        obtain rfl : E = Ef := by rw [← hEf'.out, if_neg (by decide)]
        have f3 : ((k : Int) != (z : Int)) = true := by simp; omega
        have f4 : (k != z) = true := by simp; omega
        go_wp2_with fail
        go_ret
        exact ⟨rfl, ⟨_, _, t'.out⟩, Mod.refl _ _⟩
end
def RNewPost (xs : List Int) (w : World) (e : Ending) (w' : World) : Prop :=
  ∃ h Al Ae cl ce, e = .returned (.pointer (some ⟨h, 0, none⟩)) ∧ Rt w' h w.heap.size Al Ae cl ce xs (zs xs.length) ∧ Ext w w'
theorem rtNew_close {w V : World} {n : Nat} {xs : List Int} {Al : Option Addr} {cl he : Nat} (hl : xs.length = n) (hE : Ext w V) (hm : n ≤ 9223372036854775807) (hcl : n ≤ cl ∧ cl ≤ maxLen) (hown : V.ownsRow w.heap.size 2 1 (.slice Al n cl) n (xs.map (Value.int .i64)))
    (hr : RdI V V.heap.size .i64 Al n xs) (hz : Blk V he 2 .i64 (zs n)) (hhe : w.heap.size ≤ he) (hne : (Value.slice Al n cl).ownBlock ≠ some he) :
    RNewPost xs w (.returned (.pointer (some ⟨V.heap.size, 0, none⟩))) (V.alloc (.cells #[.slice Al n cl, .slice (some ⟨he, 0, none⟩) n n] 125)) := by
  subst hl
  have X := (Ext.refl V).goA (.cells #[.slice Al xs.length cl, .slice (some ⟨he, 0, none⟩) xs.length xs.length] 125)
  refine ⟨V.heap.size, Al, some ⟨he, 0, none⟩, cl, xs.length, rfl, ⟨?_, hr.ext X, ?_, zs_length _, hE.size, fun hn b o e => ?_, fun e => ?_, hcl, ?_, RngE.zeros _⟩, hE.go X⟩
  · rw [zs_length]; exact heap_alloc_new V _
  · rw [zs_length]
    exact own_ext (hz.own hhe (zs_length _) hm) X
  · subst e
    obtain ⟨b', o', e', hb', _⟩ := hr.2 hn
    injection e' with e'; injection e' with e1 e2; subst e1 e2
    have hob : (Value.slice (some ⟨b, o, none⟩) xs.length cl).ownBlock = some b := rfl
    refine ⟨(hown.lt b hob).1, by omega, fun h => ?_⟩
    have h' : some he = some b := h
    injection h' with h'
    exact hne (by rw [hob, h'])
  · have h' : some he = some V.heap.size := e
    injection h' with h'
    have := hz.lt
    omega
  · rw [zs_length]; exact ⟨Nat.le_refl _, by unfold maxLen; omega⟩
set_option maxRecDepth 100000 in
set_option maxHeartbeats 3200000 in
theorem rtNew_any (A : Option Addr) (n c : Nat) (xs : List Int) (w : World) (hx : RdI w w.heap.size .i64 A n xs) (hn : n * 8 ≤ 140737488351232) :
    Calls Try.prog 36 #[.slice A n c] w (RNewPost xs w) := by
  have hmk := fun w => run_mkI Try.underlying61 info_i64 (n : Int) n rfl (by omega) (by omega) w
  have hl' := Lib.hid hx.len
  have hx' := Lib.hid hx
  clear hx
  go_enter Try.func36, Try.ntmps36
  go_wp2_with fail
  have d0 : Ext w w.drew := (Ext.refl _).god
  refine wp_region_held_drew (S := fun w' => Ext w w') (by kernel_rfl) d0 (fun hHeld => ?_)
  refine wpAnyH_take (i := 1) (oi := _) (v := ?_) rfl (by kernel_rfl) (by kernel_rfl) (by kernel_rfl) (fun _ _ _ h => h) (Or.inl ⟨by rfl, ?_⟩) (by assumption) ?_
  rotate_left
  · intro w hSw
    (try dsimp only at hSw)
    go_simp
    try (with_reducible rfl)
  try simp only [Act.put, List.getElem_toArray, List.getElem_cons_succ, List.getElem_cons_zero, List.setIfInBounds_toArray, List.set_cons_zero, List.set_cons_succ]
  refine wpAnyH_take (i := 3) (oi := _) (v := ?_) rfl (by kernel_rfl) (by kernel_rfl) (by kernel_rfl) (fun _ _ _ h => h) (Or.inl ⟨by rfl, ?_⟩) (by assumption) ?_
  rotate_left
  · intro w hSw
    (try dsimp only at hSw)
    go_simp
    try (with_reducible rfl)
  try simp only [Act.put, List.getElem_toArray, List.getElem_cons_succ, List.getElem_cons_zero, List.setIfInBounds_toArray, List.set_cons_zero, List.set_cons_succ]
  refine wpAnyH_take (i := 4) (oi := _) (v := ?_) rfl (by kernel_rfl) (by kernel_rfl) (by kernel_rfl) (fun _ _ _ h => h) (Or.inl ⟨by rfl, ?_⟩) (by assumption) ?_
  rotate_left
  · intro w hSw
    (try dsimp only at hSw)
    go_simp
    try (with_reducible rfl)
  try simp only [Act.put, List.getElem_toArray, List.getElem_cons_succ, List.getElem_cons_zero, List.setIfInBounds_toArray, List.set_cons_zero, List.set_cons_succ]
  refine wpAnyH_ready (rs := [0, 5]) (by kernel_rfl) (by simp) ?_
  refine AllReadyH.cons rfl (fun K hK => ?_) (AllReadyH.cons rfl (fun K hK => ?_) (AllReadyH.nil))
  · go_simp
    refine hK.out _ _ ?_ (fun hHeld => ?_)
    · exact d0.goA _
    clear hK K
    try simp only [Act.put, List.getElem_toArray, List.getElem_cons_succ, List.getElem_cons_zero, List.setIfInBounds_toArray, List.set_cons_zero, List.set_cons_succ]
    refine wpAnyH_ready (rs := [2, 5]) (by kernel_rfl) (by simp) ?_
    refine AllReadyH.cons rfl (fun K hK => ?_) (AllReadyH.cons rfl (fun K hK => ?_) (AllReadyH.nil))
    · refine step_appI rfl (.tmp 3) (.tmp 4) _ rfl Try.underlying61 info_i64 (own_empty (w := w.drew) (base := w.heap.size) 2 .i64 rfl (Nat.le_refl _)) rfl (hx'.out.ext (d0.goA (.cells #[] 2))) rfl (by omega) (by omega) (by simp) ?_
      intro v' w3 hown3 hg3 hat3
      have hown3 : w3.ownsRow w.heap.size 2 1 v' n (xs.map (Value.int .i64)) := (by simpa using hown3)
      obtain ⟨A3, c3, rfl, hc3, r3⟩ := own_rd hown3
      have d3 : Ext w w3 := ((d0.goA (.cells #[] 2))).goG hg3 (fun i hi => by have hi' : some w.heap.size = some i := hi; injection hi' with hi'; omega)
      try dsimp only
      refine hK.out _ _ ?_ (fun hHeld => ?_)
      · first | assumption | (dsimp only; assumption)
      clear hK K
      try simp only [Act.put, List.getElem_toArray, List.getElem_cons_succ, List.getElem_cons_zero, List.setIfInBounds_toArray, List.set_cons_zero, List.set_cons_succ]
      refine wpAnyH_ready (rs := [5]) (by kernel_rfl) (by simp) ?_
      refine AllReadyH.cons rfl (fun K hK => ?_) ?_
      rotate_left
      · exact AllReadyH.nil
      go_simp
      refine hK.out _ _ ?_ (fun hHeld => ?_)
      · exact d3.goA _
      clear hK K
      try simp only [Act.put, List.getElem_toArray, List.getElem_cons_succ, List.getElem_cons_zero, List.setIfInBounds_toArray, List.set_cons_zero, List.set_cons_succ]
      refine wpAnyH_take (i := 6) (oi := _) (v := ?_) rfl (by kernel_rfl) (by kernel_rfl) (by kernel_rfl) (fun _ _ _ h => h) (Or.inl ⟨by rfl, ?_⟩) (by assumption) ?_
      rotate_left
      · intro w hSw
        (try dsimp only at hSw)
        go_simp
        try (with_reducible rfl)
      try simp only [Act.put, List.getElem_toArray, List.getElem_cons_succ, List.getElem_cons_zero, List.setIfInBounds_toArray, List.set_cons_zero, List.set_cons_succ]
      refine wpAnyH_ready (rs := [7]) (by kernel_rfl) (by simp) ?_
      refine AllReadyH.cons rfl (fun K hK => ?_) ?_
      rotate_left
      · exact AllReadyH.nil
      go_simp
      refine hK.out _ _ ?_ (fun hHeld => ?_)
      · exact (d3.goA _).goA _
      clear hK K
      try simp only [Act.put, List.getElem_toArray, List.getElem_cons_succ, List.getElem_cons_zero, List.setIfInBounds_toArray, List.set_cons_zero, List.set_cons_succ]
      refine wpAnyH_take (i := 8) (oi := _) (v := ?_) rfl (by kernel_rfl) (by kernel_rfl) (by kernel_rfl) (fun _ _ _ h => h) (Or.inl ⟨by rfl, ?_⟩) (by assumption) ?_
      rotate_left
      · intro w hSw
        (try dsimp only at hSw)
        go_simp
        try (with_reducible rfl)
      try simp only [Act.put, List.getElem_toArray, List.getElem_cons_succ, List.getElem_cons_zero, List.setIfInBounds_toArray, List.set_cons_zero, List.set_cons_succ]
      refine wpAnyH_done (by kernel_rfl) ?_ _
      go_wp2_with fail
      go_ret
      have hfin := rtNew_close hl'.out (d3.goA (.cells (row .i64 (zs n)) 2)) (by omega) hc3 (own_ext hown3 ((Ext.refl w3).goA _)) (r3.ext ((Ext.refl w3).goA _)) (Blk.new w3 2 .i64 (zs n)) (by have := d3.size; omega) (fun h => by have := (hown3.lt _ h).2; omega)
      rw [show (w3.alloc (.cells (row .i64 (zs n)) 2)).heap.size = w3.heap.size + 1 by simp] at hfin
      exact hfin
    · go_simp
      refine hK.out _ _ ?_ (fun hHeld => ?_)
      · exact (d0.goA _).goA _
      clear hK K
      try simp only [Act.put, List.getElem_toArray, List.getElem_cons_succ, List.getElem_cons_zero, List.setIfInBounds_toArray, List.set_cons_zero, List.set_cons_succ]
      refine wpAnyH_ready (rs := [2]) (by kernel_rfl) (by simp) ?_
      refine AllReadyH.cons rfl (fun K hK => ?_) ?_
      rotate_left
      · exact AllReadyH.nil
      refine step_appI rfl (.tmp 3) (.tmp 4) _ rfl Try.underlying61 info_i64 ((own_empty (w := w.drew) (base := w.heap.size) 2 .i64 rfl (Nat.le_refl _)).alloc _) rfl (hx'.out.ext ((d0.goA (.cells #[] 2)).goA (.cells (row .i64 (zs n)) 2))) rfl (by omega) (by omega) (by simp; omega) ?_
      intro v' w3 hown3 hg3 hat3
      have hown3 : w3.ownsRow w.heap.size 2 1 v' n (xs.map (Value.int .i64)) := (by simpa using hown3)
      obtain ⟨A3, c3, rfl, hc3, r3⟩ := own_rd hown3
      have d3 : Ext w w3 := (((d0.goA (.cells #[] 2)).goA (.cells (row .i64 (zs n)) 2))).goG hg3 (fun i hi => by have hi' : some w.heap.size = some i := hi; injection hi' with hi'; omega)
      try dsimp only
      refine hK.out _ _ ?_ (fun hHeld => ?_)
      · first | assumption | (dsimp only; assumption)
      clear hK K
      try simp only [Act.put, List.getElem_toArray, List.getElem_cons_succ, List.getElem_cons_zero, List.setIfInBounds_toArray, List.set_cons_zero, List.set_cons_succ]
      refine wpAnyH_take (i := 6) (oi := _) (v := ?_) rfl (by kernel_rfl) (by kernel_rfl) (by kernel_rfl) (fun _ _ _ h => h) (Or.inl ⟨by rfl, ?_⟩) (by assumption) ?_
      rotate_left
      · intro w hSw
        (try dsimp only at hSw)
        go_simp
        try (with_reducible rfl)
      try simp only [Act.put, List.getElem_toArray, List.getElem_cons_succ, List.getElem_cons_zero, List.setIfInBounds_toArray, List.set_cons_zero, List.set_cons_succ]
      refine wpAnyH_ready (rs := [7]) (by kernel_rfl) (by simp) ?_
      refine AllReadyH.cons rfl (fun K hK => ?_) ?_
      rotate_left
      · exact AllReadyH.nil
      go_simp
      refine hK.out _ _ ?_ (fun hHeld => ?_)
      · exact d3.goA _
      clear hK K
      try simp only [Act.put, List.getElem_toArray, List.getElem_cons_succ, List.getElem_cons_zero, List.setIfInBounds_toArray, List.set_cons_zero, List.set_cons_succ]
      refine wpAnyH_take (i := 8) (oi := _) (v := ?_) rfl (by kernel_rfl) (by kernel_rfl) (by kernel_rfl) (fun _ _ _ h => h) (Or.inl ⟨by rfl, ?_⟩) (by assumption) ?_
      rotate_left
      · intro w hSw
        (try dsimp only at hSw)
        go_simp
        try (with_reducible rfl)
      try simp only [Act.put, List.getElem_toArray, List.getElem_cons_succ, List.getElem_cons_zero, List.setIfInBounds_toArray, List.set_cons_zero, List.set_cons_succ]
      refine wpAnyH_done (by kernel_rfl) ?_ _
      go_wp2_with fail
      go_ret
      have hg3' : ((w.alloc (.cells #[] 2)).alloc (.cells (row .i64 (zs n)) 2)).drew.grownBy w3 (some w.heap.size) := hg3
      have hzb : Blk w3 (w.heap.size + 1) 2 .i64 (zs n) := (hg3'.block (w.heap.size + 1) (by simp) (by simp)).trans (by show (World.alloc _ _).heap[_]? = _; rw [alloc_get, if_pos (by simp)])
      exact rtNew_close hl'.out d3 (by omega) hc3 hown3 r3 hzb (by omega) (fun h => by
        rw [h] at hat3
        rcases hat3 with e | e
        · have e' : some (w.heap.size + 1) = some (w.heap.size) := e
          injection e' with e'
          omega
        · injection e with e
          simp at e)
  · go_simp
    refine hK.out _ _ ?_ (fun hHeld => ?_)
    · exact d0.goA _
    clear hK K
    try simp only [Act.put, List.getElem_toArray, List.getElem_cons_succ, List.getElem_cons_zero, List.setIfInBounds_toArray, List.set_cons_zero, List.set_cons_succ]
    refine wpAnyH_ready (rs := [0]) (by kernel_rfl) (by simp) ?_
    refine AllReadyH.cons rfl (fun K hK => ?_) ?_
    rotate_left
    · exact AllReadyH.nil
    go_simp
    refine hK.out _ _ ?_ (fun hHeld => ?_)
    · exact (d0.goA _).goA _
    clear hK K
    try simp only [Act.put, List.getElem_toArray, List.getElem_cons_succ, List.getElem_cons_zero, List.setIfInBounds_toArray, List.set_cons_zero, List.set_cons_succ]
    refine wpAnyH_ready (rs := [2]) (by kernel_rfl) (by simp) ?_
    refine AllReadyH.cons rfl (fun K hK => ?_) ?_
    rotate_left
    · exact AllReadyH.nil
    refine step_appI rfl (.tmp 3) (.tmp 4) _ rfl Try.underlying61 info_i64 (own_empty (w := w.drew.alloc (.cells (row .i64 (zs n)) 2)) (base := w.heap.size) (g := w.heap.size + 1) 2 .i64 (by simp) (by simp)) rfl (hx'.out.ext ((d0.goA (.cells (row .i64 (zs n)) 2)).goA (.cells #[] 2))) rfl (by omega) (by omega) (by simp; omega) ?_
    intro v' w3 hown3 hg3 hat3
    have hown3 : w3.ownsRow w.heap.size 2 1 v' n (xs.map (Value.int .i64)) := (by simpa using hown3)
    obtain ⟨A3, c3, rfl, hc3, r3⟩ := own_rd hown3
    have d3 : Ext w w3 := (((d0.goA (.cells (row .i64 (zs n)) 2)).goA (.cells #[] 2))).goG hg3 (fun i hi => by have hi' : some (w.heap.size + 1) = some i := hi; injection hi' with hi'; omega)
    try dsimp only
    refine hK.out _ _ ?_ (fun hHeld => ?_)
    · first | assumption | (dsimp only; assumption)
    clear hK K
    try simp only [Act.put, List.getElem_toArray, List.getElem_cons_succ, List.getElem_cons_zero, List.setIfInBounds_toArray, List.set_cons_zero, List.set_cons_succ]
    refine wpAnyH_take (i := 6) (oi := _) (v := ?_) rfl (by kernel_rfl) (by kernel_rfl) (by kernel_rfl) (fun _ _ _ h => h) (Or.inl ⟨by rfl, ?_⟩) (by assumption) ?_
    rotate_left
    · intro w hSw
      (try dsimp only at hSw)
      go_simp
      try (with_reducible rfl)
    try simp only [Act.put, List.getElem_toArray, List.getElem_cons_succ, List.getElem_cons_zero, List.setIfInBounds_toArray, List.set_cons_zero, List.set_cons_succ]
    refine wpAnyH_ready (rs := [7]) (by kernel_rfl) (by simp) ?_
    refine AllReadyH.cons rfl (fun K hK => ?_) ?_
    rotate_left
    · exact AllReadyH.nil
    go_simp
    refine hK.out _ _ ?_ (fun hHeld => ?_)
    · exact d3.goA _
    clear hK K
    try simp only [Act.put, List.getElem_toArray, List.getElem_cons_succ, List.getElem_cons_zero, List.setIfInBounds_toArray, List.set_cons_zero, List.set_cons_succ]
    refine wpAnyH_take (i := 8) (oi := _) (v := ?_) rfl (by kernel_rfl) (by kernel_rfl) (by kernel_rfl) (fun _ _ _ h => h) (Or.inl ⟨by rfl, ?_⟩) (by assumption) ?_
    rotate_left
    · intro w hSw
      (try dsimp only at hSw)
      go_simp
      try (with_reducible rfl)
    try simp only [Act.put, List.getElem_toArray, List.getElem_cons_succ, List.getElem_cons_zero, List.setIfInBounds_toArray, List.set_cons_zero, List.set_cons_succ]
    refine wpAnyH_done (by kernel_rfl) ?_ _
    go_wp2_with fail
    go_ret
    have hg3' : ((w.alloc (.cells (row .i64 (zs n)) 2)).alloc (.cells #[] 2)).drew.grownBy w3 (some (w.heap.size + 1)) := hg3
    have hzb : Blk w3 (w.heap.size) 2 .i64 (zs n) := (hg3'.block (w.heap.size) (by simp; omega) (by simp)).trans (by show (World.alloc _ _).heap[_]? = _; rw [alloc_get, if_neg (by simp), alloc_get, if_pos rfl])
    exact rtNew_close hl'.out d3 (by omega) hc3 hown3 r3 hzb (by omega) (fun h => by
      rw [h] at hat3
      rcases hat3 with e | e
      · have e' : some (w.heap.size) = some (w.heap.size + 1) := e
        injection e' with e'
        omega
      · injection e with e
        simp at e; omega)
end Go.Proofs.Ytgeahfkhfpdlhaa
