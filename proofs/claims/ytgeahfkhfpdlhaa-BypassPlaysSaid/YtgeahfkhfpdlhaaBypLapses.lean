/- Layer 15: the law BypassLapses, walked. -/
import Derived.Test.YtgeahfkhfpdlhaaBypHead
namespace Go.Proofs.Ytgeahfkhfpdlhaa
open Go.RowKit

theorem lapse_again (E : List Int) (now : Int) : lapseL (lapseE E now) now = [] := by
  refine List.eq_nil_iff_forall_not_mem.2 fun i h => ?_
  obtain ⟨h0, h1⟩ := (lapse_mem _ _ _).1 h
  rw [← lapse_until] at h0 h1
  by_cases hm : i ∈ lapseL E now
  · rw [if_pos hm] at h0; omega
  · rw [if_neg hm] at h0 h1
    exact hm ((lapse_mem E now i).2 ⟨h0, h1⟩)
theorem lapse_take (xs : List Int) (now : Int) (k : Nat) (hk : k < xs.length) :
    lapseL (xs.take (k + 1)) now = lapseL (xs.take k) now ++ (if 0 < xs.getD k 0 ∧ xs.getD k 0 ≤ now then [(k : Int)] else []) := by
  unfold lapseL
  rw [List.length_take, List.length_take, Nat.min_eq_left (by omega), Nat.min_eq_left (by omega), List.range_succ, List.filter_append, List.map_append]
  congr 1
  · congr 1
    apply List.filter_congr
    intro j hj
    have := List.mem_range.1 hj
    rw [List.getD_eq_getElem?_getD, List.getD_eq_getElem?_getD, List.getElem?_take_of_lt (by omega), List.getElem?_take_of_lt (by omega)]
  · have e : (xs.take (k + 1)).getD k 0 = xs.getD k 0 := by rw [List.getD_eq_getElem?_getD, List.getD_eq_getElem?_getD, List.getElem?_take_of_lt (by omega)]
    simp only [List.filter_cons, List.filter_nil]
    rw [e]
    by_cases h : 0 < xs.getD k 0 ∧ xs.getD k 0 ≤ now
    · rw [if_pos h, if_pos (by simp only [Bool.and_eq_true, decide_eq_true_eq]; exact h)]; rfl
    · rw [if_neg h, if_neg (by simp only [Bool.and_eq_true, decide_eq_true_eq]; exact h)]; rfl
theorem any_take (xs : List Int) (k : Nat) (hk : k < xs.length) : (xs.take (k + 1)).any wrongE = ((xs.take k).any wrongE || wrongE (xs.getD k 0)) := by
  rw [List.take_succ_eq_append_getElem hk, List.any_append, List.getD_eq_getElem?_getD, List.getElem?_eq_getElem hk]
  simp
set_option maxRecDepth 100000 in
set_option maxHeartbeats 6400000 in
theorem bypassLapses_any (A : Option Addr) (n c : Nat) (xs : List Int) (now : Int) (w : World) (hx : RdI w w.heap.size .i64 A n xs) (hn : n * 8 ≤ 140737488351232) :
    Calls Try.prog 10 #[.slice A n c, .int .i64 now] w fun e w' => e = .returned (.bool true) ∧ Ext w w' := by
  have hx' := Lib.hid hx
  have hl' := Lib.hid hx.len
  clear hx
  have hmk := fun w => run_mkI Try.underlying61 info_i64 (n : Int) n rfl (by omega) (by omega) w
  go_enter Try.func10, Try.ntmps10
  go_wp2_with fail
  refine (bypHead_any w).mono ?_
  rintro e w0 ⟨rfl, E0⟩
  go_wp2_with fail
  have X0 := (Ext.refl w0).goA (.cells (row .i64 (zs n)) 2)
  have hz := RdI.new (w := w0) (e := 2) (k := .i64) (zs n) rfl rfl (zs_length n)
  refine (bypNew_any _ n n (zs n) _ (hz.more (by simp)) hn).mono ?_
  rintro e w1 ⟨g, gl, gm, rfl, T1, E1, hg, hgl, hgm⟩
  have E01 := (E0.go X0).go E1
  have hgm' : w.heap.size ≤ gm := by simp at hgm; have := E0.size; omega
  rw [zs_length] at T1
  have T1' := Lib.hid T1
  have hgl1 := T1.old (.inr (.inr rfl))
  clear T1 hg hgl hgm E1 E0 X0 hz hmk
  by_cases hbig : 300 < n
  · have t1 : decide (300 < (n : Int)) = true := by simp; omega
    go_wp2_with fail
    go_ret
    exact ⟨rfl, E01⟩
  have t1 : decide (300 < (n : Int)) = false := by simp; omega
  have hne : 0 < n → ∀ b o, A = some ⟨b, o, none⟩ → b ≠ gm := fun h0 b o e => by have := hx'.out.lt_of h0 e; omega
  have hload := bypLoad_any g gl gm 0 (zs n) (zs n) A n c xs w1 T1'.out (hx'.out.ext E01) (by omega) hne
  have hlb : loadB (zs n).length xs = !xs.any wrongE := by unfold loadB; rw [zs_length, hl'.out]; simp
  rw [hlb] at hload
  have hat := any_take xs
  have hlt' := lapse_take xs now
  have hla := lapse_again xs now
  cases hw : xs.any wrongE
  · rw [hw, Bool.not_false, if_pos rfl] at hload
    have hr := wrong_range hw
    have hload' := Lib.hid hload
    have hr' := Lib.hid hr
    have hlt2 := Lib.hid hlt'
    have hla' := Lib.hid hla
    clear hload hr hlt' hla hat hlb hw
    go_wp2_with fail
    refine hload'.out.mono ?_
    rintro e w2 ⟨rfl, T2, M2⟩
    have T2' := Lib.hid T2
    have E2 := E01.goM M2 (fun i hi => by omega)
    have hs2 : gm < w2.heap.size := by have := M2.size; omega
    have hg2 := T2.old (.inl rfl)
    have hl2 := T2.old (.inr (.inl rfl))
    clear T2 M2 hload'
    go_wp2_with fail
    go_loopw [9, 10] (fun u i wr => ∃ k : Nat, k ≤ n ∧ i = .int .i64 k ∧ wr.ownsRow w2.heap.size 3 1 u (lapseL (xs.take k) now).length ((lapseL (xs.take k) now).map (Value.int .i64)) ∧ Ext w2 wr) (fun _ i _ => n - (intOf i).toNat)
    case atStart => exact ⟨0, by omega, rfl, World.ownsRow_nil w2 w2.heap.size 3 1, Ext.refl _⟩
    case round =>
      obtain ⟨k, hk, rfl, own, hE⟩ := hrel
      have own' := Lib.hid own
      clear own
      by_cases hlt : k < n
      · obtain ⟨b, o, rfl, hb, hc0⟩ := hx'.out.at_ hlt
        have hcE : Hid (∀ w', Ext w w' → w'.cell? ⟨b, o + k, none⟩ = some (.int .i64 (xs.getD k 0))) := Lib.hid (fun w' D => (D.cell (o + k) hb).trans hc0)
        have hst := hlt2.out k (by rw [hl'.out]; exact hlt)
        have hxr := hr'.out k
        rw [← List.getD_eq_getElem?_getD] at hxr
        have hu := untilE_of xs k
        have hlen := lapse_length (xs.take k) now
        rw [List.length_take] at hlen
        have hEw := E2.go hE
        have hTb := T2'.out.ext hE
        generalize xs.getD k 0 = x at *
        have hst' := Lib.hid hst
        have hTb' := Lib.hid hTb
        have hiv : isB xs (k : Int) now = (decide (0 < x) && decide (now < x)) := by
          unfold isB
          rw [hu]
          by_cases h0 : x = 0
          · subst h0; rfl
          · have h1 : 0 < x := by omega
            have h2 : (x != 0) = true := by simp; exact h0
            rw [h2, decide_eq_true h1]
        have hiv' := Lib.hid hiv
        have wk := Lib.hid (WalkArith.wf_i64 (n := (k : Int)) ⟨by omega, by omega⟩)
        clear hst hTb hu hc0 hiv
        by_cases hx0 : 0 < x
        · have f1 : decide (0 < x) = true := by simp; omega
          by_cases hx1 : x ≤ now
          · have f2 : decide (x ≤ now) = true := by simp; omega
            have f3 : decide (now < x) = false := by simp; omega
            have hc1 := hcE.out wr hEw
            go_wp2_with (at_builtin; refine wpList_appI rfl (.tmp 78) (.tmp 80) _ rfl Try.underlying71 info_int (own'.out.alloc _) rfl (RdI.one _ _ _ _) rfl (by omega) (by omega) (by have := hE.size; simp; omega) ?_; intro v' w3 hown3 hg3 hat3)
            have E3 : Ext w2 w3 := (hE.goA _).goG hg3 (fun i hi => (own'.out.lt i hi).1)
            have hTb3 := Lib.hid (T2'.out.ext E3)
            have hE3 := E2.go E3
            have hown3' := Lib.hid hown3
            clear hown3 hg3 hc1
            have d0 : Ext w3 w3.drew := (Ext.refl _).god
            have hci : ∀ w', Ext w3 w' → w'.cell? ⟨b, o + k, none⟩ = some (.int .i64 x) := fun w' D => hcE.out w' (hE3.go D)
            refine wp_region_held_drew (S := fun w' => Ext w3 w') (by kernel_rfl) d0 (fun hHeld => ?_)
            refine wpAnyH_take (i := 0) (oi := _) (v := ?_) rfl (by kernel_rfl) (by kernel_rfl) (by kernel_rfl) (fun _ _ _ h => h) (Or.inl ⟨by rfl, ?_⟩) (by assumption) ?_
            rotate_left
            · intro w hSw
              (try dsimp only at hSw)
              go_simp
              try (with_reducible rfl)
            try simp only [Act.put, List.getElem_toArray, List.getElem_cons_zero, List.setIfInBounds_toArray, List.set_cons_zero, List.set_cons_succ]
            refine wpAnyH_take (i := 1) (oi := _) (v := ?_) rfl (by kernel_rfl) (by kernel_rfl) (by kernel_rfl) (fun _ _ _ h => h) (Or.inl ⟨by rfl, ?_⟩) (by assumption) ?_
            rotate_left
            · intro w hSw
              (try dsimp only at hSw)
              go_simp
              try (with_reducible rfl)
            try simp only [Act.put, List.getElem_toArray, List.getElem_cons_succ, List.getElem_cons_zero, List.setIfInBounds_toArray, List.set_cons_zero, List.set_cons_succ]
            refine wpAnyH_take (i := 2) (oi := _) (v := ?_) rfl (by kernel_rfl) (by kernel_rfl) (by kernel_rfl) (fun _ _ _ h => h) (Or.inl ⟨by rfl, ?_⟩) (by assumption) ?_
            rotate_left
            · intro w hSw
              (try dsimp only at hSw)
              go_simp
              try (with_reducible rfl)
            try simp only [Act.put, List.getElem_toArray, List.getElem_cons_succ, List.getElem_cons_zero, List.setIfInBounds_toArray, List.set_cons_zero, List.set_cons_succ]
            refine wpAnyH_take (i := 4) (oi := _) (v := ?_) rfl (by kernel_rfl) (by kernel_rfl) (by kernel_rfl) (fun _ _ _ h => h) (Or.inl ⟨by rfl, ?_⟩) (by assumption) ?_
            rotate_left
            · intro w hSw
              (try dsimp only at hSw)
              go_simp
              try (with_reducible rfl)
            try simp only [Act.put, List.getElem_toArray, List.getElem_cons_succ, List.getElem_cons_zero, List.setIfInBounds_toArray, List.set_cons_zero, List.set_cons_succ]
            refine wpAnyH_take (i := 5) (oi := _) (v := ?_) rfl (by kernel_rfl) (by kernel_rfl) (by kernel_rfl) (fun _ _ _ h => h) (Or.inl ⟨by rfl, ?_⟩) (by assumption) ?_
            rotate_left
            · intro w hSw
              (try dsimp only at hSw)
              go_simp
              try (with_reducible rfl)
            try simp only [Act.put, List.getElem_toArray, List.getElem_cons_succ, List.getElem_cons_zero, List.setIfInBounds_toArray, List.set_cons_zero, List.set_cons_succ]
            refine wpAnyH_take (i := 6) (oi := _) (v := ?_) rfl (by kernel_rfl) (by kernel_rfl) (by kernel_rfl) (fun _ _ _ h => h) (Or.inl ⟨by rfl, ?_⟩) (by assumption) ?_
            rotate_left
            · intro w hSw
              (try dsimp only at hSw)
              go_simp
              try (with_reducible rfl)
            try simp only [Act.put, List.getElem_toArray, List.getElem_cons_succ, List.getElem_cons_zero, List.setIfInBounds_toArray, List.set_cons_zero, List.set_cons_succ]
            refine wpAnyH_take (i := 7) (oi := _) (v := ?_) rfl (by kernel_rfl) (by kernel_rfl) (by kernel_rfl) (fun _ _ _ h => h) (Or.inl ⟨by rfl, ?_⟩) (by assumption) ?_
            rotate_left
            · intro w hSw
              (try dsimp only at hSw)
              go_simp
              try (with_reducible rfl)
            try simp only [Act.put, List.getElem_toArray, List.getElem_cons_succ, List.getElem_cons_zero, List.setIfInBounds_toArray, List.set_cons_zero, List.set_cons_succ]
            refine wpAnyH_take (i := 8) (oi := _) (v := ?_) rfl (by kernel_rfl) (by kernel_rfl) (by kernel_rfl) (fun _ _ _ h => h) (Or.inl ⟨by rfl, ?_⟩) (by assumption) ?_
            rotate_left
            · intro w hSw
              (try dsimp only at hSw)
              go_simp
              try (with_reducible rfl)
            try simp only [Act.put, List.getElem_toArray, List.getElem_cons_succ, List.getElem_cons_zero, List.setIfInBounds_toArray, List.set_cons_zero, List.set_cons_succ]
            refine wpAnyH_ready (rs := [3]) (by kernel_rfl) (by simp) ?_
            refine AllReadyH.cons rfl (fun K hK => ?_) ?_
            rotate_left
            · exact AllReadyH.nil
            go_simp
            go_at_call 49
            refine (bypIs_any g gl gm _ (zs n) xs (k : Int) now _ (hTb3.out.ext d0) wk.out).mono ?_
            rw [hiv'.out, f1, f3]
            rintro e w5 ⟨rfl, rfl⟩
            try dsimp only
            refine hK.out _ _ ?_ (fun hHeld => ?_)
            · first | assumption | (dsimp only; assumption)
            clear hK K
            try simp only [Act.put, List.getElem_toArray, List.getElem_cons_succ, List.getElem_cons_zero, List.setIfInBounds_toArray, List.set_cons_zero, List.set_cons_succ]
            refine wpAnyH_take (i := 9) (oi := _) (v := ?_) rfl (by kernel_rfl) (by kernel_rfl) (by kernel_rfl) (fun _ _ _ h => h) (Or.inl ⟨by rfl, ?_⟩) (by assumption) ?_
            rotate_left
            · intro w hSw
              (try dsimp only at hSw)
              go_simp
              try (with_reducible rfl)
            try simp only [Act.put, List.getElem_toArray, List.getElem_cons_succ, List.getElem_cons_zero, List.setIfInBounds_toArray, List.set_cons_zero, List.set_cons_succ]
            refine wpAnyH_take (i := 10) (oi := _) (v := ?_) rfl (by kernel_rfl) (by kernel_rfl) (by kernel_rfl) (fun _ _ _ h => h) (Or.inl ⟨by rfl, ?_⟩) (by assumption) ?_
            rotate_left
            · intro w hSw
              (try dsimp only at hSw)
              go_simp
              try (with_reducible rfl)
            try simp only [Act.put, List.getElem_toArray, List.getElem_cons_succ, List.getElem_cons_zero, List.setIfInBounds_toArray, List.set_cons_zero, List.set_cons_succ]
            refine wpAnyH_take (i := 11) (oi := _) (v := ?_) rfl (by kernel_rfl) (by kernel_rfl) (by kernel_rfl) (fun _ _ _ h => h) (Or.inl ⟨by rfl, ?_⟩) (by assumption) ?_
            rotate_left
            · intro w hSw
              (try dsimp only at hSw)
              go_simp
              try (with_reducible rfl)
            try simp only [Act.put, List.getElem_toArray, List.getElem_cons_succ, List.getElem_cons_zero, List.setIfInBounds_toArray, List.set_cons_zero, List.set_cons_succ]
            refine wpAnyH_take (i := 12) (oi := _) (v := ?_) rfl (by kernel_rfl) (by kernel_rfl) (by kernel_rfl) (fun _ _ _ h => h) (Or.inl ⟨by rfl, ?_⟩) (by assumption) ?_
            rotate_left
            · intro w hSw
              (try dsimp only at hSw)
              go_simp
              try (with_reducible rfl)
            try simp only [Act.put, List.getElem_toArray, List.getElem_cons_succ, List.getElem_cons_zero, List.setIfInBounds_toArray, List.set_cons_zero, List.set_cons_succ]
            refine wpAnyH_take (i := 13) (oi := _) (v := ?_) rfl (by kernel_rfl) (by kernel_rfl) (by kernel_rfl) (fun _ _ _ h => h) (Or.inl ⟨by rfl, ?_⟩) (by assumption) ?_
            rotate_left
            · intro w hSw
              (try dsimp only at hSw)
              go_simp
              try (with_reducible rfl)
            try simp only [Act.put, List.getElem_toArray, List.getElem_cons_succ, List.getElem_cons_zero, List.setIfInBounds_toArray, List.set_cons_zero, List.set_cons_succ]
            refine wpAnyH_take (i := 14) (oi := _) (v := ?_) rfl (by kernel_rfl) (by kernel_rfl) (by kernel_rfl) (fun _ _ _ h => h) (Or.inl ⟨by rfl, ?_⟩) (by assumption) ?_
            rotate_left
            · intro w hSw
              (try dsimp only at hSw)
              go_simp
              try (with_reducible rfl)
            try simp only [Act.put, List.getElem_toArray, List.getElem_cons_succ, List.getElem_cons_zero, List.setIfInBounds_toArray, List.set_cons_zero, List.set_cons_succ]
            refine wpAnyH_take (i := 15) (oi := _) (v := ?_) rfl (by kernel_rfl) (by kernel_rfl) (by kernel_rfl) (fun _ _ _ h => h) (Or.inl ⟨by rfl, ?_⟩) (by assumption) ?_
            rotate_left
            · intro w hSw
              (try dsimp only at hSw)
              go_simp
              try (with_reducible rfl)
            try simp only [Act.put, List.getElem_toArray, List.getElem_cons_succ, List.getElem_cons_zero, List.setIfInBounds_toArray, List.set_cons_zero, List.set_cons_succ]
            refine wpAnyH_take (i := 16) (oi := _) (v := ?_) rfl (by kernel_rfl) (by kernel_rfl) (by kernel_rfl) (fun _ _ _ h => h) (Or.inl ⟨by rfl, ?_⟩) (by assumption) ?_
            rotate_left
            · intro w hSw
              (try dsimp only at hSw)
              go_simp
              try (with_reducible rfl)
            try simp only [Act.put, List.getElem_toArray, List.getElem_cons_succ, List.getElem_cons_zero, List.setIfInBounds_toArray, List.set_cons_zero, List.set_cons_succ]
            refine wpAnyH_take (i := 17) (oi := _) (v := ?_) rfl (by kernel_rfl) (by kernel_rfl) (by kernel_rfl) (fun _ _ _ h => h) (Or.inl ⟨by rfl, ?_⟩) (by assumption) ?_
            rotate_left
            · intro w hSw
              (try dsimp only at hSw)
              go_simp
              try (with_reducible rfl)
            try simp only [Act.put, List.getElem_toArray, List.getElem_cons_succ, List.getElem_cons_zero, List.setIfInBounds_toArray, List.set_cons_zero, List.set_cons_succ]
            refine wpAnyH_done (by kernel_rfl) ?_ _
            clear hci
            go_wp2_with fail
            go_roundw
            case rel =>
              refine ⟨k + 1, by omega, by go_num, ?_, E3.god⟩
              rw [hst'.out, if_pos ⟨hx0, hx1⟩, List.length_append]
              exact own_ext hown3'.out ((Ext.refl _).god)
            case measure => simp [intOf]; omega
          · have f2 : decide (x ≤ now) = false := by simp; omega
            have f3 : decide (now < x) = true := by simp; omega
            have hc1 := hcE.out wr hEw
            go_wp2_with fail
            clear hc1
            have d0 : Ext wr wr.drew := (Ext.refl _).god
            have hci : ∀ w', Ext wr w' → w'.cell? ⟨b, o + k, none⟩ = some (.int .i64 x) := fun w' D => hcE.out w' (hEw.go D)
            refine wp_region_held_drew (S := fun w' => Ext wr w') (by kernel_rfl) d0 (fun hHeld => ?_)
            refine wpAnyH_take (i := 0) (oi := _) (v := ?_) rfl (by kernel_rfl) (by kernel_rfl) (by kernel_rfl) (fun _ _ _ h => h) (Or.inl ⟨by rfl, ?_⟩) (by assumption) ?_
            rotate_left
            · intro w hSw
              (try dsimp only at hSw)
              go_simp
              try (with_reducible rfl)
            try simp only [Act.put, List.getElem_toArray, List.getElem_cons_zero, List.setIfInBounds_toArray, List.set_cons_zero, List.set_cons_succ]
            refine wpAnyH_take (i := 1) (oi := _) (v := ?_) rfl (by kernel_rfl) (by kernel_rfl) (by kernel_rfl) (fun _ _ _ h => h) (Or.inl ⟨by rfl, ?_⟩) (by assumption) ?_
            rotate_left
            · intro w hSw
              (try dsimp only at hSw)
              go_simp
              try (with_reducible rfl)
            try simp only [Act.put, List.getElem_toArray, List.getElem_cons_succ, List.getElem_cons_zero, List.setIfInBounds_toArray, List.set_cons_zero, List.set_cons_succ]
            refine wpAnyH_take (i := 2) (oi := _) (v := ?_) rfl (by kernel_rfl) (by kernel_rfl) (by kernel_rfl) (fun _ _ _ h => h) (Or.inl ⟨by rfl, ?_⟩) (by assumption) ?_
            rotate_left
            · intro w hSw
              (try dsimp only at hSw)
              go_simp
              try (with_reducible rfl)
            try simp only [Act.put, List.getElem_toArray, List.getElem_cons_succ, List.getElem_cons_zero, List.setIfInBounds_toArray, List.set_cons_zero, List.set_cons_succ]
            refine wpAnyH_take (i := 4) (oi := _) (v := ?_) rfl (by kernel_rfl) (by kernel_rfl) (by kernel_rfl) (fun _ _ _ h => h) (Or.inl ⟨by rfl, ?_⟩) (by assumption) ?_
            rotate_left
            · intro w hSw
              (try dsimp only at hSw)
              go_simp
              try (with_reducible rfl)
            try simp only [Act.put, List.getElem_toArray, List.getElem_cons_succ, List.getElem_cons_zero, List.setIfInBounds_toArray, List.set_cons_zero, List.set_cons_succ]
            refine wpAnyH_take (i := 5) (oi := _) (v := ?_) rfl (by kernel_rfl) (by kernel_rfl) (by kernel_rfl) (fun _ _ _ h => h) (Or.inl ⟨by rfl, ?_⟩) (by assumption) ?_
            rotate_left
            · intro w hSw
              (try dsimp only at hSw)
              go_simp
              try (with_reducible rfl)
            try simp only [Act.put, List.getElem_toArray, List.getElem_cons_succ, List.getElem_cons_zero, List.setIfInBounds_toArray, List.set_cons_zero, List.set_cons_succ]
            refine wpAnyH_take (i := 6) (oi := _) (v := ?_) rfl (by kernel_rfl) (by kernel_rfl) (by kernel_rfl) (fun _ _ _ h => h) (Or.inl ⟨by rfl, ?_⟩) (by assumption) ?_
            rotate_left
            · intro w hSw
              (try dsimp only at hSw)
              go_simp
              try (with_reducible rfl)
            try simp only [Act.put, List.getElem_toArray, List.getElem_cons_succ, List.getElem_cons_zero, List.setIfInBounds_toArray, List.set_cons_zero, List.set_cons_succ]
            refine wpAnyH_take (i := 7) (oi := _) (v := ?_) rfl (by kernel_rfl) (by kernel_rfl) (by kernel_rfl) (fun _ _ _ h => h) (Or.inl ⟨by rfl, ?_⟩) (by assumption) ?_
            rotate_left
            · intro w hSw
              (try dsimp only at hSw)
              go_simp
              try (with_reducible rfl)
            try simp only [Act.put, List.getElem_toArray, List.getElem_cons_succ, List.getElem_cons_zero, List.setIfInBounds_toArray, List.set_cons_zero, List.set_cons_succ]
            refine wpAnyH_take (i := 8) (oi := _) (v := ?_) rfl (by kernel_rfl) (by kernel_rfl) (by kernel_rfl) (fun _ _ _ h => h) (Or.inl ⟨by rfl, ?_⟩) (by assumption) ?_
            rotate_left
            · intro w hSw
              (try dsimp only at hSw)
              go_simp
              try (with_reducible rfl)
            try simp only [Act.put, List.getElem_toArray, List.getElem_cons_succ, List.getElem_cons_zero, List.setIfInBounds_toArray, List.set_cons_zero, List.set_cons_succ]
            refine wpAnyH_ready (rs := [3]) (by kernel_rfl) (by simp) ?_
            refine AllReadyH.cons rfl (fun K hK => ?_) ?_
            rotate_left
            · exact AllReadyH.nil
            go_simp
            go_at_call 49
            refine (bypIs_any g gl gm _ (zs n) xs (k : Int) now _ (hTb'.out.ext d0) wk.out).mono ?_
            rw [hiv'.out, f1, f3]
            rintro e w5 ⟨rfl, rfl⟩
            try dsimp only
            refine hK.out _ _ ?_ (fun hHeld => ?_)
            · first | assumption | (dsimp only; assumption)
            clear hK K
            try simp only [Act.put, List.getElem_toArray, List.getElem_cons_succ, List.getElem_cons_zero, List.setIfInBounds_toArray, List.set_cons_zero, List.set_cons_succ]
            refine wpAnyH_take (i := 9) (oi := _) (v := ?_) rfl (by kernel_rfl) (by kernel_rfl) (by kernel_rfl) (fun _ _ _ h => h) (Or.inl ⟨by rfl, ?_⟩) (by assumption) ?_
            rotate_left
            · intro w hSw
              (try dsimp only at hSw)
              go_simp
              try (with_reducible rfl)
            try simp only [Act.put, List.getElem_toArray, List.getElem_cons_succ, List.getElem_cons_zero, List.setIfInBounds_toArray, List.set_cons_zero, List.set_cons_succ]
            refine wpAnyH_take (i := 10) (oi := _) (v := ?_) rfl (by kernel_rfl) (by kernel_rfl) (by kernel_rfl) (fun _ _ _ h => h) (Or.inl ⟨by rfl, ?_⟩) (by assumption) ?_
            rotate_left
            · intro w hSw
              (try dsimp only at hSw)
              go_simp
              try (with_reducible rfl)
            try simp only [Act.put, List.getElem_toArray, List.getElem_cons_succ, List.getElem_cons_zero, List.setIfInBounds_toArray, List.set_cons_zero, List.set_cons_succ]
            refine wpAnyH_take (i := 11) (oi := _) (v := ?_) rfl (by kernel_rfl) (by kernel_rfl) (by kernel_rfl) (fun _ _ _ h => h) (Or.inl ⟨by rfl, ?_⟩) (by assumption) ?_
            rotate_left
            · intro w hSw
              (try dsimp only at hSw)
              go_simp
              try (with_reducible rfl)
            try simp only [Act.put, List.getElem_toArray, List.getElem_cons_succ, List.getElem_cons_zero, List.setIfInBounds_toArray, List.set_cons_zero, List.set_cons_succ]
            refine wpAnyH_take (i := 12) (oi := _) (v := ?_) rfl (by kernel_rfl) (by kernel_rfl) (by kernel_rfl) (fun _ _ _ h => h) (Or.inl ⟨by rfl, ?_⟩) (by assumption) ?_
            rotate_left
            · intro w hSw
              (try dsimp only at hSw)
              go_simp
              try (with_reducible rfl)
            try simp only [Act.put, List.getElem_toArray, List.getElem_cons_succ, List.getElem_cons_zero, List.setIfInBounds_toArray, List.set_cons_zero, List.set_cons_succ]
            refine wpAnyH_take (i := 13) (oi := _) (v := ?_) rfl (by kernel_rfl) (by kernel_rfl) (by kernel_rfl) (fun _ _ _ h => h) (Or.inl ⟨by rfl, ?_⟩) (by assumption) ?_
            rotate_left
            · intro w hSw
              (try dsimp only at hSw)
              go_simp
              try (with_reducible rfl)
            try simp only [Act.put, List.getElem_toArray, List.getElem_cons_succ, List.getElem_cons_zero, List.setIfInBounds_toArray, List.set_cons_zero, List.set_cons_succ]
            refine wpAnyH_take (i := 14) (oi := _) (v := ?_) rfl (by kernel_rfl) (by kernel_rfl) (by kernel_rfl) (fun _ _ _ h => h) (Or.inl ⟨by rfl, ?_⟩) (by assumption) ?_
            rotate_left
            · intro w hSw
              (try dsimp only at hSw)
              go_simp
              try (with_reducible rfl)
            try simp only [Act.put, List.getElem_toArray, List.getElem_cons_succ, List.getElem_cons_zero, List.setIfInBounds_toArray, List.set_cons_zero, List.set_cons_succ]
            refine wpAnyH_take (i := 15) (oi := _) (v := ?_) rfl (by kernel_rfl) (by kernel_rfl) (by kernel_rfl) (fun _ _ _ h => h) (Or.inl ⟨by rfl, ?_⟩) (by assumption) ?_
            rotate_left
            · intro w hSw
              (try dsimp only at hSw)
              go_simp
              try (with_reducible rfl)
            try simp only [Act.put, List.getElem_toArray, List.getElem_cons_succ, List.getElem_cons_zero, List.setIfInBounds_toArray, List.set_cons_zero, List.set_cons_succ]
            refine wpAnyH_take (i := 16) (oi := _) (v := ?_) rfl (by kernel_rfl) (by kernel_rfl) (by kernel_rfl) (fun _ _ _ h => h) (Or.inl ⟨by rfl, ?_⟩) (by assumption) ?_
            rotate_left
            · intro w hSw
              (try dsimp only at hSw)
              go_simp
              try (with_reducible rfl)
            try simp only [Act.put, List.getElem_toArray, List.getElem_cons_succ, List.getElem_cons_zero, List.setIfInBounds_toArray, List.set_cons_zero, List.set_cons_succ]
            refine wpAnyH_take (i := 17) (oi := _) (v := ?_) rfl (by kernel_rfl) (by kernel_rfl) (by kernel_rfl) (fun _ _ _ h => h) (Or.inl ⟨by rfl, ?_⟩) (by assumption) ?_
            rotate_left
            · intro w hSw
              (try dsimp only at hSw)
              go_simp
              try (with_reducible rfl)
            try simp only [Act.put, List.getElem_toArray, List.getElem_cons_succ, List.getElem_cons_zero, List.setIfInBounds_toArray, List.set_cons_zero, List.set_cons_succ]
            refine wpAnyH_done (by kernel_rfl) ?_ _
            clear hci
            go_wp2_with fail
            go_roundw
            case rel =>
              refine ⟨k + 1, by omega, by go_num, ?_, hE.god⟩
              rw [hst'.out, if_neg (fun h => by omega), List.append_nil]
              exact own_ext own'.out ((Ext.refl _).god)
            case measure => simp [intOf]; omega
        · have f1 : decide (0 < x) = false := by simp; omega
          have hc1 := hcE.out wr hEw
          go_wp2_with fail
          clear hc1
          have d0 : Ext wr wr.drew := (Ext.refl _).god
          have hci : ∀ w', Ext wr w' → w'.cell? ⟨b, o + k, none⟩ = some (.int .i64 x) := fun w' D => hcE.out w' (hEw.go D)
          refine wp_region_held_drew (S := fun w' => Ext wr w') (by kernel_rfl) d0 (fun hHeld => ?_)
          refine wpAnyH_take (i := 0) (oi := _) (v := ?_) rfl (by kernel_rfl) (by kernel_rfl) (by kernel_rfl) (fun _ _ _ h => h) (Or.inl ⟨by rfl, ?_⟩) (by assumption) ?_
          rotate_left
          · intro w hSw
            (try dsimp only at hSw)
            go_simp
            try (with_reducible rfl)
          try simp only [Act.put, List.getElem_toArray, List.getElem_cons_zero, List.setIfInBounds_toArray, List.set_cons_zero, List.set_cons_succ]
          refine wpAnyH_take (i := 1) (oi := _) (v := ?_) rfl (by kernel_rfl) (by kernel_rfl) (by kernel_rfl) (fun _ _ _ h => h) (Or.inl ⟨by rfl, ?_⟩) (by assumption) ?_
          rotate_left
          · intro w hSw
            (try dsimp only at hSw)
            go_simp
            try (with_reducible rfl)
          try simp only [Act.put, List.getElem_toArray, List.getElem_cons_succ, List.getElem_cons_zero, List.setIfInBounds_toArray, List.set_cons_zero, List.set_cons_succ]
          refine wpAnyH_take (i := 2) (oi := _) (v := ?_) rfl (by kernel_rfl) (by kernel_rfl) (by kernel_rfl) (fun _ _ _ h => h) (Or.inl ⟨by rfl, ?_⟩) (by assumption) ?_
          rotate_left
          · intro w hSw
            (try dsimp only at hSw)
            go_simp
            try (with_reducible rfl)
          try simp only [Act.put, List.getElem_toArray, List.getElem_cons_succ, List.getElem_cons_zero, List.setIfInBounds_toArray, List.set_cons_zero, List.set_cons_succ]
          refine wpAnyH_take (i := 4) (oi := _) (v := ?_) rfl (by kernel_rfl) (by kernel_rfl) (by kernel_rfl) (fun _ _ _ h => h) (Or.inl ⟨by rfl, ?_⟩) (by assumption) ?_
          rotate_left
          · intro w hSw
            (try dsimp only at hSw)
            go_simp
            try (with_reducible rfl)
          try simp only [Act.put, List.getElem_toArray, List.getElem_cons_succ, List.getElem_cons_zero, List.setIfInBounds_toArray, List.set_cons_zero, List.set_cons_succ]
          refine wpAnyH_take (i := 5) (oi := _) (v := ?_) rfl (by kernel_rfl) (by kernel_rfl) (by kernel_rfl) (fun _ _ _ h => h) (Or.inl ⟨by rfl, ?_⟩) (by assumption) ?_
          rotate_left
          · intro w hSw
            (try dsimp only at hSw)
            go_simp
            try (with_reducible rfl)
          try simp only [Act.put, List.getElem_toArray, List.getElem_cons_succ, List.getElem_cons_zero, List.setIfInBounds_toArray, List.set_cons_zero, List.set_cons_succ]
          refine wpAnyH_take (i := 6) (oi := _) (v := ?_) rfl (by kernel_rfl) (by kernel_rfl) (by kernel_rfl) (fun _ _ _ h => h) (Or.inl ⟨by rfl, ?_⟩) (by assumption) ?_
          rotate_left
          · intro w hSw
            (try dsimp only at hSw)
            go_simp
            try (with_reducible rfl)
          try simp only [Act.put, List.getElem_toArray, List.getElem_cons_succ, List.getElem_cons_zero, List.setIfInBounds_toArray, List.set_cons_zero, List.set_cons_succ]
          refine wpAnyH_take (i := 7) (oi := _) (v := ?_) rfl (by kernel_rfl) (by kernel_rfl) (by kernel_rfl) (fun _ _ _ h => h) (Or.inl ⟨by rfl, ?_⟩) (by assumption) ?_
          rotate_left
          · intro w hSw
            (try dsimp only at hSw)
            go_simp
            try (with_reducible rfl)
          try simp only [Act.put, List.getElem_toArray, List.getElem_cons_succ, List.getElem_cons_zero, List.setIfInBounds_toArray, List.set_cons_zero, List.set_cons_succ]
          refine wpAnyH_take (i := 8) (oi := _) (v := ?_) rfl (by kernel_rfl) (by kernel_rfl) (by kernel_rfl) (fun _ _ _ h => h) (Or.inl ⟨by rfl, ?_⟩) (by assumption) ?_
          rotate_left
          · intro w hSw
            (try dsimp only at hSw)
            go_simp
            try (with_reducible rfl)
          try simp only [Act.put, List.getElem_toArray, List.getElem_cons_succ, List.getElem_cons_zero, List.setIfInBounds_toArray, List.set_cons_zero, List.set_cons_succ]
          refine wpAnyH_ready (rs := [3]) (by kernel_rfl) (by simp) ?_
          refine AllReadyH.cons rfl (fun K hK => ?_) ?_
          rotate_left
          · exact AllReadyH.nil
          go_simp
          go_at_call 49
          refine (bypIs_any g gl gm _ (zs n) xs (k : Int) now _ (hTb'.out.ext d0) wk.out).mono ?_
          rw [hiv'.out, f1, Bool.false_and]
          rintro e w5 ⟨rfl, rfl⟩
          try dsimp only
          refine hK.out _ _ ?_ (fun hHeld => ?_)
          · first | assumption | (dsimp only; assumption)
          clear hK K
          try simp only [Act.put, List.getElem_toArray, List.getElem_cons_succ, List.getElem_cons_zero, List.setIfInBounds_toArray, List.set_cons_zero, List.set_cons_succ]
          refine wpAnyH_take (i := 9) (oi := _) (v := ?_) rfl (by kernel_rfl) (by kernel_rfl) (by kernel_rfl) (fun _ _ _ h => h) (Or.inl ⟨by rfl, ?_⟩) (by assumption) ?_
          rotate_left
          · intro w hSw
            (try dsimp only at hSw)
            go_simp
            try (with_reducible rfl)
          try simp only [Act.put, List.getElem_toArray, List.getElem_cons_succ, List.getElem_cons_zero, List.setIfInBounds_toArray, List.set_cons_zero, List.set_cons_succ]
          refine wpAnyH_take (i := 10) (oi := _) (v := undef) rfl (by kernel_rfl) (by kernel_rfl) (by kernel_rfl) (fun _ _ _ h => h) (Or.inr ⟨by rfl, rfl⟩) (by assumption) ?_
          try simp only [Act.put, List.getElem_toArray, List.getElem_cons_succ, List.getElem_cons_zero, List.setIfInBounds_toArray, List.set_cons_zero, List.set_cons_succ]
          refine wpAnyH_take (i := 11) (oi := _) (v := undef) rfl (by kernel_rfl) (by kernel_rfl) (by kernel_rfl) (fun _ _ _ h => h) (Or.inr ⟨by rfl, rfl⟩) (by assumption) ?_
          try simp only [Act.put, List.getElem_toArray, List.getElem_cons_succ, List.getElem_cons_zero, List.setIfInBounds_toArray, List.set_cons_zero, List.set_cons_succ]
          refine wpAnyH_take (i := 12) (oi := _) (v := undef) rfl (by kernel_rfl) (by kernel_rfl) (by kernel_rfl) (fun _ _ _ h => h) (Or.inr ⟨by rfl, rfl⟩) (by assumption) ?_
          try simp only [Act.put, List.getElem_toArray, List.getElem_cons_succ, List.getElem_cons_zero, List.setIfInBounds_toArray, List.set_cons_zero, List.set_cons_succ]
          refine wpAnyH_take (i := 13) (oi := _) (v := undef) rfl (by kernel_rfl) (by kernel_rfl) (by kernel_rfl) (fun _ _ _ h => h) (Or.inr ⟨by rfl, rfl⟩) (by assumption) ?_
          try simp only [Act.put, List.getElem_toArray, List.getElem_cons_succ, List.getElem_cons_zero, List.setIfInBounds_toArray, List.set_cons_zero, List.set_cons_succ]
          refine wpAnyH_take (i := 14) (oi := _) (v := undef) rfl (by kernel_rfl) (by kernel_rfl) (by kernel_rfl) (fun _ _ _ h => h) (Or.inr ⟨by rfl, rfl⟩) (by assumption) ?_
          try simp only [Act.put, List.getElem_toArray, List.getElem_cons_succ, List.getElem_cons_zero, List.setIfInBounds_toArray, List.set_cons_zero, List.set_cons_succ]
          refine wpAnyH_take (i := 15) (oi := _) (v := undef) rfl (by kernel_rfl) (by kernel_rfl) (by kernel_rfl) (fun _ _ _ h => h) (Or.inr ⟨by rfl, rfl⟩) (by assumption) ?_
          try simp only [Act.put, List.getElem_toArray, List.getElem_cons_succ, List.getElem_cons_zero, List.setIfInBounds_toArray, List.set_cons_zero, List.set_cons_succ]
          refine wpAnyH_take (i := 16) (oi := _) (v := ?_) rfl (by kernel_rfl) (by kernel_rfl) (by kernel_rfl) (fun _ _ _ h => h) (Or.inl ⟨by rfl, ?_⟩) (by assumption) ?_
          rotate_left
          · intro w hSw
            (try dsimp only at hSw)
            go_simp
            try (with_reducible rfl)
          try simp only [Act.put, List.getElem_toArray, List.getElem_cons_succ, List.getElem_cons_zero, List.setIfInBounds_toArray, List.set_cons_zero, List.set_cons_succ]
          refine wpAnyH_take (i := 17) (oi := _) (v := ?_) rfl (by kernel_rfl) (by kernel_rfl) (by kernel_rfl) (fun _ _ _ h => h) (Or.inl ⟨by rfl, ?_⟩) (by assumption) ?_
          rotate_left
          · intro w hSw
            (try dsimp only at hSw)
            go_simp
            try (with_reducible rfl)
          try simp only [Act.put, List.getElem_toArray, List.getElem_cons_succ, List.getElem_cons_zero, List.setIfInBounds_toArray, List.set_cons_zero, List.set_cons_succ]
          refine wpAnyH_done (by kernel_rfl) ?_ _
          clear hci
          go_wp2_with fail
          go_roundw
          case rel =>
            refine ⟨k + 1, by omega, by go_num, ?_, hE.god⟩
            rw [hst'.out, if_neg (fun h => by omega), List.append_nil]
            exact own_ext own'.out ((Ext.refl _).god)
          case measure => simp [intOf]; omega
      · obtain rfl : k = n := by omega
        have hown := own'.out
        rw [List.take_of_length_le (by rw [hl'.out]; exact Nat.le_refl _)] at hown
        obtain ⟨A3, c3, rfl, ⟨hc1, hc2⟩, hr3⟩ := own_rd hown
        have hfr : ∀ b o, A3 = some ⟨b, o, none⟩ → w2.heap.size ≤ b := fun b o e => by subst e; exact (hown.lt b rfl).1
        have T3' := Lib.hid (T2'.out.ext hE)
        have E3 := E2.go hE
        have hr3' := Lib.hid hr3
        have hll := lapse_length xs now
        have hll2 := hl'.out
        generalize hL : (lapseL xs now).length = m at *
        have hL' := Lib.hid hL
        clear hown hr3 own' hL
        go_wp2_with fail
        refine (bypLapse_any g gl gm _ _ xs now wr T3'.out (by omega)).mono ?_
        rintro e w4 ⟨A4, n4, c4, rfl, g4, g4', r4, fr4, T4, M4⟩
        have E4 := E3.goM M4 (fun i hi => by omega)
        have r4' := Lib.hid r4
        have T4' := Lib.hid T4
        have r34 := Lib.hid (hr3'.out.turned M4 (fun b o e h => by have := hfr b o e; omega))
        have hs4 := M4.size
        have hsw := hE.size
        clear r4 T4 M4
        go_wp2_with fail
        refine (bypLapse_any g gl gm _ _ _ now w4 T4'.out (by omega)).mono ?_
        rintro e w5 ⟨A5, n5, c5, rfl, g5, g5', r5, fr5, T5, M5⟩
        rw [hla'.out] at r5
        obtain rfl : n5 = 0 := r5.len.symm
        have E5 := E4.goM M5 (fun i hi => by omega)
        have r45 := r4'.out.turned M5 (fun b o e h => by have := fr4 b o e; omega)
        have r35 := r34.out.turned M5 (fun b o e h => by have := hfr b o e; omega)
        clear r5 T5 M5
        go_wp2_with fail
        refine (sameInts_any A4 A3 n4 c4 m c3 _ _ _ w5 r45 r35 (Nat.le_trans g4 g4') (Nat.le_trans hc1 hc2)).mono ?_
        rw [show decide (lapseL xs now = lapseL xs now) = true from by simp]
        rintro e w6 ⟨rfl, m6, rfl⟩
        go_wp2_with fail
        go_ret
        exact ⟨rfl, E5.goD m6⟩
  · rw [hw, Bool.not_true] at hload
    have hload' := Lib.hid hload
    have hw' := Lib.hid hw
    have hat' := Lib.hid hat
    clear hload hat hlb hw hlt' hla
    go_wp2_with fail
    refine hload'.out.mono ?_
    rintro e w2 ⟨rfl, T2, M2⟩
    have E2 := E01.goM M2 (fun i hi => by omega)
    clear T2 M2 hload'
    go_wp2_with fail
    go_loop [7, 8] (fun u i => ∃ k : Nat, k ≤ n ∧ i = .int .i64 k ∧ u = .bool ((xs.take k).any wrongE)) (fun _ i => n - (intOf i).toNat)
    case atStart => exact ⟨0, by omega, rfl, rfl⟩
    case round =>
      obtain ⟨k, hk, rfl, rfl⟩ := hrel
      by_cases hlt : k < n
      · obtain ⟨b, o, rfl, hb, hc0⟩ := hx'.out.at_ hlt
        have hst := hat'.out k (by rw [hl'.out]; exact hlt)
        have hc1 := (E2.cell (o + k) hb).trans hc0
        generalize xs.getD k 0 = x at *
        have hst' := Lib.hid hst
        clear hst hc0
        generalize (xs.take k).any wrongE = v at *
        cases v
        · by_cases h0 : x < 0
          · have f1 : decide (x < 0) = true := by simp; omega
            go_wp2_with fail
            go_round
            case rel => exact ⟨k + 1, by omega, by go_num, by rw [hst'.out]; unfold wrongE; rw [f1]; rfl⟩
            case measure => simp [intOf]; omega
          · have f1 : decide (x < 0) = false := by simp; omega
            by_cases h1 : 2199023255552 < x
            · have f2 : decide (2199023255552 < x) = true := by simp; omega
              go_wp2_with fail
              go_round
              case rel => exact ⟨k + 1, by omega, by go_num, by rw [hst'.out]; unfold wrongE; rw [f1, f2]; rfl⟩
              case measure => simp [intOf]; omega
            · have f2 : decide (2199023255552 < x) = false := by simp; omega
              go_wp2_with fail
              go_round
              case rel => exact ⟨k + 1, by omega, by go_num, by rw [hst'.out]; unfold wrongE; rw [f1, f2]; rfl⟩
              case measure => simp [intOf]; omega
        · go_wp2_with fail
          go_round
          case rel => exact ⟨k + 1, by omega, by go_num, by rw [hst'.out]; rfl⟩
          case measure => simp [intOf]; omega
      · obtain rfl : k = n := by omega
        have hv := hw'.out
        have he : (xs.take k).any wrongE = true := by rw [List.take_of_length_le (by rw [hl'.out]; exact Nat.le_refl _)]; exact hv
        rw [he]
        clear he hv
        go_wp2_with fail
        go_ret
        exact ⟨rfl, E2⟩
end Go.Proofs.Ytgeahfkhfpdlhaa
