/- Layer 6: the law BankServes, walked. -/
import Derived.Test.YtgeahfkhfpdlhaaG13
import Derived.Test.YtgeahfkhfpdlhaaG12
import Derived.Test.YtgeahfkhfpdlhaaRef05D
import Derived.Test.YtgeahfkhfpdlhaaG16
import Derived.Test.YtgeahfkhfpdlhaaRows2
namespace Go.Proofs.Ytgeahfkhfpdlhaa
open Go.RowKit

set_option maxRecDepth 100000 in
set_option maxHeartbeats 6400000 in
theorem bankServes_any (a0 a1 a2 a3 : Int) (A : Option Addr) (n c : Nat) (zs : List Sl) (w : World) (hx : RdSl w w.heap.size .u8 A n zs) (hz : ∀ z ∈ zs, ByteL z.xs) (nm : n ≤ maxLen) :
    Calls Try.prog 5 #[.agg #[.int .i64 a0, .int .i64 a1, .int .i64 a2, .int .i64 a3], .slice A n c] w fun e w' => e = .returned (.bool true) ∧ Ext w w' := by
  unfold maxLen at nm
  have hx' := Lib.hid hx
  have hz' := Lib.hid hz
  have hlz := Lib.hid hx.len
  clear hx hz
  go_enter Try.func5, Try.ntmps5
  go_wp2_with fail
  have EB := (Ext.refl w).goA (.cells #[.int .i64 a0, .int .i64 a1, .int .i64 a2, .int .i64 a3] 22)
  have hB := heap_alloc_new w (.cells #[.int .i64 a0, .int .i64 a1, .int .i64 a2, .int .i64 a3] 22)
  refine (bankHead_any _).mono ?_
  rintro e w0 ⟨rfl, E0'⟩
  have E0 := EB.go E0'
  have B0 := cellsAt ((E0'.block _ (lt_of_block hB)).trans hB)
  go_wp2_with fail
  refine (bankNew_any a0 a1 a2 a3 w0).mono ?_
  rintro e w1 ⟨g, G, rfl, B1, E1, hg⟩
  have E01 := E0.go E1
  have hrow' : Hid (∀ i, RowsOf G i → w.heap.size ≤ i ∧ i < w1.heap.size) := Lib.hid (fun i h => ⟨by obtain ⟨k, hk, rfl⟩ := h; have := B1.gt hk; have := E0.size; omega, B1.old (.inr h)⟩)
  have hbits := bits_new a0 a1 a2 a3
  generalize newL a0 a1 a2 a3 = L0 at *
  have B1' := Lib.hid B1
  have hbits' := Lib.hid hbits
  clear B1 hbits B0 hB EB E0'
  by_cases hn40 : 40 < n
  · have t1 : decide (40 < (n : Int)) = true := by simp; omega
    go_wp2_with fail
    go_ret
    exact ⟨rfl, E01⟩
  have t1 : decide (40 < (n : Int)) = false := by simp; omega
  go_wp2_with fail
  go_loopw [7] (fun i wr => ∃ k : Nat, k ≤ n ∧ i = .int .i64 k ∧ ∃ L, Bk wr g L G ∧ BitsL L ∧ Ext w wr ∧ w1.heap.size ≤ wr.heap.size) (fun i _ => n - (intOf i).toNat)
  case atStart => exact ⟨0, by omega, rfl, L0, B1'.out, hbits'.out, E01, Nat.le_refl _⟩
  case round =>
    obtain ⟨k, hk, rfl, L, hb, hbi, hE, hS⟩ := hrel
    have hb' := Lib.hid hb
    have hbi' := Lib.hid hbi
    clear hb hbi
    by_cases hlt : k < n
    · obtain ⟨b, o, rfl, hbl, z, hzm, hc0, hzc, hzx⟩ := hx'.out.at_ hlt
      have hzb := hz'.out z hzm
      obtain ⟨za, zn, zc, l⟩ := z
      dsimp only at hc0 hzc hzx hzb
      have hc1 := (hE.cell (o + k) hbl).trans hc0
      by_cases hbig : 3000 < zn
      · have t2 : decide (3000 < (zn : Int)) = true := by simp; omega
        go_wp2_with fail
        go_ret
        exact ⟨rfl, hE⟩
      have t2 : decide (3000 < (zn : Int)) = false := by simp; omega
      have hcE : Hid (∀ w', Ext w w' → w'.cell? ⟨b, o + k, none⟩ = some (.slice za zn zc)) := Lib.hid (fun w' D => (D.cell (o + k) hbl).trans hc0)
      have hzx' := Lib.hid hzx
      have hzb' := Lib.hid hzb
      have hgr := getR_range l hzb
      have hga := got_any l
      have hsb := bits_serve hbi'.out l
      have hserve := fun w' (hb : Bk w' g L G) (hx : RdI w' w'.heap.size .u8 za zn l) => bankServe_any g za zn zc l L G w' hb hx hzb hzc.1 hzc.2
      have hget := fun w' (hx : RdI w' w'.heap.size .u8 za zn l) => ref04Get_any za zn zc l w' hx hzb (by omega) hzc.1 hzc.2
      have hsl : serveL L l = if (getR l).2 ≠ 0 then L else doL L (getR l).1.fc (getR l).1.ad (getR l).1.qt (getR l).1.to (getR l).1.xs := rfl
      have hsy : serveY L l = if (getR l).2 ≠ 0 then alarmL l (getR l).2
        else rputL (getR l).1.fc (getR l).1.ad (getR l).1.qt (getR l).1.to (getR l).1.xs (doC L (getR l).1.fc (getR l).1.ad (getR l).1.qt (getR l).1.to (getR l).1.xs) (doY L (getR l).1.fc (getR l).1.ad (getR l).1.qt (getR l).1.to (getR l).1.xs) := rfl
      generalize serveL L l = L' at *
      generalize serveY L l = Y at *
      generalize getR l = R at *
      obtain ⟨⟨fc, ad, qt, to, xs⟩, code⟩ := R
      dsimp only at *
      have hsl' := Lib.hid hsl
      have hsy' := Lib.hid hsy
      have hserve' := Lib.hid hserve
      have hget' := Lib.hid hget
      have hgr' := Lib.hid hgr
      have hga' := Lib.hid hga
      have hsb' := Lib.hid hsb
      have hS' := Lib.hid hS
      clear hsl hsy hserve hget hgr hga hsb hc0 hzx hzb hzm hS
      go_wp2_with fail
      refine (bankAll_new g L G wr hb'.out).mono ?_
      rintro e w8 ⟨A8, n8, c8, rfl, g8, g8', r8, D8, fr8⟩
      have E8 := hE.go D8
      have hc8 := hcE.out w8 E8
      have r8' := Lib.hid r8
      clear r8 hc1
      go_wp2_with fail
      refine (hserve'.out w8 (hb'.out.ext D8) (hzx'.out.ext E8)).mono ?_
      rintro e w9 ⟨A9, n9, c9, rfl, g9, g9', r9, B9, M9⟩
      have E9 : Ext w w9 := E8.goM M9 (fun i hi => (hrow'.out i hi).1)
      have r89 := r8'.out.mod M9 (fun b o e h => by have := fr8 b o e; have := (hrow'.out _ h).2; have := hS'.out; omega)
      have hc9 := hcE.out w9 E9
      have r9' := Lib.hid r9
      have B9' := Lib.hid B9
      have r89' := Lib.hid r89
      have s9 : w1.heap.size ≤ w9.heap.size := by have := M9.size; have := D8.size; have := hS'.out; omega
      clear r9 B9 r89 r8' M9 D8 fr8 hc8
      go_wp2_with fail
      refine (hget'.out w9 (hzx'.out.ext E9)).mono ?_
      rintro e w10 ⟨A10, n10, c10, rfl, g10, g10', r10, D10, fr10⟩
      have X11 := (Ext.refl w10).goA (.cells #[.int .i64 fc, .int .i64 ad, .int .i64 qt, .slice A10 n10 c10, .int .i64 to] 32)
      have D11 := D10.go X11
      have E11 := E9.go D11
      have hQ := Lib.hid (heap_alloc_new w10 (.cells #[.int .i64 fc, .int .i64 ad, .int .i64 qt, .slice A10 n10 c10, .int .i64 to] 32))
      have B11' := Lib.hid (B9'.out.ext D11)
      have r11' := Lib.hid (r89'.out.ext D11)
      have y11' := Lib.hid (r9'.out.ext D11)
      have x11' := Lib.hid (r10.ext X11)
      have s11 : w1.heap.size ≤ (w10.alloc (.cells #[.int .i64 fc, .int .i64 ad, .int .i64 qt, .slice A10 n10 c10, .int .i64 to] 32)).heap.size := by have := D11.size; omega
      clear r10 hc9 fr10 X11 D11 B9' r89' r9'
      by_cases hcode : code = 0
      · subst hcode
        have hright : rightB' fc ad qt to xs = true := by
          rcases hga'.out with h | h
          · exact h.2.1
          · omega
        have hL' : L' = doL L fc ad qt to xs := hsl'.out
        have hY : Y = rputL fc ad qt to xs (doC L fc ad qt to xs) (doY L fc ad qt to xs) := hsy'.out
        have hans := do_answers hbi'.out hright
        have hquiet := do_quiet (L := L) hright
        have hyr := do_range hb'.out.rng hb'.out.len (fc := fc) (ad := ad) (qt := qt) (to := to) hgr'.out
        unfold rputL at hY
        rw [hans, if_pos rfl] at hY
        rw [← hL'] at hquiet
        generalize doC L fc ad qt to xs = dc at *
        generalize doY L fc ad qt to xs = dy at *
        have hquiet' := Lib.hid hquiet
        have hans' := Lib.hid hans
        have hyr' := Lib.hid hyr
        have hY' := Lib.hid hY
        clear hga' hsl' hsy' hright hL' hquiet hans hyr hY
        go_wp2_with fail
        generalize hw10 : w10.heap.size = q10 at *
        generalize w10.alloc (.cells #[.int .i64 fc, .int .i64 ad, .int .i64 qt, .slice A10 n10 c10, .int .i64 to] 32) = W at *
        have q0 := cellsAt hQ.out
        go_wp2_with fail
        refine (ref05Get_any fc ad qt to dc A10 A9 n10 c10 n9 c9 xs dy Y W x11'.out hgr'.out (Nat.le_trans g10 g10') hyr'.out y11'.out g9 g9' hans'.out hY'.out.symm).mono ?_
        clear q0
        by_cases hdc : dc = 0
        · rw [if_pos hdc]
          rintro e w12 ⟨A12, n12, c12, rfl, g12, g12', r12, D12⟩
          clear r12
          go_wp2_with fail
          go_roundw
          case rel => exact ⟨k + 1, by omega, by go_num, L', B11'.out.ext (D12.goA _), hsb'.out, (E11.go D12).goA _, by have := (D12.goA (.cells #[.int .i64 0, .slice A12 n12 c12] 40)).size; omega⟩
          case measure => simp [intOf]; omega
        · rw [if_neg hdc]
          obtain ⟨hd2, hLL⟩ := hquiet'.out hdc
          subst hd2 hLL
          rintro e w12 ⟨A12, n12, c12, rfl, g12, g12', r12, D12⟩
          clear r12
          have D13 := D12.goA (.cells #[.int .i64 2, .slice A12 n12 c12] 40)
          have q13 := cellsAt (heap_alloc_new w12 (.cells #[.int .i64 2, .slice A12 n12 c12] 40))
          have B13' := Lib.hid (B11'.out.ext D13)
          have r13' := Lib.hid (r11'.out.ext D13)
          have s13 := D13.size
          have E13 := E11.go D13
          clear D13 D12
          go_wp2_with fail
          generalize w12.alloc (.cells #[.int .i64 2, .slice A12 n12 c12] 40) = W3 at *
          refine (bankAll_any g _ G W3 B13'.out).mono ?_
          rintro e w14 ⟨A14, n14, c14, rfl, g14, g14', r14, D14⟩
          clear q13
          go_wp2_with fail
          refine (sameVals_any A14 A8 n14 c14 n8 c8 _ _ _ w14 r14 (r13'.out.ext D14) (Nat.le_trans g14 g14') (Nat.le_trans g8 g8')).mono ?_
          rw [show decide (allL L' = allL L') = true from by simp]
          rintro e w15 ⟨rfl, m15, rfl⟩
          have d15 := D14.goD m15
          go_wp2_with fail
          go_roundw
          case rel => exact ⟨k + 1, by omega, by go_num, L', B13'.out.ext d15, hsb'.out, E13.go d15, by have := d15.size; omega⟩
          case measure => simp [intOf]; omega
      · have hL' : L' = L := by have := hsl'.out; rwa [if_pos hcode] at this
        have hY : Y = alarmL l code := by have := hsy'.out; rwa [if_pos hcode] at this
        subst hL' hY
        have c1 : (code != 0) = true := by simp; exact hcode
        have c2 : (code == 0) = false := by simp; exact hcode
        clear hga' hsl' hsy' hcode
        go_wp2_with fail
        generalize w10.alloc (.cells #[.int .i64 fc, .int .i64 ad, .int .i64 qt, .slice A10 n10 c10, .int .i64 to] 32) = W at *
        have dV : Ext W W.drew := (Ext.refl _).god
        have hci : ∀ w', Ext W w' → w'.cell? ⟨b, o + k, none⟩ = some (.slice za zn zc) := fun w' D => hcE.out w' (E11.go D)
        have hcv : ∀ w', Ext W w' → Sem.run Try.prog (convert 33 9 (.slice A9 n9 c9)) w' = .ok (.string (strOfNums (alarmL l code))) w' := fun w' h => (y11'.out.ext h).convert Try.underlying33 Try.underlying5 Try.underlying9 c9
        refine wp_region_held_drew (S := fun w' => Ext W w') (by kernel_rfl) dV (fun hHeld => ?_)
        refine wpAnyH_take (i := 0) (oi := _) (v := ?_) rfl (by kernel_rfl) (by kernel_rfl) (by kernel_rfl) (fun _ _ _ h => h) (Or.inl ⟨by rfl, ?_⟩) (by assumption) ?_
        rotate_left
        · intro w hSw
          (try dsimp only at hSw)
          go_simp
          try (with_reducible rfl)
        try simp only [Act.put, List.getElem_toArray, List.getElem_cons_zero, List.setIfInBounds_toArray, List.set_cons_zero, List.set_cons_succ]
        refine wpAnyH_take (i := 1) (oi := _) (v := ?_) rfl (by kernel_rfl) (by kernel_rfl) (by kernel_rfl) (fun _ _ _ h => h) (Or.inl ⟨by rfl, ?_⟩) (by assumption) ?_
        rotate_left
        · intro w hSw
          (try dsimp only at hSw)
          go_simp
          try (with_reducible rfl)
        try simp only [Act.put, List.getElem_toArray, List.getElem_cons_succ, List.getElem_cons_zero, List.setIfInBounds_toArray, List.set_cons_zero, List.set_cons_succ]
        refine wpAnyH_take (i := 2) (oi := _) (v := ?_) rfl (by kernel_rfl) (by kernel_rfl) (by kernel_rfl) (fun _ _ _ h => h) (Or.inl ⟨by rfl, ?_⟩) (by assumption) ?_
        rotate_left
        · intro w hSw
          (try dsimp only at hSw)
          go_simp
          try (with_reducible rfl)
        try simp only [Act.put, List.getElem_toArray, List.getElem_cons_succ, List.getElem_cons_zero, List.setIfInBounds_toArray, List.set_cons_zero, List.set_cons_succ]
        refine wpAnyH_take (i := 3) (oi := _) (v := ?_) rfl (by kernel_rfl) (by kernel_rfl) (by kernel_rfl) (fun _ _ _ h => h) (Or.inl ⟨by rfl, ?_⟩) (by assumption) ?_
        rotate_left
        · intro w hSw
          (try dsimp only at hSw)
          go_simp
          try (with_reducible rfl)
        try simp only [Act.put, List.getElem_toArray, List.getElem_cons_succ, List.getElem_cons_zero, List.setIfInBounds_toArray, List.set_cons_zero, List.set_cons_succ]
        refine wpAnyH_take (i := 4) (oi := _) (v := ?_) rfl (by kernel_rfl) (by kernel_rfl) (by kernel_rfl) (fun _ _ _ h => h) (Or.inl ⟨by rfl, ?_⟩) (by assumption) ?_
        rotate_left
        · intro w hSw
          (try dsimp only at hSw)
          go_simp
          try (with_reducible rfl)
        try simp only [Act.put, List.getElem_toArray, List.getElem_cons_succ, List.getElem_cons_zero, List.setIfInBounds_toArray, List.set_cons_zero, List.set_cons_succ]
        refine wpAnyH_take (i := 5) (oi := _) (v := ?_) rfl (by kernel_rfl) (by kernel_rfl) (by kernel_rfl) (fun _ _ _ h => h) (Or.inl ⟨by rfl, ?_⟩) (by assumption) ?_
        rotate_left
        · intro w hSw
          (try dsimp only at hSw)
          go_simp
          try (with_reducible rfl)
        try simp only [Act.put, List.getElem_toArray, List.getElem_cons_succ, List.getElem_cons_zero, List.setIfInBounds_toArray, List.set_cons_zero, List.set_cons_succ]
        refine wpAnyH_take (i := 6) (oi := _) (v := ?_) rfl (by kernel_rfl) (by kernel_rfl) (by kernel_rfl) (fun _ _ _ h => h) (Or.inl ⟨by rfl, ?_⟩) (by assumption) ?_
        rotate_left
        · intro w hSw
          (try dsimp only at hSw)
          go_simp
          try (with_reducible rfl)
        try simp only [Act.put, List.getElem_toArray, List.getElem_cons_succ, List.getElem_cons_zero, List.setIfInBounds_toArray, List.set_cons_zero, List.set_cons_succ]
        refine wpAnyH_ready (rs := [7]) (by kernel_rfl) (by simp) ?_
        refine AllReadyH.cons rfl (fun K hK => ?_) ?_
        rotate_left
        · exact AllReadyH.nil
        go_simp
        go_at_call 31
        refine (refAlarm_any za zn zc l code _ (hzx'.out.ext (E11.go dV))).mono ?_
        rintro e w12 ⟨A12, n12, c12, rfl, _, _, r12, D12⟩
        have d12 := dV.go D12
        have cs12 := r12.convert Try.underlying33 Try.underlying5 Try.underlying9 c12
        clear r12
        try dsimp only
        refine hK.out _ _ ?_ (fun hHeld => ?_)
        · first | assumption | (dsimp only; assumption)
        clear hK K
        try simp only [Act.put, List.getElem_toArray, List.getElem_cons_succ, List.getElem_cons_zero, List.setIfInBounds_toArray, List.set_cons_zero, List.set_cons_succ]
        refine wpAnyH_ready (rs := [8]) (by kernel_rfl) (by simp) ?_
        refine AllReadyH.cons rfl (fun K hK => ?_) ?_
        rotate_left
        · exact AllReadyH.nil
        go_simp
        refine hK.out _ _ ?_ (fun hHeld => ?_)
        · first | assumption | (dsimp only; assumption)
        clear hK K
        try simp only [Act.put, List.getElem_toArray, List.getElem_cons_succ, List.getElem_cons_zero, List.setIfInBounds_toArray, List.set_cons_zero, List.set_cons_succ]
        refine wpAnyH_take (i := 9) (oi := _) (v := ?_) rfl (by kernel_rfl) (by kernel_rfl) (by kernel_rfl) (fun _ _ _ h => h) (Or.inl ⟨by rfl, ?_⟩) (by assumption) ?_
        rotate_left
        · intro w hSw
          (try dsimp only at hSw)
          go_simp
          try (with_reducible rfl)
        try simp only [Act.put, List.getElem_toArray, List.getElem_cons_succ, List.getElem_cons_zero, List.setIfInBounds_toArray, List.set_cons_zero, List.set_cons_succ]
        refine wpAnyH_take (i := 10) (oi := _) (v := ?_) rfl (by kernel_rfl) (by kernel_rfl) (by kernel_rfl) (fun _ _ _ h => h) (Or.inl ⟨by rfl, ?_⟩) (by assumption) ?_
        rotate_left
        · intro w hSw
          (try dsimp only at hSw)
          go_simp
          try (with_reducible rfl)
        try simp only [Act.put, List.getElem_toArray, List.getElem_cons_succ, List.getElem_cons_zero, List.setIfInBounds_toArray, List.set_cons_zero, List.set_cons_succ]
        refine wpAnyH_take (i := 11) (oi := _) (v := ?_) rfl (by kernel_rfl) (by kernel_rfl) (by kernel_rfl) (fun _ _ _ h => h) (Or.inl ⟨by rfl, ?_⟩) (by assumption) ?_
        rotate_left
        · intro w hSw
          (try dsimp only at hSw)
          go_simp
          try (with_reducible rfl)
        try simp only [Act.put, List.getElem_toArray, List.getElem_cons_succ, List.getElem_cons_zero, List.setIfInBounds_toArray, List.set_cons_zero, List.set_cons_succ]
        refine wpAnyH_take (i := 13) (oi := _) (v := ?_) rfl (by kernel_rfl) (by kernel_rfl) (by kernel_rfl) (fun _ _ _ h => h) (Or.inl ⟨by rfl, ?_⟩) (by assumption) ?_
        rotate_left
        · intro w hSw
          (try dsimp only at hSw)
          go_simp
          try (with_reducible rfl)
        try simp only [Act.put, List.getElem_toArray, List.getElem_cons_succ, List.getElem_cons_zero, List.setIfInBounds_toArray, List.set_cons_zero, List.set_cons_succ]
        refine wpAnyH_ready (rs := [12]) (by kernel_rfl) (by simp) ?_
        refine AllReadyH.cons rfl (fun K hK => ?_) ?_
        rotate_left
        · exact AllReadyH.nil
        go_simp
        go_at_call 29
        refine (bankAll_any g _ G _ (B11'.out.ext d12)).mono ?_
        rintro e w14 ⟨A14, n14, c14, rfl, g14, g14', r14, D14⟩
        have d14 := d12.go D14
        try dsimp only
        refine hK.out _ _ ?_ (fun hHeld => ?_)
        · first | assumption | (dsimp only; assumption)
        clear hK K
        try simp only [Act.put, List.getElem_toArray, List.getElem_cons_succ, List.getElem_cons_zero, List.setIfInBounds_toArray, List.set_cons_zero, List.set_cons_succ]
        refine wpAnyH_ready (rs := [14]) (by kernel_rfl) (by simp) ?_
        refine AllReadyH.cons rfl (fun K hK => ?_) ?_
        rotate_left
        · exact AllReadyH.nil
        go_simp
        go_at_call 32
        refine (sameVals_any A14 A8 n14 c14 n8 c8 _ _ _ w14 r14 (r11'.out.ext d14) (Nat.le_trans g14 g14') (Nat.le_trans g8 g8')).mono ?_
        rw [show decide (allL L' = allL L') = true from by simp]
        rintro e w15 ⟨rfl, m15, rfl⟩
        have d15 := d14.goD m15
        try dsimp only
        refine hK.out _ _ ?_ (fun hHeld => ?_)
        · first | assumption | (dsimp only; assumption)
        clear hK K
        try simp only [Act.put, List.getElem_toArray, List.getElem_cons_succ, List.getElem_cons_zero, List.setIfInBounds_toArray, List.set_cons_zero, List.set_cons_succ]
        refine wpAnyH_take (i := 15) (oi := _) (v := ?_) rfl (by kernel_rfl) (by kernel_rfl) (by kernel_rfl) (fun _ _ _ h => h) (Or.inl ⟨by rfl, ?_⟩) (by assumption) ?_
        rotate_left
        · intro w hSw
          (try dsimp only at hSw)
          go_simp
          try (with_reducible rfl)
        try simp only [Act.put, List.getElem_toArray, List.getElem_cons_succ, List.getElem_cons_zero, List.setIfInBounds_toArray, List.set_cons_zero, List.set_cons_succ]
        refine wpAnyH_take (i := 16) (oi := _) (v := ?_) rfl (by kernel_rfl) (by kernel_rfl) (by kernel_rfl) (fun _ _ _ h => h) (Or.inl ⟨by rfl, ?_⟩) (by assumption) ?_
        rotate_left
        · intro w hSw
          (try dsimp only at hSw)
          go_simp
          try (with_reducible rfl)
        try simp only [Act.put, List.getElem_toArray, List.getElem_cons_succ, List.getElem_cons_zero, List.setIfInBounds_toArray, List.set_cons_zero, List.set_cons_succ]
        refine wpAnyH_done (by kernel_rfl) ?_ _
        clear hci hcv cs12
        go_wp2_with fail
        go_roundw
        case rel => exact ⟨k + 1, by omega, by go_num, L', B11'.out.ext d15, hsb'.out, E11.go d15, by have := d15.size; omega⟩
        case measure => simp [intOf]; omega
    · obtain rfl : k = n := by omega
      go_wp2_with fail
      go_ret
      exact ⟨rfl, hE⟩
end Go.Proofs.Ytgeahfkhfpdlhaa
