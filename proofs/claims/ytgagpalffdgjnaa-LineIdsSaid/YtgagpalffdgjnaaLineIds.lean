/- Layer 21, the law LineIds: the walk. -/
import Derived.Test.YtgagpalffdgjnaaG37
import Derived.Test.YtgagpalffdgjnaaLineHead
import Derived.Test.YtgagpalffdgjnaaG38c
import Derived.Test.YtgagpalffdgjnaaG35
import Derived.Test.YtgagpalffdgjnaaG14
namespace Go.Proofs.Ytgagpalffdgjnaa
open Go.RowKit

def IdsRel (a q cu co s n : Nat) (ps : List Op21) (w1 : World) (v i : Value) (wr : World) : Prop :=
  ∃ (j : Nat) (L : Lp), j ≤ n ∧ i = .int .i64 j ∧ v = .int .u16 L.num ∧ HasL true wr a q cu co s 3 2 L ∧ L.cm.length ≤ ((ps.take j).map Op21.m).sum ∧ Ext w1 wr
theorem take_sum {ps : List Op21} {j : Nat} {p : Op21} (h : ps[j]? = some p) : ((ps.take (j + 1)).map Op21.m).sum = ((ps.take j).map Op21.m).sum + p.m := by
  obtain ⟨hl, he⟩ := List.getElem?_eq_some_iff.1 h
  rw [List.take_succ_eq_append_getElem hl, List.map_append, List.sum_append, he]
  simp
theorem take_le (ps : List Op21) (j : Nat) : ((ps.take j).map Op21.m).sum ≤ (ps.map Op21.m).sum := by
  conv => rhs; rw [← List.take_append_drop j ps, List.map_append, List.sum_append]
  omega
set_option maxRecDepth 100000 in
set_option maxHeartbeats 6400000 in
theorem lineIds_any (A : Option Addr) (n c R : Nat) (ps : List Op21) (w : World) (hx : RdOp21 w R A n ps) (hR : R ≤ 1000000000000000) (hn : n * 96 ≤ 140737488351232) :
    Calls Try.prog 4 #[.slice A n c] w fun e w' => e = .returned (.bool true) ∧ Ext w w' := by
  have hx' := Lib.hid hx
  clear hx
  go_enter Try.func4, Try.ntmps4
  go_wp2_with fail
  refine (lineHead_any w).mono ?_
  rintro e w1 ⟨rfl, E1⟩
  go_wp2_with fail
  refine (lineNewL_any (k := true) (re := 3) (wa := 2) w1 (by decide) (by decide)).mono ?_
  rintro e w2 ⟨a, q, cu, co, s, rfl, h2, E2, hge⟩
  have h2' := Lib.hid h2
  have hge' := Lib.hid hge
  have EE := Lib.hid (E1.go E2)
  clear h2 hge
  go_wp2_with fail
  refine (great21_any A n c R ps w2 (hx'.out.ext EE.out) hR hn).mono ?_
  rintro e w3 ⟨x, rfl, hgr, E3⟩
  have hgr' := Lib.hid hgr
  have h3 := Lib.hid (h2'.out.ext E3)
  have E13 := Lib.hid (E2.go E3)
  have hx3 := Lib.hid (hx'.out.ext E1)
  have E01 := Lib.hid E1
  clear hgr E1 E2 E3 h2' hx' EE
  cases x
  case true =>
    go_wp2_with fail
    go_ret
    exact ⟨rfl, E01.out.go E13.out⟩
  case false =>
  obtain ⟨hn3, hsum, hsm⟩ := hgr'.out rfl
  have hsum' := Lib.hid hsum
  have hsm' := Lib.hid hsm
  clear hsum hsm
  go_wp2_with fail
  go_loopw [5, 6] (fun v i wr => IdsRel a q cu co s n ps w1 v i wr) (fun _ i _ => n - (intOf i).toNat)
  case atStart => exact ⟨0, lineL0, by omega, rfl, rfl, h3.out, by simp [lineL0], E13.out⟩
  case round =>
    obtain ⟨j, L, hj, rfl, rfl, hH, hcm, E1⟩ := hrel
    have hH' := Lib.hid hH
    have hcm' := Lib.hid hcm
    have E1' := Lib.hid E1
    clear hH hcm
    by_cases hlt : j < n
    · obtain ⟨b, o, rfl, hb, p, hp, hpk, hc, hok⟩ := hx3.out.2 j hlt
      have hc' := fun i hi => (E1.cell (o + j * 11 + i) hb).trans (hc i hi)
      have hok' := Lib.hid (hok.ext E1)
      have hts := Lib.hid (take_sum hpk)
      have htl := Lib.hid (take_le ps (j + 1))
      have c0 : wr.cell? ⟨b, o + j * 11, none⟩ = some (.int .i64 p.what) := hc' 0 (by omega)
      have c1 : wr.cell? ⟨b, o + j * 11 + 1, none⟩ = some (.int .i64 p.id) := hc' 1 (by omega)
      have c2 : wr.cell? ⟨b, o + j * 11 + 2, none⟩ = some (.int .i64 p.un) := hc' 2 (by omega)
      have c3 : wr.cell? ⟨b, o + j * 11 + 3, none⟩ = some (.int .i64 p.fc) := hc' 3 (by omega)
      have c4 : wr.cell? ⟨b, o + j * 11 + 4, none⟩ = some (.int .i64 p.ad) := hc' 4 (by omega)
      have c5 : wr.cell? ⟨b, o + j * 11 + 5, none⟩ = some (.int .i64 p.qt) := hc' 5 (by omega)
      have c6 : wr.cell? ⟨b, o + j * 11 + 6, none⟩ = some (.slice p.qa p.qn p.qc) := hc' 6 (by omega)
      have c7 : wr.cell? ⟨b, o + j * 11 + 7, none⟩ = some (.int .i64 p.tw) := hc' 7 (by omega)
      have c8 : wr.cell? ⟨b, o + j * 11 + 8, none⟩ = some (.bool p.ur) := hc' 8 (by omega)
      have c9 : wr.cell? ⟨b, o + j * 11 + 9, none⟩ = some (.int .i64 p.now) := hc' 9 (by omega)
      have c10 : wr.cell? ⟨b, o + j * 11 + 10, none⟩ = some (.slice p.a p.m p.c) := hc' 10 (by omega)
      have XA := (Ext.refl wr).goA (.cells #[.int .i64 p.what, .int .i64 p.id, .int .i64 p.un, .int .i64 p.fc, .int .i64 p.ad, .int .i64 p.qt, .slice p.qa p.qn p.qc, .int .i64 p.tw, .bool p.ur, .int .i64 p.now, .slice p.a p.m p.c] 45)
      have QA := Lib.hid (heap_alloc_new wr (.cells #[.int .i64 p.what, .int .i64 p.id, .int .i64 p.un, .int .i64 p.fc, .int .i64 p.ad, .int .i64 p.qt, .slice p.qa p.qn p.qc, .int .i64 p.tw, .bool p.ur, .int .i64 p.now, .slice p.a p.m p.c] 45))
      have HA := Lib.hid (hH'.out.ext XA)
      have okA := Lib.hid (hok'.out.ext XA)
      have EA := Lib.hid (E1'.out.go XA)
      have qA := cellsAt QA.out
      clear hc hc' hp hpk hok hok' hH' E1 E1'
      obtain ⟨hmc, hqc, hrd, hrq, hwx, hwq, -⟩ := okA.out
      have hrd' := Lib.hid hrd
      have hrq' := Lib.hid hrq
      have hbx := Lib.hid (range_u8 hwx)
      have hbq := Lib.hid (range_u16 hwq)
      clear hrd hrq hwx hwq okA
      obtain ⟨what, id, un, fc, ad, qt, qa, qn, qc, vs, tw, ur, now, pa, pm, pc, xs⟩ := p
      dsimp only at *
      go_upto_region 10 with fail
      clear c0 c1 c2 c3 c4 c5 c6 c7 c8 c9 c10
      generalize wr.alloc (.cells #[.int .i64 what, .int .i64 id, .int .i64 un, .int .i64 fc, .int .i64 ad, .int .i64 qt, .slice qa qn qc, .int .i64 tw, .bool ur, .int .i64 now, .slice pa pm pc] 45) = W at *
      have q0 := qA 0
      have q1 := qA 1
      have q2 := qA 2
      have q3 := qA 3
      have q4 := qA 4
      have q5 := qA 5
      have q6 := qA 6
      have q7 := qA 7
      have q8 := qA 8
      have q9 := qA 9
      have q10 := qA 10
      have hgeW : ∀ i, LnB true a q cu co s i → w1.heap.size ≤ i := fun i hi => by have := hge'.out i hi; omega
      have hgeW' := Lib.hid hgeW
      clear hgeW qA
      by_cases hw4 : what = 4
      · have g4 : (what == 4) = true := by simp; exact hw4
        have hcl : L.cm.length + pm ≤ 1000000 := by have := hcm'.out; have := hts.out; have := htl.out; have := hsum'.out; omega
        have hh := Lib.hid (hearStr (c := pc) HA.out hcl hrd'.out hbx.out)
        clear hcl
        go_wp2_with fail
        refine hh.out.mono ?_
        rintro e W5 ⟨d, xa, cm, rfl, hD, m5, h5, hlen⟩
        clear hD hh
        obtain ⟨hk1, hk2⟩ := hearF_keep { L with cm := cm } xa
        generalize (hearF { L with cm := cm } xa).1 = L' at *
        have h5' := Lib.hid h5
        have hk1' := Lib.hid hk1
        have hk2' := Lib.hid hk2
        have hlen' := Lib.hid hlen
        clear h5 hk1 hk2 hlen
        go_wp2_with fail
        go_roundw
        case rel => exact ⟨j + 1, L', by omega, by go_num, by rw [hk1'.out], h5'.out, by rw [hk2'.out, hts.out]; have := hlen'.out; have := hcm'.out; omega, EA.out.goM m5 hgeW'.out⟩
        case measure => simp [intOf]; omega
      have g4 : (what == 4) = false := by simp; exact hw4
      have hways : ((what == 2) = true) ∨ ((what == 2) = false ∧ (what == 3) = true) ∨ ((what == 2) = false ∧ (what == 3) = false) := by
        cases (what == 2) <;> cases (what == 3) <;> simp
      clear hw4
      have htick : Hid (∀ K : (List Int × List Dn × Lp) → Prop, (∀ r, SentNew L r → tickR true 3 2 L now = r → K r) → ∃ r, tickR true 3 2 L now = r ∧ K r) := Lib.hid (fun K h => ⟨_, rfl, h _ (tick_sent 3 2 L now) rfl⟩)
      have hready : True := trivial
      rcases hways with g2 | ⟨g2, g3⟩ | ⟨g2, g3⟩
      rotate_left 2
      · have hh := Lib.hid (askAny HA.out ⟨id, un, fc, ad, qt, vs, tw, ur⟩ (c := qc) hrq'.out hbq.out (Nat.le_trans hqc.1 hqc.2))
        unfold jobV at hh
        dsimp only at hh
        go_wp2_with fail
        refine hh.out.mono ?_
        rintro e W5 ⟨bb, L', rfl, m5, h5, hk1, hk2, -⟩
        have h5' := Lib.hid h5
        have hk1' := Lib.hid hk1
        have hk2' := Lib.hid hk2
        clear h5 hk1 hk2
        go_wp2_with fail
        go_roundw
        case rel => exact ⟨j + 1, L', by omega, by go_num, by rw [hk1'.out], h5'.out, by rw [hk2'.out, hts.out]; have := hcm'.out; omega, EA.out.goM m5 hgeW'.out⟩
        case measure => simp [intOf]; omega
      all_goals
        obtain ⟨⟨by_, ds, L'⟩, ht, hs⟩ := htick.out (fun r => SentNew L r) (fun r h _ => h)
        have hh := Lib.hid (tickIs HA.out ht)
        clear ht htick
        go_wp2_with fail
        refine hh.out.mono ?_
        rintro e W5 ⟨v, d, rfl, ⟨Av, nv, cv, rfl, gv1, gv2, rv, fv⟩, hD, m5, h5⟩
        clear hh hD
        obtain ⟨hk2, hs⟩ := hs
        dsimp only at hk2 hs
        have h5' := Lib.hid h5
        have hk2' := Lib.hid hk2
        have E5 := Lib.hid (EA.out.goM m5 hgeW'.out)
        clear h5 hk2 m5
        rcases hs with ⟨rfl, hk1⟩ | ⟨hbz, hk1, rfl⟩
        · obtain rfl : nv = 0 := by have := rv.len; simpa using this.symm
          have hk1' := Lib.hid hk1
          clear hk1 rv fv
          go_wp2_with fail
          go_roundw
          case rel => exact ⟨j + 1, L', by omega, by go_num, by rw [hk1'.out], h5'.out, by rw [hk2'.out, hts.out]; have := hcm'.out; omega, E5.out⟩
          case measure => simp [intOf]; omega
        · obtain ⟨np, hlp, np1, np2, he⟩ := mbap_put (h5'.out.ok hbz) L'.num L'.J.un
          rw [he] at rv
          obtain rfl : nv = 7 + np := by have := rv.len; rw [List.length_append, hlp] at this; simp [mbapHead] at this; omega
          have hlp' := Lib.hid hlp
          have hk1' := Lib.hid hk1
          have hbz' := Lib.hid hbz
          have hnum := h5'.out.num
          have hh := Lib.hid (ref03First_put L'.num L'.J.un Av np cv _ W5 hnum.1 hnum.2 np1 np2 hlp rv gv1)
          clear he hk1 hlp hbz rv fv hnum
          have t0 : (((7 + np : Nat) : Int) == 0) = false := by simp; omega
          go_wp2_with fail
          refine hh.out.mono ?_
          rintro e W6 ⟨Af, cf, rfl, gf1, gf2, rf, E6⟩
          clear hh
          go_upto_region 16 with fail
          have E7 : Ext W5 (W6.alloc (.cells #[.int .u16 L'.num, .int .u8 L'.J.un, .slice Af np cf] 48)) := E6.goA _
          have b7 := heap_alloc_new W6 (.cells #[.int .u16 L'.num, .int .u8 L'.J.un, .slice Af np cf] 48)
          have r7 := rf.ext ((Ext.refl W6).goA (.cells #[.int .u16 L'.num, .int .u8 L'.J.un, .slice Af np cf] 48))
          generalize W6.alloc (.cells #[.int .u16 L'.num, .int .u8 L'.J.un, .slice Af np cf] 48) = W7 at *
          have h7 := Lib.hid (h5'.out.ext E7)
          have hb := Lib.hid (busyYes h7.out hbz'.out)
          unfold jobV at hb
          have EE7 := Lib.hid (E5.out.go E7)
          have b7' := Lib.hid b7
          have r7' := Lib.hid r7
          have hg6 : Hid (W6.heap.size < W7.heap.size) := Lib.hid (lt_of_block b7)
          clear E6 rf E7 b7 r7
          go_upto_region 17 with (go_at_call 15; refine hb.out.mono ?_; rintro _ W8 ⟨Aj, nj, cj, rfl, gj1, gj2, rj, E8⟩; dsimp only)
          have E9 : Ext W7 (W8.alloc (.cells #[.int .i64 L'.J.id, .int .i64 L'.J.un, .int .i64 L'.J.fc, .int .i64 L'.J.ad, .int .i64 L'.J.qt, .slice Aj nj cj, .int .i64 L'.J.to, .bool L'.J.u] 32)) := E8.goA _
          have b9 := heap_alloc_new W8 (.cells #[.int .i64 L'.J.id, .int .i64 L'.J.un, .int .i64 L'.J.fc, .int .i64 L'.J.ad, .int .i64 L'.J.qt, .slice Aj nj cj, .int .i64 L'.J.to, .bool L'.J.u] 32)
          have r9 := rj.ext ((Ext.refl W8).goA (.cells #[.int .i64 L'.J.id, .int .i64 L'.J.un, .int .i64 L'.J.fc, .int .i64 L'.J.ad, .int .i64 L'.J.qt, .slice Aj nj cj, .int .i64 L'.J.to, .bool L'.J.u] 32))
          generalize W8.alloc (.cells #[.int .i64 L'.J.id, .int .i64 L'.J.un, .int .i64 L'.J.fc, .int .i64 L'.J.ad, .int .i64 L'.J.qt, .slice Aj nj cj, .int .i64 L'.J.to, .bool L'.J.u] 32) = W9 at *
          have hlt9 := lt_of_block b9
          have ad : ∀ W', Ext W9 W' → ∀ o, W'.cell? ⟨W6.heap.size, o, none⟩ = _ := fun W' E => cellsAt ((E9.go E).block _ hg6.out |>.trans b7'.out)
          have jd : ∀ W', Ext W9 W' → ∀ o, W'.cell? ⟨W8.heap.size, o, none⟩ = _ := fun W' E => cellsAt ((E.block _ hlt9).trans b9)
          have a0 : ∀ W', Ext W9 W' → W'.cell? ⟨W6.heap.size, 0, none⟩ = some (.int .u16 L'.num) := fun W' E => ad W' E 0
          have a1 : ∀ W', Ext W9 W' → W'.cell? ⟨W6.heap.size, 1, none⟩ = some (.int .u8 L'.J.un) := fun W' E => ad W' E 1
          have a2 : ∀ W', Ext W9 W' → W'.cell? ⟨W6.heap.size, 2, none⟩ = some (.slice Af np cf) := fun W' E => ad W' E 2
          have j1 : ∀ W', Ext W9 W' → W'.cell? ⟨W8.heap.size, 1, none⟩ = some (.int .i64 L'.J.un) := fun W' E => jd W' E 1
          have j2 : ∀ W', Ext W9 W' → W'.cell? ⟨W8.heap.size, 2, none⟩ = some (.int .i64 L'.J.fc) := fun W' E => jd W' E 2
          have j3 : ∀ W', Ext W9 W' → W'.cell? ⟨W8.heap.size, 3, none⟩ = some (.int .i64 L'.J.ad) := fun W' E => jd W' E 3
          have j4 : ∀ W', Ext W9 W' → W'.cell? ⟨W8.heap.size, 4, none⟩ = some (.int .i64 L'.J.qt) := fun W' E => jd W' E 4
          have j5 : ∀ W', Ext W9 W' → W'.cell? ⟨W8.heap.size, 5, none⟩ = some (.slice Aj nj cj) := fun W' E => jd W' E 5
          have j6 : ∀ W', Ext W9 W' → W'.cell? ⟨W8.heap.size, 6, none⟩ = some (.int .i64 L'.J.to) := fun W' E => jd W' E 6
          have hcvt : ∀ W (A : Option Addr) (n c : Nat) (l : List Int), RdI W W.heap.size .u8 A n l → (Go.convert 34 9 (.slice A n c)).run Try.prog W = .ok (.string (strOfNums l)) W := fun W A n c l r => r.convert Try.underlying34 Try.underlying5 Try.underlying9 c
          have cF : ∀ W', Ext W9 W' → _ := fun W' E => hcvt W' Af np cf _ (r7'.out.ext (E9.go E))
          have hok := h5'.out.ok hbz'.out
          have hput := Lib.hid (fun W' (E : Ext W9 W') => refPut_any L'.J.fc L'.J.ad L'.J.qt L'.J.to Aj nj cj L'.J.xs W' (r9.ext E) hok.2.2.2 (Nat.le_trans gj1 gj2))
          have hu1 : IntKind.i64.wrap L'.J.un = L'.J.un := by have := hok.1; have := hok.2.1; rw [IntKind.wrap_i64]; omega
          have hu2 : IntKind.u16.wrap (L.num + 1) = L'.num := by rw [hk1'.out, IntKind.wrap_u16]
          have hE9 := Lib.hid (EE7.out.go E9)
          have h9 := Lib.hid (h7.out.ext E9)
          clear ad jd hok r9 b9 hb rj E8
          generalize putL L'.J.fc L'.J.ad L'.J.qt L'.J.to L'.J.xs = pl at *
          refine wp_region_held_drew (S := fun W' => Ext W9 W') (by kernel_rfl) ((Ext.refl W9).god) (fun hHeld => ?_)
          refine wpAnyH_take (i := 0) (oi := _) (v := ?_) rfl (by kernel_rfl) (by kernel_rfl) (by kernel_rfl) (fun _ _ _ h => h) (Or.inl ⟨by rfl, ?_⟩) (by assumption) ?_
          rotate_left
          · intro w hSw
            (try dsimp only at hSw)
            go_simp
            try (with_reducible rfl)
          try simp only [Act.put, List.getElem_toArray, List.getElem_cons_zero, List.setIfInBounds_toArray, List.set_cons_zero, List.set_cons_succ]
          refine wpAnyH_take (i := 1) (oi := _) (v := ?_) rfl (by kernel_rfl) (by kernel_rfl) (by kernel_rfl) (fun _ _ _ h => h) (Or.inl ⟨by rfl, ?_⟩) (by assumption) ?_
          rotate_left
          · intro w hSw
            (try dsimp only at hSw)
            go_simp
            try (with_reducible rfl)
          try simp only [Act.put, List.getElem_toArray, List.getElem_cons_succ, List.getElem_cons_zero, List.setIfInBounds_toArray, List.set_cons_zero, List.set_cons_succ]
          refine wpAnyH_take (i := 2) (oi := _) (v := ?_) rfl (by kernel_rfl) (by kernel_rfl) (by kernel_rfl) (fun _ _ _ h => h) (Or.inl ⟨by rfl, ?_⟩) (by assumption) ?_
          rotate_left
          · intro w hSw
            (try dsimp only at hSw)
            go_simp
            try (with_reducible rfl)
          try simp only [Act.put, List.getElem_toArray, List.getElem_cons_succ, List.getElem_cons_zero, List.setIfInBounds_toArray, List.set_cons_zero, List.set_cons_succ]
          refine wpAnyH_take (i := 3) (oi := _) (v := ?_) rfl (by kernel_rfl) (by kernel_rfl) (by kernel_rfl) (fun _ _ _ h => h) (Or.inl ⟨by rfl, ?_⟩) (by assumption) ?_
          rotate_left
          · intro w hSw
            (try dsimp only at hSw)
            go_simp
            try (with_reducible rfl)
          try simp only [Act.put, List.getElem_toArray, List.getElem_cons_succ, List.getElem_cons_zero, List.setIfInBounds_toArray, List.set_cons_zero, List.set_cons_succ]
          refine wpAnyH_take (i := 4) (oi := _) (v := ?_) rfl (by kernel_rfl) (by kernel_rfl) (by kernel_rfl) (fun _ _ _ h => h) (Or.inl ⟨by rfl, ?_⟩) (by assumption) ?_
          rotate_left
          · intro w hSw
            (try dsimp only at hSw)
            go_simp
            try (with_reducible rfl)
          try simp only [Act.put, List.getElem_toArray, List.getElem_cons_succ, List.getElem_cons_zero, List.setIfInBounds_toArray, List.set_cons_zero, List.set_cons_succ]
          refine wpAnyH_take (i := 5) (oi := _) (v := ?_) rfl (by kernel_rfl) (by kernel_rfl) (by kernel_rfl) (fun _ _ _ h => h) (Or.inl ⟨by rfl, ?_⟩) (by assumption) ?_
          rotate_left
          · intro w hSw
            (try dsimp only at hSw)
            go_simp
            try (with_reducible rfl)
          try simp only [Act.put, List.getElem_toArray, List.getElem_cons_succ, List.getElem_cons_zero, List.setIfInBounds_toArray, List.set_cons_zero, List.set_cons_succ]
          refine wpAnyH_take (i := 6) (oi := _) (v := ?_) rfl (by kernel_rfl) (by kernel_rfl) (by kernel_rfl) (fun _ _ _ h => h) (Or.inl ⟨by rfl, ?_⟩) (by assumption) ?_
          rotate_left
          · intro w hSw
            (try dsimp only at hSw)
            go_simp
            try (with_reducible rfl)
          try simp only [Act.put, List.getElem_toArray, List.getElem_cons_succ, List.getElem_cons_zero, List.setIfInBounds_toArray, List.set_cons_zero, List.set_cons_succ]
          refine wpAnyH_take (i := 7) (oi := _) (v := ?_) rfl (by kernel_rfl) (by kernel_rfl) (by kernel_rfl) (fun _ _ _ h => h) (Or.inl ⟨by rfl, ?_⟩) (by assumption) ?_
          rotate_left
          · intro w hSw
            (try dsimp only at hSw)
            go_simp
            try (with_reducible rfl)
          try simp only [Act.put, List.getElem_toArray, List.getElem_cons_succ, List.getElem_cons_zero, List.setIfInBounds_toArray, List.set_cons_zero, List.set_cons_succ]
          refine wpAnyH_take (i := 8) (oi := _) (v := ?_) rfl (by kernel_rfl) (by kernel_rfl) (by kernel_rfl) (fun _ _ _ h => h) (Or.inl ⟨by rfl, ?_⟩) (by assumption) ?_
          rotate_left
          · intro w hSw
            (try dsimp only at hSw)
            go_simp
            try (with_reducible rfl)
          try simp only [Act.put, List.getElem_toArray, List.getElem_cons_succ, List.getElem_cons_zero, List.setIfInBounds_toArray, List.set_cons_zero, List.set_cons_succ]
          refine wpAnyH_take (i := 9) (oi := _) (v := ?_) rfl (by kernel_rfl) (by kernel_rfl) (by kernel_rfl) (fun _ _ _ h => h) (Or.inl ⟨by rfl, ?_⟩) (by assumption) ?_
          rotate_left
          · intro w hSw
            (try dsimp only at hSw)
            go_simp
            try (with_reducible rfl)
          try simp only [Act.put, List.getElem_toArray, List.getElem_cons_succ, List.getElem_cons_zero, List.setIfInBounds_toArray, List.set_cons_zero, List.set_cons_succ]
          refine wpAnyH_take (i := 10) (oi := _) (v := ?_) rfl (by kernel_rfl) (by kernel_rfl) (by kernel_rfl) (fun _ _ _ h => h) (Or.inl ⟨by rfl, ?_⟩) (by assumption) ?_
          rotate_left
          · intro w hSw
            (try dsimp only at hSw)
            go_simp
            try (with_reducible rfl)
          try simp only [Act.put, List.getElem_toArray, List.getElem_cons_succ, List.getElem_cons_zero, List.setIfInBounds_toArray, List.set_cons_zero, List.set_cons_succ]
          refine wpAnyH_take (i := 11) (oi := _) (v := ?_) rfl (by kernel_rfl) (by kernel_rfl) (by kernel_rfl) (fun _ _ _ h => h) (Or.inl ⟨by rfl, ?_⟩) (by assumption) ?_
          rotate_left
          · intro w hSw
            (try dsimp only at hSw)
            go_simp
            try (with_reducible rfl)
          try simp only [Act.put, List.getElem_toArray, List.getElem_cons_succ, List.getElem_cons_zero, List.setIfInBounds_toArray, List.set_cons_zero, List.set_cons_succ]
          refine wpAnyH_take (i := 12) (oi := _) (v := ?_) rfl (by kernel_rfl) (by kernel_rfl) (by kernel_rfl) (fun _ _ _ h => h) (Or.inl ⟨by rfl, ?_⟩) (by assumption) ?_
          rotate_left
          · intro w hSw
            (try dsimp only at hSw)
            go_simp
            try (with_reducible rfl)
          try simp only [Act.put, List.getElem_toArray, List.getElem_cons_succ, List.getElem_cons_zero, List.setIfInBounds_toArray, List.set_cons_zero, List.set_cons_succ]
          refine wpAnyH_take (i := 13) (oi := _) (v := ?_) rfl (by kernel_rfl) (by kernel_rfl) (by kernel_rfl) (fun _ _ _ h => h) (Or.inl ⟨by rfl, ?_⟩) (by assumption) ?_
          rotate_left
          · intro w hSw
            (try dsimp only at hSw)
            go_simp
            try (with_reducible rfl)
          try simp only [Act.put, List.getElem_toArray, List.getElem_cons_succ, List.getElem_cons_zero, List.setIfInBounds_toArray, List.set_cons_zero, List.set_cons_succ]
          refine wpAnyH_take (i := 14) (oi := _) (v := ?_) rfl (by kernel_rfl) (by kernel_rfl) (by kernel_rfl) (fun _ _ _ h => h) (Or.inl ⟨by rfl, ?_⟩) (by assumption) ?_
          rotate_left
          · intro w hSw
            (try dsimp only at hSw)
            go_simp
            try (with_reducible rfl)
          try simp only [Act.put, List.getElem_toArray, List.getElem_cons_succ, List.getElem_cons_zero, List.setIfInBounds_toArray, List.set_cons_zero, List.set_cons_succ]
          refine wpAnyH_take (i := 15) (oi := _) (v := ?_) rfl (by kernel_rfl) (by kernel_rfl) (by kernel_rfl) (fun _ _ _ h => h) (Or.inl ⟨by rfl, ?_⟩) (by assumption) ?_
          rotate_left
          · intro w hSw
            (try dsimp only at hSw)
            go_simp
            try (with_reducible rfl)
          try simp only [Act.put, List.getElem_toArray, List.getElem_cons_succ, List.getElem_cons_zero, List.setIfInBounds_toArray, List.set_cons_zero, List.set_cons_succ]
          refine wpAnyH_take (i := 16) (oi := _) (v := ?_) rfl (by kernel_rfl) (by kernel_rfl) (by kernel_rfl) (fun _ _ _ h => h) (Or.inl ⟨by rfl, ?_⟩) (by assumption) ?_
          rotate_left
          · intro w hSw
            (try dsimp only at hSw)
            go_simp
            try (with_reducible rfl)
          try simp only [Act.put, List.getElem_toArray, List.getElem_cons_succ, List.getElem_cons_zero, List.setIfInBounds_toArray, List.set_cons_zero, List.set_cons_succ]
          refine wpAnyH_take (i := 17) (oi := _) (v := ?_) rfl (by kernel_rfl) (by kernel_rfl) (by kernel_rfl) (fun _ _ _ h => h) (Or.inl ⟨by rfl, ?_⟩) (by assumption) ?_
          rotate_left
          · intro w hSw
            (try dsimp only at hSw)
            go_simp
            try (with_reducible rfl)
          try simp only [Act.put, List.getElem_toArray, List.getElem_cons_succ, List.getElem_cons_zero, List.setIfInBounds_toArray, List.set_cons_zero, List.set_cons_succ]
          refine wpAnyH_take (i := 18) (oi := _) (v := ?_) rfl (by kernel_rfl) (by kernel_rfl) (by kernel_rfl) (fun _ _ _ h => h) (Or.inl ⟨by rfl, ?_⟩) (by assumption) ?_
          rotate_left
          · intro w hSw
            (try dsimp only at hSw)
            go_simp
            try (with_reducible rfl)
          try simp only [Act.put, List.getElem_toArray, List.getElem_cons_succ, List.getElem_cons_zero, List.setIfInBounds_toArray, List.set_cons_zero, List.set_cons_succ]
          refine wpAnyH_take (i := 19) (oi := _) (v := ?_) rfl (by kernel_rfl) (by kernel_rfl) (by kernel_rfl) (fun _ _ _ h => h) (Or.inl ⟨by rfl, ?_⟩) (by assumption) ?_
          rotate_left
          · intro w hSw
            (try dsimp only at hSw)
            go_simp
            try (with_reducible rfl)
          try simp only [Act.put, List.getElem_toArray, List.getElem_cons_succ, List.getElem_cons_zero, List.setIfInBounds_toArray, List.set_cons_zero, List.set_cons_succ]
          refine wpAnyH_take (i := 20) (oi := _) (v := ?_) rfl (by kernel_rfl) (by kernel_rfl) (by kernel_rfl) (fun _ _ _ h => h) (Or.inl ⟨by rfl, ?_⟩) (by assumption) ?_
          rotate_left
          · intro w hSw
            (try dsimp only at hSw)
            go_simp
            try (with_reducible rfl)
          try simp only [Act.put, List.getElem_toArray, List.getElem_cons_succ, List.getElem_cons_zero, List.setIfInBounds_toArray, List.set_cons_zero, List.set_cons_succ]
          refine wpAnyH_take (i := 21) (oi := _) (v := ?_) rfl (by kernel_rfl) (by kernel_rfl) (by kernel_rfl) (fun _ _ _ h => h) (Or.inl ⟨by rfl, ?_⟩) (by assumption) ?_
          rotate_left
          · intro w hSw
            (try dsimp only at hSw)
            go_simp
            try (with_reducible rfl)
          try simp only [Act.put, List.getElem_toArray, List.getElem_cons_succ, List.getElem_cons_zero, List.setIfInBounds_toArray, List.set_cons_zero, List.set_cons_succ]
          refine wpAnyH_take (i := 22) (oi := _) (v := ?_) rfl (by kernel_rfl) (by kernel_rfl) (by kernel_rfl) (fun _ _ _ h => h) (Or.inl ⟨by rfl, ?_⟩) (by assumption) ?_
          rotate_left
          · intro w hSw
            (try dsimp only at hSw)
            go_simp
            try (with_reducible rfl)
          try simp only [Act.put, List.getElem_toArray, List.getElem_cons_succ, List.getElem_cons_zero, List.setIfInBounds_toArray, List.set_cons_zero, List.set_cons_succ]
          refine wpAnyH_take (i := 23) (oi := _) (v := ?_) rfl (by kernel_rfl) (by kernel_rfl) (by kernel_rfl) (fun _ _ _ h => h) (Or.inl ⟨by rfl, ?_⟩) (by assumption) ?_
          rotate_left
          · intro w hSw
            (try dsimp only at hSw)
            go_simp
            try (with_reducible rfl)
          try simp only [Act.put, List.getElem_toArray, List.getElem_cons_succ, List.getElem_cons_zero, List.setIfInBounds_toArray, List.set_cons_zero, List.set_cons_succ]
          refine wpAnyH_take (i := 24) (oi := _) (v := ?_) rfl (by kernel_rfl) (by kernel_rfl) (by kernel_rfl) (fun _ _ _ h => h) (Or.inl ⟨by rfl, ?_⟩) (by assumption) ?_
          rotate_left
          · intro w hSw
            (try dsimp only at hSw)
            go_simp
            try (with_reducible rfl)
          try simp only [Act.put, List.getElem_toArray, List.getElem_cons_succ, List.getElem_cons_zero, List.setIfInBounds_toArray, List.set_cons_zero, List.set_cons_succ]
          refine wpAnyH_take (i := 25) (oi := _) (v := ?_) rfl (by kernel_rfl) (by kernel_rfl) (by kernel_rfl) (fun _ _ _ h => h) (Or.inl ⟨by rfl, ?_⟩) (by assumption) ?_
          rotate_left
          · intro w hSw
            (try dsimp only at hSw)
            go_simp
            try (with_reducible rfl)
          try simp only [Act.put, List.getElem_toArray, List.getElem_cons_succ, List.getElem_cons_zero, List.setIfInBounds_toArray, List.set_cons_zero, List.set_cons_succ]
          refine wpAnyH_take (i := 26) (oi := _) (v := ?_) rfl (by kernel_rfl) (by kernel_rfl) (by kernel_rfl) (fun _ _ _ h => h) (Or.inl ⟨by rfl, ?_⟩) (by assumption) ?_
          rotate_left
          · intro w hSw
            (try dsimp only at hSw)
            go_simp
            try (with_reducible rfl)
          try simp only [Act.put, List.getElem_toArray, List.getElem_cons_succ, List.getElem_cons_zero, List.setIfInBounds_toArray, List.set_cons_zero, List.set_cons_succ]
          refine wpAnyH_take (i := 27) (oi := _) (v := ?_) rfl (by kernel_rfl) (by kernel_rfl) (by kernel_rfl) (fun _ _ _ h => h) (Or.inl ⟨by rfl, ?_⟩) (by assumption) ?_
          rotate_left
          · intro w hSw
            (try dsimp only at hSw)
            go_simp
            try (with_reducible rfl)
          try simp only [Act.put, List.getElem_toArray, List.getElem_cons_succ, List.getElem_cons_zero, List.setIfInBounds_toArray, List.set_cons_zero, List.set_cons_succ]
          refine wpAnyH_take (i := 28) (oi := _) (v := ?_) rfl (by kernel_rfl) (by kernel_rfl) (by kernel_rfl) (fun _ _ _ h => h) (Or.inl ⟨by rfl, ?_⟩) (by assumption) ?_
          rotate_left
          · intro w hSw
            (try dsimp only at hSw)
            go_simp
            try (with_reducible rfl)
          try simp only [Act.put, List.getElem_toArray, List.getElem_cons_succ, List.getElem_cons_zero, List.setIfInBounds_toArray, List.set_cons_zero, List.set_cons_succ]
          refine wpAnyH_take (i := 29) (oi := _) (v := ?_) rfl (by kernel_rfl) (by kernel_rfl) (by kernel_rfl) (fun _ _ _ h => h) (Or.inl ⟨by rfl, ?_⟩) (by assumption) ?_
          rotate_left
          · intro w hSw
            (try dsimp only at hSw)
            go_simp
            try (with_reducible rfl)
          try simp only [Act.put, List.getElem_toArray, List.getElem_cons_succ, List.getElem_cons_zero, List.setIfInBounds_toArray, List.set_cons_zero, List.set_cons_succ]
          refine wpAnyH_take (i := 30) (oi := _) (v := ?_) rfl (by kernel_rfl) (by kernel_rfl) (by kernel_rfl) (fun _ _ _ h => h) (Or.inl ⟨by rfl, ?_⟩) (by assumption) ?_
          rotate_left
          · intro w hSw
            (try dsimp only at hSw)
            go_simp
            try (with_reducible rfl)
          try simp only [Act.put, List.getElem_toArray, List.getElem_cons_succ, List.getElem_cons_zero, List.setIfInBounds_toArray, List.set_cons_zero, List.set_cons_succ]
          refine wpAnyH_take (i := 31) (oi := _) (v := ?_) rfl (by kernel_rfl) (by kernel_rfl) (by kernel_rfl) (fun _ _ _ h => h) (Or.inl ⟨by rfl, ?_⟩) (by assumption) ?_
          rotate_left
          · intro w hSw
            (try dsimp only at hSw)
            go_simp
            try (with_reducible rfl)
          try simp only [Act.put, List.getElem_toArray, List.getElem_cons_succ, List.getElem_cons_zero, List.setIfInBounds_toArray, List.set_cons_zero, List.set_cons_succ]
          refine wpAnyH_take (i := 32) (oi := _) (v := ?_) rfl (by kernel_rfl) (by kernel_rfl) (by kernel_rfl) (fun _ _ _ h => h) (Or.inl ⟨by rfl, ?_⟩) (by assumption) ?_
          rotate_left
          · intro w hSw
            (try dsimp only at hSw)
            go_simp
            try (with_reducible rfl)
          try simp only [Act.put, List.getElem_toArray, List.getElem_cons_succ, List.getElem_cons_zero, List.setIfInBounds_toArray, List.set_cons_zero, List.set_cons_succ]
          refine wpAnyH_ready (rs := [33]) (by kernel_rfl) (by simp) ?_
          refine AllReadyH.cons rfl (fun K hK => ?_) ?_
          rotate_left
          · exact AllReadyH.nil
          go_simp
          go_at_call 19
          refine (hput.out _ hHeld).mono ?_
          rintro _ Wa ⟨Ap, npp, cp, rfl, gp1, gp2, rp, Ep⟩
          have hHeldp := Ext.go hHeld Ep
          try dsimp only
          refine hK.out _ _ ?_ (fun hHeld => ?_)
          · first | assumption | (dsimp only; assumption)
          clear hK K
          try simp only [Act.put, List.getElem_toArray, List.getElem_cons_succ, List.getElem_cons_zero, List.setIfInBounds_toArray, List.set_cons_zero, List.set_cons_succ]
          have cp2 := hcvt Wa Ap npp cp _ rp
          refine wpAnyH_ready (rs := [34]) (by kernel_rfl) (by simp) ?_
          refine AllReadyH.cons rfl (fun K hK => ?_) ?_
          rotate_left
          · exact AllReadyH.nil
          go_simp
          refine hK.out _ _ ?_ (fun hHeld => ?_)
          · first | assumption | (dsimp only; assumption)
          clear hK K
          try simp only [Act.put, List.getElem_toArray, List.getElem_cons_succ, List.getElem_cons_zero, List.setIfInBounds_toArray, List.set_cons_zero, List.set_cons_succ]
          clear cp2
          refine wpAnyH_take (i := 35) (oi := _) (v := ?_) rfl (by kernel_rfl) (by kernel_rfl) (by kernel_rfl) (fun _ _ _ h => h) (Or.inl ⟨by rfl, ?_⟩) (by assumption) ?_
          rotate_left
          · intro w hSw
            (try dsimp only at hSw)
            go_simp
            try (with_reducible rfl)
          try simp only [Act.put, List.getElem_toArray, List.getElem_cons_succ, List.getElem_cons_zero, List.setIfInBounds_toArray, List.set_cons_zero, List.set_cons_succ]
          refine wpAnyH_take (i := 36) (oi := _) (v := ?_) rfl (by kernel_rfl) (by kernel_rfl) (by kernel_rfl) (fun _ _ _ h => h) (Or.inl ⟨by rfl, ?_⟩) (by assumption) ?_
          rotate_left
          · intro w hSw
            (try dsimp only at hSw)
            go_simp
            try (with_reducible rfl)
          try simp only [Act.put, List.getElem_toArray, List.getElem_cons_succ, List.getElem_cons_zero, List.setIfInBounds_toArray, List.set_cons_zero, List.set_cons_succ]
          refine wpAnyH_done (by kernel_rfl) ?_ _
          have E9a := hHeldp
          have y0 := a0 _ E9a
          clear a0 a1 a2 j1 j2 j3 j4 j5 j6 cF hcvt
          go_wp2_with fail
          go_roundw
          case rel => exact ⟨j + 1, L', by omega, by go_num, rfl, h9.out.ext E9a, by rw [hk2'.out, hts.out]; have := hcm'.out; omega, hE9.out.go E9a⟩
          case measure => simp [intOf]; omega
    · obtain rfl : j = n := by omega
      go_wp2_with fail
      go_ret
      exact ⟨rfl, E01.out.go E1'.out⟩
end Go.Proofs.Ytgagpalffdgjnaa
