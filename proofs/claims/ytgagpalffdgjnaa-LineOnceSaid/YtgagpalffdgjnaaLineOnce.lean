/- Layer 21, the law LineOnce: the walk. -/
import Derived.Test.YtgagpalffdgjnaaLineOnceLaw
import Derived.Test.YtgagpalffdgjnaaLineHead
import Derived.Test.YtgagpalffdgjnaaG38c
import Derived.Test.YtgagpalffdgjnaaG15
import Derived.Deep.DeepCutAuto
namespace Go.Proofs.Ytgagpalffdgjnaa
open Go.RowKit

def OnceRel (k : Bool) (a q cu co s n : Nat) (re : Int) (ps : List Op21) (w1 : World) (u v i : Value) (wr : World) : Prop :=
  ∃ (j : Nat) (L : Lp) (put don : Nat), j ≤ n ∧ i = .int .i64 j ∧ u = .int .i64 put ∧ v = .int .i64 don ∧ put ≤ j ∧ put = don + tot L ∧ HasL k wr a q cu co s re 3 L ∧ L.cm.length ≤ ((ps.take j).map Op21.m).sum ∧ Ext w1 wr
/-- What is known when a call has been made. -/
structure OnceMid (k : Bool) (a q cu co s : Nat) (re : Int) (w1 w5 w6 : World) (L L' : Lp) (base B put put' : Nat) (d : Value) (ds : List Dn) : Prop where
  don : DonesAt w6 base d ds
  has : HasL k w6 a q cu co s re 3 L'
  ext : Ext w1 w6
  cm : L'.cm.length ≤ B
  mod : Mod (LnB k a q cu co s) w5 w6
  way : (ds = [] ∧ put' + tot L = put + tot L') ∨ (put' = put ∧ ∃ x, ds = [x] ∧ L.busy = true ∧ x.id = L.J.id ∧ tot L' + 1 = tot L ∧ (x.err = 211 ∨ (x.err ≠ 211 ∧ ansR L.J.fc L.J.ad L.J.qt L.J.to L.J.xs x.code x.xs = true)))
theorem OnceC.way {L L' : Lp} {ds : List Dn} (h : OnceC L ds L') (put : Nat) : (ds = [] ∧ put + tot L = put + tot L') ∨ (put = put ∧ ∃ x, ds = [x] ∧ L.busy = true ∧ x.id = L.J.id ∧ tot L' + 1 = tot L ∧ (x.err = 211 ∨ (x.err ≠ 211 ∧ ansR L.J.fc L.J.ad L.J.qt L.J.to L.J.xs x.code x.xs = true))) := by
  rcases h with ⟨h1, h2⟩ | h
  · exact .inl ⟨h1, by omega⟩
  · exact .inr ⟨rfl, h⟩
theorem HasL.small {k : Bool} {w : World} {a q cu co s : Nat} {re wa : Int} {L : Lp} (h : HasL k w a q cu co s re wa L) : L.U.length ≤ 64 ∧ L.O.length ≤ 64 := by
  obtain ⟨M, rfl, hm⟩ := h
  exact ⟨by simpa [Lm.p] using hm.ul, by simpa [Lm.p] using hm.ol⟩
theorem once_sum {ps : List Op21} {j : Nat} {p : Op21} (h : ps[j]? = some p) : ((ps.take (j + 1)).map Op21.m).sum = ((ps.take j).map Op21.m).sum + p.m := by
  obtain ⟨hl, he⟩ := List.getElem?_eq_some_iff.1 h
  rw [List.take_succ_eq_append_getElem hl, List.map_append, List.sum_append, he]
  simp
theorem once_le (ps : List Op21) (j : Nat) : ((ps.take j).map Op21.m).sum ≤ (ps.map Op21.m).sum := by
  conv => rhs; rw [← List.take_append_drop j ps, List.map_append, List.sum_append]
  omega
set_option maxRecDepth 100000 in
set_option maxHeartbeats 6400000 in
theorem lineOnce_any (k : Bool) (rt : Int) (r0 : 0 ≤ rt ∧ rt ≤ 255) (A : Option Addr) (n c R : Nat) (ps : List Op21) (w : World) (hx : RdOp21 w R A n ps) (hR : R ≤ 1000000000000000) (hn : n * 96 ≤ 140737488351232) :
    Calls Try.prog 5 #[.bool k, .int .u8 rt, .slice A n c] w fun e w' => e = .returned (.bool true) ∧ Ext w w' := by
  have hx' := Lib.hid hx
  have hm1 : Int.tmod rt 8 = rt % 8 := Int.tmod_eq_emod_of_nonneg r0.1
  have hm2 : IntKind.u8.wrap (rt % 8) = rt % 8 := by rw [IntKind.wrap_u8]; omega
  have hm3 : IntKind.i64.wrap (rt % 8) = rt % 8 := by rw [IntKind.wrap_i64]; omega
  have hre : 0 ≤ rt % 8 ∧ rt % 8 ≤ 7 := by omega
  clear hx
  go_enter Try.func5, Try.ntmps5
  go_wp2_with fail
  refine (lineHead_any w).mono ?_
  rintro e w1 ⟨rfl, E1⟩
  go_wp2_with fail
  generalize rt % 8 = re at *
  refine (lineNewL_any (k := k) (re := re) (wa := 3) w1 hre (by decide)).mono ?_
  rintro e w2 ⟨a, q, cu, co, s, rfl, h2, E2, hge⟩
  have h2' := Lib.hid h2
  have hge' := Lib.hid hge
  have EE := Lib.hid (E1.go E2)
  clear h2 hge
  go_wp2_with fail
  refine (great21_any A n c R ps w2 (hx'.out.ext EE.out) hR hn).mono ?_
  rintro e w3 ⟨x, rfl, hgr, E3⟩
  have hgr' := Lib.hid hgr
  have h3 := Lib.hid (h2'.out.ext E3)
  have E13 := Lib.hid (E2.go E3)
  have hx3 := Lib.hid (hx'.out.ext E1)
  have E01 := Lib.hid E1
  clear hgr E1 E2 E3 h2' hx' EE
  cases x
  case true =>
    go_wp2_with fail
    go_ret
    exact ⟨rfl, E01.out.go E13.out⟩
  case false =>
  obtain ⟨hn3, hsum, hsm⟩ := hgr'.out rfl
  have hsum' := Lib.hid hsum
  have hsm' := Lib.hid hsm
  clear hsum hsm
  go_wp2_with fail
  go_loopw [9, 10, 11] (fun u v i wr => OnceRel k a q cu co s n re ps w1 u v i wr) (fun _ _ i _ => n - (intOf i).toNat)
  case atStart => exact ⟨0, lineL0, 0, 0, by omega, rfl, rfl, rfl, by omega, rfl, h3.out, by simp [lineL0], E13.out⟩
  case round =>
    obtain ⟨j, L, put, don, hj, rfl, rfl, rfl, hpj, hpd, hH, hcm, E1⟩ := hrel
    have hH' := Lib.hid hH
    have hcm' := Lib.hid hcm
    have E1' := Lib.hid E1
    have hpd' := Lib.hid hpd
    have hdj : don ≤ 300 := by omega
    have hpj3 : put ≤ 300 := by omega
    have hpj' := Lib.hid hpj
    clear hH hcm hpd hpj
    by_cases hlt : j < n
    · obtain ⟨b, o, rfl, hb, p, hp, hpk, hc, hok⟩ := hx3.out.2 j hlt
      have hc' := fun i hi => (E1.cell (o + j * 11 + i) hb).trans (hc i hi)
      have hok' := Lib.hid (hok.ext E1)
      have hts := Lib.hid (once_sum hpk)
      have htl := Lib.hid (once_le ps (j + 1))
      have c0 : wr.cell? ⟨b, o + j * 11, none⟩ = some (.int .i64 p.what) := hc' 0 (by omega)
      have c1 : wr.cell? ⟨b, o + j * 11 + 1, none⟩ = some (.int .i64 p.id) := hc' 1 (by omega)
      have c2 : wr.cell? ⟨b, o + j * 11 + 2, none⟩ = some (.int .i64 p.un) := hc' 2 (by omega)
      have c3 : wr.cell? ⟨b, o + j * 11 + 3, none⟩ = some (.int .i64 p.fc) := hc' 3 (by omega)
      have c4 : wr.cell? ⟨b, o + j * 11 + 4, none⟩ = some (.int .i64 p.ad) := hc' 4 (by omega)
      have c5 : wr.cell? ⟨b, o + j * 11 + 5, none⟩ = some (.int .i64 p.qt) := hc' 5 (by omega)
      have c6 : wr.cell? ⟨b, o + j * 11 + 6, none⟩ = some (.slice p.qa p.qn p.qc) := hc' 6 (by omega)
      have c7 : wr.cell? ⟨b, o + j * 11 + 7, none⟩ = some (.int .i64 p.tw) := hc' 7 (by omega)
      have c8 : wr.cell? ⟨b, o + j * 11 + 8, none⟩ = some (.bool p.ur) := hc' 8 (by omega)
      have c9 : wr.cell? ⟨b, o + j * 11 + 9, none⟩ = some (.int .i64 p.now) := hc' 9 (by omega)
      have c10 : wr.cell? ⟨b, o + j * 11 + 10, none⟩ = some (.slice p.a p.m p.c) := hc' 10 (by omega)
      have XA := (Ext.refl wr).goA (.cells #[.int .i64 p.what, .int .i64 p.id, .int .i64 p.un, .int .i64 p.fc, .int .i64 p.ad, .int .i64 p.qt, .slice p.qa p.qn p.qc, .int .i64 p.tw, .bool p.ur, .int .i64 p.now, .slice p.a p.m p.c] 45)
      have QA := Lib.hid (heap_alloc_new wr (.cells #[.int .i64 p.what, .int .i64 p.id, .int .i64 p.un, .int .i64 p.fc, .int .i64 p.ad, .int .i64 p.qt, .slice p.qa p.qn p.qc, .int .i64 p.tw, .bool p.ur, .int .i64 p.now, .slice p.a p.m p.c] 45))
      have HA := Lib.hid (hH'.out.ext XA)
      have okA := Lib.hid (hok'.out.ext XA)
      have EA := Lib.hid (E1'.out.go XA)
      have qA := cellsAt QA.out
      clear hc hc' hp hpk hok hok' hH' E1 E1'
      obtain ⟨hmc, hqc, hrd, hrq, hwx, hwq, -⟩ := okA.out
      have hrd' := Lib.hid hrd
      have hrq' := Lib.hid hrq
      have hbx := Lib.hid (range_u8 hwx)
      have hbq := Lib.hid (range_u16 hwq)
      clear hrd hrq hwx hwq okA
      obtain ⟨what, id, un, fc, ad, qt, qa, qn, qc, vs, tw, ur, now, pa, pm, pc, xs⟩ := p
      dsimp only at *
      go_upto_region 11 with fail
      clear c0 c1 c2 c3 c4 c5 c6 c7 c8 c9 c10
      generalize wr.alloc (.cells #[.int .i64 what, .int .i64 id, .int .i64 un, .int .i64 fc, .int .i64 ad, .int .i64 qt, .slice qa qn qc, .int .i64 tw, .bool ur, .int .i64 now, .slice pa pm pc] 45) = W at *
      have q0 := qA 0
      have q1 := qA 1
      have q2 := qA 2
      have q3 := qA 3
      have q4 := qA 4
      have q5 := qA 5
      have q6 := qA 6
      have q7 := qA 7
      have q8 := qA 8
      have q9 := qA 9
      have q10 := qA 10
      have hgeW : ∀ i, LnB k a q cu co s i → w1.heap.size ≤ i := fun i hi => by have := hge'.out i hi; omega
      have hgeW' := Lib.hid hgeW
      clear hgeW qA
      have hb0 := Lib.hid (busyAny HA.out)
      unfold jobV at hb0
      go_upto_region 12 with (go_at_call 15; refine hb0.out.mono ?_; rintro _ W3 ⟨id', un', fc', ad', qt', Aj, nj, cj, to', ur', rfl, gj1, gj2, E3, hbz⟩; dsimp only)
      have E5 : Ext W (W3.alloc (.cells #[.int .i64 id', .int .i64 un', .int .i64 fc', .int .i64 ad', .int .i64 qt', .slice Aj nj cj, .int .i64 to', .bool ur'] 32)) := E3.goA _
      have b5 := heap_alloc_new W3 (.cells #[.int .i64 id', .int .i64 un', .int .i64 fc', .int .i64 ad', .int .i64 qt', .slice Aj nj cj, .int .i64 to', .bool ur'] 32)
      have x5 := (Ext.refl W3).goA (.cells #[.int .i64 id', .int .i64 un', .int .i64 fc', .int .i64 ad', .int .i64 qt', .slice Aj nj cj, .int .i64 to', .bool ur'] 32)
      have hvals : Hid (∀ W', Mod (LnB k a q cu co s) (W3.alloc (.cells #[.int .i64 id', .int .i64 un', .int .i64 fc', .int .i64 ad', .int .i64 qt', .slice Aj nj cj, .int .i64 to', .bool ur'] 32)) W' → L.busy = true → RdI W' W'.heap.size .u16 Aj nj L.J.xs) := Lib.hid (fun W' m hb => by
        obtain ⟨_, _, _, _, _, r, hf⟩ := hbz hb
        exact (r.ext x5).modS (fun _ b o e hS => by have := hf b o e; have := HA.out.lt hS; omega) m)
      have hjob : Hid (∀ W', Mod (LnB k a q cu co s) (W3.alloc (.cells #[.int .i64 id', .int .i64 un', .int .i64 fc', .int .i64 ad', .int .i64 qt', .slice Aj nj cj, .int .i64 to', .bool ur'] 32)) W' → W'.heap[W3.heap.size]? = some (.cells #[.int .i64 id', .int .i64 un', .int .i64 fc', .int .i64 ad', .int .i64 qt', .slice Aj nj cj, .int .i64 to', .bool ur'] 32 (0, 0))) := Lib.hid (fun W' m => (m.block _ (lt_of_block b5) (fun hS => by have := HA.out.lt hS; have := E3.size; omega)).trans b5)
      have hids : Hid (L.busy = true → id' = L.J.id ∧ fc' = L.J.fc ∧ ad' = L.J.ad ∧ qt' = L.J.qt ∧ to' = L.J.to) := Lib.hid (fun hb => by
        obtain ⟨h1, h2, h3, h4, h5, _⟩ := hbz hb
        exact ⟨h1, h2, h3, h4, h5⟩)
      generalize W3.alloc (.cells #[.int .i64 id', .int .i64 un', .int .i64 fc', .int .i64 ad', .int .i64 qt', .slice Aj nj cj, .int .i64 to', .bool ur'] 32) = W5 at *
      have H5 := Lib.hid (HA.out.ext E5)
      have EE5 := Lib.hid (EA.out.go E5)
      have rd5 := Lib.hid (hrd'.out.ext E5)
      have rq5 := Lib.hid (hrq'.out.ext E5)
      have hltW := lt_of_block QA.out
      have p0 := (E5.cell 0 hltW).trans q0
      have p1 := (E5.cell 1 hltW).trans q1
      have p2 := (E5.cell 2 hltW).trans q2
      have p3 := (E5.cell 3 hltW).trans q3
      have p4 := (E5.cell 4 hltW).trans q4
      have p5 := (E5.cell 5 hltW).trans q5
      have p6 := (E5.cell 6 hltW).trans q6
      have p7 := (E5.cell 7 hltW).trans q7
      have p8 := (E5.cell 8 hltW).trans q8
      have p9 := (E5.cell 9 hltW).trans q9
      have p10 := (E5.cell 10 hltW).trans q10
      have hcl : Hid (L.cm.length + pm ≤ 1000000) := Lib.hid (by have := hcm'.out; have := hts.out; have := htl.out; have := hsum'.out; omega)
      have hg5 : Hid (∀ i, LnB k a q cu co s i → w1.heap.size ≤ i) := hgeW'
      clear q0 q1 q2 q3 q4 q5 q6 q7 q8 q9 q10 hbz x5 b5 hb0 E3
      have hways : ((what == 2) = true) ∨ ((what == 2) = false ∧ (what == 3) = true) ∨ ((what == 2) = false ∧ (what == 3) = false ∧ (what == 4) = true) ∨ ((what == 2) = false ∧ (what == 3) = false ∧ (what == 4) = false) := by
        cases (what == 2) <;> cases (what == 3) <;> cases (what == 4) <;> simp
      go_upto_region 13 with fail
      go_cut [62] (fun t wx => t = .bool (what == 2 || what == 3) ∧ W5 = wx)
      case first =>
        rcases hways with g2 | ⟨g2, g3⟩ | ⟨g2, g3, _⟩ | ⟨g2, g3, _⟩
        · go_wp2_with fail
          go_meet
          exact ⟨by rw [g2]; rfl, rfl⟩
        all_goals
          go_wp2_with fail
          go_meet
          exact ⟨by rw [g2, g3]; rfl, rfl⟩
      case rest =>
      obtain ⟨rfl, hwc⟩ := hcut
      subst hwc
      go_upto_if 62 with fail
      go_cut [9, 15, 16, 17] (fun p d _ _ wx => ∃ (P : Nat) (ds : List Dn) (L' : Lp), p = .int .i64 (P : Int) ∧ P ≤ put + 1 ∧ OnceMid k a q cu co s re w1 W5 wx L L' W5.heap.size (((ps.take (j + 1)).map Op21.m).sum) put P d ds)
      case first =>
        rcases hways with g2 | ⟨g2, g3⟩ | ⟨g2, g3, g4⟩ | ⟨g2, g3, g4⟩
        · rw [show (what == 2 || what == 3) = true from by rw [g2]; rfl]
          go_wp2_with (go_at_call 14; refine (tickOnce H5.out now).mono ?_; rintro _ W6 ⟨v, d, rfl, ds, L', hD, m6, h6, hc6, hw6⟩; dsimp only)
          go_meet
          exact ⟨put, ds, L', rfl, by omega, hD, h6, EE5.out.goM m6 hg5.out, by have := hcm'.out; have := hts.out; omega, m6, hw6.way put⟩
        · rw [show (what == 2 || what == 3) = true from by rw [g2, g3]; rfl]
          go_wp2_with (go_at_call 14; refine (tickOnce H5.out now).mono ?_; rintro _ W6 ⟨v, d, rfl, ds, L', hD, m6, h6, hc6, hw6⟩; dsimp only)
          go_meet
          exact ⟨put, ds, L', rfl, by omega, hD, h6, EE5.out.goM m6 hg5.out, by have := hcm'.out; have := hts.out; omega, m6, hw6.way put⟩
        · rw [show (what == 2 || what == 3) = false from by rw [g2, g3]; rfl]
          go_wp2_with (go_at_call 17; refine (hearOnce H5.out hcl.out rd5.out hbx.out hmc.1 hmc.2).mono ?_; rintro _ W6 ⟨d, rfl, ds, L', hD, m6, h6, hc6, hw6⟩; dsimp only)
          go_meet
          exact ⟨put, ds, L', rfl, by omega, hD, h6, EE5.out.goM m6 hg5.out, by have := hcm'.out; have := hts.out; omega, m6, hw6.way put⟩
        · rw [show (what == 2 || what == 3) = false from by rw [g2, g3]; rfl]
          have hh := Lib.hid (askAny H5.out ⟨id, un, fc, ad, qt, vs, tw, ur⟩ (c := qc) rq5.out hbq.out (Nat.le_trans hqc.1 hqc.2))
          unfold jobV at hh
          dsimp only at hh
          go_wp2_with fail
          refine hh.out.mono ?_
          rintro e W6 ⟨bb, L', rfl, m6, h6, hk1, hk2, hk3, hk4, hk5⟩
          have htot : tot L' = tot L + (if bb = true then 1 else 0) := by unfold tot; rw [hk3]; omega
          have htot' := Lib.hid htot
          have hk2' := Lib.hid hk2
          clear hh hk1 hk2 hk3 hk4 hk5 htot
          cases bb
          · go_wp2_with fail
            go_meet
            exact ⟨put, [], L', rfl, by omega, DonesAt.nil _ _, h6, EE5.out.goM m6 hg5.out, by rw [hk2'.out]; have := hcm'.out; have := hts.out; omega, m6, .inl ⟨rfl, by rw [htot'.out]; simp⟩⟩
          · go_wp2_with fail
            go_meet
            exact ⟨put + 1, [], L', by push_cast; rfl, by omega, DonesAt.nil _ _, h6, EE5.out.goM m6 hg5.out, by rw [hk2'.out]; have := hcm'.out; have := hts.out; omega, m6, .inl ⟨rfl, by rw [htot'.out]; simp; omega⟩⟩
      case rest =>
      obtain ⟨P, ds, L', rfl, hP, hmid⟩ := hcut
      clear hways
      have hPj : Hid (P ≤ put + 1) := Lib.hid hP
      have hP3 : P ≤ 301 := by omega
      clear hP
      obtain ⟨hD, h6, E6, hcm6, m6, hway⟩ := hmid
      have h6' := Lib.hid h6
      have E6' := Lib.hid E6
      have hcm6' := Lib.hid hcm6
      have hj6 := Lib.hid (hjob.out wc m6)
      have hv6 := Lib.hid (hvals.out wc m6)
      clear h6 E6 hcm6 m6 p0 p1 p2 p3 p4 p5 p6 p7 p8 p9 p10 hvals hjob
      rcases hway with ⟨rfl, hpt⟩ | ⟨hpp, x, rfl, hbz, hxi, hxt, hxe⟩
      · obtain ⟨Ad, cd, rfl⟩ := done_nil hD
        have hcnt : Hid (P = don + tot L') := Lib.hid (by have := hpd'.out; omega)
        clear hD hpt
        go_upto_region 21 with fail
        go_quiet (fail)
        have E67 := (Ext.refl wc).goD nq
        generalize wc.drewN nq = W7 at *
        go_upto_region 23 with fail
        go_quiet (fail)
        have E78 := (Ext.refl W7).goD nq
        generalize W7.drewN nq = W8 at *
        have E68 := E67.go E78
        clear E67 E78
        obtain ⟨D, hD⟩ : ∃ D : Nat, (D : Int) = (don : Int) := ⟨don, rfl⟩
        rw [← hD]
        obtain rfl : D = don := by omega
        have h8 := Lib.hid (h6'.out.ext E68)
        obtain ⟨hs1, hs2⟩ := h8.out.small
        have hM := Lib.hid (manyIs h8.out)
        have EE8 := Lib.hid (E6'.out.go E68)
        clear E68
        go_upto_region 26 with (go_at_call 21; refine hM.out.mono ?_; rintro _ W9 ⟨rfl, E9⟩; dsimp only)
        have h9 := Lib.hid (h8.out.ext E9)
        have EE9 := Lib.hid (EE8.out.go E9)
        have hB := Lib.hid (busyAny h9.out)
        unfold jobV at hB
        clear E9 hM
        go_upto_region 27 with (go_at_call 15; refine hB.out.mono ?_; rintro _ W10 ⟨i1, u1, f1, a1, q1, A1, n1, c1, t1, r1, rfl, -, -, E10, -⟩; dsimp only)
        have h11 := Lib.hid (h9.out.ext (E10.goA (.cells #[.int .i64 i1, .int .i64 u1, .int .i64 f1, .int .i64 a1, .int .i64 q1, .slice A1 n1 c1, .int .i64 t1, .bool r1] 32)))
        have EE11 := Lib.hid (EE9.out.go (E10.goA (.cells #[.int .i64 i1, .int .i64 u1, .int .i64 f1, .int .i64 a1, .int .i64 q1, .slice A1 n1 c1, .int .i64 t1, .bool r1] 32)))
        generalize W10.alloc (.cells #[.int .i64 i1, .int .i64 u1, .int .i64 f1, .int .i64 a1, .int .i64 q1, .slice A1 n1 c1, .int .i64 t1, .bool r1] 32) = W11 at *
        clear E10 hB
        go_upto_region 28 with fail
        cases hbs : L'.busy
        · have hc : P = D + (L'.U.length + L'.O.length) := by have := hcnt.out; unfold tot at this; rw [hbs] at this; simpa using this
          have t30 : ((P : Int) != (D : Int) + ((L'.U.length : Int) + (L'.O.length : Int))) = false := by simp; omega
          have hc' := Lib.hid hc
          clear hc
          go_upto_region 30 with fail
          go_wp2_with fail
          go_roundw
          case rel => exact ⟨j + 1, L', P, D, by omega, by go_num, rfl, rfl, by have := hPj.out; have := hpj'.out; omega, hcnt.out, h11.out, hcm6'.out, EE11.out⟩
          case measure => simp [intOf]; omega
        · have hc : P = D + (L'.U.length + L'.O.length + 1) := by have := hcnt.out; unfold tot at this; rw [hbs] at this; simpa using this
          have t30 : ((P : Int) != (D : Int) + ((L'.U.length : Int) + (L'.O.length : Int) + 1)) = false := by simp; omega
          have hc' := Lib.hid hc
          clear hc
          go_upto_region 30 with fail
          go_wp2_with fail
          go_roundw
          case rel => exact ⟨j + 1, L', P, D, by omega, by go_num, rfl, rfl, by have := hPj.out; have := hpj'.out; omega, hcnt.out, h11.out, hcm6'.out, EE11.out⟩
          case measure => simp [intOf]; omega
      · obtain ⟨gd, cd, A4, n4, c4, rfl, hgd, ⟨d0, d1, d2, d3⟩, r4, n4c, c4m⟩ := done_one hD
        obtain ⟨rfl, rfl, rfl, rfl, rfl⟩ := hids.out hbz
        rw [hbz]
        have hcnt0 : P = don + 1 + tot L' := by have := hpd'.out; omega
        have hv := hv6.out hbz
        rw [hxi] at d0
        have j0 : wc.cell? ⟨W3.heap.size, 0, none⟩ = some (.int .i64 L.J.id) := cellsAt hj6.out 0
        have hlj := lt_of_block hj6.out
        have hld := cell_lt d0
        have hcnt0' := Lib.hid hcnt0
        have hv' := Lib.hid hv
        have r4' := Lib.hid r4
        have hxe' := Lib.hid hxe
        clear hD hcnt0 hv r4 hpp hxt hxe hids
        go_upto_region 21 with fail
        go_quiet (fail)
        have E67 := (Ext.refl wc).goD nq
        generalize wc.drewN nq = W7 at *
        clear j0 d0
        have d1 := (E67.cell _ hld).trans d1
        have d2 := (E67.cell _ hld).trans d2
        have d3 := (E67.cell _ hld).trans d3
        have j7 := Lib.hid ((E67.block _ hlj).trans hj6.out)
        have hlj7 := lt_of_block j7.out
        have hld7 := cell_lt d1
        obtain ⟨D, hD⟩ : ∃ D : Nat, (D : Int) = (don : Int) + 1 := ⟨don + 1, rfl⟩
        go_upto_region 23 with fail
        rw [← hD]
        have hDd : D ≤ 301 := by omega
        have hcnt : Hid (P = D + tot L') := Lib.hid (by have := hcnt0'.out; omega)
        clear hD
        rcases hxe'.out with he | ⟨he, hans⟩
        · have t : (x.err != 211) = false := by rw [he]; rfl
          go_quiet (fail)
          have E78 := (Ext.refl W7).goD nq
          generalize W7.drewN nq = W8 at *
          have E68 := E67.go E78
          clear E67 E78 d1 d2 d3
          have h8 := Lib.hid (h6'.out.ext E68)
          obtain ⟨hs1, hs2⟩ := h8.out.small
          have hM := Lib.hid (manyIs h8.out)
          have EE8 := Lib.hid (E6'.out.go E68)
          clear E68
          go_upto_region 26 with (go_at_call 21; refine hM.out.mono ?_; rintro _ W9 ⟨rfl, E9⟩; dsimp only)
          have h9 := Lib.hid (h8.out.ext E9)
          have EE9 := Lib.hid (EE8.out.go E9)
          have hB := Lib.hid (busyAny h9.out)
          unfold jobV at hB
          clear E9 hM
          go_upto_region 27 with (go_at_call 15; refine hB.out.mono ?_; rintro _ W10 ⟨i1, u1, f1, a1, q1, A1, n1, c1, t1, r1, rfl, -, -, E10, -⟩; dsimp only)
          have h11 := Lib.hid (h9.out.ext (E10.goA (.cells #[.int .i64 i1, .int .i64 u1, .int .i64 f1, .int .i64 a1, .int .i64 q1, .slice A1 n1 c1, .int .i64 t1, .bool r1] 32)))
          have EE11 := Lib.hid (EE9.out.go (E10.goA (.cells #[.int .i64 i1, .int .i64 u1, .int .i64 f1, .int .i64 a1, .int .i64 q1, .slice A1 n1 c1, .int .i64 t1, .bool r1] 32)))
          generalize W10.alloc (.cells #[.int .i64 i1, .int .i64 u1, .int .i64 f1, .int .i64 a1, .int .i64 q1, .slice A1 n1 c1, .int .i64 t1, .bool r1] 32) = W11 at *
          clear E10 hB
          go_upto_region 28 with fail
          cases hbs : L'.busy
          · have hc : P = D + (L'.U.length + L'.O.length) := by have := hcnt.out; unfold tot at this; rw [hbs] at this; simpa using this
            have t30 : ((P : Int) != (D : Int) + ((L'.U.length : Int) + (L'.O.length : Int))) = false := by simp; omega
            have hc' := Lib.hid hc
            clear hc
            go_upto_region 30 with fail
            go_wp2_with fail
            go_roundw
            case rel => exact ⟨j + 1, L', P, D, by omega, by go_num, rfl, rfl, by have := hPj.out; have := hpj'.out; omega, hcnt.out, h11.out, hcm6'.out, EE11.out⟩
            case measure => simp [intOf]; omega
          · have hc : P = D + (L'.U.length + L'.O.length + 1) := by have := hcnt.out; unfold tot at this; rw [hbs] at this; simpa using this
            have t30 : ((P : Int) != (D : Int) + ((L'.U.length : Int) + (L'.O.length : Int) + 1)) = false := by simp; omega
            have hc' := Lib.hid hc
            clear hc
            go_upto_region 30 with fail
            go_wp2_with fail
            go_roundw
            case rel => exact ⟨j + 1, L', P, D, by omega, by go_num, rfl, rfl, by have := hPj.out; have := hpj'.out; omega, hcnt.out, h11.out, hcm6'.out, EE11.out⟩
            case measure => simp [intOf]; omega
        · have t : (x.err != 211) = true := bne_iff_ne.2 he
          have hr := Lib.hid (fun W' (E : Ext W7 W') => (by simpa [hans] using ref05Right_any L.J.fc L.J.ad L.J.qt L.J.to x.code Aj A4 nj cj n4 c4 L.J.xs x.xs W' ((hv'.out.ext E67).ext E) ((r4'.out.ext E67).ext E) (Nat.le_trans gj1 gj2) (Nat.le_trans n4c c4m) : Calls Try.prog 20 #[.agg #[.int .i64 L.J.fc, .int .i64 L.J.ad, .int .i64 L.J.qt, .slice Aj nj cj, .int .i64 L.J.to], .agg #[.int .i64 x.code, .slice A4 n4 c4]] W' fun e w' => e = .returned (.bool true) ∧ Ext W' w'))
          have u1 : ∀ W', Ext W7 W' → W'.cell? ⟨gd, 0 + 1, none⟩ = some (.int .i64 x.err) := fun W' E => (E.cell _ hld7).trans d1
          have u2 : ∀ W', Ext W7 W' → W'.cell? ⟨gd, 0 + 2, none⟩ = some (.int .i64 x.code) := fun W' E => (E.cell _ hld7).trans d2
          have u3 : ∀ W', Ext W7 W' → W'.cell? ⟨gd, 0 + 3, none⟩ = some (.slice A4 n4 c4) := fun W' E => (E.cell _ hld7).trans d3
          have v2 : ∀ W', Ext W7 W' → W'.cell? ⟨W3.heap.size, 2, none⟩ = some (.int .i64 L.J.fc) := fun W' E => cellsAt ((E.block _ hlj7).trans j7.out) 2
          have v3 : ∀ W', Ext W7 W' → W'.cell? ⟨W3.heap.size, 3, none⟩ = some (.int .i64 L.J.ad) := fun W' E => cellsAt ((E.block _ hlj7).trans j7.out) 3
          have v4 : ∀ W', Ext W7 W' → W'.cell? ⟨W3.heap.size, 4, none⟩ = some (.int .i64 L.J.qt) := fun W' E => cellsAt ((E.block _ hlj7).trans j7.out) 4
          have v5 : ∀ W', Ext W7 W' → W'.cell? ⟨W3.heap.size, 5, none⟩ = some (.slice Aj nj cj) := fun W' E => cellsAt ((E.block _ hlj7).trans j7.out) 5
          have v6 : ∀ W', Ext W7 W' → W'.cell? ⟨W3.heap.size, 6, none⟩ = some (.int .i64 L.J.to) := fun W' E => cellsAt ((E.block _ hlj7).trans j7.out) 6
          clear d1 d2 d3 hans he
          refine wp_region_held_drew (S := fun W' => Ext W7 W') (by kernel_rfl) ((Ext.refl W7).god) (fun hHeld => ?_)
          refine wpAnyH_take (i := 0) (oi := _) (v := ?_) rfl (by kernel_rfl) (by kernel_rfl) (by kernel_rfl) (fun _ _ _ h => h) (Or.inl ⟨by rfl, ?_⟩) (by assumption) ?_
          rotate_left
          · intro w hSw
            (try dsimp only at hSw)
            go_simp
            try (with_reducible rfl)
          try simp only [Act.put, List.getElem_toArray, List.getElem_cons_zero, List.setIfInBounds_toArray, List.set_cons_zero, List.set_cons_succ]
          refine wpAnyH_take (i := 1) (oi := _) (v := ?_) rfl (by kernel_rfl) (by kernel_rfl) (by kernel_rfl) (fun _ _ _ h => h) (Or.inl ⟨by rfl, ?_⟩) (by assumption) ?_
          rotate_left
          · intro w hSw
            (try dsimp only at hSw)
            go_simp
            try (with_reducible rfl)
          try simp only [Act.put, List.getElem_toArray, List.getElem_cons_succ, List.getElem_cons_zero, List.setIfInBounds_toArray, List.set_cons_zero, List.set_cons_succ]
          refine wpAnyH_take (i := 2) (oi := _) (v := ?_) rfl (by kernel_rfl) (by kernel_rfl) (by kernel_rfl) (fun _ _ _ h => h) (Or.inl ⟨by rfl, ?_⟩) (by assumption) ?_
          rotate_left
          · intro w hSw
            (try dsimp only at hSw)
            go_simp
            try (with_reducible rfl)
          try simp only [Act.put, List.getElem_toArray, List.getElem_cons_succ, List.getElem_cons_zero, List.setIfInBounds_toArray, List.set_cons_zero, List.set_cons_succ]
          refine wpAnyH_take (i := 3) (oi := _) (v := ?_) rfl (by kernel_rfl) (by kernel_rfl) (by kernel_rfl) (fun _ _ _ h => h) (Or.inl ⟨by rfl, ?_⟩) (by assumption) ?_
          rotate_left
          · intro w hSw
            (try dsimp only at hSw)
            go_simp
            try (with_reducible rfl)
          try simp only [Act.put, List.getElem_toArray, List.getElem_cons_succ, List.getElem_cons_zero, List.setIfInBounds_toArray, List.set_cons_zero, List.set_cons_succ]
          refine wpAnyH_take (i := 4) (oi := _) (v := ?_) rfl (by kernel_rfl) (by kernel_rfl) (by kernel_rfl) (fun _ _ _ h => h) (Or.inl ⟨by rfl, ?_⟩) (by assumption) ?_
          rotate_left
          · intro w hSw
            (try dsimp only at hSw)
            go_simp
            try (with_reducible rfl)
          try simp only [Act.put, List.getElem_toArray, List.getElem_cons_succ, List.getElem_cons_zero, List.setIfInBounds_toArray, List.set_cons_zero, List.set_cons_succ]
          refine wpAnyH_take (i := 5) (oi := _) (v := ?_) rfl (by kernel_rfl) (by kernel_rfl) (by kernel_rfl) (fun _ _ _ h => h) (Or.inl ⟨by rfl, ?_⟩) (by assumption) ?_
          rotate_left
          · intro w hSw
            (try dsimp only at hSw)
            go_simp
            try (with_reducible rfl)
          try simp only [Act.put, List.getElem_toArray, List.getElem_cons_succ, List.getElem_cons_zero, List.setIfInBounds_toArray, List.set_cons_zero, List.set_cons_succ]
          refine wpAnyH_take (i := 6) (oi := _) (v := ?_) rfl (by kernel_rfl) (by kernel_rfl) (by kernel_rfl) (fun _ _ _ h => h) (Or.inl ⟨by rfl, ?_⟩) (by assumption) ?_
          rotate_left
          · intro w hSw
            (try dsimp only at hSw)
            go_simp
            try (with_reducible rfl)
          try simp only [Act.put, List.getElem_toArray, List.getElem_cons_succ, List.getElem_cons_zero, List.setIfInBounds_toArray, List.set_cons_zero, List.set_cons_succ]
          refine wpAnyH_take (i := 7) (oi := _) (v := ?_) rfl (by kernel_rfl) (by kernel_rfl) (by kernel_rfl) (fun _ _ _ h => h) (Or.inl ⟨by rfl, ?_⟩) (by assumption) ?_
          rotate_left
          · intro w hSw
            (try dsimp only at hSw)
            go_simp
            try (with_reducible rfl)
          try simp only [Act.put, List.getElem_toArray, List.getElem_cons_succ, List.getElem_cons_zero, List.setIfInBounds_toArray, List.set_cons_zero, List.set_cons_succ]
          refine wpAnyH_take (i := 8) (oi := _) (v := ?_) rfl (by kernel_rfl) (by kernel_rfl) (by kernel_rfl) (fun _ _ _ h => h) (Or.inl ⟨by rfl, ?_⟩) (by assumption) ?_
          rotate_left
          · intro w hSw
            (try dsimp only at hSw)
            go_simp
            try (with_reducible rfl)
          try simp only [Act.put, List.getElem_toArray, List.getElem_cons_succ, List.getElem_cons_zero, List.setIfInBounds_toArray, List.set_cons_zero, List.set_cons_succ]
          refine wpAnyH_take (i := 9) (oi := _) (v := ?_) rfl (by kernel_rfl) (by kernel_rfl) (by kernel_rfl) (fun _ _ _ h => h) (Or.inl ⟨by rfl, ?_⟩) (by assumption) ?_
          rotate_left
          · intro w hSw
            (try dsimp only at hSw)
            go_simp
            try (with_reducible rfl)
          try simp only [Act.put, List.getElem_toArray, List.getElem_cons_succ, List.getElem_cons_zero, List.setIfInBounds_toArray, List.set_cons_zero, List.set_cons_succ]
          refine wpAnyH_take (i := 10) (oi := _) (v := ?_) rfl (by kernel_rfl) (by kernel_rfl) (by kernel_rfl) (fun _ _ _ h => h) (Or.inl ⟨by rfl, ?_⟩) (by assumption) ?_
          rotate_left
          · intro w hSw
            (try dsimp only at hSw)
            go_simp
            try (with_reducible rfl)
          try simp only [Act.put, List.getElem_toArray, List.getElem_cons_succ, List.getElem_cons_zero, List.setIfInBounds_toArray, List.set_cons_zero, List.set_cons_succ]
          refine wpAnyH_take (i := 11) (oi := _) (v := ?_) rfl (by kernel_rfl) (by kernel_rfl) (by kernel_rfl) (fun _ _ _ h => h) (Or.inl ⟨by rfl, ?_⟩) (by assumption) ?_
          rotate_left
          · intro w hSw
            (try dsimp only at hSw)
            go_simp
            try (with_reducible rfl)
          try simp only [Act.put, List.getElem_toArray, List.getElem_cons_succ, List.getElem_cons_zero, List.setIfInBounds_toArray, List.set_cons_zero, List.set_cons_succ]
          refine wpAnyH_take (i := 12) (oi := _) (v := ?_) rfl (by kernel_rfl) (by kernel_rfl) (by kernel_rfl) (fun _ _ _ h => h) (Or.inl ⟨by rfl, ?_⟩) (by assumption) ?_
          rotate_left
          · intro w hSw
            (try dsimp only at hSw)
            go_simp
            try (with_reducible rfl)
          try simp only [Act.put, List.getElem_toArray, List.getElem_cons_succ, List.getElem_cons_zero, List.setIfInBounds_toArray, List.set_cons_zero, List.set_cons_succ]
          refine wpAnyH_take (i := 13) (oi := _) (v := ?_) rfl (by kernel_rfl) (by kernel_rfl) (by kernel_rfl) (fun _ _ _ h => h) (Or.inl ⟨by rfl, ?_⟩) (by assumption) ?_
          rotate_left
          · intro w hSw
            (try dsimp only at hSw)
            go_simp
            try (with_reducible rfl)
          try simp only [Act.put, List.getElem_toArray, List.getElem_cons_succ, List.getElem_cons_zero, List.setIfInBounds_toArray, List.set_cons_zero, List.set_cons_succ]
          refine wpAnyH_take (i := 14) (oi := _) (v := ?_) rfl (by kernel_rfl) (by kernel_rfl) (by kernel_rfl) (fun _ _ _ h => h) (Or.inl ⟨by rfl, ?_⟩) (by assumption) ?_
          rotate_left
          · intro w hSw
            (try dsimp only at hSw)
            go_simp
            try (with_reducible rfl)
          try simp only [Act.put, List.getElem_toArray, List.getElem_cons_succ, List.getElem_cons_zero, List.setIfInBounds_toArray, List.set_cons_zero, List.set_cons_succ]
          refine wpAnyH_take (i := 15) (oi := _) (v := ?_) rfl (by kernel_rfl) (by kernel_rfl) (by kernel_rfl) (fun _ _ _ h => h) (Or.inl ⟨by rfl, ?_⟩) (by assumption) ?_
          rotate_left
          · intro w hSw
            (try dsimp only at hSw)
            go_simp
            try (with_reducible rfl)
          try simp only [Act.put, List.getElem_toArray, List.getElem_cons_succ, List.getElem_cons_zero, List.setIfInBounds_toArray, List.set_cons_zero, List.set_cons_succ]
          refine wpAnyH_take (i := 16) (oi := _) (v := ?_) rfl (by kernel_rfl) (by kernel_rfl) (by kernel_rfl) (fun _ _ _ h => h) (Or.inl ⟨by rfl, ?_⟩) (by assumption) ?_
          rotate_left
          · intro w hSw
            (try dsimp only at hSw)
            go_simp
            try (with_reducible rfl)
          try simp only [Act.put, List.getElem_toArray, List.getElem_cons_succ, List.getElem_cons_zero, List.setIfInBounds_toArray, List.set_cons_zero, List.set_cons_succ]
          refine wpAnyH_ready (rs := [17]) (by kernel_rfl) (by simp) ?_
          refine AllReadyH.cons rfl (fun K hK => ?_) ?_
          rotate_left
          · exact AllReadyH.nil
          go_simp
          go_at_call 20
          refine (hr.out _ hHeld).mono ?_
          rintro _ Wa ⟨rfl, Ep⟩
          have hHeldp := Ext.go hHeld Ep
          try dsimp only
          refine hK.out _ _ ?_ (fun hHeld => ?_)
          · first | assumption | (dsimp only; assumption)
          clear hK K
          try simp only [Act.put, List.getElem_toArray, List.getElem_cons_succ, List.getElem_cons_zero, List.setIfInBounds_toArray, List.set_cons_zero, List.set_cons_succ]
          refine wpAnyH_take (i := 18) (oi := _) (v := ?_) rfl (by kernel_rfl) (by kernel_rfl) (by kernel_rfl) (fun _ _ _ h => h) (Or.inl ⟨by rfl, ?_⟩) (by assumption) ?_
          rotate_left
          · intro w hSw
            (try dsimp only at hSw)
            go_simp
            try (with_reducible rfl)
          try simp only [Act.put, List.getElem_toArray, List.getElem_cons_succ, List.getElem_cons_zero, List.setIfInBounds_toArray, List.set_cons_zero, List.set_cons_succ]
          refine wpAnyH_take (i := 19) (oi := _) (v := ?_) rfl (by kernel_rfl) (by kernel_rfl) (by kernel_rfl) (fun _ _ _ h => h) (Or.inl ⟨by rfl, ?_⟩) (by assumption) ?_
          rotate_left
          · intro w hSw
            (try dsimp only at hSw)
            go_simp
            try (with_reducible rfl)
          try simp only [Act.put, List.getElem_toArray, List.getElem_cons_succ, List.getElem_cons_zero, List.setIfInBounds_toArray, List.set_cons_zero, List.set_cons_succ]
          refine wpAnyH_done (by kernel_rfl) ?_ _
          have E68 := E67.go hHeldp
          clear u1 u2 u3 v2 v3 v4 v5 v6 hr E67
          have h8 := Lib.hid (h6'.out.ext E68)
          obtain ⟨hs1, hs2⟩ := h8.out.small
          have hM := Lib.hid (manyIs h8.out)
          have EE8 := Lib.hid (E6'.out.go E68)
          clear E68
          go_upto_region 26 with (go_at_call 21; refine hM.out.mono ?_; rintro _ W9 ⟨rfl, E9⟩; dsimp only)
          have h9 := Lib.hid (h8.out.ext E9)
          have EE9 := Lib.hid (EE8.out.go E9)
          have hB := Lib.hid (busyAny h9.out)
          unfold jobV at hB
          clear E9 hM
          go_upto_region 27 with (go_at_call 15; refine hB.out.mono ?_; rintro _ W10 ⟨i1, u1, f1, a1, q1, A1, n1, c1, t1, r1, rfl, -, -, E10, -⟩; dsimp only)
          have h11 := Lib.hid (h9.out.ext (E10.goA (.cells #[.int .i64 i1, .int .i64 u1, .int .i64 f1, .int .i64 a1, .int .i64 q1, .slice A1 n1 c1, .int .i64 t1, .bool r1] 32)))
          have EE11 := Lib.hid (EE9.out.go (E10.goA (.cells #[.int .i64 i1, .int .i64 u1, .int .i64 f1, .int .i64 a1, .int .i64 q1, .slice A1 n1 c1, .int .i64 t1, .bool r1] 32)))
          generalize W10.alloc (.cells #[.int .i64 i1, .int .i64 u1, .int .i64 f1, .int .i64 a1, .int .i64 q1, .slice A1 n1 c1, .int .i64 t1, .bool r1] 32) = W11 at *
          clear E10 hB
          go_upto_region 28 with fail
          cases hbs : L'.busy
          · have hc : P = D + (L'.U.length + L'.O.length) := by have := hcnt.out; unfold tot at this; rw [hbs] at this; simpa using this
            have t30 : ((P : Int) != (D : Int) + ((L'.U.length : Int) + (L'.O.length : Int))) = false := by simp; omega
            have hc' := Lib.hid hc
            clear hc
            go_upto_region 30 with fail
            go_wp2_with fail
            go_roundw
            case rel => exact ⟨j + 1, L', P, D, by omega, by go_num, rfl, rfl, by have := hPj.out; have := hpj'.out; omega, hcnt.out, h11.out, hcm6'.out, EE11.out⟩
            case measure => simp [intOf]; omega
          · have hc : P = D + (L'.U.length + L'.O.length + 1) := by have := hcnt.out; unfold tot at this; rw [hbs] at this; simpa using this
            have t30 : ((P : Int) != (D : Int) + ((L'.U.length : Int) + (L'.O.length : Int) + 1)) = false := by simp; omega
            have hc' := Lib.hid hc
            clear hc
            go_upto_region 30 with fail
            go_wp2_with fail
            go_roundw
            case rel => exact ⟨j + 1, L', P, D, by omega, by go_num, rfl, rfl, by have := hPj.out; have := hpj'.out; omega, hcnt.out, h11.out, hcm6'.out, EE11.out⟩
            case measure => simp [intOf]; omega
    · obtain rfl : j = n := by omega
      go_wp2_with fail
      go_ret
      exact ⟨rfl, E01.out.go E1'.out⟩
end Go.Proofs.Ytgagpalffdgjnaa
