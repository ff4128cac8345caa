/- Layer 23, the law SlaveShows: walked. -/
import Derived.Test.YtgeahfkhfpdlhaaSlvKeep
import Derived.Test.YtgeahfkhfpdlhaaG23
import Derived.Test.YtgeahfkhfpdlhaaG14
import Derived.Test.YtgeahfkhfpdlhaaRef05D
namespace Go.Proofs.Ytgeahfkhfpdlhaa
open Go.RowKit

/-- Where a bank's rows are behind a call as they were ahead of it, nothing that was there has turned. -/
theorem Bk.still {w w' : World} {g : Nat} {L : Nat → List Int} {G : Nat → Nat} (h : Bk w g L G) (h' : Bk w' g L G) (M : Mod (RowsOf G) w w') : Ext w w' :=
  ⟨M.os, M.tape, M.output, M.size, fun i hi => by
    by_cases hr : RowsOf G i
    · obtain ⟨k, hk, rfl⟩ := hr
      exact (h'.row k hk).trans (h.row k hk).symm
    · exact M.block i hi hr⟩
theorem shRegsL_range (v : Vw) : ∀ j : Nat, 0 ≤ (shRegsL v)[j]?.getD 0 ∧ (shRegsL v)[j]?.getD 0 ≤ 65535 := fun j => by
  unfold shRegsL
  rw [List.getElem?_map]
  cases (List.range 34)[j]? with
  | none => simp
  | some i => exact shRegAt_range v i
theorem shBitsL_range (v : Vw) : ∀ j : Nat, 0 ≤ (shBitsL v)[j]?.getD 0 ∧ (shBitsL v)[j]?.getD 0 ≤ 65535 := fun j => by
  unfold shBitsL
  rw [List.getElem?_map]
  cases (List.range 32)[j]? with
  | none => simp
  | some i => have := shBitAt_range v i; simp; omega
def readR : List Int := putL 4 0 34 0 []
def readI : List Int := putL 2 0 32 0 []
/-- The two last readings of a slave that shows a view. -/
theorem shows_reads {w : World} {s g : Nat} {L : Nat → List Int} {G : Nat → Nat} (v : Vw) (S : Sv w s g L G) (hR : RestL L) (h1 : L 1 = shBitsL v) (h3 : L 3 = shRegsL v) :
    (serveY L readR = repR 4 0 34 0 [] 0 (shRegsL v) ∧ toldB L readR = false ∧ servS L readR = L ∧ ansR 4 0 34 0 [] 0 (shRegsL v) = true) ∧
    (serveY L readI = repR 2 0 32 0 [] 0 (shBitsL v) ∧ toldB L readI = false ∧ servS L readI = L ∧ ansR 2 0 32 0 [] 0 (shBitsL v) = true) := by
  have a := serve_whole (L := L) (fc := 4) (kd := 3) (n := 34) hR (by kernel_rfl) (by decide) (by omega) (by decide) (by decide) (by decide) S.l3 (by omega)
  have b := serve_whole (L := L) (fc := 2) (kd := 1) (n := 32) hR (by kernel_rfl) (by decide) (by omega) (by decide) (by decide) (by decide) S.l1 (by omega)
  rw [h3] at a
  rw [h1] at b
  exact ⟨a, b⟩
theorem serve_still {s g : Nat} {A : Option Addr} {n c : Nat} {l ys : List Int} {L : Nat → List Int} {G : Nat → Nat} {w : World} (hS : Sv w s g L G) (hx : RdI w w.heap.size .u8 A n l) (hl : ByteL l) (hnc : n ≤ c) (hcm : c ≤ maxLen)
    (hy : serveY L l = ys) (ht : toldB L l = false) (hs : servS L l = L) :
    Calls Try.prog 60 #[.pointer (some ⟨s, 0, none⟩), .slice A n c] w fun e w' => ∃ A' n' c', e = .returned (.tuple #[.slice A' n' c', .agg #[.int .i64 0, .int .i64 0, .int .i64 0, .string ⟨#[]⟩], .bool false]) ∧ n' ≤ c' ∧ c' ≤ maxLen ∧ RdI w' w'.heap.size .u8 A' n' ys ∧ Sv w' s g L G ∧ Ext w w' := by
  refine (slvServe_any s g A n c l L G w hS hx hl hnc hcm).mono ?_
  rintro e w' ⟨A', n', c', rfl, h1, h2, h3, h4, h5⟩
  rw [hs] at h4
  refine ⟨A', n', c', ?_, h1, h2, hy ▸ h3, h4, hS.bk.still h4.bk h5⟩
  have hc : servC L l = #[.int .i64 0, .int .i64 0, .int .i64 0, .string ⟨#[]⟩] := by unfold servC; rw [ht, if_neg (by decide)]
  rw [hc, ht]
set_option maxRecDepth 100000 in
set_option maxHeartbeats 12800000 in
theorem slaveShows_any (A B : Option Addr) (n c m d R : Nat) (ps : List Op23) (zs : List Sl) (v : Vw) (w : World) (hx : RdOp23 w R A n ps) (hv : RdVw w v) (hz : RdSl w w.heap.size .u8 B m zs) (hzb : ∀ z ∈ zs, ∀ j : Nat, 0 ≤ z.xs[j]?.getD 0 ∧ z.xs[j]?.getD 0 ≤ 255) (hs : v.small R) (hR : R ≤ 1000000000000000) (hn : n * 96 ≤ 140737488351232) (hm : m ≤ maxLen) :
    Calls Try.prog 13 #[.slice A n c, .agg v.cells, .slice B m d] w fun e w' => e = .returned (.bool true) ∧ Ext w w' := by
  have hgv := fun w' => greatView_any v w' (by unfold Vw.small at hs; omega) (by unfold Vw.small at hs; omega) (by unfold Vw.small at hs; omega) (by unfold Vw.small at hs; omega) (by unfold Vw.small at hs; omega) (by unfold Vw.small at hs; omega)
  have hgr := fun w' (E : Ext w w') => great23_any A n c R ps w' (hx.ext E) hR hn
  have W0 := heap_alloc_new w (.cells #[.slice v.aL v.looks.length v.cL, .int .i64 v.horn, .slice v.aC v.cs.length v.cC, .slice v.aE v.es.length v.cE, .slice v.aB v.bs.length v.cB, .slice v.aT v.ts.length v.cT, .slice v.aN v.ns.length v.cN] 88)
  have E0 := (Ext.refl w).goA (.cells #[.slice v.aL v.looks.length v.cL, .int .i64 v.horn, .slice v.aC v.cs.length v.cC, .slice v.aE v.es.length v.cE, .slice v.aB v.bs.length v.cB, .slice v.aT v.ts.length v.cT, .slice v.aN v.ns.length v.cN] 88)
  have bq : ∀ w', Ext (w.alloc (.cells #[.slice v.aL v.looks.length v.cL, .int .i64 v.horn, .slice v.aC v.cs.length v.cC, .slice v.aE v.es.length v.cE, .slice v.aB v.bs.length v.cB, .slice v.aT v.ts.length v.cT, .slice v.aN v.ns.length v.cN] 88)) w' → ∀ o, w'.cell? ⟨w.heap.size, o, none⟩ = _ := fun w' D => cellsAt ((D.block w.heap.size (by simp)).trans W0)
  have hreg := Lib.hid (fun w' (E : Ext w w') => slvRegs_any v w' (hv.ext E))
  have hbit := Lib.hid (fun w' (E : Ext w w') => slvBits_any v w' (hv.ext E))
  have hshow := Lib.hid (fun (s g : Nat) (L : Nat → List Int) (G : Nat → Nat) (w' : World) (h1 : Sv w' s g L G) (h2 : ∀ w'', Mod (RowsOf G) w' w'' → Ext w w'') => slvShow_any s g v L G w' h1 (fun w'' M => hv.ext (h2 w'' M)))
  have bq' := Lib.hid bq
  have hgv' := Lib.hid hgv
  have hgr' := Lib.hid hgr
  have hx' := Lib.hid hx
  have hz' := Lib.hid hz
  have hzb' := Lib.hid hzb
  have hn' : n ≤ 1466015503659 := by omega
  have hm' := hm
  unfold maxLen at hm
  clear bq hgv hgr W0 hv hx hz hzb hs hR hn hm'
  unfold Vw.cells at *
  go_enter Try.func13, Try.ntmps13
  go_wp2_with fail
  generalize w.alloc (.cells #[.slice v.aL v.looks.length v.cL, .int .i64 v.horn, .slice v.aC v.cs.length v.cC, .slice v.aE v.es.length v.cE, .slice v.aB v.bs.length v.cB, .slice v.aT v.ts.length v.cT, .slice v.aN v.ns.length v.cN] 88) = W0 at *
  refine (slvHead_any W0).mono ?_
  rintro e W1 ⟨rfl, D1⟩
  go_wp2_with fail
  refine (slvNew_any W1).mono ?_
  rintro e W2 ⟨s, g, G, rfl, S2, D2, hg, hs⟩
  have hrow : ∀ i, RowsOf G i → W0.heap.size ≤ i := fun i h => by obtain ⟨k, hk, rfl⟩ := h; have := S2.bk.gt hk; have := D1.size; omega
  have S2' := Lib.hid S2
  have hrow' := Lib.hid hrow
  have E2 := D1.go D2
  clear S2 hrow hg hs D1 D2
  go_wp2_with fail
  refine (hgr'.out W2 (E0.go E2)).mono ?_
  rintro e W3 ⟨x3, rfl, hx3, D3⟩
  have E3 := E2.go D3
  cases x3
  case true =>
    go_wp2_with fail
    go_ret
    exact ⟨rfl, E0.go E3⟩
  case false =>
  have q3 := bq'.out W3 E3
  have S3' := Lib.hid (S2'.out.ext D3)
  clear S2' E2 D3 hgr' hx3
  go_wp2_with fail
  refine (hgv'.out W3).mono ?_
  rintro e W4 ⟨x4, rfl, hx4, D4⟩
  have E4 := E3.go D4
  cases x4
  case true =>
    go_wp2_with fail
    go_ret
    exact ⟨rfl, E0.go E4⟩
  case false =>
  have S4' := Lib.hid (S3'.out.ext D4)
  clear q3 S3' E3 D4 hgv' hx4
  by_cases h100 : 100 < m
  · have f1 : decide (100 < (m : Int)) = true := by simp; omega
    go_wp2_with fail
    go_ret
    exact ⟨rfl, E0.go E4⟩
  have f1 : decide (100 < (m : Int)) = false := by simp; omega
  go_wp2_with fail
  clear f1
  go_loopw [9] (fun i wr => ∃ k : Nat, k ≤ n ∧ i = .int .i64 k ∧ ∃ L, Sv wr s g L G ∧ RestL L ∧ Ext W0 wr) (fun i _ => n - (intOf i).toNat)
  case atStart => exact ⟨0, by omega, rfl, slvL0, S4'.out, rest_new, E4⟩
  case round =>
    obtain ⟨k, hk, rfl, L, hS, hRe, hE⟩ := hrel
    have hS' := Lib.hid hS
    have hRe' := Lib.hid hRe
    clear hS hRe
    by_cases hlt : k < n
    · obtain ⟨b, o, rfl, hb, p, hp, hpk, hc, hok⟩ := hx'.out.2 k hlt
      have hc' := fun i hi => ((E0.go hE).cell (o + k * 9 + i) hb).trans (hc i hi)
      have hok' := Lib.hid hok
      have c0 : wr.cell? ⟨b, o + k * 9, none⟩ = some (.int .i64 p.what) := hc' 0 (by omega)
      have c1 : wr.cell? ⟨b, o + k * 9 + 1, none⟩ = some (.slice p.a p.m p.c) := hc' 1 (by omega)
      have e0 : wr.cell? ⟨b, o + k * 9 + 2, none⟩ = some (.slice p.v.aL p.v.looks.length p.v.cL) := hc' 2 (by omega)
      have e1 : wr.cell? ⟨b, o + k * 9 + 3, none⟩ = some (.int .i64 p.v.horn) := hc' 3 (by omega)
      have e2 : wr.cell? ⟨b, o + k * 9 + 4, none⟩ = some (.slice p.v.aC p.v.cs.length p.v.cC) := hc' 4 (by omega)
      have e3 : wr.cell? ⟨b, o + k * 9 + 5, none⟩ = some (.slice p.v.aE p.v.es.length p.v.cE) := hc' 5 (by omega)
      have e4 : wr.cell? ⟨b, o + k * 9 + 6, none⟩ = some (.slice p.v.aB p.v.bs.length p.v.cB) := hc' 6 (by omega)
      have e5 : wr.cell? ⟨b, o + k * 9 + 7, none⟩ = some (.slice p.v.aT p.v.ts.length p.v.cT) := hc' 7 (by omega)
      have e6 : wr.cell? ⟨b, o + k * 9 + 8, none⟩ = some (.slice p.v.aN p.v.ns.length p.v.cN) := hc' 8 (by omega)
      clear hc hc' hp hpk hok
      by_cases h3 : p.what = 3
      · have g1 : (p.what == 3) = true := by simp; exact h3
        have hsh := slvShow_any s g p.v L G wr hS'.out (fun w' M => hok'.out.vw.ext (E0.go (hE.goM M hrow'.out)))
        unfold Vw.cells at hsh
        have hsh' := Lib.hid hsh
        clear hsh
        go_wp2_with fail
        refine (hsh'.out).mono ?_
        rintro e W5 ⟨rfl, S5, M5⟩
        have S5' := Lib.hid S5
        have E5 := hE.goM M5 hrow'.out
        clear S5 M5 c0 c1 e0 e1 e2 e3 e4 e5 e6
        go_wp2_with fail
        go_roundw
        case rel => exact ⟨k + 1, by omega, by go_num, _, S5'.out, rest_show hRe'.out _, E5⟩
        case measure => simp [intOf]; omega
      · have g1 : (p.what == 3) = false := by simp; exact h3
        clear e0 e1 e2 e3 e4 e5 e6
        go_wp2_with fail
        refine (slvServe_any s g p.a p.m p.c p.xs L G wr hS'.out (hok'.out.rd.ext (E0.go hE)) (range_u8 hok'.out.wf) hok'.out.mc.1 hok'.out.mc.2).mono ?_
        rintro e W5 ⟨A5, n5, c5, rfl, -, -, -, S5, M5⟩
        have S5' := Lib.hid S5
        have E5 := hE.goM M5 hrow'.out
        clear S5 M5 c0 c1
        go_wp2_with fail
        go_roundw
        case rel => exact ⟨k + 1, by omega, by go_num, _, S5'.out, rest_serve hRe'.out _, E5⟩
        case measure => simp [intOf]; omega
    · obtain rfl : k = n := by omega
      have qr := bq'.out wr hE
      go_wp2_with fail
      refine (hshow.out s g L G wr hS'.out (fun w'' M => E0.go (hE.goM M hrow'.out))).mono ?_
      rintro e W5 ⟨rfl, S5, M5⟩
      have S5' := Lib.hid S5
      have E5 := hE.goM M5 hrow'.out
      have R5' := Lib.hid (rest_show hRe'.out v)
      have V5' := Lib.hid (show_rows L v)
      clear S5 M5 qr hS' hRe' hx' S4'
      generalize showL L v = L5 at *
      go_wp2_with fail
      go_loopw [10] (fun i wr => ∃ k : Nat, k ≤ m ∧ i = .int .i64 k ∧ ∃ L, Sv wr s g L G ∧ RestL L ∧ (L 1 = shBitsL v ∧ L 3 = shRegsL v) ∧ Ext W0 wr) (fun i _ => m - (intOf i).toNat)
      case atStart => exact ⟨0, by omega, rfl, L5, S5'.out, R5'.out, V5'.out, E5⟩
      case round =>
        obtain ⟨k2, hk2, rfl, L6, hS6, hR6, hV6, hE6⟩ := hrel
        have hS6' := Lib.hid hS6
        have hR6' := Lib.hid hR6
        have hV6' := Lib.hid hV6
        clear hS6 hR6 hV6 S5' R5' V5'
        by_cases hlt2 : k2 < m
        · obtain ⟨b, o, rfl, hb, z, hzm, hc0, hzc, hzx⟩ := hz'.out.at_ hlt2
          have hzb := hzb'.out z hzm
          obtain ⟨za, zn, zc, l⟩ := z
          dsimp only at hc0 hzc hzx hzb
          have hc1 := ((E0.go hE6).cell (o + k2) hb).trans hc0
          by_cases hbig : 3000 < zn
          · have t2 : decide (3000 < (zn : Int)) = true := by simp; omega
            clear hzb
            go_wp2_with fail
            go_ret
            exact ⟨rfl, E0.go hE6⟩
          have t2 : decide (3000 < (zn : Int)) = false := by simp; omega
          have hsv := slvServe_any s g za zn zc l L6 G wr hS6'.out (hzx.ext (E0.go hE6)) hzb hzc.1 hzc.2
          have hsv' := Lib.hid hsv
          clear hsv hzb hzx hzc hc0 hzm
          go_wp2_with fail
          refine hsv'.out.mono ?_
          rintro e W7 ⟨A7, n7, c7, rfl, -, -, -, S7, M7⟩
          have S7' := Lib.hid S7
          have E7 := hE6.goM M7 hrow'.out
          clear S7 M7 hc1 t2
          go_wp2_with fail
          go_roundw
          case rel => exact ⟨k2 + 1, by omega, by go_num, _, S7'.out, rest_serve hR6'.out _, ⟨(servS_shown L6 l (.inl rfl)).trans hV6'.out.1, (servS_shown L6 l (.inr rfl)).trans hV6'.out.2⟩, E7⟩
          case measure => simp [intOf]; omega
        · obtain rfl : k2 = m := by omega
          have q6 := bq'.out wr hE6
          obtain ⟨⟨y1, t1, s1, a1⟩, ⟨y2, t2, s2, a2⟩⟩ := shows_reads v hS6'.out hR6'.out hV6'.out.1 hV6'.out.2
          have y1' := Lib.hid y1
          have t1' := Lib.hid t1
          have s1' := Lib.hid s1
          have a1' := Lib.hid a1
          have y2' := Lib.hid y2
          have t2' := Lib.hid t2
          have s2' := Lib.hid s2
          have a2' := Lib.hid a2
          clear y1 t1 s1 a1 y2 t2 s2 a2
          go_wp2_with fail
          refine (hreg.out wr (E0.go hE6)).mono ?_
          rintro e W8 ⟨gr, rfl, KR, D8, _⟩
          have E8 := hE6.go D8
          have q8 := bq'.out W8 E8
          have S8 := Lib.hid (hS6'.out.ext D8)
          have KR' := Lib.hid KR
          clear q6 KR hS6' D8
          go_wp2_with fail
          refine (hbit.out W8 (E0.go E8)).mono ?_
          rintro e W9 ⟨gb, rfl, KB, D9, _⟩
          have E9 := E8.go D9
          have S9 := Lib.hid (S8.out.ext D9)
          have KR9 := Lib.hid (KR'.out.below D9 KR'.out.lt)
          have KB9 := Lib.hid KB
          clear q8 KB S8 KR' D9
          have X10 := (Ext.refl W9).goA (.cells #[.int .i64 4, .int .i64 0, .int .i64 34, .slice none 0 0, .int .i64 0] 32)
          have Q10 := Lib.hid (heap_alloc_new W9 (.cells #[.int .i64 4, .int .i64 0, .int .i64 34, .slice none 0 0, .int .i64 0] 32))
          go_wp2_with fail
          generalize W9.alloc (.cells #[.int .i64 4, .int .i64 0, .int .i64 34, .slice none 0 0, .int .i64 0] 32) = W10 at *
          refine (refPut_any 4 0 34 0 none 0 0 [] W10 (RdI.nil _) (fun j => by simp) (by decide)).mono ?_
          unfold RetI
          rintro e W11 ⟨A11, n11, c11, rfl, g11, g11', r11, D11⟩
          have X11 := X10.go D11
          have S11 := Lib.hid (S9.out.ext X11)
          have r11' := Lib.hid r11
          clear r11
          go_wp2_with fail
          refine (serve_still (l := readR) S11.out r11'.out (putL_bytes 4 0 34 0 []) g11 g11' y1'.out t1'.out s1'.out).mono ?_
          rintro e W12 ⟨A12, n12, c12, rfl, g12, g12', r12, S12, D12⟩
          have Y12 := (Ext.refl W12).goA (.cells #[.int .i64 0, .int .i64 0, .int .i64 0, .string ⟨#[]⟩] 97)
          have X12 := X11.go (D12.go Y12)
          have S12' := Lib.hid (S12.ext Y12)
          have r12' := Lib.hid (r12.ext Y12)
          have q12 := cellsAt (((D11.go (D12.go Y12)).block _ (lt_of_block Q10.out)).trans Q10.out)
          clear r12 S12 S11 r11' D12 Y12
          go_wp2_with fail
          generalize W12.alloc (.cells #[.int .i64 0, .int .i64 0, .int .i64 0, .string ⟨#[]⟩] 97) = W13 at *
          refine (ref05Get_any 4 0 34 0 0 none A12 0 0 n12 c12 [] (shRegsL v) _ W13 (RdI.nil _) (fun j => by simp) (by decide) (shRegsL_range v) r12'.out g12 g12' a1'.out rfl).mono ?_
          rw [if_pos rfl]
          rintro e W14 ⟨A14, n14, c14, rfl, g14, g14', r14, D14⟩
          have Y14 := ((Ext.refl W14).goA (.cells #[.int .i64 0, .slice A14 n14 c14] 40)).goA (.cells #[.int .i64 2, .int .i64 0, .int .i64 32, .slice none 0 0, .int .i64 0] 32)
          have P16 : Hid (((W14.alloc (.cells #[.int .i64 0, .slice A14 n14 c14] 40)).alloc (.cells #[.int .i64 2, .int .i64 0, .int .i64 32, .slice none 0 0, .int .i64 0] 32)).heap[W14.heap.size]? = some (.cells #[.int .i64 0, .slice A14 n14 c14] 40 (0, 0))) := Lib.hid (by rw [alloc_get, if_neg (by simp), alloc_get, if_pos rfl])
          have Q16 : Hid (((W14.alloc (.cells #[.int .i64 0, .slice A14 n14 c14] 40)).alloc (.cells #[.int .i64 2, .int .i64 0, .int .i64 32, .slice none 0 0, .int .i64 0] 32)).heap[W14.heap.size + 1]? = some (.cells #[.int .i64 2, .int .i64 0, .int .i64 32, .slice none 0 0, .int .i64 0] 32 (0, 0))) := Lib.hid (by rw [alloc_get, if_pos (by simp)])
          have X16 := X12.go (D14.go Y14)
          have S16 := Lib.hid (S12'.out.ext (D14.go Y14))
          have r16 := Lib.hid (r14.ext Y14)
          clear r14 S12' r12' D14 Y14 q12
          go_wp2_with fail
          generalize (W14.alloc (.cells #[.int .i64 0, .slice A14 n14 c14] 40)).alloc (.cells #[.int .i64 2, .int .i64 0, .int .i64 32, .slice none 0 0, .int .i64 0] 32) = W16 at *
          refine (refPut_any 2 0 32 0 none 0 0 [] W16 (RdI.nil _) (fun j => by simp) (by decide)).mono ?_
          unfold RetI
          rintro e W17 ⟨A17, n17, c17, rfl, g17, g17', r17, D17⟩
          have S17 := Lib.hid (S16.out.ext D17)
          have r17' := Lib.hid r17
          clear r17 S16
          go_wp2_with fail
          refine (serve_still (l := readI) S17.out r17'.out (putL_bytes 2 0 32 0 []) g17 g17' y2'.out t2'.out s2'.out).mono ?_
          rintro e W18 ⟨A18, n18, c18, rfl, g18, g18', r18, S18, D18⟩
          have Y18 := (Ext.refl W18).goA (.cells #[.int .i64 0, .int .i64 0, .int .i64 0, .string ⟨#[]⟩] 97)
          have X18 := D17.go (D18.go Y18)
          have r18' := Lib.hid (r18.ext Y18)
          have q18 := cellsAt ((X18.block _ (lt_of_block Q16.out)).trans Q16.out)
          clear r18 S18 S17 r17' D18 Y18 D17
          go_wp2_with fail
          generalize W18.alloc (.cells #[.int .i64 0, .int .i64 0, .int .i64 0, .string ⟨#[]⟩] 97) = W19 at *
          refine (ref05Get_any 2 0 32 0 0 none A18 0 0 n18 c18 [] (shBitsL v) _ W19 (RdI.nil _) (fun j => by simp) (by decide) (shBitsL_range v) r18'.out g18 g18' a2'.out rfl).mono ?_
          rw [if_pos rfl]
          rintro e W20 ⟨A20, n20, c20, rfl, g20, g20', r20, D20⟩
          have Y20 := (Ext.refl W20).goA (.cells #[.int .i64 0, .slice A20 n20 c20] 40)
          have Q20 := Lib.hid (heap_alloc_new W20 (.cells #[.int .i64 0, .slice A20 n20 c20] 40))
          have X20 := X18.go (D20.go Y20)
          have p20 := cellsAt ((X20.block _ (lt_of_block P16.out)).trans P16.out)
          have p20' := cellsAt Q20.out
          have ra := r16.out.ext X20
          have rb := r20.ext Y20
          have X9 := X16.go X20
          have ka : RdI (W20.alloc (.cells #[.int .i64 0, .slice A20 n20 c20] 40)) (W20.alloc (.cells #[.int .i64 0, .slice A20 n20 c20] 40)).heap.size .u16 (some ⟨gr, 0, none⟩) 34 (shRegsL v) := (KR9.out.below X9 KR9.out.lt).rd (xs := shRegsL v) ((KR9.out.below X9 KR9.out.lt).lt)
          have kb : RdI (W20.alloc (.cells #[.int .i64 0, .slice A20 n20 c20] 40)) (W20.alloc (.cells #[.int .i64 0, .slice A20 n20 c20] 40)).heap.size .u16 (some ⟨gb, 0, none⟩) 32 (shBitsL v) := (KB9.out.below X9 KB9.out.lt).rd (xs := shBitsL v) ((KB9.out.below X9 KB9.out.lt).lt)
          have sa := sameVals_any A14 (some ⟨gr, 0, none⟩) n14 c14 34 34 _ _ _ _ ra ka (Nat.le_trans g14 g14') (by decide)
          have sb := fun (w' : World) (E : Ext (W20.alloc (.cells #[.int .i64 0, .slice A20 n20 c20] 40)) w') => sameVals_any A20 (some ⟨gb, 0, none⟩) n20 c20 32 32 _ _ _ w' (rb.ext E) (kb.ext E) (Nat.le_trans g20 g20') (by decide)
          rw [decide_eq_true (rfl : shRegsL v = shRegsL v)] at sa
          rw [decide_eq_true (rfl : shBitsL v = shBitsL v)] at sb
          have X0 := E9.go (X16.go X20)
          have X0' := Lib.hid X0
          have sa' := Lib.hid sa
          have sb' := Lib.hid sb
          clear sa sb ra rb ka kb X0
          go_wp2_with fail
          refine sa'.out.mono ?_
          rintro e W22 ⟨rfl, m22, hm22⟩
          have D22 : Ext (W20.alloc (.cells #[.int .i64 0, .slice A20 n20 c20] 40)) W22 := by rw [← hm22]; exact (Ext.refl _).goD _
          have p22 := cellsAt ((D22.block _ (lt_of_block Q20.out)).trans Q20.out)
          clear p20 p20' hm22
          go_wp2_with fail
          refine (sb'.out W22 D22).mono ?_
          rintro e W23 ⟨rfl, m23, hm23⟩
          have D23 : Ext W22 W23 := by rw [← hm23]; exact (Ext.refl _).goD _
          clear p22 hm23
          go_wp2_with fail
          go_ret
          exact ⟨rfl, E0.go (X0'.out.go (D22.go D23))⟩
end Go.Proofs.Ytgeahfkhfpdlhaa
