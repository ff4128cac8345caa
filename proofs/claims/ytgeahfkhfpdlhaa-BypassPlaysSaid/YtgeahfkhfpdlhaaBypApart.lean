/- Layer 15: the law BypassApart, walked. -/
import Derived.Test.YtgeahfkhfpdlhaaOps15
namespace Go.Proofs.Ytgeahfkhfpdlhaa
open Go.RowKit

theorem until_setE {E : List Int} {i j v : Int} (h : j ≠ i) : untilE (setE E i v) j = untilE E j := by
  unfold setE
  split
  · rename_i h0
    unfold untilE
    split
    · rename_i h1
      rw [List.getElem?_set_ne (by omega)]
    · rfl
  · rfl
theorem until_setE_same {E : List Int} {k : Nat} (hk : k < E.length) (v : Int) : untilE (setE E (k : Int) v) (k : Int) = v := by
  unfold setE
  rw [if_pos (by omega), untilE_of, Int.toNat_natCast, List.getD_eq_getElem?_getD, List.getElem?_set_self hk]
  rfl
theorem is_until {E F : List Int} {i now : Int} (h : untilE E i = untilE F i) : isB E i now = isB F i now := by unfold isB; rw [h]
theorem put_until {lims E F : List Int} {i n now : Int} (h : untilE E i = untilE F i) : putC lims E i n now = putC lims F i n now := by unfold putC; rw [is_until h]
theorem putE_length (lims E : List Int) (i n now : Int) : (putE lims E i n now).length = E.length := by unfold putE; split; exact setE_length _ _ _; rfl
theorem putE_until {lims E F : List Int} {k : Nat} {n now : Int} (hE : k < E.length) (hF : k < F.length) (h : untilE E (k : Int) = untilE F (k : Int)) : untilE (putE lims E (k : Int) n now) (k : Int) = untilE (putE lims F (k : Int) n now) (k : Int) := by
  unfold putE
  rw [put_until h]
  split
  · rw [until_setE_same hE, until_setE_same hF]
  · exact h
theorem putE_other {lims E : List Int} {i j n now : Int} (h : j ≠ i) : untilE (putE lims E i n now) j = untilE E j := by
  unfold putE
  split
  · exact until_setE h
  · rfl
theorem lapse_alike {E F : List Int} {i now : Int} (h : untilE E i = untilE F i) : (i ∈ lapseL E now ↔ i ∈ lapseL F now) ∧ untilE (lapseE E now) i = untilE (lapseE F now) i := by
  have hm : i ∈ lapseL E now ↔ i ∈ lapseL F now := by rw [lapse_mem, lapse_mem, h]
  refine ⟨hm, ?_⟩
  rw [← lapse_until, ← lapse_until, h]
  by_cases hi : i ∈ lapseL F now
  · rw [if_pos hi, if_pos (hm.2 hi)]
  · rw [if_neg hi, if_neg (fun h => hi (hm.1 h))]
set_option maxRecDepth 100000 in
set_option maxHeartbeats 6400000 in
theorem bypassApart_any (A A2 : Option Addr) (n c n2 c2 : Nat) (lims : List Int) (i : Nat) (ps : List Op15) (w : World) (hx : RdI w w.heap.size .i64 A n lims) (hp : RdOp15 w w.heap.size A2 n2 ps) (hi : i ≤ 255) (hn : n * 8 ≤ 140737488351232) (hn2 : n2 ≤ maxLen) :
    Calls Try.prog 11 #[.slice A n c, .int .u8 (i : Int), .slice A2 n2 c2] w fun e w' => e = .returned (.bool true) ∧ Ext w w' := by
  have hx' := Lib.hid hx
  have hl' := Lib.hid hx.len
  have hp' := Lib.hid hp
  clear hx hp
  go_enter Try.func11, Try.ntmps11
  go_wp2_with fail
  refine (bypHead_any w).mono ?_
  rintro e w0 ⟨rfl, E0⟩
  go_wp2_with fail
  refine (bypNew_any A n c lims w0 (hx'.out.ext E0) hn).mono ?_
  rintro e w1 ⟨gx, glx, gmx, rfl, T1, E1, hgx, hglx, hgmx⟩
  have E01 := E0.go E1
  have s0 := E0.size
  have hx0 : w.heap.size ≤ gmx := by omega
  have o1 := T1.old (.inl rfl)
  have o2 := T1.old (.inr (.inl rfl))
  have o3 := T1.old (.inr (.inr rfl))
  have T1' := Lib.hid T1
  clear T1 hgx hglx hgmx
  go_wp2_with fail
  refine (bypNew_any A n c lims w1 (hx'.out.ext E01) hn).mono ?_
  rintro e w2 ⟨gy, gly, gmy, rfl, T2, E2, hgy, hgly, hgmy⟩
  have E02 := E01.go E2
  have Tx' := Lib.hid (T1'.out.ext E2)
  have Ty' := Lib.hid T2
  have s1 := E01.size
  clear T2 T1' E0 E1 E01
  go_wp2_with fail
  refine (great15_any A A2 n c n2 c2 ps w2 (hp'.out.ext E02) hn hn2).mono ?_
  rintro e w3 ⟨v, rfl, hv, rfl⟩
  cases v
  · obtain ⟨hv1, hv2, -⟩ := hv rfl
    clear hv
    rcases Nat.eq_zero_or_pos n with h0 | h0
    · subst h0
      go_wp2_with fail
      go_ret
      exact ⟨rfl, E02⟩
    · have t1 : ((n : Int) == 0) = false := by simp; omega
      have t2 : (n == 0) = false := by simp; omega
      have hq : i % n < n := Nat.mod_lt _ h0
      have u1 : IntKind.i64.wrap (i : Int) = i := by rw [IntKind.wrap_i64]; omega
      have u2 : (i : Int).tmod (n : Int) = ((i % n : Nat) : Int) := by rw [Int.tmod_eq_emod_of_nonneg (by omega)]; rfl
      have u3 : (i : Int) % (n : Int) = ((i % n : Nat) : Int) := rfl
      generalize i % n = q at *
      go_wp2_with fail
      go_loopw [11] (fun i wr => ∃ (k Nx Ny : Nat) (Ex Ey : List Int), k ≤ n2 ∧ i = .int .i64 k ∧ Nx ≤ k ∧ Ny ≤ k ∧ Tb wr gx glx gmx Nx lims Ex ∧ Tb wr gy gly gmy Ny lims Ey ∧ untilE Ex (q : Int) = untilE Ey (q : Int) ∧ Ext w wr) (fun i _ => n2 - (intOf i).toNat)
      case atStart => exact ⟨0, 0, 0, _, _, by omega, rfl, by omega, by omega, Tx'.out, Ty'.out, rfl, E02⟩
      case round =>
        obtain ⟨k, Nx, Ny, Ex, Ey, hk, rfl, hNx, hNy, hTx, hTy, hu, hE⟩ := hrel
        have hTx' := Lib.hid hTx
        have hTy' := Lib.hid hTy
        have hu' := Lib.hid hu
        clear hTx hTy hu
        by_cases hlt : k < n2
        · obtain ⟨b, o, rfl, hb, p, -, -, c0, c1, c2, c3, c4, hwf, -, -⟩ := hp'.out.2 k hlt
          obtain ⟨pw, pI, pn, pnow, pa, pm, pc, pxs⟩ := p
          dsimp only at c0 c1 c2 c3 c4 hwf
          have d0 := (hE.cell _ hb).trans c0
          have d1 := (hE.cell _ hb).trans c1
          have d2 := (hE.cell _ hb).trans c2
          have d3 := (hE.cell _ hb).trans c3
          have d4 := (hE.cell _ hb).trans c4
          have XW := (Ext.refl wr).goA (.cells #[.int .i64 pw, .int .i64 pI, .int .i64 pn, .int .i64 pnow, .slice pa pm pc] 69)
          have hO := Lib.hid (heap_alloc_new wr (.cells #[.int .i64 pw, .int .i64 pI, .int .i64 pn, .int .i64 pnow, .slice pa pm pc] 69))
          have sx := hTx'.out.old (.inr (.inr rfl))
          have sy := hTy'.out.old (.inr (.inr rfl))
          have Tx2 := Lib.hid (hTx'.out.ext XW)
          have Ty2 := Lib.hid (hTy'.out.ext XW)
          have E2 := hE.go XW
          have hw1 := Lib.hid hwf.2.1
          have wq := Lib.hid (WalkArith.wf_i64 (n := (q : Int)) ⟨by omega, by omega⟩)
          have hlx : Hid (q < Ex.length) := Lib.hid (by rw [hTx'.out.len]; have := hl'.out; omega)
          have hly : Hid (q < Ey.length) := Lib.hid (by rw [hTy'.out.len]; have := hl'.out; omega)
          clear c0 c1 c2 c3 c4 hwf
          by_cases h2 : pw = 2
          · subst h2
            go_wp2_with fail
            generalize wr.alloc (.cells #[.int .i64 2, .int .i64 pI, .int .i64 pn, .int .i64 pnow, .slice pa pm pc] 69) = W at *
            clear d0 d1 d2 d3 d4
            have o0 := cellsAt hO.out
            go_wp2_with fail
            refine (bypDrop_any gx glx gmx Nx lims Ex pI W Tx2.out hw1.out).mono ?_
            rintro e w3 ⟨rfl, T3, M3⟩
            have T3' := Lib.hid T3
            have Ty3 := Lib.hid (Ty2.out.mod M3 (fun b hb => by rcases hb with rfl | rfl | rfl <;> omega))
            have hO3 := (M3.block _ (lt_of_block hO.out) (by omega)).trans hO.out
            have o3' := cellsAt hO3
            have E3 := E2.goM M3 (fun i hi => by omega)
            clear T3 o0
            by_cases hiq : pI = (q : Int)
            · subst hiq
              have f1 : ((q : Int) == (q : Int)) = true := by simp
              have hy := bypDrop_any gy gly gmy Ny lims Ey (q : Int) w3 Ty3.out hw1.out
              rw [← hu'.out] at hy
              have hy' := Lib.hid hy
              have hu3 : Hid (untilE (setE Ex (q : Int) 0) (q : Int) = untilE (setE Ey (q : Int) 0) (q : Int)) := Lib.hid (by rw [until_setE_same hlx.out, until_setE_same hly.out])
              clear hy M3
              go_wp2_with fail
              refine hy'.out.mono ?_
              rintro e w4 ⟨rfl, T4, M4⟩
              have T4' := Lib.hid T4
              have Tx4 := Lib.hid (T3'.out.mod M4 (fun b hb => by rcases hb with rfl | rfl | rfl <;> omega))
              have E4 := E3.goM M4 (fun i hi => by omega)
              clear T4 M4 hy' o3'
              generalize setE Ex (q : Int) 0 = Fx at *
              generalize setE Ey (q : Int) 0 = Fy at *
              go_wp2_with fail
              refine (bypUntil_any gx glx gmx Nx lims Fx (q : Int) w4 Tx4.out wq.out).mono ?_
              rintro e w8 ⟨rfl, rfl⟩
              go_wp2_with fail
              refine (bypUntil_any gy gly gmy Ny lims Fy (q : Int) w4 T4'.out wq.out).mono ?_
              rw [← hu3.out]
              rintro e w8 ⟨rfl, rfl⟩
              go_wp2_with fail
              go_roundw
              case rel => exact ⟨k + 1, Nx, Ny, Fx, Fy, by omega, by go_num, by omega, by omega, Tx4.out, T4'.out, hu3.out, E4⟩
              case measure => simp [intOf]; omega
            · have f1 : (pI == (q : Int)) = false := by simp; exact hiq
              have hu3 : Hid (untilE (setE Ex pI 0) (q : Int) = untilE Ey (q : Int)) := Lib.hid (by rw [until_setE (fun h => hiq h.symm)]; exact hu'.out)
              clear hiq
              generalize setE Ex pI 0 = Fx at *
              go_wp2_with fail
              refine (bypUntil_any gx glx gmx Nx lims Fx (q : Int) w3 T3'.out wq.out).mono ?_
              rintro e w8 ⟨rfl, rfl⟩
              go_wp2_with fail
              refine (bypUntil_any gy gly gmy Ny lims Ey (q : Int) w3 Ty3.out wq.out).mono ?_
              rw [← hu3.out]
              rintro e w8 ⟨rfl, rfl⟩
              go_wp2_with fail
              go_roundw
              case rel => exact ⟨k + 1, Nx, Ny, Fx, Ey, by omega, by go_num, by omega, by omega, T3'.out, Ty3.out, hu3.out, E3⟩
              case measure => simp [intOf]; omega
          · by_cases h3 : pw = 3
            · subst h3
              go_wp2_with fail
              generalize wr.alloc (.cells #[.int .i64 3, .int .i64 pI, .int .i64 pn, .int .i64 pnow, .slice pa pm pc] 69) = W at *
              clear d0 d1 d2 d3 d4
              have o0 := cellsAt hO.out
              go_wp2_with fail
              refine (bypLapse_any gx glx gmx Nx lims Ex pnow W Tx2.out (by omega)).mono ?_
              rintro e w3 ⟨A3, n3, c3, rfl, g3, g3', r3, fr3, T3, M3⟩
              have T3' := Lib.hid T3
              have Ty3 := Lib.hid (Ty2.out.mod M3 (fun b hb => by rcases hb with rfl | rfl | rfl <;> omega))
              have hO3 := (M3.block _ (lt_of_block hO.out) (by omega)).trans hO.out
              have o3' := cellsAt hO3
              have E3 := E2.goM M3 (fun i hi => by omega)
              have r3' := Lib.hid r3
              have hWs : wr.heap.size < W.heap.size := lt_of_block hO.out
              clear T3 o0 r3 M3
              go_wp2_with fail
              refine (bypLapse_any gy gly gmy Ny lims Ey pnow w3 Ty3.out (by omega)).mono ?_
              rintro e w4 ⟨A4, n4, c4, rfl, g4, g4', r4, fr4, T4, M4⟩
              have T4' := Lib.hid T4
              have Tx4 := Lib.hid (T3'.out.mod M4 (fun b hb => by rcases hb with rfl | rfl | rfl <;> omega))
              have E4 := E3.goM M4 (fun i hi => by omega)
              have r34 := Lib.hid (r3'.out.turned M4 (fun b o e => by have := fr3 b o e; omega))
              have r4' := Lib.hid r4
              obtain ⟨hmm, hu4⟩ := lapse_alike (now := pnow) hu'.out
              have hu4' := Lib.hid hu4
              have hif : (if (q : Int) ∈ lapseL Ey pnow then 1 else 0) = (if (q : Int) ∈ lapseL Ex pnow then 1 else 0) := by
                by_cases h : (q : Int) ∈ lapseL Ex pnow
                · rw [if_pos h, if_pos (hmm.1 h)]
                · rw [if_neg h, if_neg (fun h' => h (hmm.2 h'))]
              have hif' := Lib.hid hif
              clear T4 M4 r4 hu4 hmm hif o3' r3'
              go_wp2_with fail
              refine (has15_any A3 n3 c3 _ _ (q : Int) w4 r34.out (Nat.le_trans g3 g3')).mono ?_
              rintro e w5 ⟨A5, n5, c5, rfl, h5, D5⟩
              have h5' := Lib.hid h5
              clear h5
              go_wp2_with fail
              refine (has15_any A4 n4 c4 _ _ (q : Int) w5 (r4'.out.ext D5) (Nat.le_trans g4 g4')).mono ?_
              rintro e w6 ⟨A6, n6, c6, rfl, h6, D6⟩
              rw [hif'.out, ← h5'.out] at h6
              have f9 : ((n5 : Int) != (n6 : Int)) = false := by simp; omega
              have f9' : (n5 != n6) = false := by simp; omega
              clear h5' h6
              have D56 := D5.go D6
              have Tx6 := Lib.hid (Tx4.out.ext D56)
              have Ty6 := Lib.hid (T4'.out.ext D56)
              have E6 := E4.go D56
              generalize lapseE Ex pnow = Fx at *
              generalize lapseE Ey pnow = Fy at *
              clear D5 D6 D56
              go_wp2_with fail
              refine (bypUntil_any gx glx gmx Nx lims Fx (q : Int) w6 Tx6.out wq.out).mono ?_
              rintro e w8 ⟨rfl, rfl⟩
              go_wp2_with fail
              refine (bypUntil_any gy gly gmy Ny lims Fy (q : Int) w6 Ty6.out wq.out).mono ?_
              rw [← hu4'.out]
              rintro e w8 ⟨rfl, rfl⟩
              go_wp2_with fail
              go_roundw
              case rel => exact ⟨k + 1, Nx, Ny, Fx, Fy, by omega, by go_num, by omega, by omega, Tx6.out, Ty6.out, hu4'.out, E6⟩
              case measure => simp [intOf]; omega
            · have f2 : (pw == 2) = false := by simp; exact h2
              have f3 : (pw == 3) = false := by simp; exact h3
              clear h2 h3
              go_wp2_with fail
              generalize wr.alloc (.cells #[.int .i64 pw, .int .i64 pI, .int .i64 pn, .int .i64 pnow, .slice pa pm pc] 69) = W at *
              clear d0 d1 d2 d3 d4
              have o0 := cellsAt hO.out
              go_wp2_with fail
              refine (bypPut_any gx glx gmx Nx lims Ex pI pn pnow W Tx2.out hw1.out (by unfold maxLen; omega)).mono ?_
              rintro e w3 ⟨rfl, T3, M3⟩
              have T3' := Lib.hid T3
              have Ty3 := Lib.hid (Ty2.out.mod M3 (fun b hb => by rcases hb with rfl | rfl | rfl <;> omega))
              have hO3 := (M3.block _ (lt_of_block hO.out) (by omega)).trans hO.out
              have o3' := cellsAt hO3
              have E3 := E2.goM M3 (fun i hi => by omega)
              clear T3 o0
              by_cases hiq : pI = (q : Int)
              · subst hiq
                have f1 : ((q : Int) == (q : Int)) = true := by simp
                have hy := bypPut_any gy gly gmy Ny lims Ey (q : Int) pn pnow w3 Ty3.out hw1.out (by unfold maxLen; omega)
                rw [← put_until (lims := lims) (n := pn) (now := pnow) hu'.out] at hy
                have hy' := Lib.hid hy
                have hu3 : Hid (untilE (putE lims Ex (q : Int) pn pnow) (q : Int) = untilE (putE lims Ey (q : Int) pn pnow) (q : Int)) := Lib.hid (putE_until hlx.out hly.out hu'.out)
                clear hy M3
                generalize putC lims Ex (q : Int) pn pnow = pc0 at *
                generalize putE lims Ex (q : Int) pn pnow = Fx at *
                generalize putE lims Ey (q : Int) pn pnow = Fy at *
                go_wp2_with fail
                refine hy'.out.mono ?_
                rintro e w4 ⟨rfl, T4, M4⟩
                have T4' := Lib.hid T4
                have Tx4 := Lib.hid (T3'.out.mod M4 (fun b hb => by rcases hb with rfl | rfl | rfl <;> omega))
                have E4 := E3.goM M4 (fun i hi => by omega)
                clear T4 M4 hy' o3'
                go_wp2_with fail
                refine (bypUntil_any gx glx gmx (Nx + 1) lims Fx (q : Int) w4 Tx4.out wq.out).mono ?_
                rintro e w8 ⟨rfl, rfl⟩
                go_wp2_with fail
                refine (bypUntil_any gy gly gmy (Ny + 1) lims Fy (q : Int) w4 T4'.out wq.out).mono ?_
                rw [← hu3.out]
                rintro e w8 ⟨rfl, rfl⟩
                go_wp2_with fail
                go_roundw
                case rel => exact ⟨k + 1, (Nx + 1), (Ny + 1), Fx, Fy, by omega, by go_num, by omega, by omega, Tx4.out, T4'.out, hu3.out, E4⟩
                case measure => simp [intOf]; omega
              · have f1 : (pI == (q : Int)) = false := by simp; exact hiq
                have hu3 : Hid (untilE (putE lims Ex pI pn pnow) (q : Int) = untilE Ey (q : Int)) := Lib.hid (by rw [putE_other (fun h => hiq h.symm)]; exact hu'.out)
                clear hiq
                generalize putC lims Ex pI pn pnow = pc0 at *
                generalize putE lims Ex pI pn pnow = Fx at *
                go_wp2_with fail
                refine (bypUntil_any gx glx gmx (Nx + 1) lims Fx (q : Int) w3 T3'.out wq.out).mono ?_
                rintro e w8 ⟨rfl, rfl⟩
                go_wp2_with fail
                refine (bypUntil_any gy gly gmy Ny lims Ey (q : Int) w3 Ty3.out wq.out).mono ?_
                rw [← hu3.out]
                rintro e w8 ⟨rfl, rfl⟩
                go_wp2_with fail
                go_roundw
                case rel => exact ⟨k + 1, (Nx + 1), Ny, Fx, Ey, by omega, by go_num, by omega, by omega, T3'.out, Ty3.out, hu3.out, E3⟩
                case measure => simp [intOf]; omega
        · obtain rfl : k = n2 := by omega
          go_wp2_with fail
          go_ret
          exact ⟨rfl, hE⟩
  · clear hv
    go_wp2_with fail
    go_ret
    exact ⟨rfl, E02⟩
theorem bypassApart_law (A A2 : Option Addr) (n c n2 c2 : Nat) (lims : List Int) (i : Int) (ps : List Op15) (w : World) (hx : RdI w w.heap.size .i64 A n lims) (hp : RdOp15 w w.heap.size A2 n2 ps) (h0 : 0 ≤ i) (h1 : i ≤ 255) (hn : n * 8 ≤ 140737488351232) (hn2 : n2 ≤ maxLen) :
    Calls Try.prog 11 #[.slice A n c, .int .u8 i, .slice A2 n2 c2] w fun e w' => e = .returned (.bool true) ∧ Ext w w' := by
  obtain ⟨k, rfl⟩ := Int.eq_ofNat_of_zero_le h0
  exact bypassApart_any A A2 n c n2 c2 lims k ps w hx hp (by omega) hn hn2
end Go.Proofs.Ytgeahfkhfpdlhaa
