/- Layer 15: the law BypassAgain, walked. (Printed by wip/gen/bypagain.py.) -/
import Derived.Test.YtgeahfkhfpdlhaaBypHead
namespace Go.Proofs.Ytgeahfkhfpdlhaa
open Go.RowKit

theorem again_until (en : Int) : untilE [en] 0 = en := rfl
theorem again_set (en v : Int) : setE [en] 0 v = [v] := rfl
theorem again_bad {lim en n now : Int} (h : n < 1 ∨ lim < n) : putC [lim] [en] 0 n now = 1 ∧ putE [lim] [en] 0 n now = [en] := by
  have h1 : putC [lim] [en] 0 n now = 1 := by
    unfold putC
    rw [if_neg (by simp), if_pos]
    rcases h with h | h
    · exact .inl h
    · exact .inr (.inl h)
  exact ⟨h1, by unfold putE; rw [h1, if_neg (by decide)]⟩
theorem again_there {lim en n now : Int} (h0 : 1 ≤ n) (h1 : n ≤ lim) (h2 : lim ≤ 65535) (h3 : 0 ≤ now) (h4 : now ≤ 1099511627776) (h5 : now < en) : putC [lim] [en] 0 n now = 4 ∧ putE [lim] [en] 0 n now = [en] := by
  have e : putC [lim] [en] 0 n now = 4 := by
    unfold putC isB
    rw [if_neg (by simp), if_neg (by show ¬ (n < 1 ∨ lim < n ∨ 1099511627776 < n ∨ now < 0 ∨ 1099511627776 < now); omega), again_until, if_pos]
    simp; omega
  exact ⟨e, by unfold putE; rw [e, if_neg (by decide)]⟩
theorem again_goes {lim en n now : Int} (h0 : 1 ≤ n) (h1 : n ≤ lim) (h2 : lim ≤ 65535) (h3 : 0 ≤ now) (h4 : now ≤ 1099511627776) (h5 : en ≤ now) : putC [lim] [en] 0 n now = 0 ∧ putE [lim] [en] 0 n now = [now + n] := by
  have e : putC [lim] [en] 0 n now = 0 := by
    unfold putC isB
    rw [if_neg (by simp), if_neg (by show ¬ (n < 1 ∨ lim < n ∨ 1099511627776 < n ∨ now < 0 ∨ 1099511627776 < now); omega), again_until, if_neg]
    simp; omega
  exact ⟨e, by unfold putE; rw [e, if_pos rfl]; rfl⟩
set_option maxRecDepth 100000 in
set_option maxHeartbeats 6400000 in
theorem bypassAgain_any (lim : Int) (A1 A2 : Option Addr) (n1 c1 n2 c2 : Nat) (xs ys : List Int) (drop : Bool) (w : World) (l0 : 0 ≤ lim) (l1 : lim ≤ 65535) (hx : RdI w w.heap.size .u16 A1 n1 xs) (hxr : ∀ j : Nat, 0 ≤ xs[j]?.getD 0 ∧ xs[j]?.getD 0 ≤ 65535)
    (hy : RdI w w.heap.size .u16 A2 n2 ys) (hyr : ∀ j : Nat, 0 ≤ ys[j]?.getD 0 ∧ ys[j]?.getD 0 ≤ 65535) (hn1 : n1 ≤ maxLen) :
    Calls Try.prog 12 #[.int .u16 lim, .slice A1 n1 c1, .slice A2 n2 c2, .bool drop] w fun e w' => e = .returned (.bool true) ∧ Ext w w' := by
  unfold maxLen at hn1
  have u0 : IntKind.i64.wrap lim = lim := by rw [IntKind.wrap_i64]; omega
  have hx' := Lib.hid hx
  have hy' := Lib.hid hy
  have hxr' := Lib.hid hxr
  have hyr' := Lib.hid hyr
  clear hx hy hxr hyr
  go_enter Try.func12, Try.ntmps12
  go_wp2_with fail
  refine (bypHead_any w).mono ?_
  rintro e w0 ⟨rfl, E0⟩
  go_wp2_with fail
  have X0 := (Ext.refl w0).goA (.cells #[.int .i64 lim] 2)
  refine (bypNew_any _ 1 1 [lim] _ (RdI.new (w := w0) [lim] rfl rfl rfl |>.more (by simp)) (by omega)).mono ?_
  rintro e w1 ⟨g, gl, gm, rfl, T1, E1, hg, hgl, hgm⟩
  have E01 := (E0.go X0).go E1
  have hgm' : w.heap.size ≤ gm := by simp at hgm; have := E0.size; omega
  have T1' : Hid (Tb w1 g gl gm 0 [lim] [0]) := Lib.hid T1
  clear T1 hg hgl hgm E1 E0 X0
  by_cases hbig : 300 < n1
  · have t1 : decide (300 < (n1 : Int)) = true := by simp; omega
    go_wp2_with fail
    go_ret
    exact ⟨rfl, E01⟩
  have t1 : decide (300 < (n1 : Int)) = false := by simp; omega
  go_wp2_with fail
  go_loopw [11, 12, 13] (fun nw en i wr => ∃ (k N : Nat) (now e : Int), k ≤ n1 ∧ i = .int .i64 k ∧ nw = .int .i64 now ∧ en = .int .i64 e ∧ (0 ≤ now ∧ now ≤ 65535 * k) ∧ 0 ≤ e ∧ e ≤ now + lim ∧ N ≤ k ∧ Tb wr g gl gm N [lim] [e] ∧ Ext w wr) (fun _ _ i _ => n1 - (intOf i).toNat)
  case atStart => exact ⟨0, 0, 0, 0, by omega, rfl, rfl, rfl, ⟨by omega, by omega⟩, by omega, by omega, by omega, T1'.out, E01⟩
  case round =>
    obtain ⟨k, N, now, en, hk, rfl, rfl, rfl, hnow, hen0, hen1, hN, hT, hE⟩ := hrel
    have hT' := Lib.hid hT
    clear hT
    by_cases hlt : k < n1 ∧ k < n2
    · obtain ⟨hlt1, hlt2⟩ := hlt
      obtain ⟨b1, o1, rfl, hb1, hc1⟩ := hx'.out.at_ hlt1
      obtain ⟨b2, o2, rfl, hb2, hc2⟩ := hy'.out.at_ hlt2
      have d1 := (hE.cell (o1 + k) hb1).trans hc1
      have d2 := (hE.cell (o2 + k) hb2).trans hc2
      have xr := hxr'.out k
      have yr := hyr'.out k
      rw [← List.getD_eq_getElem?_getD] at xr yr
      generalize xs.getD k 0 = x at *
      generalize ys.getD k 0 = y at *
      have ux : IntKind.i64.wrap x = x := by rw [IntKind.wrap_i64]; omega
      have uy : IntKind.i64.wrap y = y := by rw [IntKind.wrap_i64]; omega
      have hdY : Hid (∀ w', Ext w w' → w'.cell? ⟨b2, o2 + k, none⟩ = some (.int .u16 y)) := Lib.hid (fun w' D => (D.cell (o2 + k) hb2).trans hc2)
      clear hc1 hc2 d2
      have hcase : (x < 1 ∨ lim < x) ∨ (1 ≤ x ∧ x ≤ lim ∧ now < en) ∨ (1 ≤ x ∧ x ≤ lim ∧ en ≤ now) := by omega
      rcases hcase with hbad | ⟨x1, x2, x3⟩ | ⟨x1, x2, x3⟩
      · rcases (show x < 1 ∨ (1 ≤ x ∧ lim < x) by omega) with hb | ⟨hb0, hb⟩
        · have hput := bypPut_any g gl gm N [lim] [en] 0 x now wr hT'.out (by decide) (by unfold maxLen; omega)
          obtain ⟨q1, q2⟩ := again_bad (lim := lim) (en := en) (n := x) (now := now) hbad
          rw [q1, q2] at hput
          have hput' := Lib.hid hput
          clear hput q1 q2
          have s1 : decide (1 ≤ x) = false := by simp; omega
          go_wp2_with fail
          refine hput'.out.mono ?_
          rintro e w2 ⟨rfl, hT2, M2⟩
          have hT2' := Lib.hid hT2
          have E2 := hE.goM M2 (fun i hi => by omega)
          have d2 := hdY.out w2 E2
          clear hT2 M2 d1
          have hS := hT2'.out.old (.inr (.inr rfl))
          cases drop
          · go_wp2_with fail
            refine (bypUntil_any g gl gm (N + 1) [lim] [en] 0 w2 hT2'.out (by decide)).mono ?_
            rw [again_until]
            rintro e w4 ⟨rfl, rfl⟩
            have f1 : decide (now + lim < en) = false := by simp; omega
            go_wp2_with fail
            go_roundw
            case rel => exact ⟨k + 1, N + 1, now + y, en, by omega, by go_num, rfl, rfl, ⟨by omega, by omega⟩, by omega, by omega, by omega, hT2'.out, E2⟩
            case measure => simp [intOf]; omega
          · by_cases h3 : k % 3 = 2
            · have r1 : (((k : Int) % 3) == 2) = true := by simp; omega
              have r2 : ((k % 3) == 2) = true := by simp; omega
              have r3 : ((k : Int).tmod 3 == 2) = true := by rw [Int.tmod_eq_emod_of_nonneg (by omega)]; exact r1
              have r4 : ((((k % 3 : Nat)) : Int) == 2) = true := by simp; omega
              have hdr := bypDrop_any g gl gm (N + 1) [lim] [en] 0 w2 hT2'.out (by decide)
              rw [again_until, again_set] at hdr
              have hne : (en != 0) = decide (0 < en) := by
                by_cases h : en = 0
                · rw [h]; rfl
                · have : 0 < en := by omega
                  simp [h, this]
              rw [hne] at hdr
              have hdr' := Lib.hid hdr
              clear hdr hne
              go_wp2_with fail
              refine hdr'.out.mono ?_
              rintro e w3 ⟨rfl, T3, M3⟩
              have T3' := Lib.hid T3
              have E3 := E2.goM M3 (fun i hi => by omega)
              have d3 := hdY.out w3 E3
              clear T3 M3 d2
              go_wp2_with fail
              refine (bypUntil_any g gl gm (N + 1) [lim] [0] 0 w3 T3'.out (by decide)).mono ?_
              rw [again_until]
              rintro e w4 ⟨rfl, rfl⟩
              have f1 : decide (now + lim < 0) = false := by simp; omega
              go_wp2_with fail
              go_roundw
              case rel => exact ⟨k + 1, N + 1, now + y, 0, by omega, by go_num, rfl, rfl, ⟨by omega, by omega⟩, by omega, by omega, by omega, T3'.out, E3⟩
              case measure => simp [intOf]; omega
            · have r1 : (((k : Int) % 3) == 2) = false := by simp; omega
              have r2 : ((k % 3) == 2) = false := by simp; omega
              have r3 : ((k : Int).tmod 3 == 2) = false := by rw [Int.tmod_eq_emod_of_nonneg (by omega)]; exact r1
              have r4 : ((((k % 3 : Nat)) : Int) == 2) = false := by simp; omega
              go_wp2_with fail
              refine (bypUntil_any g gl gm (N + 1) [lim] [en] 0 w2 hT2'.out (by decide)).mono ?_
              rw [again_until]
              rintro e w4 ⟨rfl, rfl⟩
              have f1 : decide (now + lim < en) = false := by simp; omega
              go_wp2_with fail
              go_roundw
              case rel => exact ⟨k + 1, N + 1, now + y, en, by omega, by go_num, rfl, rfl, ⟨by omega, by omega⟩, by omega, by omega, by omega, hT2'.out, E2⟩
              case measure => simp [intOf]; omega
        · have hput := bypPut_any g gl gm N [lim] [en] 0 x now wr hT'.out (by decide) (by unfold maxLen; omega)
          obtain ⟨q1, q2⟩ := again_bad (lim := lim) (en := en) (n := x) (now := now) hbad
          rw [q1, q2] at hput
          have hput' := Lib.hid hput
          clear hput q1 q2
          have s1 : decide (1 ≤ x) = true := by simp; omega
          have s2 : decide (x ≤ lim) = false := by simp; omega
          go_wp2_with fail
          refine hput'.out.mono ?_
          rintro e w2 ⟨rfl, hT2, M2⟩
          have hT2' := Lib.hid hT2
          have E2 := hE.goM M2 (fun i hi => by omega)
          have d2 := hdY.out w2 E2
          clear hT2 M2 d1
          have hS := hT2'.out.old (.inr (.inr rfl))
          cases drop
          · go_wp2_with fail
            refine (bypUntil_any g gl gm (N + 1) [lim] [en] 0 w2 hT2'.out (by decide)).mono ?_
            rw [again_until]
            rintro e w4 ⟨rfl, rfl⟩
            have f1 : decide (now + lim < en) = false := by simp; omega
            go_wp2_with fail
            go_roundw
            case rel => exact ⟨k + 1, N + 1, now + y, en, by omega, by go_num, rfl, rfl, ⟨by omega, by omega⟩, by omega, by omega, by omega, hT2'.out, E2⟩
            case measure => simp [intOf]; omega
          · by_cases h3 : k % 3 = 2
            · have r1 : (((k : Int) % 3) == 2) = true := by simp; omega
              have r2 : ((k % 3) == 2) = true := by simp; omega
              have r3 : ((k : Int).tmod 3 == 2) = true := by rw [Int.tmod_eq_emod_of_nonneg (by omega)]; exact r1
              have r4 : ((((k % 3 : Nat)) : Int) == 2) = true := by simp; omega
              have hdr := bypDrop_any g gl gm (N + 1) [lim] [en] 0 w2 hT2'.out (by decide)
              rw [again_until, again_set] at hdr
              have hne : (en != 0) = decide (0 < en) := by
                by_cases h : en = 0
                · rw [h]; rfl
                · have : 0 < en := by omega
                  simp [h, this]
              rw [hne] at hdr
              have hdr' := Lib.hid hdr
              clear hdr hne
              go_wp2_with fail
              refine hdr'.out.mono ?_
              rintro e w3 ⟨rfl, T3, M3⟩
              have T3' := Lib.hid T3
              have E3 := E2.goM M3 (fun i hi => by omega)
              have d3 := hdY.out w3 E3
              clear T3 M3 d2
              go_wp2_with fail
              refine (bypUntil_any g gl gm (N + 1) [lim] [0] 0 w3 T3'.out (by decide)).mono ?_
              rw [again_until]
              rintro e w4 ⟨rfl, rfl⟩
              have f1 : decide (now + lim < 0) = false := by simp; omega
              go_wp2_with fail
              go_roundw
              case rel => exact ⟨k + 1, N + 1, now + y, 0, by omega, by go_num, rfl, rfl, ⟨by omega, by omega⟩, by omega, by omega, by omega, T3'.out, E3⟩
              case measure => simp [intOf]; omega
            · have r1 : (((k : Int) % 3) == 2) = false := by simp; omega
              have r2 : ((k % 3) == 2) = false := by simp; omega
              have r3 : ((k : Int).tmod 3 == 2) = false := by rw [Int.tmod_eq_emod_of_nonneg (by omega)]; exact r1
              have r4 : ((((k % 3 : Nat)) : Int) == 2) = false := by simp; omega
              go_wp2_with fail
              refine (bypUntil_any g gl gm (N + 1) [lim] [en] 0 w2 hT2'.out (by decide)).mono ?_
              rw [again_until]
              rintro e w4 ⟨rfl, rfl⟩
              have f1 : decide (now + lim < en) = false := by simp; omega
              go_wp2_with fail
              go_roundw
              case rel => exact ⟨k + 1, N + 1, now + y, en, by omega, by go_num, rfl, rfl, ⟨by omega, by omega⟩, by omega, by omega, by omega, hT2'.out, E2⟩
              case measure => simp [intOf]; omega
      · have hput := bypPut_any g gl gm N [lim] [en] 0 x now wr hT'.out (by decide) (by unfold maxLen; omega)
        obtain ⟨q1, q2⟩ := again_there (lim := lim) (en := en) (n := x) (now := now) x1 x2 l1 hnow.1 (by omega) x3
        rw [q1, q2] at hput
        have hput' := Lib.hid hput
        clear hput q1 q2
        have s1 : decide (1 ≤ x) = true := by simp; omega
        have s2 : decide (x ≤ lim) = true := by simp; omega
        have s3 : decide (now < en) = true := by simp; omega
        go_wp2_with fail
        refine hput'.out.mono ?_
        rintro e w2 ⟨rfl, hT2, M2⟩
        have hT2' := Lib.hid hT2
        have E2 := hE.goM M2 (fun i hi => by omega)
        have d2 := hdY.out w2 E2
        clear hT2 M2 d1
        have hS := hT2'.out.old (.inr (.inr rfl))
        cases drop
        · go_wp2_with fail
          refine (bypUntil_any g gl gm (N + 1) [lim] [en] 0 w2 hT2'.out (by decide)).mono ?_
          rw [again_until]
          rintro e w4 ⟨rfl, rfl⟩
          have f1 : decide (now + lim < en) = false := by simp; omega
          go_wp2_with fail
          go_roundw
          case rel => exact ⟨k + 1, N + 1, now + y, en, by omega, by go_num, rfl, rfl, ⟨by omega, by omega⟩, by omega, by omega, by omega, hT2'.out, E2⟩
          case measure => simp [intOf]; omega
        · by_cases h3 : k % 3 = 2
          · have r1 : (((k : Int) % 3) == 2) = true := by simp; omega
            have r2 : ((k % 3) == 2) = true := by simp; omega
            have r3 : ((k : Int).tmod 3 == 2) = true := by rw [Int.tmod_eq_emod_of_nonneg (by omega)]; exact r1
            have r4 : ((((k % 3 : Nat)) : Int) == 2) = true := by simp; omega
            have hdr := bypDrop_any g gl gm (N + 1) [lim] [en] 0 w2 hT2'.out (by decide)
            rw [again_until, again_set] at hdr
            have hne : (en != 0) = decide (0 < en) := by
              by_cases h : en = 0
              · rw [h]; rfl
              · have : 0 < en := by omega
                simp [h, this]
            rw [hne] at hdr
            have hdr' := Lib.hid hdr
            clear hdr hne
            go_wp2_with fail
            refine hdr'.out.mono ?_
            rintro e w3 ⟨rfl, T3, M3⟩
            have T3' := Lib.hid T3
            have E3 := E2.goM M3 (fun i hi => by omega)
            have d3 := hdY.out w3 E3
            clear T3 M3 d2
            go_wp2_with fail
            refine (bypUntil_any g gl gm (N + 1) [lim] [0] 0 w3 T3'.out (by decide)).mono ?_
            rw [again_until]
            rintro e w4 ⟨rfl, rfl⟩
            have f1 : decide (now + lim < 0) = false := by simp; omega
            go_wp2_with fail
            go_roundw
            case rel => exact ⟨k + 1, N + 1, now + y, 0, by omega, by go_num, rfl, rfl, ⟨by omega, by omega⟩, by omega, by omega, by omega, T3'.out, E3⟩
            case measure => simp [intOf]; omega
          · have r1 : (((k : Int) % 3) == 2) = false := by simp; omega
            have r2 : ((k % 3) == 2) = false := by simp; omega
            have r3 : ((k : Int).tmod 3 == 2) = false := by rw [Int.tmod_eq_emod_of_nonneg (by omega)]; exact r1
            have r4 : ((((k % 3 : Nat)) : Int) == 2) = false := by simp; omega
            go_wp2_with fail
            refine (bypUntil_any g gl gm (N + 1) [lim] [en] 0 w2 hT2'.out (by decide)).mono ?_
            rw [again_until]
            rintro e w4 ⟨rfl, rfl⟩
            have f1 : decide (now + lim < en) = false := by simp; omega
            go_wp2_with fail
            go_roundw
            case rel => exact ⟨k + 1, N + 1, now + y, en, by omega, by go_num, rfl, rfl, ⟨by omega, by omega⟩, by omega, by omega, by omega, hT2'.out, E2⟩
            case measure => simp [intOf]; omega
      · have hput := bypPut_any g gl gm N [lim] [en] 0 x now wr hT'.out (by decide) (by unfold maxLen; omega)
        obtain ⟨q1, q2⟩ := again_goes (lim := lim) (en := en) (n := x) (now := now) x1 x2 l1 hnow.1 (by omega) x3
        rw [q1, q2] at hput
        have hput' := Lib.hid hput
        clear hput q1 q2
        have s1 : decide (1 ≤ x) = true := by simp; omega
        have s2 : decide (x ≤ lim) = true := by simp; omega
        have s3 : decide (now < en) = false := by simp; omega
        have u5 : IntKind.i64.wrap (now + x) = now + x := by rw [IntKind.wrap_i64]; omega
        go_wp2_with fail
        refine hput'.out.mono ?_
        rintro e w2 ⟨rfl, hT2, M2⟩
        have hT2' := Lib.hid hT2
        have E2 := hE.goM M2 (fun i hi => by omega)
        have d2 := hdY.out w2 E2
        clear hT2 M2 d1
        obtain ⟨z, hz⟩ : ∃ z, now + x = z := ⟨_, rfl⟩
        rw [hz] at hT2' u5
        have hzb : 0 ≤ z ∧ z ≤ now + lim := by omega
        have hS := hT2'.out.old (.inr (.inr rfl))
        cases drop
        · go_wp2_with fail
          refine (bypUntil_any g gl gm (N + 1) [lim] [z] 0 w2 hT2'.out (by decide)).mono ?_
          rw [again_until]
          rintro e w4 ⟨rfl, rfl⟩
          have f1 : decide (now + lim < z) = false := by simp; omega
          go_wp2_with fail
          go_roundw
          case rel => exact ⟨k + 1, N + 1, now + y, z, by omega, by go_num, rfl, rfl, ⟨by omega, by omega⟩, by omega, by omega, by omega, hT2'.out, E2⟩
          case measure => simp [intOf]; omega
        · by_cases h3 : k % 3 = 2
          · have r1 : (((k : Int) % 3) == 2) = true := by simp; omega
            have r2 : ((k % 3) == 2) = true := by simp; omega
            have r3 : ((k : Int).tmod 3 == 2) = true := by rw [Int.tmod_eq_emod_of_nonneg (by omega)]; exact r1
            have r4 : ((((k % 3 : Nat)) : Int) == 2) = true := by simp; omega
            have hdr := bypDrop_any g gl gm (N + 1) [lim] [z] 0 w2 hT2'.out (by decide)
            rw [again_until, again_set] at hdr
            have hne : (z != 0) = decide (0 < z) := by
              by_cases h : z = 0
              · rw [h]; rfl
              · have : 0 < z := by omega
                simp [h, this]
            rw [hne] at hdr
            have hdr' := Lib.hid hdr
            clear hdr hne
            go_wp2_with fail
            refine hdr'.out.mono ?_
            rintro e w3 ⟨rfl, T3, M3⟩
            have T3' := Lib.hid T3
            have E3 := E2.goM M3 (fun i hi => by omega)
            have d3 := hdY.out w3 E3
            clear T3 M3 d2
            go_wp2_with fail
            refine (bypUntil_any g gl gm (N + 1) [lim] [0] 0 w3 T3'.out (by decide)).mono ?_
            rw [again_until]
            rintro e w4 ⟨rfl, rfl⟩
            have f1 : decide (now + lim < 0) = false := by simp; omega
            go_wp2_with fail
            go_roundw
            case rel => exact ⟨k + 1, N + 1, now + y, 0, by omega, by go_num, rfl, rfl, ⟨by omega, by omega⟩, by omega, by omega, by omega, T3'.out, E3⟩
            case measure => simp [intOf]; omega
          · have r1 : (((k : Int) % 3) == 2) = false := by simp; omega
            have r2 : ((k % 3) == 2) = false := by simp; omega
            have r3 : ((k : Int).tmod 3 == 2) = false := by rw [Int.tmod_eq_emod_of_nonneg (by omega)]; exact r1
            have r4 : ((((k % 3 : Nat)) : Int) == 2) = false := by simp; omega
            go_wp2_with fail
            refine (bypUntil_any g gl gm (N + 1) [lim] [z] 0 w2 hT2'.out (by decide)).mono ?_
            rw [again_until]
            rintro e w4 ⟨rfl, rfl⟩
            have f1 : decide (now + lim < z) = false := by simp; omega
            go_wp2_with fail
            go_roundw
            case rel => exact ⟨k + 1, N + 1, now + y, z, by omega, by go_num, rfl, rfl, ⟨by omega, by omega⟩, by omega, by omega, by omega, hT2'.out, E2⟩
            case measure => simp [intOf]; omega
    · have hend : n1 ≤ k ∨ (k < n1 ∧ n2 ≤ k) := by omega
      rcases hend with h | ⟨h, h2⟩
      · obtain rfl : k = n1 := by omega
        go_wp2_with fail
        go_ret
        exact ⟨rfl, hE⟩
      · have s1 : decide (k < n1) = true := by simp; omega
        have s2 : decide (k < n2) = false := by simp; omega
        go_wp2_with fail
        go_ret
        exact ⟨rfl, hE⟩
end Go.Proofs.Ytgeahfkhfpdlhaa
