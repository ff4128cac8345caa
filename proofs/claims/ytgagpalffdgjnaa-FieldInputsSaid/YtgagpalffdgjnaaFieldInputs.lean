/- Layer 24, the law FieldInputs: the walk. (Printed by wip/gen/fieldinputs.py.) -/
import Derived.Test.YtgagpalffdgjnaaFieldInputsLaw
import Derived.Test.YtgagpalffdgjnaaFieldP
import Derived.Test.YtgagpalffdgjnaaTk
import Derived.Test.YtgagpalffdgjnaaRef05D
import Derived.Test.YtgagpalffdgjnaaOpenBools
namespace Go.Proofs.Ytgagpalffdgjnaa
open Go.RowKit

theorem RdBs.later {w w' : World} {A : Option Addr} {xs : List Bool} (h : RdBs w w.heap.size A xs.length (xs.map Value.bool)) (E : Ext w w') {j : Nat} (hj : j < xs.length) :
    ∃ b o, A = some ⟨b, o, none⟩ ∧ b < w'.heap.size ∧ w'.cell? ⟨b, o + j, none⟩ = some (.bool (xs.getD j false)) := by
  obtain ⟨b, o, e, hb, hc⟩ := h.bool hj
  exact ⟨b, o, e, Nat.lt_of_lt_of_le hb E.size, (E.cell _ hb).trans hc⟩
theorem frame_in (j : Nat) (u : Int) (al : List Bool) : (frameL j 5 u (pduI al)).length = if j < 2 then 30 else 34 := by
  have hp := pduI_len al
  unfold frameL rtuL mbapL
  split
  · rw [if_pos (by omega)]; simp [sealL, hp]
  · rw [if_pos (by omega)]; simp [mbapHead, hp]
theorem pdu_serial {j : Nat} (hj : j < 2) (u : Int) (al : List Bool) : ((frameL j 5 u (pduI al)).drop 1).take 27 = pduI al := by
  have hp := pduI_len al
  unfold frameL rtuL
  rw [if_pos hj, if_pos (by omega)]
  simp only [sealL, List.cons_append, List.drop_succ_cons, List.drop_zero]
  rw [List.take_append_of_le_length (by omega), List.take_of_length_le (by omega)]
theorem pdu_stream {j : Nat} (hj : ¬ j < 2) (u : Int) (al : List Bool) : (frameL j 5 u (pduI al)).drop 7 = pduI al := by
  have hp := pduI_len al
  unfold frameL mbapL
  rw [if_neg hj, if_pos (by omega)]
  simp [mbapHead]
section
variable (line : Int) (A1 A2 : Option Addr) (c1 c2 : Nat) (al bl : List Bool) (w : World)
set_option maxRecDepth 100000 in
set_option maxHeartbeats 12800000 in
theorem fieldInputs_any (l0 : 0 ≤ line) (hx : RdBs w w.heap.size A1 al.length (al.map Value.bool)) (hy : RdBs w w.heap.size A2 bl.length (bl.map Value.bool)) :
    Calls Try.prog 9 #[.int .u8 line, .slice A1 al.length c1, .slice A2 bl.length c2] w fun e w' => e = .returned (.bool true) ∧ Ext w w' := by
  obtain ⟨j, hj, hjl⟩ : ∃ j : Nat, j < 4 ∧ line.tmod 4 = (j : Int) := ⟨(line % 4).toNat, by omega, by rw [Int.tmod_eq_emod_of_nonneg l0]; omega⟩
  have hx' := Lib.hid hx
  have hy' := Lib.hid hy
  clear hx hy
  obtain ⟨na, hna⟩ : ∃ na, al.length = na := ⟨_, rfl⟩
  obtain ⟨nb, hnb⟩ : ∃ nb, bl.length = nb := ⟨_, rfl⟩
  rw [hna, hnb]
  have hna' := Lib.hid hna
  have hnb' := Lib.hid hnb
  clear hna hnb
  go_enter Try.func9, Try.ntmps9
  go_wp2_with fail
  refine (head24_any w).mono ?_
  rintro e w1 ⟨rfl, E1⟩
  go_wp2_with fail
  have PD := heap_alloc_new w1 (.cells #[.string { data := #[] }, .int .i64 (j : Int), .int .i64 1, .string { data := #[] }, .int .i64 (j : Int), .int .i64 2] 65)
  have hdv : RdDv (w1.alloc (.cells #[.string { data := #[] }, .int .i64 (j : Int), .int .i64 1, .string { data := #[] }, .int .i64 (j : Int), .int .i64 2] 65)) (some ⟨w1.heap.size, 0, none⟩) 2 (inDev j) := by
    refine ⟨rfl, fun k hk => ?_⟩
    match k, hk with
    | 0, _ => exact ⟨_, _, _, rfl, by simp, cellsAt PD 0, cellsAt PD 1, cellsAt PD 2, wf_i64 (x := (j : Int)) (by omega) (by omega), rfl⟩
    | 1, _ => exact ⟨_, _, _, rfl, by simp, cellsAt PD 3, cellsAt PD 4, cellsAt PD 5, wf_i64 (x := (j : Int)) (by omega) (by omega), rfl⟩
  have E0 : Ext w (w1.alloc (.cells #[.string { data := #[] }, .int .i64 (j : Int), .int .i64 1, .string { data := #[] }, .int .i64 (j : Int), .int .i64 2] 65)) := E1.goA _
  have hnew := newIn _ 2 2 (inDev j) _ hdv (by omega) (by omega)
  have E0' := Lib.hid E0
  clear PD hdv E0 E1
  generalize hw0 : w1.alloc (.cells #[.string { data := #[] }, .int .i64 (j : Int), .int .i64 1, .string { data := #[] }, .int .i64 (j : Int), .int .i64 2] 65) = w0 at *
  clear hw0
  refine hnew.mono ?_
  rintro e w2 ⟨f, T, rfl, h2⟩
  have E2 := Lib.hid (E0'.out.go h2.world)
  have h2' := Lib.hid h2
  clear h2 hnew
  by_cases hn1 : 200 < na
  · have d1 : decide ((200 : Int) < (na : Int)) = true := by simp; omega
    go_wp2_with fail
    go_ret
    exact ⟨rfl, E2.out⟩
  have d1 : decide ((200 : Int) < (na : Int)) = false := by simp; omega
  by_cases hn2 : 200 < nb
  · have d2 : decide ((200 : Int) < (nb : Int)) = true := by simp; omega
    go_wp2_with fail
    go_ret
    exact ⟨rfl, E2.out⟩
  have d2 : decide ((200 : Int) < (nb : Int)) = false := by simp; omega
  go_wp2_with fail
  go_loopw [10] (fun i wr => ∃ k : Nat, k ≤ 200 ∧ i = .int .i64 k ∧ ∃ T F, FdIn w0 wr T f (inDev j) F ∧ FOk F 0 ∧ StI F j al bl k k) (fun i _ => 200 - (intOf i).toNat)
  case atStart => exact ⟨0, by omega, rfl, T, newF, h2'.out, FOk.new, StI.new j al bl⟩
  case round =>
    clear h2' E2
    obtain ⟨k, hk, rfl, Tr, Fr, hF, hok, hst⟩ := hrel
    have hF' := Lib.hid hF
    have hok' := Lib.hid hok
    have hst' := Lib.hid hst
    have Er := Lib.hid (E0'.out.go hF.world)
    clear hF hok hst
    by_cases hkn : k < 200
    · have e1 : decide ((k : Int) < 200) = true := by simp; omega
      rcases (show (k < na ∧ al.getD k false = true) ∨ (k < na ∧ al.getD k false = false) ∨ ¬ k < na from by cases h : al.getD k false <;> simp <;> omega) with ⟨hka, xa⟩ | ⟨hka, xa⟩ | hka
      · have t1 : decide ((k : Int) < (na : Int)) = true := by simp; omega
        have t2 : (k : Int) < (na : Int) := by omega
        obtain ⟨ba, oa, ea, _, ya⟩ := hx'.out.later Er.out (j := k) (by have := hna'.out; omega)
        rw [xa] at ya
        subst ea
        have hst5 := Lib.hid (hst'.out.set0 (by omega) xa)
        have hok5 := Lib.hid (hok'.out.set (inDev j) 0 (k : Int) 1)
        have hset0 := setIn hF'.out 0 (k : Int) 1
        clear xa
        go_wp2_with fail
        refine hset0.mono ?_
        rintro e w5 ⟨rfl, h5, _⟩
        have hF5 := Lib.hid h5
        have E5 := Lib.hid (E0'.out.go h5.world)
        clear h5 hset0 ya hF' hok' hst' Er
        rcases (show (k < nb ∧ bl.getD k false = true) ∨ (k < nb ∧ bl.getD k false = false) ∨ ¬ k < nb from by cases h : bl.getD k false <;> simp <;> omega) with ⟨hkb, xb⟩ | ⟨hkb, xb⟩ | hkb
        · have t3 : decide ((k : Int) < (nb : Int)) = true := by simp; omega
          have t4 : (k : Int) < (nb : Int) := by omega
          obtain ⟨bb, ob, eb, _, yb⟩ := hy'.out.later (E5.out) (j := k) (by have := hnb'.out; omega)
          rw [xb] at yb
          subst eb
          have hst9 := Lib.hid (hst5.out.set1 (by omega) xb)
          have hok9 := Lib.hid (hok5.out.set (inDev j) 1 (k : Int) (-3))
          have hset := setIn hF5.out 1 (k : Int) (-3)
          clear xb
          go_wp2_with fail
          refine hset.mono ?_
          rintro e w9 ⟨rfl, h9, _⟩
          have hF9 := Lib.hid h9
          clear h9 hset yb
          go_wp2_with fail
          go_roundw
          case rel => exact ⟨k + 1, by omega, by simp, _, _, hF9.out, hok9.out, hst9.out⟩
          case measure => simp [intOf]; omega
        · have t3 : decide ((k : Int) < (nb : Int)) = true := by simp; omega
          have t4 : (k : Int) < (nb : Int) := by omega
          obtain ⟨bb, ob, eb, _, yb⟩ := hy'.out.later (E5.out) (j := k) (by have := hnb'.out; omega)
          rw [xb] at yb
          subst eb
          have hst9 := Lib.hid (hst5.out.no1 xb)
          have hF9 := hF5
          have hok9 := hok5
          clear xb
          go_wp2_with fail
          go_roundw
          case rel => exact ⟨k + 1, by omega, by simp, _, _, hF9.out, hok9.out, hst9.out⟩
          case measure => simp [intOf]; omega
        · have t3 : decide ((k : Int) < (nb : Int)) = false := by simp; omega
          have hb0 : bl.getD k false = false := by rw [List.getD_eq_getElem?_getD, List.getElem?_eq_none (by have := hnb'.out; omega)]; rfl
          have hst9 := Lib.hid (hst5.out.no1 hb0)
          have hF9 := hF5
          have hok9 := hok5
          clear hb0
          go_wp2_with fail
          go_roundw
          case rel => exact ⟨k + 1, by omega, by simp, _, _, hF9.out, hok9.out, hst9.out⟩
          case measure => simp [intOf]; omega
      · have t1 : decide ((k : Int) < (na : Int)) = true := by simp; omega
        have t2 : (k : Int) < (na : Int) := by omega
        obtain ⟨ba, oa, ea, _, ya⟩ := hx'.out.later Er.out (j := k) (by have := hna'.out; omega)
        rw [xa] at ya
        subst ea
        have hst5 := Lib.hid (hst'.out.no0 xa)
        clear xa
        rcases (show (k < nb ∧ bl.getD k false = true) ∨ (k < nb ∧ bl.getD k false = false) ∨ ¬ k < nb from by cases h : bl.getD k false <;> simp <;> omega) with ⟨hkb, xb⟩ | ⟨hkb, xb⟩ | hkb
        · have t3 : decide ((k : Int) < (nb : Int)) = true := by simp; omega
          have t4 : (k : Int) < (nb : Int) := by omega
          obtain ⟨bb, ob, eb, _, yb⟩ := hy'.out.later (Er.out) (j := k) (by have := hnb'.out; omega)
          rw [xb] at yb
          subst eb
          have hst9 := Lib.hid (hst5.out.set1 (by omega) xb)
          have hok9 := Lib.hid (hok'.out.set (inDev j) 1 (k : Int) (-3))
          have hset := setIn hF'.out 1 (k : Int) (-3)
          clear xb
          go_wp2_with fail
          refine hset.mono ?_
          rintro e w9 ⟨rfl, h9, _⟩
          have hF9 := Lib.hid h9
          clear h9 hset yb
          go_wp2_with fail
          go_roundw
          case rel => exact ⟨k + 1, by omega, by simp, _, _, hF9.out, hok9.out, hst9.out⟩
          case measure => simp [intOf]; omega
        · have t3 : decide ((k : Int) < (nb : Int)) = true := by simp; omega
          have t4 : (k : Int) < (nb : Int) := by omega
          obtain ⟨bb, ob, eb, _, yb⟩ := hy'.out.later (Er.out) (j := k) (by have := hnb'.out; omega)
          rw [xb] at yb
          subst eb
          have hst9 := Lib.hid (hst5.out.no1 xb)
          have hF9 := hF'
          have hok9 := hok'
          clear xb
          go_wp2_with fail
          go_roundw
          case rel => exact ⟨k + 1, by omega, by simp, _, _, hF9.out, hok9.out, hst9.out⟩
          case measure => simp [intOf]; omega
        · have t3 : decide ((k : Int) < (nb : Int)) = false := by simp; omega
          have hb0 : bl.getD k false = false := by rw [List.getD_eq_getElem?_getD, List.getElem?_eq_none (by have := hnb'.out; omega)]; rfl
          have hst9 := Lib.hid (hst5.out.no1 hb0)
          have hF9 := hF'
          have hok9 := hok'
          clear hb0
          go_wp2_with fail
          go_roundw
          case rel => exact ⟨k + 1, by omega, by simp, _, _, hF9.out, hok9.out, hst9.out⟩
          case measure => simp [intOf]; omega
      · have t1 : decide ((k : Int) < (na : Int)) = false := by simp; omega
        have ha0 : al.getD k false = false := by rw [List.getD_eq_getElem?_getD, List.getElem?_eq_none (by have := hna'.out; omega)]; rfl
        have hst5 := Lib.hid (hst'.out.no0 ha0)
        clear ha0
        rcases (show (k < nb ∧ bl.getD k false = true) ∨ (k < nb ∧ bl.getD k false = false) ∨ ¬ k < nb from by cases h : bl.getD k false <;> simp <;> omega) with ⟨hkb, xb⟩ | ⟨hkb, xb⟩ | hkb
        · have t3 : decide ((k : Int) < (nb : Int)) = true := by simp; omega
          have t4 : (k : Int) < (nb : Int) := by omega
          obtain ⟨bb, ob, eb, _, yb⟩ := hy'.out.later (Er.out) (j := k) (by have := hnb'.out; omega)
          rw [xb] at yb
          subst eb
          have hst9 := Lib.hid (hst5.out.set1 (by omega) xb)
          have hok9 := Lib.hid (hok'.out.set (inDev j) 1 (k : Int) (-3))
          have hset := setIn hF'.out 1 (k : Int) (-3)
          clear xb
          go_wp2_with fail
          refine hset.mono ?_
          rintro e w9 ⟨rfl, h9, _⟩
          have hF9 := Lib.hid h9
          clear h9 hset yb
          go_wp2_with fail
          go_roundw
          case rel => exact ⟨k + 1, by omega, by simp, _, _, hF9.out, hok9.out, hst9.out⟩
          case measure => simp [intOf]; omega
        · have t3 : decide ((k : Int) < (nb : Int)) = true := by simp; omega
          have t4 : (k : Int) < (nb : Int) := by omega
          obtain ⟨bb, ob, eb, _, yb⟩ := hy'.out.later (Er.out) (j := k) (by have := hnb'.out; omega)
          rw [xb] at yb
          subst eb
          have hst9 := Lib.hid (hst5.out.no1 xb)
          have hF9 := hF'
          have hok9 := hok'
          clear xb
          go_wp2_with fail
          go_roundw
          case rel => exact ⟨k + 1, by omega, by simp, _, _, hF9.out, hok9.out, hst9.out⟩
          case measure => simp [intOf]; omega
        · have t3 : decide ((k : Int) < (nb : Int)) = false := by simp; omega
          have hb0 : bl.getD k false = false := by rw [List.getD_eq_getElem?_getD, List.getElem?_eq_none (by have := hnb'.out; omega)]; rfl
          have hst9 := Lib.hid (hst5.out.no1 hb0)
          have hF9 := hF'
          have hok9 := hok'
          clear hb0
          go_wp2_with fail
          go_roundw
          case rel => exact ⟨k + 1, by omega, by simp, _, _, hF9.out, hok9.out, hst9.out⟩
          case measure => simp [intOf]; omega
    · have e1 : decide ((k : Int) < 200) = false := by simp; omega
      have hkk : k = 200 := by omega
      have hst2 := Lib.hid (hkk ▸ hst'.out : StI Fr j al bl 200 200)
      clear hst' hkk
      go_wp2_with fail
      clear hk hkn e1
      go_loopw [11] (fun i W => ∃ d : Nat, d ≤ 2 ∧ i = .int .i64 ((d : Int) + 1) ∧ ∃ T F, FdIn w0 W T f (inDev j) F ∧ FOk F d ∧ StI F j al bl 200 200) (fun i _ => 3 - (intOf i).toNat)
      case atStart => exact ⟨0, by omega, rfl, Tr, Fr, hF'.out, hok'.out, hst2.out⟩
      case round =>
        clear hF' hok' hst2 Er
        obtain ⟨d, hd, rfl, Tq, Fq, hF, hok, hst⟩ := hrel
        have hF' := Lib.hid hF
        have hok' := Lib.hid hok
        have hst' := Lib.hid hst
        have Eq := Lib.hid (E0'.out.go hF.world)
        clear hF hok hst
        by_cases hd2 : d < 2
        rotate_left
        · have e1 : decide ((d : Int) + 1 ≤ 2) = false := by simp; omega
          go_wp2_with fail
          go_ret
          exact ⟨rfl, Eq.out⟩
        have e1 : decide ((d : Int) + 1 ≤ 2) = true := by simp; omega
        have hu8 : IntKind.u8.wrap ((d : Int) + 1) = (d : Int) + 1 := by rw [IntKind.wrap_u8]; omega
        have hw1 : IntKind.i64.wrap ((d : Int) + 1 + 1) = (d : Int) + 1 + 1 := by rw [IntKind.wrap_i64]; omega
        obtain ⟨sb, ss⟩ := in_step hj hd2 hst'.out
        have sb' := Lib.hid sb
        have ss' := Lib.hid ss
        clear sb ss hst'
        rcases (show d = 0 ∨ d = 1 from by omega) with hd0 | hd0
        · have hsb := Lib.hid (show dueB (askF (inDev j) Fq (j : Int) (frameL j 5 ((d : Int) + 1) (putL 2 0 200 0 [])) 0) (j : Int) 1 = [frameL j 5 ((d : Int) + 1) (pduI al)] from by rw [sb'.out]; rw [if_pos hd0])
          have t1 : (((d : Int) + 1) == 2) = false := by simp; omega
          have t1' : (d + 1 == 2) = false := by simp; omega
          have t1n : (d == 1) = false := by simp; omega
          clear sb' hd0
          go_wp2_with fail
          refine (framed_any j 5 ((d : Int) + 1) 2 0 200 0 (by omega) (by omega) (RdI.nil _) word16_nil (by unfold maxLen; omega)).mono ?_
          rintro e w3 ⟨A3, n3, c3, rfl, g1, g2, r3, E3, f3⟩
          have E03 : Ext wr w3 := ((Ext.refl wr).goA _).go E3
          have h3 := hF'.out.ext E03
          have o3 := hF'.out.off n3 (A := A3) (fun b o e => by have := f3 b o e; simp only [alloc_size] at this; omega)
          have l3 := r3.len
          have ln3 := frameL_len j 5 ((d : Int) + 1) (putL 2 0 200 0 [])
          have PQ := (E3.block _ (lt_of_block (heap_alloc_new wr (.cells #[.int .i64 2, .int .i64 0, .int .i64 200, .slice none 0 0, .int .i64 0] 30)))).trans (heap_alloc_new wr (.cells #[.int .i64 2, .int .i64 0, .int .i64 200, .slice none 0 0, .int .i64 0] 30))
          have PQ' := Lib.hid PQ
          clear PQ
          go_wp2_with fail
          refine (askIn h3 hok'.out (by omega) r3 o3 (frame_bytes 5 (by omega) (by omega) (putL_bytes 2 0 200 0 [])) g1 g2 (by omega) (j : Int) 0).mono ?_
          rintro e w4 ⟨rfl, T4, h4, m4, q4⟩
          have h4' := Lib.hid h4
          have hok4 := Lib.hid (hok'.out.ask (inDev j) (j : Int) (frameL j 5 ((d : Int) + 1) (putL 2 0 200 0 [])) 0)
          have hqT : ∀ b, Tq b → b < wr.heap.size := fun b hb => hF'.out.lt hb
          have P4 := (m4.block _ (lt_of_block PQ'.out) (fun hb => by have := hqT _ hb; omega)).trans PQ'.out
          have P4' := Lib.hid P4
          have hT4 : ¬ T4 wr.heap.size := fun hb => by
            rcases q4 _ hb with h | h
            · have := hqT _ h; omega
            · have := lt_of_block PQ'.out; omega
          have hT4' := Lib.hid hT4
          clear h4 h3 o3 l3 ln3 r3 E3 f3 E03 m4 q4 hqT P4 hT4 PQ'
          go_wp2_with fail
          refine (dueIn h4'.out hok4.out (by omega) (j : Int) 1).mono ?_
          rintro e w5 ⟨v, T5, rfl, h5, m5, _, hout⟩
          rw [hsb.out] at hout
          have P5 := Lib.hid ((m5.block _ (lt_of_block P4'.out) hT4'.out).trans P4'.out)
          have h5' := Lib.hid h5
          have hok5 := Lib.hid (hok4.out.due (j : Int) 1)
          obtain ⟨bo, co, Ao, no, c'o, rfl, ko, hnc, hcm, ro⟩ := hout.at_ (k := 0) (by simp)
          replace ro : RdI w5 w5.heap.size .u8 Ao no (frameL j 5 ((d : Int) + 1) (pduI al)) := ro
          have hlo := ro.len
          rw [frame_in] at hlo
          obtain ⟨bx, ox, rfl, _, _⟩ := ro.at_ (j := 0) (by split at hlo <;> omega)
          have ro' := Lib.hid ro
          have KO := fun W (E : Ext w5 W) => (E.cell 0 (cell_lt ko)).trans ko
          clear h5 m5 hout hsb h4' hok4 P4' hT4' ro hok' hF'
          rw [List.length_singleton]
          by_cases hj2 : j < 2
          · rw [if_pos hj2] at hlo
            obtain rfl : no = 30 := by omega
            have w28 : IntKind.i64.wrap 28 = 28 := rfl
            have b1 : (28 : Int) ≤ (c'o : Int) := by omega
            have b2 : (30 : Int) ≤ (c'o : Int) := by omega
            have b3 : 28 ≤ c'o := by omega
            have b4 : ¬ c'o = 1 := by omega
            have dj : decide ((2 : Int) ≤ (j : Int)) = false := by simp; omega
            have hz := fun (w6 : World) (E : Ext w5 w6) => (pdu_serial hj2 ((d : Int) + 1) al) ▸ (((ro'.out.ext E).drop8 (lo := 1) (by omega)).cutTo8 (m := 27) (by omega))
            have hz' := Lib.hid hz
            clear hlo hz
            go_wp2_with fail
            refine wp_region_held_drew (S := fun w' => Ext w5 w') (by kernel_rfl) ((Ext.refl w5).god) (fun hHeld => ?_)
            refine tkH 0 (v := ?_) ?_ ?_
            rotate_left
            · intro w hSw; (try dsimp only at hSw); go_simp; try (with_reducible rfl)
            try simp only [Act.put, gA, gC, List.setIfInBounds_toArray, gE, gF]
            refine tkH 1 (v := ?_) ?_ ?_
            rotate_left
            · intro w hSw; (try dsimp only at hSw); go_simp; try (with_reducible rfl)
            try simp only [Act.put, gA, gB, gC, List.setIfInBounds_toArray, gE, gF]
            refine tkH 2 (v := ?_) ?_ ?_
            rotate_left
            · intro w hSw; (try dsimp only at hSw); go_simp; try (with_reducible rfl)
            try simp only [Act.put, gA, gB, gC, List.setIfInBounds_toArray, gE, gF]
            refine tkH 3 (v := ?_) ?_ ?_
            rotate_left
            · intro w hSw; (try dsimp only at hSw); go_simp; try (with_reducible rfl)
            try simp only [Act.put, gA, gB, gC, List.setIfInBounds_toArray, gE, gF]
            refine tkH 4 (v := ?_) ?_ ?_
            rotate_left
            · intro w hSw; (try dsimp only at hSw); go_simp; try (with_reducible rfl)
            try simp only [Act.put, gA, gB, gC, List.setIfInBounds_toArray, gE, gF]
            refine tkH 5 (v := ?_) ?_ ?_
            rotate_left
            · intro w hSw; (try dsimp only at hSw); go_simp; try (with_reducible rfl)
            try simp only [Act.put, gA, gB, gC, List.setIfInBounds_toArray, gE, gF]
            refine tkH 6 (v := ?_) ?_ ?_
            rotate_left
            · intro w hSw; (try dsimp only at hSw); go_simp; try (with_reducible rfl)
            try simp only [Act.put, gA, gB, gC, List.setIfInBounds_toArray, gE, gF]
            refine tkH 7 (v := ?_) ?_ ?_
            rotate_left
            · intro w hSw; (try dsimp only at hSw); go_simp; try (with_reducible rfl)
            try simp only [Act.put, gA, gB, gC, List.setIfInBounds_toArray, gE, gF]
            refine tkH 8 (v := ?_) ?_ ?_
            rotate_left
            · intro w hSw; (try dsimp only at hSw); go_simp; try (with_reducible rfl)
            try simp only [Act.put, gA, gB, gC, List.setIfInBounds_toArray, gE, gF]
            refine tkH 9 (v := ?_) ?_ ?_
            rotate_left
            · intro w hSw; (try dsimp only at hSw); go_simp; try (with_reducible rfl)
            try simp only [Act.put, gA, gB, gC, List.setIfInBounds_toArray, gE, gF]
            refine wpAnyH_done (by kernel_rfl) ?_ _
            have hz6 := hz'.out _ hHeld
            have P6 := (hHeld.block _ (lt_of_block P5.out)).trans P5.out
            have h6 := Lib.hid (h5'.out.ext hHeld)
            clear KO
            generalize w5.drew = w6 at *
            have q0 : w6.cell? ⟨wr.heap.size, 0, none⟩ = some (.int .i64 2) := cellsAt P6 0
            have q1 : w6.cell? ⟨wr.heap.size, 1, none⟩ = some (.int .i64 0) := cellsAt P6 1
            have q2 : w6.cell? ⟨wr.heap.size, 2, none⟩ = some (.int .i64 200) := cellsAt P6 2
            have q3 : w6.cell? ⟨wr.heap.size, 3, none⟩ = some (.slice none 0 0) := cellsAt P6 3
            have q4 : w6.cell? ⟨wr.heap.size, 4, none⟩ = some (.int .i64 0) := cellsAt P6 4
            have hget := ref05Get_any 2 0 200 0 0 none (some ⟨bx, ox + 1, none⟩) 0 0 27 (c'o - 1) [] (readI al) (pduI al) w6 (RdI.nil _) word16_nil (by unfold maxLen; omega) (readI_range al) hz6 (by omega) (by omega) (ans_in al) rfl
            clear hz6 P6 hz' hHeld
            go_wp2_with fail
            refine hget.mono ?_
            rintro e w7 ⟨A7, n7, c7, rfl, k1, k2, r7, E7⟩
            obtain rfl : n7 = 200 := by rw [← r7.len]; exact readI_len al
            have E78 : Ext w7 (w7.alloc (.cells #[.int .i64 0, .slice A7 200 c7] 54)) := (Ext.refl w7).goA _
            have PR := heap_alloc_new w7 (.cells #[.int .i64 0, .slice A7 200 c7] 54)
            have rr := Lib.hid (r7.ext E78)
            have a1 : (w7.alloc (.cells #[.int .i64 0, .slice A7 200 c7] 54)).cell? ⟨w7.heap.size, 1, none⟩ = some (.slice A7 200 c7) := cellsAt PR 1
            have h8 := Lib.hid (h6.out.ext (E7.go E78))
            have E08 := Lib.hid (E0'.out.go h8.out.world)
            have PR' := Lib.hid PR
            clear hget r7 E7 E78 PR h6 q0 q1 q2 q3 q4
            go_wp2_with fail
            generalize hw8 : w7.alloc (.cells #[.int .i64 0, .slice A7 200 c7] 54) = w8 at *
            clear hw8 a1
            go_loopw [18] (fun i W => ∃ k : Nat, k ≤ 200 ∧ i = .int .i64 k ∧ Ext w8 W) (fun i _ => 200 - (intOf i).toNat)
            case atStart => exact ⟨0, by omega, rfl, Ext.refl w8⟩
            case round =>
              obtain ⟨k, hk, rfl, Ek⟩ := hrel
              by_cases hk2 : k < 200
              · have z1 : decide ((k : Int) < 200) = true := by simp; omega
                obtain ⟨br, orr, er, _, yr⟩ := (rr.out.ext Ek).at_ hk2
                rw [readI_at hk2] at yr
                have ap : wr.cell? ⟨w7.heap.size, 1, none⟩ = some (.slice A7 200 c7) := (Ek.cell _ (lt_of_block PR'.out)).trans (cellsAt PR'.out 1)
                subst er
                have b6 : (k : Int) < 200 := by omega
                have AP := fun W (E : Ext wr W) => (E.cell 1 (cell_lt ap)).trans ap
                by_cases hkl : k < na
                · obtain ⟨bb, ob, eb, hbl, yb⟩ := hx'.out.later (E08.out.go Ek) (j := k) (by have := hna'.out; omega)
                  subst eb
                  have YB := fun W (E : Ext wr W) => (E.cell _ hbl).trans yb
                  have z2 : decide ((k : Int) < (na : Int)) = true := by simp; omega
                  have b7 : (k : Int) < (na : Int) := by omega
                  cases hb : al.getD k false with
                  | true =>
                    rw [hb, if_pos rfl] at yr
                    rw [hb] at YB
                    have YR := fun W (E : Ext wr W) => (E.cell _ (cell_lt yr)).trans yr
                    clear yb yr ap
                    go_wp2_with fail
                    refine wp_region_held_drew (S := fun w' => Ext wr w') (by kernel_rfl) ((Ext.refl wr).god) (fun hHeld => ?_)
                    refine tkH 0 (v := ?_) ?_ ?_
                    rotate_left
                    · intro w hSw; (try dsimp only at hSw); go_simp; try (with_reducible rfl)
                    try simp only [Act.put, gA, gC, List.setIfInBounds_toArray, gE, gF]
                    refine tkH 1 (v := ?_) ?_ ?_
                    rotate_left
                    · intro w hSw; (try dsimp only at hSw); go_simp; try (with_reducible rfl)
                    try simp only [Act.put, gA, gB, gC, List.setIfInBounds_toArray, gE, gF]
                    refine tkH 2 (v := ?_) ?_ ?_
                    rotate_left
                    · intro w hSw; (try dsimp only at hSw); go_simp; try (with_reducible rfl)
                    try simp only [Act.put, gA, gB, gC, List.setIfInBounds_toArray, gE, gF]
                    refine tkH 3 (v := ?_) ?_ ?_
                    rotate_left
                    · intro w hSw; (try dsimp only at hSw); go_simp; try (with_reducible rfl)
                    try simp only [Act.put, gA, gB, gC, List.setIfInBounds_toArray, gE, gF]
                    refine tkH 4 (v := ?_) ?_ ?_
                    rotate_left
                    · intro w hSw; (try dsimp only at hSw); go_simp; try (with_reducible rfl)
                    try simp only [Act.put, gA, gB, gC, List.setIfInBounds_toArray, gE, gF]
                    refine tkH 5 (v := ?_) ?_ ?_
                    rotate_left
                    · intro w hSw; (try dsimp only at hSw); go_simp; try (with_reducible rfl)
                    try simp only [Act.put, gA, gB, gC, List.setIfInBounds_toArray, gE, gF]
                    refine tkH 6 (v := ?_) ?_ ?_
                    rotate_left
                    · intro w hSw; (try dsimp only at hSw); go_simp; try (with_reducible rfl)
                    try simp only [Act.put, gA, gB, gC, List.setIfInBounds_toArray, gE, gF]
                    refine tkH 7 (v := ?_) ?_ ?_
                    rotate_left
                    · intro w hSw; (try dsimp only at hSw); go_simp; try (with_reducible rfl)
                    try simp only [Act.put, gA, gB, gC, List.setIfInBounds_toArray, gE, gF]
                    refine tkH 8 (v := ?_) ?_ ?_
                    rotate_left
                    · intro w hSw; (try dsimp only at hSw); go_simp; try (with_reducible rfl)
                    try simp only [Act.put, gA, gB, gC, List.setIfInBounds_toArray, gE, gF]
                    refine tkH 9 (v := ?_) ?_ ?_
                    rotate_left
                    · intro w hSw; (try dsimp only at hSw); go_simp; try (with_reducible rfl)
                    try simp only [Act.put, gA, gB, gC, List.setIfInBounds_toArray, gE, gF]
                    refine tkH 10 (v := ?_) ?_ ?_
                    rotate_left
                    · intro w hSw; (try dsimp only at hSw); go_simp; try (with_reducible rfl)
                    try simp only [Act.put, gA, gB, gC, List.setIfInBounds_toArray, gE, gF]
                    refine tkH 11 (v := ?_) ?_ ?_
                    rotate_left
                    · intro w hSw; (try dsimp only at hSw); go_simp; try (with_reducible rfl)
                    try simp only [Act.put, gA, gB, gC, List.setIfInBounds_toArray, gE, gF]
                    refine tkH 12 (v := ?_) ?_ ?_
                    rotate_left
                    · intro w hSw; (try dsimp only at hSw); go_simp; try (with_reducible rfl)
                    try simp only [Act.put, gA, gB, gC, List.setIfInBounds_toArray, gE, gF]
                    refine tkH 13 (v := ?_) ?_ ?_
                    rotate_left
                    · intro w hSw; (try dsimp only at hSw); go_simp; try (with_reducible rfl)
                    try simp only [Act.put, gA, gB, gC, List.setIfInBounds_toArray, gE, gF]
                    refine tkH 14 (v := ?_) ?_ ?_
                    rotate_left
                    · intro w hSw; (try dsimp only at hSw); go_simp; try (with_reducible rfl)
                    try simp only [Act.put, gA, gB, gC, List.setIfInBounds_toArray, gE, gF]
                    refine tkH 15 (v := ?_) ?_ ?_
                    rotate_left
                    · intro w hSw; (try dsimp only at hSw); go_simp; try (with_reducible rfl)
                    try simp only [Act.put, gA, gB, gC, List.setIfInBounds_toArray, gE, gF]
                    refine tkH 16 (v := ?_) ?_ ?_
                    rotate_left
                    · intro w hSw; (try dsimp only at hSw); go_simp; try (with_reducible rfl)
                    try simp only [Act.put, gA, gB, gC, List.setIfInBounds_toArray, gE, gF]
                    refine wpAnyH_done (by kernel_rfl) ?_ _
                    have Ek' := Lib.hid (Ek.go hHeld)
                    clear AP YB YR hHeld
                    go_wp2_with fail
                    go_roundw
                    case rel => exact ⟨k + 1, by omega, by simp, Ek'.out⟩
                    case measure => simp [intOf]; omega
                  | false =>
                    rw [hb, if_neg (by decide)] at yr
                    rw [hb] at YB
                    have YR := fun W (E : Ext wr W) => (E.cell _ (cell_lt yr)).trans yr
                    clear yb yr ap
                    go_wp2_with fail
                    refine wp_region_held_drew (S := fun w' => Ext wr w') (by kernel_rfl) ((Ext.refl wr).god) (fun hHeld => ?_)
                    refine tkH 0 (v := ?_) ?_ ?_
                    rotate_left
                    · intro w hSw; (try dsimp only at hSw); go_simp; try (with_reducible rfl)
                    try simp only [Act.put, gA, gC, List.setIfInBounds_toArray, gE, gF]
                    refine tkH 1 (v := ?_) ?_ ?_
                    rotate_left
                    · intro w hSw; (try dsimp only at hSw); go_simp; try (with_reducible rfl)
                    try simp only [Act.put, gA, gB, gC, List.setIfInBounds_toArray, gE, gF]
                    refine tkH 2 (v := ?_) ?_ ?_
                    rotate_left
                    · intro w hSw; (try dsimp only at hSw); go_simp; try (with_reducible rfl)
                    try simp only [Act.put, gA, gB, gC, List.setIfInBounds_toArray, gE, gF]
                    refine tkH 3 (v := ?_) ?_ ?_
                    rotate_left
                    · intro w hSw; (try dsimp only at hSw); go_simp; try (with_reducible rfl)
                    try simp only [Act.put, gA, gB, gC, List.setIfInBounds_toArray, gE, gF]
                    refine tkH 4 (v := ?_) ?_ ?_
                    rotate_left
                    · intro w hSw; (try dsimp only at hSw); go_simp; try (with_reducible rfl)
                    try simp only [Act.put, gA, gB, gC, List.setIfInBounds_toArray, gE, gF]
                    refine tkH 5 (v := ?_) ?_ ?_
                    rotate_left
                    · intro w hSw; (try dsimp only at hSw); go_simp; try (with_reducible rfl)
                    try simp only [Act.put, gA, gB, gC, List.setIfInBounds_toArray, gE, gF]
                    refine tkH 6 (v := ?_) ?_ ?_
                    rotate_left
                    · intro w hSw; (try dsimp only at hSw); go_simp; try (with_reducible rfl)
                    try simp only [Act.put, gA, gB, gC, List.setIfInBounds_toArray, gE, gF]
                    refine tkH 7 (v := ?_) ?_ ?_
                    rotate_left
                    · intro w hSw; (try dsimp only at hSw); go_simp; try (with_reducible rfl)
                    try simp only [Act.put, gA, gB, gC, List.setIfInBounds_toArray, gE, gF]
                    refine tkH 8 (v := ?_) ?_ ?_
                    rotate_left
                    · intro w hSw; (try dsimp only at hSw); go_simp; try (with_reducible rfl)
                    try simp only [Act.put, gA, gB, gC, List.setIfInBounds_toArray, gE, gF]
                    refine tkH 9 (v := ?_) ?_ ?_
                    rotate_left
                    · intro w hSw; (try dsimp only at hSw); go_simp; try (with_reducible rfl)
                    try simp only [Act.put, gA, gB, gC, List.setIfInBounds_toArray, gE, gF]
                    refine tkH 10 (v := ?_) ?_ ?_
                    rotate_left
                    · intro w hSw; (try dsimp only at hSw); go_simp; try (with_reducible rfl)
                    try simp only [Act.put, gA, gB, gC, List.setIfInBounds_toArray, gE, gF]
                    refine tkH 11 (v := ?_) ?_ ?_
                    rotate_left
                    · intro w hSw; (try dsimp only at hSw); go_simp; try (with_reducible rfl)
                    try simp only [Act.put, gA, gB, gC, List.setIfInBounds_toArray, gE, gF]
                    refine tkH 12 (v := ?_) ?_ ?_
                    rotate_left
                    · intro w hSw; (try dsimp only at hSw); go_simp; try (with_reducible rfl)
                    try simp only [Act.put, gA, gB, gC, List.setIfInBounds_toArray, gE, gF]
                    refine tkH 13 (v := ?_) ?_ ?_
                    rotate_left
                    · intro w hSw; (try dsimp only at hSw); go_simp; try (with_reducible rfl)
                    try simp only [Act.put, gA, gB, gC, List.setIfInBounds_toArray, gE, gF]
                    refine tkH 14 (v := ?_) ?_ ?_
                    rotate_left
                    · intro w hSw; (try dsimp only at hSw); go_simp; try (with_reducible rfl)
                    try simp only [Act.put, gA, gB, gC, List.setIfInBounds_toArray, gE, gF]
                    refine tkH 15 (v := ?_) ?_ ?_
                    rotate_left
                    · intro w hSw; (try dsimp only at hSw); go_simp; try (with_reducible rfl)
                    try simp only [Act.put, gA, gB, gC, List.setIfInBounds_toArray, gE, gF]
                    refine tkH 16 (v := ?_) ?_ ?_
                    rotate_left
                    · intro w hSw; (try dsimp only at hSw); go_simp; try (with_reducible rfl)
                    try simp only [Act.put, gA, gB, gC, List.setIfInBounds_toArray, gE, gF]
                    refine wpAnyH_done (by kernel_rfl) ?_ _
                    have Ek' := Lib.hid (Ek.go hHeld)
                    clear AP YB YR hHeld
                    go_wp2_with fail
                    go_roundw
                    case rel => exact ⟨k + 1, by omega, by simp, Ek'.out⟩
                    case measure => simp [intOf]; omega
                · have hb : al.getD k false = false := by rw [List.getD_eq_getElem?_getD, List.getElem?_eq_none (by have := hna'.out; omega)]; rfl
                  have z2 : decide ((k : Int) < (na : Int)) = false := by simp; omega
                  rw [hb, if_neg (by decide)] at yr
                  have YR := fun W (E : Ext wr W) => (E.cell _ (cell_lt yr)).trans yr
                  clear yr ap hb
                  go_wp2_with fail
                  refine wp_region_held_drew (S := fun w' => Ext wr w') (by kernel_rfl) ((Ext.refl wr).god) (fun hHeld => ?_)
                  refine tkH 0 (v := ?_) ?_ ?_
                  rotate_left
                  · intro w hSw; (try dsimp only at hSw); go_simp; try (with_reducible rfl)
                  try simp only [Act.put, gA, gC, List.setIfInBounds_toArray, gE, gF]
                  refine tkH 1 (v := ?_) ?_ ?_
                  rotate_left
                  · intro w hSw; (try dsimp only at hSw); go_simp; try (with_reducible rfl)
                  try simp only [Act.put, gA, gB, gC, List.setIfInBounds_toArray, gE, gF]
                  refine tkH 2 (v := ?_) ?_ ?_
                  rotate_left
                  · intro w hSw; (try dsimp only at hSw); go_simp; try (with_reducible rfl)
                  try simp only [Act.put, gA, gB, gC, List.setIfInBounds_toArray, gE, gF]
                  refine tkH 3 (v := ?_) ?_ ?_
                  rotate_left
                  · intro w hSw; (try dsimp only at hSw); go_simp; try (with_reducible rfl)
                  try simp only [Act.put, gA, gB, gC, List.setIfInBounds_toArray, gE, gF]
                  refine tkH 4 (v := ?_) ?_ ?_
                  rotate_left
                  · intro w hSw; (try dsimp only at hSw); go_simp; try (with_reducible rfl)
                  try simp only [Act.put, gA, gB, gC, List.setIfInBounds_toArray, gE, gF]
                  refine tkH 5 (v := ?_) ?_ ?_
                  rotate_left
                  · intro w hSw; (try dsimp only at hSw); go_simp; try (with_reducible rfl)
                  try simp only [Act.put, gA, gB, gC, List.setIfInBounds_toArray, gE, gF]
                  refine tkH 6 (v := ?_) ?_ ?_
                  rotate_left
                  · intro w hSw; (try dsimp only at hSw); go_simp; try (with_reducible rfl)
                  try simp only [Act.put, gA, gB, gC, List.setIfInBounds_toArray, gE, gF]
                  refine tkH 7 (v := ?_) ?_ ?_
                  rotate_left
                  · intro w hSw; (try dsimp only at hSw); go_simp; try (with_reducible rfl)
                  try simp only [Act.put, gA, gB, gC, List.setIfInBounds_toArray, gE, gF]
                  refine tkH 8 (v := ?_) ?_ ?_
                  rotate_left
                  · intro w hSw; (try dsimp only at hSw); go_simp; try (with_reducible rfl)
                  try simp only [Act.put, gA, gB, gC, List.setIfInBounds_toArray, gE, gF]
                  refine tkH 9 (v := ?_) ?_ ?_
                  rotate_left
                  · intro w hSw; (try dsimp only at hSw); go_simp; try (with_reducible rfl)
                  try simp only [Act.put, gA, gB, gC, List.setIfInBounds_toArray, gE, gF]
                  refine tkH 10 (v := ?_) ?_ ?_
                  rotate_left
                  · intro w hSw; (try dsimp only at hSw); go_simp; try (with_reducible rfl)
                  try simp only [Act.put, gA, gB, gC, List.setIfInBounds_toArray, gE, gF]
                  refine skH 11 ?_
                  try simp only [Act.put, gA, gB, gC, List.setIfInBounds_toArray, gE, gF]
                  refine skH 12 ?_
                  try simp only [Act.put, gA, gB, gC, List.setIfInBounds_toArray, gE, gF]
                  refine skH 13 ?_
                  try simp only [Act.put, gA, gB, gC, List.setIfInBounds_toArray, gE, gF]
                  refine skH 14 ?_
                  try simp only [Act.put, gA, gB, gC, List.setIfInBounds_toArray, gE, gF]
                  refine tkH 15 (v := ?_) ?_ ?_
                  rotate_left
                  · intro w hSw; (try dsimp only at hSw); go_simp; try (with_reducible rfl)
                  try simp only [Act.put, gA, gB, gC, List.setIfInBounds_toArray, gE, gF]
                  refine tkH 16 (v := ?_) ?_ ?_
                  rotate_left
                  · intro w hSw; (try dsimp only at hSw); go_simp; try (with_reducible rfl)
                  try simp only [Act.put, gA, gB, gC, List.setIfInBounds_toArray, gE, gF]
                  refine wpAnyH_done (by kernel_rfl) ?_ _
                  have Ek' := Lib.hid (Ek.go hHeld)
                  clear AP YR hHeld
                  go_wp2_with fail
                  go_roundw
                  case rel => exact ⟨k + 1, by omega, by simp, Ek'.out⟩
                  case measure => simp [intOf]; omega
              · have z1 : decide ((k : Int) < 200) = false := by simp; omega
                have h9 := Lib.hid (h8.out.ext Ek)
                go_wp2_with fail
                go_roundw
                case rel => exact ⟨d + 1, by omega, by simp, T5, _, h9.out, hok5.out, ss'.out⟩
                case measure => simp [intOf]; omega
          · rw [if_neg hj2] at hlo
            obtain rfl : no = 34 := by omega
            have w28 : IntKind.i64.wrap 32 = 32 := rfl
            have b1 : (32 : Int) ≤ (c'o : Int) := by omega
            have b2 : (34 : Int) ≤ (c'o : Int) := by omega
            have b3 : 32 ≤ c'o := by omega
            have b4 : ¬ c'o = 1 := by omega
            have b5 : ¬ c'o = 7 := by omega
            have dj : decide ((2 : Int) ≤ (j : Int)) = true := by simp; omega
            have hz := fun (w6 : World) (E : Ext w5 w6) => (pdu_stream hj2 ((d : Int) + 1) al) ▸ ((ro'.out.ext E).drop8 (lo := 7) (by omega))
            have hz' := Lib.hid hz
            clear hlo hz
            go_wp2_with fail
            refine wp_region_held_drew (S := fun w' => Ext w5 w') (by kernel_rfl) ((Ext.refl w5).god) (fun hHeld => ?_)
            refine tkH 0 (v := ?_) ?_ ?_
            rotate_left
            · intro w hSw; (try dsimp only at hSw); go_simp; try (with_reducible rfl)
            try simp only [Act.put, gA, gC, List.setIfInBounds_toArray, gE, gF]
            refine tkH 1 (v := ?_) ?_ ?_
            rotate_left
            · intro w hSw; (try dsimp only at hSw); go_simp; try (with_reducible rfl)
            try simp only [Act.put, gA, gB, gC, List.setIfInBounds_toArray, gE, gF]
            refine tkH 2 (v := ?_) ?_ ?_
            rotate_left
            · intro w hSw; (try dsimp only at hSw); go_simp; try (with_reducible rfl)
            try simp only [Act.put, gA, gB, gC, List.setIfInBounds_toArray, gE, gF]
            refine tkH 3 (v := ?_) ?_ ?_
            rotate_left
            · intro w hSw; (try dsimp only at hSw); go_simp; try (with_reducible rfl)
            try simp only [Act.put, gA, gB, gC, List.setIfInBounds_toArray, gE, gF]
            refine tkH 4 (v := ?_) ?_ ?_
            rotate_left
            · intro w hSw; (try dsimp only at hSw); go_simp; try (with_reducible rfl)
            try simp only [Act.put, gA, gB, gC, List.setIfInBounds_toArray, gE, gF]
            refine tkH 5 (v := ?_) ?_ ?_
            rotate_left
            · intro w hSw; (try dsimp only at hSw); go_simp; try (with_reducible rfl)
            try simp only [Act.put, gA, gB, gC, List.setIfInBounds_toArray, gE, gF]
            refine tkH 6 (v := ?_) ?_ ?_
            rotate_left
            · intro w hSw; (try dsimp only at hSw); go_simp; try (with_reducible rfl)
            try simp only [Act.put, gA, gB, gC, List.setIfInBounds_toArray, gE, gF]
            refine tkH 7 (v := ?_) ?_ ?_
            rotate_left
            · intro w hSw; (try dsimp only at hSw); go_simp; try (with_reducible rfl)
            try simp only [Act.put, gA, gB, gC, List.setIfInBounds_toArray, gE, gF]
            refine tkH 8 (v := ?_) ?_ ?_
            rotate_left
            · intro w hSw; (try dsimp only at hSw); go_simp; try (with_reducible rfl)
            try simp only [Act.put, gA, gB, gC, List.setIfInBounds_toArray, gE, gF]
            refine tkH 9 (v := ?_) ?_ ?_
            rotate_left
            · intro w hSw; (try dsimp only at hSw); go_simp; try (with_reducible rfl)
            try simp only [Act.put, gA, gB, gC, List.setIfInBounds_toArray, gE, gF]
            refine wpAnyH_done (by kernel_rfl) ?_ _
            have hz6 := hz'.out _ hHeld
            have P6 := (hHeld.block _ (lt_of_block P5.out)).trans P5.out
            have h6 := Lib.hid (h5'.out.ext hHeld)
            have ko6 := KO _ hHeld
            clear KO
            generalize w5.drew = w6 at *
            have q0 : w6.cell? ⟨wr.heap.size, 0, none⟩ = some (.int .i64 2) := cellsAt P6 0
            have q1 : w6.cell? ⟨wr.heap.size, 1, none⟩ = some (.int .i64 0) := cellsAt P6 1
            have q2 : w6.cell? ⟨wr.heap.size, 2, none⟩ = some (.int .i64 200) := cellsAt P6 2
            have q3 : w6.cell? ⟨wr.heap.size, 3, none⟩ = some (.slice none 0 0) := cellsAt P6 3
            have q4 : w6.cell? ⟨wr.heap.size, 4, none⟩ = some (.int .i64 0) := cellsAt P6 4
            have hget := ref05Get_any 2 0 200 0 0 none (some ⟨bx, ox + 7, none⟩) 0 0 27 (c'o - 7) [] (readI al) (pduI al) w6 (RdI.nil _) word16_nil (by unfold maxLen; omega) (readI_range al) hz6 (by omega) (by omega) (ans_in al) rfl
            clear hz6 P6 hz' hHeld
            go_wp2_with fail
            refine hget.mono ?_
            rintro e w7 ⟨A7, n7, c7, rfl, k1, k2, r7, E7⟩
            obtain rfl : n7 = 200 := by rw [← r7.len]; exact readI_len al
            have E78 : Ext w7 (w7.alloc (.cells #[.int .i64 0, .slice A7 200 c7] 54)) := (Ext.refl w7).goA _
            have PR := heap_alloc_new w7 (.cells #[.int .i64 0, .slice A7 200 c7] 54)
            have rr := Lib.hid (r7.ext E78)
            have a1 : (w7.alloc (.cells #[.int .i64 0, .slice A7 200 c7] 54)).cell? ⟨w7.heap.size, 1, none⟩ = some (.slice A7 200 c7) := cellsAt PR 1
            have h8 := Lib.hid (h6.out.ext (E7.go E78))
            have E08 := Lib.hid (E0'.out.go h8.out.world)
            have PR' := Lib.hid PR
            clear hget r7 E7 E78 PR h6 q0 q1 q2 q3 q4
            go_wp2_with fail
            generalize hw8 : w7.alloc (.cells #[.int .i64 0, .slice A7 200 c7] 54) = w8 at *
            clear hw8 a1
            go_loopw [18] (fun i W => ∃ k : Nat, k ≤ 200 ∧ i = .int .i64 k ∧ Ext w8 W) (fun i _ => 200 - (intOf i).toNat)
            case atStart => exact ⟨0, by omega, rfl, Ext.refl w8⟩
            case round =>
              obtain ⟨k, hk, rfl, Ek⟩ := hrel
              by_cases hk2 : k < 200
              · have z1 : decide ((k : Int) < 200) = true := by simp; omega
                obtain ⟨br, orr, er, _, yr⟩ := (rr.out.ext Ek).at_ hk2
                rw [readI_at hk2] at yr
                have ap : wr.cell? ⟨w7.heap.size, 1, none⟩ = some (.slice A7 200 c7) := (Ek.cell _ (lt_of_block PR'.out)).trans (cellsAt PR'.out 1)
                subst er
                have b6 : (k : Int) < 200 := by omega
                have AP := fun W (E : Ext wr W) => (E.cell 1 (cell_lt ap)).trans ap
                by_cases hkl : k < na
                · obtain ⟨bb, ob, eb, hbl, yb⟩ := hx'.out.later (E08.out.go Ek) (j := k) (by have := hna'.out; omega)
                  subst eb
                  have YB := fun W (E : Ext wr W) => (E.cell _ hbl).trans yb
                  have z2 : decide ((k : Int) < (na : Int)) = true := by simp; omega
                  have b7 : (k : Int) < (na : Int) := by omega
                  cases hb : al.getD k false with
                  | true =>
                    rw [hb, if_pos rfl] at yr
                    rw [hb] at YB
                    have YR := fun W (E : Ext wr W) => (E.cell _ (cell_lt yr)).trans yr
                    clear yb yr ap
                    go_wp2_with fail
                    refine wp_region_held_drew (S := fun w' => Ext wr w') (by kernel_rfl) ((Ext.refl wr).god) (fun hHeld => ?_)
                    refine tkH 0 (v := ?_) ?_ ?_
                    rotate_left
                    · intro w hSw; (try dsimp only at hSw); go_simp; try (with_reducible rfl)
                    try simp only [Act.put, gA, gC, List.setIfInBounds_toArray, gE, gF]
                    refine tkH 1 (v := ?_) ?_ ?_
                    rotate_left
                    · intro w hSw; (try dsimp only at hSw); go_simp; try (with_reducible rfl)
                    try simp only [Act.put, gA, gB, gC, List.setIfInBounds_toArray, gE, gF]
                    refine tkH 2 (v := ?_) ?_ ?_
                    rotate_left
                    · intro w hSw; (try dsimp only at hSw); go_simp; try (with_reducible rfl)
                    try simp only [Act.put, gA, gB, gC, List.setIfInBounds_toArray, gE, gF]
                    refine tkH 3 (v := ?_) ?_ ?_
                    rotate_left
                    · intro w hSw; (try dsimp only at hSw); go_simp; try (with_reducible rfl)
                    try simp only [Act.put, gA, gB, gC, List.setIfInBounds_toArray, gE, gF]
                    refine tkH 4 (v := ?_) ?_ ?_
                    rotate_left
                    · intro w hSw; (try dsimp only at hSw); go_simp; try (with_reducible rfl)
                    try simp only [Act.put, gA, gB, gC, List.setIfInBounds_toArray, gE, gF]
                    refine tkH 5 (v := ?_) ?_ ?_
                    rotate_left
                    · intro w hSw; (try dsimp only at hSw); go_simp; try (with_reducible rfl)
                    try simp only [Act.put, gA, gB, gC, List.setIfInBounds_toArray, gE, gF]
                    refine tkH 6 (v := ?_) ?_ ?_
                    rotate_left
                    · intro w hSw; (try dsimp only at hSw); go_simp; try (with_reducible rfl)
                    try simp only [Act.put, gA, gB, gC, List.setIfInBounds_toArray, gE, gF]
                    refine tkH 7 (v := ?_) ?_ ?_
                    rotate_left
                    · intro w hSw; (try dsimp only at hSw); go_simp; try (with_reducible rfl)
                    try simp only [Act.put, gA, gB, gC, List.setIfInBounds_toArray, gE, gF]
                    refine tkH 8 (v := ?_) ?_ ?_
                    rotate_left
                    · intro w hSw; (try dsimp only at hSw); go_simp; try (with_reducible rfl)
                    try simp only [Act.put, gA, gB, gC, List.setIfInBounds_toArray, gE, gF]
                    refine tkH 9 (v := ?_) ?_ ?_
                    rotate_left
                    · intro w hSw; (try dsimp only at hSw); go_simp; try (with_reducible rfl)
                    try simp only [Act.put, gA, gB, gC, List.setIfInBounds_toArray, gE, gF]
                    refine tkH 10 (v := ?_) ?_ ?_
                    rotate_left
                    · intro w hSw; (try dsimp only at hSw); go_simp; try (with_reducible rfl)
                    try simp only [Act.put, gA, gB, gC, List.setIfInBounds_toArray, gE, gF]
                    refine tkH 11 (v := ?_) ?_ ?_
                    rotate_left
                    · intro w hSw; (try dsimp only at hSw); go_simp; try (with_reducible rfl)
                    try simp only [Act.put, gA, gB, gC, List.setIfInBounds_toArray, gE, gF]
                    refine tkH 12 (v := ?_) ?_ ?_
                    rotate_left
                    · intro w hSw; (try dsimp only at hSw); go_simp; try (with_reducible rfl)
                    try simp only [Act.put, gA, gB, gC, List.setIfInBounds_toArray, gE, gF]
                    refine tkH 13 (v := ?_) ?_ ?_
                    rotate_left
                    · intro w hSw; (try dsimp only at hSw); go_simp; try (with_reducible rfl)
                    try simp only [Act.put, gA, gB, gC, List.setIfInBounds_toArray, gE, gF]
                    refine tkH 14 (v := ?_) ?_ ?_
                    rotate_left
                    · intro w hSw; (try dsimp only at hSw); go_simp; try (with_reducible rfl)
                    try simp only [Act.put, gA, gB, gC, List.setIfInBounds_toArray, gE, gF]
                    refine tkH 15 (v := ?_) ?_ ?_
                    rotate_left
                    · intro w hSw; (try dsimp only at hSw); go_simp; try (with_reducible rfl)
                    try simp only [Act.put, gA, gB, gC, List.setIfInBounds_toArray, gE, gF]
                    refine tkH 16 (v := ?_) ?_ ?_
                    rotate_left
                    · intro w hSw; (try dsimp only at hSw); go_simp; try (with_reducible rfl)
                    try simp only [Act.put, gA, gB, gC, List.setIfInBounds_toArray, gE, gF]
                    refine wpAnyH_done (by kernel_rfl) ?_ _
                    have Ek' := Lib.hid (Ek.go hHeld)
                    clear AP YB YR hHeld
                    go_wp2_with fail
                    go_roundw
                    case rel => exact ⟨k + 1, by omega, by simp, Ek'.out⟩
                    case measure => simp [intOf]; omega
                  | false =>
                    rw [hb, if_neg (by decide)] at yr
                    rw [hb] at YB
                    have YR := fun W (E : Ext wr W) => (E.cell _ (cell_lt yr)).trans yr
                    clear yb yr ap
                    go_wp2_with fail
                    refine wp_region_held_drew (S := fun w' => Ext wr w') (by kernel_rfl) ((Ext.refl wr).god) (fun hHeld => ?_)
                    refine tkH 0 (v := ?_) ?_ ?_
                    rotate_left
                    · intro w hSw; (try dsimp only at hSw); go_simp; try (with_reducible rfl)
                    try simp only [Act.put, gA, gC, List.setIfInBounds_toArray, gE, gF]
                    refine tkH 1 (v := ?_) ?_ ?_
                    rotate_left
                    · intro w hSw; (try dsimp only at hSw); go_simp; try (with_reducible rfl)
                    try simp only [Act.put, gA, gB, gC, List.setIfInBounds_toArray, gE, gF]
                    refine tkH 2 (v := ?_) ?_ ?_
                    rotate_left
                    · intro w hSw; (try dsimp only at hSw); go_simp; try (with_reducible rfl)
                    try simp only [Act.put, gA, gB, gC, List.setIfInBounds_toArray, gE, gF]
                    refine tkH 3 (v := ?_) ?_ ?_
                    rotate_left
                    · intro w hSw; (try dsimp only at hSw); go_simp; try (with_reducible rfl)
                    try simp only [Act.put, gA, gB, gC, List.setIfInBounds_toArray, gE, gF]
                    refine tkH 4 (v := ?_) ?_ ?_
                    rotate_left
                    · intro w hSw; (try dsimp only at hSw); go_simp; try (with_reducible rfl)
                    try simp only [Act.put, gA, gB, gC, List.setIfInBounds_toArray, gE, gF]
                    refine tkH 5 (v := ?_) ?_ ?_
                    rotate_left
                    · intro w hSw; (try dsimp only at hSw); go_simp; try (with_reducible rfl)
                    try simp only [Act.put, gA, gB, gC, List.setIfInBounds_toArray, gE, gF]
                    refine tkH 6 (v := ?_) ?_ ?_
                    rotate_left
                    · intro w hSw; (try dsimp only at hSw); go_simp; try (with_reducible rfl)
                    try simp only [Act.put, gA, gB, gC, List.setIfInBounds_toArray, gE, gF]
                    refine tkH 7 (v := ?_) ?_ ?_
                    rotate_left
                    · intro w hSw; (try dsimp only at hSw); go_simp; try (with_reducible rfl)
                    try simp only [Act.put, gA, gB, gC, List.setIfInBounds_toArray, gE, gF]
                    refine tkH 8 (v := ?_) ?_ ?_
                    rotate_left
                    · intro w hSw; (try dsimp only at hSw); go_simp; try (with_reducible rfl)
                    try simp only [Act.put, gA, gB, gC, List.setIfInBounds_toArray, gE, gF]
                    refine tkH 9 (v := ?_) ?_ ?_
                    rotate_left
                    · intro w hSw; (try dsimp only at hSw); go_simp; try (with_reducible rfl)
                    try simp only [Act.put, gA, gB, gC, List.setIfInBounds_toArray, gE, gF]
                    refine tkH 10 (v := ?_) ?_ ?_
                    rotate_left
                    · intro w hSw; (try dsimp only at hSw); go_simp; try (with_reducible rfl)
                    try simp only [Act.put, gA, gB, gC, List.setIfInBounds_toArray, gE, gF]
                    refine tkH 11 (v := ?_) ?_ ?_
                    rotate_left
                    · intro w hSw; (try dsimp only at hSw); go_simp; try (with_reducible rfl)
                    try simp only [Act.put, gA, gB, gC, List.setIfInBounds_toArray, gE, gF]
                    refine tkH 12 (v := ?_) ?_ ?_
                    rotate_left
                    · intro w hSw; (try dsimp only at hSw); go_simp; try (with_reducible rfl)
                    try simp only [Act.put, gA, gB, gC, List.setIfInBounds_toArray, gE, gF]
                    refine tkH 13 (v := ?_) ?_ ?_
                    rotate_left
                    · intro w hSw; (try dsimp only at hSw); go_simp; try (with_reducible rfl)
                    try simp only [Act.put, gA, gB, gC, List.setIfInBounds_toArray, gE, gF]
                    refine tkH 14 (v := ?_) ?_ ?_
                    rotate_left
                    · intro w hSw; (try dsimp only at hSw); go_simp; try (with_reducible rfl)
                    try simp only [Act.put, gA, gB, gC, List.setIfInBounds_toArray, gE, gF]
                    refine tkH 15 (v := ?_) ?_ ?_
                    rotate_left
                    · intro w hSw; (try dsimp only at hSw); go_simp; try (with_reducible rfl)
                    try simp only [Act.put, gA, gB, gC, List.setIfInBounds_toArray, gE, gF]
                    refine tkH 16 (v := ?_) ?_ ?_
                    rotate_left
                    · intro w hSw; (try dsimp only at hSw); go_simp; try (with_reducible rfl)
                    try simp only [Act.put, gA, gB, gC, List.setIfInBounds_toArray, gE, gF]
                    refine wpAnyH_done (by kernel_rfl) ?_ _
                    have Ek' := Lib.hid (Ek.go hHeld)
                    clear AP YB YR hHeld
                    go_wp2_with fail
                    go_roundw
                    case rel => exact ⟨k + 1, by omega, by simp, Ek'.out⟩
                    case measure => simp [intOf]; omega
                · have hb : al.getD k false = false := by rw [List.getD_eq_getElem?_getD, List.getElem?_eq_none (by have := hna'.out; omega)]; rfl
                  have z2 : decide ((k : Int) < (na : Int)) = false := by simp; omega
                  rw [hb, if_neg (by decide)] at yr
                  have YR := fun W (E : Ext wr W) => (E.cell _ (cell_lt yr)).trans yr
                  clear yr ap hb
                  go_wp2_with fail
                  refine wp_region_held_drew (S := fun w' => Ext wr w') (by kernel_rfl) ((Ext.refl wr).god) (fun hHeld => ?_)
                  refine tkH 0 (v := ?_) ?_ ?_
                  rotate_left
                  · intro w hSw; (try dsimp only at hSw); go_simp; try (with_reducible rfl)
                  try simp only [Act.put, gA, gC, List.setIfInBounds_toArray, gE, gF]
                  refine tkH 1 (v := ?_) ?_ ?_
                  rotate_left
                  · intro w hSw; (try dsimp only at hSw); go_simp; try (with_reducible rfl)
                  try simp only [Act.put, gA, gB, gC, List.setIfInBounds_toArray, gE, gF]
                  refine tkH 2 (v := ?_) ?_ ?_
                  rotate_left
                  · intro w hSw; (try dsimp only at hSw); go_simp; try (with_reducible rfl)
                  try simp only [Act.put, gA, gB, gC, List.setIfInBounds_toArray, gE, gF]
                  refine tkH 3 (v := ?_) ?_ ?_
                  rotate_left
                  · intro w hSw; (try dsimp only at hSw); go_simp; try (with_reducible rfl)
                  try simp only [Act.put, gA, gB, gC, List.setIfInBounds_toArray, gE, gF]
                  refine tkH 4 (v := ?_) ?_ ?_
                  rotate_left
                  · intro w hSw; (try dsimp only at hSw); go_simp; try (with_reducible rfl)
                  try simp only [Act.put, gA, gB, gC, List.setIfInBounds_toArray, gE, gF]
                  refine tkH 5 (v := ?_) ?_ ?_
                  rotate_left
                  · intro w hSw; (try dsimp only at hSw); go_simp; try (with_reducible rfl)
                  try simp only [Act.put, gA, gB, gC, List.setIfInBounds_toArray, gE, gF]
                  refine tkH 6 (v := ?_) ?_ ?_
                  rotate_left
                  · intro w hSw; (try dsimp only at hSw); go_simp; try (with_reducible rfl)
                  try simp only [Act.put, gA, gB, gC, List.setIfInBounds_toArray, gE, gF]
                  refine tkH 7 (v := ?_) ?_ ?_
                  rotate_left
                  · intro w hSw; (try dsimp only at hSw); go_simp; try (with_reducible rfl)
                  try simp only [Act.put, gA, gB, gC, List.setIfInBounds_toArray, gE, gF]
                  refine tkH 8 (v := ?_) ?_ ?_
                  rotate_left
                  · intro w hSw; (try dsimp only at hSw); go_simp; try (with_reducible rfl)
                  try simp only [Act.put, gA, gB, gC, List.setIfInBounds_toArray, gE, gF]
                  refine tkH 9 (v := ?_) ?_ ?_
                  rotate_left
                  · intro w hSw; (try dsimp only at hSw); go_simp; try (with_reducible rfl)
                  try simp only [Act.put, gA, gB, gC, List.setIfInBounds_toArray, gE, gF]
                  refine tkH 10 (v := ?_) ?_ ?_
                  rotate_left
                  · intro w hSw; (try dsimp only at hSw); go_simp; try (with_reducible rfl)
                  try simp only [Act.put, gA, gB, gC, List.setIfInBounds_toArray, gE, gF]
                  refine skH 11 ?_
                  try simp only [Act.put, gA, gB, gC, List.setIfInBounds_toArray, gE, gF]
                  refine skH 12 ?_
                  try simp only [Act.put, gA, gB, gC, List.setIfInBounds_toArray, gE, gF]
                  refine skH 13 ?_
                  try simp only [Act.put, gA, gB, gC, List.setIfInBounds_toArray, gE, gF]
                  refine skH 14 ?_
                  try simp only [Act.put, gA, gB, gC, List.setIfInBounds_toArray, gE, gF]
                  refine tkH 15 (v := ?_) ?_ ?_
                  rotate_left
                  · intro w hSw; (try dsimp only at hSw); go_simp; try (with_reducible rfl)
                  try simp only [Act.put, gA, gB, gC, List.setIfInBounds_toArray, gE, gF]
                  refine tkH 16 (v := ?_) ?_ ?_
                  rotate_left
                  · intro w hSw; (try dsimp only at hSw); go_simp; try (with_reducible rfl)
                  try simp only [Act.put, gA, gB, gC, List.setIfInBounds_toArray, gE, gF]
                  refine wpAnyH_done (by kernel_rfl) ?_ _
                  have Ek' := Lib.hid (Ek.go hHeld)
                  clear AP YR hHeld
                  go_wp2_with fail
                  go_roundw
                  case rel => exact ⟨k + 1, by omega, by simp, Ek'.out⟩
                  case measure => simp [intOf]; omega
              · have z1 : decide ((k : Int) < 200) = false := by simp; omega
                have h9 := Lib.hid (h8.out.ext Ek)
                go_wp2_with fail
                go_roundw
                case rel => exact ⟨d + 1, by omega, by simp, T5, _, h9.out, hok5.out, ss'.out⟩
                case measure => simp [intOf]; omega

        · have hsb := Lib.hid (show dueB (askF (inDev j) Fq (j : Int) (frameL j 5 ((d : Int) + 1) (putL 2 0 200 0 [])) 0) (j : Int) 1 = [frameL j 5 ((d : Int) + 1) (pduI bl)] from by rw [sb'.out]; rw [if_neg (by omega)])
          have t1 : (((d : Int) + 1) == 2) = true := by simp; omega
          have t1' : (d + 1 == 2) = true := by simp; omega
          have t1n : (d == 1) = true := by simp; omega
          clear sb' hd0
          go_wp2_with fail
          refine (framed_any j 5 ((d : Int) + 1) 2 0 200 0 (by omega) (by omega) (RdI.nil _) word16_nil (by unfold maxLen; omega)).mono ?_
          rintro e w3 ⟨A3, n3, c3, rfl, g1, g2, r3, E3, f3⟩
          have E03 : Ext wr w3 := ((Ext.refl wr).goA _).go E3
          have h3 := hF'.out.ext E03
          have o3 := hF'.out.off n3 (A := A3) (fun b o e => by have := f3 b o e; simp only [alloc_size] at this; omega)
          have l3 := r3.len
          have ln3 := frameL_len j 5 ((d : Int) + 1) (putL 2 0 200 0 [])
          have PQ := (E3.block _ (lt_of_block (heap_alloc_new wr (.cells #[.int .i64 2, .int .i64 0, .int .i64 200, .slice none 0 0, .int .i64 0] 30)))).trans (heap_alloc_new wr (.cells #[.int .i64 2, .int .i64 0, .int .i64 200, .slice none 0 0, .int .i64 0] 30))
          have PQ' := Lib.hid PQ
          clear PQ
          go_wp2_with fail
          refine (askIn h3 hok'.out (by omega) r3 o3 (frame_bytes 5 (by omega) (by omega) (putL_bytes 2 0 200 0 [])) g1 g2 (by omega) (j : Int) 0).mono ?_
          rintro e w4 ⟨rfl, T4, h4, m4, q4⟩
          have h4' := Lib.hid h4
          have hok4 := Lib.hid (hok'.out.ask (inDev j) (j : Int) (frameL j 5 ((d : Int) + 1) (putL 2 0 200 0 [])) 0)
          have hqT : ∀ b, Tq b → b < wr.heap.size := fun b hb => hF'.out.lt hb
          have P4 := (m4.block _ (lt_of_block PQ'.out) (fun hb => by have := hqT _ hb; omega)).trans PQ'.out
          have P4' := Lib.hid P4
          have hT4 : ¬ T4 wr.heap.size := fun hb => by
            rcases q4 _ hb with h | h
            · have := hqT _ h; omega
            · have := lt_of_block PQ'.out; omega
          have hT4' := Lib.hid hT4
          clear h4 h3 o3 l3 ln3 r3 E3 f3 E03 m4 q4 hqT P4 hT4 PQ'
          go_wp2_with fail
          refine (dueIn h4'.out hok4.out (by omega) (j : Int) 1).mono ?_
          rintro e w5 ⟨v, T5, rfl, h5, m5, _, hout⟩
          rw [hsb.out] at hout
          have P5 := Lib.hid ((m5.block _ (lt_of_block P4'.out) hT4'.out).trans P4'.out)
          have h5' := Lib.hid h5
          have hok5 := Lib.hid (hok4.out.due (j : Int) 1)
          obtain ⟨bo, co, Ao, no, c'o, rfl, ko, hnc, hcm, ro⟩ := hout.at_ (k := 0) (by simp)
          replace ro : RdI w5 w5.heap.size .u8 Ao no (frameL j 5 ((d : Int) + 1) (pduI bl)) := ro
          have hlo := ro.len
          rw [frame_in] at hlo
          obtain ⟨bx, ox, rfl, _, _⟩ := ro.at_ (j := 0) (by split at hlo <;> omega)
          have ro' := Lib.hid ro
          have KO := fun W (E : Ext w5 W) => (E.cell 0 (cell_lt ko)).trans ko
          clear h5 m5 hout hsb h4' hok4 P4' hT4' ro hok' hF'
          rw [List.length_singleton]
          by_cases hj2 : j < 2
          · rw [if_pos hj2] at hlo
            obtain rfl : no = 30 := by omega
            have w28 : IntKind.i64.wrap 28 = 28 := rfl
            have b1 : (28 : Int) ≤ (c'o : Int) := by omega
            have b2 : (30 : Int) ≤ (c'o : Int) := by omega
            have b3 : 28 ≤ c'o := by omega
            have b4 : ¬ c'o = 1 := by omega
            have dj : decide ((2 : Int) ≤ (j : Int)) = false := by simp; omega
            have hz := fun (w6 : World) (E : Ext w5 w6) => (pdu_serial hj2 ((d : Int) + 1) bl) ▸ (((ro'.out.ext E).drop8 (lo := 1) (by omega)).cutTo8 (m := 27) (by omega))
            have hz' := Lib.hid hz
            clear hlo hz
            go_wp2_with fail
            refine wp_region_held_drew (S := fun w' => Ext w5 w') (by kernel_rfl) ((Ext.refl w5).god) (fun hHeld => ?_)
            refine tkH 0 (v := ?_) ?_ ?_
            rotate_left
            · intro w hSw; (try dsimp only at hSw); go_simp; try (with_reducible rfl)
            try simp only [Act.put, gA, gC, List.setIfInBounds_toArray, gE, gF]
            refine tkH 1 (v := ?_) ?_ ?_
            rotate_left
            · intro w hSw; (try dsimp only at hSw); go_simp; try (with_reducible rfl)
            try simp only [Act.put, gA, gB, gC, List.setIfInBounds_toArray, gE, gF]
            refine tkH 2 (v := ?_) ?_ ?_
            rotate_left
            · intro w hSw; (try dsimp only at hSw); go_simp; try (with_reducible rfl)
            try simp only [Act.put, gA, gB, gC, List.setIfInBounds_toArray, gE, gF]
            refine tkH 3 (v := ?_) ?_ ?_
            rotate_left
            · intro w hSw; (try dsimp only at hSw); go_simp; try (with_reducible rfl)
            try simp only [Act.put, gA, gB, gC, List.setIfInBounds_toArray, gE, gF]
            refine tkH 4 (v := ?_) ?_ ?_
            rotate_left
            · intro w hSw; (try dsimp only at hSw); go_simp; try (with_reducible rfl)
            try simp only [Act.put, gA, gB, gC, List.setIfInBounds_toArray, gE, gF]
            refine tkH 5 (v := ?_) ?_ ?_
            rotate_left
            · intro w hSw; (try dsimp only at hSw); go_simp; try (with_reducible rfl)
            try simp only [Act.put, gA, gB, gC, List.setIfInBounds_toArray, gE, gF]
            refine tkH 6 (v := ?_) ?_ ?_
            rotate_left
            · intro w hSw; (try dsimp only at hSw); go_simp; try (with_reducible rfl)
            try simp only [Act.put, gA, gB, gC, List.setIfInBounds_toArray, gE, gF]
            refine tkH 7 (v := ?_) ?_ ?_
            rotate_left
            · intro w hSw; (try dsimp only at hSw); go_simp; try (with_reducible rfl)
            try simp only [Act.put, gA, gB, gC, List.setIfInBounds_toArray, gE, gF]
            refine tkH 8 (v := ?_) ?_ ?_
            rotate_left
            · intro w hSw; (try dsimp only at hSw); go_simp; try (with_reducible rfl)
            try simp only [Act.put, gA, gB, gC, List.setIfInBounds_toArray, gE, gF]
            refine tkH 9 (v := ?_) ?_ ?_
            rotate_left
            · intro w hSw; (try dsimp only at hSw); go_simp; try (with_reducible rfl)
            try simp only [Act.put, gA, gB, gC, List.setIfInBounds_toArray, gE, gF]
            refine wpAnyH_done (by kernel_rfl) ?_ _
            have hz6 := hz'.out _ hHeld
            have P6 := (hHeld.block _ (lt_of_block P5.out)).trans P5.out
            have h6 := Lib.hid (h5'.out.ext hHeld)
            clear KO
            generalize w5.drew = w6 at *
            have q0 : w6.cell? ⟨wr.heap.size, 0, none⟩ = some (.int .i64 2) := cellsAt P6 0
            have q1 : w6.cell? ⟨wr.heap.size, 1, none⟩ = some (.int .i64 0) := cellsAt P6 1
            have q2 : w6.cell? ⟨wr.heap.size, 2, none⟩ = some (.int .i64 200) := cellsAt P6 2
            have q3 : w6.cell? ⟨wr.heap.size, 3, none⟩ = some (.slice none 0 0) := cellsAt P6 3
            have q4 : w6.cell? ⟨wr.heap.size, 4, none⟩ = some (.int .i64 0) := cellsAt P6 4
            have hget := ref05Get_any 2 0 200 0 0 none (some ⟨bx, ox + 1, none⟩) 0 0 27 (c'o - 1) [] (readI bl) (pduI bl) w6 (RdI.nil _) word16_nil (by unfold maxLen; omega) (readI_range bl) hz6 (by omega) (by omega) (ans_in bl) rfl
            clear hz6 P6 hz' hHeld
            go_wp2_with fail
            refine hget.mono ?_
            rintro e w7 ⟨A7, n7, c7, rfl, k1, k2, r7, E7⟩
            obtain rfl : n7 = 200 := by rw [← r7.len]; exact readI_len bl
            have E78 : Ext w7 (w7.alloc (.cells #[.int .i64 0, .slice A7 200 c7] 54)) := (Ext.refl w7).goA _
            have PR := heap_alloc_new w7 (.cells #[.int .i64 0, .slice A7 200 c7] 54)
            have rr := Lib.hid (r7.ext E78)
            have a1 : (w7.alloc (.cells #[.int .i64 0, .slice A7 200 c7] 54)).cell? ⟨w7.heap.size, 1, none⟩ = some (.slice A7 200 c7) := cellsAt PR 1
            have h8 := Lib.hid (h6.out.ext (E7.go E78))
            have E08 := Lib.hid (E0'.out.go h8.out.world)
            have PR' := Lib.hid PR
            clear hget r7 E7 E78 PR h6 q0 q1 q2 q3 q4
            go_wp2_with fail
            generalize hw8 : w7.alloc (.cells #[.int .i64 0, .slice A7 200 c7] 54) = w8 at *
            clear hw8 a1
            go_loopw [18] (fun i W => ∃ k : Nat, k ≤ 200 ∧ i = .int .i64 k ∧ Ext w8 W) (fun i _ => 200 - (intOf i).toNat)
            case atStart => exact ⟨0, by omega, rfl, Ext.refl w8⟩
            case round =>
              obtain ⟨k, hk, rfl, Ek⟩ := hrel
              by_cases hk2 : k < 200
              · have z1 : decide ((k : Int) < 200) = true := by simp; omega
                obtain ⟨br, orr, er, _, yr⟩ := (rr.out.ext Ek).at_ hk2
                rw [readI_at hk2] at yr
                have ap : wr.cell? ⟨w7.heap.size, 1, none⟩ = some (.slice A7 200 c7) := (Ek.cell _ (lt_of_block PR'.out)).trans (cellsAt PR'.out 1)
                subst er
                have b6 : (k : Int) < 200 := by omega
                have AP := fun W (E : Ext wr W) => (E.cell 1 (cell_lt ap)).trans ap
                by_cases hkl : k < nb
                · obtain ⟨bb, ob, eb, hbl, yb⟩ := hy'.out.later (E08.out.go Ek) (j := k) (by have := hnb'.out; omega)
                  subst eb
                  have YB := fun W (E : Ext wr W) => (E.cell _ hbl).trans yb
                  have z2 : decide ((k : Int) < (nb : Int)) = true := by simp; omega
                  have b7 : (k : Int) < (nb : Int) := by omega
                  cases hb : bl.getD k false with
                  | true =>
                    rw [hb, if_pos rfl] at yr
                    rw [hb] at YB
                    have YR := fun W (E : Ext wr W) => (E.cell _ (cell_lt yr)).trans yr
                    clear yb yr ap
                    go_wp2_with fail
                    refine wp_region_held_drew (S := fun w' => Ext wr w') (by kernel_rfl) ((Ext.refl wr).god) (fun hHeld => ?_)
                    refine tkH 0 (v := ?_) ?_ ?_
                    rotate_left
                    · intro w hSw; (try dsimp only at hSw); go_simp; try (with_reducible rfl)
                    try simp only [Act.put, gA, gC, List.setIfInBounds_toArray, gE, gF]
                    refine tkH 1 (v := ?_) ?_ ?_
                    rotate_left
                    · intro w hSw; (try dsimp only at hSw); go_simp; try (with_reducible rfl)
                    try simp only [Act.put, gA, gB, gC, List.setIfInBounds_toArray, gE, gF]
                    refine tkH 2 (v := ?_) ?_ ?_
                    rotate_left
                    · intro w hSw; (try dsimp only at hSw); go_simp; try (with_reducible rfl)
                    try simp only [Act.put, gA, gB, gC, List.setIfInBounds_toArray, gE, gF]
                    refine tkH 3 (v := ?_) ?_ ?_
                    rotate_left
                    · intro w hSw; (try dsimp only at hSw); go_simp; try (with_reducible rfl)
                    try simp only [Act.put, gA, gB, gC, List.setIfInBounds_toArray, gE, gF]
                    refine tkH 4 (v := ?_) ?_ ?_
                    rotate_left
                    · intro w hSw; (try dsimp only at hSw); go_simp; try (with_reducible rfl)
                    try simp only [Act.put, gA, gB, gC, List.setIfInBounds_toArray, gE, gF]
                    refine tkH 5 (v := ?_) ?_ ?_
                    rotate_left
                    · intro w hSw; (try dsimp only at hSw); go_simp; try (with_reducible rfl)
                    try simp only [Act.put, gA, gB, gC, List.setIfInBounds_toArray, gE, gF]
                    refine tkH 6 (v := ?_) ?_ ?_
                    rotate_left
                    · intro w hSw; (try dsimp only at hSw); go_simp; try (with_reducible rfl)
                    try simp only [Act.put, gA, gB, gC, List.setIfInBounds_toArray, gE, gF]
                    refine tkH 7 (v := ?_) ?_ ?_
                    rotate_left
                    · intro w hSw; (try dsimp only at hSw); go_simp; try (with_reducible rfl)
                    try simp only [Act.put, gA, gB, gC, List.setIfInBounds_toArray, gE, gF]
                    refine tkH 8 (v := ?_) ?_ ?_
                    rotate_left
                    · intro w hSw; (try dsimp only at hSw); go_simp; try (with_reducible rfl)
                    try simp only [Act.put, gA, gB, gC, List.setIfInBounds_toArray, gE, gF]
                    refine tkH 9 (v := ?_) ?_ ?_
                    rotate_left
                    · intro w hSw; (try dsimp only at hSw); go_simp; try (with_reducible rfl)
                    try simp only [Act.put, gA, gB, gC, List.setIfInBounds_toArray, gE, gF]
                    refine tkH 10 (v := ?_) ?_ ?_
                    rotate_left
                    · intro w hSw; (try dsimp only at hSw); go_simp; try (with_reducible rfl)
                    try simp only [Act.put, gA, gB, gC, List.setIfInBounds_toArray, gE, gF]
                    refine tkH 11 (v := ?_) ?_ ?_
                    rotate_left
                    · intro w hSw; (try dsimp only at hSw); go_simp; try (with_reducible rfl)
                    try simp only [Act.put, gA, gB, gC, List.setIfInBounds_toArray, gE, gF]
                    refine tkH 12 (v := ?_) ?_ ?_
                    rotate_left
                    · intro w hSw; (try dsimp only at hSw); go_simp; try (with_reducible rfl)
                    try simp only [Act.put, gA, gB, gC, List.setIfInBounds_toArray, gE, gF]
                    refine tkH 13 (v := ?_) ?_ ?_
                    rotate_left
                    · intro w hSw; (try dsimp only at hSw); go_simp; try (with_reducible rfl)
                    try simp only [Act.put, gA, gB, gC, List.setIfInBounds_toArray, gE, gF]
                    refine tkH 14 (v := ?_) ?_ ?_
                    rotate_left
                    · intro w hSw; (try dsimp only at hSw); go_simp; try (with_reducible rfl)
                    try simp only [Act.put, gA, gB, gC, List.setIfInBounds_toArray, gE, gF]
                    refine tkH 15 (v := ?_) ?_ ?_
                    rotate_left
                    · intro w hSw; (try dsimp only at hSw); go_simp; try (with_reducible rfl)
                    try simp only [Act.put, gA, gB, gC, List.setIfInBounds_toArray, gE, gF]
                    refine tkH 16 (v := ?_) ?_ ?_
                    rotate_left
                    · intro w hSw; (try dsimp only at hSw); go_simp; try (with_reducible rfl)
                    try simp only [Act.put, gA, gB, gC, List.setIfInBounds_toArray, gE, gF]
                    refine wpAnyH_done (by kernel_rfl) ?_ _
                    have Ek' := Lib.hid (Ek.go hHeld)
                    clear AP YB YR hHeld
                    go_wp2_with fail
                    go_roundw
                    case rel => exact ⟨k + 1, by omega, by simp, Ek'.out⟩
                    case measure => simp [intOf]; omega
                  | false =>
                    rw [hb, if_neg (by decide)] at yr
                    rw [hb] at YB
                    have YR := fun W (E : Ext wr W) => (E.cell _ (cell_lt yr)).trans yr
                    clear yb yr ap
                    go_wp2_with fail
                    refine wp_region_held_drew (S := fun w' => Ext wr w') (by kernel_rfl) ((Ext.refl wr).god) (fun hHeld => ?_)
                    refine tkH 0 (v := ?_) ?_ ?_
                    rotate_left
                    · intro w hSw; (try dsimp only at hSw); go_simp; try (with_reducible rfl)
                    try simp only [Act.put, gA, gC, List.setIfInBounds_toArray, gE, gF]
                    refine tkH 1 (v := ?_) ?_ ?_
                    rotate_left
                    · intro w hSw; (try dsimp only at hSw); go_simp; try (with_reducible rfl)
                    try simp only [Act.put, gA, gB, gC, List.setIfInBounds_toArray, gE, gF]
                    refine tkH 2 (v := ?_) ?_ ?_
                    rotate_left
                    · intro w hSw; (try dsimp only at hSw); go_simp; try (with_reducible rfl)
                    try simp only [Act.put, gA, gB, gC, List.setIfInBounds_toArray, gE, gF]
                    refine tkH 3 (v := ?_) ?_ ?_
                    rotate_left
                    · intro w hSw; (try dsimp only at hSw); go_simp; try (with_reducible rfl)
                    try simp only [Act.put, gA, gB, gC, List.setIfInBounds_toArray, gE, gF]
                    refine tkH 4 (v := ?_) ?_ ?_
                    rotate_left
                    · intro w hSw; (try dsimp only at hSw); go_simp; try (with_reducible rfl)
                    try simp only [Act.put, gA, gB, gC, List.setIfInBounds_toArray, gE, gF]
                    refine tkH 5 (v := ?_) ?_ ?_
                    rotate_left
                    · intro w hSw; (try dsimp only at hSw); go_simp; try (with_reducible rfl)
                    try simp only [Act.put, gA, gB, gC, List.setIfInBounds_toArray, gE, gF]
                    refine tkH 6 (v := ?_) ?_ ?_
                    rotate_left
                    · intro w hSw; (try dsimp only at hSw); go_simp; try (with_reducible rfl)
                    try simp only [Act.put, gA, gB, gC, List.setIfInBounds_toArray, gE, gF]
                    refine tkH 7 (v := ?_) ?_ ?_
                    rotate_left
                    · intro w hSw; (try dsimp only at hSw); go_simp; try (with_reducible rfl)
                    try simp only [Act.put, gA, gB, gC, List.setIfInBounds_toArray, gE, gF]
                    refine tkH 8 (v := ?_) ?_ ?_
                    rotate_left
                    · intro w hSw; (try dsimp only at hSw); go_simp; try (with_reducible rfl)
                    try simp only [Act.put, gA, gB, gC, List.setIfInBounds_toArray, gE, gF]
                    refine tkH 9 (v := ?_) ?_ ?_
                    rotate_left
                    · intro w hSw; (try dsimp only at hSw); go_simp; try (with_reducible rfl)
                    try simp only [Act.put, gA, gB, gC, List.setIfInBounds_toArray, gE, gF]
                    refine tkH 10 (v := ?_) ?_ ?_
                    rotate_left
                    · intro w hSw; (try dsimp only at hSw); go_simp; try (with_reducible rfl)
                    try simp only [Act.put, gA, gB, gC, List.setIfInBounds_toArray, gE, gF]
                    refine tkH 11 (v := ?_) ?_ ?_
                    rotate_left
                    · intro w hSw; (try dsimp only at hSw); go_simp; try (with_reducible rfl)
                    try simp only [Act.put, gA, gB, gC, List.setIfInBounds_toArray, gE, gF]
                    refine tkH 12 (v := ?_) ?_ ?_
                    rotate_left
                    · intro w hSw; (try dsimp only at hSw); go_simp; try (with_reducible rfl)
                    try simp only [Act.put, gA, gB, gC, List.setIfInBounds_toArray, gE, gF]
                    refine tkH 13 (v := ?_) ?_ ?_
                    rotate_left
                    · intro w hSw; (try dsimp only at hSw); go_simp; try (with_reducible rfl)
                    try simp only [Act.put, gA, gB, gC, List.setIfInBounds_toArray, gE, gF]
                    refine tkH 14 (v := ?_) ?_ ?_
                    rotate_left
                    · intro w hSw; (try dsimp only at hSw); go_simp; try (with_reducible rfl)
                    try simp only [Act.put, gA, gB, gC, List.setIfInBounds_toArray, gE, gF]
                    refine tkH 15 (v := ?_) ?_ ?_
                    rotate_left
                    · intro w hSw; (try dsimp only at hSw); go_simp; try (with_reducible rfl)
                    try simp only [Act.put, gA, gB, gC, List.setIfInBounds_toArray, gE, gF]
                    refine tkH 16 (v := ?_) ?_ ?_
                    rotate_left
                    · intro w hSw; (try dsimp only at hSw); go_simp; try (with_reducible rfl)
                    try simp only [Act.put, gA, gB, gC, List.setIfInBounds_toArray, gE, gF]
                    refine wpAnyH_done (by kernel_rfl) ?_ _
                    have Ek' := Lib.hid (Ek.go hHeld)
                    clear AP YB YR hHeld
                    go_wp2_with fail
                    go_roundw
                    case rel => exact ⟨k + 1, by omega, by simp, Ek'.out⟩
                    case measure => simp [intOf]; omega
                · have hb : bl.getD k false = false := by rw [List.getD_eq_getElem?_getD, List.getElem?_eq_none (by have := hnb'.out; omega)]; rfl
                  have z2 : decide ((k : Int) < (nb : Int)) = false := by simp; omega
                  rw [hb, if_neg (by decide)] at yr
                  have YR := fun W (E : Ext wr W) => (E.cell _ (cell_lt yr)).trans yr
                  clear yr ap hb
                  go_wp2_with fail
                  refine wp_region_held_drew (S := fun w' => Ext wr w') (by kernel_rfl) ((Ext.refl wr).god) (fun hHeld => ?_)
                  refine tkH 0 (v := ?_) ?_ ?_
                  rotate_left
                  · intro w hSw; (try dsimp only at hSw); go_simp; try (with_reducible rfl)
                  try simp only [Act.put, gA, gC, List.setIfInBounds_toArray, gE, gF]
                  refine tkH 1 (v := ?_) ?_ ?_
                  rotate_left
                  · intro w hSw; (try dsimp only at hSw); go_simp; try (with_reducible rfl)
                  try simp only [Act.put, gA, gB, gC, List.setIfInBounds_toArray, gE, gF]
                  refine tkH 2 (v := ?_) ?_ ?_
                  rotate_left
                  · intro w hSw; (try dsimp only at hSw); go_simp; try (with_reducible rfl)
                  try simp only [Act.put, gA, gB, gC, List.setIfInBounds_toArray, gE, gF]
                  refine tkH 3 (v := ?_) ?_ ?_
                  rotate_left
                  · intro w hSw; (try dsimp only at hSw); go_simp; try (with_reducible rfl)
                  try simp only [Act.put, gA, gB, gC, List.setIfInBounds_toArray, gE, gF]
                  refine tkH 4 (v := ?_) ?_ ?_
                  rotate_left
                  · intro w hSw; (try dsimp only at hSw); go_simp; try (with_reducible rfl)
                  try simp only [Act.put, gA, gB, gC, List.setIfInBounds_toArray, gE, gF]
                  refine tkH 5 (v := ?_) ?_ ?_
                  rotate_left
                  · intro w hSw; (try dsimp only at hSw); go_simp; try (with_reducible rfl)
                  try simp only [Act.put, gA, gB, gC, List.setIfInBounds_toArray, gE, gF]
                  refine tkH 6 (v := ?_) ?_ ?_
                  rotate_left
                  · intro w hSw; (try dsimp only at hSw); go_simp; try (with_reducible rfl)
                  try simp only [Act.put, gA, gB, gC, List.setIfInBounds_toArray, gE, gF]
                  refine tkH 7 (v := ?_) ?_ ?_
                  rotate_left
                  · intro w hSw; (try dsimp only at hSw); go_simp; try (with_reducible rfl)
                  try simp only [Act.put, gA, gB, gC, List.setIfInBounds_toArray, gE, gF]
                  refine tkH 8 (v := ?_) ?_ ?_
                  rotate_left
                  · intro w hSw; (try dsimp only at hSw); go_simp; try (with_reducible rfl)
                  try simp only [Act.put, gA, gB, gC, List.setIfInBounds_toArray, gE, gF]
                  refine tkH 9 (v := ?_) ?_ ?_
                  rotate_left
                  · intro w hSw; (try dsimp only at hSw); go_simp; try (with_reducible rfl)
                  try simp only [Act.put, gA, gB, gC, List.setIfInBounds_toArray, gE, gF]
                  refine tkH 10 (v := ?_) ?_ ?_
                  rotate_left
                  · intro w hSw; (try dsimp only at hSw); go_simp; try (with_reducible rfl)
                  try simp only [Act.put, gA, gB, gC, List.setIfInBounds_toArray, gE, gF]
                  refine skH 11 ?_
                  try simp only [Act.put, gA, gB, gC, List.setIfInBounds_toArray, gE, gF]
                  refine skH 12 ?_
                  try simp only [Act.put, gA, gB, gC, List.setIfInBounds_toArray, gE, gF]
                  refine skH 13 ?_
                  try simp only [Act.put, gA, gB, gC, List.setIfInBounds_toArray, gE, gF]
                  refine skH 14 ?_
                  try simp only [Act.put, gA, gB, gC, List.setIfInBounds_toArray, gE, gF]
                  refine tkH 15 (v := ?_) ?_ ?_
                  rotate_left
                  · intro w hSw; (try dsimp only at hSw); go_simp; try (with_reducible rfl)
                  try simp only [Act.put, gA, gB, gC, List.setIfInBounds_toArray, gE, gF]
                  refine tkH 16 (v := ?_) ?_ ?_
                  rotate_left
                  · intro w hSw; (try dsimp only at hSw); go_simp; try (with_reducible rfl)
                  try simp only [Act.put, gA, gB, gC, List.setIfInBounds_toArray, gE, gF]
                  refine wpAnyH_done (by kernel_rfl) ?_ _
                  have Ek' := Lib.hid (Ek.go hHeld)
                  clear AP YR hHeld
                  go_wp2_with fail
                  go_roundw
                  case rel => exact ⟨k + 1, by omega, by simp, Ek'.out⟩
                  case measure => simp [intOf]; omega
              · have z1 : decide ((k : Int) < 200) = false := by simp; omega
                have h9 := Lib.hid (h8.out.ext Ek)
                go_wp2_with fail
                go_roundw
                case rel => exact ⟨d + 1, by omega, by simp, T5, _, h9.out, hok5.out, ss'.out⟩
                case measure => simp [intOf]; omega
          · rw [if_neg hj2] at hlo
            obtain rfl : no = 34 := by omega
            have w28 : IntKind.i64.wrap 32 = 32 := rfl
            have b1 : (32 : Int) ≤ (c'o : Int) := by omega
            have b2 : (34 : Int) ≤ (c'o : Int) := by omega
            have b3 : 32 ≤ c'o := by omega
            have b4 : ¬ c'o = 1 := by omega
            have b5 : ¬ c'o = 7 := by omega
            have dj : decide ((2 : Int) ≤ (j : Int)) = true := by simp; omega
            have hz := fun (w6 : World) (E : Ext w5 w6) => (pdu_stream hj2 ((d : Int) + 1) bl) ▸ ((ro'.out.ext E).drop8 (lo := 7) (by omega))
            have hz' := Lib.hid hz
            clear hlo hz
            go_wp2_with fail
            refine wp_region_held_drew (S := fun w' => Ext w5 w') (by kernel_rfl) ((Ext.refl w5).god) (fun hHeld => ?_)
            refine tkH 0 (v := ?_) ?_ ?_
            rotate_left
            · intro w hSw; (try dsimp only at hSw); go_simp; try (with_reducible rfl)
            try simp only [Act.put, gA, gC, List.setIfInBounds_toArray, gE, gF]
            refine tkH 1 (v := ?_) ?_ ?_
            rotate_left
            · intro w hSw; (try dsimp only at hSw); go_simp; try (with_reducible rfl)
            try simp only [Act.put, gA, gB, gC, List.setIfInBounds_toArray, gE, gF]
            refine tkH 2 (v := ?_) ?_ ?_
            rotate_left
            · intro w hSw; (try dsimp only at hSw); go_simp; try (with_reducible rfl)
            try simp only [Act.put, gA, gB, gC, List.setIfInBounds_toArray, gE, gF]
            refine tkH 3 (v := ?_) ?_ ?_
            rotate_left
            · intro w hSw; (try dsimp only at hSw); go_simp; try (with_reducible rfl)
            try simp only [Act.put, gA, gB, gC, List.setIfInBounds_toArray, gE, gF]
            refine tkH 4 (v := ?_) ?_ ?_
            rotate_left
            · intro w hSw; (try dsimp only at hSw); go_simp; try (with_reducible rfl)
            try simp only [Act.put, gA, gB, gC, List.setIfInBounds_toArray, gE, gF]
            refine tkH 5 (v := ?_) ?_ ?_
            rotate_left
            · intro w hSw; (try dsimp only at hSw); go_simp; try (with_reducible rfl)
            try simp only [Act.put, gA, gB, gC, List.setIfInBounds_toArray, gE, gF]
            refine tkH 6 (v := ?_) ?_ ?_
            rotate_left
            · intro w hSw; (try dsimp only at hSw); go_simp; try (with_reducible rfl)
            try simp only [Act.put, gA, gB, gC, List.setIfInBounds_toArray, gE, gF]
            refine tkH 7 (v := ?_) ?_ ?_
            rotate_left
            · intro w hSw; (try dsimp only at hSw); go_simp; try (with_reducible rfl)
            try simp only [Act.put, gA, gB, gC, List.setIfInBounds_toArray, gE, gF]
            refine tkH 8 (v := ?_) ?_ ?_
            rotate_left
            · intro w hSw; (try dsimp only at hSw); go_simp; try (with_reducible rfl)
            try simp only [Act.put, gA, gB, gC, List.setIfInBounds_toArray, gE, gF]
            refine tkH 9 (v := ?_) ?_ ?_
            rotate_left
            · intro w hSw; (try dsimp only at hSw); go_simp; try (with_reducible rfl)
            try simp only [Act.put, gA, gB, gC, List.setIfInBounds_toArray, gE, gF]
            refine wpAnyH_done (by kernel_rfl) ?_ _
            have hz6 := hz'.out _ hHeld
            have P6 := (hHeld.block _ (lt_of_block P5.out)).trans P5.out
            have h6 := Lib.hid (h5'.out.ext hHeld)
            have ko6 := KO _ hHeld
            clear KO
            generalize w5.drew = w6 at *
            have q0 : w6.cell? ⟨wr.heap.size, 0, none⟩ = some (.int .i64 2) := cellsAt P6 0
            have q1 : w6.cell? ⟨wr.heap.size, 1, none⟩ = some (.int .i64 0) := cellsAt P6 1
            have q2 : w6.cell? ⟨wr.heap.size, 2, none⟩ = some (.int .i64 200) := cellsAt P6 2
            have q3 : w6.cell? ⟨wr.heap.size, 3, none⟩ = some (.slice none 0 0) := cellsAt P6 3
            have q4 : w6.cell? ⟨wr.heap.size, 4, none⟩ = some (.int .i64 0) := cellsAt P6 4
            have hget := ref05Get_any 2 0 200 0 0 none (some ⟨bx, ox + 7, none⟩) 0 0 27 (c'o - 7) [] (readI bl) (pduI bl) w6 (RdI.nil _) word16_nil (by unfold maxLen; omega) (readI_range bl) hz6 (by omega) (by omega) (ans_in bl) rfl
            clear hz6 P6 hz' hHeld
            go_wp2_with fail
            refine hget.mono ?_
            rintro e w7 ⟨A7, n7, c7, rfl, k1, k2, r7, E7⟩
            obtain rfl : n7 = 200 := by rw [← r7.len]; exact readI_len bl
            have E78 : Ext w7 (w7.alloc (.cells #[.int .i64 0, .slice A7 200 c7] 54)) := (Ext.refl w7).goA _
            have PR := heap_alloc_new w7 (.cells #[.int .i64 0, .slice A7 200 c7] 54)
            have rr := Lib.hid (r7.ext E78)
            have a1 : (w7.alloc (.cells #[.int .i64 0, .slice A7 200 c7] 54)).cell? ⟨w7.heap.size, 1, none⟩ = some (.slice A7 200 c7) := cellsAt PR 1
            have h8 := Lib.hid (h6.out.ext (E7.go E78))
            have E08 := Lib.hid (E0'.out.go h8.out.world)
            have PR' := Lib.hid PR
            clear hget r7 E7 E78 PR h6 q0 q1 q2 q3 q4
            go_wp2_with fail
            generalize hw8 : w7.alloc (.cells #[.int .i64 0, .slice A7 200 c7] 54) = w8 at *
            clear hw8 a1
            go_loopw [18] (fun i W => ∃ k : Nat, k ≤ 200 ∧ i = .int .i64 k ∧ Ext w8 W) (fun i _ => 200 - (intOf i).toNat)
            case atStart => exact ⟨0, by omega, rfl, Ext.refl w8⟩
            case round =>
              obtain ⟨k, hk, rfl, Ek⟩ := hrel
              by_cases hk2 : k < 200
              · have z1 : decide ((k : Int) < 200) = true := by simp; omega
                obtain ⟨br, orr, er, _, yr⟩ := (rr.out.ext Ek).at_ hk2
                rw [readI_at hk2] at yr
                have ap : wr.cell? ⟨w7.heap.size, 1, none⟩ = some (.slice A7 200 c7) := (Ek.cell _ (lt_of_block PR'.out)).trans (cellsAt PR'.out 1)
                subst er
                have b6 : (k : Int) < 200 := by omega
                have AP := fun W (E : Ext wr W) => (E.cell 1 (cell_lt ap)).trans ap
                by_cases hkl : k < nb
                · obtain ⟨bb, ob, eb, hbl, yb⟩ := hy'.out.later (E08.out.go Ek) (j := k) (by have := hnb'.out; omega)
                  subst eb
                  have YB := fun W (E : Ext wr W) => (E.cell _ hbl).trans yb
                  have z2 : decide ((k : Int) < (nb : Int)) = true := by simp; omega
                  have b7 : (k : Int) < (nb : Int) := by omega
                  cases hb : bl.getD k false with
                  | true =>
                    rw [hb, if_pos rfl] at yr
                    rw [hb] at YB
                    have YR := fun W (E : Ext wr W) => (E.cell _ (cell_lt yr)).trans yr
                    clear yb yr ap
                    go_wp2_with fail
                    refine wp_region_held_drew (S := fun w' => Ext wr w') (by kernel_rfl) ((Ext.refl wr).god) (fun hHeld => ?_)
                    refine tkH 0 (v := ?_) ?_ ?_
                    rotate_left
                    · intro w hSw; (try dsimp only at hSw); go_simp; try (with_reducible rfl)
                    try simp only [Act.put, gA, gC, List.setIfInBounds_toArray, gE, gF]
                    refine tkH 1 (v := ?_) ?_ ?_
                    rotate_left
                    · intro w hSw; (try dsimp only at hSw); go_simp; try (with_reducible rfl)
                    try simp only [Act.put, gA, gB, gC, List.setIfInBounds_toArray, gE, gF]
                    refine tkH 2 (v := ?_) ?_ ?_
                    rotate_left
                    · intro w hSw; (try dsimp only at hSw); go_simp; try (with_reducible rfl)
                    try simp only [Act.put, gA, gB, gC, List.setIfInBounds_toArray, gE, gF]
                    refine tkH 3 (v := ?_) ?_ ?_
                    rotate_left
                    · intro w hSw; (try dsimp only at hSw); go_simp; try (with_reducible rfl)
                    try simp only [Act.put, gA, gB, gC, List.setIfInBounds_toArray, gE, gF]
                    refine tkH 4 (v := ?_) ?_ ?_
                    rotate_left
                    · intro w hSw; (try dsimp only at hSw); go_simp; try (with_reducible rfl)
                    try simp only [Act.put, gA, gB, gC, List.setIfInBounds_toArray, gE, gF]
                    refine tkH 5 (v := ?_) ?_ ?_
                    rotate_left
                    · intro w hSw; (try dsimp only at hSw); go_simp; try (with_reducible rfl)
                    try simp only [Act.put, gA, gB, gC, List.setIfInBounds_toArray, gE, gF]
                    refine tkH 6 (v := ?_) ?_ ?_
                    rotate_left
                    · intro w hSw; (try dsimp only at hSw); go_simp; try (with_reducible rfl)
                    try simp only [Act.put, gA, gB, gC, List.setIfInBounds_toArray, gE, gF]
                    refine tkH 7 (v := ?_) ?_ ?_
                    rotate_left
                    · intro w hSw; (try dsimp only at hSw); go_simp; try (with_reducible rfl)
                    try simp only [Act.put, gA, gB, gC, List.setIfInBounds_toArray, gE, gF]
                    refine tkH 8 (v := ?_) ?_ ?_
                    rotate_left
                    · intro w hSw; (try dsimp only at hSw); go_simp; try (with_reducible rfl)
                    try simp only [Act.put, gA, gB, gC, List.setIfInBounds_toArray, gE, gF]
                    refine tkH 9 (v := ?_) ?_ ?_
                    rotate_left
                    · intro w hSw; (try dsimp only at hSw); go_simp; try (with_reducible rfl)
                    try simp only [Act.put, gA, gB, gC, List.setIfInBounds_toArray, gE, gF]
                    refine tkH 10 (v := ?_) ?_ ?_
                    rotate_left
                    · intro w hSw; (try dsimp only at hSw); go_simp; try (with_reducible rfl)
                    try simp only [Act.put, gA, gB, gC, List.setIfInBounds_toArray, gE, gF]
                    refine tkH 11 (v := ?_) ?_ ?_
                    rotate_left
                    · intro w hSw; (try dsimp only at hSw); go_simp; try (with_reducible rfl)
                    try simp only [Act.put, gA, gB, gC, List.setIfInBounds_toArray, gE, gF]
                    refine tkH 12 (v := ?_) ?_ ?_
                    rotate_left
                    · intro w hSw; (try dsimp only at hSw); go_simp; try (with_reducible rfl)
                    try simp only [Act.put, gA, gB, gC, List.setIfInBounds_toArray, gE, gF]
                    refine tkH 13 (v := ?_) ?_ ?_
                    rotate_left
                    · intro w hSw; (try dsimp only at hSw); go_simp; try (with_reducible rfl)
                    try simp only [Act.put, gA, gB, gC, List.setIfInBounds_toArray, gE, gF]
                    refine tkH 14 (v := ?_) ?_ ?_
                    rotate_left
                    · intro w hSw; (try dsimp only at hSw); go_simp; try (with_reducible rfl)
                    try simp only [Act.put, gA, gB, gC, List.setIfInBounds_toArray, gE, gF]
                    refine tkH 15 (v := ?_) ?_ ?_
                    rotate_left
                    · intro w hSw; (try dsimp only at hSw); go_simp; try (with_reducible rfl)
                    try simp only [Act.put, gA, gB, gC, List.setIfInBounds_toArray, gE, gF]
                    refine tkH 16 (v := ?_) ?_ ?_
                    rotate_left
                    · intro w hSw; (try dsimp only at hSw); go_simp; try (with_reducible rfl)
                    try simp only [Act.put, gA, gB, gC, List.setIfInBounds_toArray, gE, gF]
                    refine wpAnyH_done (by kernel_rfl) ?_ _
                    have Ek' := Lib.hid (Ek.go hHeld)
                    clear AP YB YR hHeld
                    go_wp2_with fail
                    go_roundw
                    case rel => exact ⟨k + 1, by omega, by simp, Ek'.out⟩
                    case measure => simp [intOf]; omega
                  | false =>
                    rw [hb, if_neg (by decide)] at yr
                    rw [hb] at YB
                    have YR := fun W (E : Ext wr W) => (E.cell _ (cell_lt yr)).trans yr
                    clear yb yr ap
                    go_wp2_with fail
                    refine wp_region_held_drew (S := fun w' => Ext wr w') (by kernel_rfl) ((Ext.refl wr).god) (fun hHeld => ?_)
                    refine tkH 0 (v := ?_) ?_ ?_
                    rotate_left
                    · intro w hSw; (try dsimp only at hSw); go_simp; try (with_reducible rfl)
                    try simp only [Act.put, gA, gC, List.setIfInBounds_toArray, gE, gF]
                    refine tkH 1 (v := ?_) ?_ ?_
                    rotate_left
                    · intro w hSw; (try dsimp only at hSw); go_simp; try (with_reducible rfl)
                    try simp only [Act.put, gA, gB, gC, List.setIfInBounds_toArray, gE, gF]
                    refine tkH 2 (v := ?_) ?_ ?_
                    rotate_left
                    · intro w hSw; (try dsimp only at hSw); go_simp; try (with_reducible rfl)
                    try simp only [Act.put, gA, gB, gC, List.setIfInBounds_toArray, gE, gF]
                    refine tkH 3 (v := ?_) ?_ ?_
                    rotate_left
                    · intro w hSw; (try dsimp only at hSw); go_simp; try (with_reducible rfl)
                    try simp only [Act.put, gA, gB, gC, List.setIfInBounds_toArray, gE, gF]
                    refine tkH 4 (v := ?_) ?_ ?_
                    rotate_left
                    · intro w hSw; (try dsimp only at hSw); go_simp; try (with_reducible rfl)
                    try simp only [Act.put, gA, gB, gC, List.setIfInBounds_toArray, gE, gF]
                    refine tkH 5 (v := ?_) ?_ ?_
                    rotate_left
                    · intro w hSw; (try dsimp only at hSw); go_simp; try (with_reducible rfl)
                    try simp only [Act.put, gA, gB, gC, List.setIfInBounds_toArray, gE, gF]
                    refine tkH 6 (v := ?_) ?_ ?_
                    rotate_left
                    · intro w hSw; (try dsimp only at hSw); go_simp; try (with_reducible rfl)
                    try simp only [Act.put, gA, gB, gC, List.setIfInBounds_toArray, gE, gF]
                    refine tkH 7 (v := ?_) ?_ ?_
                    rotate_left
                    · intro w hSw; (try dsimp only at hSw); go_simp; try (with_reducible rfl)
                    try simp only [Act.put, gA, gB, gC, List.setIfInBounds_toArray, gE, gF]
                    refine tkH 8 (v := ?_) ?_ ?_
                    rotate_left
                    · intro w hSw; (try dsimp only at hSw); go_simp; try (with_reducible rfl)
                    try simp only [Act.put, gA, gB, gC, List.setIfInBounds_toArray, gE, gF]
                    refine tkH 9 (v := ?_) ?_ ?_
                    rotate_left
                    · intro w hSw; (try dsimp only at hSw); go_simp; try (with_reducible rfl)
                    try simp only [Act.put, gA, gB, gC, List.setIfInBounds_toArray, gE, gF]
                    refine tkH 10 (v := ?_) ?_ ?_
                    rotate_left
                    · intro w hSw; (try dsimp only at hSw); go_simp; try (with_reducible rfl)
                    try simp only [Act.put, gA, gB, gC, List.setIfInBounds_toArray, gE, gF]
                    refine tkH 11 (v := ?_) ?_ ?_
                    rotate_left
                    · intro w hSw; (try dsimp only at hSw); go_simp; try (with_reducible rfl)
                    try simp only [Act.put, gA, gB, gC, List.setIfInBounds_toArray, gE, gF]
                    refine tkH 12 (v := ?_) ?_ ?_
                    rotate_left
                    · intro w hSw; (try dsimp only at hSw); go_simp; try (with_reducible rfl)
                    try simp only [Act.put, gA, gB, gC, List.setIfInBounds_toArray, gE, gF]
                    refine tkH 13 (v := ?_) ?_ ?_
                    rotate_left
                    · intro w hSw; (try dsimp only at hSw); go_simp; try (with_reducible rfl)
                    try simp only [Act.put, gA, gB, gC, List.setIfInBounds_toArray, gE, gF]
                    refine tkH 14 (v := ?_) ?_ ?_
                    rotate_left
                    · intro w hSw; (try dsimp only at hSw); go_simp; try (with_reducible rfl)
                    try simp only [Act.put, gA, gB, gC, List.setIfInBounds_toArray, gE, gF]
                    refine tkH 15 (v := ?_) ?_ ?_
                    rotate_left
                    · intro w hSw; (try dsimp only at hSw); go_simp; try (with_reducible rfl)
                    try simp only [Act.put, gA, gB, gC, List.setIfInBounds_toArray, gE, gF]
                    refine tkH 16 (v := ?_) ?_ ?_
                    rotate_left
                    · intro w hSw; (try dsimp only at hSw); go_simp; try (with_reducible rfl)
                    try simp only [Act.put, gA, gB, gC, List.setIfInBounds_toArray, gE, gF]
                    refine wpAnyH_done (by kernel_rfl) ?_ _
                    have Ek' := Lib.hid (Ek.go hHeld)
                    clear AP YB YR hHeld
                    go_wp2_with fail
                    go_roundw
                    case rel => exact ⟨k + 1, by omega, by simp, Ek'.out⟩
                    case measure => simp [intOf]; omega
                · have hb : bl.getD k false = false := by rw [List.getD_eq_getElem?_getD, List.getElem?_eq_none (by have := hnb'.out; omega)]; rfl
                  have z2 : decide ((k : Int) < (nb : Int)) = false := by simp; omega
                  rw [hb, if_neg (by decide)] at yr
                  have YR := fun W (E : Ext wr W) => (E.cell _ (cell_lt yr)).trans yr
                  clear yr ap hb
                  go_wp2_with fail
                  refine wp_region_held_drew (S := fun w' => Ext wr w') (by kernel_rfl) ((Ext.refl wr).god) (fun hHeld => ?_)
                  refine tkH 0 (v := ?_) ?_ ?_
                  rotate_left
                  · intro w hSw; (try dsimp only at hSw); go_simp; try (with_reducible rfl)
                  try simp only [Act.put, gA, gC, List.setIfInBounds_toArray, gE, gF]
                  refine tkH 1 (v := ?_) ?_ ?_
                  rotate_left
                  · intro w hSw; (try dsimp only at hSw); go_simp; try (with_reducible rfl)
                  try simp only [Act.put, gA, gB, gC, List.setIfInBounds_toArray, gE, gF]
                  refine tkH 2 (v := ?_) ?_ ?_
                  rotate_left
                  · intro w hSw; (try dsimp only at hSw); go_simp; try (with_reducible rfl)
                  try simp only [Act.put, gA, gB, gC, List.setIfInBounds_toArray, gE, gF]
                  refine tkH 3 (v := ?_) ?_ ?_
                  rotate_left
                  · intro w hSw; (try dsimp only at hSw); go_simp; try (with_reducible rfl)
                  try simp only [Act.put, gA, gB, gC, List.setIfInBounds_toArray, gE, gF]
                  refine tkH 4 (v := ?_) ?_ ?_
                  rotate_left
                  · intro w hSw; (try dsimp only at hSw); go_simp; try (with_reducible rfl)
                  try simp only [Act.put, gA, gB, gC, List.setIfInBounds_toArray, gE, gF]
                  refine tkH 5 (v := ?_) ?_ ?_
                  rotate_left
                  · intro w hSw; (try dsimp only at hSw); go_simp; try (with_reducible rfl)
                  try simp only [Act.put, gA, gB, gC, List.setIfInBounds_toArray, gE, gF]
                  refine tkH 6 (v := ?_) ?_ ?_
                  rotate_left
                  · intro w hSw; (try dsimp only at hSw); go_simp; try (with_reducible rfl)
                  try simp only [Act.put, gA, gB, gC, List.setIfInBounds_toArray, gE, gF]
                  refine tkH 7 (v := ?_) ?_ ?_
                  rotate_left
                  · intro w hSw; (try dsimp only at hSw); go_simp; try (with_reducible rfl)
                  try simp only [Act.put, gA, gB, gC, List.setIfInBounds_toArray, gE, gF]
                  refine tkH 8 (v := ?_) ?_ ?_
                  rotate_left
                  · intro w hSw; (try dsimp only at hSw); go_simp; try (with_reducible rfl)
                  try simp only [Act.put, gA, gB, gC, List.setIfInBounds_toArray, gE, gF]
                  refine tkH 9 (v := ?_) ?_ ?_
                  rotate_left
                  · intro w hSw; (try dsimp only at hSw); go_simp; try (with_reducible rfl)
                  try simp only [Act.put, gA, gB, gC, List.setIfInBounds_toArray, gE, gF]
                  refine tkH 10 (v := ?_) ?_ ?_
                  rotate_left
                  · intro w hSw; (try dsimp only at hSw); go_simp; try (with_reducible rfl)
                  try simp only [Act.put, gA, gB, gC, List.setIfInBounds_toArray, gE, gF]
                  refine skH 11 ?_
                  try simp only [Act.put, gA, gB, gC, List.setIfInBounds_toArray, gE, gF]
                  refine skH 12 ?_
                  try simp only [Act.put, gA, gB, gC, List.setIfInBounds_toArray, gE, gF]
                  refine skH 13 ?_
                  try simp only [Act.put, gA, gB, gC, List.setIfInBounds_toArray, gE, gF]
                  refine skH 14 ?_
                  try simp only [Act.put, gA, gB, gC, List.setIfInBounds_toArray, gE, gF]
                  refine tkH 15 (v := ?_) ?_ ?_
                  rotate_left
                  · intro w hSw; (try dsimp only at hSw); go_simp; try (with_reducible rfl)
                  try simp only [Act.put, gA, gB, gC, List.setIfInBounds_toArray, gE, gF]
                  refine tkH 16 (v := ?_) ?_ ?_
                  rotate_left
                  · intro w hSw; (try dsimp only at hSw); go_simp; try (with_reducible rfl)
                  try simp only [Act.put, gA, gB, gC, List.setIfInBounds_toArray, gE, gF]
                  refine wpAnyH_done (by kernel_rfl) ?_ _
                  have Ek' := Lib.hid (Ek.go hHeld)
                  clear AP YR hHeld
                  go_wp2_with fail
                  go_roundw
                  case rel => exact ⟨k + 1, by omega, by simp, Ek'.out⟩
                  case measure => simp [intOf]; omega
              · have z1 : decide ((k : Int) < 200) = false := by simp; omega
                have h9 := Lib.hid (h8.out.ext Ek)
                go_wp2_with fail
                go_roundw
                case rel => exact ⟨d + 1, by omega, by simp, T5, _, h9.out, hok5.out, ss'.out⟩
                case measure => simp [intOf]; omega

end
end Go.Proofs.Ytgagpalffdgjnaa
