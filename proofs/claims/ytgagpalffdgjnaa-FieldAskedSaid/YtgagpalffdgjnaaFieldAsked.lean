/- Layer 24, the law FieldAsked: the walk. (Printed by wip/gen/fieldasked.py.) -/
import Derived.Test.YtgagpalffdgjnaaG64
import Derived.Test.YtgagpalffdgjnaaG61
import Derived.Test.YtgagpalffdgjnaaG62
namespace Go.Proofs.Ytgagpalffdgjnaa
open Go.RowKit

theorem bools_later {w w' : World} {A : Option Addr} {xs : List Bool} (h : RdBs w w.heap.size A xs.length (xs.map Value.bool)) (E : Ext w w') {j : Nat} (hj : j < xs.length) :
    ∃ b o, A = some ⟨b, o, none⟩ ∧ b < w'.heap.size ∧ w'.cell? ⟨b, o + j, none⟩ = some (.bool (xs.getD j false)) := by
  obtain ⟨b, o, e, hb, hc⟩ := h.bool hj
  exact ⟨b, o, e, Nat.lt_of_lt_of_le hb E.size, (E.cell _ hb).trans hc⟩
theorem HasRf.up {w : World} {base r : Nat} {L : Nat → List Int} (h : HasRf w base r L) : base ≤ r := let ⟨_, _, h⟩ := h; h.hb
theorem HasRf.at_rng {w : World} {base r : Nat} {L : Nat → List Int} (h : HasRf w base r L) (k i : Int) : 0 ≤ atB L k i ∧ atB L k i ≤ 65535 := by
  obtain ⟨_, _, h⟩ := h
  unfold atB
  split
  · have := h.rng k.toNat i.toNat
    rw [← List.getD_eq_getElem?_getD] at this
    exact this
  · omega
def AsRel (w0 : World) (base f r j : Nat) (dev : List (Int × Int)) (n : Nat) (i : Value) (wr : World) : Prop :=
  ∃ (k : Nat) (F : Fp) (L : Nat → List Int) (A : Option Addr) (m : Nat) (xs : List Int), k ≤ n ∧ i = .int .i64 k ∧ FB w0 wr base f r dev F L A m xs ∧ FOk F k ∧ StA F j L
section
variable (line unit : Int) (A1 A2 A3 : Option Addr) (c1 n2 c2 n3 c3 : Nat) (al : List Bool) (ps : List Rq24) (ks : List Int) (w : World)
set_option maxRecDepth 100000 in
set_option maxHeartbeats 51200000 in
theorem fieldAsked_any (l0 : 0 ≤ line) (u0 : 0 ≤ unit) (hx : RdBs w w.heap.size A1 al.length (al.map Value.bool)) (hp : RdRq24 w A2 n2 ps) (hk : RdI w w.heap.size .u8 A3 n3 ks) (hkb : ByteL ks) :
    Calls Try.prog 6 #[.int .u8 line, .int .u8 unit, .slice A1 al.length c1, .slice A2 n2 c2, .slice A3 n3 c3] w fun e w' => e = .returned (.bool true) ∧ Ext w w' := by
  obtain ⟨j, hj, hjl⟩ : ∃ j : Nat, j < 4 ∧ line.tmod 4 = (j : Int) := ⟨(line % 4).toNat, by omega, by rw [Int.tmod_eq_emod_of_nonneg l0]; omega⟩
  obtain ⟨um, hum, hul⟩ : ∃ um : Nat, um < 200 ∧ unit.tmod 200 = (um : Int) := ⟨(unit % 200).toNat, by omega, by rw [Int.tmod_eq_emod_of_nonneg u0]; omega⟩
  have wu : IntKind.i64.wrap (1 + (um : Int)) = 1 + (um : Int) := by rw [IntKind.wrap_i64]; omega
  have wu8 : IntKind.u8.wrap (1 + (um : Int)) = 1 + (um : Int) := by rw [IntKind.wrap_u8]; omega
  have hx' := Lib.hid hx
  have hp' := Lib.hid hp
  have hk' := Lib.hid hk
  have hkb' := Lib.hid hkb
  clear hx hp hk hkb
  obtain ⟨na, hna⟩ : ∃ na, al.length = na := ⟨_, rfl⟩
  rw [hna]
  have hna' := Lib.hid hna
  clear hna
  go_enter Try.func6, Try.ntmps6
  go_wp2_with fail
  refine (head24_any w).mono ?_
  rintro e w1 ⟨rfl, E1⟩
  go_wp2_with fail
  have PD := heap_alloc_new w1 (.cells #[.string { data := #[] }, .int .i64 (j : Int), .int .i64 (1 + (um : Int))] 65)
  have hdv : RdDv (w1.alloc (.cells #[.string { data := #[] }, .int .i64 (j : Int), .int .i64 (1 + (um : Int))] 65)) (some ⟨w1.heap.size, 0, none⟩) 1 [((j : Int), 1 + (um : Int))] := by
    refine ⟨rfl, fun k hk => ?_⟩
    obtain rfl : k = 0 := by simpa using hk
    exact ⟨_, _, _, rfl, by simp, cellsAt PD 0, cellsAt PD 1, cellsAt PD 2, wf_i64 (x := (j : Int)) (by omega) (by omega), wf_i64 (x := 1 + (um : Int)) (by omega) (by omega)⟩
  have E0 : Ext w (w1.alloc (.cells #[.string { data := #[] }, .int .i64 (j : Int), .int .i64 (1 + (um : Int))] 65)) := E1.goA _
  have hnew := fieldNew_any _ 1 1 [((j : Int), 1 + (um : Int))] _ hdv (by omega) (by omega)
  have E0' := Lib.hid E0
  clear PD hdv E0 E1
  generalize hw0 : w1.alloc (.cells #[.string { data := #[] }, .int .i64 (j : Int), .int .i64 (1 + (um : Int))] 65) = w0 at *
  clear hw0
  refine hnew.mono ?_
  rintro e w2 ⟨f, M, rfl, h2, E2, u2⟩
  have h2' := Lib.hid h2
  have u2' := Lib.hid u2
  clear h2 u2 hnew
  go_wp2_with fail
  refine (rfNew_any 256 256 0 0 w2).mono ?_
  rintro e w3 ⟨r, rfl, hr, E3⟩
  have hup := hr.up
  have hb0 := E2.size
  have hB3 := Lib.hid (FB.make h2'.out E2 u2'.out hr E3)
  have hbr : w0.heap.size ≤ r := by omega
  clear hr E2 E3 h2' u2' hb0 hup
  generalize w2.heap.size = base at *
  generalize hdev : [((j : Int), 1 + (um : Int))] = dev at *
  have hdev' := Lib.hid hdev
  clear hdev
  by_cases hn1 : 60 < n2
  · have d1 : decide ((60 : Int) < (n2 : Int)) = true := by simp; omega
    go_wp2_with fail
    go_ret
    exact ⟨rfl, E0'.out.go hB3.out.world⟩
  have d1 : decide ((60 : Int) < (n2 : Int)) = false := by simp; omega
  by_cases hn2 : 300 < na
  · have d2 : decide ((300 : Int) < (na : Int)) = true := by simp; omega
    go_wp2_with fail
    go_ret
    exact ⟨rfl, E0'.out.go hB3.out.world⟩
  have d2 : decide ((300 : Int) < (na : Int)) = false := by simp; omega
  go_wp2_with fail
  go_loopw [16] (fun i wr => ∃ (k : Nat) (F : Fp) (L : Nat → List Int), k ≤ na ∧ k ≤ 256 ∧ i = .int .i64 k ∧ FB w0 wr base f r dev F L none 0 [] ∧ FOk F 0 ∧ StA F j L) (fun i _ => na - (intOf i).toNat)
  case atStart => exact ⟨0, newF, _, by omega, by omega, rfl, hB3.out, FOk.new, StA.new j⟩
  case round =>
    clear hB3
    obtain ⟨k, F, L, hk, hk2, rfl, hB, hok, hst⟩ := hrel
    have hB' := Lib.hid hB
    have hok' := Lib.hid hok
    have hst' := Lib.hid hst
    clear hB hok hst
    have hd2 : (decide ((k : Int) < (na : Int)) = false ∧ decide (k < na) = false) ∨ (decide ((k : Int) < (na : Int)) = true ∧ decide (k < na) = true) := by by_cases h : k < na <;> simp [h] <;> omega
    have hdd : ∀ b : Bool, decide ((k : Int) < (na : Int)) = b → decide (k < na ∧ k < 256) = (b && decide ((k : Int) < 256)) := fun b hb => by
      subst hb
      by_cases h1 : k < na <;> by_cases h2 : k < 256 <;> simp [h1, h2] <;> omega
    go_upto_region 9 with fail
    go_cut [70] (fun t wx => t = .bool (decide (k < na ∧ k < 256)) ∧ wr = wx)
    case first =>
      rcases hd2 with ⟨e1, e1n⟩ | ⟨e1, e1n⟩
      all_goals
        go_wp2_with fail
        go_meet
        exact ⟨by rw [hdd _ e1]; simp, rfl⟩
    case rest =>
    obtain ⟨rfl, hwc⟩ := hcut
    subst hwc
    clear hd2 hdd
    by_cases hkn : k < na ∧ k < 256
    · have e0 : decide (k < na ∧ k < 256) = true := by simpa using hkn
      have e1 : decide ((k : Int) < (na : Int)) = true := by simp; omega
      have e2 : decide ((k : Int) < 256) = true := by simp; omega
      have e3 : (k : Int) < (na : Int) := by omega
      obtain ⟨ba, oa, ea, _, ya⟩ := bools_later hx'.out (E0'.out.go hB'.out.world) (j := k) (by have := hna'.out; omega)
      subst ea
      rw [e0]
      cases hv : al.getD k false with
      | true =>
        rw [hv] at ya
        have hput := Lib.hid (putFB hB'.out hbr 1 (k : Int) 1 (by omega) (by omega))
        clear hv
        go_wp2_with fail
        refine hput.out.mono ?_
        rintro e w5 ⟨rfl, h5⟩
        have h5' := Lib.hid h5
        clear h5 hput ya
        go_wp2_with fail
        refine (setFB h5'.out 0 (k : Int) 1).mono ?_
        rintro e w6 ⟨rfl, h6⟩
        have h6' := Lib.hid h6
        have hok6 := Lib.hid (hok'.out.set dev 0 (k : Int) 1)
        have hst6 : StA (setF dev F 0 (k : Int) 1) j (putB L 1 (k : Int) 1) := by rw [← hdev'.out]; exact hst'.out.put (k : Int) (by omega)
        have hst6' := Lib.hid hst6
        clear h6 h5' hB' hok' hst' hst6
        go_wp2_with fail
        go_roundw
        case rel => exact ⟨k + 1, _, _, by omega, by omega, by simp, h6'.out, hok6.out, hst6'.out⟩
        case measure => simp [intOf]; omega
      | false =>
        rw [hv] at ya
        have hput := Lib.hid (putFB hB'.out hbr 1 (k : Int) 0 (by omega) (by omega))
        clear hv
        go_wp2_with fail
        refine hput.out.mono ?_
        rintro e w5 ⟨rfl, h5⟩
        have h5' := Lib.hid h5
        clear h5 hput ya
        go_wp2_with fail
        refine (setFB h5'.out 0 (k : Int) 0).mono ?_
        rintro e w6 ⟨rfl, h6⟩
        have h6' := Lib.hid h6
        have hok6 := Lib.hid (hok'.out.set dev 0 (k : Int) 0)
        have hst6 : StA (setF dev F 0 (k : Int) 0) j (putB L 1 (k : Int) 0) := by rw [← hdev'.out]; exact hst'.out.put (k : Int) (by omega)
        have hst6' := Lib.hid hst6
        clear h6 h5' hB' hok' hst' hst6
        go_wp2_with fail
        go_roundw
        case rel => exact ⟨k + 1, _, _, by omega, by omega, by simp, h6'.out, hok6.out, hst6'.out⟩
        case measure => simp [intOf]; omega
    · have e0 : decide (k < na ∧ k < 256) = false := by simpa using hkn
      rw [e0]
      go_wp2_with fail
      go_loopw [18] (fun i wr => AsRel w0 base f r j dev n2 i wr) (fun i _ => n2 - (intOf i).toNat)
      case atStart => exact ⟨0, F, L, none, 0, [], by omega, rfl, hB'.out, hok'.out, hst'.out⟩
      case round =>
        clear hB' hok' hst' e0 hkn hk hk2
        obtain ⟨k, F, L, A, m, xs, hk, rfl, hB, hok, hst⟩ := hrel
        have hB' := Lib.hid hB
        have hok' := Lib.hid hok
        have hst' := Lib.hid hst
        clear hB hok hst
        by_cases hlt : k < n2
        rotate_left
        · have e1 : decide ((k : Int) < (n2 : Int)) = false := by simp; omega
          go_wp2_with fail
          go_loopw [26] (fun i W => ∃ q : Nat, q ≤ 256 ∧ i = .int .i64 q ∧ FB w0 W base f r dev F L A m xs) (fun i _ => 256 - (intOf i).toNat)
          case atStart => exact ⟨0, by omega, rfl, hB'.out⟩
          case round =>
            clear hB'
            obtain ⟨q, hq, rfl, hB⟩ := hrel
            have hB' := Lib.hid hB
            clear hB
            by_cases hq2 : q < 256
            · have z1 : decide ((q : Int) < 256) = true := by simp; omega
              have hce : coilF dev F 0 (q : Int) = atB L 0 (q : Int) := by
                unfold coilF
                rw [← hdev'.out, if_pos (by simp)]
                show atB (F.L 0) 0 (q : Int) = _
                rw [hst'.out.1]
              have hrg := hB'.out.rf.at_rng 0 (q : Int)
              have hw9 : IntKind.i64.wrap (atB L 0 (q : Int)) = atB L 0 (q : Int) := by rw [IntKind.wrap_i64]; omega
              go_wp2_with fail
              refine (coilFB hB'.out 0 (q : Int)).mono ?_
              rintro e w8 ⟨rfl, rfl⟩
              rw [hce]
              go_wp2_with fail
              refine (atFB hB'.out 0 (q : Int)).mono ?_
              rintro e w9 ⟨rfl, rfl⟩
              go_wp2_with fail
              go_roundw
              case rel => exact ⟨q + 1, by omega, by simp, hB'.out⟩
              case measure => simp [intOf]; omega
            · have z1 : decide ((q : Int) < 256) = false := by simp; omega
              go_wp2_with fail
              go_ret
              exact ⟨rfl, E0'.out.go hB'.out.world⟩
        have e1 : decide ((k : Int) < (n2 : Int)) = true := by simp; omega
        have e3 : (k : Int) < (n2 : Int) := by omega
        obtain ⟨b, o, rfl, hb, p, hpm, hpk, hc, hok0⟩ := (hp'.out.ext E0'.out).2 k hlt
        obtain ⟨hmc, hrd, hwx⟩ := hok0
        have hxr := Lib.hid (range_u16 hwx)
        obtain ⟨fc, ad, qt, pa, pm, pc, ys, tw⟩ := p
        dsimp only at *
        have hread : Hid (∀ W, Ext w0 W → W.cell? ⟨b, o + k * 5, none⟩ = some (.int .i64 fc) ∧ W.cell? ⟨b, o + k * 5 + 1, none⟩ = some (.int .i64 ad) ∧ W.cell? ⟨b, o + k * 5 + 2, none⟩ = some (.int .i64 qt) ∧ W.cell? ⟨b, o + k * 5 + 3, none⟩ = some (.slice pa pm pc) ∧ W.cell? ⟨b, o + k * 5 + 4, none⟩ = some (.int .i64 tw) ∧ RdI W W.heap.size .u16 pa pm ys) := Lib.hid fun W E =>
          ⟨(E.cell _ hb).trans (hc 0 (by omega)), (E.cell _ hb).trans (hc 1 (by omega)), (E.cell _ hb).trans (hc 2 (by omega)), (E.cell _ hb).trans (hc 3 (by omega)), (E.cell _ hb).trans (hc 4 (by omega)), hrd.ext E⟩
        clear hpm hpk hc hrd hwx
        obtain ⟨c0, c1, c2, c3, c4, hrd⟩ := hread.out _ hB'.out.world
        by_cases h3000 : 3000 < pm
        · have f1 : decide ((3000 : Int) < (pm : Int)) = true := by simp; omega
          clear hrd
          go_wp2_with fail
          go_ret
          exact ⟨rfl, E0'.out.go hB'.out.world⟩
        have f1 : decide ((3000 : Int) < (pm : Int)) = false := by simp; omega
        have hrg := Lib.hid (refRight_any fc ad qt tw pa pm pc ys wr hrd (Nat.le_trans hmc.1 hmc.2))
        clear hrd
        go_wp2_with fail
        refine hrg.out.mono ?_
        rintro e w2' ⟨rfl, E2'⟩
        have hB2 := Lib.hid (hB'.out.ext E2')
        clear hB' hrg c0 c1 c2 c3 c4 E2'
        cases hrt0 : rightB' fc ad qt tw ys with
        | false =>
          have hok9 := Lib.hid (hok'.out.more (Nat.le_add_right k 1))
          go_wp2_with fail
          go_roundw
          case rel => exact ⟨k + 1, _, _, _, _, _, by omega, by simp, hB2.out, hok9.out, hst'.out⟩
          case measure => simp [intOf]; omega
        | true =>
        have hrt := Lib.hid hrt0
        clear hrt0
        generalize w2' = wr at *
        have hB' := hB2
        clear hB2
        have wnow : IntKind.i64.wrap (100 * (k : Int)) = 100 * (k : Int) := by rw [IntKind.wrap_i64]; omega
        have wid : IntKind.u16.wrap (k : Int) = (k : Int) := by rw [IntKind.wrap_u16]; omega
        have wa1 : IntKind.i64.wrap (100 * (k : Int) + 1) = 100 * (k : Int) + 1 := by rw [IntKind.wrap_i64]; omega
        have wa7 : IntKind.i64.wrap (100 * (k : Int) + 1 + 6) = 100 * (k : Int) + 1 + 6 := by rw [IntKind.wrap_i64]; omega
        have wa99 : IntKind.i64.wrap (100 * (k : Int) + 99) = 100 * (k : Int) + 99 := by rw [IntKind.wrap_i64]; omega
        go_upto_if 109 with fail
        go_cut [19] (fun t wx => ∃ K : Int, t = .int .i64 K ∧ (0 ≤ K ∧ K ≤ 4) ∧ wr = wx)
        case first =>
          by_cases hk3 : k < n3
          · have g3 : decide ((k : Int) < (n3 : Int)) = true := by simp; omega
            have g3' : (k : Int) < (n3 : Int) := by omega
            obtain ⟨bk, okk, rfl, _, yk⟩ := (hk'.out.ext (E0'.out.go hB'.out.world)).at_ hk3
            have hkv : 0 ≤ ks.getD k 0 := by rw [List.getD_eq_getElem?_getD]; exact (hkb'.out k).1
            generalize ks.getD k 0 = kv at *
            have hkw : 0 ≤ kv.tmod 5 ∧ kv.tmod 5 ≤ 4 := by rw [Int.tmod_eq_emod_of_nonneg hkv]; omega
            obtain ⟨K, hKe⟩ : ∃ K, kv.tmod 5 = K := ⟨_, rfl⟩
            rw [hKe] at hkw
            have wK8 : IntKind.u8.wrap K = K := by rw [IntKind.wrap_u8]; omega
            have wK : IntKind.i64.wrap K = K := by rw [IntKind.wrap_i64]; omega
            go_wp2_with fail
            go_meet
            exact ⟨K, rfl, hkw, rfl⟩
          · have g3 : decide ((k : Int) < (n3 : Int)) = false := by simp; omega
            go_wp2_with fail
            go_meet
            exact ⟨0, rfl, by omega, rfl⟩
        case rest =>
        obtain ⟨K, rfl, hK, hwc⟩ := hcut
        subst hwc
        rcases (show K = 0 ∨ K = 1 ∨ K = 2 ∨ K = 3 ∨ K = 4 from by omega) with rfl | rfl | rfl | rfl | rfl
        · as_aux_lemma =>
          have h3' : Hid (FB w0 wr base f r dev (faultA F j 0) L A m xs) := Lib.hid (by unfold faultA; rw [if_neg (by omega)]; exact hB'.out)
          have hok3 : Hid (FOk (faultA F j 0) k) := Lib.hid (by unfold faultA; split; exact hok'.out.fault _ _ _; exact hok'.out)
          have R3 := Lib.hid (hread.out wr h3'.out.world)
          obtain ⟨c0, c1, c2, c3, c4, hrd3⟩ := R3.out
          have hfr := Lib.hid (framed_any j (k : Int) (1 + (um : Int)) fc ad qt tw (c := pc) (by omega) (by omega) hrd3 hxr.out (Nat.le_trans hmc.1 hmc.2))
          clear hrd3 R3
          go_wp2_with fail
          refine hfr.out.mono ?_
          rintro e w4 ⟨A4, n4, c4', rfl, g1, g2, r4, E4, f4⟩
          have l4 := r4.len
          have ln4 := frameL_len j (k : Int) (1 + (um : Int)) (putL fc ad qt tw ys)
          have h4 := Lib.hid (h3'.out.fresh E4 r4 f4)
          clear r4 E4 f4 hfr c0 c1 c2 c3 c4
          go_wp2_with fail
          refine (askFB h4.out hok3.out (by omega) (frame_bytes (k : Int) (by omega) (by omega) (putL_bytes fc ad qt tw ys)) g1 g2 (by omega) (j : Int) (100 * (k : Int))).mono ?_
          rintro e w5 ⟨rfl, h5⟩
          obtain ⟨s1, s2, s3⟩ := asked_core (u := 1 + (um : Int)) (id := (k : Int)) (now := 100 * (k : Int)) (K := 0) hj hst'.out (by omega) (by omega) (by omega) (by omega) hrt.out hxr.out
          have h5' : Hid (FB w0 w5 base f r dev (askedA F j (1 + (um : Int)) 0 (k : Int) fc ad qt tw (100 * (k : Int)) ys) L A4 n4 (frameL j (k : Int) (1 + (um : Int)) (putL fc ad qt tw ys))) := Lib.hid (by unfold askedA; rw [hdev'.out]; exact h5)
          have hok5 : Hid (FOk (askedA F j (1 + (um : Int)) 0 (k : Int) fc ad qt tw (100 * (k : Int)) ys) (k + 1)) := Lib.hid (by unfold askedA; exact hok3.out.ask _ _ _ _)
          generalize askedA F j (1 + (um : Int)) 0 (k : Int) fc ad qt tw (100 * (k : Int)) ys = F5 at *
          clear h5 h4 h3' hok3 l4 ln4
          obtain ⟨sy, sl⟩ := serve_put hrt.out hxr.out L
          have al1 := answer_len hst'.out.2.2 hrt.out
          have R5 := Lib.hid (hread.out w5 h5'.out.world)
          obtain ⟨c0, c1, c2, c3, c4, hrd5⟩ := R5.out
          have hpt := Lib.hid (refPut_any fc ad qt tw pa pm pc ys w5 hrd5 hxr.out (Nat.le_trans hmc.1 hmc.2))
          have hpl : (putL fc ad qt tw ys).length ≤ 253 := (put_length fc ad qt tw ys).2
          have hpb := Lib.hid (putL_bytes fc ad qt tw ys)
          clear hrd5 R5
          go_wp2_with fail
          refine hpt.out.mono ?_
          rintro e w6 ⟨A6, n6, c6', rfl, g61, g62, r6, E6⟩
          have l6 := r6.len
          have hsv := Lib.hid (serveFB (h5'.out.ext E6) hbr r6 hpb.out (by omega) g61 g62)
          clear hpt c0 c1 c2 c3 c4 r6 E6 l6
          go_wp2_with fail
          refine hsv.out.mono ?_
          rintro e w7 ⟨A7, n7, c7, rfl, g71, g72, r7, h7⟩
          rw [sy] at r7
          rw [sl] at h7
          have h7' := Lib.hid h7
          have hwb := Lib.hid (rputL_bytes fc ad qt tw ys (doC L fc ad qt tw ys) (doY L fc ad qt tw ys))
          clear h7 hsv sy sl h5'
          generalize hwant : rputL fc ad qt tw ys (doC L fc ad qt tw ys) (doY L fc ad qt tw ys) = want at *
          have hfl := frame_len (j := j) (id := (k : Int)) (u := 1 + (um : Int)) al1.1 al1.2
          have hfb := Lib.hid (frame_bytes (j := j) (k : Int) (u := 1 + (um : Int)) (by omega) (by omega) hwb.out)
          have hL7 := Lib.hid (bits_do hst'.out.2.2 fc ad qt tw ys)
          generalize doL L fc ad qt tw ys = L7 at *
          clear hwant
          have hu2 := Lib.hid (ref02Put_any (1 + (um : Int)) A7 n7 c7 want w7 (by omega) (by omega) r7 hwb.out (Nat.le_trans g71 g72))
          go_wp2_with fail
          refine hu2.out.mono ?_
          rintro e w8 ⟨A8, n8, c8, rfl, g81, g82, r8, E8, f8⟩
          clear hu2
          go_upto_if 162 with fail
          go_cut [22] (fun t wx => ∃ A9 n9 c9, t = .slice A9 n9 c9 ∧ FB w0 wx base f r dev F5 L7 A9 n9 (frameL j (k : Int) (1 + (um : Int)) want))
          case first =>
            by_cases hj2 : j < 2
            · have dj : decide ((2 : Int) ≤ (j : Int)) = false := by simp; omega
              go_wp2_with fail
              go_meet
              refine ⟨A8, n8, c8, rfl, ?_⟩
              unfold frameL
              rw [if_pos hj2]
              exact h7'.out.fresh E8 r8 f8
            · have dj : decide ((2 : Int) ≤ (j : Int)) = true := by simp; omega
              have hm3 := Lib.hid (ref03Put_any (k : Int) (1 + (um : Int)) A7 n7 c7 want w8 (by omega) (by omega) (r7.ext E8) (Nat.le_trans g71 g72))
              have h8 := Lib.hid (h7'.out.ext E8)
              go_wp2_with fail
              refine hm3.out.mono ?_
              rintro e w9 ⟨A9, n9, c9, rfl, g91, g92, r9, E9, f9⟩
              go_wp2_with fail
              go_meet
              refine ⟨A9, n9, c9, rfl, ?_⟩
              unfold frameL
              rw [if_neg hj2]
              exact h8.out.fresh E9 r9 f9
          case rest =>
          clear h7' r7 r8 E8 f8
          obtain ⟨A9, n9, c9, rfl, h9x⟩ := hcut
          have h9 := Lib.hid h9x
          clear h9x
          have w20 : IntKind.i64.wrap (100 * (k : Int) + 1 - 1) = 100 * (k : Int) := by rw [IntKind.wrap_i64]; omega
          have w21 : 100 * (k : Int) + 1 - 1 = 100 * (k : Int) := by omega
          obtain ⟨t1, t2⟩ := s3 (by omega) (by omega)
          rw [if_neg (by omega), if_neg (by omega)] at t2
          obtain ⟨d0, d1, d2⟩ := due_early hj t2 (now := 100 * (k : Int)) (by omega)
          obtain ⟨k0, k1, k2⟩ := due_got hj d1
          have hst9 : Hid (StA (dueF (dueF F5 (j : Int) (100 * (k : Int))) (j : Int) (100 * (k : Int) + 1)) j L7) := Lib.hid ⟨by rw [k2, d2]; exact t1, k1, hL7.out⟩
          have hok9 := Lib.hid ((hok5.out.due (j : Int) (100 * (k : Int))).due (j : Int) (100 * (k : Int) + 1))
          have d0' := Lib.hid d0
          have k0' := Lib.hid k0
          clear t1 t2 d0 d1 d2 k0 k1 k2 s1 s2 s3
          go_wp2_with fail
          refine (dueFB h9.out hok5.out (by omega) (j : Int) (100 * (k : Int))).mono ?_
          rintro e w11 ⟨v11, T11, b11, rfl, h11, o11⟩
          rw [d0'.out] at o11
          obtain ⟨Ae, ce, rfl, _, _⟩ := o11.shape
          have h11' := Lib.hid h11
          clear h11 o11 h9 d0'
          go_wp2_with fail
          refine (dueFB h11'.out (hok5.out.due (j : Int) (100 * (k : Int))) (by omega) (j : Int) (100 * (k : Int) + 1)).mono ?_
          rintro e w12 ⟨v12, T12, b12, rfl, h12, o12⟩
          rw [k0'.out] at o12
          have h12' := Lib.hid h12
          clear h12 h11' k0'
          obtain ⟨bg, cg, Ag, ng, cg', hvg, kg, _, _, rg⟩ := o12.at_ (k := 0) (by simp)
          simp only [List.length_singleton] at hvg
          obtain rfl := hvg
          simp only [List.getElem_cons_zero] at rg
          have rx := h12'.out.rd
          have lx := rx.len
          have lg := rg.len
          have hll : ng = n9 := by rw [← lx, ← lg]
          have hcvt : ∀ W (A : Option Addr) (n c : Nat) (l : List Int), RdI W W.heap.size .u8 A n l → (Go.convert 34 9 (.slice A n c)).run Try.prog W = .ok (.string (strOfNums l)) W := fun W A n c l r => r.convert Try.underlying34 Try.underlying5 Try.underlying9 c
          have CG : ∀ W, Ext w12 W → (Go.convert 34 9 (.slice Ag ng cg')).run Try.prog W = .ok (.string (strOfNums (frameL j (k : Int) (1 + (um : Int)) want))) W := fun W E => hcvt W Ag ng cg' _ (rg.ext E)
          have CX : ∀ W, Ext w12 W → (Go.convert 34 9 (.slice A9 n9 c9)).run Try.prog W = .ok (.string (strOfNums (frameL j (k : Int) (1 + (um : Int)) want))) W := fun W E => hcvt W A9 n9 c9 _ (rx.ext E)
          have KG := fun W (E : Ext w12 W) => (E.cell _ (cell_lt kg)).trans kg
          subst hll
          clear hcvt rg rx kg o12 lx lg
          generalize frameL j (k : Int) (1 + (um : Int)) want = fx at *
          go_wp2_with fail
          refine wp_region_held_drew (S := fun W' => Ext w12 W') (by kernel_rfl) ((Ext.refl w12).god) (fun hHeld => ?_)
          refine tk 0 ?_
          try simp only [Act.put, gA, gC, List.setIfInBounds_toArray, gE, gF]
          refine tk 1 ?_
          try simp only [Act.put, gA, gB, gC, List.setIfInBounds_toArray, gE, gF]
          refine tk 2 ?_
          try simp only [Act.put, gA, gB, gC, List.setIfInBounds_toArray, gE, gF]
          refine tk 3 ?_
          try simp only [Act.put, gA, gB, gC, List.setIfInBounds_toArray, gE, gF]
          refine tk 4 ?_
          try simp only [Act.put, gA, gB, gC, List.setIfInBounds_toArray, gE, gF]
          refine tk 5 ?_
          try simp only [Act.put, gA, gB, gC, List.setIfInBounds_toArray, gE, gF]
          refine tk 6 ?_
          try simp only [Act.put, gA, gB, gC, List.setIfInBounds_toArray, gE, gF]
          refine tk 7 ?_
          try simp only [Act.put, gA, gB, gC, List.setIfInBounds_toArray, gE, gF]
          refine tk 8 ?_
          try simp only [Act.put, gA, gB, gC, List.setIfInBounds_toArray, gE, gF]
          refine tk 9 ?_
          try simp only [Act.put, gA, gB, gC, List.setIfInBounds_toArray, gE, gF]
          refine tk 10 ?_
          try simp only [Act.put, gA, gB, gC, List.setIfInBounds_toArray, gE, gF]
          refine tk 11 ?_
          try simp only [Act.put, gA, gB, gC, List.setIfInBounds_toArray, gE, gF]
          refine tk 12 ?_
          try simp only [Act.put, gA, gB, gC, List.setIfInBounds_toArray, gE, gF]
          refine tk 13 ?_
          try simp only [Act.put, gA, gB, gC, List.setIfInBounds_toArray, gE, gF]
          refine tk 14 ?_
          try simp only [Act.put, gA, gB, gC, List.setIfInBounds_toArray, gE, gF]
          refine tk 15 ?_
          try simp only [Act.put, gA, gB, gC, List.setIfInBounds_toArray, gE, gF]
          refine tk 16 ?_
          try simp only [Act.put, gA, gB, gC, List.setIfInBounds_toArray, gE, gF]
          refine tk 17 ?_
          try simp only [Act.put, gA, gB, gC, List.setIfInBounds_toArray, gE, gF]
          refine tk 18 ?_
          try simp only [Act.put, gA, gB, gC, List.setIfInBounds_toArray, gE, gF]
          refine tk 19 ?_
          try simp only [Act.put, gA, gB, gC, List.setIfInBounds_toArray, gE, gF]
          refine tk 20 ?_
          try simp only [Act.put, gA, gB, gC, List.setIfInBounds_toArray, gE, gF]
          refine tk 21 ?_
          try simp only [Act.put, gA, gB, gC, List.setIfInBounds_toArray, gE, gF]
          refine tk 22 ?_
          try simp only [Act.put, gA, gB, gC, List.setIfInBounds_toArray, gE, gF]
          refine tk 23 ?_
          try simp only [Act.put, gA, gB, gC, List.setIfInBounds_toArray, gE, gF]
          refine wpAnyH_done (by kernel_rfl) ?_ _
          have h13 := Lib.hid (h12'.out.ext hHeld)
          clear CG CX KG hHeld h12'
          go_wp2_with fail
          go_roundw
          case rel => exact ⟨k + 1, _, _, _, _, _, by omega, by simp, h13.out, hok9.out, hst9.out⟩
          case measure => simp [intOf]; omega
        · as_aux_lemma =>
          have hfo : faultOk F (j : Int) 1 6 = true := hst'.out.faultOk hj (by omega) (by omega)
          go_wp2_with fail
          refine (faultFB hB'.out (j : Int) 1 6).mono ?_
          rintro e w3 ⟨rfl, h3⟩
          rw [hfo]
          have h3' : Hid (FB w0 w3 base f r dev (faultA F j 1) L A m xs) := Lib.hid (by unfold faultA; rw [if_pos (by omega)]; exact h3)
          clear h3 hfo
          have hok3 : Hid (FOk (faultA F j 1) k) := Lib.hid (by unfold faultA; split; exact hok'.out.fault _ _ _; exact hok'.out)
          have R3 := Lib.hid (hread.out w3 h3'.out.world)
          obtain ⟨c0, c1, c2, c3, c4, hrd3⟩ := R3.out
          have hfr := Lib.hid (framed_any j (k : Int) (1 + (um : Int)) fc ad qt tw (c := pc) (by omega) (by omega) hrd3 hxr.out (Nat.le_trans hmc.1 hmc.2))
          clear hrd3 R3
          go_wp2_with fail
          refine hfr.out.mono ?_
          rintro e w4 ⟨A4, n4, c4', rfl, g1, g2, r4, E4, f4⟩
          have l4 := r4.len
          have ln4 := frameL_len j (k : Int) (1 + (um : Int)) (putL fc ad qt tw ys)
          have h4 := Lib.hid (h3'.out.fresh E4 r4 f4)
          clear r4 E4 f4 hfr c0 c1 c2 c3 c4
          go_wp2_with fail
          refine (askFB h4.out hok3.out (by omega) (frame_bytes (k : Int) (by omega) (by omega) (putL_bytes fc ad qt tw ys)) g1 g2 (by omega) (j : Int) (100 * (k : Int))).mono ?_
          rintro e w5 ⟨rfl, h5⟩
          obtain ⟨s1, s2, s3⟩ := asked_core (u := 1 + (um : Int)) (id := (k : Int)) (now := 100 * (k : Int)) (K := 1) hj hst'.out (by omega) (by omega) (by omega) (by omega) hrt.out hxr.out
          have h5' : Hid (FB w0 w5 base f r dev (askedA F j (1 + (um : Int)) 1 (k : Int) fc ad qt tw (100 * (k : Int)) ys) L A4 n4 (frameL j (k : Int) (1 + (um : Int)) (putL fc ad qt tw ys))) := Lib.hid (by unfold askedA; rw [hdev'.out]; exact h5)
          have hok5 : Hid (FOk (askedA F j (1 + (um : Int)) 1 (k : Int) fc ad qt tw (100 * (k : Int)) ys) (k + 1)) := Lib.hid (by unfold askedA; exact hok3.out.ask _ _ _ _)
          generalize askedA F j (1 + (um : Int)) 1 (k : Int) fc ad qt tw (100 * (k : Int)) ys = F5 at *
          clear h5 h4 h3' hok3 l4 ln4
          have hst5 := Lib.hid (s1 rfl)
          clear s1 s2 s3
          go_wp2_with fail
          refine (dueFB h5'.out hok5.out (by omega) (j : Int) (100 * (k : Int) + 99)).mono ?_
          rintro e w6 ⟨v6, T6, b6, rfl, h6, o6⟩
          obtain ⟨d0, d1, d2⟩ := due_none hj hst5.out.2.1 (100 * (k : Int) + 99)
          rw [d0] at o6
          obtain ⟨Av, cv, rfl, _, _⟩ := o6.shape
          have hst6 : Hid (StA (dueF F5 (j : Int) (100 * (k : Int) + 99)) j L) := Lib.hid ⟨by rw [d2]; exact hst5.out.1, d1, hst5.out.2.2⟩
          have hok6 := Lib.hid (hok5.out.due (j : Int) (100 * (k : Int) + 99))
          have h6' := Lib.hid h6
          clear h6 o6 d0 d1 d2 h5' hok5 hst5
          go_wp2_with fail
          go_roundw
          case rel => exact ⟨k + 1, _, _, _, _, _, by omega, by simp, h6'.out, hok6.out, hst6.out⟩
          case measure => simp [intOf]; omega
        · as_aux_lemma =>
          have hfo : faultOk F (j : Int) 2 6 = true := hst'.out.faultOk hj (by omega) (by omega)
          go_wp2_with fail
          refine (faultFB hB'.out (j : Int) 2 6).mono ?_
          rintro e w3 ⟨rfl, h3⟩
          rw [hfo]
          have h3' : Hid (FB w0 w3 base f r dev (faultA F j 2) L A m xs) := Lib.hid (by unfold faultA; rw [if_pos (by omega)]; exact h3)
          clear h3 hfo
          have hok3 : Hid (FOk (faultA F j 2) k) := Lib.hid (by unfold faultA; split; exact hok'.out.fault _ _ _; exact hok'.out)
          have R3 := Lib.hid (hread.out w3 h3'.out.world)
          obtain ⟨c0, c1, c2, c3, c4, hrd3⟩ := R3.out
          have hfr := Lib.hid (framed_any j (k : Int) (1 + (um : Int)) fc ad qt tw (c := pc) (by omega) (by omega) hrd3 hxr.out (Nat.le_trans hmc.1 hmc.2))
          clear hrd3 R3
          go_wp2_with fail
          refine hfr.out.mono ?_
          rintro e w4 ⟨A4, n4, c4', rfl, g1, g2, r4, E4, f4⟩
          have l4 := r4.len
          have ln4 := frameL_len j (k : Int) (1 + (um : Int)) (putL fc ad qt tw ys)
          have h4 := Lib.hid (h3'.out.fresh E4 r4 f4)
          clear r4 E4 f4 hfr c0 c1 c2 c3 c4
          go_wp2_with fail
          refine (askFB h4.out hok3.out (by omega) (frame_bytes (k : Int) (by omega) (by omega) (putL_bytes fc ad qt tw ys)) g1 g2 (by omega) (j : Int) (100 * (k : Int))).mono ?_
          rintro e w5 ⟨rfl, h5⟩
          obtain ⟨s1, s2, s3⟩ := asked_core (u := 1 + (um : Int)) (id := (k : Int)) (now := 100 * (k : Int)) (K := 2) hj hst'.out (by omega) (by omega) (by omega) (by omega) hrt.out hxr.out
          have h5' : Hid (FB w0 w5 base f r dev (askedA F j (1 + (um : Int)) 2 (k : Int) fc ad qt tw (100 * (k : Int)) ys) L A4 n4 (frameL j (k : Int) (1 + (um : Int)) (putL fc ad qt tw ys))) := Lib.hid (by unfold askedA; rw [hdev'.out]; exact h5)
          have hok5 : Hid (FOk (askedA F j (1 + (um : Int)) 2 (k : Int) fc ad qt tw (100 * (k : Int)) ys) (k + 1)) := Lib.hid (by unfold askedA; exact hok3.out.ask _ _ _ _)
          generalize askedA F j (1 + (um : Int)) 2 (k : Int) fc ad qt tw (100 * (k : Int)) ys = F5 at *
          clear h5 h4 h3' hok3 l4 ln4
          obtain ⟨sy, sl⟩ := serve_put hrt.out hxr.out L
          have al1 := answer_len hst'.out.2.2 hrt.out
          have R5 := Lib.hid (hread.out w5 h5'.out.world)
          obtain ⟨c0, c1, c2, c3, c4, hrd5⟩ := R5.out
          have hpt := Lib.hid (refPut_any fc ad qt tw pa pm pc ys w5 hrd5 hxr.out (Nat.le_trans hmc.1 hmc.2))
          have hpl : (putL fc ad qt tw ys).length ≤ 253 := (put_length fc ad qt tw ys).2
          have hpb := Lib.hid (putL_bytes fc ad qt tw ys)
          clear hrd5 R5
          go_wp2_with fail
          refine hpt.out.mono ?_
          rintro e w6 ⟨A6, n6, c6', rfl, g61, g62, r6, E6⟩
          have l6 := r6.len
          have hsv := Lib.hid (serveFB (h5'.out.ext E6) hbr r6 hpb.out (by omega) g61 g62)
          clear hpt c0 c1 c2 c3 c4 r6 E6 l6
          go_wp2_with fail
          refine hsv.out.mono ?_
          rintro e w7 ⟨A7, n7, c7, rfl, g71, g72, r7, h7⟩
          rw [sy] at r7
          rw [sl] at h7
          have h7' := Lib.hid h7
          have hwb := Lib.hid (rputL_bytes fc ad qt tw ys (doC L fc ad qt tw ys) (doY L fc ad qt tw ys))
          clear h7 hsv sy sl h5'
          generalize hwant : rputL fc ad qt tw ys (doC L fc ad qt tw ys) (doY L fc ad qt tw ys) = want at *
          have hfl := frame_len (j := j) (id := (k : Int)) (u := 1 + (um : Int)) al1.1 al1.2
          have hfb := Lib.hid (frame_bytes (j := j) (k : Int) (u := 1 + (um : Int)) (by omega) (by omega) hwb.out)
          have hL7 := Lib.hid (bits_do hst'.out.2.2 fc ad qt tw ys)
          generalize doL L fc ad qt tw ys = L7 at *
          clear hwant
          have hu2 := Lib.hid (ref02Put_any (1 + (um : Int)) A7 n7 c7 want w7 (by omega) (by omega) r7 hwb.out (Nat.le_trans g71 g72))
          go_wp2_with fail
          refine hu2.out.mono ?_
          rintro e w8 ⟨A8, n8, c8, rfl, g81, g82, r8, E8, f8⟩
          clear hu2
          go_upto_if 162 with fail
          go_cut [22] (fun t wx => ∃ A9 n9 c9, t = .slice A9 n9 c9 ∧ FB w0 wx base f r dev F5 L7 A9 n9 (frameL j (k : Int) (1 + (um : Int)) want))
          case first =>
            by_cases hj2 : j < 2
            · have dj : decide ((2 : Int) ≤ (j : Int)) = false := by simp; omega
              go_wp2_with fail
              go_meet
              refine ⟨A8, n8, c8, rfl, ?_⟩
              unfold frameL
              rw [if_pos hj2]
              exact h7'.out.fresh E8 r8 f8
            · have dj : decide ((2 : Int) ≤ (j : Int)) = true := by simp; omega
              have hm3 := Lib.hid (ref03Put_any (k : Int) (1 + (um : Int)) A7 n7 c7 want w8 (by omega) (by omega) (r7.ext E8) (Nat.le_trans g71 g72))
              have h8 := Lib.hid (h7'.out.ext E8)
              go_wp2_with fail
              refine hm3.out.mono ?_
              rintro e w9 ⟨A9, n9, c9, rfl, g91, g92, r9, E9, f9⟩
              go_wp2_with fail
              go_meet
              refine ⟨A9, n9, c9, rfl, ?_⟩
              unfold frameL
              rw [if_neg hj2]
              exact h8.out.fresh E9 r9 f9
          case rest =>
          clear h7' r7 r8 E8 f8
          obtain ⟨A9, n9, c9, rfl, h9x⟩ := hcut
          have h9 := Lib.hid h9x
          clear h9x
          have w20 : IntKind.i64.wrap (100 * (k : Int) + 1 - 1) = 100 * (k : Int) := by rw [IntKind.wrap_i64]; omega
          have w21 : 100 * (k : Int) + 1 - 1 = 100 * (k : Int) := by omega
          obtain ⟨t1, t2, t3⟩ := s2 (by first | rfl | trivial)
          obtain ⟨d0, d1, d2⟩ := due_none hj t2 (100 * (k : Int))
          obtain ⟨k0, k1, k2⟩ := due_none hj d1 (100 * (k : Int) + 1)
          have hst9 : Hid (StA (dueF (dueF F5 (j : Int) (100 * (k : Int))) (j : Int) (100 * (k : Int) + 1)) j L7) := Lib.hid ⟨by rw [k2, d2]; exact t1, k1, hL7.out⟩
          have hok9 := Lib.hid ((hok5.out.due (j : Int) (100 * (k : Int))).due (j : Int) (100 * (k : Int) + 1))
          have d0' := Lib.hid d0
          have k0' := Lib.hid k0
          clear t1 t2 d0 d1 d2 k0 k1 k2 s1 s2 s3
          go_wp2_with fail
          refine (dueFB h9.out hok5.out (by omega) (j : Int) (100 * (k : Int))).mono ?_
          rintro e w11 ⟨v11, T11, b11, rfl, h11, o11⟩
          rw [d0'.out] at o11
          obtain ⟨Ae, ce, rfl, _, _⟩ := o11.shape
          have h11' := Lib.hid h11
          clear h11 o11 h9 d0'
          go_wp2_with fail
          refine (dueFB h11'.out (hok5.out.due (j : Int) (100 * (k : Int))) (by omega) (j : Int) (100 * (k : Int) + 1)).mono ?_
          rintro e w12 ⟨v12, T12, b12, rfl, h12, o12⟩
          rw [k0'.out] at o12
          have h12' := Lib.hid h12
          clear h12 h11' k0'
          obtain ⟨Ag, cg, rfl, _, _⟩ := o12.shape
          clear o12
          go_wp2_with fail
          go_roundw
          case rel => exact ⟨k + 1, _, _, _, _, _, by omega, by simp, h12'.out, hok9.out, hst9.out⟩
          case measure => simp [intOf]; omega
        · as_aux_lemma =>
          have hfo : faultOk F (j : Int) 3 6 = true := hst'.out.faultOk hj (by omega) (by omega)
          go_wp2_with fail
          refine (faultFB hB'.out (j : Int) 3 6).mono ?_
          rintro e w3 ⟨rfl, h3⟩
          rw [hfo]
          have h3' : Hid (FB w0 w3 base f r dev (faultA F j 3) L A m xs) := Lib.hid (by unfold faultA; rw [if_pos (by omega)]; exact h3)
          clear h3 hfo
          have hok3 : Hid (FOk (faultA F j 3) k) := Lib.hid (by unfold faultA; split; exact hok'.out.fault _ _ _; exact hok'.out)
          have R3 := Lib.hid (hread.out w3 h3'.out.world)
          obtain ⟨c0, c1, c2, c3, c4, hrd3⟩ := R3.out
          have hfr := Lib.hid (framed_any j (k : Int) (1 + (um : Int)) fc ad qt tw (c := pc) (by omega) (by omega) hrd3 hxr.out (Nat.le_trans hmc.1 hmc.2))
          clear hrd3 R3
          go_wp2_with fail
          refine hfr.out.mono ?_
          rintro e w4 ⟨A4, n4, c4', rfl, g1, g2, r4, E4, f4⟩
          have l4 := r4.len
          have ln4 := frameL_len j (k : Int) (1 + (um : Int)) (putL fc ad qt tw ys)
          have h4 := Lib.hid (h3'.out.fresh E4 r4 f4)
          clear r4 E4 f4 hfr c0 c1 c2 c3 c4
          go_wp2_with fail
          refine (askFB h4.out hok3.out (by omega) (frame_bytes (k : Int) (by omega) (by omega) (putL_bytes fc ad qt tw ys)) g1 g2 (by omega) (j : Int) (100 * (k : Int))).mono ?_
          rintro e w5 ⟨rfl, h5⟩
          obtain ⟨s1, s2, s3⟩ := asked_core (u := 1 + (um : Int)) (id := (k : Int)) (now := 100 * (k : Int)) (K := 3) hj hst'.out (by omega) (by omega) (by omega) (by omega) hrt.out hxr.out
          have h5' : Hid (FB w0 w5 base f r dev (askedA F j (1 + (um : Int)) 3 (k : Int) fc ad qt tw (100 * (k : Int)) ys) L A4 n4 (frameL j (k : Int) (1 + (um : Int)) (putL fc ad qt tw ys))) := Lib.hid (by unfold askedA; rw [hdev'.out]; exact h5)
          have hok5 : Hid (FOk (askedA F j (1 + (um : Int)) 3 (k : Int) fc ad qt tw (100 * (k : Int)) ys) (k + 1)) := Lib.hid (by unfold askedA; exact hok3.out.ask _ _ _ _)
          generalize askedA F j (1 + (um : Int)) 3 (k : Int) fc ad qt tw (100 * (k : Int)) ys = F5 at *
          clear h5 h4 h3' hok3 l4 ln4
          obtain ⟨sy, sl⟩ := serve_put hrt.out hxr.out L
          have al1 := answer_len hst'.out.2.2 hrt.out
          have R5 := Lib.hid (hread.out w5 h5'.out.world)
          obtain ⟨c0, c1, c2, c3, c4, hrd5⟩ := R5.out
          have hpt := Lib.hid (refPut_any fc ad qt tw pa pm pc ys w5 hrd5 hxr.out (Nat.le_trans hmc.1 hmc.2))
          have hpl : (putL fc ad qt tw ys).length ≤ 253 := (put_length fc ad qt tw ys).2
          have hpb := Lib.hid (putL_bytes fc ad qt tw ys)
          clear hrd5 R5
          go_wp2_with fail
          refine hpt.out.mono ?_
          rintro e w6 ⟨A6, n6, c6', rfl, g61, g62, r6, E6⟩
          have l6 := r6.len
          have hsv := Lib.hid (serveFB (h5'.out.ext E6) hbr r6 hpb.out (by omega) g61 g62)
          clear hpt c0 c1 c2 c3 c4 r6 E6 l6
          go_wp2_with fail
          refine hsv.out.mono ?_
          rintro e w7 ⟨A7, n7, c7, rfl, g71, g72, r7, h7⟩
          rw [sy] at r7
          rw [sl] at h7
          have h7' := Lib.hid h7
          have hwb := Lib.hid (rputL_bytes fc ad qt tw ys (doC L fc ad qt tw ys) (doY L fc ad qt tw ys))
          clear h7 hsv sy sl h5'
          generalize hwant : rputL fc ad qt tw ys (doC L fc ad qt tw ys) (doY L fc ad qt tw ys) = want at *
          have hfl := frame_len (j := j) (id := (k : Int)) (u := 1 + (um : Int)) al1.1 al1.2
          have hfb := Lib.hid (frame_bytes (j := j) (k : Int) (u := 1 + (um : Int)) (by omega) (by omega) hwb.out)
          have hL7 := Lib.hid (bits_do hst'.out.2.2 fc ad qt tw ys)
          generalize doL L fc ad qt tw ys = L7 at *
          clear hwant
          have hu2 := Lib.hid (ref02Put_any (1 + (um : Int)) A7 n7 c7 want w7 (by omega) (by omega) r7 hwb.out (Nat.le_trans g71 g72))
          go_wp2_with fail
          refine hu2.out.mono ?_
          rintro e w8 ⟨A8, n8, c8, rfl, g81, g82, r8, E8, f8⟩
          clear hu2
          go_upto_if 162 with fail
          go_cut [22] (fun t wx => ∃ A9 n9 c9, t = .slice A9 n9 c9 ∧ FB w0 wx base f r dev F5 L7 A9 n9 (frameL j (k : Int) (1 + (um : Int)) want))
          case first =>
            by_cases hj2 : j < 2
            · have dj : decide ((2 : Int) ≤ (j : Int)) = false := by simp; omega
              go_wp2_with fail
              go_meet
              refine ⟨A8, n8, c8, rfl, ?_⟩
              unfold frameL
              rw [if_pos hj2]
              exact h7'.out.fresh E8 r8 f8
            · have dj : decide ((2 : Int) ≤ (j : Int)) = true := by simp; omega
              have hm3 := Lib.hid (ref03Put_any (k : Int) (1 + (um : Int)) A7 n7 c7 want w8 (by omega) (by omega) (r7.ext E8) (Nat.le_trans g71 g72))
              have h8 := Lib.hid (h7'.out.ext E8)
              go_wp2_with fail
              refine hm3.out.mono ?_
              rintro e w9 ⟨A9, n9, c9, rfl, g91, g92, r9, E9, f9⟩
              go_wp2_with fail
              go_meet
              refine ⟨A9, n9, c9, rfl, ?_⟩
              unfold frameL
              rw [if_neg hj2]
              exact h8.out.fresh E9 r9 f9
          case rest =>
          clear h7' r7 r8 E8 f8
          obtain ⟨A9, n9, c9, rfl, h9x⟩ := hcut
          have h9 := Lib.hid h9x
          clear h9x
          have w20 : IntKind.i64.wrap (100 * (k : Int) + 1 - 1) = 100 * (k : Int) := by rw [IntKind.wrap_i64]; omega
          have w21 : 100 * (k : Int) + 1 - 1 = 100 * (k : Int) := by omega
          obtain ⟨t1, t2⟩ := s3 (by omega) (by omega)
          first | rw [if_neg (by omega), if_pos rfl] at t2 | rw [if_neg (by omega), if_pos trivial] at t2
          obtain ⟨d0, d1, d2⟩ := due_early hj t2 (now := 100 * (k : Int)) (by omega)
          obtain ⟨k0, k1, k2⟩ := due_got hj d1
          have hst9 : Hid (StA (dueF (dueF F5 (j : Int) (100 * (k : Int))) (j : Int) (100 * (k : Int) + 1)) j L7) := Lib.hid ⟨by rw [k2, d2]; exact t1, k1, hL7.out⟩
          have hok9 := Lib.hid ((hok5.out.due (j : Int) (100 * (k : Int))).due (j : Int) (100 * (k : Int) + 1))
          have d0' := Lib.hid d0
          have k0' := Lib.hid k0
          clear t1 t2 d0 d1 d2 k0 k1 k2 s1 s2 s3
          go_wp2_with fail
          refine (dueFB h9.out hok5.out (by omega) (j : Int) (100 * (k : Int))).mono ?_
          rintro e w11 ⟨v11, T11, b11, rfl, h11, o11⟩
          rw [d0'.out] at o11
          obtain ⟨Ae, ce, rfl, _, _⟩ := o11.shape
          have h11' := Lib.hid h11
          clear h11 o11 h9 d0'
          go_wp2_with fail
          refine (dueFB h11'.out (hok5.out.due (j : Int) (100 * (k : Int))) (by omega) (j : Int) (100 * (k : Int) + 1)).mono ?_
          rintro e w12 ⟨v12, T12, b12, rfl, h12, o12⟩
          rw [k0'.out] at o12
          have h12' := Lib.hid h12
          clear h12 h11' k0'
          obtain ⟨bg, cg, Ag, ng, cg', hvg, kg, _, _, rg⟩ := o12.at_ (k := 0) (by simp)
          simp only [List.length_singleton] at hvg
          obtain rfl := hvg
          simp only [List.getElem_cons_zero] at rg
          have rx := h12'.out.rd
          have lx := rx.len
          have lg := rg.len
          obtain ⟨sp1, sp2⟩ := spoil_ne (j := j) hfb.out hfl.1
          have hne := sp1
          have hll : ng = n9 := by rw [← lx, ← lg, sp2]
          have hcvt : ∀ W (A : Option Addr) (n c : Nat) (l : List Int), RdI W W.heap.size .u8 A n l → (Go.convert 34 9 (.slice A n c)).run Try.prog W = .ok (.string (strOfNums l)) W := fun W A n c l r => r.convert Try.underlying34 Try.underlying5 Try.underlying9 c
          have CG : ∀ W, Ext w12 W → (Go.convert 34 9 (.slice Ag ng cg')).run Try.prog W = .ok (.string (strOfNums (spoilL j (frameL j (k : Int) (1 + (um : Int)) want)))) W := fun W E => hcvt W Ag ng cg' _ (rg.ext E)
          have CX : ∀ W, Ext w12 W → (Go.convert 34 9 (.slice A9 n9 c9)).run Try.prog W = .ok (.string (strOfNums (frameL j (k : Int) (1 + (um : Int)) want))) W := fun W E => hcvt W A9 n9 c9 _ (rx.ext E)
          have KG := fun W (E : Ext w12 W) => (E.cell _ (cell_lt kg)).trans kg
          subst hll
          clear hcvt rg rx kg o12 lx lg
          generalize frameL j (k : Int) (1 + (um : Int)) want = fx at *
          go_wp2_with fail
          refine wp_region_held_drew (S := fun W' => Ext w12 W') (by kernel_rfl) ((Ext.refl w12).god) (fun hHeld => ?_)
          refine tk 0 ?_
          try simp only [Act.put, gA, gC, List.setIfInBounds_toArray, gE, gF]
          refine tk 1 ?_
          try simp only [Act.put, gA, gB, gC, List.setIfInBounds_toArray, gE, gF]
          refine tk 2 ?_
          try simp only [Act.put, gA, gB, gC, List.setIfInBounds_toArray, gE, gF]
          refine tk 3 ?_
          try simp only [Act.put, gA, gB, gC, List.setIfInBounds_toArray, gE, gF]
          refine tk 4 ?_
          try simp only [Act.put, gA, gB, gC, List.setIfInBounds_toArray, gE, gF]
          refine tk 5 ?_
          try simp only [Act.put, gA, gB, gC, List.setIfInBounds_toArray, gE, gF]
          refine tk 6 ?_
          try simp only [Act.put, gA, gB, gC, List.setIfInBounds_toArray, gE, gF]
          refine tk 7 ?_
          try simp only [Act.put, gA, gB, gC, List.setIfInBounds_toArray, gE, gF]
          refine tk 8 ?_
          try simp only [Act.put, gA, gB, gC, List.setIfInBounds_toArray, gE, gF]
          refine tk 9 ?_
          try simp only [Act.put, gA, gB, gC, List.setIfInBounds_toArray, gE, gF]
          refine tk 10 ?_
          try simp only [Act.put, gA, gB, gC, List.setIfInBounds_toArray, gE, gF]
          refine tk 11 ?_
          try simp only [Act.put, gA, gB, gC, List.setIfInBounds_toArray, gE, gF]
          refine tk 12 ?_
          try simp only [Act.put, gA, gB, gC, List.setIfInBounds_toArray, gE, gF]
          refine tk 13 ?_
          try simp only [Act.put, gA, gB, gC, List.setIfInBounds_toArray, gE, gF]
          refine tk 14 ?_
          try simp only [Act.put, gA, gB, gC, List.setIfInBounds_toArray, gE, gF]
          refine tk 15 ?_
          try simp only [Act.put, gA, gB, gC, List.setIfInBounds_toArray, gE, gF]
          refine tk 16 ?_
          try simp only [Act.put, gA, gB, gC, List.setIfInBounds_toArray, gE, gF]
          refine tk 17 ?_
          try simp only [Act.put, gA, gB, gC, List.setIfInBounds_toArray, gE, gF]
          refine tk 18 ?_
          try simp only [Act.put, gA, gB, gC, List.setIfInBounds_toArray, gE, gF]
          refine tk 19 ?_
          try simp only [Act.put, gA, gB, gC, List.setIfInBounds_toArray, gE, gF]
          refine tk 20 ?_
          try simp only [Act.put, gA, gB, gC, List.setIfInBounds_toArray, gE, gF]
          refine tk 21 ?_
          try simp only [Act.put, gA, gB, gC, List.setIfInBounds_toArray, gE, gF]
          refine tk 22 ?_
          try simp only [Act.put, gA, gB, gC, List.setIfInBounds_toArray, gE, gF]
          refine tk 23 ?_
          try simp only [Act.put, gA, gB, gC, List.setIfInBounds_toArray, gE, gF]
          refine wpAnyH_done (by kernel_rfl) ?_ _
          have h13 := Lib.hid (h12'.out.ext hHeld)
          clear CG CX KG hHeld h12'
          go_wp2_with fail
          go_roundw
          case rel => exact ⟨k + 1, _, _, _, _, _, by omega, by simp, h13.out, hok9.out, hst9.out⟩
          case measure => simp [intOf]; omega
        · as_aux_lemma =>
          have hfo : faultOk F (j : Int) 4 6 = true := hst'.out.faultOk hj (by omega) (by omega)
          go_wp2_with fail
          refine (faultFB hB'.out (j : Int) 4 6).mono ?_
          rintro e w3 ⟨rfl, h3⟩
          rw [hfo]
          have h3' : Hid (FB w0 w3 base f r dev (faultA F j 4) L A m xs) := Lib.hid (by unfold faultA; rw [if_pos (by omega)]; exact h3)
          clear h3 hfo
          have hok3 : Hid (FOk (faultA F j 4) k) := Lib.hid (by unfold faultA; split; exact hok'.out.fault _ _ _; exact hok'.out)
          have R3 := Lib.hid (hread.out w3 h3'.out.world)
          obtain ⟨c0, c1, c2, c3, c4, hrd3⟩ := R3.out
          have hfr := Lib.hid (framed_any j (k : Int) (1 + (um : Int)) fc ad qt tw (c := pc) (by omega) (by omega) hrd3 hxr.out (Nat.le_trans hmc.1 hmc.2))
          clear hrd3 R3
          go_wp2_with fail
          refine hfr.out.mono ?_
          rintro e w4 ⟨A4, n4, c4', rfl, g1, g2, r4, E4, f4⟩
          have l4 := r4.len
          have ln4 := frameL_len j (k : Int) (1 + (um : Int)) (putL fc ad qt tw ys)
          have h4 := Lib.hid (h3'.out.fresh E4 r4 f4)
          clear r4 E4 f4 hfr c0 c1 c2 c3 c4
          go_wp2_with fail
          refine (askFB h4.out hok3.out (by omega) (frame_bytes (k : Int) (by omega) (by omega) (putL_bytes fc ad qt tw ys)) g1 g2 (by omega) (j : Int) (100 * (k : Int))).mono ?_
          rintro e w5 ⟨rfl, h5⟩
          obtain ⟨s1, s2, s3⟩ := asked_core (u := 1 + (um : Int)) (id := (k : Int)) (now := 100 * (k : Int)) (K := 4) hj hst'.out (by omega) (by omega) (by omega) (by omega) hrt.out hxr.out
          have h5' : Hid (FB w0 w5 base f r dev (askedA F j (1 + (um : Int)) 4 (k : Int) fc ad qt tw (100 * (k : Int)) ys) L A4 n4 (frameL j (k : Int) (1 + (um : Int)) (putL fc ad qt tw ys))) := Lib.hid (by unfold askedA; rw [hdev'.out]; exact h5)
          have hok5 : Hid (FOk (askedA F j (1 + (um : Int)) 4 (k : Int) fc ad qt tw (100 * (k : Int)) ys) (k + 1)) := Lib.hid (by unfold askedA; exact hok3.out.ask _ _ _ _)
          generalize askedA F j (1 + (um : Int)) 4 (k : Int) fc ad qt tw (100 * (k : Int)) ys = F5 at *
          clear h5 h4 h3' hok3 l4 ln4
          obtain ⟨sy, sl⟩ := serve_put hrt.out hxr.out L
          have al1 := answer_len hst'.out.2.2 hrt.out
          have R5 := Lib.hid (hread.out w5 h5'.out.world)
          obtain ⟨c0, c1, c2, c3, c4, hrd5⟩ := R5.out
          have hpt := Lib.hid (refPut_any fc ad qt tw pa pm pc ys w5 hrd5 hxr.out (Nat.le_trans hmc.1 hmc.2))
          have hpl : (putL fc ad qt tw ys).length ≤ 253 := (put_length fc ad qt tw ys).2
          have hpb := Lib.hid (putL_bytes fc ad qt tw ys)
          clear hrd5 R5
          go_wp2_with fail
          refine hpt.out.mono ?_
          rintro e w6 ⟨A6, n6, c6', rfl, g61, g62, r6, E6⟩
          have l6 := r6.len
          have hsv := Lib.hid (serveFB (h5'.out.ext E6) hbr r6 hpb.out (by omega) g61 g62)
          clear hpt c0 c1 c2 c3 c4 r6 E6 l6
          go_wp2_with fail
          refine hsv.out.mono ?_
          rintro e w7 ⟨A7, n7, c7, rfl, g71, g72, r7, h7⟩
          rw [sy] at r7
          rw [sl] at h7
          have h7' := Lib.hid h7
          have hwb := Lib.hid (rputL_bytes fc ad qt tw ys (doC L fc ad qt tw ys) (doY L fc ad qt tw ys))
          clear h7 hsv sy sl h5'
          generalize hwant : rputL fc ad qt tw ys (doC L fc ad qt tw ys) (doY L fc ad qt tw ys) = want at *
          have hfl := frame_len (j := j) (id := (k : Int)) (u := 1 + (um : Int)) al1.1 al1.2
          have hfb := Lib.hid (frame_bytes (j := j) (k : Int) (u := 1 + (um : Int)) (by omega) (by omega) hwb.out)
          have hL7 := Lib.hid (bits_do hst'.out.2.2 fc ad qt tw ys)
          generalize doL L fc ad qt tw ys = L7 at *
          clear hwant
          have hu2 := Lib.hid (ref02Put_any (1 + (um : Int)) A7 n7 c7 want w7 (by omega) (by omega) r7 hwb.out (Nat.le_trans g71 g72))
          go_wp2_with fail
          refine hu2.out.mono ?_
          rintro e w8 ⟨A8, n8, c8, rfl, g81, g82, r8, E8, f8⟩
          clear hu2
          go_upto_if 162 with fail
          go_cut [22] (fun t wx => ∃ A9 n9 c9, t = .slice A9 n9 c9 ∧ FB w0 wx base f r dev F5 L7 A9 n9 (frameL j (k : Int) (1 + (um : Int)) want))
          case first =>
            by_cases hj2 : j < 2
            · have dj : decide ((2 : Int) ≤ (j : Int)) = false := by simp; omega
              go_wp2_with fail
              go_meet
              refine ⟨A8, n8, c8, rfl, ?_⟩
              unfold frameL
              rw [if_pos hj2]
              exact h7'.out.fresh E8 r8 f8
            · have dj : decide ((2 : Int) ≤ (j : Int)) = true := by simp; omega
              have hm3 := Lib.hid (ref03Put_any (k : Int) (1 + (um : Int)) A7 n7 c7 want w8 (by omega) (by omega) (r7.ext E8) (Nat.le_trans g71 g72))
              have h8 := Lib.hid (h7'.out.ext E8)
              go_wp2_with fail
              refine hm3.out.mono ?_
              rintro e w9 ⟨A9, n9, c9, rfl, g91, g92, r9, E9, f9⟩
              go_wp2_with fail
              go_meet
              refine ⟨A9, n9, c9, rfl, ?_⟩
              unfold frameL
              rw [if_neg hj2]
              exact h8.out.fresh E9 r9 f9
          case rest =>
          clear h7' r7 r8 E8 f8
          obtain ⟨A9, n9, c9, rfl, h9x⟩ := hcut
          have h9 := Lib.hid h9x
          clear h9x
          have w20 : IntKind.i64.wrap (100 * (k : Int) + 1 + 6 - 1) = 100 * (k : Int) + 6 := by rw [IntKind.wrap_i64]; omega
          have w21 : 100 * (k : Int) + 1 + 6 - 1 = 100 * (k : Int) + 6 := by omega
          obtain ⟨t1, t2⟩ := s3 (by omega) (by omega)
          first | rw [if_pos rfl, if_neg (by omega)] at t2 | rw [if_pos trivial, if_neg (by omega)] at t2
          obtain ⟨d0, d1, d2⟩ := due_early hj t2 (now := 100 * (k : Int) + 6) (by omega)
          obtain ⟨k0, k1, k2⟩ := due_got hj d1
          have hst9 : Hid (StA (dueF (dueF F5 (j : Int) (100 * (k : Int) + 6)) (j : Int) (100 * (k : Int) + 1 + 6)) j L7) := Lib.hid ⟨by rw [k2, d2]; exact t1, k1, hL7.out⟩
          have hok9 := Lib.hid ((hok5.out.due (j : Int) (100 * (k : Int) + 6)).due (j : Int) (100 * (k : Int) + 1 + 6))
          have d0' := Lib.hid d0
          have k0' := Lib.hid k0
          clear t1 t2 d0 d1 d2 k0 k1 k2 s1 s2 s3
          go_wp2_with fail
          refine (dueFB h9.out hok5.out (by omega) (j : Int) (100 * (k : Int) + 6)).mono ?_
          rintro e w11 ⟨v11, T11, b11, rfl, h11, o11⟩
          rw [d0'.out] at o11
          obtain ⟨Ae, ce, rfl, _, _⟩ := o11.shape
          have h11' := Lib.hid h11
          clear h11 o11 h9 d0'
          go_wp2_with fail
          refine (dueFB h11'.out (hok5.out.due (j : Int) (100 * (k : Int) + 6)) (by omega) (j : Int) (100 * (k : Int) + 1 + 6)).mono ?_
          rintro e w12 ⟨v12, T12, b12, rfl, h12, o12⟩
          rw [k0'.out] at o12
          have h12' := Lib.hid h12
          clear h12 h11' k0'
          obtain ⟨bg, cg, Ag, ng, cg', hvg, kg, _, _, rg⟩ := o12.at_ (k := 0) (by simp)
          simp only [List.length_singleton] at hvg
          obtain rfl := hvg
          simp only [List.getElem_cons_zero] at rg
          have rx := h12'.out.rd
          have lx := rx.len
          have lg := rg.len
          have hll : ng = n9 := by rw [← lx, ← lg]
          have hcvt : ∀ W (A : Option Addr) (n c : Nat) (l : List Int), RdI W W.heap.size .u8 A n l → (Go.convert 34 9 (.slice A n c)).run Try.prog W = .ok (.string (strOfNums l)) W := fun W A n c l r => r.convert Try.underlying34 Try.underlying5 Try.underlying9 c
          have CG : ∀ W, Ext w12 W → (Go.convert 34 9 (.slice Ag ng cg')).run Try.prog W = .ok (.string (strOfNums (frameL j (k : Int) (1 + (um : Int)) want))) W := fun W E => hcvt W Ag ng cg' _ (rg.ext E)
          have CX : ∀ W, Ext w12 W → (Go.convert 34 9 (.slice A9 n9 c9)).run Try.prog W = .ok (.string (strOfNums (frameL j (k : Int) (1 + (um : Int)) want))) W := fun W E => hcvt W A9 n9 c9 _ (rx.ext E)
          have KG := fun W (E : Ext w12 W) => (E.cell _ (cell_lt kg)).trans kg
          subst hll
          clear hcvt rg rx kg o12 lx lg
          generalize frameL j (k : Int) (1 + (um : Int)) want = fx at *
          go_wp2_with fail
          refine wp_region_held_drew (S := fun W' => Ext w12 W') (by kernel_rfl) ((Ext.refl w12).god) (fun hHeld => ?_)
          refine tk 0 ?_
          try simp only [Act.put, gA, gC, List.setIfInBounds_toArray, gE, gF]
          refine tk 1 ?_
          try simp only [Act.put, gA, gB, gC, List.setIfInBounds_toArray, gE, gF]
          refine tk 2 ?_
          try simp only [Act.put, gA, gB, gC, List.setIfInBounds_toArray, gE, gF]
          refine tk 3 ?_
          try simp only [Act.put, gA, gB, gC, List.setIfInBounds_toArray, gE, gF]
          refine tk 4 ?_
          try simp only [Act.put, gA, gB, gC, List.setIfInBounds_toArray, gE, gF]
          refine tk 5 ?_
          try simp only [Act.put, gA, gB, gC, List.setIfInBounds_toArray, gE, gF]
          refine tk 6 ?_
          try simp only [Act.put, gA, gB, gC, List.setIfInBounds_toArray, gE, gF]
          refine tk 7 ?_
          try simp only [Act.put, gA, gB, gC, List.setIfInBounds_toArray, gE, gF]
          refine tk 8 ?_
          try simp only [Act.put, gA, gB, gC, List.setIfInBounds_toArray, gE, gF]
          refine tk 9 ?_
          try simp only [Act.put, gA, gB, gC, List.setIfInBounds_toArray, gE, gF]
          refine tk 10 ?_
          try simp only [Act.put, gA, gB, gC, List.setIfInBounds_toArray, gE, gF]
          refine tk 11 ?_
          try simp only [Act.put, gA, gB, gC, List.setIfInBounds_toArray, gE, gF]
          refine tk 12 ?_
          try simp only [Act.put, gA, gB, gC, List.setIfInBounds_toArray, gE, gF]
          refine tk 13 ?_
          try simp only [Act.put, gA, gB, gC, List.setIfInBounds_toArray, gE, gF]
          refine tk 14 ?_
          try simp only [Act.put, gA, gB, gC, List.setIfInBounds_toArray, gE, gF]
          refine tk 15 ?_
          try simp only [Act.put, gA, gB, gC, List.setIfInBounds_toArray, gE, gF]
          refine tk 16 ?_
          try simp only [Act.put, gA, gB, gC, List.setIfInBounds_toArray, gE, gF]
          refine tk 17 ?_
          try simp only [Act.put, gA, gB, gC, List.setIfInBounds_toArray, gE, gF]
          refine tk 18 ?_
          try simp only [Act.put, gA, gB, gC, List.setIfInBounds_toArray, gE, gF]
          refine tk 19 ?_
          try simp only [Act.put, gA, gB, gC, List.setIfInBounds_toArray, gE, gF]
          refine tk 20 ?_
          try simp only [Act.put, gA, gB, gC, List.setIfInBounds_toArray, gE, gF]
          refine tk 21 ?_
          try simp only [Act.put, gA, gB, gC, List.setIfInBounds_toArray, gE, gF]
          refine tk 22 ?_
          try simp only [Act.put, gA, gB, gC, List.setIfInBounds_toArray, gE, gF]
          refine tk 23 ?_
          try simp only [Act.put, gA, gB, gC, List.setIfInBounds_toArray, gE, gF]
          refine wpAnyH_done (by kernel_rfl) ?_ _
          have h13 := Lib.hid (h12'.out.ext hHeld)
          clear CG CX KG hHeld h12'
          go_wp2_with fail
          go_roundw
          case rel => exact ⟨k + 1, _, _, _, _, _, by omega, by simp, h13.out, hok9.out, hst9.out⟩
          case measure => simp [intOf]; omega
end
end Go.Proofs.Ytgagpalffdgjnaa
