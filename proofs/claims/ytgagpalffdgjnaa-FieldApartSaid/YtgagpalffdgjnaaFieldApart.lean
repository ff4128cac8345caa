/- Layer 24, the law FieldApart: the walk. (Printed by wip/gen/fieldapart.py.) -/
import Derived.Test.YtgagpalffdgjnaaFieldApartLaw
import Derived.Test.YtgagpalffdgjnaaFieldQ
import Derived.Test.YtgagpalffdgjnaaGreat24
namespace Go.Proofs.Ytgagpalffdgjnaa
open Go.RowKit

def ApRel (w0 : World) (f g n : Nat) (i : Value) (wr : World) : Prop := ∃ (k : Nat) (F G : Fp), k ≤ n ∧ i = .int .i64 k ∧ Two w0 wr f g dev3 F G ∧ FOk F k ∧ FOk G k ∧ Agr F G
set_option maxRecDepth 100000 in
set_option maxHeartbeats 12800000 in
theorem fieldApart_any (A : Option Addr) (n c R : Nat) (ps : List Op24) (w : World) (hx : RdOp24 w R A n ps) (hR : R ≤ 1000000000000000) (hn : n * 64 ≤ 140737488351232) :
    Calls Try.prog 7 #[.slice A n c] w fun e w' => e = .returned (.bool true) ∧ Ext w w' := by
  have hx' := Lib.hid hx
  clear hx
  go_enter Try.func7, Try.ntmps7
  go_wp2_with fail
  refine (head24_any w).mono ?_
  rintro e w1 ⟨rfl, E1⟩
  go_wp2_with fail
  have PD := heap_alloc_new w1 (.cells #[.string { data := #[] }, .int .i64 0, .int .i64 1, .string { data := #[] }, .int .i64 1, .int .i64 1, .string { data := #[] }, .int .i64 2, .int .i64 1] 65)
  have hdv : RdDv (w1.alloc (.cells #[.string { data := #[] }, .int .i64 0, .int .i64 1, .string { data := #[] }, .int .i64 1, .int .i64 1, .string { data := #[] }, .int .i64 2, .int .i64 1] 65)) (some ⟨w1.heap.size, 0, none⟩) 3 dev3 := by
    refine ⟨rfl, fun k hk => ?_⟩
    match k, hk with
    | 0, _ => exact ⟨_, _, _, rfl, by simp, cellsAt PD 0, cellsAt PD 1, cellsAt PD 2, rfl, rfl⟩
    | 1, _ => exact ⟨_, _, _, rfl, by simp, cellsAt PD 3, cellsAt PD 4, cellsAt PD 5, rfl, rfl⟩
    | 2, _ => exact ⟨_, _, _, rfl, by simp, cellsAt PD 6, cellsAt PD 7, cellsAt PD 8, rfl, rfl⟩
  have E0 : Ext w (w1.alloc (.cells #[.string { data := #[] }, .int .i64 0, .int .i64 1, .string { data := #[] }, .int .i64 1, .int .i64 1, .string { data := #[] }, .int .i64 2, .int .i64 1] 65)) := E1.goA _
  have E0' := Lib.hid E0
  clear PD E0 E1
  generalize hw0 : w1.alloc (.cells #[.string { data := #[] }, .int .i64 0, .int .i64 1, .string { data := #[] }, .int .i64 1, .int .i64 1, .string { data := #[] }, .int .i64 2, .int .i64 1] 65) = w0 at *
  clear hw0
  refine (newIs _ 3 3 dev3 _ hdv (by omega) (by omega)).mono ?_
  rintro e w2 ⟨f, T, U, rfl, h2, E2, u2⟩
  go_wp2_with fail
  refine (newIs _ 3 3 dev3 _ (hdv.ext E2) (by omega) (by omega)).mono ?_
  rintro e w3 ⟨g, S, V, rfl, h3, E3, u3⟩
  have hT3 := Lib.hid (Two.make h2 E2 u2 h3 E3 u3)
  have hx0 := Lib.hid (hx'.out.ext E0'.out)
  have hg := Lib.hid (great24_any A n c R ps w3 (hx0.out.ext (E2.go E3)) hR hn)
  clear hdv h2 E2 u2 h3 E3 u3 hx'
  go_wp2_with fail
  refine hg.out.mono ?_
  rintro e w4 ⟨x, rfl, hgr, E4⟩
  have hgr' := Lib.hid hgr
  have hT4 := Lib.hid (hT3.out.ext E4)
  clear hgr E4 hT3 hg
  cases x
  case true =>
    go_wp2_with fail
    go_ret
    exact ⟨rfl, E0'.out.go hT4.out.world⟩
  case false =>
  obtain ⟨hn3, hsm⟩ := hgr'.out rfl
  have hsm' := Lib.hid hsm
  clear hsm hgr'
  go_wp2_with fail
  go_loopw [7] (fun i wr => ApRel w0 f g n i wr) (fun i _ => n - (intOf i).toNat)
  case atStart => exact ⟨0, newF, newF, by omega, rfl, hT4.out, FOk.new, FOk.new, rfl, rfl⟩
  case round =>
    clear hT4
    obtain ⟨k, F, G, hk, rfl, hT, hof, hog, hag⟩ := hrel
    have hT' := Lib.hid hT
    have hof' := Lib.hid hof
    have hog' := Lib.hid hog
    have hag' := Lib.hid hag
    clear hT hof hog hag
    by_cases hlt : k < n
    · have e1 : decide ((k : Int) < (n : Int)) = true := by simp; omega
      obtain ⟨b, o, rfl, hb, p, hp, hpk, hc, hok⟩ := hx0.out.2 k hlt
      have hc' := fun i hi => (hT'.out.world.cell (o + k * 7 + i) hb).trans (hc i hi)
      have c0 : wr.cell? ⟨b, o + k * 7, none⟩ = some (.int .i64 p.what) := hc' 0 (by omega)
      have c1 : wr.cell? ⟨b, o + k * 7 + 1, none⟩ = some (.int .i64 p.line) := hc' 1 (by omega)
      have c2 : wr.cell? ⟨b, o + k * 7 + 2, none⟩ = some (.int .i64 p.device) := hc' 2 (by omega)
      have c3 : wr.cell? ⟨b, o + k * 7 + 3, none⟩ = some (.int .i64 p.place) := hc' 3 (by omega)
      have c4 : wr.cell? ⟨b, o + k * 7 + 4, none⟩ = some (.int .i64 p.n_) := hc' 4 (by omega)
      have c5 : wr.cell? ⟨b, o + k * 7 + 5, none⟩ = some (.int .i64 p.now) := hc' 5 (by omega)
      have c6 : wr.cell? ⟨b, o + k * 7 + 6, none⟩ = some (.slice p.a p.m p.c) := hc' 6 (by omega)
      have HA := Lib.hid (hT'.out.new #[.int .i64 p.what, .int .i64 p.line, .int .i64 p.device, .int .i64 p.place, .int .i64 p.n_, .int .i64 p.now, .slice p.a p.m p.c] 89)
      have hsz := hsm'.out p hp
      obtain ⟨hmc, hrd, hwx, -, -⟩ := hok
      have hrd' := Lib.hid hrd
      have hbx := Lib.hid (range_u8 hwx)
      clear hc hc' hp hpk hrd hwx hT'
      obtain ⟨what, line, device, place, n_, now, pa, pm, pc, xs⟩ := p
      dsimp only at *
      go_upto_region 11 with fail
      clear c0 c1 c2 c3 c4 c5 c6
      generalize wr.alloc (.cells #[.int .i64 what, .int .i64 line, .int .i64 device, .int .i64 place, .int .i64 n_, .int .i64 now, .slice pa pm pc] 89) = W at *
      generalize wr.heap.size = q at *
      have QA := HA.out.at_
      have q0 : W.cell? ⟨q, 0, none⟩ = some (.int .i64 what) := cellsAt QA 0
      have q1 : W.cell? ⟨q, 1, none⟩ = some (.int .i64 line) := cellsAt QA 1
      have q2 : W.cell? ⟨q, 2, none⟩ = some (.int .i64 device) := cellsAt QA 2
      have q3 : W.cell? ⟨q, 3, none⟩ = some (.int .i64 place) := cellsAt QA 3
      have q4 : W.cell? ⟨q, 4, none⟩ = some (.int .i64 n_) := cellsAt QA 4
      have q5 : W.cell? ⟨q, 5, none⟩ = some (.int .i64 now) := cellsAt QA 5
      have q6 : W.cell? ⟨q, 6, none⟩ = some (.slice pa pm pc) := cellsAt QA 6
      clear QA
      have hways : (what == 3) = true ∨ ((what == 3) = false ∧ (what == 4) = true) ∨ ((what == 3) = false ∧ (what == 4) = false ∧ (what == 5) = true) ∨ ((what == 3) = false ∧ (what == 4) = false ∧ (what == 5) = false) := by
        cases (what == 3) <;> cases (what == 4) <;> cases (what == 5) <;> simp
      rcases hways with g3 | ⟨g3, g4⟩ | ⟨g3, g4, g5⟩ | ⟨g3, g4, g5⟩
      · go_wp2_with fail
        refine (dueTwo HA.out hof'.out (by omega) line now).mono ?_
        rintro e W5 ⟨v, rfl, h5⟩
        have h5' := Lib.hid h5
        clear h5
        have QB := h5'.out.toQ.at_
        have r1 : W5.cell? ⟨q, 1, none⟩ = some (.int .i64 line) := cellsAt QB 1
        have r2 : W5.cell? ⟨q, 2, none⟩ = some (.int .i64 device) := cellsAt QB 2
        have r3 : W5.cell? ⟨q, 3, none⟩ = some (.int .i64 place) := cellsAt QB 3
        have r4 : W5.cell? ⟨q, 4, none⟩ = some (.int .i64 n_) := cellsAt QB 4
        have r5 : W5.cell? ⟨q, 5, none⟩ = some (.int .i64 now) := cellsAt QB 5
        have r6 : W5.cell? ⟨q, 6, none⟩ = some (.slice pa pm pc) := cellsAt QB 6
        clear QB q0 q1 q2 q3 q4 q5 q6
        by_cases hl : line = 1
        · subst hl
          have heq : dueB G 1 now = dueB F 1 now := (hag'.out.due now).2.symm
          have hag9 := Lib.hid (show Agr (dueF F 1 now) (dueF G 1 now) from (hag'.out.due now).1)
          have hof9 := Lib.hid ((hof'.out.due 1 now).more (Nat.le_add_right k 1))
          have hog9 := Lib.hid ((hog'.out.due 1 now).more (Nat.le_add_right k 1))
          go_wp2_with fail
          refine (dueTwo2 h5'.out hog'.out (by omega) 1 now).mono ?_
          rintro e W6 ⟨v2, rfl, h6, S1, b1, S2, b2, o1, o2⟩
          rw [heq] at o2
          have h6' := Lib.hid h6
          have hs := Lib.hid (same24_any o1 o2)
          clear h6 o1 o2 heq HA hof' hog' hag' h5'
          go_wp2_with fail
          refine hs.out.mono ?_
          rintro e W7 ⟨rfl, E7⟩
          have hT9 := Lib.hid (h6'.out.ext E7)
          clear hs E7 h6'
          go_wp2_with fail
          refine (waitsTwo hT9.out 1).mono ?_
          rintro e w8 ⟨rfl, rfl⟩
          go_wp2_with fail
          refine (waitsTwo hT9.out.swap 1).mono ?_
          rintro e w9 ⟨rfl, rfl⟩
          rw [hag9.out.waits]
          go_wp2_with fail
          go_roundw
          case rel => exact ⟨k + 1, _, _, by omega, by simp, hT9.out, hof9.out, hog9.out, hag9.out⟩
          case measure => simp [intOf]; omega
        · have gl : (line == 1) = false := by simpa using hl
          have hag9 := Lib.hid (hag'.out.due_far hl now)
          have hof9 := Lib.hid ((hof'.out.due line now).more (Nat.le_add_right k 1))
          have hog9 := Lib.hid (hog'.out.more (Nat.le_add_right k 1))
          have hT9 := Lib.hid h5'.out.toQ.two
          clear HA hof' hog' hag' h5' hl
          go_wp2_with fail
          refine (waitsTwo hT9.out 1).mono ?_
          rintro e w8 ⟨rfl, rfl⟩
          go_wp2_with fail
          refine (waitsTwo hT9.out.swap 1).mono ?_
          rintro e w9 ⟨rfl, rfl⟩
          rw [hag9.out.waits]
          go_wp2_with fail
          go_roundw
          case rel => exact ⟨k + 1, _, _, by omega, by simp, hT9.out, hof9.out, hog9.out, hag9.out⟩
          case measure => simp [intOf]; omega
      · go_wp2_with fail
        refine (setTwo HA.out device place n_).mono ?_
        rintro e W5 ⟨rfl, h5⟩
        have h5' := Lib.hid h5
        clear h5
        have QB := h5'.out.at_
        have r1 : W5.cell? ⟨q, 1, none⟩ = some (.int .i64 line) := cellsAt QB 1
        have r2 : W5.cell? ⟨q, 2, none⟩ = some (.int .i64 device) := cellsAt QB 2
        have r3 : W5.cell? ⟨q, 3, none⟩ = some (.int .i64 place) := cellsAt QB 3
        have r4 : W5.cell? ⟨q, 4, none⟩ = some (.int .i64 n_) := cellsAt QB 4
        have r5 : W5.cell? ⟨q, 5, none⟩ = some (.int .i64 now) := cellsAt QB 5
        have r6 : W5.cell? ⟨q, 6, none⟩ = some (.slice pa pm pc) := cellsAt QB 6
        clear QB q0 q1 q2 q3 q4 q5 q6
        by_cases hl : device = 1
        · subst hl
          have hag9 := Lib.hid (show Agr (setF dev3 F 1 place n_) (setF dev3 G 1 place n_) from hag'.out.set place n_)
          have hof9 := Lib.hid ((hof'.out.set dev3 1 place n_).more (Nat.le_add_right k 1))
          have hog9 := Lib.hid ((hog'.out.set dev3 1 place n_).more (Nat.le_add_right k 1))
          go_wp2_with fail
          refine (setTwo h5'.out.swap 1 place n_).mono ?_
          rintro e W6 ⟨rfl, h6⟩
          have hT9 := Lib.hid h6.swap.two
          clear h6 HA hof' hog' hag' h5'
          go_wp2_with fail
          refine (waitsTwo hT9.out 1).mono ?_
          rintro e w8 ⟨rfl, rfl⟩
          go_wp2_with fail
          refine (waitsTwo hT9.out.swap 1).mono ?_
          rintro e w9 ⟨rfl, rfl⟩
          rw [hag9.out.waits]
          go_wp2_with fail
          go_roundw
          case rel => exact ⟨k + 1, _, _, by omega, by simp, hT9.out, hof9.out, hog9.out, hag9.out⟩
          case measure => simp [intOf]; omega
        · have gl : (device == 1) = false := by simpa using hl
          have hag9 := Lib.hid (hag'.out.set_far hl place n_)
          have hof9 := Lib.hid ((hof'.out.set dev3 device place n_).more (Nat.le_add_right k 1))
          have hog9 := Lib.hid (hog'.out.more (Nat.le_add_right k 1))
          have hT9 := Lib.hid h5'.out.two
          clear HA hof' hog' hag' h5' hl
          go_wp2_with fail
          refine (waitsTwo hT9.out 1).mono ?_
          rintro e w8 ⟨rfl, rfl⟩
          go_wp2_with fail
          refine (waitsTwo hT9.out.swap 1).mono ?_
          rintro e w9 ⟨rfl, rfl⟩
          rw [hag9.out.waits]
          go_wp2_with fail
          go_roundw
          case rel => exact ⟨k + 1, _, _, by omega, by simp, hT9.out, hof9.out, hog9.out, hag9.out⟩
          case measure => simp [intOf]; omega
      · go_wp2_with fail
        refine (faultTwo HA.out line place n_).mono ?_
        rintro e W5 ⟨rfl, h5⟩
        have h5' := Lib.hid h5
        clear h5
        have QB := h5'.out.at_
        have r1 : W5.cell? ⟨q, 1, none⟩ = some (.int .i64 line) := cellsAt QB 1
        have r2 : W5.cell? ⟨q, 2, none⟩ = some (.int .i64 device) := cellsAt QB 2
        have r3 : W5.cell? ⟨q, 3, none⟩ = some (.int .i64 place) := cellsAt QB 3
        have r4 : W5.cell? ⟨q, 4, none⟩ = some (.int .i64 n_) := cellsAt QB 4
        have r5 : W5.cell? ⟨q, 5, none⟩ = some (.int .i64 now) := cellsAt QB 5
        have r6 : W5.cell? ⟨q, 6, none⟩ = some (.slice pa pm pc) := cellsAt QB 6
        clear QB q0 q1 q2 q3 q4 q5 q6
        by_cases hl : line = 1
        · subst hl
          have heq : faultOk F 1 place n_ = faultOk G 1 place n_ := (hag'.out.fault place n_).2
          have hag9 := Lib.hid (show Agr (faultF F 1 place n_) (faultF G 1 place n_) from (hag'.out.fault place n_).1)
          have hof9 := Lib.hid ((hof'.out.fault 1 place n_).more (Nat.le_add_right k 1))
          have hog9 := Lib.hid ((hog'.out.fault 1 place n_).more (Nat.le_add_right k 1))
          rw [heq]
          go_wp2_with fail
          refine (faultTwo h5'.out.swap 1 place n_).mono ?_
          rintro e W6 ⟨rfl, h6⟩
          have hT9 := Lib.hid h6.swap.two
          clear h6 heq HA hof' hog' hag' h5'
          go_wp2_with fail
          refine (waitsTwo hT9.out 1).mono ?_
          rintro e w8 ⟨rfl, rfl⟩
          go_wp2_with fail
          refine (waitsTwo hT9.out.swap 1).mono ?_
          rintro e w9 ⟨rfl, rfl⟩
          rw [hag9.out.waits]
          go_wp2_with fail
          go_roundw
          case rel => exact ⟨k + 1, _, _, by omega, by simp, hT9.out, hof9.out, hog9.out, hag9.out⟩
          case measure => simp [intOf]; omega
        · have gl : (line == 1) = false := by simpa using hl
          have hag9 := Lib.hid (hag'.out.fault_far hl place n_)
          have hof9 := Lib.hid ((hof'.out.fault line place n_).more (Nat.le_add_right k 1))
          have hog9 := Lib.hid (hog'.out.more (Nat.le_add_right k 1))
          have hT9 := Lib.hid h5'.out.two
          clear HA hof' hog' hag' h5' hl
          go_wp2_with fail
          refine (waitsTwo hT9.out 1).mono ?_
          rintro e w8 ⟨rfl, rfl⟩
          go_wp2_with fail
          refine (waitsTwo hT9.out.swap 1).mono ?_
          rintro e w9 ⟨rfl, rfl⟩
          rw [hag9.out.waits]
          go_wp2_with fail
          go_roundw
          case rel => exact ⟨k + 1, _, _, by omega, by simp, hT9.out, hof9.out, hog9.out, hag9.out⟩
          case measure => simp [intOf]; omega
      · go_wp2_with fail
        refine (askTwo HA.out hof'.out (by omega) hrd'.out hbx.out hmc.1 hmc.2 (by omega) line now).mono ?_
        rintro e W5 ⟨rfl, h5⟩
        have h5' := Lib.hid h5
        clear h5
        have QB := h5'.out.at_
        have r1 : W5.cell? ⟨q, 1, none⟩ = some (.int .i64 line) := cellsAt QB 1
        have r2 : W5.cell? ⟨q, 2, none⟩ = some (.int .i64 device) := cellsAt QB 2
        have r3 : W5.cell? ⟨q, 3, none⟩ = some (.int .i64 place) := cellsAt QB 3
        have r4 : W5.cell? ⟨q, 4, none⟩ = some (.int .i64 n_) := cellsAt QB 4
        have r5 : W5.cell? ⟨q, 5, none⟩ = some (.int .i64 now) := cellsAt QB 5
        have r6 : W5.cell? ⟨q, 6, none⟩ = some (.slice pa pm pc) := cellsAt QB 6
        clear QB q0 q1 q2 q3 q4 q5 q6
        by_cases hl : line = 1
        · subst hl
          have hag9 := Lib.hid (show Agr (askF dev3 F 1 xs now) (askF dev3 G 1 xs now) from hag'.out.ask xs now)
          have hof9 := Lib.hid (hof'.out.ask dev3 1 xs now)
          have hog9 := Lib.hid (hog'.out.ask dev3 1 xs now)
          go_wp2_with fail
          refine (askTwo h5'.out.swap hog'.out (by omega) hrd'.out hbx.out hmc.1 hmc.2 (by omega) 1 now).mono ?_
          rintro e W6 ⟨rfl, h6⟩
          have hT9 := Lib.hid h6.swap.two
          clear h6 HA hof' hog' hag' h5'
          go_wp2_with fail
          refine (waitsTwo hT9.out 1).mono ?_
          rintro e w8 ⟨rfl, rfl⟩
          go_wp2_with fail
          refine (waitsTwo hT9.out.swap 1).mono ?_
          rintro e w9 ⟨rfl, rfl⟩
          rw [hag9.out.waits]
          go_wp2_with fail
          go_roundw
          case rel => exact ⟨k + 1, _, _, by omega, by simp, hT9.out, hof9.out, hog9.out, hag9.out⟩
          case measure => simp [intOf]; omega
        · have gl : (line == 1) = false := by simpa using hl
          have hag9 := Lib.hid (hag'.out.ask_far hl xs now)
          have hof9 := Lib.hid (hof'.out.ask dev3 line xs now)
          have hog9 := Lib.hid (hog'.out.more (Nat.le_add_right k 1))
          have hT9 := Lib.hid h5'.out.two
          clear HA hof' hog' hag' h5' hl
          go_wp2_with fail
          refine (waitsTwo hT9.out 1).mono ?_
          rintro e w8 ⟨rfl, rfl⟩
          go_wp2_with fail
          refine (waitsTwo hT9.out.swap 1).mono ?_
          rintro e w9 ⟨rfl, rfl⟩
          rw [hag9.out.waits]
          go_wp2_with fail
          go_roundw
          case rel => exact ⟨k + 1, _, _, by omega, by simp, hT9.out, hof9.out, hog9.out, hag9.out⟩
          case measure => simp [intOf]; omega
    · have e1 : decide ((k : Int) < (n : Int)) = false := by simp; omega
      go_wp2_with fail
      go_loopw [12] (fun i W => ∃ m : Nat, m ≤ 256 ∧ i = .int .i64 m ∧ Two w0 W f g dev3 F G) (fun i _ => 256 - (intOf i).toNat)
      case atStart => exact ⟨0, by omega, rfl, hT'.out⟩
      case round =>
        clear hT'
        obtain ⟨m, hm, rfl, hT⟩ := hrel
        have hT' := Lib.hid hT
        clear hT
        by_cases hm2 : m < 256
        · have z1 : decide ((m : Int) < 256) = true := by simp; omega
          go_wp2_with fail
          refine (coilTwo hT'.out 1 (m : Int)).mono ?_
          rintro e w8 ⟨rfl, rfl⟩
          go_wp2_with fail
          refine (coilTwo hT'.out.swap 1 (m : Int)).mono ?_
          rintro e w9 ⟨rfl, rfl⟩
          rw [hag'.out.coil]
          go_wp2_with fail
          go_roundw
          case rel => exact ⟨m + 1, by omega, by simp, hT'.out⟩
          case measure => simp [intOf]; omega
        · have z1 : decide ((m : Int) < 256) = false := by simp; omega
          go_wp2_with fail
          go_ret
          exact ⟨rfl, E0'.out.go hT'.out.world⟩
end Go.Proofs.Ytgagpalffdgjnaa
