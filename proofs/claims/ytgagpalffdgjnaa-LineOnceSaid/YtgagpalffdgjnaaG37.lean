/- Layer 21, the walks: Hear of a line that is a stream. · Layer 21: what of a line stays, and what rises, from call to call. -/
import Derived.Test.YtgagpalffdgjnaaLineI
import Derived.Test.YtgagpalffdgjnaaG33
namespace Go.Proofs.Ytgagpalffdgjnaa
open Go.RowKit

/-- Something was heard; what is kept has turned. -/
def HearStr (a q cu co s : Nat) (re wa : Int) (L : Lp) (N : Nat) (w : World) (e : Ending) (w' : World) : Prop :=
  ∃ d xa cm, e = .returned d ∧ DonesAt w' w.heap.size d (hearF { L with cm := cm } xa).2 ∧ Mod (LnB true a q cu co s) w w' ∧ ∃ M', M'.p = (hearF { L with cm := cm } xa).1 ∧ HasLn true w' a q cu co s re wa M' ∧ cm.length ≤ N
/-- What a stream keeps has turned. -/
theorem HasLn.heard {w w' : World} {a q cu co s n c : Nat} {re wa : Int} {M : Lm} {A : Option Addr} {cm : List Int} (h : HasLn true w a q cu co s re wa M) (m : Mod (fun i => i = s) w w') (hs : w'.heap[s]? = some (.cells #[.int .u16 M.num, .slice A n c] 108 (0, 0)))
    (hr : RdI w' w'.heap.size .u8 A n cm) (hb : ByteL cm) (h1 : n ≤ c) (h2 : c ≤ maxLen) (hf : ∀ b o, A = some ⟨b, o, none⟩ → w.heap.size ≤ b) : HasLn true w' a q cu co s re wa { M with cm := cm } := by
  obtain ⟨_, _, _, ha⟩ := h.apart
  obtain ⟨a1, a2, a3, a4⟩ := ha rfl
  have mw : Mod (LnB true a q cu co s) w w' := m.weak (fun i hi => .inr (.inr (.inr (.inr ⟨rfl, hi⟩))))
  exact ⟨(m.block a (h.lt (.inl rfl)) a1).trans h.head, h.qu.mod m (fun b hb => by rcases hb with rfl | rfl | rfl <;> assumption), fun j hj => ⟨(h.jobs j hj).1.modS mw, (h.jobs j hj).2⟩, fun _ => ⟨A, n, c, hs, hr, hb, h1, h2, fun _ b o e hS => by have := hf b o e; have := h.lt hS; omega⟩, h.num, h.re, h.wa, h.ul, h.ol, h.ti, h.se⟩
section
variable (a q cu co s : Nat) (re wa : Int) (M : Lm) (A : Option Addr) (n c : Nat) (l : List Int) (w : World)
set_option maxRecDepth 100000 in
set_option maxHeartbeats 6400000 in
theorem lineHear_str (h : HasLn true w a q cu co s re wa M) (hcm1 : M.cm.length + n ≤ 1000000) (hx : RdI w w.heap.size .u8 A n l) (hl : ByteL l) :
    Calls Try.prog 17 #[.pointer (some ⟨a, 0, none⟩), .slice A n c] w (HearStr a q cu co s re wa M.p (M.cm.length + n) w) := by
  have h' := Lib.hid h
  have c0 : w.cell? ⟨a, 0, none⟩ = some (.iface 106 (.pointer (some ⟨s, 0, none⟩))) := h.cells.1
  obtain ⟨cA, cn, cc, hsb, hcr, hcb, _, _, _⟩ := h.tr rfl
  have hc := strListen_any s M.num A cA n c cn cc l M.cm w hsb hcr hcb hx hl (by have := hcr.len; omega)
  have hcl := Lib.hid hcr.len
  clear hsb hcr hcb
  clear h hx hl
  go_enter Try.func17, Try.ntmps17
  go_wp2_with (go_invoke; go_simp; go_at_call 152; refine hc.mono ?_; rintro _ w1 ⟨A1, n1, c1, ms, cA1, cn1, cc1, cm1, rfl, R1, M1, hsb1, hcr1, hcb1, hcn1, hcc1, hof1, hlen1, hmsN⟩; dsimp only)
  have hlen1' := Lib.hid hlen1
  have h1 := Lib.hid (h'.out.heard M1 hsb1 hcr1 hcb1 hcn1 hcc1 hof1)
  have mL := Lib.hid (M1.weak (S' := LnB true a q cu co s) (fun i hi => .inr (.inr (.inr (.inr ⟨rfl, hi⟩)))))
  clear M1 hsb1 hcr1 hcb1 hcn1 hcc1 hof1 hlen1
  have hnum := h'.out.num
  generalize hM1 : ({ M with cm := cm1 } : Lm) = N1 at h1
  have hM1' := Lib.hid hM1
  clear hM1
  obtain ⟨xa, hms⟩ : ∃ xa, ms.map Am.p = xa := ⟨_, rfl⟩
  have R1' := Lib.hid R1
  have hmn := R1.len
  have hml : ms.length = xa.length := by rw [← hms, List.length_map]
  have hms' := Lib.hid hms
  have hxl : xa.length ≤ 1000000 := by have := hcl.out; rw [← hml]; omega
  clear hmsN
  clear R1 hms hc c0 hnum
  go_loopw [5, 17] (fun u i wr => HearRel true a q cu co s re wa N1.p xa w.heap.size w1 u i wr) (fun _ i _ => n1 - (intOf i).toNat)
  case atStart => exact ⟨0, by omega, rfl, N1, rfl, h1.out, DonesAt.nil _ _, fun _ => ⟨rfl, rfl⟩, Mod.refl _ _⟩
  case round =>
    obtain ⟨j, hj, rfl, N, hN, hH, hD, hB, m1⟩ := hrel
    have hH' := Lib.hid hH
    have hD' := Lib.hid hD
    have m1' := Lib.hid m1
    clear hH hD m1
    by_cases hjn : j < n1
    · have t1 : decide ((j : Int) < (n1 : Int)) = true := by simp; exact hjn
      have t1' : decide (j < n1) = true := by simp; exact hjn
      have Rr := R1'.out.modS m1'.out (fun i hi => h'.out.lt hi)
      obtain ⟨b, o, rfl, hb0, hb1, hrow⟩ := Rr.row (by omega)
      have hjm : j < ms.length := by omega
      obtain ⟨e0, e1⟩ := hrow j hjm
      have hx := Rr.each _ (List.getElem_mem hjm)
      have hstep := Lib.hid (hearF_take N1.p xa j (by omega))
      have hxe : xa[j]'(by omega) = (ms[j].u, ms[j].l) := by
        have := hms'.out
        simp only [← this, List.getElem_map]
        rfl
      rw [hxe] at hstep
      generalize ms[j] = x at *
      have hx' := Lib.hid hx
      clear hx hrow Rr hxe
      have hsame := Lib.hid (hear_same hN hstep.out)
      have hmore := Lib.hid (hear_more hN hstep.out)
      clear hstep
      go_upto_region 5 with fail
      have E2 : Ext wr (wr.alloc (.cells #[.int .u8 x.u, .slice x.A x.n x.c] 116)) := (Ext.refl wr).goA _
      have b2 := heap_alloc_new wr (.cells #[.int .u8 x.u, .slice x.A x.n x.c] 116)
      generalize wr.alloc (.cells #[.int .u8 x.u, .slice x.A x.n x.c] 116) = w2 at *
      have H2 := Lib.hid (hH'.out.ext E2)
      have D2 := Lib.hid (hD'.out.ext E2)
      have m2 := Lib.hid (m1'.out.trans (E2.mod _))
      have k0 : w2.cell? ⟨wr.heap.size, 0, none⟩ = some (.int .u8 x.u) := cellsAt b2 0
      have k1 : w2.cell? ⟨wr.heap.size, 1, none⟩ = some (.slice x.A x.n x.c) := cellsAt b2 1
      have hu := hx'.out.1
      have hwx : IntKind.i64.wrap x.u = x.u := by rw [IntKind.wrap_i64]; omega
      obtain ⟨_, _, _, _, q4, _, q6, q7, q8, q9, q10, q11, _, _, _⟩ := H2.out.cells
      cases hbs : N.busy
      · rw [hbs] at q4
        have hnx := Lib.hid (hsame.out (fun h => Bool.noConfusion (hbs.symm.trans h)))
        clear hsame hmore e0 e1 q6 q7 q8 q9 q10 q11
        go_region
        all_goals
          have E3 : Ext w2 w2.drew := (Ext.refl w2).god
          generalize w2.drew = w3 at *
          go_wp2_with fail
          go_roundw
          case rel => exact ⟨j + 1, by omega, by go_num, N, by rw [hnx.out], H2.out.ext E3, by rw [hnx.out]; exact D2.out.ext E3, fun h => Bool.noConfusion (hbs.symm.trans h), m2.out.trans (E3.mod _)⟩
          case measure => simp [intOf]; omega
      · rw [hbs] at q4
        by_cases hun : x.u = N.J.p.un
        · have hne : (x.u != N.J.p.un) = false := by rw [hun]; simp
          obtain ⟨hds, hu5⟩ := hB hbs
          have hds' := Lib.hid hds
          subst hu5
          clear e0 e1 hB hds
          go_upto_region 5 with fail
          go_region
          all_goals
            go_upto_region 6 with fail
            have E3 : Ext w2 w2.drew := (Ext.refl w2).god
            generalize w2.drew = w3 at *
            have H3 := Lib.hid (H2.out.ext E3)
            have hJ := Lib.hid (H3.out.jobs N.J (.inr (.inr ⟨hbs, rfl⟩)))
            have q7' : ∀ w', Ext w3 w' → w'.cell? ⟨a, 7, none⟩ = some (.int .i64 N.J.p.fc) := fun w' E => (H3.out.ext E).cells.2.2.2.2.2.2.2.1
            have q8' : ∀ w', Ext w3 w' → w'.cell? ⟨a, 8, none⟩ = some (.int .i64 N.J.p.ad) := fun w' E => (H3.out.ext E).cells.2.2.2.2.2.2.2.2.1
            have q9' : ∀ w', Ext w3 w' → w'.cell? ⟨a, 9, none⟩ = some (.int .i64 N.J.p.qt) := fun w' E => (H3.out.ext E).cells.2.2.2.2.2.2.2.2.2.1
            have q10' : ∀ w', Ext w3 w' → w'.cell? ⟨a, 10, none⟩ = some (.slice N.J.A N.J.n N.J.c) := fun w' E => (H3.out.ext E).cells.2.2.2.2.2.2.2.2.2.2.1
            have q11' : ∀ w', Ext w3 w' → w'.cell? ⟨a, 11, none⟩ = some (.int .i64 N.J.p.to) := fun w' E => (H3.out.ext E).cells.2.2.2.2.2.2.2.2.2.2.2.1
            have klt : wr.heap.size < w2.heap.size := lt_of_block b2
            have k1' : ∀ w', Ext w3 w' → w'.cell? ⟨wr.heap.size, 1, none⟩ = some (.slice x.A x.n x.c) := fun w' E => ((E3.go E).cell 1 klt).trans k1
            have hrg : ∀ w', Ext w3 w' → _ := fun w' E => rget_any N.J.p.fc N.J.p.ad N.J.p.qt N.J.p.to N.J.A x.A N.J.n N.J.c x.n x.c N.J.p.xs x.l w' (hJ.out.1.rd.ext E) hJ.out.2.2.2.2 (Nat.le_trans hJ.out.1.nc hJ.out.1.cm) ((hx'.out.2.1.ext (E2.go E3)).ext E) hx'.out.2.2.1 hx'.out.2.2.2.1 hx'.out.2.2.2.2.1
            have hsame2 : Hid ((rgetR N.J.p.fc N.J.p.ad N.J.p.qt N.J.p.to N.J.p.xs x.l).2.2 = 51 → _) := Lib.hid (fun h => hsame.out (fun _ _ => h))
            have hmore2 : Hid ((rgetR N.J.p.fc N.J.p.ad N.J.p.qt N.J.p.to N.J.p.xs x.l).2.2 ≠ 51 → hearF N1.p (List.take (j + 1) xa) = (endL N.p, (hearF N1.p (List.take j xa)).2 ++ [⟨N.J.p.id, (rgetR N.J.p.fc N.J.p.ad N.J.p.qt N.J.p.to N.J.p.xs x.l).2.2, (rgetR N.J.p.fc N.J.p.ad N.J.p.qt N.J.p.to N.J.p.xs x.l).1, (rgetR N.J.p.fc N.J.p.ad N.J.p.qt N.J.p.to N.J.p.xs x.l).2.1⟩])) := Lib.hid (fun h => hmore.out hbs hun h)
            have hyr := rget_word N.J.p.fc N.J.p.ad N.J.p.qt N.J.p.to N.J.p.xs x.l hx'.out.2.2.1
            clear hsame hmore q6 q7 q8 q9 q10 q11 k0 k1
            generalize rgetR N.J.p.fc N.J.p.ad N.J.p.qt N.J.p.to N.J.p.xs x.l = rg at *
            obtain ⟨code, ys, err⟩ := rg
            dsimp only at hsame2 hmore2 hrg hyr
            refine wp_region_held_drew (S := fun w' => Ext w3 w') (by kernel_rfl) ((Ext.refl w3).god) (fun hHeld => ?_)
            refine wpAnyH_take (i := 0) (oi := _) (v := ?_) rfl (by kernel_rfl) (by kernel_rfl) (by kernel_rfl) (fun _ _ _ h => h) (Or.inl ⟨by rfl, ?_⟩) (by assumption) ?_
            rotate_left
            · intro w hSw
              (try dsimp only at hSw)
              go_simp
              try (with_reducible rfl)
            try simp only [Act.put, List.getElem_toArray, List.getElem_cons_zero, List.setIfInBounds_toArray, List.set_cons_zero, List.set_cons_succ]
            refine wpAnyH_take (i := 1) (oi := _) (v := ?_) rfl (by kernel_rfl) (by kernel_rfl) (by kernel_rfl) (fun _ _ _ h => h) (Or.inl ⟨by rfl, ?_⟩) (by assumption) ?_
            rotate_left
            · intro w hSw
              (try dsimp only at hSw)
              go_simp
              try (with_reducible rfl)
            try simp only [Act.put, List.getElem_toArray, List.getElem_cons_succ, List.getElem_cons_zero, List.setIfInBounds_toArray, List.set_cons_zero, List.set_cons_succ]
            refine wpAnyH_take (i := 2) (oi := _) (v := ?_) rfl (by kernel_rfl) (by kernel_rfl) (by kernel_rfl) (fun _ _ _ h => h) (Or.inl ⟨by rfl, ?_⟩) (by assumption) ?_
            rotate_left
            · intro w hSw
              (try dsimp only at hSw)
              go_simp
              try (with_reducible rfl)
            try simp only [Act.put, List.getElem_toArray, List.getElem_cons_succ, List.getElem_cons_zero, List.setIfInBounds_toArray, List.set_cons_zero, List.set_cons_succ]
            refine wpAnyH_take (i := 3) (oi := _) (v := ?_) rfl (by kernel_rfl) (by kernel_rfl) (by kernel_rfl) (fun _ _ _ h => h) (Or.inl ⟨by rfl, ?_⟩) (by assumption) ?_
            rotate_left
            · intro w hSw
              (try dsimp only at hSw)
              go_simp
              try (with_reducible rfl)
            try simp only [Act.put, List.getElem_toArray, List.getElem_cons_succ, List.getElem_cons_zero, List.setIfInBounds_toArray, List.set_cons_zero, List.set_cons_succ]
            refine wpAnyH_take (i := 4) (oi := _) (v := ?_) rfl (by kernel_rfl) (by kernel_rfl) (by kernel_rfl) (fun _ _ _ h => h) (Or.inl ⟨by rfl, ?_⟩) (by assumption) ?_
            rotate_left
            · intro w hSw
              (try dsimp only at hSw)
              go_simp
              try (with_reducible rfl)
            try simp only [Act.put, List.getElem_toArray, List.getElem_cons_succ, List.getElem_cons_zero, List.setIfInBounds_toArray, List.set_cons_zero, List.set_cons_succ]
            refine wpAnyH_take (i := 5) (oi := _) (v := ?_) rfl (by kernel_rfl) (by kernel_rfl) (by kernel_rfl) (fun _ _ _ h => h) (Or.inl ⟨by rfl, ?_⟩) (by assumption) ?_
            rotate_left
            · intro w hSw
              (try dsimp only at hSw)
              go_simp
              try (with_reducible rfl)
            try simp only [Act.put, List.getElem_toArray, List.getElem_cons_succ, List.getElem_cons_zero, List.setIfInBounds_toArray, List.set_cons_zero, List.set_cons_succ]
            refine wpAnyH_take (i := 6) (oi := _) (v := ?_) rfl (by kernel_rfl) (by kernel_rfl) (by kernel_rfl) (fun _ _ _ h => h) (Or.inl ⟨by rfl, ?_⟩) (by assumption) ?_
            rotate_left
            · intro w hSw
              (try dsimp only at hSw)
              go_simp
              try (with_reducible rfl)
            try simp only [Act.put, List.getElem_toArray, List.getElem_cons_succ, List.getElem_cons_zero, List.setIfInBounds_toArray, List.set_cons_zero, List.set_cons_succ]
            refine wpAnyH_ready (rs := [7, 11]) (by kernel_rfl) (by simp) ?_
            refine AllReadyH.cons rfl (fun K hK => ?_) (AllReadyH.cons rfl (fun K hK => ?_) (AllReadyH.nil))
            · go_simp
              go_at_call 50
              refine (hrg _ hHeld).mono ?_
              rintro _ w4 ⟨Ay, ny, cy, rfl, y1, y2, ry, E4⟩
              have hHeld4 := Ext.go hHeld E4
              try dsimp only
              refine hK.out _ _ ?_ (fun hHeld => ?_)
              · first | assumption | (dsimp only; assumption)
              clear hK K
              try simp only [Act.put, List.getElem_toArray, List.getElem_cons_succ, List.getElem_cons_zero, List.setIfInBounds_toArray, List.set_cons_zero, List.set_cons_succ]
              refine wpAnyH_take (i := 8) (oi := _) (v := ?_) rfl (by kernel_rfl) (by kernel_rfl) (by kernel_rfl) (fun _ _ _ h => h) (Or.inl ⟨by rfl, ?_⟩) (by assumption) ?_
              rotate_left
              · intro w hSw
                (try dsimp only at hSw)
                go_simp
                try (with_reducible rfl)
              try simp only [Act.put, List.getElem_toArray, List.getElem_cons_succ, List.getElem_cons_zero, List.setIfInBounds_toArray, List.set_cons_zero, List.set_cons_succ]
              refine wpAnyH_take (i := 9) (oi := _) (v := ?_) rfl (by kernel_rfl) (by kernel_rfl) (by kernel_rfl) (fun _ _ _ h => h) (Or.inl ⟨by rfl, ?_⟩) (by assumption) ?_
              rotate_left
              · intro w hSw
                (try dsimp only at hSw)
                go_simp
                try (with_reducible rfl)
              try simp only [Act.put, List.getElem_toArray, List.getElem_cons_succ, List.getElem_cons_zero, List.setIfInBounds_toArray, List.set_cons_zero, List.set_cons_succ]
              refine wpAnyH_take (i := 10) (oi := _) (v := ?_) rfl (by kernel_rfl) (by kernel_rfl) (by kernel_rfl) (fun _ _ _ h => h) (Or.inl ⟨by rfl, ?_⟩) (by assumption) ?_
              rotate_left
              · intro w hSw
                (try dsimp only at hSw)
                go_simp
                try (with_reducible rfl)
              try simp only [Act.put, List.getElem_toArray, List.getElem_cons_succ, List.getElem_cons_zero, List.setIfInBounds_toArray, List.set_cons_zero, List.set_cons_succ]
              refine wpAnyH_ready (rs := [11]) (by kernel_rfl) (by simp) ?_
              refine AllReadyH.cons rfl (fun K hK => ?_) ?_
              rotate_left
              · exact AllReadyH.nil
              go_simp
              refine hK.out _ _ ?_ (fun hHeld => ?_)
              · exact Ext.goA hHeld4 _
              clear hK K
              try simp only [Act.put, List.getElem_toArray, List.getElem_cons_succ, List.getElem_cons_zero, List.setIfInBounds_toArray, List.set_cons_zero, List.set_cons_succ]
              refine wpAnyH_ready (rs := [12]) (by kernel_rfl) (by simp) ?_
              refine AllReadyH.cons rfl (fun K hK => ?_) ?_
              rotate_left
              · exact AllReadyH.nil
              go_simp
              refine hK.out _ _ ?_ (fun hHeld => ?_)
              · exact Ext.goA hHeld4 _
              clear hK K
              try simp only [Act.put, List.getElem_toArray, List.getElem_cons_succ, List.getElem_cons_zero, List.setIfInBounds_toArray, List.set_cons_zero, List.set_cons_succ]
              refine wpAnyH_ready (rs := [13]) (by kernel_rfl) (by simp) ?_
              refine AllReadyH.cons rfl (fun K hK => ?_) ?_
              rotate_left
              · exact AllReadyH.nil
              go_simp
              refine hK.out _ _ ?_ (fun hHeld => ?_)
              · first | assumption | (dsimp only; assumption)
              clear hK K
              try simp only [Act.put, List.getElem_toArray, List.getElem_cons_succ, List.getElem_cons_zero, List.setIfInBounds_toArray, List.set_cons_zero, List.set_cons_succ]
              refine wpAnyH_done (by kernel_rfl) ?_ _
              have EW : Ext w3 (w4.alloc (.cells #[.int .i64 code, .slice Ay ny cy] 54)) := Ext.goA hHeld4 _
              have hr := heap_alloc_new w4 (.cells #[.int .i64 code, .slice Ay ny cy] 54)
              have ry := ry.ext ((Ext.refl w4).goA (.cells #[.int .i64 code, .slice Ay ny cy] 54))
              clear hHeld4
              obtain ⟨r, hrr⟩ : ∃ r, r = w4.heap.size := ⟨_, rfl⟩
              rw [← hrr] at hr ⊢
              clear hrr
              generalize w4.alloc (.cells #[.int .i64 code, .slice Ay ny cy] 54) = W at *
              have HW := Lib.hid (H3.out.ext EW)
              have rc0 : W.cell? ⟨r, 0, none⟩ = some (.int .i64 code) := cellsAt hr 0
              have rc1 : W.cell? ⟨r, 1, none⟩ = some (.slice Ay ny cy) := cellsAt hr 1
              have DW := Lib.hid (D2.out.ext (E3.go EW))
              have mW := Lib.hid (m2.out.trans ((E3.go EW).mod _))
              clear hr
              by_cases he51 : err = 51
              · have hnx := Lib.hid (hsame2.out he51)
                have t51 : (err != 51) = false := by rw [he51]; rfl
                clear hmore2 hsame2
                go_wp2_with fail
                go_roundw
                case rel => exact ⟨j + 1, by omega, by go_num, N, by rw [hnx.out], HW.out, by rw [hnx.out]; exact DW.out, fun h => by rw [hnx.out]; exact ⟨hds'.out, rfl⟩, mW.out⟩
                case measure => simp [intOf]; omega
              · have hnx := Lib.hid (hmore2.out he51)
                have t51 : (err != 51) = true := bne_iff_ne.2 he51
                clear hmore2 hsame2
                have hend := lineEnd_any true a q cu co s re wa N err code Ay ny cy W HW.out
                have hya := Lib.hid (off_line HW.out.head ry)
                have ry' := Lib.hid ry
                have hyr' := Lib.hid hyr
                clear ry hyr
                go_wp2_with (first | (go_at_call 48; refine hend.mono ?_; rintro _ w5 ⟨rfl, M5, h5⟩; dsimp only [doneV]) | (at_builtin; refine wpList_appD rfl (.tmp 50) (.tmp 55) _ rfl Try.underlying35 w.heap.size _ 0 [] rfl (World.ownsRow_nil _ _ _ _) w5.heap.size N.J.p.id err code Ay ny cy rfl (heap_alloc_new w5 _) (by omega) (by have := mL.out.size; have := mW.out.size; have := M5.size; simp; omega) ?_; intro v6 w6 own6 hg6))
                have E56 : Ext w5 w6 := ((Ext.refl w5).goA (.cells #[.int .i64 N.J.p.id, .int .i64 err, .int .i64 code, .slice Ay ny cy] 56)).goG hg6 (fun i hi => by cases hi)
                have ry6 := ((ry'.out.modS hya.out M5).ext E56)
                go_roundw
                case rel =>
                  refine ⟨j + 1, by omega, by go_num, { N with busy := false, J := jmZ }, by rw [hnx.out]; rfl, h5.ext E56, ?_, fun h => Bool.noConfusion h, (mW.out.trans (M5.weak (fun i hi => .inl hi))).trans (E56.mod _)⟩
                  rw [hnx.out, hds'.out]
                  exact DonesAt.one own6 ry6 hyr'.out y1 y2
                case measure => simp [intOf]; omega
            · go_simp
              refine hK.out _ _ ?_ (fun hHeld => ?_)
              · exact Ext.goA hHeld _
              clear hK K
              try simp only [Act.put, List.getElem_toArray, List.getElem_cons_succ, List.getElem_cons_zero, List.setIfInBounds_toArray, List.set_cons_zero, List.set_cons_succ]
              refine wpAnyH_ready (rs := [7]) (by kernel_rfl) (by simp) ?_
              refine AllReadyH.cons rfl (fun K hK => ?_) ?_
              rotate_left
              · exact AllReadyH.nil
              go_simp
              go_at_call 50
              refine (hrg _ hHeld).mono ?_
              rintro _ w4 ⟨Ay, ny, cy, rfl, y1, y2, ry, E4⟩
              have hHeld4 := Ext.go hHeld E4
              try dsimp only
              refine hK.out _ _ ?_ (fun hHeld => ?_)
              · first | assumption | (dsimp only; assumption)
              clear hK K
              try simp only [Act.put, List.getElem_toArray, List.getElem_cons_succ, List.getElem_cons_zero, List.setIfInBounds_toArray, List.set_cons_zero, List.set_cons_succ]
              refine wpAnyH_take (i := 8) (oi := _) (v := ?_) rfl (by kernel_rfl) (by kernel_rfl) (by kernel_rfl) (fun _ _ _ h => h) (Or.inl ⟨by rfl, ?_⟩) (by assumption) ?_
              rotate_left
              · intro w hSw
                (try dsimp only at hSw)
                go_simp
                try (with_reducible rfl)
              try simp only [Act.put, List.getElem_toArray, List.getElem_cons_succ, List.getElem_cons_zero, List.setIfInBounds_toArray, List.set_cons_zero, List.set_cons_succ]
              refine wpAnyH_take (i := 9) (oi := _) (v := ?_) rfl (by kernel_rfl) (by kernel_rfl) (by kernel_rfl) (fun _ _ _ h => h) (Or.inl ⟨by rfl, ?_⟩) (by assumption) ?_
              rotate_left
              · intro w hSw
                (try dsimp only at hSw)
                go_simp
                try (with_reducible rfl)
              try simp only [Act.put, List.getElem_toArray, List.getElem_cons_succ, List.getElem_cons_zero, List.setIfInBounds_toArray, List.set_cons_zero, List.set_cons_succ]
              refine wpAnyH_take (i := 10) (oi := _) (v := ?_) rfl (by kernel_rfl) (by kernel_rfl) (by kernel_rfl) (fun _ _ _ h => h) (Or.inl ⟨by rfl, ?_⟩) (by assumption) ?_
              rotate_left
              · intro w hSw
                (try dsimp only at hSw)
                go_simp
                try (with_reducible rfl)
              try simp only [Act.put, List.getElem_toArray, List.getElem_cons_succ, List.getElem_cons_zero, List.setIfInBounds_toArray, List.set_cons_zero, List.set_cons_succ]
              have zz : w4.heap[w3.heap.size]? = some (.cells #[.int .i64 0, .slice none 0 0] 54 (0, 0)) := (E4.block w3.heap.size (by simp)).trans (heap_alloc_new w3 _)
              have z0 := cellsAt zz 0
              have z1 := cellsAt zz 1
              have fz := fun j => frozen_block zz j
              have hr := sets_block (sets_block zz 0 (.int .i64 code)) 1 (.slice Ay ny cy)
              have mz : Mod (fun i => i = w3.heap.size) w4 ((w4.setCell ⟨w3.heap.size, 0, none⟩ (.int .i64 code)).setCell ⟨w3.heap.size, 1, none⟩ (.slice Ay ny cy)) := ((Mod.refl (fun i => i = w3.heap.size) w4).setCell (p := ⟨w3.heap.size, 0, none⟩) (.inl rfl) _).setCell (p := ⟨w3.heap.size, 1, none⟩) (.inl rfl) _
              have ry := ry.modS (off_rep zz ry) mz
              refine wpAnyH_ready (rs := [12]) (by kernel_rfl) (by simp) ?_
              refine AllReadyH.cons rfl (fun K hK => ?_) ?_
              rotate_left
              · exact AllReadyH.nil
              go_simp
              refine hK.out _ _ ?_ (fun hHeld => ?_)
              · exact Ext.goS (Ext.goS hHeld4 (p := ⟨w3.heap.size, 0, none⟩) (Nat.le_refl _) _) (p := ⟨w3.heap.size, 1, none⟩) (Nat.le_refl _) _
              clear hK K
              try simp only [Act.put, List.getElem_toArray, List.getElem_cons_succ, List.getElem_cons_zero, List.setIfInBounds_toArray, List.set_cons_zero, List.set_cons_succ]
              refine wpAnyH_ready (rs := [13]) (by kernel_rfl) (by simp) ?_
              refine AllReadyH.cons rfl (fun K hK => ?_) ?_
              rotate_left
              · exact AllReadyH.nil
              go_simp
              refine hK.out _ _ ?_ (fun hHeld => ?_)
              · first | assumption | (dsimp only; assumption)
              clear hK K
              try simp only [Act.put, List.getElem_toArray, List.getElem_cons_succ, List.getElem_cons_zero, List.setIfInBounds_toArray, List.set_cons_zero, List.set_cons_succ]
              refine wpAnyH_done (by kernel_rfl) ?_ _
              have EW : Ext w3 ((w4.setCell ⟨w3.heap.size, 0, none⟩ (.int .i64 code)).setCell ⟨w3.heap.size, 1, none⟩ (.slice Ay ny cy)) := Ext.goS (Ext.goS hHeld4 (p := ⟨w3.heap.size, 0, none⟩) (Nat.le_refl _) _) (p := ⟨w3.heap.size, 1, none⟩) (Nat.le_refl _) _
              clear hHeld4 zz z0 z1 fz mz
              obtain ⟨r, hrr⟩ : ∃ r, r = w3.heap.size := ⟨_, rfl⟩
              rw [← hrr] at hr ⊢
              rw [← hrr] at ry EW
              clear hrr
              generalize (w4.setCell ⟨r, 0, none⟩ (.int .i64 code)).setCell ⟨r, 1, none⟩ (.slice Ay ny cy) = W at *
              have HW := Lib.hid (H3.out.ext EW)
              have rc0 : W.cell? ⟨r, 0, none⟩ = some (.int .i64 code) := cellsAt hr 0
              have rc1 : W.cell? ⟨r, 1, none⟩ = some (.slice Ay ny cy) := cellsAt hr 1
              have DW := Lib.hid (D2.out.ext (E3.go EW))
              have mW := Lib.hid (m2.out.trans ((E3.go EW).mod _))
              clear hr
              by_cases he51 : err = 51
              · have hnx := Lib.hid (hsame2.out he51)
                have t51 : (err != 51) = false := by rw [he51]; rfl
                clear hmore2 hsame2
                go_wp2_with fail
                go_roundw
                case rel => exact ⟨j + 1, by omega, by go_num, N, by rw [hnx.out], HW.out, by rw [hnx.out]; exact DW.out, fun h => by rw [hnx.out]; exact ⟨hds'.out, rfl⟩, mW.out⟩
                case measure => simp [intOf]; omega
              · have hnx := Lib.hid (hmore2.out he51)
                have t51 : (err != 51) = true := bne_iff_ne.2 he51
                clear hmore2 hsame2
                have hend := lineEnd_any true a q cu co s re wa N err code Ay ny cy W HW.out
                have hya := Lib.hid (off_line HW.out.head ry)
                have ry' := Lib.hid ry
                have hyr' := Lib.hid hyr
                clear ry hyr
                go_wp2_with (first | (go_at_call 48; refine hend.mono ?_; rintro _ w5 ⟨rfl, M5, h5⟩; dsimp only [doneV]) | (at_builtin; refine wpList_appD rfl (.tmp 50) (.tmp 55) _ rfl Try.underlying35 w.heap.size _ 0 [] rfl (World.ownsRow_nil _ _ _ _) w5.heap.size N.J.p.id err code Ay ny cy rfl (heap_alloc_new w5 _) (by omega) (by have := mL.out.size; have := mW.out.size; have := M5.size; simp; omega) ?_; intro v6 w6 own6 hg6))
                have E56 : Ext w5 w6 := ((Ext.refl w5).goA (.cells #[.int .i64 N.J.p.id, .int .i64 err, .int .i64 code, .slice Ay ny cy] 56)).goG hg6 (fun i hi => by cases hi)
                have ry6 := ((ry'.out.modS hya.out M5).ext E56)
                go_roundw
                case rel =>
                  refine ⟨j + 1, by omega, by go_num, { N with busy := false, J := jmZ }, by rw [hnx.out]; rfl, h5.ext E56, ?_, fun h => Bool.noConfusion h, (mW.out.trans (M5.weak (fun i hi => .inl hi))).trans (E56.mod _)⟩
                  rw [hnx.out, hds'.out]
                  exact DonesAt.one own6 ry6 hyr'.out y1 y2
                case measure => simp [intOf]; omega
        · have hnx := Lib.hid (hsame.out (fun _ h => absurd h hun))
          have hne : (x.u != N.J.p.un) = true := bne_iff_ne.2 hun
          clear hsame hmore e0 e1 q7 q8 q9 q10 q11
          go_region
          all_goals
            have E3 : Ext w2 w2.drew := (Ext.refl w2).god
            generalize w2.drew = w3 at *
            go_wp2_with fail
            go_roundw
            case rel => exact ⟨j + 1, by omega, by go_num, N, by rw [hnx.out], H2.out.ext E3, by rw [hnx.out]; exact D2.out.ext E3, fun h => by rw [hnx.out]; exact hB h, m2.out.trans (E3.mod _)⟩
            case measure => simp [intOf]; omega
    · obtain rfl : j = n1 := by omega
      have t1 : decide ((j : Int) < (j : Int)) = false := by simp
      have t1' : decide (j < j) = false := by simp
      go_wp2_with fail
      go_ret
      rw [List.take_of_length_le (by omega)] at hN
      have hD := hD'.out
      rw [List.take_of_length_le (by omega)] at hD
      exact ⟨_, xa, cm1, rfl, by rw [hM1'.out.symm] at hD; exact hD, mL.out.trans m1'.out, N, by rw [hN, ← hM1'.out]; rfl, hH'.out, (by have := hlen1'.out; have := hcl.out; omega)⟩
end
end Go.Proofs.Ytgagpalffdgjnaa
namespace Go.Proofs.Ytgagpalffdgjnaa
open Go.RowKit

theorem hearF_cons (L : Lp) (ds : List Dn) (x : Int × List Int) (xa : List (Int × List Int)) : (x :: xa).foldl (fun s x => hearStep s.1 s.2 x) (L, ds) = xa.foldl (fun s x => hearStep s.1 s.2 x) (hearStep L ds x) := rfl
theorem hear_idle : ∀ (xa : List (Int × List Int)) (L : Lp) (ds : List Dn), L.busy = false → xa.foldl (fun s x => hearStep s.1 s.2 x) (L, ds) = (L, ds)
  | [], _, _, _ => rfl
  | x :: xa, L, ds, h => by
    rw [hearF_cons, show hearStep L ds x = (L, ds) from by unfold hearStep; rw [if_neg (fun hh => by rw [h] at hh; exact Bool.noConfusion hh.1)]]
    exact hear_idle xa L ds h
/-- Nothing that is heard was asked for, or one thing, and then it is done. -/
theorem hearF_cases : ∀ (xa : List (Int × List Int)) (L : Lp), hearF L xa = (L, []) ∨ (L.busy = true ∧ ∃ bs : List Int, (∃ u, (u, bs) ∈ xa) ∧ (rgetR L.J.fc L.J.ad L.J.qt L.J.to L.J.xs bs).2.2 ≠ 51 ∧
    hearF L xa = (endL L, [⟨L.J.id, (rgetR L.J.fc L.J.ad L.J.qt L.J.to L.J.xs bs).2.2, (rgetR L.J.fc L.J.ad L.J.qt L.J.to L.J.xs bs).1, (rgetR L.J.fc L.J.ad L.J.qt L.J.to L.J.xs bs).2.1⟩]))
  | [], L => .inl rfl
  | x :: xa, L => by
    unfold hearF
    rw [hearF_cons]
    by_cases hc : L.busy = true ∧ x.1 = L.J.un ∧ (rgetR L.J.fc L.J.ad L.J.qt L.J.to L.J.xs x.2).2.2 ≠ 51
    · right
      refine ⟨hc.1, x.2, ⟨x.1, List.mem_cons_self ..⟩, hc.2.2, ?_⟩
      rw [show hearStep L [] x = (endL L, [] ++ [⟨L.J.id, (rgetR L.J.fc L.J.ad L.J.qt L.J.to L.J.xs x.2).2.2, (rgetR L.J.fc L.J.ad L.J.qt L.J.to L.J.xs x.2).1, (rgetR L.J.fc L.J.ad L.J.qt L.J.to L.J.xs x.2).2.1⟩]) from by unfold hearStep; rw [if_pos hc]]
      exact hear_idle xa _ _ rfl
    · rw [show hearStep L [] x = (L, []) from by unfold hearStep; rw [if_neg hc]]
      rcases hearF_cases xa L with h | ⟨h1, bs, ⟨u, h2⟩, h3, h4⟩
      · exact .inl h
      · exact .inr ⟨h1, bs, ⟨u, List.mem_cons_of_mem _ h2⟩, h3, h4⟩
theorem hearF_keep (L : Lp) (xa : List (Int × List Int)) : (hearF L xa).1.num = L.num ∧ (hearF L xa).1.cm = L.cm := by
  rcases hearF_cases xa L with h | ⟨_, bs, _, _, h⟩
  · rw [h]; exact ⟨rfl, rfl⟩
  · rw [h]; exact ⟨rfl, rfl⟩
def SentNew (L : Lp) (r : List Int × List Dn × Lp) : Prop :=
  r.2.2.cm = L.cm ∧ ((r.1 = [] ∧ r.2.2.num = L.num) ∨ (r.2.2.busy = true ∧ r.2.2.num = (L.num + 1) % 65536 ∧ r.1 = mbapL r.2.2.num r.2.2.J.un (putL r.2.2.J.fc r.2.2.J.ad r.2.2.J.qt r.2.2.J.to r.2.2.J.xs)))
theorem next_sent (L L0 : Lp) (now : Int) (ds : List Dn) (h1 : L.cm = L0.cm) (h2 : L.num = L0.num) : SentNew L0 (nextR true L now [] ds) := by
  unfold nextR
  cases takeL L.U L.O with
  | none => exact ⟨h1, .inl ⟨rfl, h2⟩⟩
  | some x => obtain ⟨j, U, O⟩ := x; exact ⟨h1, .inr ⟨rfl, by rw [← h2]; rfl, rfl⟩⟩
theorem tick_sent (re wa : Int) (L : Lp) (now : Int) : SentNew L (tickR true re wa L now) := by
  unfold tickR
  split
  · exact ⟨rfl, .inl ⟨rfl, rfl⟩⟩
  · split
    · rename_i hd
      split
      · have hb : L.busy = true := by unfold dueB at hd; simp at hd; exact hd.1
        exact ⟨rfl, .inr ⟨hb, rfl, rfl⟩⟩
      · exact next_sent _ _ _ _ rfl rfl
    · split
      · exact ⟨rfl, .inl ⟨rfl, rfl⟩⟩
      · exact next_sent _ _ _ _ rfl rfl
section
variable {k : Bool} {w : World} {a q cu co s : Nat} {re wa : Int} {L : Lp}
/-- What it is busy with may be asked. -/
theorem HasL.ok (h : HasL k w a q cu co s re wa L) (hb : L.busy = true) : L.J.ok := by
  obtain ⟨M, rfl, hm⟩ := h
  exact (hm.jobs M.J (.inr (.inr ⟨hb, rfl⟩))).2
theorem HasL.num (h : HasL k w a q cu co s re wa L) : 0 ≤ L.num ∧ L.num ≤ 65535 := by
  obtain ⟨M, rfl, hm⟩ := h
  exact hm.num
theorem askAny (h : HasL k w a q cu co s re wa L) (p : Jp) {A : Option Addr} {n c : Nat} (hx : RdI w w.heap.size .u16 A n p.xs) (hr : Word16 p.xs) (hn : n ≤ maxLen) :
    Calls Try.prog 12 #[.pointer (some ⟨a, 0, none⟩), jobV p.id p.un p.fc p.ad p.qt A n c p.to p.u] w fun e w' => ∃ (b : Bool) (L' : Lp), e = .returned (.bool b) ∧ Mod (LnB k a q cu co s) w w' ∧ HasL k w' a q cu co s re wa L' ∧ L'.num = L.num ∧ L'.cm = L.cm ∧ L'.busy = L.busy ∧ L'.J = L.J ∧ L'.U.length + L'.O.length = L.U.length + L.O.length + (if b = true then 1 else 0) := by
  obtain ⟨M, rfl, hm⟩ := h
  refine (lineAsk_any k a q cu co s re wa M p A n c w hm hx hr hn).mono ?_
  rintro e w' (⟨ho, rfl, m, M', e1, h1⟩ | ⟨h0, rfl, E⟩)
  · refine ⟨true, askL M.p p, rfl, m, ⟨M', e1, h1⟩, ?_⟩
    unfold askL
    split
    · exact ⟨rfl, rfl, rfl, rfl, by simp; omega⟩
    · exact ⟨rfl, rfl, rfl, rfl, by simp; omega⟩
  · exact ⟨false, M.p, rfl, E.mod _, ⟨M, rfl, hm.ext E⟩, rfl, rfl, rfl, rfl, by simp⟩
theorem hearStr (h : HasL true w a q cu co s re wa L) {A : Option Addr} {n c : Nat} {l : List Int} (hc : L.cm.length + n ≤ 1000000) (hx : RdI w w.heap.size .u8 A n l) (hl : ByteL l) :
    Calls Try.prog 17 #[.pointer (some ⟨a, 0, none⟩), .slice A n c] w fun e w' => ∃ d xa cm, e = .returned d ∧ DonesAt w' w.heap.size d (hearF { L with cm := cm } xa).2 ∧ Mod (LnB true a q cu co s) w w' ∧ HasL true w' a q cu co s re wa (hearF { L with cm := cm } xa).1 ∧ cm.length ≤ L.cm.length + n := by
  obtain ⟨M, rfl, hm⟩ := h
  refine (lineHear_str a q cu co s re wa M A n c l w hm hc hx hl).mono ?_
  rintro e w' ⟨d, xa, cm, rfl, hD, m, M', e1, h1, hlen⟩
  exact ⟨d, xa, cm, rfl, hD, m, ⟨M', e1, h1⟩, hlen⟩
end
/-- What is sent on a stream has the length of a frame. -/
theorem mbap_put {p : Jp} (h : p.ok) (id u : Int) : ∃ n, (putL p.fc p.ad p.qt p.to p.xs).length = n ∧ 1 ≤ n ∧ n ≤ 253 ∧ mbapL id u (putL p.fc p.ad p.qt p.to p.xs) = mbapHead id u n ++ putL p.fc p.ad p.qt p.to p.xs := by
  obtain ⟨h1, h2⟩ := put_length p.fc p.ad p.qt p.to p.xs
  have h3 := h1.1 h.2.2.1
  refine ⟨_, rfl, h3, h2, ?_⟩
  unfold mbapL
  rw [if_pos ⟨h3, h2⟩]
end Go.Proofs.Ytgagpalffdgjnaa
