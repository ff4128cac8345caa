/- Layer 23, the law SlaveRefuses: walked. -/
import Derived.Test.YtgeahfkhfpdlhaaG22
import Derived.Test.YtgeahfkhfpdlhaaG14
import Derived.Test.YtgeahfkhfpdlhaaRef05D
namespace Go.Proofs.Ytgeahfkhfpdlhaa
open Go.RowKit

theorem refuse_facts {fc ad qt to : Int} {xs : List Int} (h : rightB' fc ad qt to xs = true) :
    ((0 ≤ ad ∧ ad ≤ 65535) ∧ (0 ≤ qt ∧ qt ≤ 2000) ∧ (0 ≤ to ∧ to ≤ 65535)) ∧
    (fc = 1 ∧ szOf fc = 0 ∨ fc = 5 ∧ szOf fc = 0 ∨ fc = 15 ∧ szOf fc = 0 ∨ fc = 2 ∧ szOf fc = 32 ∨ fc = 4 ∧ szOf fc = 34 ∨ ((fc == 1) = false ∧ (fc == 5) = false ∧ (fc == 15) = false ∧ (fc == 2) = false ∧ (fc == 4) = false) ∧ (fc != 23) = true ∧ szOf fc = 19 ∨ fc = 23 ∧ szOf fc = 19) := by
  constructor
  · obtain ⟨b0, b1, b2, b3, -⟩ := right_do h
    obtain ⟨s, hs, h1, h2⟩ := right_parts h
    obtain ⟨⟨a0, a1⟩, ⟨t0, t1⟩, ⟨q0, q1⟩, hq, ht, f0, f1, f2, f3⟩ := holds_parts h1
    exact ⟨⟨b0, by omega⟩, ⟨b1, b2⟩, ⟨b3, by omega⟩⟩
  · rcases right_fc h with h | h | h | h | h | h | h | h | h | h <;> subst h <;> decide
/-- What decides: the place, and the place to write at. -/
def RefF (fc ad qt to sz : Int) (n : Nat) (fine : Bool) : Prop :=
  (decide (ad + max qt 1 ≤ sz) = true ∧ (fc = 23 → decide (to + (n : Int) ≤ sz) = true) ∧ fine = true) ∨ (decide (ad + max qt 1 ≤ sz) = false ∧ fine = false) ∨ (fc = 23 ∧ decide (ad + max qt 1 ≤ sz) = true ∧ decide (to + (n : Int) ≤ sz) = false ∧ fine = false)
theorem refF_of {fc ad qt to : Int} {n : Nat} (h0 : 0 ≤ ad) (h1 : 0 ≤ to) : RefF fc ad qt to (szOf fc) n (doFits slvL0 fc ad qt to n) := by
  have h := fits_slv (fc := fc) (ad := ad) (qt := qt) (to := to) (n := n) h0 h1
  unfold RefF
  by_cases a : ad + max qt 1 ≤ szOf fc
  · by_cases b : fc = 23 ∧ ¬ to + (n : Int) ≤ szOf fc
    · refine .inr (.inr ⟨b.1, by simpa using a, by simpa using b.2, ?_⟩)
      rw [Bool.eq_false_iff, Ne, h]
      exact fun e => b.2 (e.2 b.1)
    · have hb : fc = 23 → to + (n : Int) ≤ szOf fc := fun e => by
        refine Decidable.byContradiction fun hn => b ⟨e, hn⟩
      exact .inl ⟨by simpa using a, fun e => by simpa using hb e, h.2 ⟨a, hb⟩⟩
  · refine .inr (.inl ⟨by simpa using a, ?_⟩)
    rw [Bool.eq_false_iff, Ne, h]
    exact fun e => a e.1
set_option maxRecDepth 100000 in
set_option maxHeartbeats 12800000 in
theorem slaveRefuses_any (fc ad qt to : Int) (A : Option Addr) (n c : Nat) (xs : List Int) (w : World) (hx : RdI w w.heap.size .u16 A n xs) (hr : ∀ j : Nat, 0 ≤ xs[j]?.getD 0 ∧ xs[j]?.getD 0 ≤ 65535) (nm : n ≤ maxLen) :
    Calls Try.prog 14 #[.agg #[.int .i64 fc, .int .i64 ad, .int .i64 qt, .slice A n c, .int .i64 to]] w fun e w' => e = .returned (.bool true) ∧ Ext w w' := by
  have W0 := heap_alloc_new w (.cells #[.int .i64 fc, .int .i64 ad, .int .i64 qt, .slice A n c, .int .i64 to] 32)
  have E0 := (Ext.refl w).goA (.cells #[.int .i64 fc, .int .i64 ad, .int .i64 qt, .slice A n c, .int .i64 to] 32)
  have bq : ∀ w', Ext (w.alloc (.cells #[.int .i64 fc, .int .i64 ad, .int .i64 qt, .slice A n c, .int .i64 to] 32)) w' → ∀ o, w'.cell? ⟨w.heap.size, o, none⟩ = _ := fun w' D => cellsAt ((D.block w.heap.size (by simp)).trans W0)
  have bq' := Lib.hid bq
  have hx' := Lib.hid hx
  have hr' := Lib.hid hr
  have nm' := Lib.hid nm
  have hl := hx.len
  unfold maxLen at nm
  clear bq hx hr W0
  go_enter Try.func14, Try.ntmps14
  go_wp2_with fail
  generalize w.alloc (.cells #[.int .i64 fc, .int .i64 ad, .int .i64 qt, .slice A n c, .int .i64 to] 32) = W0 at *
  refine (slvHead_any W0).mono ?_
  rintro e W1 ⟨rfl, D1⟩
  go_wp2_with fail
  refine (slvNew_any W1).mono ?_
  rintro e W2 ⟨s, g, G, rfl, S2, D2, hg, hs⟩
  have S2' := Lib.hid S2
  have hrow : ∀ i, RowsOf G i → W0.heap.size ≤ i := fun i h => by obtain ⟨k, hk, rfl⟩ := h; have := S2'.out.bk.gt hk; have := D1.size; omega
  have hrow' := Lib.hid hrow
  clear S2 hrow
  have E2 := D1.go D2
  have q2 := bq'.out W2 E2
  by_cases h3 : 3000 < (n : Int)
  · have f3 : decide (3000 < (n : Int)) = true := by simp; omega
    go_wp2_with fail
    go_ret
    exact ⟨rfl, E0.go E2⟩
  · have f3 : decide (3000 < (n : Int)) = false := by simp; omega
    go_wp2_with fail
    refine (refRight_any fc ad qt to A n c xs W2 (hx'.out.ext (E0.go E2)) nm'.out).mono ?_
    rintro e W3 ⟨rfl, D3⟩
    have E3 := E2.go D3
    have S3' := Lib.hid (S2'.out.ext D3)
    have q3 := bq'.out W3 E3
    clear S2' q2
    cases hq : rightB' fc ad qt to xs
    · go_wp2_with fail
      go_ret
      exact ⟨rfl, E0.go E3⟩
    · obtain ⟨⟨⟨a0, a1⟩, ⟨b0, b1⟩, ⟨t0, t1⟩⟩, hp⟩ := refuse_facts hq
      have hF := refF_of (fc := fc) (qt := qt) (n := n) a0 t0
      have u1 : IntKind.i64.wrap (ad + max qt 1) = ad + max qt 1 := by rw [IntKind.wrap_i64]; omega
      have u2 : IntKind.i64.wrap (to + (n : Int)) = to + (n : Int) := by rw [IntKind.wrap_i64]; omega
      have hbits : BitsL slvL0 := bits_new 0 32 19 34
      have hans := do_answers hbits hq
      have hquiet := do_quiet (L := slvL0) hq
      have hyr := do_range S3'.out.bk.rng S3'.out.bk.len (fc := fc) (ad := ad) (qt := qt) (to := to) hr'.out
      have hget := (put_get fc ad qt to xs hq hr'.out).1
      have hcode : doC slvL0 fc ad qt to xs = if doFits slvL0 fc ad qt to n = true then 0 else 2 := by unfold doC; rw [if_pos hq, hl]
      have hY : serveY slvL0 (putL fc ad qt to xs) = repR fc ad qt to xs (doC slvL0 fc ad qt to xs) (doY slvL0 fc ad qt to xs) := by
        unfold serveY
        rw [hget, if_neg (by simp)]
        dsimp only
        unfold rputL
        rw [if_pos hans]
      have hsl : doC slvL0 fc ad qt to xs ≠ 0 → toldB slvL0 (putL fc ad qt to xs) = false := fun h => told_rest (by
        unfold serveL
        rw [hget, if_neg (by simp)]
        exact (hquiet h).2)
      obtain ⟨c0, c1, c2, c3, hcv⟩ := servC_form slvL0 (putL fc ad qt to xs)
      have hsrv : ∀ (Ab : Option Addr) (m cb : Nat) (w' : World), Sv w' s g slvL0 G → RdI w' w'.heap.size .u8 Ab m (putL fc ad qt to xs) → m ≤ cb → cb ≤ maxLen → Calls Try.prog 60 #[.pointer (some ⟨s, 0, none⟩), .slice Ab m cb] w' (SrvPost slvL0 (putL fc ad qt to xs) s g G w') := fun Ab m cb w' h1 h2 h3 h4 => slvServe_any s g Ab m cb _ slvL0 G w' h1 h2 (putL_bytes _ _ _ _ _) h3 h4
      unfold SrvPost at hsrv
      rw [hY, hcv] at hsrv
      have hq' := Lib.hid hq
      generalize toldB slvL0 (putL fc ad qt to xs) = tb at *
      generalize servS slvL0 (putL fc ad qt to xs) = LS at *
      generalize doC slvL0 fc ad qt to xs = dc at *
      have hans : ansR fc ad qt to xs dc (doY slvL0 fc ad qt to xs) = true := hans
      generalize doY slvL0 fc ad qt to xs = dy at *
      generalize doFits slvL0 fc ad qt to n = fine at *
      generalize szOf fc = sz at *
      have hans' := Lib.hid hans
      have hyr' := Lib.hid hyr
      have hsl' := Lib.hid hsl
      have hcode' := Lib.hid hcode
      have hsrv' := Lib.hid hsrv
      clear hans hquiet hyr hget hcode hY hsl hsrv hcv hq
      unfold RefF at hF
      rcases hF with ⟨k1, k2, rfl⟩ | ⟨k1, rfl⟩ | ⟨hfc, k1, k2, rfl⟩
      · have hd : dc = 0 := by have := hcode'.out; rwa [if_pos rfl] at this
        subst hd
        rcases hp with ⟨rfl, rfl⟩ | ⟨rfl, rfl⟩ | ⟨rfl, rfl⟩ | ⟨rfl, rfl⟩ | ⟨rfl, rfl⟩ | ⟨⟨z1, z2, z3, z4, z5⟩, z6, rfl⟩ | ⟨rfl, rfl⟩
        all_goals try have k3 := k2 rfl
        all_goals clear k2
        all_goals
          go_wp2_with fail
          refine (refPut_any _ ad qt to A n c xs W3 (hx'.out.ext (E0.go E3)) hr'.out nm'.out).mono ?_
          unfold RetI
          rintro e W4 ⟨A4, n4, c4, rfl, g4, g4', r4, D4⟩
          have E4 := E3.go D4
          have S4' := Lib.hid (S3'.out.ext D4)
          have r4' := Lib.hid r4
          clear r4 q3
          go_wp2_with fail
          refine (hsrv'.out A4 n4 c4 W4 S4'.out r4'.out g4 g4').mono ?_
          rintro e W5 ⟨A5, n5, c5, rfl, g5, g5', r5, -, M5⟩
          have Y5 := (Ext.refl W5).goA (.cells #[.int .i64 c0, .int .i64 c1, .int .i64 c2, .string c3] 97)
          have E5 := (E4.goM M5 hrow'.out).go Y5
          have r5' := Lib.hid (r5.ext Y5)
          have q5 := bq'.out _ E5
          clear r5 M5 D4 S4' r4'
          go_wp2_with fail
          generalize W5.alloc (.cells #[.int .i64 c0, .int .i64 c1, .int .i64 c2, .string c3] 97) = W6 at *
          refine (ref05Get_any _ ad qt to 0 A A5 n c n5 c5 xs dy _ W6 (hx'.out.ext (E0.go E5)) hr'.out nm'.out hyr'.out r5'.out g5 g5' hans'.out rfl).mono ?_
          rw [if_pos rfl]
          rintro e W7 ⟨A7, n7, c7, rfl, g7, g7', r7, D7⟩
          have Y7 := (Ext.refl W7).goA (.cells #[.int .i64 0, .slice A7 n7 c7] 40)
          have Q7 := cellsAt (heap_alloc_new W7 (.cells #[.int .i64 0, .slice A7 n7 c7] 40))
          have EF := (E5.go D7).go Y7
          clear r7 q5
          go_wp2_with fail
          go_ret
          exact ⟨rfl, E0.go EF⟩
      · have hd : dc = 2 := by have := hcode'.out; rwa [if_neg (by decide)] at this
        subst hd
        have ht : tb = false := hsl'.out (by decide)
        subst ht
        rcases hp with ⟨rfl, rfl⟩ | ⟨rfl, rfl⟩ | ⟨rfl, rfl⟩ | ⟨rfl, rfl⟩ | ⟨rfl, rfl⟩ | ⟨⟨z1, z2, z3, z4, z5⟩, z6, rfl⟩ | ⟨rfl, rfl⟩
        all_goals
          go_wp2_with fail
          refine (refPut_any _ ad qt to A n c xs W3 (hx'.out.ext (E0.go E3)) hr'.out nm'.out).mono ?_
          unfold RetI
          rintro e W4 ⟨A4, n4, c4, rfl, g4, g4', r4, D4⟩
          have E4 := E3.go D4
          have S4' := Lib.hid (S3'.out.ext D4)
          have r4' := Lib.hid r4
          clear r4 q3
          go_wp2_with fail
          refine (hsrv'.out A4 n4 c4 W4 S4'.out r4'.out g4 g4').mono ?_
          rintro e W5 ⟨A5, n5, c5, rfl, g5, g5', r5, -, M5⟩
          have Y5 := (Ext.refl W5).goA (.cells #[.int .i64 c0, .int .i64 c1, .int .i64 c2, .string c3] 97)
          have E5 := (E4.goM M5 hrow'.out).go Y5
          have r5' := Lib.hid (r5.ext Y5)
          have q5 := bq'.out _ E5
          clear r5 M5 D4 S4' r4'
          go_wp2_with fail
          generalize W5.alloc (.cells #[.int .i64 c0, .int .i64 c1, .int .i64 c2, .string c3] 97) = W6 at *
          refine (ref05Get_any _ ad qt to 2 A A5 n c n5 c5 xs dy _ W6 (hx'.out.ext (E0.go E5)) hr'.out nm'.out hyr'.out r5'.out g5 g5' hans'.out rfl).mono ?_
          rw [if_neg (by decide)]
          rintro e W7 ⟨A7, n7, c7, rfl, g7, g7', r7, D7⟩
          have Y7 := (Ext.refl W7).goA (.cells #[.int .i64 2, .slice A7 n7 c7] 40)
          have Q7 := cellsAt (heap_alloc_new W7 (.cells #[.int .i64 2, .slice A7 n7 c7] 40))
          have EF := (E5.go D7).go Y7
          clear r7 q5
          go_wp2_with fail
          go_ret
          exact ⟨rfl, E0.go EF⟩
      · have hd : dc = 2 := by have := hcode'.out; rwa [if_neg (by decide)] at this
        subst hd
        have ht : tb = false := hsl'.out (by decide)
        subst ht
        subst hfc
        obtain rfl : sz = 19 := by
          rcases hp with ⟨h, -⟩ | ⟨h, -⟩ | ⟨h, -⟩ | ⟨h, -⟩ | ⟨h, -⟩ | ⟨-, h, -⟩ | ⟨-, h⟩
          · omega
          · omega
          · omega
          · omega
          · omega
          · simp at h
          · exact h
        clear hp
        all_goals
          go_wp2_with fail
          refine (refPut_any _ ad qt to A n c xs W3 (hx'.out.ext (E0.go E3)) hr'.out nm'.out).mono ?_
          unfold RetI
          rintro e W4 ⟨A4, n4, c4, rfl, g4, g4', r4, D4⟩
          have E4 := E3.go D4
          have S4' := Lib.hid (S3'.out.ext D4)
          have r4' := Lib.hid r4
          clear r4 q3
          go_wp2_with fail
          refine (hsrv'.out A4 n4 c4 W4 S4'.out r4'.out g4 g4').mono ?_
          rintro e W5 ⟨A5, n5, c5, rfl, g5, g5', r5, -, M5⟩
          have Y5 := (Ext.refl W5).goA (.cells #[.int .i64 c0, .int .i64 c1, .int .i64 c2, .string c3] 97)
          have E5 := (E4.goM M5 hrow'.out).go Y5
          have r5' := Lib.hid (r5.ext Y5)
          have q5 := bq'.out _ E5
          clear r5 M5 D4 S4' r4'
          go_wp2_with fail
          generalize W5.alloc (.cells #[.int .i64 c0, .int .i64 c1, .int .i64 c2, .string c3] 97) = W6 at *
          refine (ref05Get_any _ ad qt to 2 A A5 n c n5 c5 xs dy _ W6 (hx'.out.ext (E0.go E5)) hr'.out nm'.out hyr'.out r5'.out g5 g5' hans'.out rfl).mono ?_
          rw [if_neg (by decide)]
          rintro e W7 ⟨A7, n7, c7, rfl, g7, g7', r7, D7⟩
          have Y7 := (Ext.refl W7).goA (.cells #[.int .i64 2, .slice A7 n7 c7] 40)
          have Q7 := cellsAt (heap_alloc_new W7 (.cells #[.int .i64 2, .slice A7 n7 c7] 40))
          have EF := (E5.go D7).go Y7
          clear r7 q5
          go_wp2_with fail
          go_ret
          exact ⟨rfl, E0.go EF⟩
end Go.Proofs.Ytgeahfkhfpdlhaa
