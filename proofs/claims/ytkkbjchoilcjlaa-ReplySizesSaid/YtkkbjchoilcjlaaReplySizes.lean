/- Layer 5: the law ReplySizes, walked. (Printed by wip/gen/rsizes.py.) -/
import Derived.Test.YtkkbjchoilcjlaaReplyHead
import Derived.Test.YtkkbjchoilcjlaaRef04Reads
namespace Go.Proofs.Ytkkbjchoilcjlaa
open Go.RowKit

/-- How long an answer's bytes are, that are of a request that writes; and with what each begins. -/
theorem rep_writes {fc ad qt to : Int} {xs ys : List Int} (h : ansR fc ad qt to xs 0 ys = true) (hb : readsB fc = false) : (repR fc ad qt to xs 0 ys).length = if fc = 22 then 7 else 5 := by
  obtain ⟨h1, h2, h3⟩ := ans_parts h
  obtain ⟨s, hs, g1, g2⟩ := right_parts h1
  obtain ⟨k1, k2⟩ := kinds_of hs
  have h5 := right_five h1
  unfold repR repL
  rw [if_neg (by simp), hb, if_neg (by decide)]
  have hput : putL fc ad qt to xs = codedL s fc ad qt to xs := by unfold putL; rw [hs]; dsimp only; rw [g1, g2, Bool.and_self, if_pos rfl]
  obtain ⟨-, -, ⟨q0, q1⟩, -, -, f0, f1, f2, f3⟩ := holds_parts g1
  have hl := codedL_length s fc ad qt to xs
  rw [← hput] at hl
  rw [k1] at hb
  rcases shape_cases hs with ⟨e, rfl⟩ | ⟨e, rfl⟩ | ⟨e, rfl⟩ | ⟨e, rfl⟩ | ⟨e, rfl⟩ | ⟨e, rfl⟩ | ⟨e, rfl⟩ | ⟨e, rfl⟩
  · exact absurd hb (by decide)
  · exact absurd hb (by decide)
  · subst e; simp [lenOf] at hl ⊢; omega
  · subst e; have := (f1 rfl).1; simp [lenOf] at hl this ⊢; omega
  · subst e; rw [if_pos (.inl rfl), List.length_take]; simp; omega
  · subst e; rw [if_pos (.inr rfl), List.length_take]; simp; omega
  · subst e; have := (f1 rfl).1; simp [lenOf] at hl this ⊢; omega
  · exact absurd hb (by decide)
theorem rep_first {fc ad qt to : Int} {xs ys : List Int} (h : ansR fc ad qt to xs 0 ys = true) : (repR fc ad qt to xs 0 ys).getD 0 0 = fc := by
  obtain ⟨h1, h2, h3⟩ := ans_parts h
  obtain ⟨s, hs, g1, g2⟩ := right_parts h1
  obtain ⟨f, -, -, -⟩ := shape_hi hs
  have hput : putL fc ad qt to xs = codedL s fc ad qt to xs := by unfold putL; rw [hs]; dsimp only; rw [g1, g2, Bool.and_self, if_pos rfl]
  have hp : ∀ T, (([fc % 256] ++ T) : List Int).getD 0 0 = fc := fun T => f
  unfold repR repL
  rw [if_neg (by simp)]
  split
  · exact f
  split
  · rw [hput, codedL_tail]; exact f
  · rw [hput, codedL_tail]; exact f

set_option maxHeartbeats 1600000 in
theorem replySizes_big (fc ad qt to code : Int) (A A2 : Option Addr) (n c n2 c2 : Nat) (w : World) (h : 3000 < n ∨ 3000 < n2) :
    Calls Try.prog 14 #[.agg #[.int .i64 fc, .int .i64 ad, .int .i64 qt, .slice A n c, .int .i64 to], .agg #[.int .i64 code, .slice A2 n2 c2]] w fun e w' => e = .returned (.bool true) ∧ Ext w w' := by
  have E0 := ((Ext.refl w).goA (.cells #[.int .i64 fc, .int .i64 ad, .int .i64 qt, .slice A n c, .int .i64 to] 34)).goA (.cells #[.int .i64 code, .slice A2 n2 c2] 50)
  have bq : ∀ w', Ext ((w.alloc (.cells #[.int .i64 fc, .int .i64 ad, .int .i64 qt, .slice A n c, .int .i64 to] 34)).alloc (.cells #[.int .i64 code, .slice A2 n2 c2] 50)) w' → ∀ o, w'.cell? ⟨w.heap.size, o, none⟩ = _ := fun w' D => cellsAt ((D.block w.heap.size (by simp; omega)).trans (show ((w.alloc (.cells #[.int .i64 fc, .int .i64 ad, .int .i64 qt, .slice A n c, .int .i64 to] 34)).alloc (.cells #[.int .i64 code, .slice A2 n2 c2] 50)).heap[w.heap.size]? = some (.cells #[.int .i64 fc, .int .i64 ad, .int .i64 qt, .slice A n c, .int .i64 to] 34 (0, 0)) by rw [alloc_get, if_neg (by simp), alloc_get, if_pos rfl]))
  have bp : ∀ w', Ext ((w.alloc (.cells #[.int .i64 fc, .int .i64 ad, .int .i64 qt, .slice A n c, .int .i64 to] 34)).alloc (.cells #[.int .i64 code, .slice A2 n2 c2] 50)) w' → ∀ o, w'.cell? ⟨w.heap.size + 1, o, none⟩ = _ := fun w' D => cellsAt ((D.block (w.heap.size + 1) (by simp)).trans (show ((w.alloc (.cells #[.int .i64 fc, .int .i64 ad, .int .i64 qt, .slice A n c, .int .i64 to] 34)).alloc (.cells #[.int .i64 code, .slice A2 n2 c2] 50)).heap[w.heap.size + 1]? = some (.cells #[.int .i64 code, .slice A2 n2 c2] 50 (0, 0)) by rw [alloc_get, if_pos (by simp)]))
  have bq' := Lib.hid bq
  have bp' := Lib.hid bp
  clear bq bp
  have t0 : (decide (3000 < (n : Int)) || decide (3000 < (n2 : Int))) = true := by simp; omega
  clear h
  go_enter Try.func14, Try.ntmps14
  go_wp2_with fail
  refine (replyHead_any _).mono ?_
  rintro e w1 ⟨rfl, D1⟩
  have q1 := bq'.out w1 D1
  have p1 := bp'.out w1 D1
  go_wp2_with fail
  refine (great_any fc ad qt to code A A2 n c n2 c2 w1).mono ?_
  rw [t0]
  rintro e w2 ⟨rfl, D2⟩
  go_wp2_with fail
  go_ret
  exact ⟨rfl, (E0.go D1).go D2⟩
set_option maxHeartbeats 6400000 in
theorem replySizes_small (fc ad qt to code : Int) (A A2 : Option Addr) (n c n2 c2 : Nat) (xs ys : List Int) (w : World) (hx : RdI w w.heap.size .u16 A n xs) (hr : ∀ j : Nat, 0 ≤ xs[j]?.getD 0 ∧ xs[j]?.getD 0 ≤ 65535) (hy : RdI w w.heap.size .u16 A2 n2 ys) (hyr : ∀ j : Nat, 0 ≤ ys[j]?.getD 0 ∧ ys[j]?.getD 0 ≤ 65535)
    (hn : n ≤ 3000) (hn2 : n2 ≤ 3000) :
    Calls Try.prog 14 #[.agg #[.int .i64 fc, .int .i64 ad, .int .i64 qt, .slice A n c, .int .i64 to], .agg #[.int .i64 code, .slice A2 n2 c2]] w fun e w' => e = .returned (.bool true) ∧ Ext w w' := by
  have E0 := ((Ext.refl w).goA (.cells #[.int .i64 fc, .int .i64 ad, .int .i64 qt, .slice A n c, .int .i64 to] 34)).goA (.cells #[.int .i64 code, .slice A2 n2 c2] 50)
  have bq : ∀ w', Ext ((w.alloc (.cells #[.int .i64 fc, .int .i64 ad, .int .i64 qt, .slice A n c, .int .i64 to] 34)).alloc (.cells #[.int .i64 code, .slice A2 n2 c2] 50)) w' → ∀ o, w'.cell? ⟨w.heap.size, o, none⟩ = _ := fun w' D => cellsAt ((D.block w.heap.size (by simp; omega)).trans (show ((w.alloc (.cells #[.int .i64 fc, .int .i64 ad, .int .i64 qt, .slice A n c, .int .i64 to] 34)).alloc (.cells #[.int .i64 code, .slice A2 n2 c2] 50)).heap[w.heap.size]? = some (.cells #[.int .i64 fc, .int .i64 ad, .int .i64 qt, .slice A n c, .int .i64 to] 34 (0, 0)) by rw [alloc_get, if_neg (by simp), alloc_get, if_pos rfl]))
  have bp : ∀ w', Ext ((w.alloc (.cells #[.int .i64 fc, .int .i64 ad, .int .i64 qt, .slice A n c, .int .i64 to] 34)).alloc (.cells #[.int .i64 code, .slice A2 n2 c2] 50)) w' → ∀ o, w'.cell? ⟨w.heap.size + 1, o, none⟩ = _ := fun w' D => cellsAt ((D.block (w.heap.size + 1) (by simp)).trans (show ((w.alloc (.cells #[.int .i64 fc, .int .i64 ad, .int .i64 qt, .slice A n c, .int .i64 to] 34)).alloc (.cells #[.int .i64 code, .slice A2 n2 c2] 50)).heap[w.heap.size + 1]? = some (.cells #[.int .i64 code, .slice A2 n2 c2] 50 (0, 0)) by rw [alloc_get, if_pos (by simp)]))
  have bq' := Lib.hid bq
  have bp' := Lib.hid bp
  have t0 : (decide (3000 < (n : Int)) || decide (3000 < (n2 : Int))) = false := by simp; omega
  have hx' := Lib.hid hx
  have hy' := Lib.hid hy
  have hr' := Lib.hid hr
  have hyr' := Lib.hid hyr
  have nm : n ≤ maxLen := by unfold maxLen; omega
  have nm2 : n2 ≤ maxLen := by unfold maxLen; omega
  clear bq bp hx hy hr hyr hn hn2
  go_enter Try.func14, Try.ntmps14
  go_wp2_with fail
  refine (replyHead_any _).mono ?_
  rintro e w1 ⟨rfl, D1⟩
  have q1 := bq'.out w1 D1
  have p1 := bp'.out w1 D1
  go_wp2_with fail
  refine (great_any fc ad qt to code A A2 n c n2 c2 w1).mono ?_
  rw [t0]
  rintro e w2 ⟨rfl, D2⟩
  have D02 := D1.go D2
  have q2 := bq'.out w2 D02
  have p2 := bp'.out w2 D02
  have E2 := E0.go D02
  clear q1 p1
  go_wp2_with fail
  refine (rPut_any fc ad qt to code A A2 n c n2 c2 xs ys w2 (hx'.out.ext E2) hr'.out nm (hy'.out.ext E2) hyr'.out nm2).mono ?_
  rintro e w3 ⟨A3, n3, c3, rfl, g3, g3', r3, D3⟩
  have D03 := D02.go D3
  have q3 := bq'.out w3 D03
  have p3 := bp'.out w3 D03
  have E3 := E0.go D03
  have l3 := r3.len
  clear q2 p2
  cases ha : ansR fc ad qt to xs code ys
  · have n0 : n3 = 0 := by unfold rputL at l3; rw [if_neg (by rw [ha]; decide)] at l3; exact l3.symm
    subst n0
    clear r3 l3
    go_wp2_with fail
    refine (rRight_any fc ad qt to code A A2 n c n2 c2 xs ys w3 (hx'.out.ext E3) (hy'.out.ext E3) nm nm2).mono ?_
    rw [ha]
    rintro e w4 ⟨rfl, D4⟩
    go_wp2_with fail
    go_ret
    exact ⟨rfl, E3.go D4⟩
  · have hlen := rep_length ha
    have hpr : rputL fc ad qt to xs code ys = repR fc ad qt to xs code ys := if_pos ha
    obtain ⟨s, hs, -, -⟩ := right_parts (ans_parts ha).1
    obtain ⟨f1, f2, -, -⟩ := shape_hi hs
    have hfc : 1 ≤ fc ∧ fc ≤ 23 := by rcases shape_cases hs with ⟨rfl | rfl, _⟩ | ⟨rfl | rfl, _⟩ | ⟨rfl, _⟩ | ⟨rfl, _⟩ | ⟨rfl, _⟩ | ⟨rfl, _⟩ | ⟨rfl, _⟩ | ⟨rfl, _⟩ <;> decide
    rw [hpr] at r3 l3
    by_cases hc : code = 0
    · subst hc
      have hw := fun hb => rep_writes ha hb
      have h0 := rep_first ha
      have n0 : 0 < n3 := by
        cases hb : readsB fc
        · have := hlen.2.2.1 rfl hb; omega
        · have := hlen.2.1 rfl hb; have q := right_reads (ans_parts ha).1 hb; split at this <;> omega
      obtain ⟨bb, o, rfl, _, c0⟩ := r3.at_ n0
      rw [h0, Nat.add_zero] at c0
      have t1 : (n3 == 0) = false := by simp; omega
      have t1' : ((n3 : Int) == 0) = false := by simp; omega
      have t2 : (0 : Int) < n3 := by omega
      have u1 : IntKind.i64.wrap fc = fc := by rw [IntKind.wrap_i64]; omega
      have hqq := right_qty (ans_parts ha).1
      rw [l3] at hlen hw
      cases hb : readsB fc
      · replace hw := hw hb
        clear hlen r3 l3 ha h0 f1 f2 hs hpr
        by_cases h22 : fc = 22
        · subst h22
          rw [if_pos rfl] at hw
          subst hw
          go_wp2_with fail
          refine (refReads_any 22 w3).mono ?_
          rw [hb]
          rintro e w4 ⟨rfl, rfl⟩
          go_wp2_with fail
          go_quiet (fail)
          go_wp2_with fail
          go_ret
          exact ⟨rfl, E3.goD _⟩
        · rw [if_neg h22] at hw
          subst hw
          have v1 : (fc == 22) = false := by simp; exact h22
          go_wp2_with fail
          refine (refReads_any fc w3).mono ?_
          rw [hb]
          rintro e w4 ⟨rfl, rfl⟩
          go_wp2_with fail
          go_quiet (fail)
          go_wp2_with fail
          go_ret
          exact ⟨rfl, E3.goD _⟩
      · have hl := hlen.2.1 rfl hb
        have q := right_reads (ans_parts ha).1 hb
        have x1 : IntKind.i64.wrap (qt + 7) = qt + 7 := by rw [IntKind.wrap_i64]; omega
        have x2 : (qt + 7).tdiv 8 = (qt + 7) / 8 := Int.tdiv_eq_ediv_of_nonneg (by omega)
        have x3 : IntKind.i64.wrap ((qt + 7) / 8) = (qt + 7) / 8 := by rw [IntKind.wrap_i64]; omega
        have x4 : IntKind.i64.wrap (2 + (qt + 7) / 8) = 2 + (qt + 7) / 8 := by rw [IntKind.wrap_i64]; omega
        have x5 : IntKind.i64.wrap (2 * qt) = 2 * qt := by rw [IntKind.wrap_i64]; omega
        have x6 : IntKind.i64.wrap (2 + 2 * qt) = 2 + 2 * qt := by rw [IntKind.wrap_i64]; omega
        clear hlen r3 l3 ha h0 f1 f2 hs hpr hw
        cases hbb : readsBits fc
        · rw [hbb, if_neg (by decide)] at hl
          have y1 : ((n3 : Int) == 2 + 2 * qt) = true := by rw [hl]; exact beq_self_eq_true _
          clear hl q
          go_wp2_with fail
          refine (refReads_any fc w3).mono ?_
          rw [hb, hbb]
          rintro e w4 ⟨rfl, rfl⟩
          go_wp2_with fail
          go_quiet (fail)
          go_wp2_with fail
          go_ret
          exact ⟨rfl, E3.goD _⟩
        · rw [hbb, if_pos rfl] at hl
          have y1 : ((n3 : Int) == 2 + (qt + 7) / 8) = true := by rw [hl]; exact beq_self_eq_true _
          clear hl q
          go_wp2_with fail
          refine (refReads_any fc w3).mono ?_
          rw [hb, hbb]
          rintro e w4 ⟨rfl, rfl⟩
          go_wp2_with fail
          go_quiet (fail)
          go_wp2_with fail
          go_ret
          exact ⟨rfl, E3.goD _⟩
    · have n0 := hlen.1 hc
      rw [l3] at n0
      subst n0
      have hcr := ((ans_parts ha).2.1 hc).1
      have er : repR fc ad qt to xs code ys = [orHi (fc % 256), code % 256] := by unfold repR repL; rw [if_pos hc]
      obtain ⟨bb, o, rfl, _, c0⟩ := r3.at_ (show 0 < 2 by omega)
      obtain ⟨bb', o', e', _, c1⟩ := r3.at_ (show 1 < 2 by omega)
      injection e' with e'; injection e' with e1 e2
      subst e1 e2
      rw [er] at c0 c1
      rw [Nat.add_zero, show ([orHi (fc % 256), code % 256] : List Int).getD 0 0 = fc + 128 from f2] at c0
      rw [show ([orHi (fc % 256), code % 256] : List Int).getD 1 0 = code by show code % 256 = code; omega] at c1
      have y1 : (code == 0) = false := by simp; exact hc
      have u1 : IntKind.i64.wrap (fc + 128) = fc + 128 := by rw [IntKind.wrap_i64]; omega
      have u2 : IntKind.i64.wrap code = code := by rw [IntKind.wrap_i64]; omega
      clear hlen r3 l3 ha f1 f2 hs hpr er hc hcr
      go_wp2_with fail
      go_quiet (fail)
      go_wp2_with fail
      go_ret
      exact ⟨rfl, E3.goD _⟩
theorem replySizes_any (fc ad qt to code : Int) (A A2 : Option Addr) (n c n2 c2 : Nat) (xs ys : List Int) (w : World) (hx : RdI w w.heap.size .u16 A n xs) (hr : ∀ j : Nat, 0 ≤ xs[j]?.getD 0 ∧ xs[j]?.getD 0 ≤ 65535) (hy : RdI w w.heap.size .u16 A2 n2 ys) (hyr : ∀ j : Nat, 0 ≤ ys[j]?.getD 0 ∧ ys[j]?.getD 0 ≤ 65535) :
    Calls Try.prog 14 #[.agg #[.int .i64 fc, .int .i64 ad, .int .i64 qt, .slice A n c, .int .i64 to], .agg #[.int .i64 code, .slice A2 n2 c2]] w fun e w' => e = .returned (.bool true) ∧ Ext w w' := by
  by_cases h : 3000 < n ∨ 3000 < n2
  · exact replySizes_big fc ad qt to code A A2 n c n2 c2 w h
  · exact replySizes_small fc ad qt to code A A2 n c n2 c2 xs ys w hx hr hy hyr (by omega) (by omega)
end Go.Proofs.Ytkkbjchoilcjlaa
