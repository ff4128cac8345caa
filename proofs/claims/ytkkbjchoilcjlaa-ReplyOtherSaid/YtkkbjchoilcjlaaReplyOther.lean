/- Layer 5: the law ReplyOther, walked. (Printed by wip/gen/rother.py.) -/
import Derived.Test.YtkkbjchoilcjlaaReplyOtherLaw
import Derived.Test.YtkkbjchoilcjlaaReplyHead
import Derived.Test.YtkkbjchoilcjlaaRef04Right
namespace Go.Proofs.Ytkkbjchoilcjlaa
open Go.RowKit

set_option maxHeartbeats 3200000 in
theorem replyOther_off (fc ad qt to fc' ad' qt' to' code : Int) (A A' A2 : Option Addr) (n c n' c' n2 c2 : Nat) (xs xs' ys : List Int) (w : World) (hx : RdI w w.heap.size .u16 A n xs) (hr : ∀ j : Nat, 0 ≤ xs[j]?.getD 0 ∧ xs[j]?.getD 0 ≤ 65535) (nm : n ≤ maxLen) (hx2 : RdI w w.heap.size .u16 A' n' xs') (hr2 : ∀ j : Nat, 0 ≤ xs'[j]?.getD 0 ∧ xs'[j]?.getD 0 ≤ 65535) (nm2 : n' ≤ maxLen)
    (hy : RdI w w.heap.size .u16 A2 n2 ys) (hyr : ∀ j : Nat, 0 ≤ ys[j]?.getD 0 ∧ ys[j]?.getD 0 ≤ 65535) (h : 3000 < n ∨ 3000 < n2 ∨ 3000 < n' ∨ rightB' fc ad qt to xs = false ∨ rightB' fc' ad' qt' to' xs' = false ∨ code ≠ 0) :
    Calls Try.prog 12 #[.agg #[.int .i64 fc, .int .i64 ad, .int .i64 qt, .slice A n c, .int .i64 to], .agg #[.int .i64 fc', .int .i64 ad', .int .i64 qt', .slice A' n' c', .int .i64 to'], .agg #[.int .i64 code, .slice A2 n2 c2]] w fun e w' => e = .returned (.bool true) ∧ Ext w w' := by
  have k2 : w.heap.size + 1 + 1 = w.heap.size + 2 := rfl
  have E0 := (((Ext.refl w).goA (.cells #[.int .i64 fc, .int .i64 ad, .int .i64 qt, .slice A n c, .int .i64 to] 34)).goA (.cells #[.int .i64 fc', .int .i64 ad', .int .i64 qt', .slice A' n' c', .int .i64 to'] 34)).goA (.cells #[.int .i64 code, .slice A2 n2 c2] 50)
  have bq : ∀ w', Ext (((w.alloc (.cells #[.int .i64 fc, .int .i64 ad, .int .i64 qt, .slice A n c, .int .i64 to] 34)).alloc (.cells #[.int .i64 fc', .int .i64 ad', .int .i64 qt', .slice A' n' c', .int .i64 to'] 34)).alloc (.cells #[.int .i64 code, .slice A2 n2 c2] 50)) w' → ∀ o, w'.cell? ⟨w.heap.size, o, none⟩ = _ := fun w' D => cellsAt ((D.block w.heap.size (by simp; omega)).trans (show (((w.alloc (.cells #[.int .i64 fc, .int .i64 ad, .int .i64 qt, .slice A n c, .int .i64 to] 34)).alloc (.cells #[.int .i64 fc', .int .i64 ad', .int .i64 qt', .slice A' n' c', .int .i64 to'] 34)).alloc (.cells #[.int .i64 code, .slice A2 n2 c2] 50)).heap[w.heap.size]? = some (.cells #[.int .i64 fc, .int .i64 ad, .int .i64 qt, .slice A n c, .int .i64 to] 34 (0, 0)) by rw [alloc_get, if_neg (by simp; omega), alloc_get, if_neg (by simp), alloc_get, if_pos rfl]))
  have br : ∀ w', Ext (((w.alloc (.cells #[.int .i64 fc, .int .i64 ad, .int .i64 qt, .slice A n c, .int .i64 to] 34)).alloc (.cells #[.int .i64 fc', .int .i64 ad', .int .i64 qt', .slice A' n' c', .int .i64 to'] 34)).alloc (.cells #[.int .i64 code, .slice A2 n2 c2] 50)) w' → ∀ o, w'.cell? ⟨w.heap.size + 1, o, none⟩ = _ := fun w' D => cellsAt ((D.block (w.heap.size + 1) (by simp)).trans (show (((w.alloc (.cells #[.int .i64 fc, .int .i64 ad, .int .i64 qt, .slice A n c, .int .i64 to] 34)).alloc (.cells #[.int .i64 fc', .int .i64 ad', .int .i64 qt', .slice A' n' c', .int .i64 to'] 34)).alloc (.cells #[.int .i64 code, .slice A2 n2 c2] 50)).heap[w.heap.size + 1]? = some (.cells #[.int .i64 fc', .int .i64 ad', .int .i64 qt', .slice A' n' c', .int .i64 to'] 34 (0, 0)) by rw [alloc_get, if_neg (by simp), alloc_get, if_pos (by simp)]))
  have bp : ∀ w', Ext (((w.alloc (.cells #[.int .i64 fc, .int .i64 ad, .int .i64 qt, .slice A n c, .int .i64 to] 34)).alloc (.cells #[.int .i64 fc', .int .i64 ad', .int .i64 qt', .slice A' n' c', .int .i64 to'] 34)).alloc (.cells #[.int .i64 code, .slice A2 n2 c2] 50)) w' → ∀ o, w'.cell? ⟨w.heap.size + 2, o, none⟩ = _ := fun w' D => cellsAt ((D.block (w.heap.size + 2) (by simp)).trans (show (((w.alloc (.cells #[.int .i64 fc, .int .i64 ad, .int .i64 qt, .slice A n c, .int .i64 to] 34)).alloc (.cells #[.int .i64 fc', .int .i64 ad', .int .i64 qt', .slice A' n' c', .int .i64 to'] 34)).alloc (.cells #[.int .i64 code, .slice A2 n2 c2] 50)).heap[w.heap.size + 2]? = some (.cells #[.int .i64 code, .slice A2 n2 c2] 50 (0, 0)) by rw [alloc_get, if_pos (by simp)]))
  have bq' := Lib.hid bq
  have br' := Lib.hid br
  have bp' := Lib.hid bp
  have hx' := Lib.hid hx
  have hx2' := Lib.hid hx2
  have hy' := Lib.hid hy
  have hr' := Lib.hid hr
  have hr2' := Lib.hid hr2
  have hyr' := Lib.hid hyr
  clear bq br bp hx hx2 hy hr hr2 hyr
  cases t0 : (decide (3000 < (n : Int)) || decide (3000 < (n2 : Int)))
  · cases t1 : decide (3000 < (n' : Int))
    · cases hq : rightB' fc ad qt to xs
      · clear h
        have hq_ := Lib.hid hq
        go_enter Try.func12, Try.ntmps12
        go_wp2_with fail
        refine (replyHead_any _).mono ?_
        rintro e w1 ⟨rfl, D1⟩
        have q1 := bq'.out w1 D1
        have p1 := bp'.out w1 D1
        go_wp2_with fail
        refine (great_any fc ad qt to code A A2 n c n2 c2 w1).mono ?_
        rw [t0]
        rintro e w2 ⟨rfl, D2⟩
        have D02 := D1.go D2
        have E2 := E0.go D02
        have q2 := bq'.out w2 D02
        have r2 := br'.out w2 D02
        clear q1 p1
        go_wp2_with fail
        refine (refRight_any fc ad qt to A n c xs w2 (hx'.out.ext E2) nm).mono ?_
        rw [hq]
        rintro e w3 ⟨rfl, D3⟩
        have D03 := D02.go D3
        have E3 := E0.go D03
        have r3 := br'.out w3 D03
        clear q2 r2
        go_wp2_with fail
        go_ret
        exact ⟨rfl, E3⟩
      · cases hq2 : rightB' fc' ad' qt' to' xs'
        · clear h
          go_enter Try.func12, Try.ntmps12
          go_wp2_with fail
          refine (replyHead_any _).mono ?_
          rintro e w1 ⟨rfl, D1⟩
          have q1 := bq'.out w1 D1
          have p1 := bp'.out w1 D1
          go_wp2_with fail
          refine (great_any fc ad qt to code A A2 n c n2 c2 w1).mono ?_
          rw [t0]
          rintro e w2 ⟨rfl, D2⟩
          have D02 := D1.go D2
          have E2 := E0.go D02
          have q2 := bq'.out w2 D02
          have r2 := br'.out w2 D02
          clear q1 p1
          go_wp2_with fail
          refine (refRight_any fc ad qt to A n c xs w2 (hx'.out.ext E2) nm).mono ?_
          rw [hq]
          rintro e w3 ⟨rfl, D3⟩
          have D03 := D02.go D3
          have E3 := E0.go D03
          have r3 := br'.out w3 D03
          clear q2 r2
          go_wp2_with fail
          refine (refRight_any fc' ad' qt' to' A' n' c' xs' w3 (hx2'.out.ext E3) nm2).mono ?_
          rw [hq2]
          rintro e w4 ⟨rfl, D4⟩
          have D04 := D03.go D4
          have E4 := E0.go D04
          have q4 := bq'.out w4 D04
          have p4 := bp'.out w4 D04
          clear r3
          go_wp2_with fail
          go_ret
          exact ⟨rfl, E4⟩
        · have hc : code ≠ 0 := by
            simp at t0 t1
            rcases h with h | h | h | h | h | h
            · omega
            · omega
            · omega
            · rw [hq] at h; cases h
            · rw [hq2] at h; cases h
            · exact h
          have t3 : (code != 0) = true := by simp; exact hc
          have t4 : (code == 0) = false := by simp; exact hc
          clear h hc
          go_enter Try.func12, Try.ntmps12
          go_wp2_with fail
          refine (replyHead_any _).mono ?_
          rintro e w1 ⟨rfl, D1⟩
          have q1 := bq'.out w1 D1
          have p1 := bp'.out w1 D1
          go_wp2_with fail
          refine (great_any fc ad qt to code A A2 n c n2 c2 w1).mono ?_
          rw [t0]
          rintro e w2 ⟨rfl, D2⟩
          have D02 := D1.go D2
          have E2 := E0.go D02
          have q2 := bq'.out w2 D02
          have r2 := br'.out w2 D02
          clear q1 p1
          go_wp2_with fail
          refine (refRight_any fc ad qt to A n c xs w2 (hx'.out.ext E2) nm).mono ?_
          rw [hq]
          rintro e w3 ⟨rfl, D3⟩
          have D03 := D02.go D3
          have E3 := E0.go D03
          have r3 := br'.out w3 D03
          clear q2 r2
          go_wp2_with fail
          refine (refRight_any fc' ad' qt' to' A' n' c' xs' w3 (hx2'.out.ext E3) nm2).mono ?_
          rw [hq2]
          rintro e w4 ⟨rfl, D4⟩
          have D04 := D03.go D4
          have E4 := E0.go D04
          have q4 := bq'.out w4 D04
          have p4 := bp'.out w4 D04
          clear r3
          go_wp2_with fail
          go_ret
          exact ⟨rfl, E4⟩
    · clear h
      go_enter Try.func12, Try.ntmps12
      go_wp2_with fail
      refine (replyHead_any _).mono ?_
      rintro e w1 ⟨rfl, D1⟩
      have q1 := bq'.out w1 D1
      have p1 := bp'.out w1 D1
      go_wp2_with fail
      refine (great_any fc ad qt to code A A2 n c n2 c2 w1).mono ?_
      rw [t0]
      rintro e w2 ⟨rfl, D2⟩
      have D02 := D1.go D2
      have E2 := E0.go D02
      have q2 := bq'.out w2 D02
      have r2 := br'.out w2 D02
      clear q1 p1
      go_wp2_with fail
      go_ret
      exact ⟨rfl, E2⟩
  · clear h
    go_enter Try.func12, Try.ntmps12
    go_wp2_with fail
    refine (replyHead_any _).mono ?_
    rintro e w1 ⟨rfl, D1⟩
    have q1 := bq'.out w1 D1
    have p1 := bp'.out w1 D1
    go_wp2_with fail
    refine (great_any fc ad qt to code A A2 n c n2 c2 w1).mono ?_
    rw [t0]
    rintro e w2 ⟨rfl, D2⟩
    have D02 := D1.go D2
    have E2 := E0.go D02
    have q2 := bq'.out w2 D02
    have r2 := br'.out w2 D02
    clear q1 p1
    go_wp2_with fail
    go_ret
    exact ⟨rfl, E2⟩
set_option maxHeartbeats 6400000 in
theorem replyOther_on (fc ad qt to fc' ad' qt' to' : Int) (A A' A2 : Option Addr) (n c n' c' n2 c2 : Nat) (xs xs' ys : List Int) (w : World) (hx : RdI w w.heap.size .u16 A n xs) (hr : ∀ j : Nat, 0 ≤ xs[j]?.getD 0 ∧ xs[j]?.getD 0 ≤ 65535) (nm : n ≤ maxLen) (hx2 : RdI w w.heap.size .u16 A' n' xs') (hr2 : ∀ j : Nat, 0 ≤ xs'[j]?.getD 0 ∧ xs'[j]?.getD 0 ≤ 65535) (nm2 : n' ≤ maxLen)
    (hy : RdI w w.heap.size .u16 A2 n2 ys) (hyr : ∀ j : Nat, 0 ≤ ys[j]?.getD 0 ∧ ys[j]?.getD 0 ≤ 65535) (nm3 : n2 ≤ maxLen) (h1 : n ≤ 3000) (h2 : n2 ≤ 3000) (h3 : n' ≤ 3000) (hq : rightB' fc ad qt to xs = true) (hq2 : rightB' fc' ad' qt' to' xs' = true) :
    Calls Try.prog 12 #[.agg #[.int .i64 fc, .int .i64 ad, .int .i64 qt, .slice A n c, .int .i64 to], .agg #[.int .i64 fc', .int .i64 ad', .int .i64 qt', .slice A' n' c', .int .i64 to'], .agg #[.int .i64 0, .slice A2 n2 c2]] w fun e w' => e = .returned (.bool true) ∧ Ext w w' := by
  have k2 : w.heap.size + 1 + 1 = w.heap.size + 2 := rfl
  have E0 := (((Ext.refl w).goA (.cells #[.int .i64 fc, .int .i64 ad, .int .i64 qt, .slice A n c, .int .i64 to] 34)).goA (.cells #[.int .i64 fc', .int .i64 ad', .int .i64 qt', .slice A' n' c', .int .i64 to'] 34)).goA (.cells #[.int .i64 0, .slice A2 n2 c2] 50)
  have bq : ∀ w', Ext (((w.alloc (.cells #[.int .i64 fc, .int .i64 ad, .int .i64 qt, .slice A n c, .int .i64 to] 34)).alloc (.cells #[.int .i64 fc', .int .i64 ad', .int .i64 qt', .slice A' n' c', .int .i64 to'] 34)).alloc (.cells #[.int .i64 0, .slice A2 n2 c2] 50)) w' → ∀ o, w'.cell? ⟨w.heap.size, o, none⟩ = _ := fun w' D => cellsAt ((D.block w.heap.size (by simp; omega)).trans (show (((w.alloc (.cells #[.int .i64 fc, .int .i64 ad, .int .i64 qt, .slice A n c, .int .i64 to] 34)).alloc (.cells #[.int .i64 fc', .int .i64 ad', .int .i64 qt', .slice A' n' c', .int .i64 to'] 34)).alloc (.cells #[.int .i64 0, .slice A2 n2 c2] 50)).heap[w.heap.size]? = some (.cells #[.int .i64 fc, .int .i64 ad, .int .i64 qt, .slice A n c, .int .i64 to] 34 (0, 0)) by rw [alloc_get, if_neg (by simp; omega), alloc_get, if_neg (by simp), alloc_get, if_pos rfl]))
  have br : ∀ w', Ext (((w.alloc (.cells #[.int .i64 fc, .int .i64 ad, .int .i64 qt, .slice A n c, .int .i64 to] 34)).alloc (.cells #[.int .i64 fc', .int .i64 ad', .int .i64 qt', .slice A' n' c', .int .i64 to'] 34)).alloc (.cells #[.int .i64 0, .slice A2 n2 c2] 50)) w' → ∀ o, w'.cell? ⟨w.heap.size + 1, o, none⟩ = _ := fun w' D => cellsAt ((D.block (w.heap.size + 1) (by simp)).trans (show (((w.alloc (.cells #[.int .i64 fc, .int .i64 ad, .int .i64 qt, .slice A n c, .int .i64 to] 34)).alloc (.cells #[.int .i64 fc', .int .i64 ad', .int .i64 qt', .slice A' n' c', .int .i64 to'] 34)).alloc (.cells #[.int .i64 0, .slice A2 n2 c2] 50)).heap[w.heap.size + 1]? = some (.cells #[.int .i64 fc', .int .i64 ad', .int .i64 qt', .slice A' n' c', .int .i64 to'] 34 (0, 0)) by rw [alloc_get, if_neg (by simp), alloc_get, if_pos (by simp)]))
  have bp : ∀ w', Ext (((w.alloc (.cells #[.int .i64 fc, .int .i64 ad, .int .i64 qt, .slice A n c, .int .i64 to] 34)).alloc (.cells #[.int .i64 fc', .int .i64 ad', .int .i64 qt', .slice A' n' c', .int .i64 to'] 34)).alloc (.cells #[.int .i64 0, .slice A2 n2 c2] 50)) w' → ∀ o, w'.cell? ⟨w.heap.size + 2, o, none⟩ = _ := fun w' D => cellsAt ((D.block (w.heap.size + 2) (by simp)).trans (show (((w.alloc (.cells #[.int .i64 fc, .int .i64 ad, .int .i64 qt, .slice A n c, .int .i64 to] 34)).alloc (.cells #[.int .i64 fc', .int .i64 ad', .int .i64 qt', .slice A' n' c', .int .i64 to'] 34)).alloc (.cells #[.int .i64 0, .slice A2 n2 c2] 50)).heap[w.heap.size + 2]? = some (.cells #[.int .i64 0, .slice A2 n2 c2] 50 (0, 0)) by rw [alloc_get, if_pos (by simp)]))
  have bq' := Lib.hid bq
  have br' := Lib.hid br
  have bp' := Lib.hid bp
  have hx' := Lib.hid hx
  have hx2' := Lib.hid hx2
  have hy' := Lib.hid hy
  have hr' := Lib.hid hr
  have hr2' := Lib.hid hr2
  have hyr' := Lib.hid hyr
  clear bq br bp hx hx2 hy hr hr2 hyr
  have t0 : (decide (3000 < (n : Int)) || decide (3000 < (n2 : Int))) = false := by simp; omega
  have t1 : decide (3000 < (n' : Int)) = false := by simp; omega
  have hpb := Lib.hid (rputL_bytes fc ad qt to xs 0 ys)
  have hq_ := Lib.hid hq
  have hq2_ := Lib.hid hq2
  clear h1 h2 h3
  go_enter Try.func12, Try.ntmps12
  go_wp2_with fail
  refine (replyHead_any _).mono ?_
  rintro e w1 ⟨rfl, D1⟩
  have q1 := bq'.out w1 D1
  have p1 := bp'.out w1 D1
  go_wp2_with fail
  refine (great_any fc ad qt to 0 A A2 n c n2 c2 w1).mono ?_
  rw [t0]
  rintro e w2 ⟨rfl, D2⟩
  have D02 := D1.go D2
  have E2 := E0.go D02
  have q2 := bq'.out w2 D02
  have r2 := br'.out w2 D02
  clear q1 p1
  go_wp2_with fail
  refine (refRight_any fc ad qt to A n c xs w2 (hx'.out.ext E2) nm).mono ?_
  rw [hq]
  rintro e w3 ⟨rfl, D3⟩
  have D03 := D02.go D3
  have E3 := E0.go D03
  have r3 := br'.out w3 D03
  clear q2 r2
  go_wp2_with fail
  refine (refRight_any fc' ad' qt' to' A' n' c' xs' w3 (hx2'.out.ext E3) nm2).mono ?_
  rw [hq2]
  rintro e w4 ⟨rfl, D4⟩
  have D04 := D03.go D4
  have E4 := E0.go D04
  have q4 := bq'.out w4 D04
  have p4 := bp'.out w4 D04
  clear r3
  go_wp2_with fail
  refine (rPut_any fc ad qt to 0 A A2 n c n2 c2 xs ys w4 (hx'.out.ext E4) hr'.out nm (hy'.out.ext E4) hyr'.out nm3).mono ?_
  rintro e w5 ⟨A5, n5, c5, rfl, g5, g5', r5, D5⟩
  have D05 := D04.go D5
  have E5 := E0.go D05
  have q5 := bq'.out w5 D05
  have r5q := br'.out w5 D05
  have l5 := r5.len
  clear q4 p4
  cases ha : ansR fc ad qt to xs 0 ys
  · have n0 : n5 = 0 := by unfold rputL at l5; rw [if_neg (by rw [ha]; decide)] at l5; exact l5.symm
    subst n0
    clear r5 l5
    go_wp2_with fail
    go_ret
    exact ⟨rfl, E5⟩
  · have hpr : rputL fc ad qt to xs 0 ys = repR fc ad qt to xs 0 ys := if_pos ha
    have hpb' := Lib.hid (repR_bytes ha)
    have hlen := rep_length ha
    have n0 : 0 < n5 := by
      rw [hpr] at l5
      rw [← l5]
      cases hb : readsB fc
      · have := hlen.2.2.1 rfl hb; omega
      · have := hlen.2.1 rfl hb; have q := right_reads (ans_parts ha).1 hb; split at this <;> omega
    have F := Lib.hid (other_facts ha hq_.out hq2_.out hr'.out hr2'.out hyr'.out)
    have t5 : (n5 == 0) = false := by simp; omega
    have t5' : ((n5 : Int) == 0) = false := by simp; omega
    have hpr' := Lib.hid hpr
    have hqq := right_qty hq_.out
    have hqq' := right_qty hq2_.out
    have q := fun hb => right_reads (ans_parts ha).1 hb
    rw [hpr] at r5
    clear hpb hlen hpr ha l5 n0
    generalize hR : rgetR fc' ad' qt' to' xs' (repR fc ad qt to xs 0 ys) = R
    rw [hR] at F
    obtain ⟨v1, v2, er⟩ := R
    have hR' := Lib.hid hR
    clear hR
    go_wp2_with fail
    refine (rget_any fc' ad' qt' to' A' A5 n' c' n5 c5 xs' _ w5 (hx2'.out.ext E5) hr2'.out nm2 r5 hpb'.out g5 g5').mono ?_
    rw [hR'.out]
    rintro e w6 ⟨A6, n6, c6, rfl, g6, g6', r6, D6⟩
    have D06 := D05.go D6
    have E6 := (E0.go D06).goA (.cells #[.int .i64 v1, .slice A6 n6 c6] 50)
    have q6 := bq'.out _ (D06.goA (.cells #[.int .i64 v1, .slice A6 n6 c6] 50))
    have z6' := br'.out _ (D06.goA (.cells #[.int .i64 v1, .slice A6 n6 c6] 50))
    have q7 := bq'.out w6 D06
    have z7' := br'.out w6 D06
    have z6 := D06.size
    simp only [alloc_size] at z6
    clear q5 r5q r5 r6 t5 t5'
    have x1 : IntKind.i64.wrap (qt + 7) = qt + 7 := by rw [IntKind.wrap_i64]; omega
    have x2 : (qt + 7).tdiv 8 = (qt + 7) / 8 := Int.tdiv_eq_ediv_of_nonneg (by omega)
    have x3 : IntKind.i64.wrap ((qt + 7) / 8) = (qt + 7) / 8 := by rw [IntKind.wrap_i64]; omega
    have y1 : IntKind.i64.wrap (qt' + 7) = qt' + 7 := by rw [IntKind.wrap_i64]; omega
    have y2 : (qt' + 7).tdiv 8 = (qt' + 7) / 8 := Int.tdiv_eq_ediv_of_nonneg (by omega)
    have y3 : IntKind.i64.wrap ((qt' + 7) / 8) = (qt' + 7) / 8 := by rw [IntKind.wrap_i64]; omega
    clear q
    by_cases hf : fc = fc'
    · have e0 : (fc != fc') = false := by simp; exact hf
      cases hb : readsB fc
      · by_cases h1 : ad = ad'
        · have e1 : (ad == ad') = true := by simp; exact h1
          by_cases h2 : qt = qt'
          · have e2 : (qt == qt') = true := by simp; exact h2
            by_cases h3 : fc = 15
            · have e3 : (fc == 15) = true := by simp; exact h3
              have e9 : (er == 0) = true := by have := (F.out.2.2.2 hf hb).1.2 ⟨h1, h2, .inl h3⟩; simpa using this
              clear h1 h2 h3 hf
              clear F hR'
              go_wp2_with fail
              refine (refReads_any fc _).mono ?_
              rw [hb]
              rintro e w7 ⟨rfl, rfl⟩
              go_wp2_with fail
              go_ret
              exact ⟨rfl, E6⟩
            · have e3 : (fc == 15) = false := by simp; exact h3
              by_cases h4 : fc = 16
              · have e4 : (fc == 16) = true := by simp; exact h4
                have e9 : (er == 0) = true := by have := (F.out.2.2.2 hf hb).1.2 ⟨h1, h2, .inr (.inl h4)⟩; simpa using this
                clear h1 h2 h3 h4 hf
                clear F hR'
                go_wp2_with fail
                refine (refReads_any fc _).mono ?_
                rw [hb]
                rintro e w7 ⟨rfl, rfl⟩
                go_wp2_with fail
                go_ret
                exact ⟨rfl, E6⟩
              · have e4 : (fc == 16) = false := by simp; exact h4
                by_cases h5 : xs = xs'
                · have e9 : (er == 0) = true := by have := (F.out.2.2.2 hf hb).1.2 ⟨h1, h2, .inr (.inr h5)⟩; simpa using this
                  have h5' : decide (xs = xs') = true := by simp; exact h5
                  clear h1 h2 h3 h4 h5 hf
                  clear F hR'
                  go_wp2_with fail
                  refine (refReads_any fc _).mono ?_
                  rw [hb]
                  rintro e w7 ⟨rfl, rfl⟩
                  go_wp2_with fail
                  refine (sameVals_any A A' n c n' c' _ xs xs' _ (hx'.out.ext E6) (hx2'.out.ext E6) nm nm2).mono ?_
                  rw [h5']
                  rintro e w8 ⟨rfl, m, rfl⟩
                  go_wp2_with fail
                  go_ret
                  exact ⟨rfl, E6.goD m⟩
                · have e9 : (er == 0) = false := by have := (not_congr (F.out.2.2.2 hf hb).1).2 (by rintro ⟨_, _, h | h | h⟩; exact h3 h; exact h4 h; exact h5 h); simpa using this
                  have h5' : decide (xs = xs') = false := by simp; exact h5
                  clear h1 h2 h3 h4 h5 hf
                  clear F hR'
                  go_wp2_with fail
                  refine (refReads_any fc _).mono ?_
                  rw [hb]
                  rintro e w7 ⟨rfl, rfl⟩
                  go_wp2_with fail
                  refine (sameVals_any A A' n c n' c' _ xs xs' _ (hx'.out.ext E6) (hx2'.out.ext E6) nm nm2).mono ?_
                  rw [h5']
                  rintro e w8 ⟨rfl, m, rfl⟩
                  go_wp2_with fail
                  go_ret
                  exact ⟨rfl, E6.goD m⟩
          · have e2 : (qt == qt') = false := by simp; exact h2
            have e9 : (er == 0) = false := by have := (not_congr (F.out.2.2.2 hf hb).1).2 (by rintro ⟨_, h, _⟩; exact h2 h); simpa using this
            clear h1 h2 hf
            clear F hR'
            go_wp2_with fail
            refine (refReads_any fc _).mono ?_
            rw [hb]
            rintro e w7 ⟨rfl, rfl⟩
            go_wp2_with fail
            go_ret
            exact ⟨rfl, E6⟩
        · have e1 : (ad == ad') = false := by simp; exact h1
          have e9 : (er == 0) = false := by have := (not_congr (F.out.2.2.2 hf hb).1).2 (by rintro ⟨h, _, _⟩; exact h1 h); simpa using this
          clear h1 hf
          clear F hR'
          go_wp2_with fail
          refine (refReads_any fc _).mono ?_
          rw [hb]
          rintro e w7 ⟨rfl, rfl⟩
          go_wp2_with fail
          go_ret
          exact ⟨rfl, E6⟩
      · cases hbb : readsBits fc
        · by_cases h1 : qt = qt'
          · have e1 : (qt == qt') = true := by simp; exact h1
            have e9 : (er == 0) = true := by have := (F.out.2.2.1 hf hb hbb).2 h1; simpa using this
            clear h1 hf
            clear F hR'
            go_wp2_with fail
            refine (refReads_any fc _).mono ?_
            rw [hb, hbb]
            rintro e w7 ⟨rfl, rfl⟩
            go_wp2_with fail
            go_ret
            exact ⟨rfl, E6⟩
          · have e1 : (qt == qt') = false := by simp; exact h1
            have e9 : (er == 0) = false := by have := (not_congr (F.out.2.2.1 hf hb hbb)).2 h1; simpa using this
            clear h1 hf
            clear F hR'
            go_wp2_with fail
            refine (refReads_any fc _).mono ?_
            rw [hb, hbb]
            rintro e w7 ⟨rfl, rfl⟩
            go_wp2_with fail
            go_ret
            exact ⟨rfl, E6⟩
        · by_cases h1 : qt = qt'
          · have e1 : (qt != qt') = false := by simp; exact h1
            have e2 : ((qt + 7) / 8 == (qt' + 7) / 8) = true := by rw [beq_iff_eq, h1]
            have e9 : (er == 0) = true := by have := (F.out.2.1 hf hb hbb).1 h1; simpa using this
            clear h1 hf
            clear F hR'
            go_wp2_with fail
            refine (refReads_any fc _).mono ?_
            rw [hb, hbb]
            rintro e w7 ⟨rfl, rfl⟩
            go_wp2_with fail
            go_ret
            exact ⟨rfl, E6⟩
          · have e1 : (qt != qt') = true := by simp; exact h1
            by_cases h2 : (qt + 7) / 8 = (qt' + 7) / 8
            · have e2 : ((qt + 7) / 8 == (qt' + 7) / 8) = true := by rw [beq_iff_eq]; exact h2
              clear h1 h2 hf
              clear F hR'
              go_wp2_with fail
              refine (refReads_any fc _).mono ?_
              rw [hb, hbb]
              rintro e w7 ⟨rfl, rfl⟩
              go_wp2_with fail
              all_goals
                go_ret
                exact ⟨rfl, E6⟩
            · have e2 : ((qt + 7) / 8 == (qt' + 7) / 8) = false := by rw [beq_eq_false_iff_ne]; exact h2
              have e9 : (er == 51) = true := by have := (F.out.2.1 hf hb hbb).2 h2; simpa using this
              have e8 : (er == 0) = false := by simp at e9 ⊢; omega
              clear h1 h2 hf
              clear F hR'
              go_wp2_with fail
              refine (refReads_any fc _).mono ?_
              rw [hb, hbb]
              rintro e w7 ⟨rfl, rfl⟩
              go_wp2_with fail
              all_goals
                go_ret
                exact ⟨rfl, E6⟩
    · have e0 : (fc != fc') = true := by simp; exact hf
      have e9 : (er == 51) = true := by have := F.out.1 hf; simpa using this
      clear hf
      go_wp2_with fail
      go_ret
      exact ⟨rfl, E6⟩
theorem replyOther_any (fc ad qt to fc' ad' qt' to' code : Int) (A A' A2 : Option Addr) (n c n' c' n2 c2 : Nat) (xs xs' ys : List Int) (w : World) (hx : RdI w w.heap.size .u16 A n xs) (hr : ∀ j : Nat, 0 ≤ xs[j]?.getD 0 ∧ xs[j]?.getD 0 ≤ 65535) (nm : n ≤ maxLen) (hx2 : RdI w w.heap.size .u16 A' n' xs') (hr2 : ∀ j : Nat, 0 ≤ xs'[j]?.getD 0 ∧ xs'[j]?.getD 0 ≤ 65535) (nm2 : n' ≤ maxLen)
    (hy : RdI w w.heap.size .u16 A2 n2 ys) (hyr : ∀ j : Nat, 0 ≤ ys[j]?.getD 0 ∧ ys[j]?.getD 0 ≤ 65535) (nm3 : n2 ≤ maxLen) :
    Calls Try.prog 12 #[.agg #[.int .i64 fc, .int .i64 ad, .int .i64 qt, .slice A n c, .int .i64 to], .agg #[.int .i64 fc', .int .i64 ad', .int .i64 qt', .slice A' n' c', .int .i64 to'], .agg #[.int .i64 code, .slice A2 n2 c2]] w fun e w' => e = .returned (.bool true) ∧ Ext w w' := by
  by_cases h : 3000 < n ∨ 3000 < n2 ∨ 3000 < n' ∨ rightB' fc ad qt to xs = false ∨ rightB' fc' ad' qt' to' xs' = false ∨ code ≠ 0
  · exact replyOther_off fc ad qt to fc' ad' qt' to' code A A' A2 n c n' c' n2 c2 xs xs' ys w hx hr nm hx2 hr2 nm2 hy hyr h
  · simp only [not_or, Bool.not_eq_false, Classical.not_not] at h
    obtain ⟨h1, h2, h3, h4, h5, rfl⟩ := h
    exact replyOther_on fc ad qt to fc' ad' qt' to' A A' A2 n c n' c' n2 c2 xs xs' ys w hx hr nm hx2 hr2 nm2 hy hyr nm3 (by omega) (by omega) (by omega) h4 h5
end Go.Proofs.Ytkkbjchoilcjlaa
