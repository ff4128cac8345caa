/- The reference of layer 4: Same. -/
import Derived.Test.YtkkbjchoilcjlaaRef04
namespace Go.Proofs.Ytkkbjchoilcjlaa
open Go.RowKit

set_option maxHeartbeats 1600000 in
theorem same_any (fc ad qt to fc' ad' qt' to' : Int) (A A' : Option Addr) (n c n' c' B : Nat) (xs ys : List Int) (w : World) (h1 : RdI w B .u16 A n xs) (h2 : RdI w B .u16 A' n' ys) (hB : B ≤ w.heap.size) (hn : n ≤ maxLen) (hn' : n' ≤ maxLen) :
    Calls Try.prog 24 #[.agg #[.int .i64 fc, .int .i64 ad, .int .i64 qt, .slice A n c, .int .i64 to], .agg #[.int .i64 fc', .int .i64 ad', .int .i64 qt', .slice A' n' c', .int .i64 to']] w
      fun e w' => e = .returned (.bool ((fc == fc') && ((ad == ad') && ((qt == qt') && ((to == to') && decide (xs = ys)))))) ∧ Ext w w' := by
  have E2 := ((Ext.refl w).goA (.cells #[.int .i64 fc, .int .i64 ad, .int .i64 qt, .slice A n c, .int .i64 to] 34)).goA (.cells #[.int .i64 fc', .int .i64 ad', .int .i64 qt', .slice A' n' c', .int .i64 to'] 34)
  have r1 := Lib.hid (h1.keep (w' := _) fun b hb => E2.block b (Nat.lt_of_lt_of_le hb hB))
  have r2 := Lib.hid (h2.keep (w' := _) fun b hb => E2.block b (Nat.lt_of_lt_of_le hb hB))
  clear h1 h2
  cases e1 : (fc == fc')
  · go_enter Try.func24, Try.ntmps24
    go_wp2_with fail
    go_ret
    exact ⟨rfl, E2⟩
  · cases e2 : (ad == ad')
    · go_enter Try.func24, Try.ntmps24
      go_wp2_with fail
      go_ret
      exact ⟨rfl, E2⟩
    · cases e3 : (qt == qt')
      · go_enter Try.func24, Try.ntmps24
        go_wp2_with fail
        go_ret
        exact ⟨rfl, E2⟩
      · cases e4 : (to == to')
        · go_enter Try.func24, Try.ntmps24
          go_wp2_with fail
          go_ret
          exact ⟨rfl, E2⟩
        · go_enter Try.func24, Try.ntmps24
          go_wp2_with fail
          refine (sameVals_any A A' n c n' c' B xs ys _ r1.out r2.out hn hn').mono ?_
          rintro e w1 ⟨rfl, m, rfl⟩
          go_wp2_with fail
          go_ret
          exact ⟨rfl, E2.goD m⟩
end Go.Proofs.Ytkkbjchoilcjlaa
