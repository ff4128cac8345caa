/- The reference of layer 4: Put. -/
import Derived.Test.YtkkbjchoilcjlaaRef04Bytes
import Derived.Test.YtkkbjchoilcjlaaRef04Right
import Derived.Test.YtkkbjchoilcjlaaReplyE
namespace Go.Proofs.Ytkkbjchoilcjlaa
open Go.RowKit

set_option maxHeartbeats 1600000 in
theorem refPut_any (fc ad qt to : Int) (A : Option Addr) (n c : Nat) (xs : List Int) (w : World) (hx : RdI w w.heap.size .u16 A n xs) (hr : ∀ j : Nat, 0 ≤ xs[j]?.getD 0 ∧ xs[j]?.getD 0 ≤ 65535) (hn : n ≤ maxLen) :
    Calls Try.prog 39 #[.agg #[.int .i64 fc, .int .i64 ad, .int .i64 qt, .slice A n c, .int .i64 to]] w (RetI .u8 (putL fc ad qt to xs) w) := by
  have W0 := heap_alloc_new w (.cells #[.int .i64 fc, .int .i64 ad, .int .i64 qt, .slice A n c, .int .i64 to] 34)
  have E0 := (Ext.refl w).goA (.cells #[.int .i64 fc, .int .i64 ad, .int .i64 qt, .slice A n c, .int .i64 to] 34)
  have bq : ∀ w', Ext (w.alloc (.cells #[.int .i64 fc, .int .i64 ad, .int .i64 qt, .slice A n c, .int .i64 to] 34)) w' → ∀ o, w'.cell? ⟨w.heap.size, o, none⟩ = _ := fun w' D => cellsAt ((D.block w.heap.size (by simp)).trans W0)
  have hx' := Lib.hid hx
  have hr' := Lib.hid hr
  have bq' := Lib.hid bq
  clear hx hr bq W0
  cases hq : rightB' fc ad qt to xs
  · have hL : putL fc ad qt to xs = [] := by
      unfold rightB' at hq
      unfold putL
      cases hs : shapeOf fc with
      | none => rfl
      | some s => rw [hs] at hq; dsimp only at hq ⊢; rw [hq, if_neg (by decide)]
    have hL' := Lib.hid hL
    have hq' := Lib.hid hq
    clear hL hq
    go_enter Try.func39, Try.ntmps39
    go_wp2_with fail
    refine (refRight_any fc ad qt to A n c xs _ (hx'.out.ext E0) hn).mono ?_
    rw [hq'.out]
    rintro e w1 ⟨rfl, D1⟩
    go_wp2_with fail
    go_ret
    rw [hL'.out]
    exact ⟨_, _, _, rfl, Nat.le_refl _, by decide, RdI.nil _, E0.go D1⟩
  · obtain ⟨s, hs, g1, g2⟩ := right_parts hq
    have hL : putL fc ad qt to xs = codedL s fc ad qt to xs := by unfold putL; rw [hs]; dsimp only; rw [g1, g2, Bool.and_self, if_pos rfl]
    have hL' := Lib.hid hL
    have hq' := Lib.hid hq
    have hs' := Lib.hid hs
    have g1' := Lib.hid g1
    clear hL hq hs g1 g2
    go_enter Try.func39, Try.ntmps39
    go_wp2_with fail
    refine (refRight_any fc ad qt to A n c xs _ (hx'.out.ext E0) hn).mono ?_
    rw [hq'.out]
    rintro e w1 ⟨rfl, D1⟩
    have q1 := bq'.out w1 D1
    have E1 := E0.go D1
    go_wp2_with fail
    refine (refBytes_any s fc ad qt to hs'.out A n c xs _ (hx'.out.ext E1) hr'.out g1'.out).mono ?_
    rintro e w2 ⟨A2, n2, c2, rfl, g2, g2', r2, D2⟩
    go_wp2_with fail
    go_ret
    rw [hL'.out]
    exact ⟨_, _, _, rfl, g2, g2', r2, E1.go D2⟩
end Go.Proofs.Ytkkbjchoilcjlaa
