/- Layer 4: the law PduBounds, walked. -/
import Derived.Test.YtkkbjchoilcjlaaPduHead
namespace Go.Proofs.Ytkkbjchoilcjlaa
open Go.RowKit

theorem bounds_right (k ad n most : Int) (hk : shapeOf k = some ⟨0, most, 0, true⟩ ∨ shapeOf k = some ⟨0, most, 0, false⟩) (a0 : 0 ≤ ad) (a1 : ad ≤ 65535) (n0 : 0 ≤ n) :
    rightB' k ad n 0 [] = (decide (1 ≤ n) && (decide (n ≤ most) && decide (ad + n ≤ 65536))) := by
  have key : ∀ b, (holdsB ⟨0, most, 0, b⟩ ad n 0 [] && fitsB ad n 0 0) = (decide (1 ≤ n) && (decide (n ≤ most) && decide (ad + n ≤ 65536))) := by
    intro b
    by_cases h1 : 1 ≤ n
    · by_cases h2 : n ≤ most
      · have e1 : holdsB ⟨0, most, 0, b⟩ ad n 0 [] = true := by
          unfold holdsB
          rw [if_neg (by dsimp only; omega), if_neg (by dsimp only; simp; omega), if_pos rfl]
          rfl
        rw [e1]
        unfold fitsB
        rw [Int.max_eq_left h1]
        simp [h1, h2]
      · have e1 : holdsB ⟨0, most, 0, b⟩ ad n 0 [] = false := by
          unfold holdsB
          rw [if_pos (by dsimp only; omega)]
        rw [e1]
        simp [h2]
    · have e1 : holdsB ⟨0, most, 0, b⟩ ad n 0 [] = false := by
        unfold holdsB
        by_cases h2 : most < n
        · rw [if_pos (by dsimp only; omega)]
        · have h0 : n = 0 := by omega
          subst h0
          rw [if_neg (by dsimp only; omega), if_pos (by left; rfl)]
      rw [e1]
      simp [h1]
  unfold rightB'
  rcases hk with hk | hk <;> rw [hk] <;> exact key _
theorem bounds_wrong (k ad n most : Int) (hk : shapeOf k = some ⟨0, most, 0, true⟩ ∨ shapeOf k = some ⟨0, most, 0, false⟩) :
    rightB' k ad n 0 [0] = false := by
  have key : ∀ b, holdsB ⟨0, most, 0, b⟩ ad n 0 [0] = false := by
    intro b
    unfold holdsB
    split
    · rfl
    split
    · rfl
    rw [if_pos rfl]
    rfl
  unfold rightB'
  rcases hk with hk | hk <;> rw [hk] <;> dsimp only <;> rw [key, Bool.false_and]

set_option maxHeartbeats 1600000 in
theorem pduBounds_one (x ad n r k most : Int) (w : World) (hx : x.tmod 4 = r) (hk : (r, k, most) ∈ [(0, 1, (2000 : Int)), (1, 2, 2000), (2, 3, 125), (3, (4 : Int), (125 : Int))]) (a0 : 0 ≤ ad) (a1 : ad ≤ 65535) (n0 : 0 ≤ n) (n1 : n ≤ 65535) :
    Calls Try.prog 9 #[.int .u8 x, .int .u16 ad, .int .u16 n] w fun e w' => e = .returned (.bool true) ∧ Ext w w' := by
  have hs : shapeOf k = some ⟨0, most, 0, true⟩ ∨ shapeOf k = some ⟨0, most, 0, false⟩ := by
    simp only [List.mem_cons, List.not_mem_nil, or_false, Prod.mk.injEq] at hk
    rcases hk with ⟨-, rfl, rfl⟩ | ⟨-, rfl, rfl⟩ | ⟨-, rfl, rfl⟩ | ⟨-, rfl, rfl⟩
    · exact .inl rfl
    · exact .inl rfl
    · exact .inr rfl
    · exact .inr rfl
  have R1 := Lib.hid (bounds_right k ad n most hs a0 a1 n0)
  have R2 := Lib.hid (bounds_wrong k ad n most hs)
  clear hs
  have w1 : IntKind.i64.wrap ad = ad := by rw [IntKind.wrap_i64]; omega
  have w2 : IntKind.i64.wrap n = n := by rw [IntKind.wrap_i64]; omega
  have w3 : IntKind.i64.wrap (ad + n) = ad + n := by rw [IntKind.wrap_i64]; omega
  simp only [List.mem_cons, List.not_mem_nil, or_false, Prod.mk.injEq] at hk
  rcases hk with ⟨rfl, rfl, rfl⟩ | ⟨rfl, rfl, rfl⟩ | ⟨rfl, rfl, rfl⟩ | ⟨rfl, rfl, rfl⟩
  · cases t1 : decide (1 ≤ n)
    · go_enter Try.func9, Try.ntmps9
      go_wp2_with fail
      refine (pduHead_any w).mono ?_
      rintro e w1 ⟨rfl, D1⟩
      go_wp2_with fail
      refine (pduRight_any _ _ _ _ none 0 0 [] _ (RdI.nil _) (by decide)).mono ?_
      rw [R1.out, t1, Bool.false_and]
      rintro e w2 ⟨rfl, D2⟩
      go_wp2_with fail
      refine (pduRight_any _ _ _ _ _ 1 1 [0] _ (by rw [alloc_size]; exact RdI.new [0] rfl rfl rfl) (by decide)).mono ?_
      rw [R2.out]
      rintro e w3 ⟨rfl, D3⟩
      go_wp2_with fail
      go_ret
      exact ⟨rfl, (((D1.goA _).go D2).goA _).go D3⟩
    · cases t2 : decide (n ≤ 2000)
      · go_enter Try.func9, Try.ntmps9
        go_wp2_with fail
        refine (pduHead_any w).mono ?_
        rintro e w1 ⟨rfl, D1⟩
        go_wp2_with fail
        refine (pduRight_any _ _ _ _ none 0 0 [] _ (RdI.nil _) (by decide)).mono ?_
        rw [R1.out, t1, t2, Bool.true_and, Bool.false_and]
        rintro e w2 ⟨rfl, D2⟩
        go_wp2_with fail
        refine (pduRight_any _ _ _ _ _ 1 1 [0] _ (by rw [alloc_size]; exact RdI.new [0] rfl rfl rfl) (by decide)).mono ?_
        rw [R2.out]
        rintro e w3 ⟨rfl, D3⟩
        go_wp2_with fail
        go_ret
        exact ⟨rfl, (((D1.goA _).go D2).goA _).go D3⟩
      · cases t3 : decide (ad + n ≤ 65536)
        all_goals
          go_enter Try.func9, Try.ntmps9
          go_wp2_with fail
          refine (pduHead_any w).mono ?_
          rintro e w1 ⟨rfl, D1⟩
          go_wp2_with fail
          refine (pduRight_any _ _ _ _ none 0 0 [] _ (RdI.nil _) (by decide)).mono ?_
          rw [R1.out, t1, t2, t3, Bool.true_and, Bool.true_and]
          rintro e w2 ⟨rfl, D2⟩
          go_wp2_with fail
          refine (pduRight_any _ _ _ _ _ 1 1 [0] _ (by rw [alloc_size]; exact RdI.new [0] rfl rfl rfl) (by decide)).mono ?_
          rw [R2.out]
          rintro e w3 ⟨rfl, D3⟩
          go_wp2_with fail
          go_ret
          exact ⟨rfl, (((D1.goA _).go D2).goA _).go D3⟩
  · cases t1 : decide (1 ≤ n)
    · go_enter Try.func9, Try.ntmps9
      go_wp2_with fail
      refine (pduHead_any w).mono ?_
      rintro e w1 ⟨rfl, D1⟩
      go_wp2_with fail
      refine (pduRight_any _ _ _ _ none 0 0 [] _ (RdI.nil _) (by decide)).mono ?_
      rw [R1.out, t1, Bool.false_and]
      rintro e w2 ⟨rfl, D2⟩
      go_wp2_with fail
      refine (pduRight_any _ _ _ _ _ 1 1 [0] _ (by rw [alloc_size]; exact RdI.new [0] rfl rfl rfl) (by decide)).mono ?_
      rw [R2.out]
      rintro e w3 ⟨rfl, D3⟩
      go_wp2_with fail
      go_ret
      exact ⟨rfl, (((D1.goA _).go D2).goA _).go D3⟩
    · cases t2 : decide (n ≤ 2000)
      · go_enter Try.func9, Try.ntmps9
        go_wp2_with fail
        refine (pduHead_any w).mono ?_
        rintro e w1 ⟨rfl, D1⟩
        go_wp2_with fail
        refine (pduRight_any _ _ _ _ none 0 0 [] _ (RdI.nil _) (by decide)).mono ?_
        rw [R1.out, t1, t2, Bool.true_and, Bool.false_and]
        rintro e w2 ⟨rfl, D2⟩
        go_wp2_with fail
        refine (pduRight_any _ _ _ _ _ 1 1 [0] _ (by rw [alloc_size]; exact RdI.new [0] rfl rfl rfl) (by decide)).mono ?_
        rw [R2.out]
        rintro e w3 ⟨rfl, D3⟩
        go_wp2_with fail
        go_ret
        exact ⟨rfl, (((D1.goA _).go D2).goA _).go D3⟩
      · cases t3 : decide (ad + n ≤ 65536)
        all_goals
          go_enter Try.func9, Try.ntmps9
          go_wp2_with fail
          refine (pduHead_any w).mono ?_
          rintro e w1 ⟨rfl, D1⟩
          go_wp2_with fail
          refine (pduRight_any _ _ _ _ none 0 0 [] _ (RdI.nil _) (by decide)).mono ?_
          rw [R1.out, t1, t2, t3, Bool.true_and, Bool.true_and]
          rintro e w2 ⟨rfl, D2⟩
          go_wp2_with fail
          refine (pduRight_any _ _ _ _ _ 1 1 [0] _ (by rw [alloc_size]; exact RdI.new [0] rfl rfl rfl) (by decide)).mono ?_
          rw [R2.out]
          rintro e w3 ⟨rfl, D3⟩
          go_wp2_with fail
          go_ret
          exact ⟨rfl, (((D1.goA _).go D2).goA _).go D3⟩
  · cases t1 : decide (1 ≤ n)
    · go_enter Try.func9, Try.ntmps9
      go_wp2_with fail
      refine (pduHead_any w).mono ?_
      rintro e w1 ⟨rfl, D1⟩
      go_wp2_with fail
      refine (pduRight_any _ _ _ _ none 0 0 [] _ (RdI.nil _) (by decide)).mono ?_
      rw [R1.out, t1, Bool.false_and]
      rintro e w2 ⟨rfl, D2⟩
      go_wp2_with fail
      refine (pduRight_any _ _ _ _ _ 1 1 [0] _ (by rw [alloc_size]; exact RdI.new [0] rfl rfl rfl) (by decide)).mono ?_
      rw [R2.out]
      rintro e w3 ⟨rfl, D3⟩
      go_wp2_with fail
      go_ret
      exact ⟨rfl, (((D1.goA _).go D2).goA _).go D3⟩
    · cases t2 : decide (n ≤ 125)
      · go_enter Try.func9, Try.ntmps9
        go_wp2_with fail
        refine (pduHead_any w).mono ?_
        rintro e w1 ⟨rfl, D1⟩
        go_wp2_with fail
        refine (pduRight_any _ _ _ _ none 0 0 [] _ (RdI.nil _) (by decide)).mono ?_
        rw [R1.out, t1, t2, Bool.true_and, Bool.false_and]
        rintro e w2 ⟨rfl, D2⟩
        go_wp2_with fail
        refine (pduRight_any _ _ _ _ _ 1 1 [0] _ (by rw [alloc_size]; exact RdI.new [0] rfl rfl rfl) (by decide)).mono ?_
        rw [R2.out]
        rintro e w3 ⟨rfl, D3⟩
        go_wp2_with fail
        go_ret
        exact ⟨rfl, (((D1.goA _).go D2).goA _).go D3⟩
      · cases t3 : decide (ad + n ≤ 65536)
        all_goals
          go_enter Try.func9, Try.ntmps9
          go_wp2_with fail
          refine (pduHead_any w).mono ?_
          rintro e w1 ⟨rfl, D1⟩
          go_wp2_with fail
          refine (pduRight_any _ _ _ _ none 0 0 [] _ (RdI.nil _) (by decide)).mono ?_
          rw [R1.out, t1, t2, t3, Bool.true_and, Bool.true_and]
          rintro e w2 ⟨rfl, D2⟩
          go_wp2_with fail
          refine (pduRight_any _ _ _ _ _ 1 1 [0] _ (by rw [alloc_size]; exact RdI.new [0] rfl rfl rfl) (by decide)).mono ?_
          rw [R2.out]
          rintro e w3 ⟨rfl, D3⟩
          go_wp2_with fail
          go_ret
          exact ⟨rfl, (((D1.goA _).go D2).goA _).go D3⟩
  · cases t1 : decide (1 ≤ n)
    · go_enter Try.func9, Try.ntmps9
      go_wp2_with fail
      refine (pduHead_any w).mono ?_
      rintro e w1 ⟨rfl, D1⟩
      go_wp2_with fail
      refine (pduRight_any _ _ _ _ none 0 0 [] _ (RdI.nil _) (by decide)).mono ?_
      rw [R1.out, t1, Bool.false_and]
      rintro e w2 ⟨rfl, D2⟩
      go_wp2_with fail
      refine (pduRight_any _ _ _ _ _ 1 1 [0] _ (by rw [alloc_size]; exact RdI.new [0] rfl rfl rfl) (by decide)).mono ?_
      rw [R2.out]
      rintro e w3 ⟨rfl, D3⟩
      go_wp2_with fail
      go_ret
      exact ⟨rfl, (((D1.goA _).go D2).goA _).go D3⟩
    · cases t2 : decide (n ≤ 125)
      · go_enter Try.func9, Try.ntmps9
        go_wp2_with fail
        refine (pduHead_any w).mono ?_
        rintro e w1 ⟨rfl, D1⟩
        go_wp2_with fail
        refine (pduRight_any _ _ _ _ none 0 0 [] _ (RdI.nil _) (by decide)).mono ?_
        rw [R1.out, t1, t2, Bool.true_and, Bool.false_and]
        rintro e w2 ⟨rfl, D2⟩
        go_wp2_with fail
        refine (pduRight_any _ _ _ _ _ 1 1 [0] _ (by rw [alloc_size]; exact RdI.new [0] rfl rfl rfl) (by decide)).mono ?_
        rw [R2.out]
        rintro e w3 ⟨rfl, D3⟩
        go_wp2_with fail
        go_ret
        exact ⟨rfl, (((D1.goA _).go D2).goA _).go D3⟩
      · cases t3 : decide (ad + n ≤ 65536)
        all_goals
          go_enter Try.func9, Try.ntmps9
          go_wp2_with fail
          refine (pduHead_any w).mono ?_
          rintro e w1 ⟨rfl, D1⟩
          go_wp2_with fail
          refine (pduRight_any _ _ _ _ none 0 0 [] _ (RdI.nil _) (by decide)).mono ?_
          rw [R1.out, t1, t2, t3, Bool.true_and, Bool.true_and]
          rintro e w2 ⟨rfl, D2⟩
          go_wp2_with fail
          refine (pduRight_any _ _ _ _ _ 1 1 [0] _ (by rw [alloc_size]; exact RdI.new [0] rfl rfl rfl) (by decide)).mono ?_
          rw [R2.out]
          rintro e w3 ⟨rfl, D3⟩
          go_wp2_with fail
          go_ret
          exact ⟨rfl, (((D1.goA _).go D2).goA _).go D3⟩
theorem pduBounds_any (x ad n : Int) (w : World) (x0 : 0 ≤ x ∧ x ≤ 255) (a0 : 0 ≤ ad ∧ ad ≤ 65535) (n0 : 0 ≤ n ∧ n ≤ 65535) :
    Calls Try.prog 9 #[.int .u8 x, .int .u16 ad, .int .u16 n] w fun e w' => e = .returned (.bool true) ∧ Ext w w' := by
  have h : x.tmod 4 = x % 4 := Int.tmod_eq_emod_of_nonneg x0.1
  rcases (show x % 4 = 0 ∨ x % 4 = 1 ∨ x % 4 = 2 ∨ x % 4 = 3 by omega) with r | r | r | r
  · exact pduBounds_one x ad n 0 1 2000 w (by omega) (by decide) a0.1 a0.2 n0.1 n0.2
  · exact pduBounds_one x ad n 1 2 2000 w (by omega) (by decide) a0.1 a0.2 n0.1 n0.2
  · exact pduBounds_one x ad n 2 3 125 w (by omega) (by decide) a0.1 a0.2 n0.1 n0.2
  · exact pduBounds_one x ad n 3 4 125 w (by omega) (by decide) a0.1 a0.2 n0.1 n0.2
end Go.Proofs.Ytkkbjchoilcjlaa
