/- Layer 16: the live question of its laws is answered true. -/
import Derived.Test.YtkkbjchoilcjlaaKeyRef
import Derived.Test.YtkkbjchoilcjlaaRef04
namespace Go.Proofs.Ytkkbjchoilcjlaa
open Go.RowKit

def abc : ByteArray := ⟨#[97, 98, 99]⟩
theorem sum_size (s : ByteArray) (h : rightB s = true) : (sumS s).size = 16 := by
  unfold sumS; rw [if_pos h, strOfNums_size, toldL_length]
theorem sum_none (s : ByteArray) (h : rightB s = false) : sumS s = ⟨#[]⟩ := by
  unfold sumS; rw [h]; rfl

theorem k_abc : rightB ⟨#[97, 98, 99]⟩ = true := by decide
theorem k_abd : rightB ⟨#[97, 98, 100]⟩ = true := by decide
theorem k_no : rightB ⟨#[]⟩ = false := by decide
theorem k_a0 : rightB ⟨#[97, 0]⟩ = false := by decide
theorem s_abd : ((sumS ⟨#[97, 98, 99]⟩).toList == (sumS ⟨#[97, 98, 100]⟩).toList) = false := by decide +kernel
theorem w_abc : wordsTo ⟨#[97, 98, 99]⟩ 3 = [24930, 25344] := by decide
theorem t_abc : textS [24930, 25344, 25700] 3 = ⟨#[97, 98, 99]⟩ := by decide
theorem t_no : textS [] 0 = ⟨#[]⟩ := by decide
set_option maxHeartbeats 1600000 in
theorem keyHead_any (w : World) :
    Calls Try.prog 15 #[] w fun e w' => e = .returned (.bool true) ∧ Ext w w' := by
  have f1 := k_abc
  have f2 := k_abd
  have f3 := s_abd
  have f4 := k_no
  have f5 : sumS ⟨#[]⟩ = ⟨#[]⟩ := sum_none _ k_no
  have f6 : sumS ⟨#[97, 0]⟩ = ⟨#[]⟩ := sum_none _ k_a0
  have f7 : (sumS ⟨#[97, 98, 99]⟩).size = 16 := sum_size _ k_abc
  go_enter Try.func15, Try.ntmps15
  go_wp2_with fail
  refine (sum_any _ _ (by decide)).mono ?_; rintro e w1 ⟨rfl, d1⟩
  go_wp2_with fail
  refine (refSum_any _ _ (by decide)).mono ?_; rintro e w2 ⟨rfl, d2⟩
  go_wp2_with fail
  refine (match_any _ _ _ (by decide)).mono ?_; rintro e w3 ⟨rfl, d3⟩
  go_wp2_with fail
  refine (match_any _ _ _ (by decide)).mono ?_; rintro e w4 ⟨rfl, d4⟩
  go_wp2_with fail
  refine (match_any _ _ _ (by decide)).mono ?_; rintro e w5 ⟨rfl, d5⟩
  go_wp2_with fail
  refine (sum_any _ _ (by decide)).mono ?_; rintro e w6 ⟨rfl, d6⟩
  go_wp2_with fail
  refine (sum_any _ _ (by decide)).mono ?_; rintro e w7 ⟨rfl, d7⟩
  go_wp2_with fail
  refine (words_yes _ _ (by decide) k_abc).mono ?_; rintro e w8 ⟨rfl, b8, d8⟩
  go_wp2_with fail
  have r8 : RdI (w8.alloc (.cells #[.int .u16 24930, .int .u16 25344] 28)) (w8.heap.size + 1) .u16 (some ⟨w7.heap.size, 0, none⟩) 2 [24930, 25344] := by
    have := (b8.alloc (.cells #[.int .u16 24930, .int .u16 25344] 28)).rd (B := w8.heap.size + 1) (by have := b8.lt; omega)
    have e : (⟨#[97, 98, 99]⟩ : ByteArray).size = 3 := rfl
    rw [e, w_abc] at this
    exact this
  refine (sameVals_any _ _ _ _ _ _ _ _ _ _ r8 (RdI.new [24930, 25344] (by simp) rfl rfl) (by decide) (by decide)).mono ?_; rintro e w9 ⟨rfl, m9, rfl⟩
  go_wp2_with fail
  refine (text_any _ _ _ _ _ _ (RdI.new [24930, 25344, 25700] (by simp) rfl rfl) (by simp) (by decide)).mono ?_; rintro e w10 ⟨rfl, d10⟩
  have f8 := t_abc
  have f9 := t_no
  go_wp2_with fail
  refine (text_any _ _ _ 0 [] _ (RdI.nil _) (by omega) (by decide)).mono ?_; rintro e w11 ⟨rfl, d11⟩
  go_wp2_with fail
  go_ret
  exact ⟨rfl, (((((((((((d1.go d2).go d3).go d4).go d5).go d6).go d7).go d8).goA _).goD _).goA _).go d10).go d11⟩
end Go.Proofs.Ytkkbjchoilcjlaa
