/- Layer 23, a plain law: what is served changes no row that is shown; a slave at rest; a row read whole. -/
import Derived.Test.YtgeahfkhfpdlhaaG22
namespace Go.Proofs.Ytgeahfkhfpdlhaa
open Go.RowKit

theorem right_shown {fc ad qt to : Int} {xs : List Int} (h : rightB' fc ad qt to xs = true) (hk : kindN fc = 1 ∨ kindN fc = 3) : xs = [] ∧ fc ≠ 22 := by
  have hf := right_fc h
  obtain ⟨s, hs, h1, h2⟩ := right_parts h
  obtain ⟨-, -, -, -, -, f0, f1, f2, f3⟩ := holds_parts h1
  rcases hf with rfl | rfl | rfl | rfl | rfl | rfl | rfl | rfl | rfl | rfl
  all_goals first | (exfalso; revert hk; decide) | (injection hs with hs; subst hs)
  · exact ⟨f0 rfl, by decide⟩
  · exact ⟨f0 rfl, by decide⟩
theorem do_shown (L : Nat → List Int) (fc ad qt to : Int) (xs : List Int) {k : Nat} (hk : k = 1 ∨ k = 3) : doL L fc ad qt to xs k = L k := by
  unfold doL
  split
  · rename_i h
    by_cases e : k = kindN fc
    · obtain ⟨rfl, h22⟩ := right_shown (doGoes_parts h).1 (e ▸ hk)
      rw [e, upd_same]
      unfold doRow
      rw [if_neg h22]
      exact splice_nil _ _
    · rw [upd_other _ _ e]
  · rfl
theorem serve_shown (L : Nat → List Int) (l : List Int) {k : Nat} (hk : k = 1 ∨ k = 3) : serveL L l k = L k := by
  unfold serveL
  split
  · rfl
  · exact do_shown L _ _ _ _ _ hk
theorem servS_shown (L : Nat → List Int) (l : List Int) {k : Nat} (hk : k = 1 ∨ k = 3) : servS L l k = L k := by
  unfold servS
  split
  · rw [upd_other _ _ (by omega), serve_shown L l hk]
  · exact serve_shown L l hk
/-- A slave's rows between calls: bits are bits, and no command waits. -/
def RestL (L : Nat → List Int) : Prop := BitsL L ∧ (L 2).getD 0 0 = 0
theorem rest_new : RestL slvL0 := ⟨bits_new 0 32 19 34, by kernel_rfl⟩
theorem rest_serve {L : Nat → List Int} (h : RestL L) (l : List Int) : RestL (servS L l) := by
  have hb := bits_serve h.1 l
  unfold servS toldB
  split
  · refine ⟨fun k hk y hy => ?_, ?_⟩
    · rw [upd_other _ _ (by omega)] at hy
      exact hb k hk y hy
    · rw [upd_same]; rfl
  · rename_i hz
    exact ⟨hb, by simpa using hz⟩
theorem rest_show {L : Nat → List Int} (h : RestL L) (v : Vw) : RestL (showL L v) := by
  unfold showL
  refine ⟨fun k hk y hy => ?_, ?_⟩
  · rw [upd_other _ _ (by omega)] at hy
    by_cases e : k = 1
    · subst e
      rw [upd_same] at hy
      obtain ⟨j, _, rfl⟩ := List.mem_map.1 hy
      exact (shBitAt_range v j).2
    · rw [upd_other _ _ e] at hy
      exact h.1 k hk y hy
  · rw [upd_other _ _ (by omega), upd_other _ _ (by omega)]
    exact h.2
theorem show_rows (L : Nat → List Int) (v : Vw) : showL L v 1 = shBitsL v ∧ showL L v 3 = shRegsL v := by
  unfold showL
  exact ⟨by rw [upd_other _ _ (by omega), upd_same], by rw [upd_same]⟩
/-- A row that is read whole. -/
theorem read_whole {L : Nat → List Int} {fc : Int} {kd n : Nat} (hr : rightB' fc 0 n 0 [] = true) (hk : kindN fc = kd) (hk4 : kd < 4) (h22 : fc ≠ 22) (h23 : (fc != 23) = true) (hrd : readsB fc = true) (hl : (L kd).length = n) (hn : 1 ≤ n) :
    doC L fc 0 n 0 [] = 0 ∧ doL L fc 0 n 0 [] = L ∧ doY L fc 0 n 0 [] = L kd := by
  have hf : doFits L fc 0 n 0 ([] : List Int).length = true := by
    unfold doFits
    rw [hk, show max (n : Int) 1 = n by omega, h23]
    unfold spanB sizeB
    rw [if_pos (by omega)]
    rw [Int.toNat_natCast, hl]
    simp
  have e3 : doGoes L fc 0 n 0 [] = true := by unfold doGoes; rw [hr, hf]; rfl
  have hrow : doRow L fc 0 0 [] = L kd := by
    unfold doRow
    rw [if_neg h22, hk]
    exact splice_nil _ _
  refine ⟨by unfold doC; rw [if_pos hr, if_pos hf], by unfold doL; rw [if_pos e3, hrow, hk, upd_self], ?_⟩
  unfold doY
  rw [if_pos e3, if_pos hrd, hrow]
  show ((L kd).drop 0).take n = L kd
  rw [List.drop_zero, ← hl, List.take_length]
/-- What is answered to a reading of a whole row: the slave is as it was, and tells nothing. -/
theorem serve_whole {L : Nat → List Int} {fc : Int} {kd n : Nat} (hR : RestL L) (hr : rightB' fc 0 n 0 [] = true) (hk : kindN fc = kd) (hk4 : kd < 4) (h22 : fc ≠ 22) (h23 : (fc != 23) = true) (hrd : readsB fc = true) (hl : (L kd).length = n) (hn : 1 ≤ n) :
    serveY L (putL fc 0 n 0 []) = repR fc 0 n 0 [] 0 (L kd) ∧ toldB L (putL fc 0 n 0 []) = false ∧ servS L (putL fc 0 n 0 []) = L ∧ ansR fc 0 n 0 [] 0 (L kd) = true := by
  obtain ⟨hc, hL, hY⟩ := read_whole hr hk hk4 h22 h23 hrd hl hn
  have hget := (put_get fc 0 n 0 [] hr (fun j => by simp)).1
  have hans := do_answers hR.1 hr
  rw [hc, hY] at hans
  have hs : serveL L (putL fc 0 n 0 []) = L := by
    unfold serveL
    rw [hget, if_neg (by simp)]
    exact hL
  have ht : toldB L (putL fc 0 n 0 []) = false := by
    unfold toldB
    rw [hs, hR.2]
    rfl
  refine ⟨?_, ht, ?_, hans⟩
  · unfold serveY
    rw [hget, if_neg (by simp)]
    dsimp only
    rw [hc, hY]
    unfold rputL
    rw [if_pos hans]
  · unfold servS
    rw [ht, if_neg (by decide), hs]
end Go.Proofs.Ytgeahfkhfpdlhaa
