/- Layer 24, the law FieldApart: what is of line 1, and of its device. -/
import Derived.Test.YtgagpalffdgjnaaFieldP
namespace Go.Proofs.Ytgagpalffdgjnaa
open Go.RowKit

def dev3 : List (Int × Int) := [(0, 1), (1, 1), (2, 1)]
theorem devAt3 {l u : Int} {i : Nat} (h : devAt dev3 l u = some i) : (i : Int) = l := by
  unfold devAt dev3 at h
  rw [List.findIdx?_eq_some_iff_getElem] at h
  obtain ⟨hi, hp, _⟩ := h
  match i, hi with
  | 0, _ => simp at hp ⊢; omega
  | 1, _ => simp at hp ⊢; omega
  | 2, _ => simp at hp ⊢; omega
/-- Alike of line 1 and of device 1. -/
def Agr (F G : Fp) : Prop := F.W 1 = G.W 1 ∧ F.L 1 = G.L 1
section
variable {F G : Fp}
theorem Agr.due_far (h : Agr F G) {l : Int} (hl : l ≠ 1) (now : Int) : Agr (dueF F l now) G := by
  unfold dueF
  split
  · refine ⟨?_, h.2⟩
    show upf F.W l.toNat _ 1 = _
    rw [upf_other _ _ (by omega)]
    exact h.1
  · exact h
theorem Agr.due (h : Agr F G) (now : Int) : Agr (dueF F 1 now) (dueF G 1 now) ∧ dueB F 1 now = dueB G 1 now := by
  have e1 := h.1
  unfold dueF dueB
  rw [if_pos (by omega), if_pos (by omega), if_pos (by omega), if_pos (by omega)]
  refine ⟨⟨?_, h.2⟩, ?_⟩
  · show upf F.W 1 ⟨(F.W 1).fs, (F.W 1).ws.filter fun x => !decide (x.1 ≤ now)⟩ 1 = upf G.W 1 ⟨(G.W 1).fs, (G.W 1).ws.filter fun x => !decide (x.1 ≤ now)⟩ 1
    rw [upf_same, upf_same, e1]
  · show List.map _ (List.filter _ (F.W 1).ws) = List.map _ (List.filter _ (G.W 1).ws)
    rw [e1]
theorem Agr.set_far (h : Agr F G) {i : Int} (hi : i ≠ 1) (k v : Int) : Agr (setF dev3 F i k v) G := by
  unfold setF
  split
  · refine ⟨h.1, ?_⟩
    show upf F.L i.toNat _ 1 = _
    rw [upf_other _ _ (by omega)]
    exact h.2
  · exact h
theorem Agr.set (h : Agr F G) (k v : Int) : Agr (setF dev3 F 1 k v) (setF dev3 G 1 k v) := by
  unfold setF
  rw [if_pos (by simp [dev3]), if_pos (by simp [dev3])]
  refine ⟨h.1, ?_⟩
  show upf F.L 1 (putB (F.L 1) 1 k (bitOf v)) 1 = upf G.L 1 (putB (G.L 1) 1 k (bitOf v)) 1
  rw [upf_same, upf_same, h.2]
theorem Agr.fault_far (h : Agr F G) {l : Int} (hl : l ≠ 1) (k n : Int) : Agr (faultF F l k n) G := by
  unfold faultF
  split
  · rename_i hok
    unfold faultOk at hok
    have hok := of_decide_eq_true hok
    refine ⟨?_, h.2⟩
    show upf F.W l.toNat _ 1 = _
    rw [upf_other _ _ (by omega)]
    exact h.1
  · exact h
theorem Agr.fault (h : Agr F G) (k n : Int) : Agr (faultF F 1 k n) (faultF G 1 k n) ∧ faultOk F 1 k n = faultOk G 1 k n := by
  have e1 : (F.W (Int.toNat 1)) = G.W (Int.toNat 1) := h.1
  have e2 : faultOk F 1 k n = faultOk G 1 k n := by unfold faultOk; rw [e1]
  refine ⟨?_, e2⟩
  unfold faultF
  rw [e2]
  split
  · refine ⟨?_, h.2⟩
    show upf F.W 1 ⟨(F.W (Int.toNat 1)).fs ++ [(k, n)], (F.W (Int.toNat 1)).ws⟩ 1 = upf G.W 1 ⟨(G.W (Int.toNat 1)).fs ++ [(k, n)], (G.W (Int.toNat 1)).ws⟩ 1
    rw [upf_same, upf_same, e1]
  · exact h
theorem Agr.took_far (h : Agr F G) {j : Nat} (hj : j ≠ 1) : Agr (tookF F j) G := by
  refine ⟨?_, h.2⟩
  show upf F.W j _ 1 = _
  rw [upf_other _ _ (Ne.symm hj)]
  exact h.1
theorem Agr.took (h : Agr F G) : Agr (tookF F 1) (tookF G 1) := by
  refine ⟨?_, h.2⟩
  show upf F.W 1 (nextW (F.W 1)) 1 = upf G.W 1 (nextW (G.W 1)) 1
  rw [upf_same, upf_same, h.1]
theorem Agr.done_far (h : Agr F G) {i : Nat} (hi : i ≠ 1) (pdu : List Int) : Agr (doneF F i pdu) G := by
  refine ⟨h.1, ?_⟩
  show upf F.L i _ 1 = _
  rw [upf_other _ _ (Ne.symm hi)]
  exact h.2
theorem Agr.done (h : Agr F G) (pdu : List Int) : Agr (doneF F 1 pdu) (doneF G 1 pdu) := by
  refine ⟨h.1, ?_⟩
  show upf F.L 1 (serveL (F.L 1) pdu) 1 = upf G.L 1 (serveL (G.L 1) pdu) 1
  rw [upf_same, upf_same, h.2]
theorem Agr.answ_far (h : Agr F G) {j : Nat} (hj : j ≠ 1) (x : Int × Int) (id u now : Int) (ys : List Int) : Agr (answF F j x id u now ys) G := by
  refine ⟨?_, h.2⟩
  show upf F.W j _ 1 = _
  rw [upf_other _ _ (Ne.symm hj)]
  exact h.1
theorem Agr.answ (h : Agr F G) (x : Int × Int) (id u now : Int) (ys : List Int) : Agr (answF F 1 x id u now ys) (answF G 1 x id u now ys) := by
  have e1 := h.1
  refine ⟨?_, h.2⟩
  unfold answF
  show upf F.W 1 ⟨(F.W 1).fs, (F.W 1).ws ++ [(if x.1 = 4 then now + 1 + x.2 else now + 1, if x.1 = 3 then spoilL 1 (frameL 1 id u ys) else frameL 1 id u ys)]⟩ 1 = upf G.W 1 ⟨(G.W 1).fs, (G.W 1).ws ++ [(if x.1 = 4 then now + 1 + x.2 else now + 1, if x.1 = 3 then spoilL 1 (frameL 1 id u ys) else frameL 1 id u ys)]⟩ 1
  rw [upf_same, upf_same, e1]
theorem Agr.ask_far (h : Agr F G) {l : Int} (hl : l ≠ 1) (bs : List Int) (now : Int) : Agr (askF dev3 F l bs now) G := by
  unfold askF
  split
  · rename_i hr
    have hj : l.toNat ≠ 1 := by omega
    unfold askJ
    split
    · exact h.took_far hj
    · split
      · exact h.took_far hj
      · split
        · exact h.took_far hj
        · rename_i i hd
          have hi : i ≠ 1 := by have := devAt3 hd; omega
          split
          · exact (h.took_far hj).done_far hi _
          · exact ((h.took_far hj).done_far hi _).answ_far hj _ _ _ _ _
  · exact h
theorem Agr.ask (h : Agr F G) (bs : List Int) (now : Int) : Agr (askF dev3 F 1 bs now) (askF dev3 G 1 bs now) := by
  have e1 := h.1
  have e2 := h.2
  unfold askF
  by_cases hr : 0 ≤ (1 : Int) ∧ (1 : Int) < 4 ∧ 0 ≤ now ∧ now ≤ 1099511627776
  rotate_left
  · rw [if_neg hr, if_neg hr]; exact h
  rw [if_pos hr, if_pos hr]
  show Agr (askJ dev3 F 1 bs now) (askJ dev3 G 1 bs now)
  unfold askJ
  rw [e1]
  split
  · exact h.took
  · split
    · exact h.took
    · split
      · exact h.took
      · rename_i i hd
        obtain rfl : i = 1 := by have := devAt3 hd; omega
        split
        · exact h.took.done _
        · rw [e2]
          exact (h.took.done _).answ _ _ _ _ _
theorem Agr.waits (h : Agr F G) : waitsF F 1 = waitsF G 1 := by
  have e1 := h.1
  unfold waitsF
  rw [if_pos (by omega), if_pos (by omega)]
  show (F.W 1).ws.length = (G.W 1).ws.length
  rw [e1]
theorem Agr.coil (h : Agr F G) (k : Int) : coilF dev3 F 1 k = coilF dev3 G 1 k := by
  have e2 := h.2
  unfold coilF
  rw [if_pos (by simp [dev3]), if_pos (by simp [dev3])]
  show atB (F.L 1) 0 k = atB (G.L 1) 0 k
  rw [e2]
end
end Go.Proofs.Ytgagpalffdgjnaa
