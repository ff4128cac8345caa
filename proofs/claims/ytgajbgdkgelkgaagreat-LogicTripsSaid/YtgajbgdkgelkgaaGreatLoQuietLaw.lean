/- Layer 17, plain: what is scanned twice at one time, with the same samples. -/
import Derived.Test.YtgajbgdkgelkgaaGreatG08
namespace Go.Proofs.YtgajbgdkgelkgaaGreat

theorem set_getD {α : Type} (l : List α) (i : Nat) (d : α) : l.set i (l.getD i d) = l := by
  apply List.ext_getElem?
  intro k
  rw [List.getElem?_set]
  split
  · rename_i e
    subst e
    split
    · rename_i h; rw [List.getD_eq_getElem?_getD, List.getElem?_eq_getElem h]; rfl
    · rename_i h; rw [List.getElem?_eq_none (by omega)]
  · rfl
theorem clampI_again (now last : Int) (h : now ≤ 1099511627776) : clampI now (clampI now last 1099511627776) 1099511627776 = clampI now last 1099511627776 := by
  unfold clampI
  omega
theorem see_twice (d : Dl) (v : Bool) (now : Int) (h : now ≤ 1099511627776) : seeD (seeD d v now) v now = seeD d v now := by
  have hc := clampI_again now d.last h
  unfold seeD
  generalize hz : clampI now d.last 1099511627776 = z at *
  by_cases h1 : v = d.cnt
  · rw [if_pos h1]
    dsimp only
    rw [if_pos h1, hc]
  · rw [if_neg h1]
    by_cases h2 : (if v then d.tt else d.tf) ≤ z - (if d.oth then d.since else z)
    · rw [if_pos h2]
      dsimp only
      rw [if_pos rfl, hc]
    · rw [if_neg h2]
      dsimp only
      rw [if_neg h1, hc]
      simp only [if_true]
      rw [if_neg h2]
structure SeeInv (m : Mx) (l : List (Bool × Int)) (now : Int) (c0 : Co) (k : Nat) (s : Co) : Prop where
  tr : s.tr = c0.tr
  ca : s.ca = c0.ca
  ef : s.ef = c0.ef
  en : s.en = c0.en
  ldl : s.dl.length = c0.dl.length
  lkn : s.kn.length = c0.kn.length
  kn : ∀ i, i < k → s.kn.set i (l.getD i (false, 0)).1 = s.kn
  dl : ∀ i, i < k → (l.getD i (false, 0)).1 = true → seeD (s.dl.getD i dl0) ((l.getD i (false, 0)).2 == (m.pts.getD i ⟨ByteArray.empty, 0, 0, 0, 0, 0⟩).tr) now = s.dl.getD i dl0
theorem set_set_self {α : Type} (l : List α) (i : Nat) (x : α) : (l.set i x).set i x = l.set i x := by
  apply List.ext_getElem?
  intro k
  rw [List.getElem?_set]
  by_cases e : i = k
  · subst e
    rw [if_pos rfl]
    split
    · rename_i h; rw [List.getElem?_set_self (by simpa using h)]
    · rename_i h; rw [List.getElem?_eq_none (by omega)]
  · rw [if_neg e]
theorem seeInv (m : Mx) (l : List (Bool × Int)) (now : Int) (hn : now ≤ 1099511627776) (c0 : Co) (hl : l.length ≤ c0.dl.length) : SeeInv m l now c0 l.length (foldN (seeQ m l now) c0 l.length) := by
  refine foldN_inv (SeeInv m l now c0) _ _ _ ⟨rfl, rfl, rfl, rfl, rfl, rfl, fun i h => absurd h (by omega), fun i h => absurd h (by omega)⟩ (fun k hk s h => ?_)
  have hkd : k < s.dl.length := by rw [h.ldl]; omega
  refine ⟨h.tr, h.ca, h.ef, h.en, ?_, by simpa [seeQ] using h.lkn, fun i hi => ?_, fun i hi hs => ?_⟩
  · unfold seeQ
    dsimp only
    split
    · simpa using h.ldl
    · exact h.ldl
  · unfold seeQ
    dsimp only
    by_cases e : i = k
    · subst e; exact set_set_self _ _ _
    · rw [List.set_comm _ _ (fun h => e h.symm), h.kn i (by omega)]
  · unfold seeQ
    dsimp only
    by_cases e : i = k
    · subst e
      rw [if_pos hs, getD_set_same _ _ _ _ hkd]
      exact see_twice _ _ _ hn
    · split
      · rw [getD_set_other _ _ _ (fun h => e h.symm)]
        exact h.dl i (by omega) hs
      · exact h.dl i (by omega) hs
theorem lapseE_twice (E : List Int) (now : Int) : lapseE (lapseE E now) now = lapseE E now := by
  unfold lapseE
  rw [List.map_map]
  refine List.map_congr_left fun e _ => ?_
  dsimp only [Function.comp]
  split
  · rw [if_neg (by omega)]
  · rfl
theorem lapseL_twice (E : List Int) (now : Int) : lapseL (lapseE E now) now = [] := by
  unfold lapseL
  rw [List.filter_eq_nil_iff.2, List.map_nil]
  intro k hk
  have : (lapseE E now).getD k 0 = if 0 < E.getD k 0 ∧ E.getD k 0 ≤ now then 0 else E.getD k 0 := by
    unfold lapseE
    rw [getD_map_list, List.getD_eq_getElem?_getD]
    cases E[k]? with
    | none => simp
    | some x => rfl
  rw [this, Bool.and_eq_true, decide_eq_true_eq, decide_eq_true_eq]
  split <;> omega
/-- Scanned again, at the same time, with the same samples: nothing more. -/
theorem scan_twice (m : Mx) (l : List (Bool × Int)) (now : Int) (c : Co) (ht : m.cas.length ≤ c.tr.length) (hc : m.cas.length ≤ c.ca.s.length) (he : m.efs.length ≤ c.ef.s.length) : scanC m l now (scanC m l now c).1 = ((scanC m l now c).1, []) := by
  by_cases hb : now < 0 ∨ 1099511627776 < now ∨ l.length ≠ c.dl.length
  · have e : scanC m l now c = (c, []) := if_pos hb
    rw [e]
    exact e
  have e : scanC m l now c = foldN (scanQ m now) (foldN (seeQ m l now) { c with en := lapseE c.en now } l.length, (lapseL c.en now).map fun i => (5, i, now)) m.cas.length := if_neg hb
  rw [e]
  have hlen : l.length = c.dl.length := Classical.byContradiction fun h => hb (.inr (.inr h))
  have hn : now ≤ 1099511627776 := by omega
  have I := seeInv m l now hn { c with en := lapseE c.en now } (Nat.le_of_eq hlen)
  generalize foldN (seeQ m l now) { c with en := lapseE c.en now } l.length = c2 at I ⊢
  have J := scInv m now c2 ((lapseL c.en now).map fun i => (5, i, now)) (by rw [I.tr]; exact ht) (by rw [I.ca]; exact hc) (by rw [I.ef]; exact he)
  generalize foldN (scanQ m now) (c2, (lapseL c.en now).map fun i => (5, i, now)) m.cas.length = s at J ⊢
  obtain ⟨c3, ns⟩ := s
  dsimp only at J ⊢
  have en3 : c3.en = lapseE c.en now := J.en.trans I.en
  have ldl3 : c3.dl.length = c.dl.length := by rw [J.dl]; exact I.ldl
  have e3 : scanC m l now c3 = foldN (scanQ m now) (foldN (seeQ m l now) { c3 with en := lapseE c3.en now } l.length, (lapseL c3.en now).map fun i => (5, i, now)) m.cas.length := if_neg (by rw [ldl3]; exact hb)
  rw [e3, en3, lapseE_twice, lapseL_twice, ← en3, List.map_nil]
  have e4 : foldN (seeQ m l now) c3 l.length = c3 := foldN_still _ _ _ fun i hi => by
    unfold seeQ
    rw [J.dl, J.kn, I.kn i hi]
    have : (if (l.getD i (false, 0)).1 then c2.dl.set i (seeD (c2.dl.getD i dl0) ((l.getD i (false, 0)).2 == (m.pts.getD i ⟨ByteArray.empty, 0, 0, 0, 0, 0⟩).tr) now) else c2.dl) = c2.dl := by
      split
      · rename_i h; rw [I.dl i hi h, set_getD]
      · rfl
    rw [this, ← J.dl, ← J.kn]
  rw [show ({ c3 with en := c3.en } : Co) = c3 from rfl, e4]
  refine foldN_still _ _ _ fun q hq => ?_
  have hins : insOf c3 (caAt m q) = insOf c2 (caAt m q) := by unfold insOf; rw [J.dl, J.kn]
  have htr : c3.tr.set q (voteB (caAt m q).vt (insOf c3 (caAt m q))) = c3.tr := by rw [hins, ← J.tr q hq, set_getD]
  unfold scanQ
  dsimp only
  rw [htr, show ({ c3 with tr := c3.tr } : Co) = c3 from rfl]
  by_cases hy : healthyC c3 q now = true
  · rw [if_pos hy]
  · have hy' : healthyC c3 q now = false := by simpa using hy
    rw [if_neg hy, if_pos (J.sca q hq hy')]
    refine foldN_still _ _ _ fun e he => ?_
    unfold efStep
    rw [if_neg]
    intro hc
    simp only [Bool.and_eq_true, Bool.not_eq_true'] at hc
    have := J.sef q hq hy' e he hc.1
    rw [this] at hc
    exact absurd hc.2 (by decide)
end Go.Proofs.YtgajbgdkgelkgaaGreat
