/- Layer 17, plain: what trips behind a scan is set, and noted; with nothing known all trips, with all known as it does not trip nothing does. -/
import Derived.Test.YtgajbgdkgelkgaaGreatLoQuietLaw
import Derived.Test.YtgajbgdkgelkgaaGreatMxPlain
namespace Go.Proofs.YtgajbgdkgelkgaaGreat

/-- What a scan leaves, ahead of c and behind c', with the notes ns. -/
structure TripsOk (m : Mx) (now : Int) (c c' : Co) (ns : List Nt) : Prop where
  ca : ∀ q, q < m.cas.length → c'.tr.getD q false = true → (c'.en.getD q 0 = 0 ∨ c'.en.getD q 0 ≤ now) → setOf c'.ca q = true
  cn : ∀ q : Nat, setOf c'.ca q ≠ setOf c.ca q → cntN (1, (q : Int), now) ns = 1
  ef : ∀ e, e < m.efs.length → ∀ q, q < m.cas.length → (efAt m e).ps.contains (q : Int) = true → c'.tr.getD q false = true → (c'.en.getD q 0 = 0 ∨ c'.en.getD q 0 ≤ now) → setOf c'.ef e = true
  en : ∀ e : Nat, setOf c'.ef e ≠ setOf c.ef e → cntN (2, (e : Int), now) ns = 1
theorem sick_of {c : Co} {q : Nat} {now : Int} (h1 : c.tr.getD q false = true) (h2 : c.en.getD q 0 = 0 ∨ c.en.getD q 0 ≤ now) : healthyC c q now = false := by
  unfold healthyC isB
  rw [h1, untilE_of]
  rcases h2 with h2 | h2
  · rw [h2]; rfl
  · rw [show decide (now < c.en.getD q 0) = false from decide_eq_false (by omega), Bool.and_false]; rfl
theorem cntN_lapse (x : Nt) (hx : x.1 ≠ 5) (now : Int) (L : List Int) : cntN x (L.map fun i => (5, i, now)) = 0 := by
  unfold cntN
  rw [List.countP_eq_zero]
  intro y hy
  obtain ⟨i, -, rfl⟩ := List.mem_map.1 hy
  intro h
  rw [beq_iff_eq] at h
  exact hx (by rw [← h])
theorem scan_trips (m : Mx) (l : List (Bool × Int)) (now : Int) (c : Co) (hnow : 0 ≤ now ∧ now ≤ 1099511627776) (hl : l.length = m.pts.length) (hd : c.dl.length = m.pts.length) (ht : m.cas.length ≤ c.tr.length) (hc : m.cas.length ≤ c.ca.s.length) (he : m.efs.length ≤ c.ef.s.length) :
    TripsOk m now c (scanC m l now c).1 (scanC m l now c).2 := by
  have e : scanC m l now c = foldN (scanQ m now) (foldN (seeQ m l now) { c with en := lapseE c.en now } l.length, (lapseL c.en now).map fun i => (5, i, now)) m.cas.length := if_neg (by omega)
  rw [e]
  have I := seeInv m l now hnow.2 { c with en := lapseE c.en now } (by show l.length ≤ c.dl.length; omega)
  generalize foldN (seeQ m l now) { c with en := lapseE c.en now } l.length = c2 at I ⊢
  have J := scInv m now c2 ((lapseL c.en now).map fun i => (5, i, now)) (by rw [I.tr]; exact ht) (by rw [I.ca]; exact hc) (by rw [I.ef]; exact he)
  generalize foldN (scanQ m now) (c2, (lapseL c.en now).map fun i => (5, i, now)) m.cas.length = s at J ⊢
  have ca2 : c2.ca = c.ca := I.ca
  have ef2 : c2.ef = c.ef := I.ef
  refine ⟨fun q hq h1 h2 => J.sca q hq (sick_of h1 h2), fun q hq => ?_, fun e he q hq hm h1 h2 => J.sef q hq (sick_of h1 h2) e he hm, fun e he => ?_⟩
  · rw [J.n1, cntN_lapse _ (show (1 : Int) ≠ 5 by decide), Nat.zero_add, ca2]
    have := J.cau q
    rw [ca2] at this
    cases h1 : setOf c.ca q with
    | true => exact absurd ((this h1).trans h1.symm) hq
    | false =>
      cases h2 : setOf s.1.ca q with
      | true => rfl
      | false => exact absurd (h2.trans h1.symm) hq
  · rw [J.n2, cntN_lapse _ (show (2 : Int) ≠ 5 by decide), Nat.zero_add, ef2]
    have := J.efu e
    rw [ef2] at this
    cases h1 : setOf c.ef e with
    | true => exact absurd ((this h1).trans h1.symm) he
    | false =>
      cases h2 : setOf s.1.ef e with
      | true => rfl
      | false => exact absurd (h2.trans h1.symm) he
theorem lapse_zeros (n : List Ca) (now : Int) : lapseL (n.map fun _ => 0) now = [] := by
  unfold lapseL
  rw [List.filter_eq_nil_iff.2, List.map_nil]
  intro k hk
  rw [getD_map_list]
  cases n[k]? <;> simp
theorem vote_all (wanted : Int) (l : List (Bool × Bool × Bool)) (h0 : 0 < l.length) (h : ∀ x ∈ l, x.2.1 = true ∧ x.2.2 = false) : voteB wanted l = true := by
  have e1 : (l.countP fun x => !x.2.2) = l.length := List.countP_eq_length.2 fun x hx => by rw [(h x hx).2]; rfl
  have e2 : (l.countP fun x => !x.2.2 && (x.1 || x.2.1)) = l.length := List.countP_eq_length.2 fun x hx => by rw [(h x hx).2, (h x hx).1, Bool.or_true]; rfl
  unfold voteB
  rw [e1, e2, Bool.and_eq_true, decide_eq_true_eq, decide_eq_true_eq]
  refine ⟨h0, ?_⟩
  unfold clampI
  omega
theorem vote_none (wanted : Int) (l : List (Bool × Bool × Bool)) (h : ∀ x ∈ l, x.1 = false ∧ x.2.1 = false) : voteB wanted l = false := by
  have e2 : (l.countP fun x => !x.2.2 && (x.1 || x.2.1)) = 0 := List.countP_eq_zero.2 fun x hx => by rw [(h x hx).2, (h x hx).1]; simp
  unfold voteB
  rw [e2, Bool.and_eq_false_iff]
  by_cases h0 : 0 < l.countP fun x => !x.2.2
  · refine .inr (decide_eq_false ?_)
    unfold clampI
    omega
  · exact .inl (decide_eq_false h0)
theorem right_votes {m : Mx} (h : rightM m = true) {q : Nat} (hq : q < m.cas.length) : 0 < (caAt m q).ps.length ∧ ∀ p ∈ (caAt m q).ps, 0 ≤ p ∧ p.toNat < m.pts.length := by
  have e : m.cas[q]? = some (caAt m q) := by unfold caAt; rw [List.getD_eq_getElem?_getD, List.getElem?_eq_getElem hq]; rfl
  have hm := List.mem_of_getElem? e
  unfold rightM causesB at h
  simp only [Bool.and_eq_true, List.all_eq_true] at h
  have h1 := h.1.2 _ hm
  unfold caB picksB wiB at h1
  simp only [Bool.and_eq_true, List.all_eq_true, decide_eq_true_eq] at h1
  exact ⟨by omega, fun p hp => by have := h1.1.1.1.1.2 p hp; omega⟩
theorem getD_const {α β : Type} (l : List α) (x : β) (i : Nat) : (l.map fun _ => x).getD i x = x := by
  rw [getD_map_list]
  cases l[i]? <;> rfl
/-- With nothing known each cause trips, and is noted. -/
theorem unknown_all (m : Mx) (now : Int) (hR : rightM m = true) (hnow : 0 ≤ now ∧ now ≤ 1099511627776) (l : List (Bool × Int)) (hl : l.length = m.pts.length) (hz : ∀ x ∈ l, x.1 = false) :
    ∀ q, q < m.cas.length → (scanC m l now (newC m)).1.tr.getD q false = true ∧ cntN (1, (q : Int), now) (scanC m l now (newC m)).2 = 1 := by
  have hd : (newC m).dl.length = m.pts.length := by show (m.pts.map _).length = _; rw [List.length_map]
  have ht : (newC m).tr.length = m.cas.length := by show (m.cas.map _).length = _; rw [List.length_map]
  have hc : (newC m).ca.s.length = m.cas.length := by show (List.replicate (m.cas.map groupOf).length _).length = _; simp
  have he : (newC m).ef.s.length = m.efs.length := by show (List.replicate (m.efs.map fun _ => (0 : Int)).length _).length = _; simp
  have e : scanC m l now (newC m) = foldN (scanQ m now) (foldN (seeQ m l now) { newC m with en := lapseE (newC m).en now } l.length, (lapseL (newC m).en now).map fun i => (5, i, now)) m.cas.length := if_neg (by omega)
  rw [e, show lapseL (newC m).en now = [] from lapse_zeros _ _, List.map_nil]
  have I := seeInv m l now hnow.2 { newC m with en := lapseE (newC m).en now } (by show l.length ≤ (newC m).dl.length; omega)
  have hkn : ∀ i, (foldN (seeQ m l now) { newC m with en := lapseE (newC m).en now } l.length).kn.getD i false = false := by
    refine foldN_inv (fun _ (s : Co) => ∀ i, s.kn.getD i false = false) _ _ _ (fun i => getD_const _ _ _) (fun k hk s h i => ?_)
    unfold seeQ
    dsimp only
    have h1 : (l.getD k (false, 0)).1 = false := by
      rw [List.getD_eq_getElem?_getD, List.getElem?_eq_getElem hk]; exact hz _ (List.getElem_mem hk)
    rw [h1, List.getD_eq_getElem?_getD, List.getElem?_set]
    split
    · split <;> rfl
    · rw [← List.getD_eq_getElem?_getD]; exact h i
  generalize foldN (seeQ m l now) { newC m with en := lapseE (newC m).en now } l.length = c2 at I hkn ⊢
  have J := scInv m now c2 [] (by rw [I.tr]; exact Nat.le_of_eq ht.symm) (by rw [I.ca]; exact Nat.le_of_eq hc.symm) (by rw [I.ef]; exact Nat.le_of_eq he.symm)
  generalize foldN (scanQ m now) (c2, []) m.cas.length = s at J ⊢
  intro q hq
  obtain ⟨hv, -⟩ := right_votes hR hq
  have h1 : s.1.tr.getD q false = true := by
    rw [J.tr q hq]
    refine vote_all _ _ (by unfold insOf; rw [List.length_map]; exact hv) fun x hx => ?_
    obtain ⟨p, -, rfl⟩ := List.mem_map.1 hx
    exact ⟨by show (!c2.kn.getD p.toNat false) = true; rw [hkn]; rfl, rfl⟩
  have hen : s.1.en = (m.cas.map fun _ => (0 : Int)) := by
    rw [J.en, I.en]
    show lapseE (m.cas.map fun _ => (0 : Int)) now = _
    unfold lapseE
    rw [List.map_map]
    exact List.map_congr_left fun x _ => (by dsimp only [Function.comp]; rw [if_neg (by omega)])
  refine ⟨h1, ?_⟩
  have h2 := J.sca q hq (sick_of h1 (.inl (by rw [hen]; exact getD_const _ _ _)))
  have h3 : setOf c2.ca q = false := by
    rw [I.ca]
    show ((List.replicate (m.cas.map groupOf).length (false, (0 : Int))).getD q (false, 0)).1 = false
    rw [List.getD_eq_getElem?_getD, List.getElem?_replicate]
    split <;> rfl
  rw [J.n1, h2, h3]
  rfl
/-- With all known as it does not trip nothing does. -/
theorem well_none (m : Mx) (now : Int) (hR : rightM m = true) (hnow : 0 ≤ now ∧ now ≤ 1099511627776) (l : List (Bool × Int)) (hl : l = m.pts.map fun p => (true, 1 - p.tr)) :
    (scanC m l now (newC m)).2 = [] ∧ ∀ q, (scanC m l now (newC m)).1.tr.getD q false = false := by
  have hll : l.length = m.pts.length := by rw [hl, List.length_map]
  have hd : (newC m).dl.length = m.pts.length := by show (m.pts.map _).length = _; rw [List.length_map]
  have e : scanC m l now (newC m) = foldN (scanQ m now) (foldN (seeQ m l now) { newC m with en := lapseE (newC m).en now } l.length, (lapseL (newC m).en now).map fun i => (5, i, now)) m.cas.length := if_neg (by omega)
  rw [e, show lapseL (newC m).en now = [] from lapse_zeros _ _, List.map_nil]
  have hk : (fun s : Co => s.tr = (newC m).tr ∧ s.dl.length = m.pts.length ∧ s.kn.length = m.pts.length ∧ (∀ i, i < l.length → s.kn.getD i false = true) ∧ ∀ i, (s.dl.getD i dl0).cnt = false) (foldN (seeQ m l now) { newC m with en := lapseE (newC m).en now } l.length) := by
    have := foldN_inv (fun k (s : Co) => s.tr = (newC m).tr ∧ s.dl.length = m.pts.length ∧ s.kn.length = m.pts.length ∧ (∀ i, i < k → s.kn.getD i false = true) ∧ ∀ i, (s.dl.getD i dl0).cnt = false) (seeQ m l now) { newC m with en := lapseE (newC m).en now } l.length ⟨rfl, hd, by show (m.pts.map _).length = _; rw [List.length_map], fun i h => absurd h (by omega), fun i => by
      show ((m.pts.map fun p => newD p.on_ p.off).getD i dl0).cnt = false
      rw [getD_map_list]
      cases m.pts[i]? <;> rfl⟩ (fun k hk s h => by
      obtain ⟨h1, h2, h3, h4, h5⟩ := h
      have hkp : k < m.pts.length := by omega
      have ex : l.getD k (false, 0) = (true, 1 - (m.pts.getD k ⟨ByteArray.empty, 0, 0, 0, 0, 0⟩).tr) := by
        rw [hl, getD_map_list, List.getElem?_eq_getElem hkp, List.getD_eq_getElem?_getD, List.getElem?_eq_getElem hkp]; rfl
      unfold seeQ
      rw [ex]
      dsimp only
      rw [if_pos rfl, show (1 - (m.pts.getD k ⟨ByteArray.empty, 0, 0, 0, 0, 0⟩).tr == (m.pts.getD k ⟨ByteArray.empty, 0, 0, 0, 0, 0⟩).tr) = false from by rw [beq_eq_false_iff_ne]; omega]
      refine ⟨h1, by rw [List.length_set]; exact h2, by rw [List.length_set]; exact h3, fun i hi => ?_, fun i => ?_⟩
      · by_cases e : i = k
        · subst e; exact getD_set_same _ _ _ _ (by omega)
        · rw [getD_set_other _ _ _ (fun h => e h.symm)]; exact h4 i (by omega)
      · by_cases e : i = k
        · subst e
          rw [getD_set_same _ _ _ _ (by omega)]
          unfold seeD
          rw [if_pos (h5 i).symm]
          exact h5 i
        · rw [getD_set_other _ _ _ (fun h => e h.symm)]; exact h5 i)
    exact this
  generalize foldN (seeQ m l now) { newC m with en := lapseE (newC m).en now } l.length = c2 at hk ⊢
  obtain ⟨k1, k2, k3, k4, k5⟩ := hk
  have hfin := foldN_inv (fun _ (s : Co × List Nt) => s.2 = [] ∧ s.1.dl = c2.dl ∧ s.1.kn = c2.kn ∧ ∀ q, s.1.tr.getD q false = false) (scanQ m now) (c2, []) m.cas.length ⟨rfl, rfl, rfl, fun q => by
    show c2.tr.getD q false = false
    rw [k1]
    exact getD_const _ _ _⟩ (fun q hq s h => by
    obtain ⟨h1, h2, h3, h4⟩ := h
    have hv : voteB (caAt m q).vt (insOf s.1 (caAt m q)) = false := vote_none _ _ fun x hx => by
      obtain ⟨p, hp, rfl⟩ := List.mem_map.1 hx
      obtain ⟨-, hr⟩ := right_votes hR hq
      have := hr p hp
      exact ⟨by show (s.1.dl.getD p.toNat dl0).cnt = false; rw [h2]; exact k5 _, by show (!s.1.kn.getD p.toNat false) = false; rw [h3, k4 _ (by omega)]; rfl⟩
    have ht : ∀ j, (s.1.tr.set q false).getD j false = false := fun j => by
      rw [List.getD_eq_getElem?_getD, List.getElem?_set]
      split
      · split <;> rfl
      · rw [← List.getD_eq_getElem?_getD]; exact h4 j
    unfold scanQ
    dsimp only
    rw [hv, if_pos (by unfold healthyC; dsimp only; rw [ht]; rfl)]
    exact ⟨h1, h2, h3, ht⟩)
  exact ⟨hfin.1, hfin.2.2.2⟩
end Go.Proofs.YtgajbgdkgelkgaaGreat
