/- Layer 17, plain: what stands may be loaded; what was loaded stands. -/
import Derived.Test.YtgajbgdkgelkgaaGreatG08
namespace Go.Proofs.YtgajbgdkgelkgaaGreat

/-- A core that a matrix' calls lead to. -/
structure CoOk (m : Mx) (c : Co) : Prop where
  ca : LwOk c.ca
  cg : c.ca.g = m.cas.map groupOf
  ef : LwOk c.ef
  eg : c.ef.g = m.efs.map fun _ => 0
  en : c.en.length = m.cas.length
  ok : ∀ e ∈ c.en, endOk e = true
section
variable {m : Mx} {c : Co}
theorem CoOk.new (m : Mx) : CoOk m (newC m) := ⟨LwOk.new _, rfl, LwOk.new _, rfl, by show (m.cas.map fun _ => (0 : Int)).length = _; simp, fun e he => by
  obtain ⟨_, _, rfl⟩ := List.mem_map.1 (show e ∈ m.cas.map fun _ => (0 : Int) from he); decide⟩
theorem CoOk.cal (h : CoOk m c) : c.ca.s.length = m.cas.length := by rw [h.ca.len, h.cg, List.length_map]
theorem CoOk.efl (h : CoOk m c) : c.ef.s.length = m.efs.length := by rw [h.ef.len, h.eg, List.length_map]
theorem setE_ok {E : List Int} {i v : Int} (h : ∀ e ∈ E, endOk e = true) (hv : endOk v = true) : ∀ e ∈ setE E i v, endOk e = true := by
  intro e he
  unfold setE at he
  split at he
  · rcases List.mem_or_eq_of_mem_set he with h1 | rfl
    · exact h e h1
    · exact hv
  · exact h e he
theorem CoOk.bypass (h : CoOk m c) (q ticks now : Int) : CoOk m (bypassC m q ticks now c).1 := by
  unfold bypassC
  split
  · rename_i h0
    refine ⟨h.ca, h.cg, h.ef, h.eg, ?_, ?_⟩
    · show (putE (m.cas.map Ca.lm) c.en q ticks now).length = _
      unfold putE; rw [if_pos h0, setE_length]; exact h.en
    · show ∀ e ∈ putE (m.cas.map Ca.lm) c.en q ticks now, endOk e = true
      unfold putE
      rw [if_pos h0]
      refine setE_ok h.ok ?_
      unfold putC at h0
      split at h0
      · exact absurd h0 (by decide)
      · split at h0
        · exact absurd h0 (by decide)
        · rename_i h1 h2
          unfold endOk
          simp only [Bool.and_eq_true, decide_eq_true_eq]
          omega
  · exact h
theorem CoOk.drop (h : CoOk m c) (q now : Int) : CoOk m (dropC q now c).1 := by
  unfold dropC
  split
  · exact h
  · exact ⟨h.ca, h.cg, h.ef, h.eg, by show (setE c.en q 0).length = _; rw [setE_length]; exact h.en, setE_ok h.ok (by decide)⟩
theorem CoOk.reset (h : CoOk m c) (keyed : Bool) (now : Int) : CoOk m (resetC m keyed now c).1 := by
  unfold resetC
  split
  · have h1 := foldN_inv (fun _ (s : Co × List Nt) => CoOk m s.1) (freeStep m now) (c, []) m.efs.length h (fun k hk s hs => by
      unfold freeStep
      split
      · exact ⟨hs.ca, hs.cg, hs.ef.reset k, hs.eg, hs.en, hs.ok⟩
      · exact hs)
    exact foldN_inv (fun _ (s : Co × List Nt) => CoOk m s.1) (clearStep now) _ m.cas.length h1 (fun k hk s hs => by
      unfold clearStep
      split
      · exact ⟨hs.ca.reset k, hs.cg, hs.ef, hs.eg, hs.en, hs.ok⟩
      · exact hs)
  · exact h
theorem CoOk.scan (h : CoOk m c) (l : List (Bool × Int)) (now : Int) : CoOk m (scanC m l now c).1 := by
  unfold scanC
  split
  · exact h
  · have h0 : CoOk m { c with en := lapseE c.en now } := ⟨h.ca, h.cg, h.ef, h.eg, by show (lapseE c.en now).length = _; unfold lapseE; rw [List.length_map]; exact h.en, fun e he => by
      obtain ⟨e0, h1, rfl⟩ := List.mem_map.1 (show e ∈ c.en.map fun e => if 0 < e ∧ e ≤ now then 0 else e from he)
      split
      · decide
      · exact h.ok e0 h1⟩
    have h1 := foldN_inv (fun _ (s : Co) => CoOk m s) (seeQ m l now) _ l.length h0 (fun k hk s hs => ⟨hs.ca, hs.cg, hs.ef, hs.eg, hs.en, hs.ok⟩)
    refine foldN_inv (fun _ (s : Co × List Nt) => CoOk m s.1) (scanQ m now) _ m.cas.length h1 (fun q hq s hs => ?_)
    unfold scanQ
    dsimp only
    have h2 : CoOk m { s.1 with tr := s.1.tr.set q (voteB (caAt m q).vt (insOf s.1 (caAt m q))) } := ⟨hs.ca, hs.cg, hs.ef, hs.eg, hs.en, hs.ok⟩
    split
    · exact h2
    · refine foldN_inv (fun _ (s : Co × List Nt) => CoOk m s.1) (efStep m q now) _ m.efs.length ?_ (fun e he t ht => ?_)
      · split
        · exact h2
        · exact ⟨h2.ca.trip (by rw [h2.cal]; exact hq) now, h2.cg, h2.ef, h2.eg, h2.en, h2.ok⟩
      · unfold efStep
        split
        · exact ⟨ht.ca, ht.cg, ht.ef.trip (by rw [ht.efl]; exact he) now, ht.eg, ht.en, ht.ok⟩
        · exact ht
/-- What stands may be loaded into any other core, and stands there. -/
theorem loads_same (h : CoOk m c) (d : Co) : ∃ d', loadC m (stateC c) d = some d' ∧ stateC d' = stateC c := by
  obtain ⟨a, ha1, ha2, -, -⟩ := loadL_all (r0 := newL (m.cas.map groupOf)) h.ca h.cg.symm (by simp [newL])
  obtain ⟨b, hb1, hb2, -, -⟩ := loadL_all (r0 := newL (m.efs.map fun _ => 0)) h.ef h.eg.symm (by simp [newL])
  refine ⟨{ d with ca := a, ef := b, en := c.en }, ?_, ?_⟩
  · unfold loadC stateC
    dsimp only
    rw [ha1, hb1]
    exact if_pos ⟨h.en, List.all_eq_true.2 h.ok⟩
  · unfold stateC
    dsimp only
    rw [ha2, hb2]
/-- Loading asks the groups of a matrix alone. -/
theorem loadC_same {m m' : Mx} (hg : m'.cas.map groupOf = m.cas.map groupOf) (he : m'.efs.length = m.efs.length) (s : St) (d : Co) : loadC m' s d = loadC m s d := by
  have hc : m'.cas.length = m.cas.length := by have := congrArg List.length hg; simpa using this
  unfold loadC
  rw [hg, hc, List.map_const', List.map_const', he]
/-- What was loaded stands. -/
theorem loads_any {s : St} {d d' : Co} (h : loadC m s d = some d') : stateC d' = s := by
  unfold loadC at h
  cases ha : loadL (newL (m.cas.map groupOf)) s.1 with
  | none => rw [ha] at h; cases h
  | some a =>
    cases hb : loadL (newL (m.efs.map fun _ => 0)) s.2.1 with
    | none => rw [ha, hb] at h; cases h
    | some b =>
      rw [ha, hb] at h
      dsimp only at h
      split at h
      · cases h
        obtain ⟨h1, -⟩ := loadL_shows (by simp [newL]) ha
        obtain ⟨h2, -⟩ := loadL_shows (by simp [newL]) hb
        unfold stateC
        dsimp only
        rw [h1, h2]
      · cases h
end
end Go.Proofs.YtgajbgdkgelkgaaGreat
