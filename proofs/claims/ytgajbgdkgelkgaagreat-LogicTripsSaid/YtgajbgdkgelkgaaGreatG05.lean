/- Layer 14, plain: what holds of latches, whatever is done. · A map from int to int, as a function that may have nothing: its laws for the walk. · Layer 14: a row of latches in memory. -/
import Derived.Test.YtgajbgdkgelkgaaGreatG03
import Derived.Test.YtgajbgdkgelkgaaGreatG01
import Derived.Test.YtgajbgdkgelkgaaGreatG04
namespace Go.Proofs.YtgajbgdkgelkgaaGreat

theorem foldN_inv {β : Type} (P : Nat → β → Prop) (f : β → Nat → β) (s : β) (n : Nat) (h0 : P 0 s) (hs : ∀ k, k < n → ∀ b, P k b → P (k + 1) (f b k)) : P n (foldN f s n) := by
  suffices h : ∀ k, k ≤ n → P k (foldN f s k) from h n (Nat.le_refl _)
  intro k
  induction k with
  | zero => intro _; exact h0
  | succ k ih => intro hk; rw [foldN_succ]; exact hs k (by omega) _ (ih (by omega))
theorem foldN_still {β : Type} (f : β → Nat → β) (s : β) (n : Nat) (h : ∀ k, k < n → f s k = s) : foldN f s n = s :=
  foldN_inv (fun _ b => b = s) f s n rfl (fun k hk b hb => by rw [hb]; exact h k hk)
/-- A latch that is a group's first one is set, and is of that group; no group 0 has one. -/
structure LwOk (r : Lw) : Prop where
  len : r.s.length = r.g.length
  fi : ∀ x j, r.f x = some j → x ≠ 0 ∧ j < r.s.length ∧ gOf r j = x ∧ setOf r j = true
theorem setOf_lt {r : Lw} {i : Nat} (h : setOf r i = true) : i < r.s.length := by
  unfold setOf at h
  rw [List.getD_eq_getElem?_getD] at h
  rcases Nat.lt_or_ge i r.s.length with h1 | h1
  · exact h1
  · rw [List.getElem?_eq_none h1] at h; simp at h
theorem setOf_put (r : Lw) (i : Nat) (b : Bool) (t : Int) (f : Int → Option Nat) (j : Nat) : setOf { r with s := r.s.set i (b, t), f := f } j = if j = i then (b && decide (i < r.s.length)) else setOf r j := by
  unfold setOf
  dsimp only
  rw [List.getD_eq_getElem?_getD, List.getD_eq_getElem?_getD, List.getElem?_set]
  by_cases e : i = j
  · subst e
    rw [if_pos rfl, if_pos rfl]
    by_cases h : i < r.s.length
    · rw [if_pos h]; simp [h]
    · rw [if_neg h]; simp [h]
  · rw [if_neg e, if_neg (fun h => e h.symm)]
theorem atOf_put (r : Lw) (i : Nat) (b : Bool) (t : Int) (f : Int → Option Nat) {j : Nat} (h : j ≠ i) : atOf { r with s := r.s.set i (b, t), f := f } j = atOf r j := by
  unfold atOf
  dsimp only
  rw [List.getD_eq_getElem?_getD, List.getD_eq_getElem?_getD, List.getElem?_set_ne (fun e => h e.symm)]
theorem set_trip (r : Lw) (i : Nat) (now : Int) (j : Nat) : setOf (tripL r i now) j = if j = i then decide (i < r.s.length) else setOf r j := by
  unfold tripL; rw [setOf_put]; simp
theorem set_reset (r : Lw) (i j : Nat) : setOf (resetL r i) j = if j = i then false else setOf r j := by
  unfold resetL; rw [setOf_put]; simp
theorem LwOk.new (g : List Int) : LwOk (newL g) := ⟨by simp [newL], fun x j h => by simp [newL] at h⟩
theorem LwOk.trip {r : Lw} (h : LwOk r) {i : Nat} (hi : i < r.s.length) (now : Int) : LwOk (tripL r i now) := by
  refine ⟨by simp [tripL, h.len], fun x j hx => ?_⟩
  have hold : r.f x = some j → x ≠ 0 ∧ j < (tripL r i now).s.length ∧ gOf (tripL r i now) j = x ∧ setOf (tripL r i now) j = true := fun hx => by
    obtain ⟨h1, h2, h3, h4⟩ := h.fi x j hx
    refine ⟨h1, by simpa [tripL] using h2, h3, ?_⟩
    rw [set_trip]
    split
    · simpa using hi
    · exact h4
  simp only [tripL] at hx
  by_cases g0 : gOf r i = 0
  · rw [if_pos g0] at hx; exact hold hx
  · rw [if_neg g0] at hx
    split at hx
    · unfold fup at hx
      split at hx
      · rename_i e
        cases hx
        subst e
        exact ⟨g0, by simpa [tripL] using hi, rfl, by rw [set_trip]; simpa using hi⟩
      · exact hold hx
    · exact hold hx
theorem LwOk.reset {r : Lw} (h : LwOk r) (i : Nat) : LwOk (resetL r i) := by
  refine ⟨by simp [resetL, h.len], fun x j hx => ?_⟩
  have hold : r.f x = some j → j ≠ i → x ≠ 0 ∧ j < (resetL r i).s.length ∧ gOf (resetL r i) j = x ∧ setOf (resetL r i) j = true := fun hx hne => by
    obtain ⟨h1, h2, h3, h4⟩ := h.fi x j hx
    refine ⟨h1, by simpa [resetL] using h2, h3, ?_⟩
    rw [set_reset, if_neg hne]
    exact h4
  simp only [resetL] at hx
  by_cases g0 : gOf r i = 0
  · rw [if_pos g0] at hx
    refine hold hx fun e => ?_
    subst e
    have := h.fi x j hx
    omega
  · rw [if_neg g0] at hx
    split at hx
    · rename_i e
      unfold fup at hx
      split at hx
      · cases hx
      · rename_i hne
        refine hold hx fun e2 => ?_
        subst e2
        exact hne (h.fi x j hx).2.2.1.symm
    · rename_i e
      refine hold hx fun e2 => ?_
      subst e2
      exact e (by rw [(h.fi x j hx).2.2.1]; exact hx)
/-- What loading says, place by place. -/
theorem loadF_spec (g : List Int) : ∀ (l : List (Bool × Int × Bool)) (i : Nat) (f f' : Int → Option Nat), loadF g l i f = some f' →
    (∀ x j, f x = some j → f' x = some j) ∧ (∀ x j, f' x = some j → f x = some j ∨ (i ≤ j ∧ x ≠ 0 ∧ x = g.getD j 0 ∧ ∃ t, l[j - i]? = some (true, t, true))) ∧
    ∀ k st t fi, l[k]? = some (st, t, fi) → (st = true → fi = true → f' (g.getD (i + k) 0) = some (i + k)) ∧ (st = false → t = 0 ∧ fi = false)
  | [], i, f, f', h => by
    simp only [loadF, Option.some.injEq] at h
    subst h
    exact ⟨fun _ _ h => h, fun _ _ h => .inl h, fun k st t fi h => by simp at h⟩
  | (st, t, fi) :: l, i, f, f', h => by
    have step : ∀ f1 : Int → Option Nat, loadF g l (i + 1) f1 = some f' → (∀ x j, f x = some j → f1 x = some j) → (∀ x j, f1 x = some j → f x = some j ∨ (j = i ∧ x ≠ 0 ∧ x = g.getD j 0 ∧ st = true ∧ fi = true)) →
        ((st = true → fi = true → f1 (g.getD i 0) = some i) ∧ (st = false → t = 0 ∧ fi = false)) →
        (∀ x j, f x = some j → f' x = some j) ∧ (∀ x j, f' x = some j → f x = some j ∨ (i ≤ j ∧ x ≠ 0 ∧ x = g.getD j 0 ∧ ∃ t', ((st, t, fi) :: l)[j - i]? = some (true, t', true))) ∧
        ∀ k st' t' fi', ((st, t, fi) :: l)[k]? = some (st', t', fi') → (st' = true → fi' = true → f' (g.getD (i + k) 0) = some (i + k)) ∧ (st' = false → t' = 0 ∧ fi' = false) := by
      intro f1 h1 h2 h3 h4
      obtain ⟨a1, a2, a3⟩ := loadF_spec g l (i + 1) f1 f' h1
      refine ⟨fun x j hx => a1 x j (h2 x j hx), fun x j hx => ?_, fun k st' t' fi' hk => ?_⟩
      · rcases a2 x j hx with hx | ⟨b1, b2, b3, t', b4⟩
        · rcases h3 x j hx with hx | ⟨rfl, c1, c2, c3, c4⟩
          · exact .inl hx
          · exact .inr ⟨Nat.le_refl _, c1, c2, t, by rw [Nat.sub_self, c3, c4]; rfl⟩
        · refine .inr ⟨by omega, b2, b3, t', ?_⟩
          rw [show j - i = (j - (i + 1)) + 1 by omega, List.getElem?_cons_succ]
          exact b4
      · cases k with
        | zero =>
          simp only [List.getElem?_cons_zero, Option.some.injEq, Prod.mk.injEq] at hk
          obtain ⟨rfl, rfl, rfl⟩ := hk
          exact ⟨fun e1 e2 => a1 _ _ (h4.1 e1 e2), h4.2⟩
        | succ k =>
          have := a3 k st' t' fi' (by simpa using hk)
          rwa [show i + 1 + k = i + (k + 1) by omega] at this
    simp only [loadF] at h
    cases st with
    | false =>
      simp only [Bool.false_eq_true, if_false] at h
      split at h
      · rename_i hc
        simp only [Bool.and_eq_true, beq_iff_eq, Bool.not_eq_true'] at hc
        exact step f h (fun _ _ h => h) (fun _ _ h => .inl h) ⟨fun e => (by cases e), fun _ => hc⟩
      · cases h
    | true =>
      simp only [if_true] at h
      cases fi with
      | false =>
        simp only [Bool.false_eq_true, if_false] at h
        exact step f h (fun _ _ h => h) (fun _ _ h => .inl h) ⟨fun _ e => (by cases e), fun e => (by cases e)⟩
      | true =>
        simp only [if_true] at h
        split at h
        · cases h
        · rename_i hc
          simp only [Bool.or_eq_true, beq_iff_eq, not_or] at hc
          refine step _ h (fun x j hx => ?_) (fun x j hx => ?_) ⟨fun _ _ => (by simp [fup]), fun e => (by cases e)⟩
          · unfold fup
            split
            · rename_i e; subst e; exact absurd (by rw [hx]; rfl) hc.1
            · exact hx
          · unfold fup at hx
            split at hx
            · rename_i e
              cases hx
              exact .inr ⟨rfl, by rw [e]; exact hc.2, e, rfl, rfl⟩
            · exact .inl hx
theorem getD_map_list {α β : Type} (f : α → β) (l : List α) (i : Nat) (d : β) : (l.map f).getD i d = match l[i]? with | some x => f x | none => d := by
  rw [List.getD_eq_getElem?_getD, List.getElem?_map]
  cases l[i]? <;> rfl
/-- What was loaded is shown as it was, and is in order. -/
theorem loadL_shows {r r' : Lw} {l : List (Bool × Int × Bool)} (hl : r.s.length = r.g.length) (h : loadL r l = some r') : allL r' = l ∧ LwOk r' ∧ r'.g = r.g := by
  unfold loadL at h
  split at h
  · rename_i hlen
    obtain ⟨f', hf, rfl⟩ := Option.map_eq_some_iff.1 h
    obtain ⟨-, a2, a3⟩ := loadF_spec r.g l 0 _ f' hf
    have hset : ∀ k st t fi, l[k]? = some (st, t, fi) → setOf { r with s := l.map fun x => (x.1, x.2.1), f := f' } k = st ∧ atOf { r with s := l.map fun x => (x.1, x.2.1), f := f' } k = t := fun k st t fi hk => by
      unfold setOf atOf
      dsimp only
      rw [getD_map_list, hk]
      exact ⟨rfl, rfl⟩
    refine ⟨?_, ⟨by simp [hlen, hl], fun x j hx => ?_⟩, rfl⟩
    · unfold allL
      apply List.ext_getElem?
      intro k
      rw [List.getElem?_map]
      rcases Nat.lt_or_ge k l.length with hk | hk
      · rw [List.getElem?_range (by simpa using hk)]
        obtain ⟨⟨st, t, fi⟩, e⟩ : ∃ x, l[k]? = some x := ⟨_, List.getElem?_eq_getElem hk⟩
        rw [e]
        obtain ⟨h1, h2⟩ := hset k st t fi e
        have h3 := a3 k st t fi e
        simp only [Option.map_some, Option.some.injEq]
        unfold latchAt
        rw [h1, h2]
        cases st with
        | false =>
          obtain ⟨rfl, rfl⟩ := h3.2 rfl
          rfl
        | true =>
          rw [if_pos rfl]
          congr 2
          have hg : gOf { r with s := l.map fun x => (x.1, x.2.1), f := f' } k = r.g.getD k 0 := rfl
          rw [hg]
          cases fi with
          | true =>
            have := h3.1 rfl rfl
            rw [Nat.zero_add] at this
            show (f' (r.g.getD k 0) == some k) = true
            rw [this, beq_self_eq_true]
          | false =>
            rw [beq_eq_false_iff_ne]
            intro hh
            rcases a2 _ _ hh with h4 | ⟨_, _, _, t', h4⟩
            · cases h4
            · rw [Nat.sub_zero, e] at h4; simp at h4
      · rw [List.getElem?_eq_none hk, List.getElem?_eq_none (by simpa using hk)]; rfl
    · rcases a2 _ _ hx with h4 | ⟨_, h5, h6, t', h4⟩
      · cases h4
      · rw [Nat.sub_zero] at h4
        obtain ⟨h7, _⟩ := hset _ _ _ _ h4
        exact ⟨h5, setOf_lt h7, h6.symm, h7⟩
  · cases h
theorem loadF_some (g : List Int) (r : Lw) (hg : r.g = g) (h : LwOk r) : ∀ (l : List Nat) (i : Nat) (f : Int → Option Nat), (∀ k q, l[k]? = some q → q = i + k) → (∀ x j, f x = some j → r.f x = some j ∧ j < i) → (loadF g (l.map (latchAt r)) i f).isSome
  | [], i, f, _, _ => rfl
  | q :: l, i, f, hq, hf => by
    have hq0 : q = i := by simpa using hq 0 q rfl
    subst hq0
    have hrest : ∀ k q', l[k]? = some q' → q' = q + 1 + k := fun k q' e => by have := hq (k + 1) q' (by simpa using e); omega
    rw [List.map_cons]
    unfold latchAt
    by_cases hs : setOf r q = true
    · rw [if_pos hs]
      simp only [loadF, if_true]
      by_cases hfi : r.f (gOf r q) = some q
      · rw [show (r.f (gOf r q) == some q) = true by simp [hfi], if_pos rfl]
        obtain ⟨h1, h2, h3, h4⟩ := h.fi _ _ hfi
        have e1 : g.getD q 0 = gOf r q := by unfold gOf; rw [hg]
        rw [e1]
        have hnone : f (gOf r q) = none := by
          cases e : f (gOf r q) with
          | none => rfl
          | some j => obtain ⟨h5, h6⟩ := hf _ _ e; rw [hfi] at h5; cases h5; omega
        rw [hnone]
        simp only [Option.isSome_none, Bool.false_or, beq_iff_eq, if_neg h1]
        refine loadF_some g r hg h l (q + 1) _ hrest fun x j hx => ?_
        unfold fup at hx
        split at hx
        · rename_i e; cases hx; subst e; exact ⟨hfi, by omega⟩
        · obtain ⟨h5, h6⟩ := hf x j hx; exact ⟨h5, by omega⟩
      · rw [show (r.f (gOf r q) == some q) = false by simp [hfi]]
        simp only [Bool.false_eq_true, if_false]
        exact loadF_some g r hg h l (q + 1) _ hrest fun x j hx => by obtain ⟨h5, h6⟩ := hf x j hx; exact ⟨h5, by omega⟩
    · rw [if_neg hs]
      simp only [loadF, Bool.false_eq_true, if_false, beq_self_eq_true, Bool.not_false, Bool.and_self, if_true]
      exact loadF_some g r hg h l (q + 1) _ hrest fun x j hx => by obtain ⟨h5, h6⟩ := hf x j hx; exact ⟨h5, by omega⟩
/-- What is shown may be loaded. -/
theorem loadL_all {r r0 : Lw} (h : LwOk r) (hg : r0.g = r.g) (h0 : r0.s.length = r0.g.length) : ∃ r', loadL r0 (allL r) = some r' ∧ allL r' = allL r ∧ LwOk r' ∧ r'.g = r.g := by
  have hl : (allL r).length = r0.s.length := by simp [allL, h.len, h0, hg]
  have hs := loadF_some r0.g r hg.symm h (List.range r.s.length) 0 (fun _ => none) (fun k q e => by
    obtain ⟨hk, e⟩ := List.getElem?_eq_some_iff.1 e
    rw [List.getElem_range] at e
    omega) (fun x j h => by cases h)
  obtain ⟨f', hf⟩ := Option.isSome_iff_exists.1 hs
  have e : loadL r0 (allL r) = some { r0 with s := (allL r).map fun x => (x.1, x.2.1), f := f' } := by
    unfold loadL
    rw [if_pos hl]
    show Option.map _ (loadF r0.g (allL r) 0 _) = _
    unfold allL
    rw [hf]
    rfl
  refine ⟨_, e, ?_⟩
  obtain ⟨h1, h2, h3⟩ := loadL_shows h0 e
  exact ⟨h1, h2, h3.trans hg⟩
end Go.Proofs.YtgajbgdkgelkgaaGreat
namespace Go.Proofs.YtgajbgdkgelkgaaGreat
open Go.RowKit Go.Maps Go.ChangeMaps Go.MapKept

theorem zeroInt (w : World) : (zeroValue 3).run Tryz.prog w = .ok (.int .i64 0) w := by kernel_rfl
/-- A map's datum reads as a function. -/
def ReadsO (D : DataW Unit) (f : Int → Option Int) : Prop := ∀ i : Int, Maps.has D (.int .i64 i) = (f i).isSome ∧ D.atKey (.int .i64 i) (.lit (.int .i64 0)) = .lit (.int .i64 ((f i).getD 0))
def oup (f : Int → Option Int) (x : Int) (v : Option Int) : Int → Option Int := fun i => if i = x then v else f i
theorem oup_same (f : Int → Option Int) (x : Int) (v : Option Int) : oup f x v x = v := if_pos rfl
theorem oup_other (f : Int → Option Int) {x i : Int} (v : Option Int) (h : i ≠ x) : oup f x v i = f i := if_neg h
theorem ReadsO.none : ReadsO (.map []) (fun _ => Option.none) := fun _ => ⟨rfl, rfl⟩
theorem ReadsO.put {D : DataW Unit} {f : Int → Option Int} (h : ReadsO D f) (hD : IsMap D) (x v : Int) : ReadsO (D.put (.int .i64 x) (.lit (.int .i64 v))) (oup f x (some v)) := fun i => by
  by_cases e : i = x
  · subst e
    rw [oup_same]
    exact ⟨by rw [has_put_same hD (k := .int .i64 i) (by exact trivial)]; rfl, atKey_put_same hD (k := .int .i64 i) (by exact trivial) _ _⟩
  · rw [oup_other f (some v) e]
    have hne : (Lit.int IntKind.i64 i) ≠ .int .i64 x := fun h => e (by injection h)
    rw [has_put_other hne, atKey_put_other hne]
    exact h i
theorem ReadsO.del {D : DataW Unit} {f : Int → Option Int} (h : ReadsO D f) (x : Int) : ReadsO (D.del (.int .i64 x)) (oup f x Option.none) := fun i => by
  by_cases e : i = x
  · subst e
    rw [oup_same]
    exact ⟨by rw [has_del_same]; rfl, atKey_del_same _⟩
  · rw [oup_other f Option.none e]
    have hne : (Lit.int IntKind.i64 i) ≠ .int .i64 x := fun h => e (by injection h)
    rw [has_del_other hne, atKey_del_other hne]
    exact h i
/-- Block b is a map of at most N entries that reads as f. -/
def MapO (w : World) (b N : Nat) (f : Int → Option Int) : Prop := ∃ D : DataW Unit, w.ownsMap Tryz.prog 3 (plainElem Tryz.prog 3) b N D ∧ ReadsO D f
section
variable {w w' : World} {b N : Nat} {f : Int → Option Int}
theorem MapO.lt (h : MapO w b N f) : b < w.heap.size := by obtain ⟨D, h, _⟩ := h; exact h.lt
theorem MapO.keep (h : MapO w b N f) (hb : w'.heap[b]? = w.heap[b]?) : MapO w' b N f := by
  obtain ⟨D, ⟨es, clock, h1, h2⟩, hr⟩ := h
  exact ⟨D, ⟨es, clock, hb.trans h1, h2⟩, hr⟩
theorem MapO.ext (h : MapO w b N f) (E : Ext w w') : MapO w' b N f := h.keep (E.block b h.lt)
theorem MapO.mono (h : MapO w b N f) {M : Nat} (hM : N ≤ M) : MapO w b M f := by obtain ⟨D, h, hr⟩ := h; exact ⟨D, h.mono hM, hr⟩
theorem MapO.congr (h : MapO w b N f) {f' : Int → Option Int} (hf : ∀ i, f i = f' i) : MapO w b N f' := by rw [show f' = f from funext fun i => (hf i).symm]; exact h
theorem MapO.made (w : World) : MapO (w.alloc (.map #[] 0)) w.heap.size 0 (fun _ => Option.none) := ⟨_, World.ownsMap_made _ _ _ _, ReadsO.none⟩
set_option maxRecDepth 100000 in
theorem MapO.look (h : MapO w b N f) {i : Int} (hi : (Lit.int .i64 i).wf = true) : (Instr.lookup 135 (.map (some b)) (.int .i64 i) false).run Tryz.prog w = .ok (.int .i64 ((f i).getD 0)) w := by
  obtain ⟨D, h, hr⟩ := h
  obtain ⟨c, hrun, hat, _⟩ := h.lookup_int keyI Tryz.underlying135 Tryz.underlying3 (zeroInt w) (keyOf_int_mk Tryz.underlying3 hi)
  rw [(hr i).2] at hat
  injection hat with hat
  injection hat with _ hat
  rw [hrun, hat]
set_option maxRecDepth 100000 in
theorem MapO.look_ok (h : MapO w b N f) {i : Int} (hi : (Lit.int .i64 i).wf = true) : (Instr.lookup 135 (.map (some b)) (.int .i64 i) true).run Tryz.prog w = .ok (.tuple #[.int .i64 ((f i).getD 0), .bool (f i).isSome]) w := by
  obtain ⟨D, h, hr⟩ := h
  obtain ⟨v, ps, hrun, hv⟩ := h.look_ok keyI Tryz.underlying135 (zeroInt w) (plainElem_int (H := Unit) Tryz.underlying3 (by decide)) (keyOf_int_mk Tryz.underlying3 hi)
  rw [(hr i).2] at hv
  rw [(hr i).1] at hrun
  obtain ⟨c, rfl, hc, _⟩ := plainElem_int_inv Tryz.underlying3 hv
  injection hc with hc _
  injection hc with hc
  injection hc with _ hc
  rw [hrun, hc]
end
section
variable {ops : Array Oper} {rest : List Oper} {o : Oper} {a : Act} {Q : Exit → Act → World → Prop} {w : World}
theorem wpList_storeO (hg : o.guard = none) (m x v : Operand) (hop : o.op = Op.mapUpdate 135 m x v) {b N : Nat} {f : Int → Option Int} (hm : a.eval m = .map (some b)) {i c : Int} (hx : a.eval x = .int .i64 i) (hv : a.eval v = .int .i64 c)
    (h : MapO w b N f) (hN : N < maxLen) (hi : (Lit.int .i64 i).wf = true) (hc : (Lit.int .i64 c).wf = true)
    (hK : ∀ w', MapO w' b (N + 1) (oup f i (some c)) → Mod (fun i => i = b) w w' → wpList Tryz.prog ops Q rest (a.put o.dst undef) w') : wpList Tryz.prog ops Q (o :: rest) a w := by
  obtain ⟨D, h, hr⟩ := h
  exact wpList_mapUpdate_own w hg m x v _ hop _ 3 keyI Tryz.underlying135 _ b N D hm h hN _ _ _ hx hv (keyOf_int_mk Tryz.underlying3 hi) _ [] (plainElem_int Tryz.underlying3 hc)
    fun w' h1 h2 => hK w' ⟨_, h1, hr.put h.isMap i c⟩ (Mod.ofGrown h2)
theorem wpList_dropO (hg : o.guard = none) (m x : Operand) (hop : o.op = Op.call { callee := Callee.builtin Builtin.delete, args := #[m, x], argTypes := #[135, 3] }) {b N : Nat} {f : Int → Option Int} (hm : a.eval m = .map (some b)) {i : Int} (hx : a.eval x = .int .i64 i)
    (h : MapO w b N f) (hi : (Lit.int .i64 i).wf = true)
    (hK : ∀ w', MapO w' b N (oup f i Option.none) → Mod (fun i => i = b) w w' → wpList Tryz.prog ops Q rest (a.put o.dst (.tuple #[])) w') : wpList Tryz.prog ops Q (o :: rest) a w := by
  obtain ⟨D, h, hr⟩ := h
  exact wpList_delete_own w hg m x _ _ hop 3 keyI Tryz.underlying135 _ b N D hm h _ _ hx (keyOf_int_mk Tryz.underlying3 hi) fun w' h1 h2 => hK w' ⟨_, h1, hr.del i⟩ (Mod.ofGrown h2.grown)
end
end Go.Proofs.YtgajbgdkgelkgaaGreat
namespace Go.Proofs.YtgajbgdkgelkgaaGreat
open Go.RowKit

theorem cntG_put : ∀ (g : List Int) (s : List (Bool × Int)) (i : Nat) (b : Bool) (t x : Int), s.length = g.length → i < g.length →
    cntG g (s.set i (b, t)) x + (if g.getD i 0 = x ∧ (s.getD i (false, 0)).1 = true then 1 else 0) = cntG g s x + (if g.getD i 0 = x ∧ b = true then 1 else 0)
  | [], s, i, b, t, x, hl, hi => absurd hi (by simp)
  | a :: g, [], i, b, t, x, hl, hi => by simp at hl
  | a :: g, y :: s, 0, b, t, x, hl, hi => by
    simp only [cntG, List.set_cons_zero, List.zip_cons_cons, List.countP_cons, List.getD_cons_zero]
    by_cases e : a = x
    · cases b <;> cases h : y.1 <;> simp [e]
    · simp [e]
  | a :: g, y :: s, i + 1, b, t, x, hl, hi => by
    have := cntG_put g s i b t x (by simpa using hl) (by simpa using hi)
    simp only [cntG, List.set_cons_succ, List.zip_cons_cons, List.countP_cons, List.getD_cons_succ] at this ⊢
    omega
theorem cntG_le (g : List Int) (s : List (Bool × Int)) (x : Int) : cntG g s x ≤ g.length := by
  unfold cntG
  exact Nat.le_trans List.countP_le_length (by rw [List.length_zip]; omega)
/-- The latches of a row, in memory. -/
def RowL (w : World) (gl : Nat) (r : Lw) : Prop := ∃ cs : Array Value, w.heap[gl]? = some (.cells cs 141 (0, 0)) ∧ cs.size = r.g.length * 4 ∧ ∀ i, i < r.g.length → cs[i * 4]? = some (.bool (setOf r i)) ∧ cs[i * 4 + 1]? = some (.int .i64 (atOf r i)) ∧ cs[i * 4 + 2]? = some (.bool false) ∧ cs[i * 4 + 3]? = some (.int .i64 (gOf r i))
theorem RowL.lt {w : World} {gl : Nat} {r : Lw} (h : RowL w gl r) : gl < w.heap.size := by obtain ⟨cs, h, _⟩ := h; exact lt_of_block h
theorem RowL.keep {w w' : World} {gl : Nat} {r : Lw} (h : RowL w gl r) (hk : w'.heap[gl]? = w.heap[gl]?) : RowL w' gl r := by obtain ⟨cs, h, k⟩ := h; exact ⟨cs, hk.trans h, k⟩
theorem RowL.frozen {w : World} {gl : Nat} {r : Lw} (h : RowL w gl r) (j : Nat) : w.frozen? ⟨gl, j, none⟩ = false := by obtain ⟨cs, h, _⟩ := h; exact frozenIn h j
theorem RowL.cells {w : World} {gl : Nat} {r : Lw} (h : RowL w gl r) {i : Nat} (hi : i < r.g.length) : w.cell? ⟨gl, i * 4, none⟩ = some (.bool (setOf r i)) ∧ w.cell? ⟨gl, i * 4 + 1, none⟩ = some (.int .i64 (atOf r i)) ∧ w.cell? ⟨gl, i * 4 + 2, none⟩ = some (.bool false) ∧ w.cell? ⟨gl, i * 4 + 3, none⟩ = some (.int .i64 (gOf r i)) := by
  obtain ⟨cs, h, _, k⟩ := h
  have hc := cellsAt h
  obtain ⟨k0, k1, k2, k3⟩ := k i hi
  exact ⟨(hc _).trans k0, (hc _).trans k1, (hc _).trans k2, (hc _).trans k3⟩
theorem RowL.put {w : World} {gl : Nat} {r : Lw} (h : RowL w gl r) {i : Nat} (hi : i < r.g.length) (hl : r.s.length = r.g.length) (b : Bool) (t : Int) (f : Int → Option Nat) :
    RowL ((w.setCell ⟨gl, i * 4, none⟩ (.bool b)).setCell ⟨gl, i * 4 + 1, none⟩ (.int .i64 t)) gl { r with s := r.s.set i (b, t), f := f } := by
  obtain ⟨cs, h, hs, k⟩ := h
  refine ⟨_, sets_block (sets_block h (i * 4) (.bool b)) (i * 4 + 1) (.int .i64 t), by simpa using hs, fun j hj => ?_⟩
  have hset := setOf_put r i b t f j
  obtain ⟨k0, k1, k2, k3⟩ := k j hj
  dsimp only at hj
  rw [hset]
  simp only [Array.getElem?_setIfInBounds, Array.size_setIfInBounds]
  have hg : gOf { r with s := r.s.set i (b, t), f := f } j = gOf r j := rfl
  rw [hg]
  by_cases e : j = i
  · subst e
    have hat : atOf { r with s := r.s.set j (b, t), f := f } j = t := by
      unfold atOf
      dsimp only
      rw [List.getD_eq_getElem?_getD, List.getElem?_set_self (by omega)]
      rfl
    rw [hat, if_pos rfl]
    refine ⟨?_, ?_, ?_, ?_⟩
    · rw [if_neg (by omega), if_pos rfl, if_pos (by omega)]; simp; omega
    · rw [if_pos rfl, if_pos (by omega)]
    · rw [if_neg (by omega), if_neg (by omega)]; exact k2
    · rw [if_neg (by omega), if_neg (by omega)]; exact k3
  · rw [atOf_put r i b t f e, if_neg e]
    refine ⟨?_, ?_, ?_, ?_⟩
    · rw [if_neg (by omega), if_neg (by omega)]; exact k0
    · rw [if_neg (by omega), if_neg (by omega)]; exact k1
    · rw [if_neg (by omega), if_neg (by omega)]; exact k2
    · rw [if_neg (by omega), if_neg (by omega)]; exact k3
def cntO (r : Lw) (x : Int) : Option Int := if x = 0 ∨ cntG r.g r.s x = 0 then none else some (cntG r.g r.s x : Int)
def firO (r : Lw) (x : Int) : Option Int := (r.f x).map fun n => (n : Int)
theorem cntO_getD {r : Lw} {x : Int} (h : x ≠ 0) : (cntO r x).getD 0 = (cntG r.g r.s x : Int) := by
  unfold cntO
  by_cases h0 : cntG r.g r.s x = 0
  · rw [if_pos (.inr h0), h0]; rfl
  · rw [if_neg (by rintro (h1 | h1) <;> contradiction)]; rfl
/-- A row in memory: its block g, its latches in gl, its maps in gf and gs. -/
structure Rw (w : World) (g gl gf gs N : Nat) (r : Lw) : Prop where
  head : w.heap[g]? = some (.cells #[.slice (some ⟨gl, 0, none⟩) r.g.length r.g.length, .map (some gf), .map (some gs)] 137 (0, 0))
  row : RowL w gl r
  fm : MapO w gf N (firO r)
  sm : MapO w gs N (cntO r)
  ok : LwOk r
  grp : ∀ i, 0 ≤ gOf r i ∧ gOf r i ≤ 1000
  ap : g ≠ gl ∧ g ≠ gf ∧ g ≠ gs ∧ gl ≠ gf ∧ gl ≠ gs ∧ gf ≠ gs
  fit : r.g.length ≤ 1000
section
variable {w w' : World} {g gl gf gs N : Nat} {r : Lw}
theorem Rw.old (h : Rw w g gl gf gs N r) {b : Nat} (hb : b = g ∨ b = gl ∨ b = gf ∨ b = gs) : b < w.heap.size := by
  rcases hb with rfl | rfl | rfl | rfl
  · exact lt_of_block h.head
  · exact h.row.lt
  · exact h.fm.lt
  · exact h.sm.lt
theorem Rw.keep (h : Rw w g gl gf gs N r) (hk : ∀ b, b = g ∨ b = gl ∨ b = gf ∨ b = gs → w'.heap[b]? = w.heap[b]?) : Rw w' g gl gf gs N r :=
  ⟨(hk g (.inl rfl)).trans h.head, h.row.keep (hk gl (.inr (.inl rfl))), h.fm.keep (hk gf (.inr (.inr (.inl rfl)))), h.sm.keep (hk gs (.inr (.inr (.inr rfl)))), h.ok, h.grp, h.ap, h.fit⟩
theorem Rw.ext (h : Rw w g gl gf gs N r) (E : Ext w w') : Rw w' g gl gf gs N r := h.keep fun b hb => E.block b (h.old hb)
theorem Rw.mod (h : Rw w g gl gf gs N r) {S : Nat → Prop} (M : Mod S w w') (hs : ∀ b, b = g ∨ b = gl ∨ b = gf ∨ b = gs → ¬ S b) : Rw w' g gl gf gs N r := h.keep fun b hb => M.block b (h.old hb) (hs b hb)
theorem Rw.mono (h : Rw w g gl gf gs N r) {M : Nat} (hM : N ≤ M) : Rw w g gl gf gs M r := ⟨h.head, h.row, h.fm.mono hM, h.sm.mono hM, h.ok, h.grp, h.ap, h.fit⟩
end
set_option maxRecDepth 100000 in
theorem latchHas_any (g gl gf gs N : Nat) (r : Lw) (w : World) (h : Rw w g gl gf gs N r) (i : Nat) (hi : i < r.g.length) : Calls Tryz.prog 77 #[.pointer (some ⟨g, 0, none⟩), .int .i64 i] w fun e w' => e = .returned (.bool true) ∧ w = w' := by
  have hg := lt_of_block h.head
  have c0 : w.cell? ⟨g, 0, none⟩ = some (.slice (some ⟨gl, 0, none⟩) r.g.length r.g.length) := cellsAt h.head 0
  have d1 : decide ((0 : Int) ≤ (i : Int)) = true := by simp
  have d2 : decide ((i : Int) < (r.g.length : Int)) = true := by simp; omega
  have e3 : (i : Int) < (r.g.length : Int) := by omega
  clear h
  go_enter Tryz.func77, Tryz.ntmps77
  go_wp2_with fail
  go_ret
  exact ⟨rfl, rfl⟩
end Go.Proofs.YtgajbgdkgelkgaaGreat
