/- The order of the text serves in a region of many operations: reckoned off three tables of numbers. -/
import Derived.Deep.Quiet
import Derived.NoCompiler
import Derived.BigQuiet
namespace Go.Proofs.Ytgeahfkhfpdlhaa
open Go

def lexMem (x : Nat) : List Nat → Bool
  | [] => false
  | y :: l => Nat.beq x y || lexMem x l
def lexAt (d : Nat) (l : List Nat) (d' : Nat) (l' : List Nat) : Bool :=
  (match d with
   | e + 1 => !lexMem e l' && !Nat.beq d' (e + 1)
   | 0 => true) &&
  (match d' with
   | e + 1 => !lexMem e l
   | 0 => true)
def lexRest (k d : Nat) (l : List Nat) : List (List Nat) → List Nat → List (List Nat) → Bool
  | a :: as, d' :: ds, l' :: ls => (lexMem k a || lexAt d l d' l') && lexRest k d l as ds ls
  | _, _, _ => true
def lexGo : Nat → List (List Nat) → List Nat → List (List Nat) → Bool
  | k, a :: as, d :: ds, l :: ls => (a.all fun e => Nat.blt e k) && lexRest k d l as ds ls && lexGo (k + 1) as ds ls
  | _, _, _, _ => true
theorem lexMem_iff {x : Nat} {l : List Nat} : lexMem x l = true ↔ x ∈ l := by
  induction l with
  | nil => simp [lexMem]
  | cons y l ih => simp [lexMem, ih]
theorem lexMem_eq (x : Nat) (l : List Nat) : lexMem x l = l.contains x := by
  rw [Bool.eq_iff_iff, lexMem_iff, List.contains_iff_mem]
theorem lexRest_spec {k d : Nat} {l : List Nat} : ∀ {as : List (List Nat)} {ds : List Nat} {ls : List (List Nat)}, lexRest k d l as ds ls = true → ∀ (j : Nat) (a : List Nat) (d' : Nat) (l' : List Nat), as[j]? = some a → ds[j]? = some d' → ls[j]? = some l' → k ∈ a ∨ lexAt d l d' l' = true
  | [], _, _, _, j, a, d', l', h1, _, _ => by simp at h1
  | _ :: _, [], _, _, j, a, d', l', _, h1, _ => by simp at h1
  | _ :: _, _ :: _, [], _, j, a, d', l', _, _, h1 => by simp at h1
  | a0 :: as, d0 :: ds, l0 :: ls, h, j, a, d', l', h1, h2, h3 => by
    simp only [lexRest, Bool.and_eq_true, Bool.or_eq_true] at h
    cases j with
    | zero =>
      simp only [List.getElem?_cons_zero, Option.some.injEq] at h1 h2 h3
      subst h1 h2 h3
      exact h.1.imp_left lexMem_iff.1
    | succ j => exact lexRest_spec h.2 j a d' l' (by simpa using h1) (by simpa using h2) (by simpa using h3)
theorem lexGo_spec : ∀ {k : Nat} {as : List (List Nat)} {ds : List Nat} {ls : List (List Nat)}, lexGo k as ds ls = true → ∀ (i : Nat) (a : List Nat) (d : Nat) (l : List Nat), as[i]? = some a → ds[i]? = some d → ls[i]? = some l →
      (∀ e ∈ a, e < k + i) ∧ ∀ (j : Nat) (a' : List Nat) (d' : Nat) (l' : List Nat), i < j → as[j]? = some a' → ds[j]? = some d' → ls[j]? = some l' → k + i ∈ a' ∨ lexAt d l d' l' = true
  | k, [], _, _, _, i, a, d, l, h1, _, _ => by simp at h1
  | k, _ :: _, [], _, _, i, a, d, l, _, h1, _ => by simp at h1
  | k, _ :: _, _ :: _, [], _, i, a, d, l, _, _, h1 => by simp at h1
  | k, a0 :: as, d0 :: ds, l0 :: ls, h, i, a, d, l, h1, h2, h3 => by
    simp only [lexGo, Bool.and_eq_true, List.all_eq_true] at h
    cases i with
    | zero =>
      simp only [List.getElem?_cons_zero, Option.some.injEq] at h1 h2 h3
      subst h1 h2 h3
      refine ⟨fun e he => Nat.le_of_ble_eq_true (h.1.1 e he), fun j a' d' l' hj e1 e2 e3 => ?_⟩
      obtain ⟨j, rfl⟩ : ∃ j', j = j' + 1 := ⟨j - 1, by omega⟩
      exact lexRest_spec h.1.2 j a' d' l' (by simpa using e1) (by simpa using e2) (by simpa using e3)
    | succ i =>
      have := lexGo_spec h.2 i a d l (by simpa using h1) (by simpa using h2) (by simpa using h3)
      rw [show k + (i + 1) = k + 1 + i by omega]
      refine ⟨this.1, fun j a' d' l' hj e1 e2 e3 => ?_⟩
      obtain ⟨j, rfl⟩ : ∃ j', j = j' + 1 := ⟨j - 1, by omega⟩
      exact this.2 j a' d' l' (by omega) (by simpa using e1) (by simpa using e2) (by simpa using e3)
def lexPre (N k : Nat) : Array Bool := ((List.range N).map fun i => decide (i < k)).toArray
theorem lexPre_get (N k j : Nat) (b : Bool) : (lexPre N k).getD j b = if j < N then decide (j < k) else b := by
  unfold lexPre
  by_cases h : j < N <;> simp [Array.getD_eq_getD_getElem?, h]
theorem lexPre_set (N k : Nat) : (lexPre N k).setIfInBounds k true = lexPre N (k + 1) := by
  unfold lexPre
  apply Array.ext_getElem?
  intro j
  by_cases h : j < N
  · by_cases e : k = j
    · subst e
      simp [h]
    · simp [e, h]
      omega
  · simp [h]
theorem lexPre_zero (N : Nat) : Array.replicate N false = lexPre N 0 := by
  unfold lexPre
  apply Array.ext_getElem?
  intro j
  by_cases h : j < N <;> simp [h]
section
variable {md : Region.Mode} {ops : Array Oper} {as ls : List (List Nat)} {ds : List Nat}
theorem lexFrom_of (hA : Region.tabAfter md ops = as) (hD : Region.tabDst ops = ds) (hL : Region.tabLooks ops = ls) (h : lexGo 0 as ds ls = true) : ∀ n k, k + n = ops.size → Region.lexFrom md ops n k (lexPre ops.size k) = true := by
  have gA : ∀ (i : Nat) (o : Oper), ops[i]? = some o → as[i]? = some ((o.after.toList.filter (Region.binds md)).map (·.on)) := fun i o ho => by
    rw [← hA]; unfold Region.tabAfter; simp [ho]
  have gD : ∀ (i : Nat) (o : Oper), ops[i]? = some o → ds[i]? = some (match o.dst with | some d => d + 1 | none => 0) := fun i o ho => by
    rw [← hD]; unfold Region.tabDst; rw [List.getElem?_map, Array.getElem?_toList, ho]; rfl
  have gL : ∀ (i : Nat) (o : Oper), ops[i]? = some o → ls[i]? = some (o.looksAt ops) := fun i o ho => by
    rw [← hL]; unfold Region.tabLooks; simp [ho]
  intro n
  induction n with
  | zero =>
    intro k hk
    unfold Region.lexFrom
    rw [List.isEmpty_iff, List.eq_nil_iff_forall_not_mem]
    intro j hj
    have := (mem_ready.1 hj).1
    rw [lexPre_get] at this
    split at this
    · simp at this; omega
    · cases this
  | succ n ih =>
    intro k hk
    have hlt : k < ops.size := by omega
    have hok : ops[k]? = some ops[k] := Array.getElem?_eq_getElem hlt
    unfold Region.lexFrom
    rw [lexPre_set, ih (k + 1) (by omega), Bool.and_true, Bool.and_eq_true]
    have sp := lexGo_spec h k _ _ _ (gA k _ hok) (gD k _ hok) (gL k _ hok)
    rw [Nat.zero_add] at sp
    refine ⟨?_, ?_⟩
    · rw [List.contains_iff_mem]
      refine mem_ready.2 ⟨by rw [lexPre_get, if_pos hlt]; simp, _, hok, fun e he hb => ?_⟩
      have h1 := sp.1 e.on (List.mem_map.2 ⟨e, List.mem_filter.2 ⟨Array.mem_toList_iff.2 he, hb⟩, rfl⟩)
      rw [lexPre_get, if_pos (by omega)]
      simpa using h1
    · unfold Region.free
      rw [hok]
      dsimp only
      rw [List.all_eq_true]
      intro j hj
      have hj := List.mem_range.1 hj
      have hoj : ops[j]? = some ops[j] := Array.getElem?_eq_getElem hj
      rw [hoj]
      dsimp only
      rcases Nat.lt_trichotomy j k with h1 | h1 | h1
      · rw [lexPre_get, if_pos hj]
        simp [h1]
      · simp [h1]
      · have := sp.2 j _ _ _ h1 (gA j _ hoj) (gD j _ hoj) (gL j _ hoj)
        rw [Bool.or_eq_true]
        right
        rw [Bool.or_eq_true]
        rcases this with h2 | h2
        · left
          obtain ⟨e, he, heq⟩ := List.mem_map.1 h2
          obtain ⟨he1, he2⟩ := List.mem_filter.1 he
          rw [← Array.any_toList, List.any_eq_true]
          exact ⟨e, he1, by simp [he2, heq]⟩
        · right
          unfold lexAt at h2
          unfold Oper.apart
          rw [Bool.and_eq_true] at h2 ⊢
          refine ⟨?_, ?_⟩
          · have h3 := h2.1
            clear h2
            cases hd : ops[k].dst with
            | none => rfl
            | some d =>
              rw [hd] at h3
              dsimp only at h3 ⊢
              rw [Bool.and_eq_true] at h3 ⊢
              rw [lexMem_eq] at h3
              refine ⟨h3.1, ?_⟩
              have h4 := h3.2
              cases hd2 : ops[j].dst with
              | none => rfl
              | some d2 =>
                rw [hd2] at h4
                dsimp only at h4
                simp
                intro e
                subst e
                rw [Nat.beq_refl] at h4
                cases h4
          · have h3 := h2.2
            clear h2
            cases hd : ops[j].dst with
            | none => rfl
            | some d =>
              rw [hd] at h3
              dsimp only at h3 ⊢
              rw [lexMem_eq] at h3
              exact h3
theorem lexB_of (hs : Region.noSelect ops = true) (hA : Region.tabAfter md ops = as) (hD : Region.tabDst ops = ds) (hL : Region.tabLooks ops = ls) (h : lexGo 0 as ds ls = true) : Region.lexB md ops = true := by
  unfold Region.lexB
  rw [hs, Bool.true_and, lexPre_zero]
  exact lexFrom_of hA hD hL h ops.size 0 (by omega)
end
section
variable {P : Program} {ops : Array Oper} {C : World → Prop} {Q : Act → Prop} {a : Act} {rest : List Oper} {d : Option Nat} {op : Op} {ty : TypeId} {ps : String} {af : Array Edge} {g : Option (Nat × Bool)}
/-- One operation of a quiet walk whose value is told, wanted or not: behind it the walk goes on as if a constant had been moved. -/
theorem wpQuiet_told (D : Bool) (v : Value) (hC : ∃ w, C w) (hw : Region.wanted ⟨d, op, ty, ps, af, g⟩ (yielded ops a.tmps) = D) (h0 : D = false → v = undef) (h1 : D = true → ∀ K : Act → Prop, K (a.put d v) → (⟨d, op, ty, ps, af, g⟩ : Oper).quiet P a C K)
    (h : ∀ K : Act → Prop, (∀ a, wpQuiet P ops C Q rest a → K a) → (⟨d, .move (.const v), ty, ps, af, none⟩ : Oper).quiet P a C K) : wpQuiet P ops C Q (⟨d, op, ty, ps, af, g⟩ :: rest) a := by
  have hk : wpQuiet P ops C Q rest (a.put d v) := by
    obtain ⟨u, hu, hr⟩ := h (wpQuiet P ops C Q rest) (fun _ h => h)
    obtain ⟨w, hw'⟩ := hC
    have := hu w hw'
    unfold Oper.quietAt at this
    rw [BigFrame.run_move (.const v) rfl] at this
    have e : u = v := this.2.symm
    rw [← e]
    exact hr
  refine wpQuiet_step fun K hK => ?_
  rw [hw]
  cases D
  · rw [if_neg (by decide), ← h0 rfl]
    exact hK _ hk
  · rw [if_pos rfl]
    exact h1 rfl K (hK _ hk)
end
end Go.Proofs.Ytgeahfkhfpdlhaa
