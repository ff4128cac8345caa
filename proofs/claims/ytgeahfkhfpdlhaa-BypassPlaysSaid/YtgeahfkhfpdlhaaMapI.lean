/- A map from int to int64, as a function that is 0 where nothing stands: its laws for the walk. -/
import Derived.Test.YtgeahfkhfpdlhaaG01
import Derived.Maps.RangeWalk
import Derived.Maps.OwnOps
import Derived.Maps.OwnSet
namespace Go.Proofs.Ytgeahfkhfpdlhaa
open Go.RowKit Go.Maps Go.ChangeMaps Go.MapKept

theorem keyI : Keyed Try.prog 3 := int_keyed Try.underlying3
theorem zeroI64 (w : World) : (zeroValue 2).run Try.prog w = .ok (.int .i64 0) w := by kernel_rfl
/-- A map's datum reads as a function that is 0 where nothing stands. -/
def Reads (D : DataW Unit) (f : Int → Int) : Prop := ∀ i : Int, Maps.has D (.int .i64 i) = (f i != 0) ∧ D.atKey (.int .i64 i) (.lit (.int .i64 0)) = .lit (.int .i64 (f i))
def fupd (f : Int → Int) (x v : Int) : Int → Int := fun i => if i = x then v else f i
theorem fupd_same (f : Int → Int) (x v : Int) : fupd f x v x = v := if_pos rfl
theorem fupd_other (f : Int → Int) {x i : Int} (v : Int) (h : i ≠ x) : fupd f x v i = f i := if_neg h
theorem Reads.none : Reads (.map []) (fun _ => 0) := fun _ => ⟨rfl, rfl⟩
theorem Reads.put {D : DataW Unit} {f : Int → Int} (h : Reads D f) (hD : IsMap D) (x : Int) {v : Int} (hv : v ≠ 0) : Reads (D.put (.int .i64 x) (.lit (.int .i64 v))) (fupd f x v) := fun i => by
  by_cases e : i = x
  · subst e
    rw [fupd_same]
    exact ⟨by rw [has_put_same hD (k := .int .i64 i) (by exact trivial)]; simp [hv], atKey_put_same hD (k := .int .i64 i) (by exact trivial) _ _⟩
  · rw [fupd_other f v e]
    have hne : (Lit.int IntKind.i64 i) ≠ .int .i64 x := fun h => e (by injection h)
    rw [has_put_other hne, atKey_put_other hne]
    exact h i
theorem Reads.del {D : DataW Unit} {f : Int → Int} (h : Reads D f) (x : Int) : Reads (D.del (.int .i64 x)) (fupd f x 0) := fun i => by
  by_cases e : i = x
  · subst e
    rw [fupd_same]
    exact ⟨by rw [has_del_same]; rfl, atKey_del_same _⟩
  · rw [fupd_other f 0 e]
    have hne : (Lit.int IntKind.i64 i) ≠ .int .i64 x := fun h => e (by injection h)
    rw [has_del_other hne, atKey_del_other hne]
    exact h i
/-- Block b is a map of at most N entries that reads as f. -/
def MapI (w : World) (b N : Nat) (f : Int → Int) : Prop := ∃ D : DataW Unit, w.ownsMap Try.prog 3 (plainElem Try.prog 2) b N D ∧ Reads D f
section
variable {w w' : World} {b N : Nat} {f : Int → Int}
theorem MapI.lt (h : MapI w b N f) : b < w.heap.size := by obtain ⟨D, h, _⟩ := h; exact h.lt
theorem MapI.keep (h : MapI w b N f) (hb : w'.heap[b]? = w.heap[b]?) : MapI w' b N f := by
  obtain ⟨D, ⟨es, clock, h1, h2⟩, hr⟩ := h
  exact ⟨D, ⟨es, clock, hb.trans h1, h2⟩, hr⟩
theorem MapI.ext (h : MapI w b N f) (E : Ext w w') : MapI w' b N f := h.keep (E.block b h.lt)
theorem MapI.mono (h : MapI w b N f) {M : Nat} (hM : N ≤ M) : MapI w b M f := by obtain ⟨D, h, hr⟩ := h; exact ⟨D, h.mono hM, hr⟩
theorem MapI.congr (h : MapI w b N f) {f' : Int → Int} (hf : ∀ i, f i = f' i) : MapI w b N f' := by rw [show f' = f from funext fun i => (hf i).symm]; exact h
theorem MapI.made (w : World) : MapI (w.alloc (.map #[] 0)) w.heap.size 0 (fun _ => 0) := ⟨_, World.ownsMap_made _ _ _ _, Reads.none⟩
set_option maxRecDepth 100000 in
theorem MapI.look (h : MapI w b N f) {i : Int} (hi : (Lit.int .i64 i).wf = true) : (Instr.lookup 121 (.map (some b)) (.int .i64 i) false).run Try.prog w = .ok (.int .i64 (f i)) w := by
  obtain ⟨D, h, hr⟩ := h
  obtain ⟨c, hrun, hat, _⟩ := h.lookup_int keyI Try.underlying121 Try.underlying2 (zeroI64 w) (keyOf_int_mk Try.underlying3 hi)
  rw [(hr i).2] at hat
  injection hat with hat
  injection hat with _ hat
  rw [hrun, hat]
set_option maxRecDepth 100000 in
theorem MapI.look_ok (h : MapI w b N f) {i : Int} (hi : (Lit.int .i64 i).wf = true) : (Instr.lookup 121 (.map (some b)) (.int .i64 i) true).run Try.prog w = .ok (.tuple #[.int .i64 (f i), .bool (f i != 0)]) w := by
  obtain ⟨D, h, hr⟩ := h
  obtain ⟨v, ps, hrun, hv⟩ := h.look_ok keyI Try.underlying121 (zeroI64 w) (plainElem_int (H := Unit) Try.underlying2 (by decide)) (keyOf_int_mk Try.underlying3 hi)
  rw [(hr i).2] at hv
  rw [(hr i).1] at hrun
  obtain ⟨c, rfl, hc, _⟩ := plainElem_int_inv Try.underlying2 hv
  injection hc with hc _
  injection hc with hc
  injection hc with _ hc
  rw [hrun, hc]
theorem Mod.ofGrown (h : w.grownBy w' (some b)) : Mod (fun i => i = b) w w' := (Mod.refl _ w).grown h (fun k hk => by cases hk; exact .inl rfl)
end
section
variable {ops : Array Oper} {rest : List Oper} {o : Oper} {a : Act} {Q : Exit → Act → World → Prop} {w : World}
theorem wpList_storeI (hg : o.guard = none) (m x v : Operand) (hop : o.op = Op.mapUpdate 121 m x v) {b N : Nat} {f : Int → Int} (hm : a.eval m = .map (some b)) {i c : Int} (hx : a.eval x = .int .i64 i) (hv : a.eval v = .int .i64 c)
    (h : MapI w b N f) (hN : N < maxLen) (hi : (Lit.int .i64 i).wf = true) (hc : (Lit.int .i64 c).wf = true) (hc0 : c ≠ 0)
    (hK : ∀ w', MapI w' b (N + 1) (fupd f i c) → Mod (fun i => i = b) w w' → wpList Try.prog ops Q rest (a.put o.dst undef) w') : wpList Try.prog ops Q (o :: rest) a w := by
  obtain ⟨D, h, hr⟩ := h
  exact wpList_mapUpdate_own w hg m x v _ hop _ 2 keyI Try.underlying121 _ b N D hm h hN _ _ _ hx hv (keyOf_int_mk Try.underlying3 hi) _ [] (plainElem_int Try.underlying2 hc)
    fun w' h1 h2 => hK w' ⟨_, h1, hr.put h.isMap i hc0⟩ (Mod.ofGrown h2)
theorem wpList_dropI (hg : o.guard = none) (m x : Operand) (hop : o.op = Op.call { callee := Callee.builtin Builtin.delete, args := #[m, x], argTypes := #[121, 3] }) {b N : Nat} {f : Int → Int} (hm : a.eval m = .map (some b)) {i : Int} (hx : a.eval x = .int .i64 i)
    (h : MapI w b N f) (hi : (Lit.int .i64 i).wf = true)
    (hK : ∀ w', MapI w' b N (fupd f i 0) → Mod (fun i => i = b) w w' → wpList Try.prog ops Q rest (a.put o.dst (.tuple #[])) w') : wpList Try.prog ops Q (o :: rest) a w := by
  obtain ⟨D, h, hr⟩ := h
  exact wpList_delete_own w hg m x _ _ hop 2 keyI Try.underlying121 _ b N D hm h _ _ hx (keyOf_int_mk Try.underlying3 hi) fun w' h1 h2 => hK w' ⟨_, h1, hr.del i⟩ (Mod.ofGrown h2.grown)
theorem wpList_clearI (hg : o.guard = none) (m : Operand) (hop : o.op = Op.call { callee := Callee.builtin Builtin.clear, args := #[m], argTypes := #[121] }) {b N : Nat} {f : Int → Int} (hm : a.eval m = .map (some b)) (h : MapI w b N f)
    (hK : ∀ w', MapI w' b 0 (fun _ => 0) → Mod (fun i => i = b) w w' → wpList Try.prog ops Q rest (a.put o.dst (.tuple #[])) w') : wpList Try.prog ops Q (o :: rest) a w := by
  obtain ⟨D, ⟨es, clock, hb, -⟩, -⟩ := h
  refine wpList_plain hg fun K' hK' => ?_
  have hrun : (Builtin.clear_ #[121] o.type #[.map (some b)]).run Try.prog w = .ok (.tuple #[]) (setBlock w b (.map #[] clock)) := by
    have h1 : (getObj b).run Try.prog w = .ok (.map es clock) w := by simp [getObj, Sem.run, hb]
    have h2 : ∀ o', (setObj b o').run Try.prog w = .ok () (setBlock w b o') := fun o' => by simp [setObj, Sem.run, hb, setBlock]
    simp [Builtin.clear_, run_underlying Try.underlying121, h1, h2, Result.andThen]
  unfold Oper.wp
  simp [execOp, hop, resolve, invoke, builtin, hm, hrun, Result.andThen]
  refine hK' _ _ (hK _ ⟨.map [], ⟨#[], clock, heap_setBlock_same hb _, ⟨by simp, stamped_empty clock, by simp⟩, Nat.le_refl _, rfl⟩, Reads.none⟩ ?_)
  exact Mod.ofGrown (World.mapTurned.grown ⟨es, clock, #[], clock, hb, rfl⟩)
end
end Go.Proofs.Ytgeahfkhfpdlhaa
