/- Layer 24: a slice of the program's own that may begin within its block; what append does to it. · Layer 24: where devices are: a map keyed by line and unit, of pointers. -/
import Derived.Test.YtgagpalffdgjnaaG01
import Derived.Maps.AppendAt
import Derived.Maps.RangeWalk
import Derived.Maps.OwnOps
import Derived.Maps.OwnSet
import Derived.DeepKeys4
namespace Go.Proofs.Ytgagpalffdgjnaa
open Go.RowKit

theorem addr_add (g o j : Nat) : (⟨g, o, none⟩ : Addr).add j = ⟨g, o + j, none⟩ := by unfold Addr.add; split <;> simp_all
/-- The slice value v has n elements, of 'size' cells each, which are xs; behind them there may be room. -/
def RowAt (w : World) (e : TypeId) (size : Nat) (v : Value) (n : Nat) (xs : List Value) : Prop :=
  xs.length = n * size ∧ ((v = .slice none 0 0 ∧ n = 0) ∨ ∃ g o cap cur, v = .slice (some ⟨g, o, none⟩) n cap ∧ w.heap[g]? = some (.cells cur e (0, 0)) ∧ n ≤ cap ∧ cap ≤ maxLen ∧ o + cap * size ≤ cur.size ∧ (cur.toList.drop o).take (n * size) = xs)
section
variable {w w' : World} {e : TypeId} {size n : Nat} {v : Value} {xs : List Value}
theorem RowAt.nil (w : World) (e : TypeId) (size : Nat) : RowAt w e size (.slice none 0 0) 0 [] := ⟨by simp, .inl ⟨rfl, rfl⟩⟩
theorem RowAt.of_own {base : Nat} (h : w.ownsRow base e size v n xs) : RowAt w e size v n xs := by
  refine ⟨h.1, ?_⟩
  rcases h.2 with hn | ⟨g, cap, cur, hv, _, hg, h1, h2, h3, h4⟩
  · exact .inl hn
  · exact .inr ⟨g, 0, cap, cur, hv, hg, h1, h2, by omega, by simpa using h4⟩
theorem RowAt.lt (h : RowAt w e size v n xs) {g : Nat} (hg : v.ownBlock = some g) : g < w.heap.size := by
  rcases h.2 with ⟨rfl, _⟩ | ⟨g', o, cap, cur, rfl, hb, _⟩
  · simp [Value.ownBlock] at hg
  · simp only [Value.ownBlock, Option.some.injEq] at hg
    subst hg
    exact lt_of_block hb
theorem RowAt.keep (h : RowAt w e size v n xs) (hk : ∀ g, v.ownBlock = some g → w'.heap[g]? = w.heap[g]?) : RowAt w' e size v n xs := by
  refine ⟨h.1, ?_⟩
  rcases h.2 with hn | ⟨g, o, cap, cur, rfl, hb, rest⟩
  · exact .inl hn
  · exact .inr ⟨g, o, cap, cur, rfl, (hk g rfl).trans hb, rest⟩
theorem RowAt.ext (h : RowAt w e size v n xs) (E : Ext w w') : RowAt w' e size v n xs := h.keep fun _ hg => E.block _ (h.lt hg)
theorem RowAt.shape (h : RowAt w e size v n xs) : ∃ A c, v = .slice A n c ∧ n ≤ c ∧ c ≤ maxLen := by
  rcases h.2 with ⟨rfl, rfl⟩ | ⟨g, o, cap, cur, rfl, _, h1, h2, _⟩
  · exact ⟨none, 0, rfl, Nat.le_refl _, by unfold maxLen; omega⟩
  · exact ⟨_, cap, rfl, h1, h2⟩
/-- Its block, as long as it has elements; and its cells. -/
theorem RowAt.at_ (h : RowAt w e size v n xs) (hn : 0 < n) : ∃ g o cap, v = .slice (some ⟨g, o, none⟩) n cap ∧ g < w.heap.size ∧ n ≤ cap ∧ cap ≤ maxLen ∧ (∃ cur, w.heap[g]? = some (.cells cur e (0, 0))) ∧ ∀ j, j < n * size → w.cell? ⟨g, o + j, none⟩ = xs[j]? := by
  rcases h.2 with ⟨rfl, rfl⟩ | ⟨g, o, cap, cur, rfl, hb, h1, h2, h3, h4⟩
  · omega
  · refine ⟨g, o, cap, rfl, lt_of_block hb, h1, h2, ⟨cur, hb⟩, fun j hj => ?_⟩
    rw [cellsAt hb, ← h4, List.getElem?_take_of_lt hj, List.getElem?_drop, Array.getElem?_toList]
/-- Without its first element. -/
theorem RowAt.tail {g o cap : Nat} (h : RowAt w e size (.slice (some ⟨g, o, none⟩) (n + 1) cap) (n + 1) xs) {o' : Nat} (ho : o' = o + size ∨ (cap = 1 ∧ o' = o)) : RowAt w e size (.slice (some ⟨g, o', none⟩) n (cap - 1)) n (xs.drop size) := by
  rcases h.2 with ⟨e1, _⟩ | ⟨g', p, cap', cur, e1, hb, h1, h2, h3, h4⟩
  · cases e1
  · simp only [Value.slice.injEq, Option.some.injEq, Addr.mk.injEq, and_true, true_and] at e1
    obtain ⟨⟨rfl, rfl⟩, rfl⟩ := e1
    have hl := h.1
    refine ⟨by rw [List.length_drop, hl, Nat.add_mul]; omega, .inr ⟨g, o', cap - 1, cur, rfl, hb, by omega, by omega, ?_, ?_⟩⟩
    · obtain ⟨c, rfl⟩ : ∃ c, cap = c + 1 := ⟨cap - 1, by omega⟩
      rw [Nat.add_sub_cancel]
      rw [Nat.add_mul] at h3
      rcases ho with rfl | ⟨_, rfl⟩ <;> omega
    · rcases ho with rfl | ⟨hc, rfl⟩
      · rw [← h4, List.drop_take, List.drop_drop]
        congr 1
        rw [Nat.add_mul]; omega
      · have hn : n = 0 := by omega
        subst hn
        simp only [Nat.zero_mul, List.take_zero]
        exact (List.eq_nil_of_length_eq_zero (by rw [List.length_drop, hl]; omega)).symm
end
/-- 'append(s, x)' of one element. -/
theorem run_append_rowAt {P : Program} {w : World} (t ty e : TypeId) (i : TypeInfo) (z : Value) (size bytes : Nat) (ht : P.underlying t = some (.slice e)) (hi : P.info? e = some i) (hz : i.zero = some z)
    (hsize : i.size = size) (hby : i.bytes = bytes) (hzs : z.cells.size = size) (hsz : 0 < size)
    (v : Value) (n : Nat) (xs : List Value) (hown : RowAt w e size v n xs)
    (a : Addr) (c : Nat) (news : List Value) (hl : news.length = size) (hnews : ∀ j u, news[j]? = some u → w.cell? (a.add j) = some u) (h1 : ∀ u ∈ news, u.oneCell' = true)
    (h63 : n + 1 ≤ maxLen) (hbytes : (n + 1) * bytes ≤ 140737488355328) :
    ∃ v' w', (Builtin.append_ #[t, t] ty #[v, .slice (some a) 1 c]).run P w = .ok v' w' ∧ RowAt w' e size v' (n + 1) (xs ++ news) ∧ Mod (fun b => v.ownBlock = some b) w w' ∧ (v'.ownBlock = v.ownBlock ∨ v'.ownBlock = some w.heap.size) ∧ v'.ownBlock ≠ none := by
  rcases hown.2 with ⟨rfl, rfl⟩ | ⟨g, o, cap, cur, rfl, hg, hnc, hcm, hcs, htake⟩
  · obtain ⟨v', w', hr, h2, h3, h4, h5⟩ := run_append_own_at (P := P) w 0 t ty e i z size bytes ht hi hz hsize hby hzs hsz (.slice none 0 0) 0 [] (World.ownsRow_nil w _ _ _) a 1 c news (by rw [hl, Nat.one_mul]) hnews h1 (by omega) (by omega) (Nat.zero_le _)
    have hx : xs = [] := List.eq_nil_of_length_eq_zero (by simpa using hown.1)
    subst hx
    refine ⟨v', w', hr, by simpa using RowAt.of_own h2, (Mod.refl _ w).grown h3 (fun k hk => by simp [Value.ownBlock] at hk), h5, fun hn => ?_⟩
    rcases h2.2 with ⟨rfl, h0⟩ | ⟨g, cap, cur, rfl, _⟩
    · omega
    · simp [Value.ownBlock] at hn
  · subst hsize
    subst hby
    have hlen : (xs ++ news).length = (n + 1) * i.size := by rw [List.length_append, hown.1, hl, Nat.add_mul, Nat.one_mul]
    have hl1 : news.length = 1 * i.size := by rw [hl, Nat.one_mul]
    have hcells : ∀ j u, xs[j]? = some u → w.cell? ((⟨g, o, none⟩ : Addr).add j) = some u := fun j u hj => by
      have hadd := addr_add g o j
      have hjl : j < n * i.size := by
        rw [← hown.1]
        rcases Nat.lt_or_ge j xs.length with h | h
        · exact h
        · rw [List.getElem?_eq_none h] at hj; cases hj
      rw [hadd, cellsAt hg, ← hj, ← htake, List.getElem?_take_of_lt hjl, List.getElem?_drop, Array.getElem?_toList]
    by_cases hroom : n + 1 ≤ cap
    · have hfit : o + n * i.size + news.length ≤ cur.size := by
        have : (n + 1) * i.size ≤ cap * i.size := Nat.mul_le_mul_right _ hroom
        rw [Nat.add_mul, Nat.one_mul] at this
        omega
      have hf := run_firstCells_some (P := P) w i.size 1 a 1 c news hl1 hnews
      have hst := run_storeCells_at P g (o + n * i.size) e news 0 cur w hg (by simpa using hfit) h1
      simp only [Nat.add_zero] at hst
      have hadd := addr_add g o (n * i.size)
      refine ⟨.slice (some ⟨g, o, none⟩) (n + 1) cap, w.setRow g (cur.toList.take (o + n * i.size) ++ news ++ cur.toList.drop (o + n * i.size + news.length)).toArray, ?_, ⟨hlen, .inr ⟨g, o, cap, _, rfl, setRow_heap w g cur _ e _ hg, hroom, hcm, ?_, ?_⟩⟩, ⟨rfl, rfl, rfl, by simp [World.setRow], fun k _ hk => setRow_other w g k _ (fun e => hk (by subst e; rfl))⟩, .inl rfl, by simp [Value.ownBlock]⟩
      · simp [Builtin.append_, run_underlying ht, sizeOf, typeInfo, hi, Builtin.lenOf, hroom, hf, hadd, hst]
      · simp only [List.size_toArray, List.length_append, List.length_take, List.length_drop, Array.length_toList]
        omega
      · have hto : o + n * i.size ≤ cur.toList.length := by rw [Array.length_toList]; omega
        have hd : List.drop o (cur.toList.take (o + n * i.size)) = xs := by rw [List.drop_take, ← htake]; congr 1; omega
        rw [List.append_assoc, List.drop_append_of_le_length (by rw [List.length_take]; omega), hd, ← List.append_assoc, ← hlen]
        exact List.take_left
    · have hr := run_append_grow (P := P) w t ty e i z ht hi hz ⟨g, o, none⟩ n cap xs hown.1 hcells a 1 c news hl1 hnews (by omega) (by unfold maxLen at h63; omega) (growslice_fits (by omega) hbytes)
      have hge := grownCap_ge w (n + 1) cap e
      have hcm' : grownCap w (n + 1) cap e ≤ maxLen := grownCap_le_maxLen w (n + 1) cap e h63
      refine ⟨_, _, hr, ⟨hlen, .inr ⟨w.heap.size, 0, _, _, rfl, heap_alloc_new w.drew _, hge, hcm', ?_, ?_⟩⟩, ⟨rfl, rfl, rfl, by simp, fun k hk _ => Below.heap_alloc w.drew _ k hk⟩, .inr rfl, by simp [Value.ownBlock]⟩
      · simp only [Array.size_append, List.size_toArray, size_zeroCells, hzs, hown.1, hl]
        rw [Nat.zero_add]
        have e1 : n * i.size + i.size = (n + 1) * i.size := by rw [Nat.add_mul, Nat.one_mul]
        rw [e1, ← Nat.add_mul]
        exact Nat.mul_le_mul_right _ (by omega)
      · rw [List.drop_zero]
        simp only [Array.toList_append, List.append_assoc]
        rw [← List.append_assoc, ← hlen]
        exact List.take_left
section
variable {P : Program} {w : World} {ops : Array Oper} {rest : List Oper} {o : Oper} {a : Act} {Q : Exit → Act → World → Prop}
theorem wpList_append_rowAt (hgd : o.guard = none) (s x : Operand) (t : TypeId)
    (ho : o.op = .call { callee := .builtin .append, args := #[s, x], argTypes := #[t, t] })
    (e : TypeId) (i : TypeInfo) (z : Value) (size bytes : Nat) (ht : P.underlying t = some (.slice e)) (hi : P.info? e = some i) (hz : i.zero = some z)
    (hsize : i.size = size) (hby : i.bytes = bytes) (hzs : z.cells.size = size) (hsz : 0 < size)
    (v : Value) (n : Nat) (xs : List Value) (hs : a.eval s = v) (hown : RowAt w e size v n xs)
    (ad : Addr) (c : Nat) (news : List Value) (hx : a.eval x = .slice (some ad) 1 c) (hl : news.length = size) (hnews : ∀ j u, news[j]? = some u → w.cell? (ad.add j) = some u) (h1 : ∀ u ∈ news, u.oneCell' = true)
    (h63 : n + 1 ≤ maxLen) (hbytes : (n + 1) * bytes ≤ 140737488355328)
    (h : ∀ v' w', RowAt w' e size v' (n + 1) (xs ++ news) → Mod (fun b => v.ownBlock = some b) w w' → (v'.ownBlock = v.ownBlock ∨ v'.ownBlock = some w.heap.size) → wpList P ops Q rest (a.put o.dst v') w') :
    wpList P ops Q (o :: rest) a w := by
  refine wpList_plain hgd fun K hK => ?_
  obtain ⟨v', w', hr, h2, h3, h4, _⟩ := run_append_rowAt (P := P) t o.type e i z size bytes ht hi hz hsize hby hzs hsz v n xs hown ad c news hl hnews h1 h63 hbytes
  unfold Oper.wp execOp
  simp only [ho, resolve, invoke, builtin, Sem.run_bind, Sem.run_pure, Result.andThen_ok, List.map_toArray, List.map_cons, List.map_nil, hs, hx, hr]
  exact hK _ _ (h v' w' h2 h3 h4)
end
/-- Two cells in one new block, as the elements that are appended. -/
theorem cell_two_at {w : World} {g : Nat} {t : TypeId} {x y : Value} (h : w.heap[g]? = some (.cells #[x, y] t (0, 0))) : ∀ j u, [x, y][j]? = some u → w.cell? ((⟨g, 0, none⟩ : Addr).add j) = some u := fun j u hj => by
  have hadd : (⟨g, 0, none⟩ : Addr).add j = ⟨g, j, none⟩ := by unfold Addr.add; split <;> simp_all
  rw [hadd, cellsAt h, ← hj]
  match j with
  | 0 => rfl
  | 1 => rfl
  | j + 2 => rfl
theorem cell_one_at {w : World} {g : Nat} {t : TypeId} {x : Value} (h : w.heap[g]? = some (.cells #[x] t (0, 0))) : ∀ j u, [x][j]? = some u → w.cell? ((⟨g, 0, none⟩ : Addr).add j) = some u := fun j u hj => by
  have hadd : (⟨g, 0, none⟩ : Addr).add j = ⟨g, j, none⟩ := by unfold Addr.add; split <;> simp_all
  rw [hadd, cellsAt h, ← hj]
  match j with
  | 0 => rfl
  | j + 1 => rfl
end Go.Proofs.Ytgagpalffdgjnaa
namespace Go.Proofs.Ytgagpalffdgjnaa
open Go.RowKit Go.Maps Go.ChangeMaps Go.MapKept

theorem laidOut24 : laidOutB Try.prog = true := by kernel_rfl
theorem rowWhere : 134 < Try.prog.types.size := of_decide_eq_true (by kernel_rfl)
theorem keyWhere : Keyed Try.prog 134 := Keyed.of_law (deep_law_laid laidOut24 (m := 2) (by omega) rowWhere (by kernel_rfl) (by kernel_rfl))
theorem zeroBankP (w : World) : (zeroValue 131).run Try.prog w = .ok (.pointer none) w := by kernel_rfl
def whereV (l u : Int) : Value := .agg #[.int .i64 l, .int .i64 u]
theorem keyTypeWhere : Try.prog.keyType 134 = true := by kernel_rfl
theorem cellsWhere : Try.prog.cellsOf 134 = 2 := by kernel_rfl
theorem cellsInt24 : Try.prog.cellsOf 3 = 1 := by kernel_rfl
theorem keyOf_where {l u : Int} (hl : (Lit.int .i64 l).wf = true) (hu : (Lit.int .i64 u).wf = true) : ∃ kl, keyOf Try.prog 134 (whereV l u) = some kl := by
  obtain ⟨n, hn⟩ : ∃ n, Try.prog.types.size = n + 1 := ⟨Try.prog.types.size - 1, by have : 0 < Try.prog.types.size := of_decide_eq_true (by kernel_rfl); omega⟩
  have hf : (whereV l u).formed Try.prog 134 = true := by simp [whereV, Value.formed, Try.underlying134, cellsWhere]
  unfold keyOf
  simp only [Try.underlying134, keyTypeWhere, hf, Bool.and_self, if_true]
  rw [hn]
  simp [Program.keyLits, Try.underlying134, cellsWhere, cellsInt24, Try.underlying3, whereV, Value.cells, hl, hu]
def ptrOf : Nat → Value
  | 0 => .pointer none
  | g + 1 => .pointer (some ⟨g, 0, none⟩)
/-- How a pointer reads: 0, or its block's number and one. -/
def ptrElem : Value → Option (DataW Unit × List MemPlace)
  | .pointer none => some (.lit (.int .i64 0), [])
  | .pointer (some ⟨g, 0, none⟩) => some (.lit (.int .i64 ((g : Int) + 1)), [])
  | _ => none
theorem ptrElem_of (k : Nat) : ptrElem (ptrOf k) = some (.lit (.int .i64 (k : Int)), []) := by
  cases k <;> simp [ptrOf, ptrElem]
theorem ptrElem_inv {v : Value} {k : Nat} {ps : List MemPlace} (h : ptrElem v = some (.lit (.int .i64 (k : Int)), ps)) : v = ptrOf k := by
  unfold ptrElem at h
  split at h
  · simp only [Option.some.injEq, Prod.mk.injEq, DataW.lit.injEq, Lit.int.injEq, true_and] at h
    have : k = 0 := by omega
    subst this
    rfl
  · rename_i g
    simp only [Option.some.injEq, Prod.mk.injEq, DataW.lit.injEq, Lit.int.injEq, true_and] at h
    have : k = g + 1 := by omega
    subst this
    rfl
  · cases h
/-- A map's datum reads as a function that is 0 where nothing stands. -/
def ReadsW (D : DataW Unit) (f : Int → Int → Nat) : Prop := ∀ (l u : Int) (kl : Lit), keyOf Try.prog 134 (whereV l u) = some kl → Maps.has D kl = (f l u != 0) ∧ D.atKey kl (.lit (.int .i64 0)) = .lit (.int .i64 (f l u : Int))
def wupd (f : Int → Int → Nat) (x y : Int) (v : Nat) : Int → Int → Nat := fun l u => if l = x ∧ u = y then v else f l u
theorem ReadsW.none : ReadsW (.map []) (fun _ _ => 0) := fun _ _ _ _ => ⟨rfl, rfl⟩
theorem ReadsW.put {D : DataW Unit} {f : Int → Int → Nat} (h : ReadsW D f) (hD : IsMap D) {x y : Int} {kx : Lit} (hk : keyOf Try.prog 134 (whereV x y) = some kx) {v : Nat} (hv : v ≠ 0) : ReadsW (D.put kx (.lit (.int .i64 (v : Int)))) (wupd f x y v) := fun l u kl hl => by
  by_cases e : l = x ∧ u = y
  · obtain ⟨rfl, rfl⟩ := e
    have hkk : kl = kx := Option.some.inj (hl.symm.trans hk)
    subst hkk
    have e1 : wupd f l u v l u = v := if_pos ⟨rfl, rfl⟩
    rw [e1]
    exact ⟨by rw [has_put_same hD (keyWhere.key hl)]; simp [hv], atKey_put_same hD (keyWhere.key hl) _ _⟩
  · have e1 : wupd f x y v l u = f l u := if_neg e
    rw [e1]
    have hne : kl ≠ kx := fun hh => by
      subst hh
      have := keyWhere.inj hl hk
      simp only [whereV, Value.agg.injEq] at this
      have h2 := congrArg Array.toList this
      simp at h2
      exact e h2
    rw [has_put_other hne, atKey_put_other hne]
    exact h l u kl hl
/-- Block b is a map of at most N entries that reads as f. -/
def MapW (w : World) (b N : Nat) (f : Int → Int → Nat) : Prop := ∃ D : DataW Unit, w.ownsMap Try.prog 134 ptrElem b N D ∧ ReadsW D f
section
variable {w w' : World} {b N : Nat} {f : Int → Int → Nat}
theorem MapW.lt (h : MapW w b N f) : b < w.heap.size := by obtain ⟨D, h, _⟩ := h; exact h.lt
theorem MapW.keep (h : MapW w b N f) (hb : w'.heap[b]? = w.heap[b]?) : MapW w' b N f := by
  obtain ⟨D, ⟨es, clock, h1, h2⟩, hr⟩ := h
  exact ⟨D, ⟨es, clock, hb.trans h1, h2⟩, hr⟩
theorem MapW.ext (h : MapW w b N f) (E : Ext w w') : MapW w' b N f := h.keep (E.block b h.lt)
theorem MapW.mono (h : MapW w b N f) {M : Nat} (hM : N ≤ M) : MapW w b M f := by obtain ⟨D, h, hr⟩ := h; exact ⟨D, h.mono hM, hr⟩
theorem MapW.made (w : World) : MapW (w.alloc (.map #[] 0)) w.heap.size 0 (fun _ _ => 0) := ⟨_, World.ownsMap_made _ _ _ _, ReadsW.none⟩
theorem MapW.block (h : MapW w b N f) : ∃ es clock, w.heap[b]? = some (.map es clock) := by obtain ⟨D, ⟨es, clock, h1, _⟩, _⟩ := h; exact ⟨es, clock, h1⟩
set_option maxRecDepth 100000 in
theorem MapW.look_ok (h : MapW w b N f) {l u : Int} (hl : (Lit.int .i64 l).wf = true) (hu : (Lit.int .i64 u).wf = true) : (Instr.lookup 119 (.map (some b)) (.agg #[.int .i64 l, .int .i64 u]) true).run Try.prog w = .ok (.tuple #[ptrOf (f l u), .bool (f l u != 0)]) w := by
  obtain ⟨D, h, hr⟩ := h
  obtain ⟨kl, hk⟩ := keyOf_where hl hu
  obtain ⟨v, ps, hrun, hv⟩ := h.look_ok keyWhere Try.underlying119 (zeroBankP w) (ptrElem_of 0) hk
  have h2 := hr l u kl hk
  rw [show (.lit (.int .i64 ((0 : Nat) : Int)) : DataW Unit) = .lit (.int .i64 0) from rfl, h2.2] at hv
  rw [ptrElem_inv hv, h2.1] at hrun
  exact hrun
theorem MapW.store (h : MapW w b N f) (hN : N < maxLen) {l u : Int} (hl : (Lit.int .i64 l).wf = true) (hu : (Lit.int .i64 u).wf = true) (g : Nat) :
    ∃ w', (Instr.mapUpdate 119 (.map (some b)) (.agg #[.int .i64 l, .int .i64 u]) (.pointer (some ⟨g, 0, none⟩))).run Try.prog w = .ok () w' ∧ MapW w' b (N + 1) (wupd f l u (g + 1)) ∧ Mod (fun i => i = b) w w' := by
  obtain ⟨D, h, hr⟩ := h
  obtain ⟨kl, hk⟩ := keyOf_where hl hu
  obtain ⟨w', hrun, h1, h2⟩ := h.store keyWhere Try.underlying119 hN hk (ptrElem_of (g + 1))
  exact ⟨w', hrun, ⟨_, h1, hr.put h.isMap hk (by omega)⟩, (Mod.refl _ w).grown h2.grown (fun k hk => by cases hk; exact .inl rfl)⟩
end
end Go.Proofs.Ytgagpalffdgjnaa
