/- Layer 17, the walks: rows of structs that are cloned; what a slice of numbers holds. -/
import Derived.Test.YtgajbgdkgelkgaaGreatG06
namespace Go.Proofs.YtgajbgdkgelkgaaGreat
open Go.RowKit

theorem flat_at {α : Type} {cells : α → List Value} {sz : Nat} (hz : ∀ x, (cells x).length = sz) : ∀ (l : List α) (j : Nat) (x : α), l[j]? = some x → ∀ i, i < sz → (l.flatMap cells)[j * sz + i]? = (cells x)[i]?
  | [], j, x, hx, i, hi => by simp at hx
  | y :: l, 0, x, hx, i, hi => by
    simp at hx
    subst hx
    rw [List.flatMap_cons, Nat.zero_mul, Nat.zero_add, List.getElem?_append_left (by rw [hz]; exact hi)]
  | y :: l, j + 1, x, hx, i, hi => by
    rw [List.flatMap_cons, List.getElem?_append_right (by rw [hz, Nat.add_mul]; omega), hz, ← flat_at hz l j x (by simpa using hx) i hi]
    congr 1
    rw [Nat.add_mul]; omega
theorem flat_len {α : Type} {cells : α → List Value} {sz : Nat} (hz : ∀ x, (cells x).length = sz) (l : List α) : (l.flatMap cells).length = l.length * sz := by
  induction l with
  | nil => simp
  | cons y l ih => rw [List.flatMap_cons, List.length_append, ih, hz, List.length_cons, Nat.add_mul]; omega
/-- A slice of structs, appended whole to an empty row of the call's own. -/
theorem run_appRows {P : Program} {α : Type} {cells : α → List Value} {sz : Nat} (hz : ∀ x, (cells x).length = sz) (h1c : ∀ x, ∀ u ∈ cells x, u.oneCell' = true) (hsz : 0 < sz) {t ty e : TypeId} {by_ : Nat} {z : Value} (ht : P.underlying t = some (.slice e)) (hi : (P.info? e).map (fun i => (i.zero, i.size, i.bytes)) = some (some z, sz, by_)) (hzs : z.cells.size = sz)
    {w : World} {base : Nat} {v : Value} (hown : w.ownsRow base e sz v 0 []) {B : Nat} {ad : Addr} {m c : Nat} {xs : List α} (hr : RdC cells sz w B (some ad) m xs) (hb : m * by_ ≤ 140737488355328) (hm : m ≤ maxLen) (hbase : base ≤ w.heap.size) :
    ∃ v' w', (Builtin.append_ #[t, t] ty #[v, .slice (some ad) m c]).run P w = .ok v' w' ∧ w'.ownsRow base e sz v' m (xs.flatMap cells) ∧ w.grownBy w' v.ownBlock ∧ (v'.ownBlock = v.ownBlock ∨ v'.ownBlock = some w.heap.size) := by
  obtain ⟨i, i1, i2, i3, i4⟩ := info_parts hi
  have hfl := flat_len hz xs
  rw [hr.len] at hfl
  obtain ⟨v', w', h1, h2, h3, _, h5⟩ := run_append_own_at (P := P) w base t ty e i z sz by_ ht i1 i2 i3 i4 hzs hsz v 0 [] hown ad m c (xs.flatMap cells) hfl (fun j u hj => by
    have hjl : j < m * sz := by
      rcases Nat.lt_or_ge j (m * sz) with h | h
      · exact h
      · rw [List.getElem?_eq_none (by rw [hfl]; exact h)] at hj; cases hj
    have hq : j / sz < m := by rw [Nat.div_lt_iff_lt_mul hsz]; exact hjl
    obtain ⟨x, hx⟩ := hr.get hq
    obtain ⟨b, o, e1, _, hc⟩ := hr.at_ hx
    injection e1 with e1
    subst e1
    have hd : j / sz * sz + j % sz = j := by rw [Nat.mul_comm]; exact Nat.div_add_mod j sz
    have h2 := flat_at hz xs _ x hx (j % sz) (Nat.mod_lt _ hsz)
    rw [hd, hj] at h2
    have h3 := hc (j % sz) (Nat.mod_lt _ hsz)
    have hadd : (⟨b, o, none⟩ : Addr).add j = ⟨b, o + j, none⟩ := by unfold Addr.add; split <;> simp_all
    rw [hadd, h2, ← h3]
    congr 2
    omega) (fun u hu => by
    obtain ⟨x, _, hx⟩ := List.mem_flatMap.1 hu
    exact h1c x u hx) (by omega) (by rw [Nat.zero_add]; exact hb) hbase
  exact ⟨v', w', h1, by simpa using h2, h3, h5⟩
theorem wpList_appRows {P : Program} {α : Type} {cells : α → List Value} {sz : Nat} (hz : ∀ x, (cells x).length = sz) (h1c : ∀ x, ∀ u ∈ cells x, u.oneCell' = true) (hsz : 0 < sz) {ops : Array Oper} {rest : List Oper} {o : Oper} {a : Act} {w : World} {Q : Exit → Act → World → Prop} (hgd : Region.wanted o (yielded ops a.tmps) = true) (s x : Operand) (t : TypeId)
    (ho : o.op = .call { callee := .builtin .append, args := #[s, x], argTypes := #[t, t] }) {e : TypeId} {by_ : Nat} {z : Value} (ht : P.underlying t = some (.slice e)) (hi : (P.info? e).map (fun i => (i.zero, i.size, i.bytes)) = some (some z, sz, by_)) (hzs : z.cells.size = sz)
    {base : Nat} {v : Value} (hown : w.ownsRow base e sz v 0 []) (hs : a.eval s = v) {B : Nat} {ad : Addr} {m c : Nat} {xs : List α} (hr : RdC cells sz w B (some ad) m xs) (hx : a.eval x = .slice (some ad) m c)
    (hb : m * by_ ≤ 140737488355328) (hm : m ≤ maxLen) (hbase : base ≤ w.heap.size)
    (h : ∀ v' w', w'.ownsRow base e sz v' m (xs.flatMap cells) → w.grownBy w' v.ownBlock → (v'.ownBlock = v.ownBlock ∨ v'.ownBlock = some w.heap.size) → wpList P ops Q rest (a.put o.dst v') w') : wpList P ops Q (o :: rest) a w := by
  obtain ⟨v', w', hrun, h2, h3, h4⟩ := run_appRows (P := P) hz h1c hsz (ty := o.type) ht hi hzs hown (c := c) hr hb hm hbase
  refine BigFrame.wpList_want hgd fun K hK => ?_
  unfold Oper.wp execOp
  simp only [ho, resolve, invoke, builtin, Sem.run_bind, Sem.run_pure, Result.andThen_ok, List.map_toArray, List.map_cons, List.map_nil, hs, hx, hrun]
  exact hK _ _ (h v' w' h2 h3 h4)
theorem Dv.len3 (x : Dv) : x.cells.length = 3 := rfl
theorem Pt.len6 (x : Pt) : x.cells.length = 6 := rfl
theorem Dv.one (x : Dv) : ∀ u ∈ x.cells, u.oneCell' = true := by intro u hu; simp [Dv.cells] at hu; rcases hu with rfl | rfl | rfl <;> rfl
theorem Pt.one (x : Pt) : ∀ u ∈ x.cells, u.oneCell' = true := by intro u hu; simp [Pt.cells] at hu; rcases hu with rfl | rfl | rfl | rfl | rfl | rfl <;> rfl
theorem Ca.one (x : Ca) : ∀ u ∈ x.cells, u.oneCell' = true := by intro u hu; simp [Ca.cells] at hu; rcases hu with rfl | rfl | rfl | rfl | rfl <;> rfl
theorem Ef.one (x : Ef) : ∀ u ∈ x.cells, u.oneCell' = true := by intro u hu; simp [Ef.cells] at hu; rcases hu with rfl | rfl | rfl | rfl | rfl <;> rfl
theorem info_dev : (Tryz.prog.info? 89).map (fun i => (i.zero, i.size, i.bytes)) = some (some (.agg #[.string ByteArray.empty, .int .i64 0, .int .i64 0]), 3, 32) := by kernel_rfl
theorem info_pt : (Tryz.prog.info? 35).map (fun i => (i.zero, i.size, i.bytes)) = some (some (.agg #[.string ByteArray.empty, .int .i64 0, .int .i64 0, .int .i64 0, .int .i64 0, .int .i64 0]), 6, 56) := by kernel_rfl
theorem info_ca : (Tryz.prog.info? 87).map (fun i => (i.zero, i.size, i.bytes)) = some (some (.agg #[.string ByteArray.empty, .int .i64 0, .int .i64 0, .int .i64 0, .slice none 0 0]), 5, 64) := by kernel_rfl
theorem info_ef : (Tryz.prog.info? 59).map (fun i => (i.zero, i.size, i.bytes)) = some (some (.agg #[.string ByteArray.empty, .int .i64 0, .int .i64 0, .int .i64 0, .slice none 0 0]), 5, 64) := by kernel_rfl
/-- A row of the call's own, in memory that was not there. -/
def RowPost {α : Type} (cells : α → List Value) (sz : Nat) (e : TypeId) (n : Nat) (xs : List α) (w : World) (en : Ending) (w' : World) : Prop :=
  ∃ v, en = .returned v ∧ w'.ownsRow w.heap.size e sz v n (xs.flatMap cells) ∧ Ext w w'
theorem ints_flat (l : List Int) : l.map (Value.int .i64) = l.flatMap intCells := by
  induction l with
  | nil => rfl
  | cons a l ih => rw [List.map_cons, List.flatMap_cons, ih]; rfl
theorem intCells_one (x : Int) : ∀ u ∈ intCells x, u.oneCell' = true := by intro u hu; simp [intCells] at hu; subst hu; rfl
set_option maxRecDepth 100000 in
set_option maxHeartbeats 800000 in
theorem cloneDev_any (A : Option Addr) (n c : Nat) (xs : List Dv) (w : World) (hx : RdC Dv.cells 3 w w.heap.size A n xs) (hn : n ≤ 1000) :
    Calls Tryz.prog 57 #[.slice A n c] w (RowPost Dv.cells 3 89 n xs w) := by
  have hln := hx.len
  have hx' := Lib.hid hx
  have hq := fun (w : World) (a : Option Addr) (n c n' c' : Nat) => Lib.run_eql_slice_nil (P := Tryz.prog) w 22 89 a n c n' c' Tryz.underlying22
  rcases A with _ | ad
  · have h0 : n = 0 := by
      rcases Nat.eq_zero_or_pos n with h | h
      · exact h
      · obtain ⟨b, o, e, _⟩ := hx.2 h; cases e
    subst h0
    obtain rfl : xs = [] := List.eq_nil_of_length_eq_zero hln
    clear hx
    go_enter Tryz.func57, Tryz.ntmps57
    go_wp2_with fail
    go_ret
    exact ⟨_, rfl, World.ownsRow_nil _ _ _ _, Ext.refl _⟩
  · have ow : Hid ((w.alloc (.cells #[] 89)).ownsRow w.heap.size 89 3 (.slice (some ⟨w.heap.size, 0, none⟩) 0 0) 0 []) := Lib.hid (World.ownsRow_made w #[] 0 (Nat.le_refl _) (by unfold maxLen; omega) rfl)
    clear hx
    go_enter Tryz.func57, Tryz.ntmps57
    go_wp2_with (at_builtin; refine wpList_appRows (cells := Dv.cells) Dv.len3 Dv.one (by decide) rfl (.tmp 5) (.tmp 6) _ rfl Tryz.underlying22 info_dev rfl ow.out rfl (hx'.out.ext ((Ext.refl w).goA _)) rfl (by omega) (by unfold maxLen; omega) (by simp) ?_; intro v2 w2 own2 hg2 _)
    go_ret
    exact ⟨_, rfl, own2, ((Ext.refl w).goA _).goG hg2 (fun i hi => (ow.out.lt i hi).1)⟩
set_option maxRecDepth 100000 in
set_option maxHeartbeats 800000 in
theorem clonePt_any (A : Option Addr) (n c : Nat) (xs : List Pt) (w : World) (hx : RdC Pt.cells 6 w w.heap.size A n xs) (hn : n ≤ 1000) :
    Calls Tryz.prog 58 #[.slice A n c] w (RowPost Pt.cells 6 35 n xs w) := by
  have hln := hx.len
  have hx' := Lib.hid hx
  have hq := fun (w : World) (a : Option Addr) (n c n' c' : Nat) => Lib.run_eql_slice_nil (P := Tryz.prog) w 23 35 a n c n' c' Tryz.underlying23
  rcases A with _ | ad
  · have h0 : n = 0 := by
      rcases Nat.eq_zero_or_pos n with h | h
      · exact h
      · obtain ⟨b, o, e, _⟩ := hx.2 h; cases e
    subst h0
    obtain rfl : xs = [] := List.eq_nil_of_length_eq_zero hln
    clear hx
    go_enter Tryz.func58, Tryz.ntmps58
    go_wp2_with fail
    go_ret
    exact ⟨_, rfl, World.ownsRow_nil _ _ _ _, Ext.refl _⟩
  · have ow : Hid ((w.alloc (.cells #[] 35)).ownsRow w.heap.size 35 6 (.slice (some ⟨w.heap.size, 0, none⟩) 0 0) 0 []) := Lib.hid (World.ownsRow_made w #[] 0 (Nat.le_refl _) (by unfold maxLen; omega) rfl)
    clear hx
    go_enter Tryz.func58, Tryz.ntmps58
    go_wp2_with (at_builtin; refine wpList_appRows (cells := Pt.cells) Pt.len6 Pt.one (by decide) rfl (.tmp 5) (.tmp 6) _ rfl Tryz.underlying23 info_pt rfl ow.out rfl (hx'.out.ext ((Ext.refl w).goA _)) rfl (by omega) (by unfold maxLen; omega) (by simp) ?_; intro v2 w2 own2 hg2 _)
    go_ret
    exact ⟨_, rfl, own2, ((Ext.refl w).goA _).goG hg2 (fun i hi => (ow.out.lt i hi).1)⟩
set_option maxRecDepth 100000 in
set_option maxHeartbeats 800000 in
theorem cloneCa_any (A : Option Addr) (n c : Nat) (xs : List Ca) (w : World) (hx : RdC Ca.cells 5 w w.heap.size A n xs) (hn : n ≤ 1000) :
    Calls Tryz.prog 59 #[.slice A n c] w (RowPost Ca.cells 5 87 n xs w) := by
  have hln := hx.len
  have hx' := Lib.hid hx
  have hq := fun (w : World) (a : Option Addr) (n c n' c' : Nat) => Lib.run_eql_slice_nil (P := Tryz.prog) w 24 87 a n c n' c' Tryz.underlying24
  rcases A with _ | ad
  · have h0 : n = 0 := by
      rcases Nat.eq_zero_or_pos n with h | h
      · exact h
      · obtain ⟨b, o, e, _⟩ := hx.2 h; cases e
    subst h0
    obtain rfl : xs = [] := List.eq_nil_of_length_eq_zero hln
    clear hx
    go_enter Tryz.func59, Tryz.ntmps59
    go_wp2_with fail
    go_ret
    exact ⟨_, rfl, World.ownsRow_nil _ _ _ _, Ext.refl _⟩
  · have ow : Hid ((w.alloc (.cells #[] 87)).ownsRow w.heap.size 87 5 (.slice (some ⟨w.heap.size, 0, none⟩) 0 0) 0 []) := Lib.hid (World.ownsRow_made w #[] 0 (Nat.le_refl _) (by unfold maxLen; omega) rfl)
    clear hx
    go_enter Tryz.func59, Tryz.ntmps59
    go_wp2_with (at_builtin; refine wpList_appRows (cells := Ca.cells) Ca.len5 Ca.one (by decide) rfl (.tmp 5) (.tmp 6) _ rfl Tryz.underlying24 info_ca rfl ow.out rfl (hx'.out.ext ((Ext.refl w).goA _)) rfl (by omega) (by unfold maxLen; omega) (by simp) ?_; intro v2 w2 own2 hg2 _)
    go_ret
    exact ⟨_, rfl, own2, ((Ext.refl w).goA _).goG hg2 (fun i hi => (ow.out.lt i hi).1)⟩
set_option maxRecDepth 100000 in
set_option maxHeartbeats 800000 in
theorem cloneEf_any (A : Option Addr) (n c : Nat) (xs : List Ef) (w : World) (hx : RdC Ef.cells 5 w w.heap.size A n xs) (hn : n ≤ 1000) :
    Calls Tryz.prog 61 #[.slice A n c] w (RowPost Ef.cells 5 59 n xs w) := by
  have hln := hx.len
  have hx' := Lib.hid hx
  have hq := fun (w : World) (a : Option Addr) (n c n' c' : Nat) => Lib.run_eql_slice_nil (P := Tryz.prog) w 25 59 a n c n' c' Tryz.underlying25
  rcases A with _ | ad
  · have h0 : n = 0 := by
      rcases Nat.eq_zero_or_pos n with h | h
      · exact h
      · obtain ⟨b, o, e, _⟩ := hx.2 h; cases e
    subst h0
    obtain rfl : xs = [] := List.eq_nil_of_length_eq_zero hln
    clear hx
    go_enter Tryz.func61, Tryz.ntmps61
    go_wp2_with fail
    go_ret
    exact ⟨_, rfl, World.ownsRow_nil _ _ _ _, Ext.refl _⟩
  · have ow : Hid ((w.alloc (.cells #[] 59)).ownsRow w.heap.size 59 5 (.slice (some ⟨w.heap.size, 0, none⟩) 0 0) 0 []) := Lib.hid (World.ownsRow_made w #[] 0 (Nat.le_refl _) (by unfold maxLen; omega) rfl)
    clear hx
    go_enter Tryz.func61, Tryz.ntmps61
    go_wp2_with (at_builtin; refine wpList_appRows (cells := Ef.cells) Ef.len5 Ef.one (by decide) rfl (.tmp 5) (.tmp 6) _ rfl Tryz.underlying25 info_ef rfl ow.out rfl (hx'.out.ext ((Ext.refl w).goA _)) rfl (by omega) (by unfold maxLen; omega) (by simp) ?_; intro v2 w2 own2 hg2 _)
    go_ret
    exact ⟨_, rfl, own2, ((Ext.refl w).goA _).goG hg2 (fun i hi => (ow.out.lt i hi).1)⟩
set_option maxRecDepth 100000 in
set_option maxHeartbeats 800000 in
theorem cloneInt_any (A : Option Addr) (n c : Nat) (xs : List Int) (w : World) (hx : RdC intCells 1 w w.heap.size A n xs) (hn : n ≤ 1000) :
    Calls Tryz.prog 60 #[.slice A n c] w (RowPost intCells 1 3 n xs w) := by
  have hln := hx.len
  have hx' := Lib.hid hx
  have hq := fun (w : World) (a : Option Addr) (n c n' c' : Nat) => Lib.run_eql_slice_nil (P := Tryz.prog) w 57 3 a n c n' c' Tryz.underlying57
  rcases A with _ | ad
  · have h0 : n = 0 := by
      rcases Nat.eq_zero_or_pos n with h | h
      · exact h
      · obtain ⟨b, o, e, _⟩ := hx.2 h; cases e
    subst h0
    obtain rfl : xs = [] := List.eq_nil_of_length_eq_zero hln
    clear hx
    go_enter Tryz.func60, Tryz.ntmps60
    go_wp2_with fail
    go_ret
    exact ⟨_, rfl, World.ownsRow_nil _ _ _ _, Ext.refl _⟩
  · have ow : Hid ((w.alloc (.cells #[] 3)).ownsRow w.heap.size 3 1 (.slice (some ⟨w.heap.size, 0, none⟩) 0 0) 0 []) := Lib.hid (World.ownsRow_made w #[] 0 (Nat.le_refl _) (by unfold maxLen; omega) rfl)
    clear hx
    go_enter Tryz.func60, Tryz.ntmps60
    go_wp2_with (at_builtin; refine wpList_appRows (cells := intCells) (fun _ => rfl) intCells_one (by decide) rfl (.tmp 5) (.tmp 6) _ rfl Tryz.underlying57 info_int rfl ow.out rfl (hx'.out.ext ((Ext.refl w).goA _)) rfl (by omega) (by unfold maxLen; omega) (by simp) ?_; intro v2 w2 own2 hg2 _)
    go_ret
    exact ⟨_, rfl, own2, ((Ext.refl w).goA _).goG hg2 (fun i hi => (ow.out.lt i hi).1)⟩
def idxB (v : Int) : List Int → Int → Int
  | [], _ => -1
  | x :: l, i => if x = v then i else idxB v l (i + 1)
theorem idxB_has (v : Int) : ∀ (l : List Int) (i : Int), 0 ≤ i → decide (0 ≤ idxB v l i) = l.contains v
  | [], i, _ => by simp [idxB]
  | x :: l, i, h => by
    unfold idxB
    by_cases e : x = v
    · rw [if_pos e, List.contains_cons]; simp [h, e]
    · rw [if_neg e, idxB_has v l (i + 1) (by omega), List.contains_cons]
      simp
      intro e2; exact absurd e2.symm e
set_option maxRecDepth 100000 in
set_option maxHeartbeats 1600000 in
theorem index_any (A : Option Addr) (n c : Nat) (xs : List Int) (v : Int) (w : World) (hx : RdI w w.heap.size .i64 A n xs) (hn : n ≤ 1000) :
    Calls Tryz.prog 100 #[.slice A n c, .int .i64 v] w fun e w' => e = .returned (.int .i64 (idxB v xs 0)) ∧ w = w' := by
  have hl := Lib.hid hx.len
  have hx' := Lib.hid hx
  clear hx
  go_enter Tryz.func100, Tryz.ntmps100
  go_wp2_with fail
  go_loopw [8] (fun i wr => ∃ k : Nat, k ≤ n ∧ i = .int .i64 k ∧ idxB v (xs.drop k) k = idxB v xs 0 ∧ w = wr) (fun i _ => n - (intOf i).toNat)
  case atStart => exact ⟨0, by omega, rfl, rfl, rfl⟩
  case round =>
    obtain ⟨k, hk, rfl, hi, rfl⟩ := hrel
    have hi' := Lib.hid hi
    clear hi
    by_cases hlt : k < n
    · have e3 : (k : Int) < (n : Int) := by omega
      obtain ⟨b, o, rfl, hb, hc⟩ := hx'.out.at_ hlt
      have hdr : xs.drop k = xs.getD k 0 :: xs.drop (k + 1) := by
        rw [List.drop_eq_getElem_cons (by rw [hl.out]; exact hlt), List.getD_eq_getElem?_getD, List.getElem?_eq_getElem (by rw [hl.out]; exact hlt)]; rfl
      generalize xs.getD k 0 = x at *
      have hdr' := Lib.hid hdr
      clear hdr
      by_cases e : x = v
      · have hb1 : (v == x) = true := by simpa using e.symm
        have hr := Lib.hid (show (k : Int) = idxB v xs 0 by rw [← hi'.out, hdr'.out, idxB, if_pos e])
        clear e
        go_wp2_with fail
        go_ret
        exact ⟨by rw [← hr.out]; rfl, rfl⟩
      · have hb1 : (v == x) = false := by simp; exact fun h => e h.symm
        have hr := Lib.hid (show idxB v (xs.drop (k + 1)) ((k : Int) + 1) = idxB v xs 0 by rw [← hi'.out, hdr'.out]; exact (if_neg e).symm)
        clear e
        go_wp2_with fail
        go_roundw
        case rel => exact ⟨k + 1, by omega, by go_num, hr.out, trivial⟩
        case measure => simp [intOf]; omega
    · obtain rfl : k = n := by omega
      have hr := Lib.hid (show idxB v xs 0 = -1 by rw [← hi'.out, List.drop_of_length_le (by rw [hl.out]; exact Nat.le_refl _)]; rfl)
      go_wp2_with fail
      go_ret
      exact ⟨by rw [hr.out]; rfl, rfl⟩
set_option maxRecDepth 100000 in
theorem contains_any (A : Option Addr) (n c : Nat) (xs : List Int) (v : Int) (w : World) (hx : RdI w w.heap.size .i64 A n xs) (hn : n ≤ 1000) :
    Calls Tryz.prog 70 #[.slice A n c, .int .i64 v] w fun e w' => e = .returned (.bool (xs.contains v)) ∧ w = w' := by
  rw [← idxB_has v xs 0 (Int.le_refl _)]
  have hx' := Lib.hid hx
  clear hx
  go_enter Tryz.func70, Tryz.ntmps70
  go_wp2_with (go_at_call 100; refine (index_any _ _ _ _ _ _ hx'.out hn).mono ?_; rintro e w' ⟨rfl, rfl⟩)
  go_ret
  exact ⟨rfl, rfl⟩
end Go.Proofs.YtgajbgdkgelkgaaGreat
