/- Layer 17, the walks: New. Printed by gen/new17.py. -/
import Derived.Test.YtgajbgdkgelkgaaGreatG12
namespace Go.Proofs.YtgajbgdkgelkgaaGreat
open Go.RowKit

theorem madeB17 (n : Nat) : madeCells (Value.bool false).cells n = Array.replicate n (Value.bool false) := by
  apply Array.ext_getElem?
  intro i
  by_cases h : i < n
  · simp [madeCells, Value.cells, h, Nat.mod_one]
  · simp [madeCells, Value.cells, h]
theorem info_bool17 : (Tryz.prog.info? 4).map (fun i => (i.zero, i.size, i.bytes)) = some (some (.bool false), 1, 1) := by kernel_rfl
theorem run_mkB17 (n : Nat) (hn : n ≤ 1000000) (w : World) :
    (Instr.makeSlice 74 (.int .i64 (n : Int)) (.int .i64 (n : Int))).run Tryz.prog w = .ok (.slice (some ⟨w.heap.size, 0, none⟩) n n) (w.alloc (.cells (Array.replicate n (Value.bool false)) 4)) := by
  obtain ⟨i, h1, h2, h3, h4⟩ := info_parts info_bool17
  have := run_make (P := Tryz.prog) w 74 4 i _ Tryz.underlying74 h1 h2 .i64 .i64 (n : Int) (n : Int) (by omega) (by omega) (by rw [h4]; omega) (by omega)
  rw [h3] at this
  simpa only [Int.toNat_natCast, Nat.mul_one, madeB17] using this
theorem repTr (n : Nat) {l : List Ca} (h : l.length = n) : Array.replicate n (Value.bool false) = ((l.map fun _ => false).map Value.bool).toArray := by
  subst h
  apply Array.ext_getElem?
  intro i
  by_cases h : i < l.length
  · simp [h]
  · simp [h]
theorem info_point : (Tryz.prog.info? 83).map (fun i => (i.zero, i.size, i.bytes)) = some (some (.agg #[.pointer none, .bool false]), 2, 16) := by kernel_rfl
theorem oneAt_map {α β : Type} (f : α → β) (one : β → β → Bool) (l : List α) (k j : Nat) : oneAt one (l.map f) k j = oneAt (fun a b => one (f a) (f b)) l k j := by
  unfold oneAt
  rw [List.getElem?_map, List.getElem?_map]
  cases l[j]? <;> cases l[k]? <;> rfl
theorem twinsB_map {α β : Type} (f : α → β) (one : β → β → Bool) (l : List α) : twinsB one (l.map f) = twinsB (fun a b => one (f a) (f b)) l := by
  unfold twinsB twinsTo
  rw [List.length_map]
  congr 1
  funext k
  congr 1
  funext j
  exact oneAt_map f one l k j
def Mx.bare (m : Mx) : Mx := ⟨m.rt, m.wt, m.bk, m.cy, m.key, none, 0, 0, m.dvs, none, 0, 0, m.pts, none, 0, 0, m.cas.map Ca.strip, none, 0, 0, m.efs.map Ef.strip⟩
theorem rightM_bare (m : Mx) : rightM m.bare = rightM m := by
  have h1 : sizesB m.bare = sizesB m := by
    show (decide (m.dvs.length ≤ 4) && decide (m.pts.length ≤ 16) && decide ((m.cas.map Ca.strip).length ≤ 8) && decide ((m.efs.map Ef.strip).length ≤ 8)) = _
    rw [List.length_map, List.length_map]; rfl
  have h2 : timesB m.bare = timesB m := rfl
  have hn : namesOf m.bare = namesOf m := by
    show m.dvs.map Dv.nm ++ m.pts.map Pt.nm ++ (m.cas.map Ca.strip).map Ca.nm ++ (m.efs.map Ef.strip).map Ef.nm = _
    rw [List.map_map, List.map_map]; rfl
  have h3 : namedB m.bare = namedB m := by unfold namedB; rw [hn]
  have h4 : devicesB m.bare = devicesB m := rfl
  have h5 : pointsB m.bare = pointsB m := rfl
  have h6 : causesB m.bare = causesB m := by
    show (m.cas.map Ca.strip).all (caB m.pts.length) = _
    rw [List.all_map]; rfl
  have h7 : effectsB m.bare = effectsB m := by
    show ((m.efs.map Ef.strip).all (efB m.dvs.length (m.cas.map Ca.strip).length) && !twinsB (fun a b : Ef => a.dv == b.dv && a.pl == b.pl) (m.efs.map Ef.strip)) = _
    rw [List.all_map, List.length_map, twinsB_map]; rfl
  unfold rightM
  rw [h1, h2, h3, h4, h5, h6, h7]
  rfl
theorem SameMx.right {m m' : Mx} (h : SameMx m m') : rightM m' = rightM m := by
  rw [← rightM_bare m, ← rightM_bare m']
  unfold Mx.bare
  rw [h.rt, h.wt, h.bk, h.cy, h.key, h.dvs, h.pts, h.cas, h.efs]
/-- The block of a core that is being made. -/
abbrev arrN (m : Mx) (v : Value) (gt : Nat) : Array Value := #[.int .i64 m.rt, .int .i64 m.wt, .int .i64 m.bk, .int .i64 m.cy, .string m.key, .slice m.Ad m.nd m.cd, .slice m.Ap m.np m.cp, .slice m.Ac m.nc m.cc, .slice m.Ae m.ne m.ce, v, .slice (some ⟨gt, 0, none⟩) m.nc m.nc, .pointer none, .pointer none, .pointer none]
/-- A core that is being made, with no points yet. -/
structure NewA (w0 w : World) (g base B gt : Nat) (m m' : Mx) : Prop where
  mx : OwnMx w base B m'
  same : SameMx m m'
  head : w.heap[g]? = some (.cells (arrN m' (.slice none 0 0) gt) 79 (0, 0))
  tr : TrRow w gt (m'.cas.map fun _ => false)
  ext : Ext w0 w
  b0 : w0.heap.size ≤ base
  bB : base ≤ B
  bg : B ≤ g
  bt : gt < base ∨ B ≤ gt
  b1 : w0.heap.size ≤ gt
  ne : g ≠ gt
def NpB (g : Nat) (v : Value) (b : Nat) : Prop := b = g ∨ v.ownBlock = some b
def ptCells (p : Nat) : List Value := [.pointer (some ⟨p, 0, none⟩), .bool false]
/-- The first k points are there: in a row of its own, each with a delay; all of it from block b0 on. -/
structure NewP (w1 w : World) (b0 g : Nat) (arr : Value → Array Value) (pts : List Pt) (k : Nat) (v : Value) (ds : List Nat) : Prop where
  head : w.heap[g]? = some (.cells (arr v) 79 (0, 0))
  own : w.ownsRow b0 83 2 v k (ds.flatMap ptCells)
  len : ds.length = k
  dl : ∀ (j p : Nat), ds[j]? = some p → b0 ≤ p ∧ HasDl w p (newD (pts.getD j ⟨ByteArray.empty, 0, 0, 0, 0, 0⟩).on_ (pts.getD j ⟨ByteArray.empty, 0, 0, 0, 0, 0⟩).off) ∧ v.ownBlock ≠ some p
  ne : ∀ (i j p q : Nat), ds[i]? = some p → ds[j]? = some q → i ≠ j → p ≠ q
  mod : Mod (fun b => b = g) w1 w
  gb : g < b0
  sz : b0 ≤ w.heap.size
  b1 : b0 = w1.heap.size
theorem flat_at2 {α : Type} {cells : α → List Value} (hz : ∀ x, (cells x).length = 2) (l : List α) (j : Nat) (x : α) (h : l[j]? = some x) : (l.flatMap cells)[j * 2]? = (cells x)[0]? ∧ (l.flatMap cells)[j * 2 + 1]? = (cells x)[1]? := by
  have h0 := flat_at (sz := 2) hz l j x h 0 (by omega)
  have h1 := flat_at (sz := 2) hz l j x h 1 (by omega)
  exact ⟨by simpa using h0, h1⟩
theorem NewP.step {w1 wr : World} {b0 g k : Nat} {arr : Value → Array Value} {pts : List Pt} {v : Value} {ds : List Nat} (h : NewP w1 wr b0 g arr pts k v ds) (harr : ∀ v v', (arr v).setIfInBounds 9 v' = arr v')
    {U W W2 w2 : World} {p : Nat} {v2 : Value} {x : Pt} (hx : pts[k]? = some x) (EU : Ext wr U) (hp : U.heap.size ≤ p) (hd : HasDl W p (newD x.on_ x.off)) (E1 : Ext U W) (E2 : Ext W W2)
    (own2 : w2.ownsRow b0 83 2 v2 (k + 1) (ds.flatMap ptCells ++ ptCells p)) (hg2 : W2.grownBy w2 v.ownBlock) (at2 : v2.ownBlock = v.ownBlock ∨ v2.ownBlock = some W2.heap.size) :
    NewP w1 (w2.setCell ⟨g, 9, none⟩ v2) b0 g arr pts (k + 1) v2 (ds ++ [p]) := by
  have hgw := lt_of_block h.head
  have vlt : ∀ b, v.ownBlock = some b → b0 ≤ b ∧ b < wr.heap.size := fun b hb => h.own.lt b hb
  have E : Ext wr W2 := EU.go (E1.go E2)
  have hsz := E.size
  have hU := EU.size
  have hW := E1.size
  have hW2 := E2.size
  have hpW := hd.lt
  have hgb := h.gb
  have M2 : Mod (fun b => v.ownBlock = some b) W2 w2 := (Mod.refl _ W2).grown hg2 fun k hk => .inl hk
  have M3 : Mod (fun b => b = g) w2 (w2.setCell ⟨g, 9, none⟩ v2) := (Mod.refl (fun b => b = g) w2).setCell (p := ⟨g, 9, none⟩) (.inl rfl) v2
  have z2 := M2.size
  have z3 := M3.size
  have hB : w2.heap[g]? = some (.cells (arr v) 79 (0, 0)) := (M2.block g (by omega) (fun hb => by have := vlt g hb; omega)).trans ((E.block g hgw).trans h.head)
  have dl2 : ∀ q dd, b0 ≤ q → HasDl W2 q dd → v.ownBlock ≠ some q → HasDl (w2.setCell ⟨g, 9, none⟩ v2) q dd := fun q dd hq hdd hv =>
    (hdd.keep (M2.block q hdd.lt hv)).keep (M3.block q (by have := hdd.lt; omega) (by omega))
  have hdp : HasDl W2 p (newD x.on_ x.off) := hd.keep (E2.block p hpW)
  refine ⟨by have := sets_block hB 9 v2; rwa [harr] at this, ?_, by rw [List.length_append, h.len]; rfl, fun j q hj => ?_, fun i j q r hi hj hij => ?_, ?_, h.gb, by have := h.sz; omega, h.b1⟩
  · have := own_modK own2 M3 (fun i hi => by omega)
    rwa [List.flatMap_append, List.flatMap_cons, List.flatMap_nil, List.append_nil]
  · rcases Nat.lt_or_ge j k with hlt | hge
    · rw [List.getElem?_append_left (by rw [h.len]; exact hlt)] at hj
      obtain ⟨d1, d2, d3⟩ := h.dl j q hj
      refine ⟨d1, dl2 q _ d1 (d2.keep (E.block q d2.lt)) d3, fun hv => ?_⟩
      rcases at2 with e | e
      · exact d3 (e ▸ hv)
      · rw [e] at hv; cases hv; have := d2.lt; omega
    · rw [List.getElem?_append_right (by rw [h.len]; exact hge), h.len] at hj
      obtain rfl : j = k := by
        rcases Nat.eq_or_lt_of_le hge with e | e
        · exact e.symm
        · rw [List.getElem?_eq_none (by simp; omega)] at hj; cases hj
      rw [Nat.sub_self] at hj
      simp at hj
      subst hj
      rw [List.getD_eq_getElem?_getD, hx]
      refine ⟨by have := h.sz; omega, dl2 p _ (by have := h.sz; omega) hdp (fun hv => by have := vlt p hv; omega), fun hv => ?_⟩
      rcases at2 with e | e
      · rw [e] at hv; have := vlt p hv; omega
      · rw [e] at hv; cases hv; omega
  · have key : ∀ i q, (ds ++ [p])[i]? = some q → (i < k ∧ ds[i]? = some q ∧ q < wr.heap.size) ∨ (i = k ∧ q = p) := fun i q hi => by
      rcases Nat.lt_or_ge i k with hlt | hge
      · rw [List.getElem?_append_left (by rw [h.len]; exact hlt)] at hi
        exact .inl ⟨hlt, hi, (h.dl i q hi).2.1.lt⟩
      · rw [List.getElem?_append_right (by rw [h.len]; exact hge), h.len] at hi
        obtain rfl : i = k := by
          rcases Nat.eq_or_lt_of_le hge with e | e
          · exact e.symm
          · rw [List.getElem?_eq_none (by simp; omega)] at hi; cases hi
        rw [Nat.sub_self] at hi
        simp at hi
        exact .inr ⟨rfl, hi.symm⟩
    rcases key i q hi with ⟨a1, a2, a3⟩ | ⟨a1, a2⟩ <;> rcases key j r hj with ⟨c1, c2, c3⟩ | ⟨c1, c2⟩
    · exact h.ne i j q r a2 c2 hij
    · omega
    · omega
    · omega
  · exact (((h.mod.trans (E.mod _)).grown hg2 (fun i hi => .inr (by rw [← h.b1]; exact (vlt i hi).1))).setCell (p := ⟨g, 9, none⟩) (.inl rfl) v2)
/-- What New hands out. -/
def NewCPost (m : Mx) (w : World) (e : Ending) (w' : World) : Prop :=
  (rightM m = false ∧ e = .returned (.pointer none) ∧ Ext w w') ∨
  (rightM m = true ∧ ∃ base B K m', e = .returned (.pointer (some ⟨K.g, 0, none⟩)) ∧ HasK w' base B 0 K m' (newC m') ∧ SameMx m m' ∧ Ext w w' ∧ w.heap.size ≤ base ∧ ∀ b, K.mut m'.np b → w.heap.size ≤ b)
theorem newDone {w0 wc Y W : World} {g base B gt : Nat} {m m' : Mx} {v : Value} {ds : List Nat} {cg cl cf cs eg el ef es tg tl tm : Nat} (hA : NewA w0 wc g base B gt m m') (hR : rightM m' = true)
    (hP : NewP wc Y wc.heap.size g (fun v => arrN m' v gt) m'.pts m'.np v ds) (hC : Cleared Y W m' cg cl cf cs eg el ef es tg tl tm) :
    ∃ K : CoK, K.g = g ∧ HasK (((W.setCell ⟨g, 11, none⟩ (.pointer (some ⟨cg, 0, none⟩))).setCell ⟨g, 12, none⟩ (.pointer (some ⟨eg, 0, none⟩))).setCell ⟨g, 13, none⟩ (.pointer (some ⟨tg, 0, none⟩))) base B 0 K m' (newC m') ∧
      Ext w0 (((W.setCell ⟨g, 11, none⟩ (.pointer (some ⟨cg, 0, none⟩))).setCell ⟨g, 12, none⟩ (.pointer (some ⟨eg, 0, none⟩))).setCell ⟨g, 13, none⟩ (.pointer (some ⟨tg, 0, none⟩))) ∧ ∀ b, K.mut m'.np b → w0.heap.size ≤ b := by
  obtain ⟨A, c, rfl, hnc, hcm, hfr, hrow⟩ := own_row (cells := ptCells) (fun _ => rfl) hP.own
  have hgc := lt_of_block hA.head
  have hgt : gt < wc.heap.size := lt_of_block hA.tr
  have hYs := hP.sz
  have hWs := hC.ext.size
  obtain ⟨hrc, hre, hsz⟩ := right_parts hR
  have hdy := (hC.ext.block g (lt_of_block hP.head)).trans hP.head
  have hz := sets_block (sets_block (sets_block hdy 11 (.pointer (some ⟨cg, 0, none⟩))) 12 (.pointer (some ⟨eg, 0, none⟩))) 13 (.pointer (some ⟨tg, 0, none⟩))
  have MM : Mod (fun b => b = g) W (((W.setCell ⟨g, 11, none⟩ (.pointer (some ⟨cg, 0, none⟩))).setCell ⟨g, 12, none⟩ (.pointer (some ⟨eg, 0, none⟩))).setCell ⟨g, 13, none⟩ (.pointer (some ⟨tg, 0, none⟩))) := (((Mod.refl (fun b => b = g) W).setCell (p := ⟨g, 11, none⟩) (.inl rfl) _).setCell (p := ⟨g, 12, none⟩) (.inl rfl) _).setCell (p := ⟨g, 13, none⟩) (.inl rfl) _
  generalize ((W.setCell ⟨g, 11, none⟩ (.pointer (some ⟨cg, 0, none⟩))).setCell ⟨g, 12, none⟩ (.pointer (some ⟨eg, 0, none⟩))).setCell ⟨g, 13, none⟩ (.pointer (some ⟨tg, 0, none⟩)) = Z at *
  have far : ∀ b, wc.heap.size ≤ b → b < Y.heap.size → Z.heap[b]? = Y.heap[b]? := fun b h1 h2 => (MM.block b (by omega) (by omega)).trans (hC.ext.block b h2)
  have MY : Mod (fun b => b = g) wc Z := (hP.mod.trans (hC.ext.mod _)).trans MM
  have off : ∀ b, b < wc.heap.size → b ≠ g → Z.heap[b]? = wc.heap[b]? := fun b h1 h2 => MY.block b h1 h2
  have b0 := hA.b0
  have bB := hA.bB
  have bg := hA.bg
  have bt := hA.bt
  have hd : ∀ j, j < m'.np → ∃ p, ds[j]? = some p ∧ ds.getD j 0 = p ∧ wc.heap.size ≤ p ∧ p < Y.heap.size ∧ HasDl Z p (newD (m'.pts.getD j ⟨ByteArray.empty, 0, 0, 0, 0, 0⟩).on_ (m'.pts.getD j ⟨ByteArray.empty, 0, 0, 0, 0, 0⟩).off) ∧ (Value.slice A m'.np c).ownBlock ≠ some p := fun j hj => by
    obtain ⟨p, hp⟩ : ∃ p, ds[j]? = some p := ⟨_, List.getElem?_eq_getElem (by rw [hP.len]; exact hj)⟩
    obtain ⟨d1, d2, d3⟩ := hP.dl j p hp
    exact ⟨p, hp, by rw [List.getD_eq_getElem?_getD, hp]; rfl, d1, d2.lt, d2.keep (far p d1 d2.lt), d3⟩
  obtain ⟨gp, hgp⟩ : ∃ gp, 0 < m'.np → A = some ⟨gp, 0, none⟩ ∧ wc.heap.size ≤ gp ∧ gp < Y.heap.size ∧ PtRow Z gp (fun j => ds.getD j 0) (m'.pts.map fun _ => false) := by
    by_cases h0 : 0 < m'.np
    · obtain ⟨gp, cur, e, hb, hc⟩ := hrow h0
      refine ⟨gp, fun _ => ⟨e, hfr gp 0 e, lt_of_block hb, cur, (far gp (hfr gp 0 e) (lt_of_block hb)).trans hb, fun j hj => ?_⟩⟩
      rw [List.length_map, hA.mx.ok.pt.len] at hj
      obtain ⟨p, h1, h2, -⟩ := hd j hj
      have q0 := hc j p h1 0 (by decide)
      have q1 := hc j p h1 1 (by decide)
      refine ⟨by show cur[j * 2]? = some (.pointer (some ⟨ds.getD j 0, 0, none⟩)); rw [h2]; simpa [ptCells] using q0, ?_⟩
      have : (m'.pts.map fun _ => false).getD j false = false := by
        rw [List.getD_eq_getElem?_getD, List.getElem?_map]; cases m'.pts[j]? <;> rfl
      rw [this]
      simpa [ptCells] using q1
    · exact ⟨0, fun h => absurd h h0⟩
  have hdl0 : ∀ j, j < m'.np → (newC m').dl.getD j dl0 = newD (m'.pts.getD j ⟨ByteArray.empty, 0, 0, 0, 0, 0⟩).on_ (m'.pts.getD j ⟨ByteArray.empty, 0, 0, 0, 0, 0⟩).off := fun j hj => by
    obtain ⟨x, hx⟩ := hA.mx.ok.pt.get hj
    show (m'.pts.map fun p => newD p.on_ p.off).getD j dl0 = _
    rw [List.getD_eq_getElem?_getD, List.getElem?_map, List.getD_eq_getElem?_getD, hx]
    rfl
  have ow : ∀ b, 0 < m'.np → (A = some ⟨b, 0, none⟩) → (Value.slice A m'.np c).ownBlock = some b := fun b _ e => by subst e; rfl
  have hgb := hP.gb
  have l1 : ∀ b, (b = cg ∨ b = cl ∨ b = cf ∨ b = cs) → Y.heap.size ≤ b := hC.l1
  have l2 : ∀ b, (b = eg ∨ b = el ∨ b = ef ∨ b = es) → Y.heap.size ≤ b := hC.l2
  have l3 : ∀ b, (b = tg ∨ b = tl ∨ b = tm) → Y.heap.size ≤ b := hC.l3
  have young : ∀ b, Y.heap.size ≤ b → b ≠ g ∧ (0 < m'.np → b ≠ gp) ∧ b ≠ gt ∧ ∀ j, j < m'.np → b ≠ ds.getD j 0 := fun b hb => ⟨by omega, fun h0 => by have := (hgp h0).2.2.1; omega, by omega, fun j hj => by obtain ⟨p, -, h2, -, h4, -⟩ := hd j hj; omega⟩
  refine ⟨⟨g, A, c, gp, fun j => ds.getD j 0, gt, cg, cl, cf, cs, eg, el, ef, es, tg, tl, tm⟩, rfl, ⟨hA.mx.keep fun b _ h2 => off b (by omega) (by omega), by simpa using hz, fun h0 => ⟨(hgp h0).1, (hgp h0).2.2.2⟩, fun j hj => ?_, (off gt hgt (Ne.symm hA.ne)).trans hA.tr, ?_, ?_, ?_, ?_, ?_, ?_, rfl, rfl, bB, ⟨bg, ?_⟩, hsz, ⟨hnc, hcm⟩, ⟨hA.ne, fun h0 => ?_⟩, fun b hb => ?_, fun b hb => ?_, fun b hb => ?_, fun j hj => ?_⟩, ?_, ?_⟩
  · obtain ⟨p, h1, h2, h3, h4, h5, h6⟩ := hd j hj
    rw [hdl0 j hj]
    exact ⟨by show HasDl Z (ds.getD j 0) _; rw [h2]; exact h5, OkDl.new _ _⟩
  · exact hC.hca.mod MM fun b hb hS => by have := l1 b hb; omega
  · exact hC.hef.mod MM fun b hb hS => by have := l2 b hb; omega
  · have := hC.hen.mod MM fun b hb hS => by have := l3 b hb; omega
    show Tb Z tg tl tm 0 (m'.cas.map Ca.lm) (m'.cas.map fun _ => 0)
    rw [List.map_const']
    exact this
  · show (m'.pts.map fun p => newD p.on_ p.off).length = m'.np
    rw [List.length_map]; exact hA.mx.ok.pt.len
  · show (m'.pts.map fun _ => false).length = m'.np
    rw [List.length_map]; exact hA.mx.ok.pt.len
  · show (m'.cas.map fun _ => false).length = m'.nc
    rw [List.length_map]; exact hA.mx.ok.ca.len
  · intro b hb
    rcases hb with rfl | ⟨h0, rfl⟩ | rfl | hb | hb | hb | ⟨j, hj, rfl⟩
    · exact .inr bg
    · have := (hgp h0).2.1; right; omega
    · exact bt
    · have := l1 b hb; right; omega
    · have := l2 b hb; right; omega
    · have := l3 b hb; right; omega
    · obtain ⟨p, -, h2, h3, -⟩ := hd j hj
      right; show B ≤ ds.getD j 0; omega
  · obtain ⟨-, h2, -⟩ := hgp h0
    exact ⟨by show gp ≠ g; omega, by show gp ≠ gt; omega⟩
  · obtain ⟨f1, f2, f3, f4⟩ := young b (l1 b hb)
    exact ⟨f1, f2, f3, f4, hC.d12 b hb, hC.d13 b hb⟩
  · obtain ⟨f1, f2, f3, f4⟩ := young b (l2 b hb)
    exact ⟨f1, f2, f3, f4, hC.d23 b hb⟩
  · exact young b (l3 b hb)
  · obtain ⟨p, h1, h2, h3, h4, h5, h6⟩ := hd j hj
    refine ⟨by show ds.getD j 0 ≠ g; omega, ?_, by show ds.getD j 0 ≠ gt; omega, fun i hi hij => ?_⟩
    · show ds.getD j 0 ≠ gp
      intro e
      exact h6 (by rw [← h2, e]; exact ow gp (by omega) (hgp (by omega)).1)
    · obtain ⟨q, k1, k2, -⟩ := hd i hi
      show ds.getD i 0 ≠ ds.getD j 0
      rw [k2, h2]
      exact hP.ne i j q p k1 h1 hij
  · exact hA.ext.goM MY fun i hi => by omega
  · intro b hb
    have e0 := hA.ext.size
    rcases hb with hb | ⟨h0, rfl⟩ | rfl | hb | hb | hb | ⟨j, hj, rfl⟩
    · have hb : b = g := hb; omega
    · have := (hgp h0).2.1; omega
    · exact hA.b1
    · have := l1 b hb; omega
    · have := l2 b hb; omega
    · have := l3 b hb; omega
    · obtain ⟨p, -, h2, h3, -⟩ := hd j hj
      show w0.heap.size ≤ ds.getD j 0; omega
set_option maxRecDepth 100000 in
set_option maxHeartbeats 12800000 in
theorem coNew_any (m : Mx) (w : World) (h : OkMx w w.heap.size m) : Calls Tryz.prog 9 #[m.val] w (NewCPost m w) := by
  have h' := Lib.hid h
  cases hR : rightM m with
  | false =>
    have hR' := Lib.hid hR
    clear hR h
    unfold Mx.val
    go_enter Tryz.func9, Tryz.ntmps9
    have E0 := (Ext.refl w).goA (.cells m.arr 27)
    go_wp2_with (go_at_call 24; refine (right_any m _ (h'.out.ext E0)).mono ?_; rintro e w1 ⟨rfl, E1⟩; rw [hR'.out])
    go_ret
    exact .inl ⟨hR'.out, rfl, E0.go E1⟩
  | true =>
    obtain ⟨hrc, hre, hsz⟩ := right_parts hR
    have hsz' := hsz
    unfold sizesB at hsz'
    simp only [Bool.and_eq_true, decide_eq_true_eq] at hsz'
    have hlc : m.cas.length = m.nc := h.ca.len
    have hlp : m.pts.length = m.np := h.pt.len
    have hnc : m.nc ≤ 8 := by omega
    have hcn : Hid (∀ x ∈ m.cas, x.n ≤ 1000) := Lib.hid fun x hx => by have := hrc x hx; have := (h.cao x hx).1.len; omega
    have hen : Hid (∀ x ∈ m.efs, x.n ≤ 1000) := Lib.hid fun x hx => by have := hre x hx; have := (h.efo x hx).1.len; omega
    have hmk := fun w => run_mkB17 m.nc (by omega) w
    have hR' := Lib.hid hR
    have hsz2 := Lib.hid hsz
    clear hrc hre hsz hsz' hR h
    unfold Mx.val
    go_enter Tryz.func9, Tryz.ntmps9
    have E0 := (Ext.refl w).goA (.cells m.arr 27)
    go_upto_region 3 with (go_at_call 24; refine (right_any m _ (h'.out.ext E0)).mono ?_; rintro e w1 ⟨rfl, E1⟩; rw [hR'.out])
    have Bm : w1.heap[w.heap.size]? = some (.cells m.arr 27 (0, 0)) := (E1.block _ (by simp)).trans (heap_alloc_new w _)
    have q0 : ∀ w', Ext w1 w' → w'.cell? ⟨w.heap.size, 0, none⟩ = some (.int .i64 m.rt) := fun w' E => cellsAt ((E.block _ (lt_of_block Bm)).trans Bm) 0
    have q1 : ∀ w', Ext w1 w' → w'.cell? ⟨w.heap.size, 1, none⟩ = some (.int .i64 m.wt) := fun w' E => cellsAt ((E.block _ (lt_of_block Bm)).trans Bm) 1
    have q2 : ∀ w', Ext w1 w' → w'.cell? ⟨w.heap.size, 2, none⟩ = some (.int .i64 m.bk) := fun w' E => cellsAt ((E.block _ (lt_of_block Bm)).trans Bm) 2
    have q3 : ∀ w', Ext w1 w' → w'.cell? ⟨w.heap.size, 3, none⟩ = some (.int .i64 m.cy) := fun w' E => cellsAt ((E.block _ (lt_of_block Bm)).trans Bm) 3
    have q4 : ∀ w', Ext w1 w' → w'.cell? ⟨w.heap.size, 4, none⟩ = some (.string m.key) := fun w' E => cellsAt ((E.block _ (lt_of_block Bm)).trans Bm) 4
    have q5 : ∀ w', Ext w1 w' → w'.cell? ⟨w.heap.size, 5, none⟩ = some (.slice m.Ad m.nd m.cd) := fun w' E => cellsAt ((E.block _ (lt_of_block Bm)).trans Bm) 5
    have q6 : ∀ w', Ext w1 w' → w'.cell? ⟨w.heap.size, 6, none⟩ = some (.slice m.Ap m.np m.cp) := fun w' E => cellsAt ((E.block _ (lt_of_block Bm)).trans Bm) 6
    have q7 : ∀ w', Ext w1 w' → w'.cell? ⟨w.heap.size, 7, none⟩ = some (.slice m.Ac m.nc m.cc) := fun w' E => cellsAt ((E.block _ (lt_of_block Bm)).trans Bm) 7
    have q8 : ∀ w', Ext w1 w' → w'.cell? ⟨w.heap.size, 8, none⟩ = some (.slice m.Ae m.ne m.ce) := fun w' E => cellsAt ((E.block _ (lt_of_block Bm)).trans Bm) 8
    have EE := E0.go E1
    clear E0 E1 Bm
    go_cut [3] from 4 (fun t wx => ∃ g base B gt m', t = .pointer (some ⟨g, 0, none⟩) ∧ NewA w wx g base B gt m m')
    case first =>
      refine wp_region_held_drew (S := fun w' => Ext w1 w') (by kernel_rfl) (Ext.refl w1).god (fun hHeld => ?_)
      refine wpAnyH_take (i := 0) (oi := _) (v := ?_) rfl (by kernel_rfl) (by kernel_rfl) (by kernel_rfl) (fun _ _ _ h => h) (Or.inl ⟨by rfl, ?_⟩) (by assumption) ?_
      rotate_left
      · intro w hSw
        (try dsimp only at hSw)
        go_simp
        try (with_reducible rfl)
      try simp only [Act.put, List.getElem_toArray, List.getElem_cons_zero, List.setIfInBounds_toArray, List.set_cons_zero, List.set_cons_succ]
      refine wpAnyH_take (i := 2) (oi := _) (v := ?_) rfl (by kernel_rfl) (by kernel_rfl) (by kernel_rfl) (fun _ _ _ h => h) (Or.inl ⟨by rfl, ?_⟩) (by assumption) ?_
      rotate_left
      · intro w hSw
        (try dsimp only at hSw)
        go_simp
        try (with_reducible rfl)
      try simp only [Act.put, List.getElem_toArray, List.getElem_cons_succ, List.getElem_cons_zero, List.setIfInBounds_toArray, List.set_cons_zero, List.set_cons_succ]
      refine wpAnyH_take (i := 3) (oi := _) (v := ?_) rfl (by kernel_rfl) (by kernel_rfl) (by kernel_rfl) (fun _ _ _ h => h) (Or.inl ⟨by rfl, ?_⟩) (by assumption) ?_
      rotate_left
      · intro w hSw
        (try dsimp only at hSw)
        go_simp
        try (with_reducible rfl)
      try simp only [Act.put, List.getElem_toArray, List.getElem_cons_succ, List.getElem_cons_zero, List.setIfInBounds_toArray, List.set_cons_zero, List.set_cons_succ]
      refine wpAnyH_take (i := 4) (oi := _) (v := ?_) rfl (by kernel_rfl) (by kernel_rfl) (by kernel_rfl) (fun _ _ _ h => h) (Or.inl ⟨by rfl, ?_⟩) (by assumption) ?_
      rotate_left
      · intro w hSw
        (try dsimp only at hSw)
        go_simp
        try (with_reducible rfl)
      try simp only [Act.put, List.getElem_toArray, List.getElem_cons_succ, List.getElem_cons_zero, List.setIfInBounds_toArray, List.set_cons_zero, List.set_cons_succ]
      have Z0 : Ext w1 w1.drew := (Ext.refl w1).god
      have zE := EE.size
      have zZ := Z0.size
      clear hHeld
      generalize w1.drew = W0 at *
      refine wpAnyH_ready (rs := [1, 5]) (by kernel_rfl) (by simp) ?_
      refine AllReadyH.cons rfl (fun Kz hKz => ?_) (AllReadyH.cons rfl (fun Kz hKz => ?_) (AllReadyH.nil))
      · go_simp
        go_at_call 25
        refine (own_any m _ (h'.out.ext (EE.go Z0)) hsz2.out hcn.out hen.out).mono ?_
        rintro e W1 ⟨m', rfl, O1, hS, X1⟩
        have hHeld := Z0.go X1
        dsimp only [Mx.val]
        try dsimp only
        refine hKz.out _ _ ?_ (fun hHeld => ?_)
        · first | assumption | (dsimp only; assumption)
        clear hKz Kz
        try simp only [Act.put, List.getElem_toArray, List.getElem_cons_succ, List.getElem_cons_zero, List.setIfInBounds_toArray, List.set_cons_zero, List.set_cons_succ]
        refine wpAnyH_ready (rs := [5]) (by kernel_rfl) (by simp) ?_
        refine AllReadyH.cons rfl (fun Kz hKz => ?_) ?_
        rotate_left
        · exact AllReadyH.nil
        go_simp
        refine hKz.out _ _ ?_ (fun hHeld => ?_)
        · exact (Z0.go X1).goA _
        clear hKz Kz
        try simp only [Act.put, List.getElem_toArray, List.getElem_cons_succ, List.getElem_cons_zero, List.setIfInBounds_toArray, List.set_cons_zero, List.set_cons_succ]
        refine wpAnyH_take (i := 6) (oi := _) (v := ?_) rfl (by kernel_rfl) (by kernel_rfl) (by kernel_rfl) (fun _ _ _ h => h) (Or.inl ⟨by rfl, ?_⟩) (by assumption) ?_
        rotate_left
        · intro w hSw
          (try dsimp only at hSw)
          go_simp
          try (with_reducible rfl)
        try simp only [Act.put, List.getElem_toArray, List.getElem_cons_succ, List.getElem_cons_zero, List.setIfInBounds_toArray, List.set_cons_zero, List.set_cons_succ]
        refine wpAnyH_ready (rs := [7]) (by kernel_rfl) (by simp) ?_
        refine AllReadyH.cons rfl (fun Kz hKz => ?_) ?_
        rotate_left
        · exact AllReadyH.nil
        go_simp
        refine hKz.out _ _ ?_ (fun hHeld => ?_)
        · exact ((Z0.go X1).goA _).goA _
        clear hKz Kz
        try simp only [Act.put, List.getElem_toArray, List.getElem_cons_succ, List.getElem_cons_zero, List.setIfInBounds_toArray, List.set_cons_zero, List.set_cons_succ]
        refine wpAnyH_take (i := 8) (oi := _) (v := ?_) rfl (by kernel_rfl) (by kernel_rfl) (by kernel_rfl) (fun _ _ _ h => h) (Or.inl ⟨by rfl, ?_⟩) (by assumption) ?_
        rotate_left
        · intro w hSw
          (try dsimp only at hSw)
          go_simp
          try (with_reducible rfl)
        try simp only [Act.put, List.getElem_toArray, List.getElem_cons_succ, List.getElem_cons_zero, List.setIfInBounds_toArray, List.set_cons_zero, List.set_cons_succ]
        refine wpAnyH_done (by kernel_rfl) ?_ _
        clear q0 q1 q2 q3 q4 q5 q6 q7 q8
        go_wp2_with fail
        go_meet
        have hnc' : m'.nc = m.nc := by rw [← O1.ok.ca.len, ← hlc]; have := congrArg List.length hS.cas; simpa using this
        have hl' : m'.cas.length = m.nc := hnc' ▸ O1.ok.ca.len
        have z1 := X1.size
        refine ⟨_, W0.heap.size, W1.heap.size, W1.heap.size, m', rfl, ?_, hS, ?_, ?_, ((EE.go Z0).go X1).goA _ |>.goA _, by omega, by omega, by simp, .inr (Nat.le_refl _), by omega, by simp⟩
        · exact (O1.keep fun b _ hb => (((Ext.refl W1).goA _).goA _).block b hb)
        · have := heap_alloc_new (W1.alloc (.cells (Array.replicate m.nc (Value.bool false)) 4)) (.cells (arrN m' (.slice none 0 0) W1.heap.size) 79)
          rw [← hnc'] at this ⊢
          simpa using this
        · unfold TrRow
          rw [← repTr m.nc hl']
          exact (((Ext.refl _).goA _).block _ (by simp)).trans (heap_alloc_new W1 _)
      · go_simp
        refine hKz.out _ _ ?_ (fun hHeld => ?_)
        · exact Z0.goA _
        clear hKz Kz
        try simp only [Act.put, List.getElem_toArray, List.getElem_cons_succ, List.getElem_cons_zero, List.setIfInBounds_toArray, List.set_cons_zero, List.set_cons_succ]
        have Z1 := Z0.goA (.cells (Array.replicate m.nc (Value.bool false)) 4)
        have B1 := heap_alloc_new W0 (.cells (Array.replicate m.nc (Value.bool false)) 4)
        have z9 : (W0.alloc (.cells (Array.replicate m.nc (Value.bool false)) 4)).heap.size = W0.heap.size + 1 := by simp
        clear hHeld
        generalize W0.alloc (.cells (Array.replicate m.nc (Value.bool false)) 4) = V0 at *
        refine wpAnyH_ready (rs := [1]) (by kernel_rfl) (by simp) ?_
        refine AllReadyH.cons rfl (fun Kz hKz => ?_) ?_
        rotate_left
        · exact AllReadyH.nil
        go_simp
        go_at_call 25
        refine (own_any m _ (h'.out.ext (EE.go Z1)) hsz2.out hcn.out hen.out).mono ?_
        rintro e W1 ⟨m', rfl, O1, hS, X1⟩
        have hHeld := Z1.go X1
        dsimp only [Mx.val]
        try dsimp only
        refine hKz.out _ _ ?_ (fun hHeld => ?_)
        · first | assumption | (dsimp only; assumption)
        clear hKz Kz
        try simp only [Act.put, List.getElem_toArray, List.getElem_cons_succ, List.getElem_cons_zero, List.setIfInBounds_toArray, List.set_cons_zero, List.set_cons_succ]
        refine wpAnyH_take (i := 6) (oi := _) (v := ?_) rfl (by kernel_rfl) (by kernel_rfl) (by kernel_rfl) (fun _ _ _ h => h) (Or.inl ⟨by rfl, ?_⟩) (by assumption) ?_
        rotate_left
        · intro w hSw
          (try dsimp only at hSw)
          go_simp
          try (with_reducible rfl)
        try simp only [Act.put, List.getElem_toArray, List.getElem_cons_succ, List.getElem_cons_zero, List.setIfInBounds_toArray, List.set_cons_zero, List.set_cons_succ]
        refine wpAnyH_ready (rs := [7]) (by kernel_rfl) (by simp) ?_
        refine AllReadyH.cons rfl (fun Kz hKz => ?_) ?_
        rotate_left
        · exact AllReadyH.nil
        go_simp
        refine hKz.out _ _ ?_ (fun hHeld => ?_)
        · exact (Z1.go X1).goA _
        clear hKz Kz
        try simp only [Act.put, List.getElem_toArray, List.getElem_cons_succ, List.getElem_cons_zero, List.setIfInBounds_toArray, List.set_cons_zero, List.set_cons_succ]
        refine wpAnyH_take (i := 8) (oi := _) (v := ?_) rfl (by kernel_rfl) (by kernel_rfl) (by kernel_rfl) (fun _ _ _ h => h) (Or.inl ⟨by rfl, ?_⟩) (by assumption) ?_
        rotate_left
        · intro w hSw
          (try dsimp only at hSw)
          go_simp
          try (with_reducible rfl)
        try simp only [Act.put, List.getElem_toArray, List.getElem_cons_succ, List.getElem_cons_zero, List.setIfInBounds_toArray, List.set_cons_zero, List.set_cons_succ]
        refine wpAnyH_done (by kernel_rfl) ?_ _
        clear q0 q1 q2 q3 q4 q5 q6 q7 q8
        go_wp2_with fail
        go_meet
        have hnc' : m'.nc = m.nc := by rw [← O1.ok.ca.len, ← hlc]; have := congrArg List.length hS.cas; simpa using this
        have hl' : m'.cas.length = m.nc := hnc' ▸ O1.ok.ca.len
        have z1 := X1.size
        refine ⟨_, V0.heap.size, W1.heap.size, W0.heap.size, m', rfl, ?_, hS, ?_, ?_, ((EE.go Z1).go X1).goA _, by omega, by omega, by omega, .inl (by omega), by omega, by omega⟩
        · exact (O1.keep fun b _ hb => ((Ext.refl W1).goA _).block b hb)
        · have := heap_alloc_new W1 (.cells (arrN m' (.slice none 0 0) W0.heap.size) 79)
          rw [← hnc']
          simpa using this
        · unfold TrRow
          rw [← repTr m.nc hl']
          exact ((X1.goA _).block _ (by omega)).trans B1
    case rest =>
    obtain ⟨g, base, B, gt, m', rfl, hA⟩ := hcut
    have hS := hA.same
    have hRm : Hid (rightM m' = true) := Lib.hid (hS.right.trans hR'.out)
    have hok := hA.mx.ok
    have x6 : wc.cell? ⟨g, 6, none⟩ = some (.slice m'.Ap m'.np m'.cp) := cellsAt hA.head 6
    have gl := lt_of_block hA.head
    have hnp' : m'.np = m.np := by rw [← hok.pt.len, hS.pts, hlp]
    have hnp16 : m'.np ≤ 16 := by
      obtain ⟨-, -, hz⟩ := right_parts hRm.out
      unfold sizesB at hz
      simp only [Bool.and_eq_true, decide_eq_true_eq] at hz
      have := hok.pt.len
      omega
    have hA' := Lib.hid hA
    have hok' := Lib.hid hok
    clear q0 q1 q2 q3 q4 q5 q6 q7 q8 hA hS hok hnp' hmk
    go_wp2_with fail
    go_loopw [23] (fun i wr => ∃ (k : Nat) (v : Value) (ds : List Nat), k ≤ m'.np ∧ i = .int .i64 k ∧ NewP wc wr wc.heap.size g (fun v => arrN m' v gt) m'.pts k v ds) (fun i _ => m'.np - (intOf i).toNat)
    case atStart => exact ⟨0, .slice none 0 0, [], by omega, rfl, ⟨hA'.out.head, World.ownsRow_nil _ _ _ _, rfl, fun j p h => by simp at h, fun i j p q h => by simp at h, Mod.refl _ _, gl, Nat.le_refl _, rfl⟩⟩
    case round =>
      obtain ⟨k, v, ds, hk, rfl, hP⟩ := hrel
      have hP' := Lib.hid hP
      have hgr := lt_of_block hP.head
      have hsr := hP.sz
      by_cases hlt : k < m'.np
      · have e6 : (k : Int) < (m'.np : Int) := by omega
        obtain ⟨x, hx⟩ := hok'.out.pt.get hlt
        obtain ⟨gp, op, hAp, hgp, hcp⟩ := hok'.out.pt.at_ hx
        have bg := hA'.out.bg
        have hgpw : gp < wr.heap.size := by omega
        have hk6 : ∀ i, wr.cell? ⟨gp, op + k * 6 + i, none⟩ = wc.cell? ⟨gp, op + k * 6 + i, none⟩ := fun i => hP.mod.cell _ (by omega) (by omega)
        have x0 : wr.cell? ⟨gp, op + k * 6, none⟩ = some (.string x.nm) := (hk6 0).trans (hcp 0 (by decide))
        have x1 : wr.cell? ⟨gp, op + k * 6 + 1, none⟩ = some (.int .i64 x.dv) := (hk6 1).trans (hcp 1 (by decide))
        have x2 : wr.cell? ⟨gp, op + k * 6 + 2, none⟩ = some (.int .i64 x.pl) := (hk6 2).trans (hcp 2 (by decide))
        have x3 : wr.cell? ⟨gp, op + k * 6 + 3, none⟩ = some (.int .i64 x.tr) := (hk6 3).trans (hcp 3 (by decide))
        have x4 : wr.cell? ⟨gp, op + k * 6 + 4, none⟩ = some (.int .i64 x.on_) := (hk6 4).trans (hcp 4 (by decide))
        have x5 : wr.cell? ⟨gp, op + k * 6 + 5, none⟩ = some (.int .i64 x.off) := (hk6 5).trans (hcp 5 (by decide))
        have hx' := Lib.hid hx
        have vlt : ∀ b, v.ownBlock = some b → wc.heap.size ≤ b ∧ b < wr.heap.size := fun b hb => hP.own.lt b hb
        have vlt' := Lib.hid vlt
        have y9 : wr.cell? ⟨g, 9, none⟩ = some v := cellsAt hP.head 9
        rw [hAp]
        clear hk6 hcp hx hP vlt hgp
        go_upto_region 7 with fail
        have EU := (Ext.refl wr).goA (.cells #[.string x.nm, .int .i64 x.dv, .int .i64 x.pl, .int .i64 x.tr, .int .i64 x.on_, .int .i64 x.off] 35)
        have B8 := heap_alloc_new wr (.cells #[.string x.nm, .int .i64 x.dv, .int .i64 x.pl, .int .i64 x.tr, .int .i64 x.on_, .int .i64 x.off] 35)
        generalize wr.alloc (.cells #[.string x.nm, .int .i64 x.dv, .int .i64 x.pl, .int .i64 x.tr, .int .i64 x.on_, .int .i64 x.off] 35) = U at *
        have gU := lt_of_block B8
        have szU := EU.size
        have h0S : ¬ NpB g v wr.heap.size := fun hb => by
          rcases hb with hb | hb
          · omega
          · have := vlt'.out _ hb; omega
        have r4 : ∀ w', Mod (NpB g v) U w' → w'.cell? ⟨wr.heap.size, 4, none⟩ = some (.int .i64 x.on_) := fun w' M => cellsAt ((M.block wr.heap.size gU h0S).trans B8) 4
        have r5 : ∀ w', Mod (NpB g v) U w' → w'.cell? ⟨wr.heap.size, 5, none⟩ = some (.int .i64 x.off) := fun w' M => cellsAt ((M.block wr.heap.size gU h0S).trans B8) 5
        have EUW : Ext U U.drew := (Ext.refl U).god
        have M0 : Mod (NpB g v) U U.drew := (Mod.refl _ U).drew
        have E0 : Ext wr U.drew := EU.god
        clear x0 x1 x2 x3 x4 x5 x6 y9 B8 h0S
        refine wp_region_held_drew (S := fun w' => Mod (NpB g v) U w') (by kernel_rfl) (Mod.refl _ U).drew (fun hHeld => ?_)
        refine wpAnyH_take (i := 0) (oi := _) (v := ?_) rfl (by kernel_rfl) (by kernel_rfl) (by kernel_rfl) (fun _ _ _ h => h) (Or.inl ⟨by rfl, ?_⟩) (by assumption) ?_
        rotate_left
        · intro w hSw
          (try dsimp only at hSw)
          go_simp
          try (with_reducible rfl)
        try simp only [Act.put, List.getElem_toArray, List.getElem_cons_zero, List.setIfInBounds_toArray, List.set_cons_zero, List.set_cons_succ]
        refine wpAnyH_take (i := 1) (oi := _) (v := ?_) rfl (by kernel_rfl) (by kernel_rfl) (by kernel_rfl) (fun _ _ _ h => h) (Or.inl ⟨by rfl, ?_⟩) (by assumption) ?_
        rotate_left
        · intro w hSw
          (try dsimp only at hSw)
          go_simp
          try (with_reducible rfl)
        try simp only [Act.put, List.getElem_toArray, List.getElem_cons_succ, List.getElem_cons_zero, List.setIfInBounds_toArray, List.set_cons_zero, List.set_cons_succ]
        refine wpAnyH_take (i := 2) (oi := _) (v := ?_) rfl (by kernel_rfl) (by kernel_rfl) (by kernel_rfl) (fun _ _ _ h => h) (Or.inl ⟨by rfl, ?_⟩) (by assumption) ?_
        rotate_left
        · intro w hSw
          (try dsimp only at hSw)
          go_simp
          try (with_reducible rfl)
        try simp only [Act.put, List.getElem_toArray, List.getElem_cons_succ, List.getElem_cons_zero, List.setIfInBounds_toArray, List.set_cons_zero, List.set_cons_succ]
        refine wpAnyH_take (i := 3) (oi := _) (v := ?_) rfl (by kernel_rfl) (by kernel_rfl) (by kernel_rfl) (fun _ _ _ h => h) (Or.inl ⟨by rfl, ?_⟩) (by assumption) ?_
        rotate_left
        · intro w hSw
          (try dsimp only at hSw)
          go_simp
          try (with_reducible rfl)
        try simp only [Act.put, List.getElem_toArray, List.getElem_cons_succ, List.getElem_cons_zero, List.setIfInBounds_toArray, List.set_cons_zero, List.set_cons_succ]
        refine wpAnyH_take (i := 5) (oi := _) (v := ?_) rfl (by kernel_rfl) (by kernel_rfl) (by kernel_rfl) (fun _ _ _ h => h) (Or.inl ⟨by rfl, ?_⟩) (by assumption) ?_
        rotate_left
        · intro w hSw
          (try dsimp only at hSw)
          go_simp
          try (with_reducible rfl)
        try simp only [Act.put, List.getElem_toArray, List.getElem_cons_succ, List.getElem_cons_zero, List.setIfInBounds_toArray, List.set_cons_zero, List.set_cons_succ]
        refine wpAnyH_take (i := 6) (oi := _) (v := ?_) rfl (by kernel_rfl) (by kernel_rfl) (by kernel_rfl) (fun _ _ _ h => h) (Or.inl ⟨by rfl, ?_⟩) (by assumption) ?_
        rotate_left
        · intro w hSw
          (try dsimp only at hSw)
          go_simp
          try (with_reducible rfl)
        try simp only [Act.put, List.getElem_toArray, List.getElem_cons_succ, List.getElem_cons_zero, List.setIfInBounds_toArray, List.set_cons_zero, List.set_cons_succ]
        refine wpAnyH_take (i := 7) (oi := _) (v := ?_) rfl (by kernel_rfl) (by kernel_rfl) (by kernel_rfl) (fun _ _ _ h => h) (Or.inl ⟨by rfl, ?_⟩) (by assumption) ?_
        rotate_left
        · intro w hSw
          (try dsimp only at hSw)
          go_simp
          try (with_reducible rfl)
        try simp only [Act.put, List.getElem_toArray, List.getElem_cons_succ, List.getElem_cons_zero, List.setIfInBounds_toArray, List.set_cons_zero, List.set_cons_succ]
        refine wpAnyH_take (i := 8) (oi := _) (v := ?_) rfl (by kernel_rfl) (by kernel_rfl) (by kernel_rfl) (fun _ _ _ h => h) (Or.inl ⟨by rfl, ?_⟩) (by assumption) ?_
        rotate_left
        · intro w hSw
          (try dsimp only at hSw)
          go_simp
          try (with_reducible rfl)
        try simp only [Act.put, List.getElem_toArray, List.getElem_cons_succ, List.getElem_cons_zero, List.setIfInBounds_toArray, List.set_cons_zero, List.set_cons_succ]
        have y9 : U.drew.cell? ⟨g, 9, none⟩ = some v := cellsAt ((E0.block g hgr).trans hP'.out.head) 9
        clear hHeld
        have zU : U.drew.heap.size = U.heap.size := rfl
        generalize U.drew = W0 at *
        refine wpAnyH_ready (rs := [4, 9]) (by kernel_rfl) (by simp) ?_
        refine AllReadyH.cons rfl (fun Kz hKz => ?_) (AllReadyH.cons rfl (fun Kz hKz => ?_) (AllReadyH.nil))
        · go_simp
          refine hKz.out _ _ ?_ (fun hHeld => ?_)
          · exact M0
          clear hKz Kz
          try simp only [Act.put, List.getElem_toArray, List.getElem_cons_succ, List.getElem_cons_zero, List.setIfInBounds_toArray, List.set_cons_zero, List.set_cons_succ]
          refine wpAnyH_ready (rs := [9]) (by kernel_rfl) (by simp) ?_
          refine AllReadyH.cons rfl (fun Kz hKz => ?_) ?_
          rotate_left
          · exact AllReadyH.nil
          go_simp
          go_at_call 26
          refine (delayNew_any _ _ _).mono ?_
          rintro e W1 ⟨p, rfl, hp, hd1, X1⟩
          have hHeld := M0.trans (X1.mod (NpB g v))
          try dsimp only
          refine hKz.out _ _ ?_ (fun hHeld => ?_)
          · first | assumption | (dsimp only; assumption)
          clear hKz Kz
          try simp only [Act.put, List.getElem_toArray, List.getElem_cons_succ, List.getElem_cons_zero, List.setIfInBounds_toArray, List.set_cons_zero, List.set_cons_succ]
          refine wpAnyH_take (i := 10) (oi := _) (v := ?_) rfl (by kernel_rfl) (by kernel_rfl) (by kernel_rfl) (fun _ _ _ h => h) (Or.inl ⟨by rfl, ?_⟩) (by assumption) ?_
          rotate_left
          · intro w hSw
            (try dsimp only at hSw)
            go_simp
            try (with_reducible rfl)
          try simp only [Act.put, List.getElem_toArray, List.getElem_cons_succ, List.getElem_cons_zero, List.setIfInBounds_toArray, List.set_cons_zero, List.set_cons_succ]
          refine wpAnyH_ready (rs := [11]) (by kernel_rfl) (by simp) ?_
          refine AllReadyH.cons rfl (fun Kz hKz => ?_) ?_
          rotate_left
          · exact AllReadyH.nil
          go_simp
          refine hKz.out _ _ ?_ (fun hHeld => ?_)
          · exact (M0.trans (X1.mod _)).alloc _
          clear hKz Kz
          try simp only [Act.put, List.getElem_toArray, List.getElem_cons_succ, List.getElem_cons_zero, List.setIfInBounds_toArray, List.set_cons_zero, List.set_cons_succ]
          have E2 := (Ext.refl W1).goA (.cells #[.pointer (some ⟨p, 0, none⟩), .bool false] 83)
          have N2 := heap_alloc_new W1 (.cells #[.pointer (some ⟨p, 0, none⟩), .bool false] 83)
          have MW2 : Mod (NpB g v) U (W1.alloc (.cells #[.pointer (some ⟨p, 0, none⟩), .bool false] 83)) := (M0.trans (X1.mod _)).alloc _
          clear hHeld
          generalize W1.alloc (.cells #[.pointer (some ⟨p, 0, none⟩), .bool false] 83) = W2 at *
          have ZZ : Ext wr W2 := E0.go (X1.go E2)
          have zz := ZZ.size
          refine wpAnyH_ready (rs := [12]) (by kernel_rfl) (by simp) ?_
          refine AllReadyH.cons rfl (fun Kz hKz => ?_) ?_
          rotate_left
          · exact AllReadyH.nil
          refine step_appS rfl (.tmp 31) (.tmp 38) _ rfl Tryz.underlying75 info_point rfl (by decide) (own_ext hP'.out.own ZZ) rfl (new := ptCells p) rfl N2 rfl (by intro u hu; simp [ptCells] at hu; rcases hu with rfl | rfl <;> rfl) (by omega) (by unfold maxLen; omega) (by omega) ?_
          intro v2 w2 own2 hg2 hat2
          obtain ⟨A2, c2, rfl⟩ := own_shape own2
          have hHeld : Mod (NpB g v) U w2 := MW2.grown hg2 (fun i hi => .inl (.inr hi))
          have B2 := (hg2.block g (by omega) (fun e => by have := vlt'.out g e.symm; omega)).trans ((ZZ.block g hgr).trans hP'.out.head)
          have MH := hHeld
          have g2 := lt_of_block B2
          have z9 := frozenIn B2 9
          have u9 : w2.cell? ⟨g, 9, none⟩ = some v := cellsAt B2 9
          try dsimp only
          refine hKz.out _ _ ?_ (fun hHeld => ?_)
          · first | assumption | (dsimp only; assumption)
          clear hKz Kz
          try simp only [Act.put, List.getElem_toArray, List.getElem_cons_succ, List.getElem_cons_zero, List.setIfInBounds_toArray, List.set_cons_zero, List.set_cons_succ]
          refine wpAnyH_take (i := 13) (oi := _) (v := ?_) rfl (by kernel_rfl) (by kernel_rfl) (by kernel_rfl) (fun _ _ _ h => h) (Or.inl ⟨by rfl, ?_⟩) (by assumption) ?_
          rotate_left
          · intro w hSw
            (try dsimp only at hSw)
            go_simp
            try (with_reducible rfl)
          try simp only [Act.put, List.getElem_toArray, List.getElem_cons_succ, List.getElem_cons_zero, List.setIfInBounds_toArray, List.set_cons_zero, List.set_cons_succ]
          refine wpAnyH_take (i := 14) (oi := _) (v := ?_) rfl (by kernel_rfl) (by kernel_rfl) (by kernel_rfl) (fun _ _ _ h => h) (Or.inl ⟨by rfl, ?_⟩) (by assumption) ?_
          rotate_left
          · intro w hSw
            (try dsimp only at hSw)
            go_simp
            try (with_reducible rfl)
          try simp only [Act.put, List.getElem_toArray, List.getElem_cons_succ, List.getElem_cons_zero, List.setIfInBounds_toArray, List.set_cons_zero, List.set_cons_succ]
          refine wpAnyH_ready (rs := [15]) (by kernel_rfl) (by simp) ?_
          refine AllReadyH.cons rfl (fun Kz hKz => ?_) ?_
          rotate_left
          · exact AllReadyH.nil
          go_simp
          refine hKz.out _ _ ?_ (fun hHeld => ?_)
          · exact MH.setCell (p := ⟨g, 9, none⟩) (.inl (.inl rfl)) _
          clear hKz Kz
          try simp only [Act.put, List.getElem_toArray, List.getElem_cons_succ, List.getElem_cons_zero, List.setIfInBounds_toArray, List.set_cons_zero, List.set_cons_succ]
          refine wpAnyH_done (by kernel_rfl) ?_ _
          have PP := Lib.hid (hP'.out.step (fun _ _ => rfl) hx'.out EU (p := p) (by omega) hd1 (EUW.go X1) E2 own2 hg2 hat2)
          clear hHeld MH own2 hg2 hat2 B2 r4 r5 z9 u9 N2 MW2
          go_wp2_with fail
          go_roundw
          case rel => exact ⟨k + 1, _, _, by omega, by go_num, PP.out⟩
          case measure => simp [intOf]; omega
        · go_simp
          go_at_call 26
          refine (delayNew_any _ _ _).mono ?_
          rintro e W1 ⟨p, rfl, hp, hd1, X1⟩
          have hHeld := M0.trans (X1.mod (NpB g v))
          try dsimp only
          refine hKz.out _ _ ?_ (fun hHeld => ?_)
          · first | assumption | (dsimp only; assumption)
          clear hKz Kz
          try simp only [Act.put, List.getElem_toArray, List.getElem_cons_succ, List.getElem_cons_zero, List.setIfInBounds_toArray, List.set_cons_zero, List.set_cons_succ]
          have y1 : W1.cell? ⟨g, 9, none⟩ = some v := cellsAt (((E0.go X1).block g hgr).trans hP'.out.head) 9
          refine wpAnyH_take (i := 10) (oi := _) (v := ?_) rfl (by kernel_rfl) (by kernel_rfl) (by kernel_rfl) (fun _ _ _ h => h) (Or.inl ⟨by rfl, ?_⟩) (by assumption) ?_
          rotate_left
          · intro w hSw
            (try dsimp only at hSw)
            go_simp
            try (with_reducible rfl)
          try simp only [Act.put, List.getElem_toArray, List.getElem_cons_succ, List.getElem_cons_zero, List.setIfInBounds_toArray, List.set_cons_zero, List.set_cons_succ]
          refine wpAnyH_ready (rs := [4, 11]) (by kernel_rfl) (by simp) ?_
          refine AllReadyH.cons rfl (fun Kz hKz => ?_) (AllReadyH.cons rfl (fun Kz hKz => ?_) (AllReadyH.nil))
          · go_simp
            refine hKz.out _ _ ?_ (fun hHeld => ?_)
            · exact M0.trans (X1.mod _)
            clear hKz Kz
            try simp only [Act.put, List.getElem_toArray, List.getElem_cons_succ, List.getElem_cons_zero, List.setIfInBounds_toArray, List.set_cons_zero, List.set_cons_succ]
            refine wpAnyH_ready (rs := [11]) (by kernel_rfl) (by simp) ?_
            refine AllReadyH.cons rfl (fun Kz hKz => ?_) ?_
            rotate_left
            · exact AllReadyH.nil
            go_simp
            refine hKz.out _ _ ?_ (fun hHeld => ?_)
            · exact (M0.trans (X1.mod _)).alloc _
            clear hKz Kz
            try simp only [Act.put, List.getElem_toArray, List.getElem_cons_succ, List.getElem_cons_zero, List.setIfInBounds_toArray, List.set_cons_zero, List.set_cons_succ]
            have E2 := (Ext.refl W1).goA (.cells #[.pointer (some ⟨p, 0, none⟩), .bool false] 83)
            have N2 := heap_alloc_new W1 (.cells #[.pointer (some ⟨p, 0, none⟩), .bool false] 83)
            have MW2 : Mod (NpB g v) U (W1.alloc (.cells #[.pointer (some ⟨p, 0, none⟩), .bool false] 83)) := (M0.trans (X1.mod _)).alloc _
            clear hHeld
            generalize W1.alloc (.cells #[.pointer (some ⟨p, 0, none⟩), .bool false] 83) = W2 at *
            have ZZ : Ext wr W2 := E0.go (X1.go E2)
            have zz := ZZ.size
            refine wpAnyH_ready (rs := [12]) (by kernel_rfl) (by simp) ?_
            refine AllReadyH.cons rfl (fun Kz hKz => ?_) ?_
            rotate_left
            · exact AllReadyH.nil
            refine step_appS rfl (.tmp 31) (.tmp 38) _ rfl Tryz.underlying75 info_point rfl (by decide) (own_ext hP'.out.own ZZ) rfl (new := ptCells p) rfl N2 rfl (by intro u hu; simp [ptCells] at hu; rcases hu with rfl | rfl <;> rfl) (by omega) (by unfold maxLen; omega) (by omega) ?_
            intro v2 w2 own2 hg2 hat2
            obtain ⟨A2, c2, rfl⟩ := own_shape own2
            have hHeld : Mod (NpB g v) U w2 := MW2.grown hg2 (fun i hi => .inl (.inr hi))
            have B2 := (hg2.block g (by omega) (fun e => by have := vlt'.out g e.symm; omega)).trans ((ZZ.block g hgr).trans hP'.out.head)
            have MH := hHeld
            have g2 := lt_of_block B2
            have z9 := frozenIn B2 9
            have u9 : w2.cell? ⟨g, 9, none⟩ = some v := cellsAt B2 9
            try dsimp only
            refine hKz.out _ _ ?_ (fun hHeld => ?_)
            · first | assumption | (dsimp only; assumption)
            clear hKz Kz
            try simp only [Act.put, List.getElem_toArray, List.getElem_cons_succ, List.getElem_cons_zero, List.setIfInBounds_toArray, List.set_cons_zero, List.set_cons_succ]
            refine wpAnyH_take (i := 13) (oi := _) (v := ?_) rfl (by kernel_rfl) (by kernel_rfl) (by kernel_rfl) (fun _ _ _ h => h) (Or.inl ⟨by rfl, ?_⟩) (by assumption) ?_
            rotate_left
            · intro w hSw
              (try dsimp only at hSw)
              go_simp
              try (with_reducible rfl)
            try simp only [Act.put, List.getElem_toArray, List.getElem_cons_succ, List.getElem_cons_zero, List.setIfInBounds_toArray, List.set_cons_zero, List.set_cons_succ]
            refine wpAnyH_take (i := 14) (oi := _) (v := ?_) rfl (by kernel_rfl) (by kernel_rfl) (by kernel_rfl) (fun _ _ _ h => h) (Or.inl ⟨by rfl, ?_⟩) (by assumption) ?_
            rotate_left
            · intro w hSw
              (try dsimp only at hSw)
              go_simp
              try (with_reducible rfl)
            try simp only [Act.put, List.getElem_toArray, List.getElem_cons_succ, List.getElem_cons_zero, List.setIfInBounds_toArray, List.set_cons_zero, List.set_cons_succ]
            refine wpAnyH_ready (rs := [15]) (by kernel_rfl) (by simp) ?_
            refine AllReadyH.cons rfl (fun Kz hKz => ?_) ?_
            rotate_left
            · exact AllReadyH.nil
            go_simp
            refine hKz.out _ _ ?_ (fun hHeld => ?_)
            · exact MH.setCell (p := ⟨g, 9, none⟩) (.inl (.inl rfl)) _
            clear hKz Kz
            try simp only [Act.put, List.getElem_toArray, List.getElem_cons_succ, List.getElem_cons_zero, List.setIfInBounds_toArray, List.set_cons_zero, List.set_cons_succ]
            refine wpAnyH_done (by kernel_rfl) ?_ _
            have PP := Lib.hid (hP'.out.step (fun _ _ => rfl) hx'.out EU (p := p) (by omega) hd1 (EUW.go X1) E2 own2 hg2 hat2)
            clear hHeld MH own2 hg2 hat2 B2 r4 r5 z9 u9 N2 MW2
            go_wp2_with fail
            go_roundw
            case rel => exact ⟨k + 1, _, _, by omega, by go_num, PP.out⟩
            case measure => simp [intOf]; omega
          · go_simp
            refine hKz.out _ _ ?_ (fun hHeld => ?_)
            · exact (M0.trans (X1.mod _)).alloc _
            clear hKz Kz
            try simp only [Act.put, List.getElem_toArray, List.getElem_cons_succ, List.getElem_cons_zero, List.setIfInBounds_toArray, List.set_cons_zero, List.set_cons_succ]
            have y2 : (W1.alloc (.cells #[.pointer (some ⟨p, 0, none⟩), .bool false] 83)).cell? ⟨g, 9, none⟩ = some v := cellsAt (((E0.go X1).goA (.cells #[.pointer (some ⟨p, 0, none⟩), .bool false] 83) |>.block g hgr).trans hP'.out.head) 9
            refine wpAnyH_ready (rs := [4]) (by kernel_rfl) (by simp) ?_
            refine AllReadyH.cons rfl (fun Kz hKz => ?_) ?_
            rotate_left
            · exact AllReadyH.nil
            go_simp
            refine hKz.out _ _ ?_ (fun hHeld => ?_)
            · exact (M0.trans (X1.mod _)).alloc _
            clear hKz Kz
            try simp only [Act.put, List.getElem_toArray, List.getElem_cons_succ, List.getElem_cons_zero, List.setIfInBounds_toArray, List.set_cons_zero, List.set_cons_succ]
            have E2 := (Ext.refl W1).goA (.cells #[.pointer (some ⟨p, 0, none⟩), .bool false] 83)
            have N2 := heap_alloc_new W1 (.cells #[.pointer (some ⟨p, 0, none⟩), .bool false] 83)
            have MW2 : Mod (NpB g v) U (W1.alloc (.cells #[.pointer (some ⟨p, 0, none⟩), .bool false] 83)) := (M0.trans (X1.mod _)).alloc _
            clear hHeld
            generalize W1.alloc (.cells #[.pointer (some ⟨p, 0, none⟩), .bool false] 83) = W2 at *
            have ZZ : Ext wr W2 := E0.go (X1.go E2)
            have zz := ZZ.size
            refine wpAnyH_ready (rs := [12]) (by kernel_rfl) (by simp) ?_
            refine AllReadyH.cons rfl (fun Kz hKz => ?_) ?_
            rotate_left
            · exact AllReadyH.nil
            refine step_appS rfl (.tmp 31) (.tmp 38) _ rfl Tryz.underlying75 info_point rfl (by decide) (own_ext hP'.out.own ZZ) rfl (new := ptCells p) rfl N2 rfl (by intro u hu; simp [ptCells] at hu; rcases hu with rfl | rfl <;> rfl) (by omega) (by unfold maxLen; omega) (by omega) ?_
            intro v2 w2 own2 hg2 hat2
            obtain ⟨A2, c2, rfl⟩ := own_shape own2
            have hHeld : Mod (NpB g v) U w2 := MW2.grown hg2 (fun i hi => .inl (.inr hi))
            have B2 := (hg2.block g (by omega) (fun e => by have := vlt'.out g e.symm; omega)).trans ((ZZ.block g hgr).trans hP'.out.head)
            have MH := hHeld
            have g2 := lt_of_block B2
            have z9 := frozenIn B2 9
            have u9 : w2.cell? ⟨g, 9, none⟩ = some v := cellsAt B2 9
            try dsimp only
            refine hKz.out _ _ ?_ (fun hHeld => ?_)
            · first | assumption | (dsimp only; assumption)
            clear hKz Kz
            try simp only [Act.put, List.getElem_toArray, List.getElem_cons_succ, List.getElem_cons_zero, List.setIfInBounds_toArray, List.set_cons_zero, List.set_cons_succ]
            refine wpAnyH_take (i := 13) (oi := _) (v := ?_) rfl (by kernel_rfl) (by kernel_rfl) (by kernel_rfl) (fun _ _ _ h => h) (Or.inl ⟨by rfl, ?_⟩) (by assumption) ?_
            rotate_left
            · intro w hSw
              (try dsimp only at hSw)
              go_simp
              try (with_reducible rfl)
            try simp only [Act.put, List.getElem_toArray, List.getElem_cons_succ, List.getElem_cons_zero, List.setIfInBounds_toArray, List.set_cons_zero, List.set_cons_succ]
            refine wpAnyH_take (i := 14) (oi := _) (v := ?_) rfl (by kernel_rfl) (by kernel_rfl) (by kernel_rfl) (fun _ _ _ h => h) (Or.inl ⟨by rfl, ?_⟩) (by assumption) ?_
            rotate_left
            · intro w hSw
              (try dsimp only at hSw)
              go_simp
              try (with_reducible rfl)
            try simp only [Act.put, List.getElem_toArray, List.getElem_cons_succ, List.getElem_cons_zero, List.setIfInBounds_toArray, List.set_cons_zero, List.set_cons_succ]
            refine wpAnyH_ready (rs := [15]) (by kernel_rfl) (by simp) ?_
            refine AllReadyH.cons rfl (fun Kz hKz => ?_) ?_
            rotate_left
            · exact AllReadyH.nil
            go_simp
            refine hKz.out _ _ ?_ (fun hHeld => ?_)
            · exact MH.setCell (p := ⟨g, 9, none⟩) (.inl (.inl rfl)) _
            clear hKz Kz
            try simp only [Act.put, List.getElem_toArray, List.getElem_cons_succ, List.getElem_cons_zero, List.setIfInBounds_toArray, List.set_cons_zero, List.set_cons_succ]
            refine wpAnyH_done (by kernel_rfl) ?_ _
            have PP := Lib.hid (hP'.out.step (fun _ _ => rfl) hx'.out EU (p := p) (by omega) hd1 (EUW.go X1) E2 own2 hg2 hat2)
            clear hHeld MH own2 hg2 hat2 B2 r4 r5 z9 u9 N2 MW2
            go_wp2_with fail
            go_roundw
            case rel => exact ⟨k + 1, _, _, by omega, by go_num, PP.out⟩
            case measure => simp [intOf]; omega
      · obtain rfl : k = m'.np := by omega
        obtain ⟨Y, hY⟩ : ∃ Y, Y = wr := ⟨_, rfl⟩
        subst hY
        have bg := hA'.out.bg
        have hIn : Hid (ClIn Y base B g (arrN m' v gt) m') := Lib.hid ⟨hP'.out.head, rfl, rfl, hA'.out.mx.keep (fun b _ hb => hP'.out.mod.block b (by omega) (by omega)), by omega⟩
        clear x6
        go_wp2_with (go_at_call 27; refine (clear_any base B g (arrN m' v gt) m' _ hIn.out hRm.out).mono ?_; rintro e W2 ⟨cg, cl, cf, cs, eg, el, ef, es, tg, tl, tm, rfl, hCl⟩; have hd4 := (hCl.ext.block g hgr).trans hP'.out.head; have g4 := lt_of_block hd4; have w11 := frozenIn hd4 11; have w12 := frozenIn hd4 12; have w13 := frozenIn hd4 13; have v11 : W2.cell? ⟨g, 11, none⟩ = some (.pointer none) := cellsAt hd4 11; have v12 : W2.cell? ⟨g, 12, none⟩ = some (.pointer none) := cellsAt hd4 12; have v13 : W2.cell? ⟨g, 13, none⟩ = some (.pointer none) := cellsAt hd4 13; have hCl' := Lib.hid hCl; clear hCl hd4)
        go_ret
        obtain ⟨K, hK, hH, hE, hM⟩ := newDone hA'.out hRm.out hP'.out hCl'.out
        subst hK
        exact .inr ⟨hR'.out, base, B, K, m', rfl, hH, hA'.out.same, hE, hA'.out.b0, hM⟩
end Go.Proofs.YtgajbgdkgelkgaaGreat
