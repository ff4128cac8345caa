/- Layer 8, the reference's parser: thing, a line of each kind. Printed by gen/r8g.py. -/
import Derived.Test.YtgajbgdkgelkgaaGreatR8F
import Derived.Test.YtgajbgdkgelkgaaGreatG04
namespace Go.Proofs.YtgajbgdkgelkgaaGreat
open Go.RowKit

def caStrip (x : Ca) : Ca := { x with A := none, n := 0, c := 0 }
def efStrip (x : Ef) : Ef := { x with A := none, n := 0, c := 0 }
/-- A matrix, with no places in memory. -/
def Mx.bareR (m : Mx) : Mx := ⟨m.rt, m.wt, m.bk, m.cy, m.key, none, 0, 0, m.dvs, none, 0, 0, m.pts, none, 0, 0, m.cas.map caStrip, none, 0, 0, m.efs.map efStrip⟩
theorem names_bare (m : Mx) : namesOf m.bareR = namesOf m := by
  show m.dvs.map Dv.nm ++ m.pts.map Pt.nm ++ (m.cas.map caStrip).map Ca.nm ++ (m.efs.map efStrip).map Ef.nm = _
  rw [List.map_map, List.map_map]; rfl
theorem freshE_bare (m : Mx) (s : ByteArray) (e : Int) : freshE m.bareR s e = freshE m s e := by unfold freshE; rw [names_bare]
/-- A world of the parser's: only its own memory has turned. -/
def PsS (w : World) (g : Nat) (m : Mx) (wt ky : Bool) (w' : World) : Prop := (∃ e', PsHd w' g m wt ky e') ∧ Mod (fun b => g ≤ b) w w'
theorem PsS.cell {w : World} {g : Nat} {m : Mx} {wt ky : Bool} {w' : World} (h : PsS w g m wt ky w') (i : Nat) (hi : i < 9) : w'.cell? ⟨g, i, none⟩ = (psArr m wt ky 0)[i]? := by
  obtain ⟨e', h1⟩ := h.1
  rw [cellsAt h1 i]
  match i, hi with
  | 0, _ => rfl
  | 1, _ => rfl
  | 2, _ => rfl
  | 3, _ => rfl
  | 4, _ => rfl
  | 5, _ => rfl
  | 6, _ => rfl
  | 7, _ => rfl
  | 8, _ => rfl
def ThingPost (g : Nat) (m : Mx) (wt ky : Bool) (x : Mx × Int) (w : World) (en : Ending) (w' : World) : Prop :=
  en = .returned (.tuple #[]) ∧ ∃ m', HasPs w' g m' wt ky x.2 ∧ m'.bareR = x.1 ∧ Mod (fun b => g ≤ b) w w' ∧ m'.nd ≤ m.nd + 1 ∧ m'.np ≤ m.np + 1 ∧ m'.nc ≤ m.nc + 1 ∧ m'.ne ≤ m.ne + 1
def devR (m : Mx) (e : Int) (s1 s2 s3 : ByteArray) : Mx × Int := ({ m with dvs := m.dvs ++ [⟨s1, (numR s2).getD 0, (numR s3).getD 0⟩] }, freshE m s1 (failE (failE e (numR s2)) (numR s3)))
def ptR (m : Mx) (e : Int) (s1 s2 s3 s4 s5 s6 : ByteArray) : Mx × Int :=
  let x := atR (m.dvs.map Dv.nm) s2 (freshE m s1 (failE (failE (failE (failE e (numR s3)) (numR s4)) (numR s5)) (numR s6)))
  ({ m with pts := m.pts ++ [⟨s1, x.1, (numR s3).getD 0, (numR s4).getD 0, (numR s5).getD 0, (numR s6).getD 0⟩] }, x.2)
def caR (m : Mx) (e : Int) (s1 s2 s3 s4 : ByteArray) (ws : List ByteArray) : Mx × Int :=
  let y := lampR s3 (failE (failE e (numR s2)) (numR s4))
  let x := placesR (m.pts.map Pt.nm) ws (freshE m s1 y.2)
  ({ m with cas := m.cas ++ [⟨s1, (numR s2).getD 0, y.1, (numR s4).getD 0, none, 0, 0, x.1⟩] }, x.2)
def efR (m : Mx) (e : Int) (s1 s2 s3 s4 : ByteArray) (ws : List ByteArray) : Mx × Int :=
  let y := atR (m.dvs.map Dv.nm) s2 (freshE m s1 (failE (failE e (numR s3)) (numR s4)))
  let x := placesR (m.cas.map Ca.nm) ws y.2
  ({ m with efs := m.efs ++ [⟨s1, y.1, (numR s3).getD 0, (numR s4).getD 0, none, 0, 0, x.1⟩] }, x.2)
theorem info_dev8 : (Tryz.prog.info? 89).map (fun i => (i.zero, i.size, i.bytes)) = some (some (.agg #[.string ByteArray.empty, .int .i64 0, .int .i64 0]), 3, 32) := by kernel_rfl
theorem info_pt8 : (Tryz.prog.info? 35).map (fun i => (i.zero, i.size, i.bytes)) = some (some (.agg #[.string ByteArray.empty, .int .i64 0, .int .i64 0, .int .i64 0, .int .i64 0, .int .i64 0]), 6, 56) := by kernel_rfl
theorem info_ca8 : (Tryz.prog.info? 87).map (fun i => (i.zero, i.size, i.bytes)) = some (some (.agg #[.string ByteArray.empty, .int .i64 0, .int .i64 0, .int .i64 0, .slice none 0 0]), 5, 64) := by kernel_rfl
theorem info_ef8 : (Tryz.prog.info? 59).map (fun i => (i.zero, i.size, i.bytes)) = some (some (.agg #[.string ByteArray.empty, .int .i64 0, .int .i64 0, .int .i64 0, .slice none 0 0]), 5, 64) := by kernel_rfl
/-- One more struct is appended, where the region draws its order. -/
theorem step_app8 {P : Program} {ops : Array Oper} {o : Oper} {a : Act} {w : World} {K : Act → World → Prop} {Q : Exit → Act → World → Prop} {E : Prop} (hgd : Region.wanted o (yielded ops a.tmps) = true) (s x : Operand) (t : TypeId)
    (ho : o.op = .call { callee := .builtin .append, args := #[s, x], argTypes := #[t, t] }) {e : TypeId} {sz by_ : Nat} {z : Value} (ht : P.underlying t = some (.slice e)) (hi : (P.info? e).map (fun i => (i.zero, i.size, i.bytes)) = some (some z, sz, by_)) (hzs : z.cells.size = sz) (hsz : 0 < sz)
    {base : Nat} {v : Value} {n : Nat} {xs : List Value} (hown : w.ownsRow base e sz v n xs) (hs : a.eval s = v) {g : Nat} {new : List Value} (hx : a.eval x = .slice (some ⟨g, 0, none⟩) 1 1) (hg : w.heap[g]? = some (.cells new.toArray e (0, 0)))
    (hl : new.length = sz) (hone : ∀ u ∈ new, u.oneCell' = true) (hn : (n + 1) * by_ ≤ 140737488355328) (hm : n + 1 ≤ maxLen) (hbase : base ≤ w.heap.size)
    (h : ∀ v' w', w'.ownsRow base e sz v' (n + 1) (xs ++ new) → w.grownBy w' v.ownBlock → (v'.ownBlock = v.ownBlock ∨ v'.ownBlock = some w.heap.size) → K (a.put o.dst v') w') :
    if Region.wanted o (yielded ops a.tmps) = true then Oper.wp P o a w K Q else E := by
  rw [if_pos hgd]
  obtain ⟨i, h1, h2, h3, h4⟩ := info_parts hi
  obtain ⟨v', w', hrun, r1, r2, _, r4⟩ := run_append_own_at (P := P) w base t o.type e i z sz by_ ht h1 h2 h3 h4 hzs hsz v n xs hown ⟨g, 0, none⟩ 1 1 new (by rw [hl, Nat.one_mul]) (fun j u hj => by
    have hadd : (⟨g, 0, none⟩ : Addr).add j = ⟨g, j, none⟩ := by unfold Addr.add; split <;> simp_all
    rw [hadd, cellsAt hg j, ← hj]
    simp) hone (by omega) hn hbase
  unfold Oper.wp execOp
  simp only [ho, resolve, invoke, builtin, Sem.run_bind, Sem.run_pure, Result.andThen_ok, List.map_toArray, List.map_cons, List.map_nil, hs, hx, hrun]
  exact h v' w' r1 r2 r4
theorem own_shape8 {w : World} {base n size : Nat} {e : TypeId} {v : Value} {xs : List Value} (h : w.ownsRow base e size v n xs) : ∃ A c, v = .slice A n c := by
  rcases h.2 with ⟨rfl, rfl⟩ | ⟨g, cap, cur, rfl, _⟩
  · exact ⟨none, 0, rfl⟩
  · exact ⟨_, _, rfl⟩
/-- Words of the parser's: older than it. -/
structure Wds (w : World) (g : Nat) (A : Option Addr) (n : Nat) (ws : List ByteArray) : Prop where
  rd : RdC strCells 1 w w.heap.size A n ws
  lt : ∀ b o, A = some ⟨b, o, none⟩ → b < g
  sz : ∀ s ∈ ws, s.size ≤ maxLen
theorem Wds.at_ {w : World} {g n : Nat} {A : Option Addr} {ws : List ByteArray} (h : Wds w g A n ws) (h0 : 0 < n) : ∃ b o, A = some ⟨b, o, none⟩ ∧ b < w.heap.size ∧ b < g ∧ ∀ i, i < n → ∃ s, ws[i]? = some s ∧ s.size ≤ maxLen ∧ ∀ w', Mod (fun b => g ≤ b) w w' → w'.cell? ⟨b, o + i, none⟩ = some (.string s) := by
  obtain ⟨x, hx⟩ := h.rd.get h0
  obtain ⟨b, o, e, hb, -⟩ := h.rd.at_ hx
  refine ⟨b, o, e, hb, h.lt b o e, fun i hi => ?_⟩
  obtain ⟨s, hs⟩ := h.rd.get hi
  obtain ⟨b', o', e', hb', hc⟩ := h.rd.at_ hs
  rw [e] at e'
  obtain ⟨rfl, rfl⟩ : b = b' ∧ o = o' := by simpa using e'
  refine ⟨s, hs, h.sz s (List.mem_of_getElem? hs), fun w' M => ?_⟩
  have := hc 0 (by decide)
  rw [Nat.mul_one, Nat.add_zero] at this
  rw [M.cell _ hb (by have := h.lt b o e; omega)]
  exact this
theorem Wds.drop {w : World} {g n : Nat} {ws : List ByteArray} {b o : Nat} (h : Wds w g (some ⟨b, o, none⟩) n ws) (k : Nat) : RdC strCells 1 w w.heap.size (some ⟨b, o + k, none⟩) (n - k) (ws.drop k) := by
  refine ⟨by rw [List.length_drop, h.rd.len], fun hn => ?_⟩
  obtain ⟨x, hx⟩ := h.rd.get (show 0 < n by omega)
  obtain ⟨b', o', e', hb', -⟩ := h.rd.at_ hx
  obtain ⟨rfl, rfl⟩ : b = b' ∧ o = o' := by simpa using e'
  refine ⟨b, o + k, rfl, hb', fun j x hx i hi => ?_⟩
  rw [List.getElem?_drop] at hx
  obtain ⟨b2, o2, e2, -, hc⟩ := h.rd.at_ hx
  obtain ⟨rfl, rfl⟩ : b = b2 ∧ o = o2 := by simpa using e2
  have := hc i hi
  rw [show o + k + j * 1 + i = o + (k + j) * 1 + i by omega]
  exact this
set_option maxRecDepth 100000 in
set_option maxHeartbeats 12800000 in
theorem rThingDevice_any (g : Nat) (m : Mx) (wt ky : Bool) (e : Int) (A : Option Addr) (n c : Nat) (ws : List ByteArray) (w : World) (h : HasPs w g m wt ky e) (hw : Wds w g A n ws) (hnc : n ≤ c ∧ c ≤ maxLen) (hn : n = 4) (hs : m.nd ≤ 9000 ∧ m.np ≤ 9000 ∧ m.nc ≤ 9000 ∧ m.ne ≤ 9000) (hk0 : ∀ s, ws[0]? = some s → (s.toList == ([100, 101, 118, 105, 99, 101] : List UInt8)) = true) :
    Calls Tryz.prog 110 #[.pointer (some ⟨g, 0, none⟩), .slice A n c] w (ThingPost g m wt ky (devR m.bareR e (ws.getD 1 ByteArray.empty) (ws.getD 2 ByteArray.empty) (ws.getD 3 ByteArray.empty)) w) := by
  obtain ⟨b1, o1, rfl, hb1, hbg, hat⟩ := hw.at_ (by omega)
  obtain ⟨s0, es0, ez0, x0⟩ := hat 0 (by omega)
  obtain ⟨s1, es1, ez1, x1⟩ := hat 1 (by omega)
  obtain ⟨s2, es2, ez2, x2⟩ := hat 2 (by omega)
  obtain ⟨s3, es3, ez3, x3⟩ := hat 3 (by omega)
  have x00 : ∀ w', Mod (fun b => g ≤ b) w w' → w'.cell? ⟨b1, o1, none⟩ = some (.string s0) := fun w' hh => x0 w' hh
  clear x0
  have q0 := hk0 s0 es0
  have hgd : devR m.bareR e (ws.getD 1 ByteArray.empty) (ws.getD 2 ByteArray.empty) (ws.getD 3 ByteArray.empty) = devR m.bareR e s1 s2 s3 := by
    simp only [List.getD_eq_getElem?_getD, es1, es2, es3, Option.getD_some]
  rw [hgd]
  clear hgd hat hk0 es0 es1 es2 es3
  have hgw := h.hd.lt
  have e9 : (0 : Int) < (n : Int) := by omega
  have v1 : (1 : Int) < (n : Int) := by omega
  have v2 : (2 : Int) < (n : Int) := by omega
  have v3 : (3 : Int) < (n : Int) := by omega
  have hw' := Lib.hid hw
  have H0 := Lib.hid h
  have M0 : Mod (fun b => g ≤ b) w w := Mod.refl _ w
  clear h hw
  subst hn
  go_enter Tryz.func110, Tryz.ntmps110
  go_upto_region 5 with (first
    | (go_at_call 128; refine (rFresh_any g m wt ky (failE (failE (e) (numR s2)) (numR s3)) s1 _ H2.out (by omega)).mono ?_; rintro en W3 ⟨rfl, p3, d3⟩; have M3 : Mod (fun b => g ≤ b) w W3 := M2.step d3 (fun i hi => .inl (Nat.le_of_eq hi.symm)); have H3 := Lib.hid (H2.out.modG d3 p3); have z3 := d3.size)
    | (go_at_call 109; refine (rNum_any g m wt ky (failE (e) (numR s2)) s3 _ H1.out.hd ez3).mono ?_; rintro en W2 ⟨rfl, p2, d2⟩; have M2 : Mod (fun b => g ≤ b) w W2 := M1.step d2 (fun i hi => .inl (Nat.le_of_eq hi.symm)); have H2 := Lib.hid (H1.out.modG d2 p2); have z2 := d2.size)
    | (go_at_call 109; refine (rNum_any g m wt ky (e) s2 _ H0.out.hd ez2).mono ?_; rintro en W1 ⟨rfl, p1, d1⟩; have M1 : Mod (fun b => g ≤ b) w W1 := M0.step d1 (fun i hi => .inl (Nat.le_of_eq hi.symm)); have H1 := Lib.hid (H0.out.modG d1 p1); have z1 := d1.size))
  have gWW := H3.out.hd.lt
  have bWW : b1 < W3.heap.size := Nat.lt_of_lt_of_le hb1 M3.size
  have y1 : ∀ w', Mod (fun b => g ≤ b) W3 w' → w'.cell? ⟨b1, o1 + 1, none⟩ = some (.string s1) := fun w' hh => x1 w' (M3.step hh (fun i hi => .inl hi))
  have M9 : Mod (fun b => g ≤ b) W3 W3.drew := (Mod.refl _ W3).drew
  have HC := H3.out.hd
  refine wp_region_held_drew (S := fun w' => Mod (fun b => g ≤ b) W3 w') (by kernel_rfl) (Mod.refl _ W3).drew (fun hHeld => ?_)
  refine tk 0 ?_
  try simp only [Act.put, gA, gC, List.setIfInBounds_toArray, gE, gF]
  refine tk 1 ?_
  try simp only [Act.put, gA, gB, gC, List.setIfInBounds_toArray, gE, gF]
  refine tk 2 ?_
  try simp only [Act.put, gA, gB, gC, List.setIfInBounds_toArray, gE, gF]
  refine tk 3 ?_
  try simp only [Act.put, gA, gB, gC, List.setIfInBounds_toArray, gE, gF]
  refine tk 4 ?_
  try simp only [Act.put, gA, gB, gC, List.setIfInBounds_toArray, gE, gF]
  refine tk 6 ?_
  try simp only [Act.put, gA, gB, gC, List.setIfInBounds_toArray, gE, gF]
  refine tk 7 ?_
  try simp only [Act.put, gA, gB, gC, List.setIfInBounds_toArray, gE, gF]
  refine tk 8 ?_
  try simp only [Act.put, gA, gB, gC, List.setIfInBounds_toArray, gE, gF]
  refine tk 9 ?_
  try simp only [Act.put, gA, gB, gC, List.setIfInBounds_toArray, gE, gF]
  refine tk 10 ?_
  try simp only [Act.put, gA, gB, gC, List.setIfInBounds_toArray, gE, gF]
  refine tk 11 ?_
  try simp only [Act.put, gA, gB, gC, List.setIfInBounds_toArray, gE, gF]
  have ED : Ext W3 W3.drew := (Ext.refl W3).god
  have zD := ED.size
  clear hHeld
  generalize W3.drew = D at *
  have u0 : D.cell? ⟨g, 5, none⟩ = some (.slice m.Ad m.nd m.cd) := cellsAt ((ED.block g gWW).trans HC) 5
  have u1 : (D.alloc (.cells #[.string s1, .int .i64 ((numR s2).getD 0), .int .i64 ((numR s3).getD 0)] 89)).cell? ⟨g, 5, none⟩ = some (.slice m.Ad m.nd m.cd) := cellsAt (((ED.goA (.cells #[.string s1, .int .i64 ((numR s2).getD 0), .int .i64 ((numR s3).getD 0)] 89)).block g gWW).trans HC) 5
  have EX : Ext W3 (D.alloc (.cells #[.string s1, .int .i64 ((numR s2).getD 0), .int .i64 ((numR s3).getD 0)] 89)) := ED.goA _
  have NX : (D.alloc (.cells #[.string s1, .int .i64 ((numR s2).getD 0), .int .i64 ((numR s3).getD 0)] 89)).heap[D.heap.size]? = some (.cells #[.string s1, .int .i64 ((numR s2).getD 0), .int .i64 ((numR s3).getD 0)] 89 (0, 0)) := heap_alloc_new D _
  refine wpAnyH_ready (rs := [5, 12]) (by kernel_rfl) (by simp) ?_
  refine AllReadyH.cons rfl (fun Kz hKz => ?_) (AllReadyH.cons rfl (fun Kz hKz => ?_) (AllReadyH.nil))
  · go_simp
    refine hKz.out _ _ ?_ (fun hHeld => ?_)
    · exact M9
    clear hKz Kz
    try simp only [Act.put, gA, gB, gC, List.setIfInBounds_toArray, gE, gF]
    refine wpAnyH_ready (rs := [12]) (by kernel_rfl) (by simp) ?_
    refine AllReadyH.cons rfl (fun Kz hKz => ?_) ?_
    rotate_left
    · exact AllReadyH.nil
    go_simp
    refine hKz.out _ _ ?_ (fun hHeld => ?_)
    · exact M9.alloc _
    clear hKz Kz
    try simp only [Act.put, gA, gB, gC, List.setIfInBounds_toArray, gE, gF]
    have HX := H3.out.ext EX
    have MX := EX.mod (fun b => g ≤ b)
    have zX := EX.size
    clear hHeld u0 u1
    generalize D.alloc (.cells #[.string s1, .int .i64 ((numR s2).getD 0), .int .i64 ((numR s3).getD 0)] 89) = X at *
    refine wpAnyH_ready (rs := [13]) (by kernel_rfl) (by simp) ?_
    refine AllReadyH.cons rfl (fun Kz hKz => ?_) ?_
    rotate_left
    · exact AllReadyH.nil
    refine step_app8 rfl (.tmp 44) (.tmp 51) _ rfl Tryz.underlying22 info_dev8 rfl (by decide) HX.dv rfl (new := [.string s1, .int .i64 ((numR s2).getD 0), .int .i64 ((numR s3).getD 0)]) rfl NX rfl (by intro u hu; simp at hu; rcases hu with rfl | rfl | rfl <;> rfl) (by omega) (by unfold maxLen; omega) (by omega) ?_
    intro v2 w2 own2 hg2 hat2
    obtain ⟨A2, c2, rfl⟩ := own_shape8 own2
    have B2 := (hg2.block g HX.hd.lt (fun e => by have := (own_isR HX.dv e.symm).1; omega)).trans HX.hd
    have hHeld : Mod (fun b => g ≤ b) W3 w2 := MX.grown hg2 (fun i hi => .inl (by have := (own_isR HX.dv hi).1; omega))
    have MH := hHeld
    have g2 := lt_of_block B2
    have z9 := frozenIn B2 5
    have u9 : w2.cell? ⟨g, 5, none⟩ = some (.slice m.Ad m.nd m.cd) := cellsAt B2 5
    try dsimp only
    refine hKz.out _ _ ?_ (fun hHeld => ?_)
    · first | assumption | (dsimp only; assumption)
    clear hKz Kz
    try simp only [Act.put, gA, gB, gC, List.setIfInBounds_toArray, gE, gF]
    refine tk 14 ?_
    try simp only [Act.put, gA, gB, gC, List.setIfInBounds_toArray, gE, gF]
    refine tk 15 ?_
    try simp only [Act.put, gA, gB, gC, List.setIfInBounds_toArray, gE, gF]
    refine tk 16 ?_
    try simp only [Act.put, gA, gB, gC, List.setIfInBounds_toArray, gE, gF]
    refine wpAnyH_ready (rs := [17]) (by kernel_rfl) (by simp) ?_
    refine AllReadyH.cons rfl (fun Kz hKz => ?_) ?_
    rotate_left
    · exact AllReadyH.nil
    go_simp
    refine hKz.out _ _ ?_ (fun hHeld => ?_)
    · exact MH.setCell (p := ⟨g, 5, none⟩) (.inl (Nat.le_refl _)) _
    clear hKz Kz
    try simp only [Act.put, gA, gB, gC, List.setIfInBounds_toArray, gE, gF]
    refine wpAnyH_done (by kernel_rfl) ?_ _
    have FF := Lib.hid (HX.addDv (d := ⟨s1, (numR s2).getD 0, (numR s3).getD 0⟩) ez1 own2 hg2)
    clear hHeld MH own2 hg2 hat2 B2 y1 z9 u9 NX HC
    go_wp2_with fail
    refine bodyPost_ret (results_none rfl _ _ _) rfl ?_
    unfold devR
    simp only [freshE_bare]
    skip
    exact ⟨rfl, _, FF.out.1, rfl, M3.trans (MX.trans FF.out.2), by dsimp only; omega, by dsimp only; omega, by dsimp only; omega, by dsimp only; omega⟩
  · go_simp
    refine hKz.out _ _ ?_ (fun hHeld => ?_)
    · exact M9.alloc _
    clear hKz Kz
    try simp only [Act.put, gA, gB, gC, List.setIfInBounds_toArray, gE, gF]
    refine wpAnyH_ready (rs := [5]) (by kernel_rfl) (by simp) ?_
    refine AllReadyH.cons rfl (fun Kz hKz => ?_) ?_
    rotate_left
    · exact AllReadyH.nil
    go_simp
    refine hKz.out _ _ ?_ (fun hHeld => ?_)
    · exact M9.alloc _
    clear hKz Kz
    try simp only [Act.put, gA, gB, gC, List.setIfInBounds_toArray, gE, gF]
    have HX := H3.out.ext EX
    have MX := EX.mod (fun b => g ≤ b)
    have zX := EX.size
    clear hHeld u0 u1
    generalize D.alloc (.cells #[.string s1, .int .i64 ((numR s2).getD 0), .int .i64 ((numR s3).getD 0)] 89) = X at *
    refine wpAnyH_ready (rs := [13]) (by kernel_rfl) (by simp) ?_
    refine AllReadyH.cons rfl (fun Kz hKz => ?_) ?_
    rotate_left
    · exact AllReadyH.nil
    refine step_app8 rfl (.tmp 44) (.tmp 51) _ rfl Tryz.underlying22 info_dev8 rfl (by decide) HX.dv rfl (new := [.string s1, .int .i64 ((numR s2).getD 0), .int .i64 ((numR s3).getD 0)]) rfl NX rfl (by intro u hu; simp at hu; rcases hu with rfl | rfl | rfl <;> rfl) (by omega) (by unfold maxLen; omega) (by omega) ?_
    intro v2 w2 own2 hg2 hat2
    obtain ⟨A2, c2, rfl⟩ := own_shape8 own2
    have B2 := (hg2.block g HX.hd.lt (fun e => by have := (own_isR HX.dv e.symm).1; omega)).trans HX.hd
    have hHeld : Mod (fun b => g ≤ b) W3 w2 := MX.grown hg2 (fun i hi => .inl (by have := (own_isR HX.dv hi).1; omega))
    have MH := hHeld
    have g2 := lt_of_block B2
    have z9 := frozenIn B2 5
    have u9 : w2.cell? ⟨g, 5, none⟩ = some (.slice m.Ad m.nd m.cd) := cellsAt B2 5
    try dsimp only
    refine hKz.out _ _ ?_ (fun hHeld => ?_)
    · first | assumption | (dsimp only; assumption)
    clear hKz Kz
    try simp only [Act.put, gA, gB, gC, List.setIfInBounds_toArray, gE, gF]
    refine tk 14 ?_
    try simp only [Act.put, gA, gB, gC, List.setIfInBounds_toArray, gE, gF]
    refine tk 15 ?_
    try simp only [Act.put, gA, gB, gC, List.setIfInBounds_toArray, gE, gF]
    refine tk 16 ?_
    try simp only [Act.put, gA, gB, gC, List.setIfInBounds_toArray, gE, gF]
    refine wpAnyH_ready (rs := [17]) (by kernel_rfl) (by simp) ?_
    refine AllReadyH.cons rfl (fun Kz hKz => ?_) ?_
    rotate_left
    · exact AllReadyH.nil
    go_simp
    refine hKz.out _ _ ?_ (fun hHeld => ?_)
    · exact MH.setCell (p := ⟨g, 5, none⟩) (.inl (Nat.le_refl _)) _
    clear hKz Kz
    try simp only [Act.put, gA, gB, gC, List.setIfInBounds_toArray, gE, gF]
    refine wpAnyH_done (by kernel_rfl) ?_ _
    have FF := Lib.hid (HX.addDv (d := ⟨s1, (numR s2).getD 0, (numR s3).getD 0⟩) ez1 own2 hg2)
    clear hHeld MH own2 hg2 hat2 B2 y1 z9 u9 NX HC
    go_wp2_with fail
    refine bodyPost_ret (results_none rfl _ _ _) rfl ?_
    unfold devR
    simp only [freshE_bare]
    skip
    exact ⟨rfl, _, FF.out.1, rfl, M3.trans (MX.trans FF.out.2), by dsimp only; omega, by dsimp only; omega, by dsimp only; omega, by dsimp only; omega⟩
set_option maxRecDepth 100000 in
set_option maxHeartbeats 12800000 in
theorem rThingPoint_any (g : Nat) (m : Mx) (wt ky : Bool) (e : Int) (A : Option Addr) (n c : Nat) (ws : List ByteArray) (w : World) (h : HasPs w g m wt ky e) (hw : Wds w g A n ws) (hnc : n ≤ c ∧ c ≤ maxLen) (hn : n = 7) (hs : m.nd ≤ 9000 ∧ m.np ≤ 9000 ∧ m.nc ≤ 9000 ∧ m.ne ≤ 9000) (hk0 : ∀ s, ws[0]? = some s → (s.toList == ([112, 111, 105, 110, 116] : List UInt8)) = true) :
    Calls Tryz.prog 110 #[.pointer (some ⟨g, 0, none⟩), .slice A n c] w (ThingPost g m wt ky (ptR m.bareR e (ws.getD 1 ByteArray.empty) (ws.getD 2 ByteArray.empty) (ws.getD 3 ByteArray.empty) (ws.getD 4 ByteArray.empty) (ws.getD 5 ByteArray.empty) (ws.getD 6 ByteArray.empty)) w) := by
  obtain ⟨b1, o1, rfl, hb1, hbg, hat⟩ := hw.at_ (by omega)
  obtain ⟨s0, es0, ez0, x0⟩ := hat 0 (by omega)
  obtain ⟨s1, es1, ez1, x1⟩ := hat 1 (by omega)
  obtain ⟨s2, es2, ez2, x2⟩ := hat 2 (by omega)
  obtain ⟨s3, es3, ez3, x3⟩ := hat 3 (by omega)
  obtain ⟨s4, es4, ez4, x4⟩ := hat 4 (by omega)
  obtain ⟨s5, es5, ez5, x5⟩ := hat 5 (by omega)
  obtain ⟨s6, es6, ez6, x6⟩ := hat 6 (by omega)
  have x00 : ∀ w', Mod (fun b => g ≤ b) w w' → w'.cell? ⟨b1, o1, none⟩ = some (.string s0) := fun w' hh => x0 w' hh
  clear x0
  have q0 := hk0 s0 es0
  have n0 : (s0.toList == ([100, 101, 118, 105, 99, 101] : List UInt8)) = false := by rw [eq_of_beq q0]; decide
  have hgd : ptR m.bareR e (ws.getD 1 ByteArray.empty) (ws.getD 2 ByteArray.empty) (ws.getD 3 ByteArray.empty) (ws.getD 4 ByteArray.empty) (ws.getD 5 ByteArray.empty) (ws.getD 6 ByteArray.empty) = ptR m.bareR e s1 s2 s3 s4 s5 s6 := by
    simp only [List.getD_eq_getElem?_getD, es1, es2, es3, es4, es5, es6, Option.getD_some]
  rw [hgd]
  clear hgd hat hk0 es0 es1 es2 es3 es4 es5 es6
  have hgw := h.hd.lt
  have e9 : (0 : Int) < (n : Int) := by omega
  have v1 : (1 : Int) < (n : Int) := by omega
  have v2 : (2 : Int) < (n : Int) := by omega
  have v3 : (3 : Int) < (n : Int) := by omega
  have v4 : (4 : Int) < (n : Int) := by omega
  have v5 : (5 : Int) < (n : Int) := by omega
  have v6 : (6 : Int) < (n : Int) := by omega
  have hw' := Lib.hid hw
  have H0 := Lib.hid h
  have M0 : Mod (fun b => g ≤ b) w w := Mod.refl _ w
  clear h hw
  subst hn
  go_enter Tryz.func110, Tryz.ntmps110
  go_upto_region 12 with (first
    | (go_at_call 128; refine (rFresh_any g m wt ky (failE (failE (failE (failE (e) (numR s3)) (numR s4)) (numR s5)) (numR s6)) s1 _ H4.out (by omega)).mono ?_; rintro en W5 ⟨rfl, p5, d5⟩; have M5 : Mod (fun b => g ≤ b) w W5 := M4.step d5 (fun i hi => .inl (Nat.le_of_eq hi.symm)); have H5 := Lib.hid (H4.out.modG d5 p5); have z5 := d5.size)
    | (go_at_call 109; refine (rNum_any g m wt ky (failE (failE (failE (e) (numR s3)) (numR s4)) (numR s5)) s6 _ H3.out.hd ez6).mono ?_; rintro en W4 ⟨rfl, p4, d4⟩; have M4 : Mod (fun b => g ≤ b) w W4 := M3.step d4 (fun i hi => .inl (Nat.le_of_eq hi.symm)); have H4 := Lib.hid (H3.out.modG d4 p4); have z4 := d4.size)
    | (go_at_call 109; refine (rNum_any g m wt ky (failE (failE (e) (numR s3)) (numR s4)) s5 _ H2.out.hd ez5).mono ?_; rintro en W3 ⟨rfl, p3, d3⟩; have M3 : Mod (fun b => g ≤ b) w W3 := M2.step d3 (fun i hi => .inl (Nat.le_of_eq hi.symm)); have H3 := Lib.hid (H2.out.modG d3 p3); have z3 := d3.size)
    | (go_at_call 109; refine (rNum_any g m wt ky (failE (e) (numR s3)) s4 _ H1.out.hd ez4).mono ?_; rintro en W2 ⟨rfl, p2, d2⟩; have M2 : Mod (fun b => g ≤ b) w W2 := M1.step d2 (fun i hi => .inl (Nat.le_of_eq hi.symm)); have H2 := Lib.hid (H1.out.modG d2 p2); have z2 := d2.size)
    | (go_at_call 109; refine (rNum_any g m wt ky (e) s3 _ H0.out.hd ez3).mono ?_; rintro en W1 ⟨rfl, p1, d1⟩; have M1 : Mod (fun b => g ≤ b) w W1 := M0.step d1 (fun i hi => .inl (Nat.le_of_eq hi.symm)); have H1 := Lib.hid (H0.out.modG d1 p1); have z1 := d1.size))
  have gW5 := H5.out.hd.lt
  have k0 : ∀ w', PsS W5 g m wt ky w' → w'.cell? ⟨g, 0, none⟩ = some (.int .i64 m.rt) := fun w' hh => hh.cell 0 (by decide)
  have k1 : ∀ w', PsS W5 g m wt ky w' → w'.cell? ⟨g, 1, none⟩ = some (.int .i64 m.wt) := fun w' hh => hh.cell 1 (by decide)
  have k2 : ∀ w', PsS W5 g m wt ky w' → w'.cell? ⟨g, 2, none⟩ = some (.int .i64 m.bk) := fun w' hh => hh.cell 2 (by decide)
  have k3 : ∀ w', PsS W5 g m wt ky w' → w'.cell? ⟨g, 3, none⟩ = some (.int .i64 m.cy) := fun w' hh => hh.cell 3 (by decide)
  have k4 : ∀ w', PsS W5 g m wt ky w' → w'.cell? ⟨g, 4, none⟩ = some (.string m.key) := fun w' hh => hh.cell 4 (by decide)
  have k5 : ∀ w', PsS W5 g m wt ky w' → w'.cell? ⟨g, 5, none⟩ = some (.slice m.Ad m.nd m.cd) := fun w' hh => hh.cell 5 (by decide)
  have k6 : ∀ w', PsS W5 g m wt ky w' → w'.cell? ⟨g, 6, none⟩ = some (.slice m.Ap m.np m.cp) := fun w' hh => hh.cell 6 (by decide)
  have k7 : ∀ w', PsS W5 g m wt ky w' → w'.cell? ⟨g, 7, none⟩ = some (.slice m.Ac m.nc m.cc) := fun w' hh => hh.cell 7 (by decide)
  have k8 : ∀ w', PsS W5 g m wt ky w' → w'.cell? ⟨g, 8, none⟩ = some (.slice m.Ae m.ne m.ce) := fun w' hh => hh.cell 8 (by decide)
  have y2 : ∀ w', PsS W5 g m wt ky w' → w'.cell? ⟨b1, o1 + 2, none⟩ = some (.string s2) := fun w' hh => x2 w' (M5.step hh.2 (fun i hi => .inl hi))
  have bW5 : b1 < W5.heap.size := Nat.lt_of_lt_of_le hb1 M5.size
  refine wp_region_held_drew (S := fun w' => PsS W5 g m wt ky w') (by kernel_rfl) ⟨⟨_, H5.out.hd.ext (Ext.refl W5).god⟩, ((Ext.refl W5).god).mod _⟩ (fun hHeld => ?_)
  refine tk 0 ?_
  try simp only [Act.put, gA, gC, List.setIfInBounds_toArray, gE, gF]
  refine tk 1 ?_
  try simp only [Act.put, gA, gB, gC, List.setIfInBounds_toArray, gE, gF]
  refine tk 2 ?_
  try simp only [Act.put, gA, gB, gC, List.setIfInBounds_toArray, gE, gF]
  refine tk 3 ?_
  try simp only [Act.put, gA, gB, gC, List.setIfInBounds_toArray, gE, gF]
  refine tk 4 ?_
  try simp only [Act.put, gA, gB, gC, List.setIfInBounds_toArray, gE, gF]
  refine tk 6 ?_
  try simp only [Act.put, gA, gB, gC, List.setIfInBounds_toArray, gE, gF]
  refine tk 7 ?_
  try simp only [Act.put, gA, gB, gC, List.setIfInBounds_toArray, gE, gF]
  refine tk 8 ?_
  try simp only [Act.put, gA, gB, gC, List.setIfInBounds_toArray, gE, gF]
  refine wpAnyH_ready (rs := [5]) (by kernel_rfl) (by simp) ?_
  refine AllReadyH.cons rfl (fun Kz hKz => ?_) ?_
  rotate_left
  · exact AllReadyH.nil
  go_simp
  go_at_call 130
  refine (rDeviceNames_any m _ (H5.out.ext (Ext.refl W5).god).ok (by omega)).mono ?_
  rintro en V5 ⟨A1, n1, c1, rfl, r1, r2, r3, r4, X1⟩
  have XX : Ext W5 V5 := ((Ext.refl W5).god).go X1
  have hHeld : PsS W5 g m wt ky V5 := ⟨⟨_, H5.out.hd.ext XX⟩, XX.mod _⟩
  try dsimp only
  refine hKz.out _ _ ?_ (fun hHeld => ?_)
  · first | assumption | (dsimp only; assumption)
  clear hKz Kz
  try simp only [Act.put, gA, gB, gC, List.setIfInBounds_toArray, gE, gF]
  refine wpAnyH_ready (rs := [9]) (by kernel_rfl) (by simp) ?_
  refine AllReadyH.cons rfl (fun Kz hKz => ?_) ?_
  rotate_left
  · exact AllReadyH.nil
  go_simp
  go_at_call 129
  refine (rNamed_any g m wt ky (freshE m s1 (failE (failE (failE (failE (e) (numR s3)) (numR s4)) (numR s5)) (numR s6))) _ _ _ (m.dvs.map Dv.nm) s2 _ (H5.out.hd.ext XX) r3 (Nat.le_trans r1 r2)).mono ?_
  rintro en W6 ⟨rfl, p6, d6⟩
  have hHeld : PsS W5 g m wt ky W6 := ⟨⟨_, p6⟩, (XX.mod _).trans (d6.weak fun b hb => Nat.le_of_eq hb.symm)⟩
  try dsimp only
  refine hKz.out _ _ ?_ (fun hHeld => ?_)
  · first | assumption | (dsimp only; assumption)
  clear hKz Kz
  try simp only [Act.put, gA, gB, gC, List.setIfInBounds_toArray, gE, gF]
  refine tk 10 ?_
  try simp only [Act.put, gA, gB, gC, List.setIfInBounds_toArray, gE, gF]
  refine wpAnyH_done (by kernel_rfl) ?_ _
  have H6 := Lib.hid ((H5.out.ext XX).modG d6 p6)
  have M6 : Mod (fun b => g ≤ b) w W6 := M5.step hHeld.2 (fun i hi => .inl hi)
  have z6 := hHeld.2.size
  clear hHeld XX X1 r3 r4 y2 k0 k1 k2 k3 k4 k5 k6 k7 k8
  go_upto_region 13 with fail
  have gWW := H6.out.hd.lt
  have bWW : b1 < W6.heap.size := Nat.lt_of_lt_of_le hb1 M6.size
  have y1 : ∀ w', Mod (fun b => g ≤ b) W6 w' → w'.cell? ⟨b1, o1 + 1, none⟩ = some (.string s1) := fun w' hh => x1 w' (M6.step hh (fun i hi => .inl hi))
  have M9 : Mod (fun b => g ≤ b) W6 W6.drew := (Mod.refl _ W6).drew
  have HC := H6.out.hd
  refine wp_region_held_drew (S := fun w' => Mod (fun b => g ≤ b) W6 w') (by kernel_rfl) (Mod.refl _ W6).drew (fun hHeld => ?_)
  refine tk 0 ?_
  try simp only [Act.put, gA, gC, List.setIfInBounds_toArray, gE, gF]
  refine tk 1 ?_
  try simp only [Act.put, gA, gB, gC, List.setIfInBounds_toArray, gE, gF]
  refine tk 2 ?_
  try simp only [Act.put, gA, gB, gC, List.setIfInBounds_toArray, gE, gF]
  refine tk 3 ?_
  try simp only [Act.put, gA, gB, gC, List.setIfInBounds_toArray, gE, gF]
  refine tk 4 ?_
  try simp only [Act.put, gA, gB, gC, List.setIfInBounds_toArray, gE, gF]
  refine tk 6 ?_
  try simp only [Act.put, gA, gB, gC, List.setIfInBounds_toArray, gE, gF]
  refine tk 7 ?_
  try simp only [Act.put, gA, gB, gC, List.setIfInBounds_toArray, gE, gF]
  refine tk 8 ?_
  try simp only [Act.put, gA, gB, gC, List.setIfInBounds_toArray, gE, gF]
  refine tk 9 ?_
  try simp only [Act.put, gA, gB, gC, List.setIfInBounds_toArray, gE, gF]
  refine tk 10 ?_
  try simp only [Act.put, gA, gB, gC, List.setIfInBounds_toArray, gE, gF]
  refine tk 11 ?_
  try simp only [Act.put, gA, gB, gC, List.setIfInBounds_toArray, gE, gF]
  refine tk 12 ?_
  try simp only [Act.put, gA, gB, gC, List.setIfInBounds_toArray, gE, gF]
  refine tk 13 ?_
  try simp only [Act.put, gA, gB, gC, List.setIfInBounds_toArray, gE, gF]
  refine tk 14 ?_
  try simp only [Act.put, gA, gB, gC, List.setIfInBounds_toArray, gE, gF]
  have ED : Ext W6 W6.drew := (Ext.refl W6).god
  have zD := ED.size
  clear hHeld
  generalize W6.drew = D at *
  have u0 : D.cell? ⟨g, 6, none⟩ = some (.slice m.Ap m.np m.cp) := cellsAt ((ED.block g gWW).trans HC) 6
  have u1 : (D.alloc (.cells #[.string s1, .int .i64 (atR (m.dvs.map Dv.nm) s2 (freshE m s1 (failE (failE (failE (failE (e) (numR s3)) (numR s4)) (numR s5)) (numR s6)))).1, .int .i64 ((numR s3).getD 0), .int .i64 ((numR s4).getD 0), .int .i64 ((numR s5).getD 0), .int .i64 ((numR s6).getD 0)] 35)).cell? ⟨g, 6, none⟩ = some (.slice m.Ap m.np m.cp) := cellsAt (((ED.goA (.cells #[.string s1, .int .i64 (atR (m.dvs.map Dv.nm) s2 (freshE m s1 (failE (failE (failE (failE (e) (numR s3)) (numR s4)) (numR s5)) (numR s6)))).1, .int .i64 ((numR s3).getD 0), .int .i64 ((numR s4).getD 0), .int .i64 ((numR s5).getD 0), .int .i64 ((numR s6).getD 0)] 35)).block g gWW).trans HC) 6
  have EX : Ext W6 (D.alloc (.cells #[.string s1, .int .i64 (atR (m.dvs.map Dv.nm) s2 (freshE m s1 (failE (failE (failE (failE (e) (numR s3)) (numR s4)) (numR s5)) (numR s6)))).1, .int .i64 ((numR s3).getD 0), .int .i64 ((numR s4).getD 0), .int .i64 ((numR s5).getD 0), .int .i64 ((numR s6).getD 0)] 35)) := ED.goA _
  have NX : (D.alloc (.cells #[.string s1, .int .i64 (atR (m.dvs.map Dv.nm) s2 (freshE m s1 (failE (failE (failE (failE (e) (numR s3)) (numR s4)) (numR s5)) (numR s6)))).1, .int .i64 ((numR s3).getD 0), .int .i64 ((numR s4).getD 0), .int .i64 ((numR s5).getD 0), .int .i64 ((numR s6).getD 0)] 35)).heap[D.heap.size]? = some (.cells #[.string s1, .int .i64 (atR (m.dvs.map Dv.nm) s2 (freshE m s1 (failE (failE (failE (failE (e) (numR s3)) (numR s4)) (numR s5)) (numR s6)))).1, .int .i64 ((numR s3).getD 0), .int .i64 ((numR s4).getD 0), .int .i64 ((numR s5).getD 0), .int .i64 ((numR s6).getD 0)] 35 (0, 0)) := heap_alloc_new D _
  refine wpAnyH_ready (rs := [5, 15]) (by kernel_rfl) (by simp) ?_
  refine AllReadyH.cons rfl (fun Kz hKz => ?_) (AllReadyH.cons rfl (fun Kz hKz => ?_) (AllReadyH.nil))
  · go_simp
    refine hKz.out _ _ ?_ (fun hHeld => ?_)
    · exact M9
    clear hKz Kz
    try simp only [Act.put, gA, gB, gC, List.setIfInBounds_toArray, gE, gF]
    refine wpAnyH_ready (rs := [15]) (by kernel_rfl) (by simp) ?_
    refine AllReadyH.cons rfl (fun Kz hKz => ?_) ?_
    rotate_left
    · exact AllReadyH.nil
    go_simp
    refine hKz.out _ _ ?_ (fun hHeld => ?_)
    · exact M9.alloc _
    clear hKz Kz
    try simp only [Act.put, gA, gB, gC, List.setIfInBounds_toArray, gE, gF]
    have HX := H6.out.ext EX
    have MX := EX.mod (fun b => g ≤ b)
    have zX := EX.size
    clear hHeld u0 u1
    generalize D.alloc (.cells #[.string s1, .int .i64 (atR (m.dvs.map Dv.nm) s2 (freshE m s1 (failE (failE (failE (failE (e) (numR s3)) (numR s4)) (numR s5)) (numR s6)))).1, .int .i64 ((numR s3).getD 0), .int .i64 ((numR s4).getD 0), .int .i64 ((numR s5).getD 0), .int .i64 ((numR s6).getD 0)] 35) = X at *
    refine wpAnyH_ready (rs := [16]) (by kernel_rfl) (by simp) ?_
    refine AllReadyH.cons rfl (fun Kz hKz => ?_) ?_
    rotate_left
    · exact AllReadyH.nil
    refine step_app8 rfl (.tmp 98) (.tmp 108) _ rfl Tryz.underlying23 info_pt8 rfl (by decide) HX.pt rfl (new := [.string s1, .int .i64 (atR (m.dvs.map Dv.nm) s2 (freshE m s1 (failE (failE (failE (failE (e) (numR s3)) (numR s4)) (numR s5)) (numR s6)))).1, .int .i64 ((numR s3).getD 0), .int .i64 ((numR s4).getD 0), .int .i64 ((numR s5).getD 0), .int .i64 ((numR s6).getD 0)]) rfl NX rfl (by intro u hu; simp at hu; rcases hu with rfl | rfl | rfl | rfl | rfl | rfl <;> rfl) (by omega) (by unfold maxLen; omega) (by omega) ?_
    intro v2 w2 own2 hg2 hat2
    obtain ⟨A2, c2, rfl⟩ := own_shape8 own2
    have B2 := (hg2.block g HX.hd.lt (fun e => by have := (own_isR HX.pt e.symm).1; omega)).trans HX.hd
    have hHeld : Mod (fun b => g ≤ b) W6 w2 := MX.grown hg2 (fun i hi => .inl (by have := (own_isR HX.pt hi).1; omega))
    have MH := hHeld
    have g2 := lt_of_block B2
    have z9 := frozenIn B2 6
    have u9 : w2.cell? ⟨g, 6, none⟩ = some (.slice m.Ap m.np m.cp) := cellsAt B2 6
    try dsimp only
    refine hKz.out _ _ ?_ (fun hHeld => ?_)
    · first | assumption | (dsimp only; assumption)
    clear hKz Kz
    try simp only [Act.put, gA, gB, gC, List.setIfInBounds_toArray, gE, gF]
    refine tk 17 ?_
    try simp only [Act.put, gA, gB, gC, List.setIfInBounds_toArray, gE, gF]
    refine tk 18 ?_
    try simp only [Act.put, gA, gB, gC, List.setIfInBounds_toArray, gE, gF]
    refine tk 19 ?_
    try simp only [Act.put, gA, gB, gC, List.setIfInBounds_toArray, gE, gF]
    refine wpAnyH_ready (rs := [20]) (by kernel_rfl) (by simp) ?_
    refine AllReadyH.cons rfl (fun Kz hKz => ?_) ?_
    rotate_left
    · exact AllReadyH.nil
    go_simp
    refine hKz.out _ _ ?_ (fun hHeld => ?_)
    · exact MH.setCell (p := ⟨g, 6, none⟩) (.inl (Nat.le_refl _)) _
    clear hKz Kz
    try simp only [Act.put, gA, gB, gC, List.setIfInBounds_toArray, gE, gF]
    refine wpAnyH_done (by kernel_rfl) ?_ _
    have FF := Lib.hid (HX.addPt (d := ⟨s1, (atR (m.dvs.map Dv.nm) s2 (freshE m s1 (failE (failE (failE (failE (e) (numR s3)) (numR s4)) (numR s5)) (numR s6)))).1, (numR s3).getD 0, (numR s4).getD 0, (numR s5).getD 0, (numR s6).getD 0⟩) ez1 own2 hg2)
    clear hHeld MH own2 hg2 hat2 B2 y1 z9 u9 NX HC
    go_wp2_with fail
    refine bodyPost_ret (results_none rfl _ _ _) rfl ?_
    unfold ptR
    simp only [freshE_bare]
    skip
    exact ⟨rfl, _, FF.out.1, rfl, M6.trans (MX.trans FF.out.2), by dsimp only; omega, by dsimp only; omega, by dsimp only; omega, by dsimp only; omega⟩
  · go_simp
    refine hKz.out _ _ ?_ (fun hHeld => ?_)
    · exact M9.alloc _
    clear hKz Kz
    try simp only [Act.put, gA, gB, gC, List.setIfInBounds_toArray, gE, gF]
    refine wpAnyH_ready (rs := [5]) (by kernel_rfl) (by simp) ?_
    refine AllReadyH.cons rfl (fun Kz hKz => ?_) ?_
    rotate_left
    · exact AllReadyH.nil
    go_simp
    refine hKz.out _ _ ?_ (fun hHeld => ?_)
    · exact M9.alloc _
    clear hKz Kz
    try simp only [Act.put, gA, gB, gC, List.setIfInBounds_toArray, gE, gF]
    have HX := H6.out.ext EX
    have MX := EX.mod (fun b => g ≤ b)
    have zX := EX.size
    clear hHeld u0 u1
    generalize D.alloc (.cells #[.string s1, .int .i64 (atR (m.dvs.map Dv.nm) s2 (freshE m s1 (failE (failE (failE (failE (e) (numR s3)) (numR s4)) (numR s5)) (numR s6)))).1, .int .i64 ((numR s3).getD 0), .int .i64 ((numR s4).getD 0), .int .i64 ((numR s5).getD 0), .int .i64 ((numR s6).getD 0)] 35) = X at *
    refine wpAnyH_ready (rs := [16]) (by kernel_rfl) (by simp) ?_
    refine AllReadyH.cons rfl (fun Kz hKz => ?_) ?_
    rotate_left
    · exact AllReadyH.nil
    refine step_app8 rfl (.tmp 98) (.tmp 108) _ rfl Tryz.underlying23 info_pt8 rfl (by decide) HX.pt rfl (new := [.string s1, .int .i64 (atR (m.dvs.map Dv.nm) s2 (freshE m s1 (failE (failE (failE (failE (e) (numR s3)) (numR s4)) (numR s5)) (numR s6)))).1, .int .i64 ((numR s3).getD 0), .int .i64 ((numR s4).getD 0), .int .i64 ((numR s5).getD 0), .int .i64 ((numR s6).getD 0)]) rfl NX rfl (by intro u hu; simp at hu; rcases hu with rfl | rfl | rfl | rfl | rfl | rfl <;> rfl) (by omega) (by unfold maxLen; omega) (by omega) ?_
    intro v2 w2 own2 hg2 hat2
    obtain ⟨A2, c2, rfl⟩ := own_shape8 own2
    have B2 := (hg2.block g HX.hd.lt (fun e => by have := (own_isR HX.pt e.symm).1; omega)).trans HX.hd
    have hHeld : Mod (fun b => g ≤ b) W6 w2 := MX.grown hg2 (fun i hi => .inl (by have := (own_isR HX.pt hi).1; omega))
    have MH := hHeld
    have g2 := lt_of_block B2
    have z9 := frozenIn B2 6
    have u9 : w2.cell? ⟨g, 6, none⟩ = some (.slice m.Ap m.np m.cp) := cellsAt B2 6
    try dsimp only
    refine hKz.out _ _ ?_ (fun hHeld => ?_)
    · first | assumption | (dsimp only; assumption)
    clear hKz Kz
    try simp only [Act.put, gA, gB, gC, List.setIfInBounds_toArray, gE, gF]
    refine tk 17 ?_
    try simp only [Act.put, gA, gB, gC, List.setIfInBounds_toArray, gE, gF]
    refine tk 18 ?_
    try simp only [Act.put, gA, gB, gC, List.setIfInBounds_toArray, gE, gF]
    refine tk 19 ?_
    try simp only [Act.put, gA, gB, gC, List.setIfInBounds_toArray, gE, gF]
    refine wpAnyH_ready (rs := [20]) (by kernel_rfl) (by simp) ?_
    refine AllReadyH.cons rfl (fun Kz hKz => ?_) ?_
    rotate_left
    · exact AllReadyH.nil
    go_simp
    refine hKz.out _ _ ?_ (fun hHeld => ?_)
    · exact MH.setCell (p := ⟨g, 6, none⟩) (.inl (Nat.le_refl _)) _
    clear hKz Kz
    try simp only [Act.put, gA, gB, gC, List.setIfInBounds_toArray, gE, gF]
    refine wpAnyH_done (by kernel_rfl) ?_ _
    have FF := Lib.hid (HX.addPt (d := ⟨s1, (atR (m.dvs.map Dv.nm) s2 (freshE m s1 (failE (failE (failE (failE (e) (numR s3)) (numR s4)) (numR s5)) (numR s6)))).1, (numR s3).getD 0, (numR s4).getD 0, (numR s5).getD 0, (numR s6).getD 0⟩) ez1 own2 hg2)
    clear hHeld MH own2 hg2 hat2 B2 y1 z9 u9 NX HC
    go_wp2_with fail
    refine bodyPost_ret (results_none rfl _ _ _) rfl ?_
    unfold ptR
    simp only [freshE_bare]
    skip
    exact ⟨rfl, _, FF.out.1, rfl, M6.trans (MX.trans FF.out.2), by dsimp only; omega, by dsimp only; omega, by dsimp only; omega, by dsimp only; omega⟩
set_option maxRecDepth 100000 in
set_option maxHeartbeats 12800000 in
theorem rThingCause_any (g : Nat) (m : Mx) (wt ky : Bool) (e : Int) (A : Option Addr) (n c : Nat) (ws : List ByteArray) (w : World) (h : HasPs w g m wt ky e) (hw : Wds w g A n ws) (hnc : n ≤ c ∧ c ≤ maxLen) (hn : 6 ≤ n ∧ n ≤ 100) (hs : m.nd ≤ 9000 ∧ m.np ≤ 9000 ∧ m.nc ≤ 9000 ∧ m.ne ≤ 9000) (hk0 : ∀ s, ws[0]? = some s → (s.toList == ([99, 97, 117, 115, 101] : List UInt8)) = true) :
    Calls Tryz.prog 110 #[.pointer (some ⟨g, 0, none⟩), .slice A n c] w (ThingPost g m wt ky (caR m.bareR e (ws.getD 1 ByteArray.empty) (ws.getD 2 ByteArray.empty) (ws.getD 3 ByteArray.empty) (ws.getD 4 ByteArray.empty) (ws.drop 5)) w) := by
  obtain ⟨b1, o1, rfl, hb1, hbg, hat⟩ := hw.at_ (by omega)
  obtain ⟨s0, es0, ez0, x0⟩ := hat 0 (by omega)
  obtain ⟨s1, es1, ez1, x1⟩ := hat 1 (by omega)
  obtain ⟨s2, es2, ez2, x2⟩ := hat 2 (by omega)
  obtain ⟨s3, es3, ez3, x3⟩ := hat 3 (by omega)
  obtain ⟨s4, es4, ez4, x4⟩ := hat 4 (by omega)
  have x00 : ∀ w', Mod (fun b => g ≤ b) w w' → w'.cell? ⟨b1, o1, none⟩ = some (.string s0) := fun w' hh => x0 w' hh
  clear x0
  have q0 := hk0 s0 es0
  have n0 : (s0.toList == ([100, 101, 118, 105, 99, 101] : List UInt8)) = false := by rw [eq_of_beq q0]; decide
  have n1 : (s0.toList == ([112, 111, 105, 110, 116] : List UInt8)) = false := by rw [eq_of_beq q0]; decide
  have hgd : caR m.bareR e (ws.getD 1 ByteArray.empty) (ws.getD 2 ByteArray.empty) (ws.getD 3 ByteArray.empty) (ws.getD 4 ByteArray.empty) (ws.drop 5) = caR m.bareR e s1 s2 s3 s4 (ws.drop 5) := by
    simp only [List.getD_eq_getElem?_getD, es1, es2, es3, es4, Option.getD_some]
  rw [hgd]
  clear hgd hat hk0 es0 es1 es2 es3 es4
  have hgw := h.hd.lt
  have e9 : (0 : Int) < (n : Int) := by omega
  have v1 : (1 : Int) < (n : Int) := by omega
  have v2 : (2 : Int) < (n : Int) := by omega
  have v3 : (3 : Int) < (n : Int) := by omega
  have v4 : (4 : Int) < (n : Int) := by omega
  have hw' := Lib.hid hw
  have H0 := Lib.hid h
  have M0 : Mod (fun b => g ≤ b) w w := Mod.refl _ w
  clear h hw
  go_enter Tryz.func110, Tryz.ntmps110
  go_upto_region 19 with (first
    | (go_at_call 128; refine (rFresh_any g m wt ky ((lampR s3 (failE (failE (e) (numR s2)) (numR s4))).2) s1 _ H3.out (by omega)).mono ?_; rintro en W4 ⟨rfl, p4, d4⟩; have M4 : Mod (fun b => g ≤ b) w W4 := M3.step d4 (fun i hi => .inl (Nat.le_of_eq hi.symm)); have H4 := Lib.hid (H3.out.modG d4 p4); have z4 := d4.size)
    | (go_at_call 131; refine (rLamp_any g m wt ky (failE (failE (e) (numR s2)) (numR s4)) s3 _ H2.out.hd).mono ?_; rintro en W3 ⟨rfl, p3, d3⟩; have M3 : Mod (fun b => g ≤ b) w W3 := M2.step d3 (fun i hi => .inl (Nat.le_of_eq hi.symm)); have H3 := Lib.hid (H2.out.modG d3 p3); have z3 := d3.size)
    | (go_at_call 109; refine (rNum_any g m wt ky (failE (e) (numR s2)) s4 _ H1.out.hd ez4).mono ?_; rintro en W2 ⟨rfl, p2, d2⟩; have M2 : Mod (fun b => g ≤ b) w W2 := M1.step d2 (fun i hi => .inl (Nat.le_of_eq hi.symm)); have H2 := Lib.hid (H1.out.modG d2 p2); have z2 := d2.size)
    | (go_at_call 109; refine (rNum_any g m wt ky (e) s2 _ H0.out.hd ez2).mono ?_; rintro en W1 ⟨rfl, p1, d1⟩; have M1 : Mod (fun b => g ≤ b) w W1 := M0.step d1 (fun i hi => .inl (Nat.le_of_eq hi.symm)); have H1 := Lib.hid (H0.out.modG d1 p1); have z1 := d1.size))
  have gW4 := H4.out.hd.lt
  have k0 : ∀ w', PsS W4 g m wt ky w' → w'.cell? ⟨g, 0, none⟩ = some (.int .i64 m.rt) := fun w' hh => hh.cell 0 (by decide)
  have k1 : ∀ w', PsS W4 g m wt ky w' → w'.cell? ⟨g, 1, none⟩ = some (.int .i64 m.wt) := fun w' hh => hh.cell 1 (by decide)
  have k2 : ∀ w', PsS W4 g m wt ky w' → w'.cell? ⟨g, 2, none⟩ = some (.int .i64 m.bk) := fun w' hh => hh.cell 2 (by decide)
  have k3 : ∀ w', PsS W4 g m wt ky w' → w'.cell? ⟨g, 3, none⟩ = some (.int .i64 m.cy) := fun w' hh => hh.cell 3 (by decide)
  have k4 : ∀ w', PsS W4 g m wt ky w' → w'.cell? ⟨g, 4, none⟩ = some (.string m.key) := fun w' hh => hh.cell 4 (by decide)
  have k5 : ∀ w', PsS W4 g m wt ky w' → w'.cell? ⟨g, 5, none⟩ = some (.slice m.Ad m.nd m.cd) := fun w' hh => hh.cell 5 (by decide)
  have k6 : ∀ w', PsS W4 g m wt ky w' → w'.cell? ⟨g, 6, none⟩ = some (.slice m.Ap m.np m.cp) := fun w' hh => hh.cell 6 (by decide)
  have k7 : ∀ w', PsS W4 g m wt ky w' → w'.cell? ⟨g, 7, none⟩ = some (.slice m.Ac m.nc m.cc) := fun w' hh => hh.cell 7 (by decide)
  have k8 : ∀ w', PsS W4 g m wt ky w' → w'.cell? ⟨g, 8, none⟩ = some (.slice m.Ae m.ne m.ce) := fun w' hh => hh.cell 8 (by decide)
  have RW4 := Lib.hid (((hw'.out.drop 5).mod M4 (fun _ b o e => by cases e; omega)).ext (Ext.refl W4).god)
  have v5 : (5 : Int) ≤ (n : Int) := by omega
  have v6 : (n : Int) ≤ (c : Int) := by omega
  have v7 : ¬ c = 5 := by omega
  refine wp_region_held_drew (S := fun w' => PsS W4 g m wt ky w') (by kernel_rfl) ⟨⟨_, H4.out.hd.ext (Ext.refl W4).god⟩, ((Ext.refl W4).god).mod _⟩ (fun hHeld => ?_)
  refine tk 0 ?_
  try simp only [Act.put, gA, gC, List.setIfInBounds_toArray, gE, gF]
  refine tk 1 ?_
  try simp only [Act.put, gA, gB, gC, List.setIfInBounds_toArray, gE, gF]
  refine tk 2 ?_
  try simp only [Act.put, gA, gB, gC, List.setIfInBounds_toArray, gE, gF]
  refine tk 3 ?_
  try simp only [Act.put, gA, gB, gC, List.setIfInBounds_toArray, gE, gF]
  refine tk 4 ?_
  try simp only [Act.put, gA, gB, gC, List.setIfInBounds_toArray, gE, gF]
  refine tk 6 ?_
  try simp only [Act.put, gA, gB, gC, List.setIfInBounds_toArray, gE, gF]
  refine tk 7 ?_
  try simp only [Act.put, gA, gB, gC, List.setIfInBounds_toArray, gE, gF]
  refine wpAnyH_ready (rs := [5]) (by kernel_rfl) (by simp) ?_
  refine AllReadyH.cons rfl (fun Kz hKz => ?_) ?_
  rotate_left
  · exact AllReadyH.nil
  go_simp
  go_at_call 133
  refine (rPointNames_any m _ (H4.out.ext (Ext.refl W4).god).ok (by omega)).mono ?_
  rintro en V4 ⟨A1, n1, c1, rfl, r1, r2, r3, r4, X1⟩
  have XX : Ext W4 V4 := ((Ext.refl W4).god).go X1
  have hHeld : PsS W4 g m wt ky V4 := ⟨⟨_, H4.out.hd.ext XX⟩, XX.mod _⟩
  have zz : W4.heap.size ≤ V4.heap.size := XX.size
  try dsimp only
  refine hKz.out _ _ ?_ (fun hHeld => ?_)
  · first | assumption | (dsimp only; assumption)
  clear hKz Kz
  try simp only [Act.put, gA, gB, gC, List.setIfInBounds_toArray, gE, gF]
  refine wpAnyH_ready (rs := [8]) (by kernel_rfl) (by simp) ?_
  refine AllReadyH.cons rfl (fun Kz hKz => ?_) ?_
  rotate_left
  · exact AllReadyH.nil
  go_simp
  go_at_call 132
  refine (rPlaces_any g m wt ky (freshE m s1 ((lampR s3 (failE (failE (e) (numR s2)) (numR s4))).2)) _ _ _ (m.pts.map Pt.nm) _ _ _ (ws.drop 5) _ (H4.out.hd.ext XX) r3 (Nat.le_trans r1 r2) (RW4.out.ext X1) (by omega) (fun _ b o e => by have := r4 b o e; simp at this; omega) (fun _ b o e => by cases e; omega)).mono ?_
  rintro en W5 ⟨pv, rfl, po, p5, d5⟩
  have hHeld : PsS W4 g m wt ky W5 := ⟨⟨_, p5⟩, (XX.mod _).trans (d5.weak fun b hb => Nat.le_of_eq hb.symm)⟩
  try dsimp only
  refine hKz.out _ _ ?_ (fun hHeld => ?_)
  · first | assumption | (dsimp only; assumption)
  clear hKz Kz
  try simp only [Act.put, gA, gB, gC, List.setIfInBounds_toArray, gE, gF]
  refine tk 9 ?_
  try simp only [Act.put, gA, gB, gC, List.setIfInBounds_toArray, gE, gF]
  refine wpAnyH_done (by kernel_rfl) ?_ _
  have H5 := Lib.hid ((H4.out.ext XX).modG d5 p5)
  have M5 : Mod (fun b => g ≤ b) w W5 := M4.step hHeld.2 (fun i hi => .inl hi)
  have z5 := hHeld.2.size
  obtain ⟨PA, pc, rfl⟩ := own_shape8 po
  have po' := Lib.hid po
  clear po
  have hIn : Hid (Inn W5 g PA (placesR (m.pts.map Pt.nm) (ws.drop 5) (freshE m s1 ((lampR s3 (failE (failE (e) (numR s2)) (numR s4))).2))).1.length pc (placesR (m.pts.map Pt.nm) (ws.drop 5) (freshE m s1 ((lampR s3 (failE (failE (e) (numR s2)) (numR s4))).2))).1) := Lib.hid (by
    obtain ⟨A9, c9, e9', h91, h92⟩ := own_rd po'.out
    cases e9'
    exact ⟨h92, (own_atR po'.out).1, fun b o e => by
      have h1 := (own_atR po'.out).2 b o e
      subst e
      have ho : o = 0 := by rcases po'.out.2 with ⟨hv, -⟩ | ⟨gg, cap, cur, hv, -⟩ <;> cases hv; rfl
      subst ho
      obtain ⟨-, cs, h2⟩ := own_isR po'.out (b := b) rfl
      exact ⟨by have := XX.size; omega, cs, h2⟩⟩)
  clear hHeld XX X1 r3 r4 RW4 k0 k1 k2 k3 k4 k5 k6 k7 k8
  go_upto_region 20 with fail
  have gWW := H5.out.hd.lt
  have bWW : b1 < W5.heap.size := Nat.lt_of_lt_of_le hb1 M5.size
  have y1 : ∀ w', Mod (fun b => g ≤ b) W5 w' → w'.cell? ⟨b1, o1 + 1, none⟩ = some (.string s1) := fun w' hh => x1 w' (M5.step hh (fun i hi => .inl hi))
  have M9 : Mod (fun b => g ≤ b) W5 W5.drew := (Mod.refl _ W5).drew
  have HC := H5.out.hd
  refine wp_region_held_drew (S := fun w' => Mod (fun b => g ≤ b) W5 w') (by kernel_rfl) (Mod.refl _ W5).drew (fun hHeld => ?_)
  refine tk 0 ?_
  try simp only [Act.put, gA, gC, List.setIfInBounds_toArray, gE, gF]
  refine tk 1 ?_
  try simp only [Act.put, gA, gB, gC, List.setIfInBounds_toArray, gE, gF]
  refine tk 2 ?_
  try simp only [Act.put, gA, gB, gC, List.setIfInBounds_toArray, gE, gF]
  refine tk 3 ?_
  try simp only [Act.put, gA, gB, gC, List.setIfInBounds_toArray, gE, gF]
  refine tk 4 ?_
  try simp only [Act.put, gA, gB, gC, List.setIfInBounds_toArray, gE, gF]
  refine tk 6 ?_
  try simp only [Act.put, gA, gB, gC, List.setIfInBounds_toArray, gE, gF]
  refine tk 7 ?_
  try simp only [Act.put, gA, gB, gC, List.setIfInBounds_toArray, gE, gF]
  refine tk 8 ?_
  try simp only [Act.put, gA, gB, gC, List.setIfInBounds_toArray, gE, gF]
  refine tk 9 ?_
  try simp only [Act.put, gA, gB, gC, List.setIfInBounds_toArray, gE, gF]
  refine tk 10 ?_
  try simp only [Act.put, gA, gB, gC, List.setIfInBounds_toArray, gE, gF]
  refine tk 11 ?_
  try simp only [Act.put, gA, gB, gC, List.setIfInBounds_toArray, gE, gF]
  refine tk 12 ?_
  try simp only [Act.put, gA, gB, gC, List.setIfInBounds_toArray, gE, gF]
  refine tk 13 ?_
  try simp only [Act.put, gA, gB, gC, List.setIfInBounds_toArray, gE, gF]
  have ED : Ext W5 W5.drew := (Ext.refl W5).god
  have zD := ED.size
  clear hHeld
  generalize W5.drew = D at *
  have u0 : D.cell? ⟨g, 7, none⟩ = some (.slice m.Ac m.nc m.cc) := cellsAt ((ED.block g gWW).trans HC) 7
  have u1 : (D.alloc (.cells #[.string s1, .int .i64 ((numR s2).getD 0), .int .i64 (lampR s3 (failE (failE (e) (numR s2)) (numR s4))).1, .int .i64 ((numR s4).getD 0), .slice PA (placesR (m.pts.map Pt.nm) (ws.drop 5) (freshE m s1 ((lampR s3 (failE (failE (e) (numR s2)) (numR s4))).2))).1.length pc] 87)).cell? ⟨g, 7, none⟩ = some (.slice m.Ac m.nc m.cc) := cellsAt (((ED.goA (.cells #[.string s1, .int .i64 ((numR s2).getD 0), .int .i64 (lampR s3 (failE (failE (e) (numR s2)) (numR s4))).1, .int .i64 ((numR s4).getD 0), .slice PA (placesR (m.pts.map Pt.nm) (ws.drop 5) (freshE m s1 ((lampR s3 (failE (failE (e) (numR s2)) (numR s4))).2))).1.length pc] 87)).block g gWW).trans HC) 7
  have EX : Ext W5 (D.alloc (.cells #[.string s1, .int .i64 ((numR s2).getD 0), .int .i64 (lampR s3 (failE (failE (e) (numR s2)) (numR s4))).1, .int .i64 ((numR s4).getD 0), .slice PA (placesR (m.pts.map Pt.nm) (ws.drop 5) (freshE m s1 ((lampR s3 (failE (failE (e) (numR s2)) (numR s4))).2))).1.length pc] 87)) := ED.goA _
  have NX : (D.alloc (.cells #[.string s1, .int .i64 ((numR s2).getD 0), .int .i64 (lampR s3 (failE (failE (e) (numR s2)) (numR s4))).1, .int .i64 ((numR s4).getD 0), .slice PA (placesR (m.pts.map Pt.nm) (ws.drop 5) (freshE m s1 ((lampR s3 (failE (failE (e) (numR s2)) (numR s4))).2))).1.length pc] 87)).heap[D.heap.size]? = some (.cells #[.string s1, .int .i64 ((numR s2).getD 0), .int .i64 (lampR s3 (failE (failE (e) (numR s2)) (numR s4))).1, .int .i64 ((numR s4).getD 0), .slice PA (placesR (m.pts.map Pt.nm) (ws.drop 5) (freshE m s1 ((lampR s3 (failE (failE (e) (numR s2)) (numR s4))).2))).1.length pc] 87 (0, 0)) := heap_alloc_new D _
  refine wpAnyH_ready (rs := [5, 14]) (by kernel_rfl) (by simp) ?_
  refine AllReadyH.cons rfl (fun Kz hKz => ?_) (AllReadyH.cons rfl (fun Kz hKz => ?_) (AllReadyH.nil))
  · go_simp
    refine hKz.out _ _ ?_ (fun hHeld => ?_)
    · exact M9
    clear hKz Kz
    try simp only [Act.put, gA, gB, gC, List.setIfInBounds_toArray, gE, gF]
    refine wpAnyH_ready (rs := [14]) (by kernel_rfl) (by simp) ?_
    refine AllReadyH.cons rfl (fun Kz hKz => ?_) ?_
    rotate_left
    · exact AllReadyH.nil
    go_simp
    refine hKz.out _ _ ?_ (fun hHeld => ?_)
    · exact M9.alloc _
    clear hKz Kz
    try simp only [Act.put, gA, gB, gC, List.setIfInBounds_toArray, gE, gF]
    have HX := H5.out.ext EX
    have MX := EX.mod (fun b => g ≤ b)
    have zX := EX.size
    clear hHeld u0 u1
    generalize D.alloc (.cells #[.string s1, .int .i64 ((numR s2).getD 0), .int .i64 (lampR s3 (failE (failE (e) (numR s2)) (numR s4))).1, .int .i64 ((numR s4).getD 0), .slice PA (placesR (m.pts.map Pt.nm) (ws.drop 5) (freshE m s1 ((lampR s3 (failE (failE (e) (numR s2)) (numR s4))).2))).1.length pc] 87) = X at *
    refine wpAnyH_ready (rs := [15]) (by kernel_rfl) (by simp) ?_
    refine AllReadyH.cons rfl (fun Kz hKz => ?_) ?_
    rotate_left
    · exact AllReadyH.nil
    refine step_app8 rfl (.tmp 149) (.tmp 158) _ rfl Tryz.underlying24 info_ca8 rfl (by decide) HX.ca rfl (new := [.string s1, .int .i64 ((numR s2).getD 0), .int .i64 (lampR s3 (failE (failE (e) (numR s2)) (numR s4))).1, .int .i64 ((numR s4).getD 0), .slice PA (placesR (m.pts.map Pt.nm) (ws.drop 5) (freshE m s1 ((lampR s3 (failE (failE (e) (numR s2)) (numR s4))).2))).1.length pc]) rfl NX rfl (by intro u hu; simp at hu; rcases hu with rfl | rfl | rfl | rfl | rfl <;> rfl) (by omega) (by unfold maxLen; omega) (by omega) ?_
    intro v2 w2 own2 hg2 hat2
    obtain ⟨A2, c2, rfl⟩ := own_shape8 own2
    have B2 := (hg2.block g HX.hd.lt (fun e => by have := (own_isR HX.ca e.symm).1; omega)).trans HX.hd
    have hHeld : Mod (fun b => g ≤ b) W5 w2 := MX.grown hg2 (fun i hi => .inl (by have := (own_isR HX.ca hi).1; omega))
    have MH := hHeld
    have g2 := lt_of_block B2
    have z9 := frozenIn B2 7
    have u9 : w2.cell? ⟨g, 7, none⟩ = some (.slice m.Ac m.nc m.cc) := cellsAt B2 7
    try dsimp only
    refine hKz.out _ _ ?_ (fun hHeld => ?_)
    · first | assumption | (dsimp only; assumption)
    clear hKz Kz
    try simp only [Act.put, gA, gB, gC, List.setIfInBounds_toArray, gE, gF]
    refine tk 16 ?_
    try simp only [Act.put, gA, gB, gC, List.setIfInBounds_toArray, gE, gF]
    refine tk 17 ?_
    try simp only [Act.put, gA, gB, gC, List.setIfInBounds_toArray, gE, gF]
    refine tk 18 ?_
    try simp only [Act.put, gA, gB, gC, List.setIfInBounds_toArray, gE, gF]
    refine wpAnyH_ready (rs := [19]) (by kernel_rfl) (by simp) ?_
    refine AllReadyH.cons rfl (fun Kz hKz => ?_) ?_
    rotate_left
    · exact AllReadyH.nil
    go_simp
    refine hKz.out _ _ ?_ (fun hHeld => ?_)
    · exact MH.setCell (p := ⟨g, 7, none⟩) (.inl (Nat.le_refl _)) _
    clear hKz Kz
    try simp only [Act.put, gA, gB, gC, List.setIfInBounds_toArray, gE, gF]
    refine wpAnyH_done (by kernel_rfl) ?_ _
    have FF := Lib.hid (HX.addCa (d := ⟨s1, (numR s2).getD 0, (lampR s3 (failE (failE (e) (numR s2)) (numR s4))).1, (numR s4).getD 0, PA, (placesR (m.pts.map Pt.nm) (ws.drop 5) (freshE m s1 ((lampR s3 (failE (failE (e) (numR s2)) (numR s4))).2))).1.length, pc, (placesR (m.pts.map Pt.nm) (ws.drop 5) (freshE m s1 ((lampR s3 (failE (failE (e) (numR s2)) (numR s4))).2))).1⟩) ez1 (hIn.out.keep zX (fun b cs _ h2 => EX.block b (lt_of_block h2))) own2 hg2)
    clear hHeld MH own2 hg2 hat2 B2 y1 z9 u9 NX HC
    go_wp2_with fail
    refine bodyPost_ret (results_none rfl _ _ _) rfl ?_
    unfold caR
    simp only [freshE_bare]
    skip
    exact ⟨rfl, _, FF.out.1, by unfold Mx.bareR; rw [List.map_append]; rfl, M5.trans (MX.trans FF.out.2), by dsimp only; omega, by dsimp only; omega, by dsimp only; omega, by dsimp only; omega⟩
  · go_simp
    refine hKz.out _ _ ?_ (fun hHeld => ?_)
    · exact M9.alloc _
    clear hKz Kz
    try simp only [Act.put, gA, gB, gC, List.setIfInBounds_toArray, gE, gF]
    refine wpAnyH_ready (rs := [5]) (by kernel_rfl) (by simp) ?_
    refine AllReadyH.cons rfl (fun Kz hKz => ?_) ?_
    rotate_left
    · exact AllReadyH.nil
    go_simp
    refine hKz.out _ _ ?_ (fun hHeld => ?_)
    · exact M9.alloc _
    clear hKz Kz
    try simp only [Act.put, gA, gB, gC, List.setIfInBounds_toArray, gE, gF]
    have HX := H5.out.ext EX
    have MX := EX.mod (fun b => g ≤ b)
    have zX := EX.size
    clear hHeld u0 u1
    generalize D.alloc (.cells #[.string s1, .int .i64 ((numR s2).getD 0), .int .i64 (lampR s3 (failE (failE (e) (numR s2)) (numR s4))).1, .int .i64 ((numR s4).getD 0), .slice PA (placesR (m.pts.map Pt.nm) (ws.drop 5) (freshE m s1 ((lampR s3 (failE (failE (e) (numR s2)) (numR s4))).2))).1.length pc] 87) = X at *
    refine wpAnyH_ready (rs := [15]) (by kernel_rfl) (by simp) ?_
    refine AllReadyH.cons rfl (fun Kz hKz => ?_) ?_
    rotate_left
    · exact AllReadyH.nil
    refine step_app8 rfl (.tmp 149) (.tmp 158) _ rfl Tryz.underlying24 info_ca8 rfl (by decide) HX.ca rfl (new := [.string s1, .int .i64 ((numR s2).getD 0), .int .i64 (lampR s3 (failE (failE (e) (numR s2)) (numR s4))).1, .int .i64 ((numR s4).getD 0), .slice PA (placesR (m.pts.map Pt.nm) (ws.drop 5) (freshE m s1 ((lampR s3 (failE (failE (e) (numR s2)) (numR s4))).2))).1.length pc]) rfl NX rfl (by intro u hu; simp at hu; rcases hu with rfl | rfl | rfl | rfl | rfl <;> rfl) (by omega) (by unfold maxLen; omega) (by omega) ?_
    intro v2 w2 own2 hg2 hat2
    obtain ⟨A2, c2, rfl⟩ := own_shape8 own2
    have B2 := (hg2.block g HX.hd.lt (fun e => by have := (own_isR HX.ca e.symm).1; omega)).trans HX.hd
    have hHeld : Mod (fun b => g ≤ b) W5 w2 := MX.grown hg2 (fun i hi => .inl (by have := (own_isR HX.ca hi).1; omega))
    have MH := hHeld
    have g2 := lt_of_block B2
    have z9 := frozenIn B2 7
    have u9 : w2.cell? ⟨g, 7, none⟩ = some (.slice m.Ac m.nc m.cc) := cellsAt B2 7
    try dsimp only
    refine hKz.out _ _ ?_ (fun hHeld => ?_)
    · first | assumption | (dsimp only; assumption)
    clear hKz Kz
    try simp only [Act.put, gA, gB, gC, List.setIfInBounds_toArray, gE, gF]
    refine tk 16 ?_
    try simp only [Act.put, gA, gB, gC, List.setIfInBounds_toArray, gE, gF]
    refine tk 17 ?_
    try simp only [Act.put, gA, gB, gC, List.setIfInBounds_toArray, gE, gF]
    refine tk 18 ?_
    try simp only [Act.put, gA, gB, gC, List.setIfInBounds_toArray, gE, gF]
    refine wpAnyH_ready (rs := [19]) (by kernel_rfl) (by simp) ?_
    refine AllReadyH.cons rfl (fun Kz hKz => ?_) ?_
    rotate_left
    · exact AllReadyH.nil
    go_simp
    refine hKz.out _ _ ?_ (fun hHeld => ?_)
    · exact MH.setCell (p := ⟨g, 7, none⟩) (.inl (Nat.le_refl _)) _
    clear hKz Kz
    try simp only [Act.put, gA, gB, gC, List.setIfInBounds_toArray, gE, gF]
    refine wpAnyH_done (by kernel_rfl) ?_ _
    have FF := Lib.hid (HX.addCa (d := ⟨s1, (numR s2).getD 0, (lampR s3 (failE (failE (e) (numR s2)) (numR s4))).1, (numR s4).getD 0, PA, (placesR (m.pts.map Pt.nm) (ws.drop 5) (freshE m s1 ((lampR s3 (failE (failE (e) (numR s2)) (numR s4))).2))).1.length, pc, (placesR (m.pts.map Pt.nm) (ws.drop 5) (freshE m s1 ((lampR s3 (failE (failE (e) (numR s2)) (numR s4))).2))).1⟩) ez1 (hIn.out.keep zX (fun b cs _ h2 => EX.block b (lt_of_block h2))) own2 hg2)
    clear hHeld MH own2 hg2 hat2 B2 y1 z9 u9 NX HC
    go_wp2_with fail
    refine bodyPost_ret (results_none rfl _ _ _) rfl ?_
    unfold caR
    simp only [freshE_bare]
    skip
    exact ⟨rfl, _, FF.out.1, by unfold Mx.bareR; rw [List.map_append]; rfl, M5.trans (MX.trans FF.out.2), by dsimp only; omega, by dsimp only; omega, by dsimp only; omega, by dsimp only; omega⟩
set_option maxRecDepth 100000 in
set_option maxHeartbeats 12800000 in
theorem rThingEffect_any (g : Nat) (m : Mx) (wt ky : Bool) (e : Int) (A : Option Addr) (n c : Nat) (ws : List ByteArray) (w : World) (h : HasPs w g m wt ky e) (hw : Wds w g A n ws) (hnc : n ≤ c ∧ c ≤ maxLen) (hn : 6 ≤ n ∧ n ≤ 100) (hs : m.nd ≤ 9000 ∧ m.np ≤ 9000 ∧ m.nc ≤ 9000 ∧ m.ne ≤ 9000) (hk0 : ∀ s, ws[0]? = some s → (s.toList == ([101, 102, 102, 101, 99, 116] : List UInt8)) = true) :
    Calls Tryz.prog 110 #[.pointer (some ⟨g, 0, none⟩), .slice A n c] w (ThingPost g m wt ky (efR m.bareR e (ws.getD 1 ByteArray.empty) (ws.getD 2 ByteArray.empty) (ws.getD 3 ByteArray.empty) (ws.getD 4 ByteArray.empty) (ws.drop 5)) w) := by
  obtain ⟨b1, o1, rfl, hb1, hbg, hat⟩ := hw.at_ (by omega)
  obtain ⟨s0, es0, ez0, x0⟩ := hat 0 (by omega)
  obtain ⟨s1, es1, ez1, x1⟩ := hat 1 (by omega)
  obtain ⟨s2, es2, ez2, x2⟩ := hat 2 (by omega)
  obtain ⟨s3, es3, ez3, x3⟩ := hat 3 (by omega)
  obtain ⟨s4, es4, ez4, x4⟩ := hat 4 (by omega)
  have x00 : ∀ w', Mod (fun b => g ≤ b) w w' → w'.cell? ⟨b1, o1, none⟩ = some (.string s0) := fun w' hh => x0 w' hh
  clear x0
  have q0 := hk0 s0 es0
  have n0 : (s0.toList == ([100, 101, 118, 105, 99, 101] : List UInt8)) = false := by rw [eq_of_beq q0]; decide
  have n1 : (s0.toList == ([112, 111, 105, 110, 116] : List UInt8)) = false := by rw [eq_of_beq q0]; decide
  have n2 : (s0.toList == ([99, 97, 117, 115, 101] : List UInt8)) = false := by rw [eq_of_beq q0]; decide
  have hgd : efR m.bareR e (ws.getD 1 ByteArray.empty) (ws.getD 2 ByteArray.empty) (ws.getD 3 ByteArray.empty) (ws.getD 4 ByteArray.empty) (ws.drop 5) = efR m.bareR e s1 s2 s3 s4 (ws.drop 5) := by
    simp only [List.getD_eq_getElem?_getD, es1, es2, es3, es4, Option.getD_some]
  rw [hgd]
  clear hgd hat hk0 es0 es1 es2 es3 es4
  have hgw := h.hd.lt
  have e9 : (0 : Int) < (n : Int) := by omega
  have v1 : (1 : Int) < (n : Int) := by omega
  have v2 : (2 : Int) < (n : Int) := by omega
  have v3 : (3 : Int) < (n : Int) := by omega
  have v4 : (4 : Int) < (n : Int) := by omega
  have hw' := Lib.hid hw
  have H0 := Lib.hid h
  have M0 : Mod (fun b => g ≤ b) w w := Mod.refl _ w
  clear h hw
  go_enter Tryz.func110, Tryz.ntmps110
  go_upto_region 25 with (first
    | (go_at_call 128; refine (rFresh_any g m wt ky (failE (failE (e) (numR s3)) (numR s4)) s1 _ H2.out (by omega)).mono ?_; rintro en W3 ⟨rfl, p3, d3⟩; have M3 : Mod (fun b => g ≤ b) w W3 := M2.step d3 (fun i hi => .inl (Nat.le_of_eq hi.symm)); have H3 := Lib.hid (H2.out.modG d3 p3); have z3 := d3.size)
    | (go_at_call 109; refine (rNum_any g m wt ky (failE (e) (numR s3)) s4 _ H1.out.hd ez4).mono ?_; rintro en W2 ⟨rfl, p2, d2⟩; have M2 : Mod (fun b => g ≤ b) w W2 := M1.step d2 (fun i hi => .inl (Nat.le_of_eq hi.symm)); have H2 := Lib.hid (H1.out.modG d2 p2); have z2 := d2.size)
    | (go_at_call 109; refine (rNum_any g m wt ky (e) s3 _ H0.out.hd ez3).mono ?_; rintro en W1 ⟨rfl, p1, d1⟩; have M1 : Mod (fun b => g ≤ b) w W1 := M0.step d1 (fun i hi => .inl (Nat.le_of_eq hi.symm)); have H1 := Lib.hid (H0.out.modG d1 p1); have z1 := d1.size))
  have gW3 := H3.out.hd.lt
  have k0 : ∀ w', PsS W3 g m wt ky w' → w'.cell? ⟨g, 0, none⟩ = some (.int .i64 m.rt) := fun w' hh => hh.cell 0 (by decide)
  have k1 : ∀ w', PsS W3 g m wt ky w' → w'.cell? ⟨g, 1, none⟩ = some (.int .i64 m.wt) := fun w' hh => hh.cell 1 (by decide)
  have k2 : ∀ w', PsS W3 g m wt ky w' → w'.cell? ⟨g, 2, none⟩ = some (.int .i64 m.bk) := fun w' hh => hh.cell 2 (by decide)
  have k3 : ∀ w', PsS W3 g m wt ky w' → w'.cell? ⟨g, 3, none⟩ = some (.int .i64 m.cy) := fun w' hh => hh.cell 3 (by decide)
  have k4 : ∀ w', PsS W3 g m wt ky w' → w'.cell? ⟨g, 4, none⟩ = some (.string m.key) := fun w' hh => hh.cell 4 (by decide)
  have k5 : ∀ w', PsS W3 g m wt ky w' → w'.cell? ⟨g, 5, none⟩ = some (.slice m.Ad m.nd m.cd) := fun w' hh => hh.cell 5 (by decide)
  have k6 : ∀ w', PsS W3 g m wt ky w' → w'.cell? ⟨g, 6, none⟩ = some (.slice m.Ap m.np m.cp) := fun w' hh => hh.cell 6 (by decide)
  have k7 : ∀ w', PsS W3 g m wt ky w' → w'.cell? ⟨g, 7, none⟩ = some (.slice m.Ac m.nc m.cc) := fun w' hh => hh.cell 7 (by decide)
  have k8 : ∀ w', PsS W3 g m wt ky w' → w'.cell? ⟨g, 8, none⟩ = some (.slice m.Ae m.ne m.ce) := fun w' hh => hh.cell 8 (by decide)
  have y2 : ∀ w', PsS W3 g m wt ky w' → w'.cell? ⟨b1, o1 + 2, none⟩ = some (.string s2) := fun w' hh => x2 w' (M3.step hh.2 (fun i hi => .inl hi))
  have bW3 : b1 < W3.heap.size := Nat.lt_of_lt_of_le hb1 M3.size
  refine wp_region_held_drew (S := fun w' => PsS W3 g m wt ky w') (by kernel_rfl) ⟨⟨_, H3.out.hd.ext (Ext.refl W3).god⟩, ((Ext.refl W3).god).mod _⟩ (fun hHeld => ?_)
  refine tk 0 ?_
  try simp only [Act.put, gA, gC, List.setIfInBounds_toArray, gE, gF]
  refine tk 1 ?_
  try simp only [Act.put, gA, gB, gC, List.setIfInBounds_toArray, gE, gF]
  refine tk 2 ?_
  try simp only [Act.put, gA, gB, gC, List.setIfInBounds_toArray, gE, gF]
  refine tk 3 ?_
  try simp only [Act.put, gA, gB, gC, List.setIfInBounds_toArray, gE, gF]
  refine tk 4 ?_
  try simp only [Act.put, gA, gB, gC, List.setIfInBounds_toArray, gE, gF]
  refine tk 6 ?_
  try simp only [Act.put, gA, gB, gC, List.setIfInBounds_toArray, gE, gF]
  refine tk 7 ?_
  try simp only [Act.put, gA, gB, gC, List.setIfInBounds_toArray, gE, gF]
  refine tk 8 ?_
  try simp only [Act.put, gA, gB, gC, List.setIfInBounds_toArray, gE, gF]
  refine wpAnyH_ready (rs := [5]) (by kernel_rfl) (by simp) ?_
  refine AllReadyH.cons rfl (fun Kz hKz => ?_) ?_
  rotate_left
  · exact AllReadyH.nil
  go_simp
  go_at_call 130
  refine (rDeviceNames_any m _ (H3.out.ext (Ext.refl W3).god).ok (by omega)).mono ?_
  rintro en V3 ⟨A1, n1, c1, rfl, r1, r2, r3, r4, X1⟩
  have XX : Ext W3 V3 := ((Ext.refl W3).god).go X1
  have hHeld : PsS W3 g m wt ky V3 := ⟨⟨_, H3.out.hd.ext XX⟩, XX.mod _⟩
  try dsimp only
  refine hKz.out _ _ ?_ (fun hHeld => ?_)
  · first | assumption | (dsimp only; assumption)
  clear hKz Kz
  try simp only [Act.put, gA, gB, gC, List.setIfInBounds_toArray, gE, gF]
  refine wpAnyH_ready (rs := [9]) (by kernel_rfl) (by simp) ?_
  refine AllReadyH.cons rfl (fun Kz hKz => ?_) ?_
  rotate_left
  · exact AllReadyH.nil
  go_simp
  go_at_call 129
  refine (rNamed_any g m wt ky (freshE m s1 (failE (failE (e) (numR s3)) (numR s4))) _ _ _ (m.dvs.map Dv.nm) s2 _ (H3.out.hd.ext XX) r3 (Nat.le_trans r1 r2)).mono ?_
  rintro en W4 ⟨rfl, p4, d4⟩
  have hHeld : PsS W3 g m wt ky W4 := ⟨⟨_, p4⟩, (XX.mod _).trans (d4.weak fun b hb => Nat.le_of_eq hb.symm)⟩
  try dsimp only
  refine hKz.out _ _ ?_ (fun hHeld => ?_)
  · first | assumption | (dsimp only; assumption)
  clear hKz Kz
  try simp only [Act.put, gA, gB, gC, List.setIfInBounds_toArray, gE, gF]
  refine tk 10 ?_
  try simp only [Act.put, gA, gB, gC, List.setIfInBounds_toArray, gE, gF]
  refine wpAnyH_done (by kernel_rfl) ?_ _
  have H4 := Lib.hid ((H3.out.ext XX).modG d4 p4)
  have M4 : Mod (fun b => g ≤ b) w W4 := M3.step hHeld.2 (fun i hi => .inl hi)
  have z4 := hHeld.2.size
  clear hHeld XX X1 r3 r4 y2 k0 k1 k2 k3 k4 k5 k6 k7 k8
  go_upto_region 26 with fail
  have gW4 := H4.out.hd.lt
  have k0 : ∀ w', PsS W4 g m wt ky w' → w'.cell? ⟨g, 0, none⟩ = some (.int .i64 m.rt) := fun w' hh => hh.cell 0 (by decide)
  have k1 : ∀ w', PsS W4 g m wt ky w' → w'.cell? ⟨g, 1, none⟩ = some (.int .i64 m.wt) := fun w' hh => hh.cell 1 (by decide)
  have k2 : ∀ w', PsS W4 g m wt ky w' → w'.cell? ⟨g, 2, none⟩ = some (.int .i64 m.bk) := fun w' hh => hh.cell 2 (by decide)
  have k3 : ∀ w', PsS W4 g m wt ky w' → w'.cell? ⟨g, 3, none⟩ = some (.int .i64 m.cy) := fun w' hh => hh.cell 3 (by decide)
  have k4 : ∀ w', PsS W4 g m wt ky w' → w'.cell? ⟨g, 4, none⟩ = some (.string m.key) := fun w' hh => hh.cell 4 (by decide)
  have k5 : ∀ w', PsS W4 g m wt ky w' → w'.cell? ⟨g, 5, none⟩ = some (.slice m.Ad m.nd m.cd) := fun w' hh => hh.cell 5 (by decide)
  have k6 : ∀ w', PsS W4 g m wt ky w' → w'.cell? ⟨g, 6, none⟩ = some (.slice m.Ap m.np m.cp) := fun w' hh => hh.cell 6 (by decide)
  have k7 : ∀ w', PsS W4 g m wt ky w' → w'.cell? ⟨g, 7, none⟩ = some (.slice m.Ac m.nc m.cc) := fun w' hh => hh.cell 7 (by decide)
  have k8 : ∀ w', PsS W4 g m wt ky w' → w'.cell? ⟨g, 8, none⟩ = some (.slice m.Ae m.ne m.ce) := fun w' hh => hh.cell 8 (by decide)
  have RW4 := Lib.hid (((hw'.out.drop 5).mod M4 (fun _ b o e => by cases e; omega)).ext (Ext.refl W4).god)
  have v5 : (5 : Int) ≤ (n : Int) := by omega
  have v6 : (n : Int) ≤ (c : Int) := by omega
  have v7 : ¬ c = 5 := by omega
  refine wp_region_held_drew (S := fun w' => PsS W4 g m wt ky w') (by kernel_rfl) ⟨⟨_, H4.out.hd.ext (Ext.refl W4).god⟩, ((Ext.refl W4).god).mod _⟩ (fun hHeld => ?_)
  refine tk 0 ?_
  try simp only [Act.put, gA, gC, List.setIfInBounds_toArray, gE, gF]
  refine tk 1 ?_
  try simp only [Act.put, gA, gB, gC, List.setIfInBounds_toArray, gE, gF]
  refine tk 2 ?_
  try simp only [Act.put, gA, gB, gC, List.setIfInBounds_toArray, gE, gF]
  refine tk 3 ?_
  try simp only [Act.put, gA, gB, gC, List.setIfInBounds_toArray, gE, gF]
  refine tk 4 ?_
  try simp only [Act.put, gA, gB, gC, List.setIfInBounds_toArray, gE, gF]
  refine tk 6 ?_
  try simp only [Act.put, gA, gB, gC, List.setIfInBounds_toArray, gE, gF]
  refine tk 7 ?_
  try simp only [Act.put, gA, gB, gC, List.setIfInBounds_toArray, gE, gF]
  refine wpAnyH_ready (rs := [5]) (by kernel_rfl) (by simp) ?_
  refine AllReadyH.cons rfl (fun Kz hKz => ?_) ?_
  rotate_left
  · exact AllReadyH.nil
  go_simp
  go_at_call 134
  refine (rCauseNames_any m _ (H4.out.ext (Ext.refl W4).god).ok (by omega)).mono ?_
  rintro en V4 ⟨A1, n1, c1, rfl, r1, r2, r3, r4, X1⟩
  have XX : Ext W4 V4 := ((Ext.refl W4).god).go X1
  have hHeld : PsS W4 g m wt ky V4 := ⟨⟨_, H4.out.hd.ext XX⟩, XX.mod _⟩
  have zz : W4.heap.size ≤ V4.heap.size := XX.size
  try dsimp only
  refine hKz.out _ _ ?_ (fun hHeld => ?_)
  · first | assumption | (dsimp only; assumption)
  clear hKz Kz
  try simp only [Act.put, gA, gB, gC, List.setIfInBounds_toArray, gE, gF]
  refine wpAnyH_ready (rs := [8]) (by kernel_rfl) (by simp) ?_
  refine AllReadyH.cons rfl (fun Kz hKz => ?_) ?_
  rotate_left
  · exact AllReadyH.nil
  go_simp
  go_at_call 132
  refine (rPlaces_any g m wt ky ((atR (m.dvs.map Dv.nm) s2 (freshE m s1 (failE (failE (e) (numR s3)) (numR s4)))).2) _ _ _ (m.cas.map Ca.nm) _ _ _ (ws.drop 5) _ (H4.out.hd.ext XX) r3 (Nat.le_trans r1 r2) (RW4.out.ext X1) (by omega) (fun _ b o e => by have := r4 b o e; simp at this; omega) (fun _ b o e => by cases e; omega)).mono ?_
  rintro en W5 ⟨pv, rfl, po, p5, d5⟩
  have hHeld : PsS W4 g m wt ky W5 := ⟨⟨_, p5⟩, (XX.mod _).trans (d5.weak fun b hb => Nat.le_of_eq hb.symm)⟩
  try dsimp only
  refine hKz.out _ _ ?_ (fun hHeld => ?_)
  · first | assumption | (dsimp only; assumption)
  clear hKz Kz
  try simp only [Act.put, gA, gB, gC, List.setIfInBounds_toArray, gE, gF]
  refine tk 9 ?_
  try simp only [Act.put, gA, gB, gC, List.setIfInBounds_toArray, gE, gF]
  refine wpAnyH_done (by kernel_rfl) ?_ _
  have H5 := Lib.hid ((H4.out.ext XX).modG d5 p5)
  have M5 : Mod (fun b => g ≤ b) w W5 := M4.step hHeld.2 (fun i hi => .inl hi)
  have z5 := hHeld.2.size
  obtain ⟨PA, pc, rfl⟩ := own_shape8 po
  have po' := Lib.hid po
  clear po
  have hIn : Hid (Inn W5 g PA (placesR (m.cas.map Ca.nm) (ws.drop 5) ((atR (m.dvs.map Dv.nm) s2 (freshE m s1 (failE (failE (e) (numR s3)) (numR s4)))).2)).1.length pc (placesR (m.cas.map Ca.nm) (ws.drop 5) ((atR (m.dvs.map Dv.nm) s2 (freshE m s1 (failE (failE (e) (numR s3)) (numR s4)))).2)).1) := Lib.hid (by
    obtain ⟨A9, c9, e9', h91, h92⟩ := own_rd po'.out
    cases e9'
    exact ⟨h92, (own_atR po'.out).1, fun b o e => by
      have h1 := (own_atR po'.out).2 b o e
      subst e
      have ho : o = 0 := by rcases po'.out.2 with ⟨hv, -⟩ | ⟨gg, cap, cur, hv, -⟩ <;> cases hv; rfl
      subst ho
      obtain ⟨-, cs, h2⟩ := own_isR po'.out (b := b) rfl
      exact ⟨by have := XX.size; omega, cs, h2⟩⟩)
  clear hHeld XX X1 r3 r4 RW4 k0 k1 k2 k3 k4 k5 k6 k7 k8
  go_upto_region 27 with fail
  have gWW := H5.out.hd.lt
  have bWW : b1 < W5.heap.size := Nat.lt_of_lt_of_le hb1 M5.size
  have y1 : ∀ w', Mod (fun b => g ≤ b) W5 w' → w'.cell? ⟨b1, o1 + 1, none⟩ = some (.string s1) := fun w' hh => x1 w' (M5.step hh (fun i hi => .inl hi))
  have M9 : Mod (fun b => g ≤ b) W5 W5.drew := (Mod.refl _ W5).drew
  have HC := H5.out.hd
  refine wp_region_held_drew (S := fun w' => Mod (fun b => g ≤ b) W5 w') (by kernel_rfl) (Mod.refl _ W5).drew (fun hHeld => ?_)
  refine tk 0 ?_
  try simp only [Act.put, gA, gC, List.setIfInBounds_toArray, gE, gF]
  refine tk 1 ?_
  try simp only [Act.put, gA, gB, gC, List.setIfInBounds_toArray, gE, gF]
  refine tk 2 ?_
  try simp only [Act.put, gA, gB, gC, List.setIfInBounds_toArray, gE, gF]
  refine tk 3 ?_
  try simp only [Act.put, gA, gB, gC, List.setIfInBounds_toArray, gE, gF]
  refine tk 4 ?_
  try simp only [Act.put, gA, gB, gC, List.setIfInBounds_toArray, gE, gF]
  refine tk 6 ?_
  try simp only [Act.put, gA, gB, gC, List.setIfInBounds_toArray, gE, gF]
  refine tk 7 ?_
  try simp only [Act.put, gA, gB, gC, List.setIfInBounds_toArray, gE, gF]
  refine tk 8 ?_
  try simp only [Act.put, gA, gB, gC, List.setIfInBounds_toArray, gE, gF]
  refine tk 9 ?_
  try simp only [Act.put, gA, gB, gC, List.setIfInBounds_toArray, gE, gF]
  refine tk 10 ?_
  try simp only [Act.put, gA, gB, gC, List.setIfInBounds_toArray, gE, gF]
  refine tk 11 ?_
  try simp only [Act.put, gA, gB, gC, List.setIfInBounds_toArray, gE, gF]
  refine tk 12 ?_
  try simp only [Act.put, gA, gB, gC, List.setIfInBounds_toArray, gE, gF]
  refine tk 13 ?_
  try simp only [Act.put, gA, gB, gC, List.setIfInBounds_toArray, gE, gF]
  have ED : Ext W5 W5.drew := (Ext.refl W5).god
  have zD := ED.size
  clear hHeld
  generalize W5.drew = D at *
  have u0 : D.cell? ⟨g, 8, none⟩ = some (.slice m.Ae m.ne m.ce) := cellsAt ((ED.block g gWW).trans HC) 8
  have u1 : (D.alloc (.cells #[.string s1, .int .i64 (atR (m.dvs.map Dv.nm) s2 (freshE m s1 (failE (failE (e) (numR s3)) (numR s4)))).1, .int .i64 ((numR s3).getD 0), .int .i64 ((numR s4).getD 0), .slice PA (placesR (m.cas.map Ca.nm) (ws.drop 5) ((atR (m.dvs.map Dv.nm) s2 (freshE m s1 (failE (failE (e) (numR s3)) (numR s4)))).2)).1.length pc] 59)).cell? ⟨g, 8, none⟩ = some (.slice m.Ae m.ne m.ce) := cellsAt (((ED.goA (.cells #[.string s1, .int .i64 (atR (m.dvs.map Dv.nm) s2 (freshE m s1 (failE (failE (e) (numR s3)) (numR s4)))).1, .int .i64 ((numR s3).getD 0), .int .i64 ((numR s4).getD 0), .slice PA (placesR (m.cas.map Ca.nm) (ws.drop 5) ((atR (m.dvs.map Dv.nm) s2 (freshE m s1 (failE (failE (e) (numR s3)) (numR s4)))).2)).1.length pc] 59)).block g gWW).trans HC) 8
  have EX : Ext W5 (D.alloc (.cells #[.string s1, .int .i64 (atR (m.dvs.map Dv.nm) s2 (freshE m s1 (failE (failE (e) (numR s3)) (numR s4)))).1, .int .i64 ((numR s3).getD 0), .int .i64 ((numR s4).getD 0), .slice PA (placesR (m.cas.map Ca.nm) (ws.drop 5) ((atR (m.dvs.map Dv.nm) s2 (freshE m s1 (failE (failE (e) (numR s3)) (numR s4)))).2)).1.length pc] 59)) := ED.goA _
  have NX : (D.alloc (.cells #[.string s1, .int .i64 (atR (m.dvs.map Dv.nm) s2 (freshE m s1 (failE (failE (e) (numR s3)) (numR s4)))).1, .int .i64 ((numR s3).getD 0), .int .i64 ((numR s4).getD 0), .slice PA (placesR (m.cas.map Ca.nm) (ws.drop 5) ((atR (m.dvs.map Dv.nm) s2 (freshE m s1 (failE (failE (e) (numR s3)) (numR s4)))).2)).1.length pc] 59)).heap[D.heap.size]? = some (.cells #[.string s1, .int .i64 (atR (m.dvs.map Dv.nm) s2 (freshE m s1 (failE (failE (e) (numR s3)) (numR s4)))).1, .int .i64 ((numR s3).getD 0), .int .i64 ((numR s4).getD 0), .slice PA (placesR (m.cas.map Ca.nm) (ws.drop 5) ((atR (m.dvs.map Dv.nm) s2 (freshE m s1 (failE (failE (e) (numR s3)) (numR s4)))).2)).1.length pc] 59 (0, 0)) := heap_alloc_new D _
  refine wpAnyH_ready (rs := [5, 14]) (by kernel_rfl) (by simp) ?_
  refine AllReadyH.cons rfl (fun Kz hKz => ?_) (AllReadyH.cons rfl (fun Kz hKz => ?_) (AllReadyH.nil))
  · go_simp
    refine hKz.out _ _ ?_ (fun hHeld => ?_)
    · exact M9
    clear hKz Kz
    try simp only [Act.put, gA, gB, gC, List.setIfInBounds_toArray, gE, gF]
    refine wpAnyH_ready (rs := [14]) (by kernel_rfl) (by simp) ?_
    refine AllReadyH.cons rfl (fun Kz hKz => ?_) ?_
    rotate_left
    · exact AllReadyH.nil
    go_simp
    refine hKz.out _ _ ?_ (fun hHeld => ?_)
    · exact M9.alloc _
    clear hKz Kz
    try simp only [Act.put, gA, gB, gC, List.setIfInBounds_toArray, gE, gF]
    have HX := H5.out.ext EX
    have MX := EX.mod (fun b => g ≤ b)
    have zX := EX.size
    clear hHeld u0 u1
    generalize D.alloc (.cells #[.string s1, .int .i64 (atR (m.dvs.map Dv.nm) s2 (freshE m s1 (failE (failE (e) (numR s3)) (numR s4)))).1, .int .i64 ((numR s3).getD 0), .int .i64 ((numR s4).getD 0), .slice PA (placesR (m.cas.map Ca.nm) (ws.drop 5) ((atR (m.dvs.map Dv.nm) s2 (freshE m s1 (failE (failE (e) (numR s3)) (numR s4)))).2)).1.length pc] 59) = X at *
    refine wpAnyH_ready (rs := [15]) (by kernel_rfl) (by simp) ?_
    refine AllReadyH.cons rfl (fun Kz hKz => ?_) ?_
    rotate_left
    · exact AllReadyH.nil
    refine step_app8 rfl (.tmp 204) (.tmp 213) _ rfl Tryz.underlying25 info_ef8 rfl (by decide) HX.ef rfl (new := [.string s1, .int .i64 (atR (m.dvs.map Dv.nm) s2 (freshE m s1 (failE (failE (e) (numR s3)) (numR s4)))).1, .int .i64 ((numR s3).getD 0), .int .i64 ((numR s4).getD 0), .slice PA (placesR (m.cas.map Ca.nm) (ws.drop 5) ((atR (m.dvs.map Dv.nm) s2 (freshE m s1 (failE (failE (e) (numR s3)) (numR s4)))).2)).1.length pc]) rfl NX rfl (by intro u hu; simp at hu; rcases hu with rfl | rfl | rfl | rfl | rfl <;> rfl) (by omega) (by unfold maxLen; omega) (by omega) ?_
    intro v2 w2 own2 hg2 hat2
    obtain ⟨A2, c2, rfl⟩ := own_shape8 own2
    have B2 := (hg2.block g HX.hd.lt (fun e => by have := (own_isR HX.ef e.symm).1; omega)).trans HX.hd
    have hHeld : Mod (fun b => g ≤ b) W5 w2 := MX.grown hg2 (fun i hi => .inl (by have := (own_isR HX.ef hi).1; omega))
    have MH := hHeld
    have g2 := lt_of_block B2
    have z9 := frozenIn B2 8
    have u9 : w2.cell? ⟨g, 8, none⟩ = some (.slice m.Ae m.ne m.ce) := cellsAt B2 8
    try dsimp only
    refine hKz.out _ _ ?_ (fun hHeld => ?_)
    · first | assumption | (dsimp only; assumption)
    clear hKz Kz
    try simp only [Act.put, gA, gB, gC, List.setIfInBounds_toArray, gE, gF]
    refine tk 16 ?_
    try simp only [Act.put, gA, gB, gC, List.setIfInBounds_toArray, gE, gF]
    refine tk 17 ?_
    try simp only [Act.put, gA, gB, gC, List.setIfInBounds_toArray, gE, gF]
    refine tk 18 ?_
    try simp only [Act.put, gA, gB, gC, List.setIfInBounds_toArray, gE, gF]
    refine wpAnyH_ready (rs := [19]) (by kernel_rfl) (by simp) ?_
    refine AllReadyH.cons rfl (fun Kz hKz => ?_) ?_
    rotate_left
    · exact AllReadyH.nil
    go_simp
    refine hKz.out _ _ ?_ (fun hHeld => ?_)
    · exact MH.setCell (p := ⟨g, 8, none⟩) (.inl (Nat.le_refl _)) _
    clear hKz Kz
    try simp only [Act.put, gA, gB, gC, List.setIfInBounds_toArray, gE, gF]
    refine wpAnyH_done (by kernel_rfl) ?_ _
    have FF := Lib.hid (HX.addEf (d := ⟨s1, (atR (m.dvs.map Dv.nm) s2 (freshE m s1 (failE (failE (e) (numR s3)) (numR s4)))).1, (numR s3).getD 0, (numR s4).getD 0, PA, (placesR (m.cas.map Ca.nm) (ws.drop 5) ((atR (m.dvs.map Dv.nm) s2 (freshE m s1 (failE (failE (e) (numR s3)) (numR s4)))).2)).1.length, pc, (placesR (m.cas.map Ca.nm) (ws.drop 5) ((atR (m.dvs.map Dv.nm) s2 (freshE m s1 (failE (failE (e) (numR s3)) (numR s4)))).2)).1⟩) ez1 (hIn.out.keep zX (fun b cs _ h2 => EX.block b (lt_of_block h2))) own2 hg2)
    clear hHeld MH own2 hg2 hat2 B2 y1 z9 u9 NX HC
    go_wp2_with fail
    refine bodyPost_ret (results_none rfl _ _ _) rfl ?_
    unfold efR
    simp only [freshE_bare]
    have hcn : m.bareR.cas.map Ca.nm = m.cas.map Ca.nm := by show (m.cas.map caStrip).map Ca.nm = _; rw [List.map_map]; rfl
    simp only [hcn]
    exact ⟨rfl, _, FF.out.1, by unfold Mx.bareR; rw [List.map_append]; rfl, M5.trans (MX.trans FF.out.2), by dsimp only; omega, by dsimp only; omega, by dsimp only; omega, by dsimp only; omega⟩
  · go_simp
    refine hKz.out _ _ ?_ (fun hHeld => ?_)
    · exact M9.alloc _
    clear hKz Kz
    try simp only [Act.put, gA, gB, gC, List.setIfInBounds_toArray, gE, gF]
    refine wpAnyH_ready (rs := [5]) (by kernel_rfl) (by simp) ?_
    refine AllReadyH.cons rfl (fun Kz hKz => ?_) ?_
    rotate_left
    · exact AllReadyH.nil
    go_simp
    refine hKz.out _ _ ?_ (fun hHeld => ?_)
    · exact M9.alloc _
    clear hKz Kz
    try simp only [Act.put, gA, gB, gC, List.setIfInBounds_toArray, gE, gF]
    have HX := H5.out.ext EX
    have MX := EX.mod (fun b => g ≤ b)
    have zX := EX.size
    clear hHeld u0 u1
    generalize D.alloc (.cells #[.string s1, .int .i64 (atR (m.dvs.map Dv.nm) s2 (freshE m s1 (failE (failE (e) (numR s3)) (numR s4)))).1, .int .i64 ((numR s3).getD 0), .int .i64 ((numR s4).getD 0), .slice PA (placesR (m.cas.map Ca.nm) (ws.drop 5) ((atR (m.dvs.map Dv.nm) s2 (freshE m s1 (failE (failE (e) (numR s3)) (numR s4)))).2)).1.length pc] 59) = X at *
    refine wpAnyH_ready (rs := [15]) (by kernel_rfl) (by simp) ?_
    refine AllReadyH.cons rfl (fun Kz hKz => ?_) ?_
    rotate_left
    · exact AllReadyH.nil
    refine step_app8 rfl (.tmp 204) (.tmp 213) _ rfl Tryz.underlying25 info_ef8 rfl (by decide) HX.ef rfl (new := [.string s1, .int .i64 (atR (m.dvs.map Dv.nm) s2 (freshE m s1 (failE (failE (e) (numR s3)) (numR s4)))).1, .int .i64 ((numR s3).getD 0), .int .i64 ((numR s4).getD 0), .slice PA (placesR (m.cas.map Ca.nm) (ws.drop 5) ((atR (m.dvs.map Dv.nm) s2 (freshE m s1 (failE (failE (e) (numR s3)) (numR s4)))).2)).1.length pc]) rfl NX rfl (by intro u hu; simp at hu; rcases hu with rfl | rfl | rfl | rfl | rfl <;> rfl) (by omega) (by unfold maxLen; omega) (by omega) ?_
    intro v2 w2 own2 hg2 hat2
    obtain ⟨A2, c2, rfl⟩ := own_shape8 own2
    have B2 := (hg2.block g HX.hd.lt (fun e => by have := (own_isR HX.ef e.symm).1; omega)).trans HX.hd
    have hHeld : Mod (fun b => g ≤ b) W5 w2 := MX.grown hg2 (fun i hi => .inl (by have := (own_isR HX.ef hi).1; omega))
    have MH := hHeld
    have g2 := lt_of_block B2
    have z9 := frozenIn B2 8
    have u9 : w2.cell? ⟨g, 8, none⟩ = some (.slice m.Ae m.ne m.ce) := cellsAt B2 8
    try dsimp only
    refine hKz.out _ _ ?_ (fun hHeld => ?_)
    · first | assumption | (dsimp only; assumption)
    clear hKz Kz
    try simp only [Act.put, gA, gB, gC, List.setIfInBounds_toArray, gE, gF]
    refine tk 16 ?_
    try simp only [Act.put, gA, gB, gC, List.setIfInBounds_toArray, gE, gF]
    refine tk 17 ?_
    try simp only [Act.put, gA, gB, gC, List.setIfInBounds_toArray, gE, gF]
    refine tk 18 ?_
    try simp only [Act.put, gA, gB, gC, List.setIfInBounds_toArray, gE, gF]
    refine wpAnyH_ready (rs := [19]) (by kernel_rfl) (by simp) ?_
    refine AllReadyH.cons rfl (fun Kz hKz => ?_) ?_
    rotate_left
    · exact AllReadyH.nil
    go_simp
    refine hKz.out _ _ ?_ (fun hHeld => ?_)
    · exact MH.setCell (p := ⟨g, 8, none⟩) (.inl (Nat.le_refl _)) _
    clear hKz Kz
    try simp only [Act.put, gA, gB, gC, List.setIfInBounds_toArray, gE, gF]
    refine wpAnyH_done (by kernel_rfl) ?_ _
    have FF := Lib.hid (HX.addEf (d := ⟨s1, (atR (m.dvs.map Dv.nm) s2 (freshE m s1 (failE (failE (e) (numR s3)) (numR s4)))).1, (numR s3).getD 0, (numR s4).getD 0, PA, (placesR (m.cas.map Ca.nm) (ws.drop 5) ((atR (m.dvs.map Dv.nm) s2 (freshE m s1 (failE (failE (e) (numR s3)) (numR s4)))).2)).1.length, pc, (placesR (m.cas.map Ca.nm) (ws.drop 5) ((atR (m.dvs.map Dv.nm) s2 (freshE m s1 (failE (failE (e) (numR s3)) (numR s4)))).2)).1⟩) ez1 (hIn.out.keep zX (fun b cs _ h2 => EX.block b (lt_of_block h2))) own2 hg2)
    clear hHeld MH own2 hg2 hat2 B2 y1 z9 u9 NX HC
    go_wp2_with fail
    refine bodyPost_ret (results_none rfl _ _ _) rfl ?_
    unfold efR
    simp only [freshE_bare]
    have hcn : m.bareR.cas.map Ca.nm = m.cas.map Ca.nm := by show (m.cas.map caStrip).map Ca.nm = _; rw [List.map_map]; rfl
    simp only [hcn]
    exact ⟨rfl, _, FF.out.1, by unfold Mx.bareR; rw [List.map_append]; rfl, M5.trans (MX.trans FF.out.2), by dsimp only; omega, by dsimp only; omega, by dsimp only; omega, by dsimp only; omega⟩
end Go.Proofs.YtgajbgdkgelkgaaGreat
