/- Layer 17, the walks: a matrix that shares nothing with another. -/
import Derived.Test.YtgajbgdkgelkgaaGreatLgJ
import Derived.Test.YtgajbgdkgelkgaaGreatMtxE
namespace Go.Proofs.YtgajbgdkgelkgaaGreat
open Go.RowKit

theorem RdI.keepB {w w' : World} {B n : Nat} {k : IntKind} {A : Option Addr} {xs : List Int} (h : RdI w B k A n xs) (hk : ∀ b o, A = some ⟨b, o, none⟩ → b < B → w'.heap[b]? = w.heap[b]?) : RdI w' B k A n xs :=
  ⟨h.1, fun hn => by
    obtain ⟨b, o, e, hb, hc⟩ := h.2 hn
    exact ⟨b, o, e, hb, fun j hj => (World.cell?_of_block (a := ⟨b, o + j, none⟩) (hk b o e hb)).trans (hc j hj)⟩⟩
theorem RdI.turned' {w w' : World} {k : IntKind} {A : Option Addr} {n : Nat} {xs : List Int} {S : Nat → Prop} (h : RdI w w.heap.size k A n xs) (M : Mod S w w') (hne : 0 < n → ∀ b o, A = some ⟨b, o, none⟩ → ¬ S b) : RdI w' w'.heap.size k A n xs :=
  ⟨h.1, fun hn => by
    obtain ⟨b, o, e, hb, hc⟩ := h.2 hn
    exact ⟨b, o, e, Nat.lt_of_lt_of_le hb M.size, fun j hj => (M.cell (o + j) hb (hne hn b o e)).trans (hc j hj)⟩⟩
def FrA (base : Nat) (A : Option Addr) : Prop := ∀ b o, A = some ⟨b, o, none⟩ → base ≤ b
/-- A matrix in memory from base on, below B. -/
structure OwnMx (w : World) (base B : Nat) (m : Mx) : Prop where
  ok : OkMx w B m
  fd : FrA base m.Ad
  fp : FrA base m.Ap
  fc : FrA base m.Ac
  fe : FrA base m.Ae
  fca : ∀ x ∈ m.cas, FrA base x.A
  fef : ∀ x ∈ m.efs, FrA base x.A
theorem OwnMx.keep {w w' : World} {base B : Nat} {m : Mx} (h : OwnMx w base B m) (hk : ∀ b, base ≤ b → b < B → w'.heap[b]? = w.heap[b]?) : OwnMx w' base B m :=
  ⟨⟨h.ok.dv.keepB fun b o e hb => hk b (h.fd b o e) hb, h.ok.pt.keepB fun b o e hb => hk b (h.fp b o e) hb, h.ok.ca.keepB fun b o e hb => hk b (h.fc b o e) hb, h.ok.ef.keepB fun b o e hb => hk b (h.fe b o e) hb,
    fun x hx => ⟨(h.ok.cao x hx).1.keepB fun b o e hb => hk b (h.fca x hx b o e) hb, (h.ok.cao x hx).2⟩, fun x hx => ⟨(h.ok.efo x hx).1.keepB fun b o e hb => hk b (h.fef x hx b o e) hb, (h.ok.efo x hx).2⟩, h.ok.cap⟩, h.fd, h.fp, h.fc, h.fe, h.fca, h.fef⟩
def Ca.strip (x : Ca) : Ca := { x with A := none, n := 0, c := 0 }
def Ef.strip (x : Ef) : Ef := { x with A := none, n := 0, c := 0 }
/-- Two matrices that say the same. -/
structure SameMx (m m' : Mx) : Prop where
  rt : m'.rt = m.rt
  wt : m'.wt = m.wt
  bk : m'.bk = m.bk
  cy : m'.cy = m.cy
  key : m'.key = m.key
  dvs : m'.dvs = m.dvs
  pts : m'.pts = m.pts
  cas : m'.cas.map Ca.strip = m.cas.map Ca.strip
  efs : m'.efs.map Ef.strip = m.efs.map Ef.strip
/-- A row of causes of the call's own: its cells, pointwise. -/
def CaRow (w : World) (g : Nat) (ys : List Ca) : Prop := ∃ cur : Array Value, w.heap[g]? = some (.cells cur 87 (0, 0)) ∧ ∀ j x, ys[j]? = some x → ∀ i, i < 5 → cur[j * 5 + i]? = (Ca.cells x)[i]?
def EfRow (w : World) (g : Nat) (ys : List Ef) : Prop := ∃ cur : Array Value, w.heap[g]? = some (.cells cur 59 (0, 0)) ∧ ∀ j x, ys[j]? = some x → ∀ i, i < 5 → cur[j * 5 + i]? = (Ef.cells x)[i]?
/-- A row of the call's own: nothing, or a block. -/
theorem own_row {α : Type} {cells : α → List Value} {sz : Nat} (hz : ∀ x, (cells x).length = sz) {w : World} {base n : Nat} {e : TypeId} {v : Value} {xs : List α} (h : w.ownsRow base e sz v n (xs.flatMap cells)) :
    ∃ A c, v = .slice A n c ∧ n ≤ c ∧ c ≤ maxLen ∧ FrA base A ∧ (0 < n → ∃ g cur, A = some ⟨g, 0, none⟩ ∧ w.heap[g]? = some (.cells cur e (0, 0)) ∧ ∀ j x, xs[j]? = some x → ∀ i, i < sz → cur[j * sz + i]? = (cells x)[i]?) := by
  rcases h.2 with ⟨rfl, rfl⟩ | ⟨g, cap, cur, rfl, hbase, hg, hn, hm, hcs, ht⟩
  · exact ⟨none, 0, rfl, Nat.le_refl _, by unfold maxLen; omega, (fun b o e' => by cases e'), fun h => absurd h (by omega)⟩
  · refine ⟨_, cap, rfl, hn, hm, (fun b o e' => by cases e'; exact hbase), fun _ => ⟨g, cur, rfl, hg, fun j x hx i hi => ?_⟩⟩
    have h1 := flat_at hz xs j x hx i hi
    rw [← h1, ← ht, List.getElem?_take, Array.getElem?_toList]
    have hjl : j < xs.length := by
      rcases Nat.lt_or_ge j xs.length with h | h
      · exact h
      · rw [List.getElem?_eq_none h] at hx; cases hx
    have hl := flat_len hz xs
    have h2 := h.1
    rw [hl] at h2
    have : j * sz + i < n * sz := by
      rw [← h2]
      calc j * sz + i < j * sz + sz := by omega
        _ = (j + 1) * sz := by rw [Nat.add_mul]; omega
        _ ≤ xs.length * sz := Nat.mul_le_mul_right _ hjl
    rw [if_pos this]
theorem Carow_put {w : World} {g k : Nat} {ys : List Ca} {x : Ca} {cur : Array Value} (hc : ∀ j x, ys[j]? = some x → ∀ i, i < 5 → cur[j * 5 + i]? = (Ca.cells x)[i]?) (hx : ys[k]? = some x) (_hcur : w.heap[g]? = some (.cells cur 87 (0, 0))) (A : Option Addr) (c : Nat) :
    ∀ j y, (ys.set k { x with A := A, c := c })[j]? = some y → ∀ i, i < 5 → (cur.setIfInBounds (k * 5 + 4) (.slice A x.n c))[j * 5 + i]? = (Ca.cells y)[i]? := fun j y hy i hi => by
  have hk : k < ys.length := by
    rcases Nat.lt_or_ge k ys.length with h | h
    · exact h
    · rw [List.getElem?_eq_none h] at hx; cases hx
  by_cases e : j = k
  · subst e
    rw [List.getElem?_set_self hk] at hy
    cases hy
    have h4 := hc j x hx i hi
    by_cases e4 : i = 4
    · subst e4
      have hsz : j * 5 + 4 < cur.size := by
        rcases Nat.lt_or_ge (j * 5 + 4) cur.size with h | h
        · exact h
        · rw [Array.getElem?_eq_none h] at h4; cases h4
      rw [Array.getElem?_setIfInBounds, if_pos rfl, if_pos hsz]; rfl
    · rw [Array.getElem?_setIfInBounds, if_neg (by omega), h4]
      match i, hi, e4 with
      | 0, _, _ => rfl
      | 1, _, _ => rfl
      | 2, _, _ => rfl
      | 3, _, _ => rfl
      | 4, _, h => exact absurd rfl h
  · rw [List.getElem?_set_ne (fun h => e h.symm)] at hy
    rw [Array.getElem?_setIfInBounds, if_neg (by omega)]
    exact hc j y hy i hi
theorem Efrow_put {w : World} {g k : Nat} {ys : List Ef} {x : Ef} {cur : Array Value} (hc : ∀ j x, ys[j]? = some x → ∀ i, i < 5 → cur[j * 5 + i]? = (Ef.cells x)[i]?) (hx : ys[k]? = some x) (_hcur : w.heap[g]? = some (.cells cur 59 (0, 0))) (A : Option Addr) (c : Nat) :
    ∀ j y, (ys.set k { x with A := A, c := c })[j]? = some y → ∀ i, i < 5 → (cur.setIfInBounds (k * 5 + 4) (.slice A x.n c))[j * 5 + i]? = (Ef.cells y)[i]? := fun j y hy i hi => by
  have hk : k < ys.length := by
    rcases Nat.lt_or_ge k ys.length with h | h
    · exact h
    · rw [List.getElem?_eq_none h] at hx; cases hx
  by_cases e : j = k
  · subst e
    rw [List.getElem?_set_self hk] at hy
    cases hy
    have h4 := hc j x hx i hi
    by_cases e4 : i = 4
    · subst e4
      have hsz : j * 5 + 4 < cur.size := by
        rcases Nat.lt_or_ge (j * 5 + 4) cur.size with h | h
        · exact h
        · rw [Array.getElem?_eq_none h] at h4; cases h4
      rw [Array.getElem?_setIfInBounds, if_pos rfl, if_pos hsz]; rfl
    · rw [Array.getElem?_setIfInBounds, if_neg (by omega), h4]
      match i, hi, e4 with
      | 0, _, _ => rfl
      | 1, _, _ => rfl
      | 2, _, _ => rfl
      | 3, _, _ => rfl
      | 4, _, h => exact absurd rfl h
  · rw [List.getElem?_set_ne (fun h => e h.symm)] at hy
    rw [Array.getElem?_setIfInBounds, if_neg (by omega)]
    exact hc j y hy i hi
theorem row_rdC {α : Type} {cells : α → List Value} {sz n : Nat} {w : World} {e : TypeId} {A : Option Addr} {xs : List α} (hl : xs.length = n)
    (h : 0 < n → ∃ g cur, A = some ⟨g, 0, none⟩ ∧ w.heap[g]? = some (.cells cur e (0, 0)) ∧ ∀ j x, xs[j]? = some x → ∀ i, i < sz → cur[j * sz + i]? = (cells x)[i]?) : RdC cells sz w w.heap.size A n xs :=
  ⟨hl, fun hn => by
    obtain ⟨g, cur, e1, e2, e3⟩ := h hn
    exact ⟨g, 0, e1, lt_of_block e2, fun j x hx i hi => by rw [Nat.zero_add]; exact (cellsAt e2 _).trans (e3 j x hx i hi)⟩⟩
def OwnPost (m : Mx) (w : World) (e : Ending) (w' : World) : Prop := ∃ m', e = .returned m'.val ∧ OwnMx w' w.heap.size w'.heap.size m' ∧ SameMx m m' ∧ Ext w w'
set_option maxRecDepth 100000 in
set_option maxHeartbeats 6400000 in
theorem own_any (m : Mx) (w : World) (h : OkMx w w.heap.size m) (hs : sizesB m = true) (hca : ∀ x ∈ m.cas, x.n ≤ 1000) (hef : ∀ x ∈ m.efs, x.n ≤ 1000) :
    Calls Tryz.prog 25 #[m.val] w (OwnPost m w) := by
  obtain ⟨rt, wt, bk, cy, key, Ad, nd, cd, dvs, Ap, np, cp, pts, Ac, nc, cc, cas, Ae, ne, ce, efs⟩ := m
  have hld := h.dv.len
  have hlp := h.pt.len
  have hlc := h.ca.len
  have hle := h.ef.len
  unfold sizesB at hs
  simp only [Bool.and_eq_true, decide_eq_true_eq] at hs
  dsimp only at hs hld hlp hlc hle
  have hnd : nd ≤ 4 := by omega
  have hnp : np ≤ 16 := by omega
  have hnc : nc ≤ 8 := by omega
  have hne : ne ≤ 8 := by omega
  have hld := Lib.hid hld
  have hlp := Lib.hid hlp
  have hlc := Lib.hid hlc
  have hle := Lib.hid hle
  have hdv : Hid (RdC Dv.cells 3 w w.heap.size Ad nd dvs) := Lib.hid h.dv
  have hpt : Hid (RdC Pt.cells 6 w w.heap.size Ap np pts) := Lib.hid h.pt
  have hcr : Hid (RdC Ca.cells 5 w w.heap.size Ac nc cas) := Lib.hid h.ca
  have her : Hid (RdC Ef.cells 5 w w.heap.size Ae ne efs) := Lib.hid h.ef
  have h' := Lib.hid h
  clear h hs
  unfold Mx.val
  dsimp only
  go_enter Tryz.func25, Tryz.ntmps25
  go_upto_region 1 with fail
  obtain ⟨s, hs⟩ : ∃ s, s = w.heap.size := ⟨_, rfl⟩
  have B0 : ((w.alloc (.cells #[.int .i64 rt, .int .i64 wt, .int .i64 bk, .int .i64 cy, .string key, .slice Ad nd cd, .slice Ap np cp, .slice Ac nc cc, .slice Ae ne ce] 27)).alloc (.cells #[.int .i64 0, .int .i64 0, .int .i64 0, .int .i64 0, .string { data := #[] }, .slice none 0 0, .slice none 0 0, .slice none 0 0, .slice none 0 0] 27)).heap[s]? = some (.cells #[.int .i64 rt, .int .i64 wt, .int .i64 bk, .int .i64 cy, .string key, .slice Ad nd cd, .slice Ap np cp, .slice Ac nc cc, .slice Ae ne ce] 27 (0, 0)) := by
    subst hs; exact (((Ext.refl (w.alloc (.cells #[.int .i64 rt, .int .i64 wt, .int .i64 bk, .int .i64 cy, .string key, .slice Ad nd cd, .slice Ap np cp, .slice Ac nc cc, .slice Ae ne ce] 27))).goA (.cells #[.int .i64 0, .int .i64 0, .int .i64 0, .int .i64 0, .string { data := #[] }, .slice none 0 0, .slice none 0 0, .slice none 0 0, .slice none 0 0] 27)).block _ (by simp)).trans (heap_alloc_new w _)
  have R0 : ((w.alloc (.cells #[.int .i64 rt, .int .i64 wt, .int .i64 bk, .int .i64 cy, .string key, .slice Ad nd cd, .slice Ap np cp, .slice Ac nc cc, .slice Ae ne ce] 27)).alloc (.cells #[.int .i64 0, .int .i64 0, .int .i64 0, .int .i64 0, .string { data := #[] }, .slice none 0 0, .slice none 0 0, .slice none 0 0, .slice none 0 0] 27)).heap[s + 1]? = some (.cells #[.int .i64 0, .int .i64 0, .int .i64 0, .int .i64 0, .string { data := #[] }, .slice none 0 0, .slice none 0 0, .slice none 0 0, .slice none 0 0] 27 (0, 0)) := by
    subst hs; exact heap_new_at (by simp)
  have E0 : Ext w ((w.alloc (.cells #[.int .i64 rt, .int .i64 wt, .int .i64 bk, .int .i64 cy, .string key, .slice Ad nd cd, .slice Ap np cp, .slice Ac nc cc, .slice Ae ne ce] 27)).alloc (.cells #[.int .i64 0, .int .i64 0, .int .i64 0, .int .i64 0, .string { data := #[] }, .slice none 0 0, .slice none 0 0, .slice none 0 0, .slice none 0 0] 27)) := ((Ext.refl w).goA _).goA _
  have S0 : s + 2 ≤ ((w.alloc (.cells #[.int .i64 rt, .int .i64 wt, .int .i64 bk, .int .i64 cy, .string key, .slice Ad nd cd, .slice Ap np cp, .slice Ac nc cc, .slice Ae ne ce] 27)).alloc (.cells #[.int .i64 0, .int .i64 0, .int .i64 0, .int .i64 0, .string { data := #[] }, .slice none 0 0, .slice none 0 0, .slice none 0 0, .slice none 0 0] 27)).heap.size := by subst hs; simp
  rw [show w.heap.size = s from hs.symm]
  generalize (w.alloc (.cells #[.int .i64 rt, .int .i64 wt, .int .i64 bk, .int .i64 cy, .string key, .slice Ad nd cd, .slice Ap np cp, .slice Ac nc cc, .slice Ae ne ce] 27)).alloc (.cells #[.int .i64 0, .int .i64 0, .int .i64 0, .int .i64 0, .string { data := #[] }, .slice none 0 0, .slice none 0 0, .slice none 0 0, .slice none 0 0] 27) = X0 at *
  have hs' := Lib.hid hs
  clear hs
  have b0 := cellsAt B0 5
  have gs0 : s < X0.heap.size := by omega
  have b0 : X0.cell? ⟨s, 5, none⟩ = some (.slice Ad nd cd) := b0
  have fz0 := frozenIn B0
  go_upto_region 2 with (go_at_call 57; refine (cloneDev_any _ _ _ _ _ (((hdv.out.belowE (Nat.le_refl _) E0)).more E0.size) (by omega)).mono ?_; rintro e w0 ⟨v, rfl, own0, F0⟩; obtain ⟨A0, c0, rfl, hc0, hm0, fr0, row0⟩ := own_row Dv.len3 own0; have B0w := (F0.block s gs0).trans B0; have z0 := frozenIn B0w 5; have y0 : w0.cell? ⟨s, 5, none⟩ = some (.slice Ad nd cd) := cellsAt B0w 5; have gw0 := lt_of_block B0w)
  have M0 : Mod (fun b => b = s) X0 (w0.setCell ⟨s, 5, none⟩ (.slice A0 nd c0)) := (F0.mod _).trans ((Mod.refl (fun b => b = s) w0).setCell (p := ⟨s, 5, none⟩) (.inl rfl) _)
  have P0 : Mod (fun b => b = s) w0 (w0.setCell ⟨s, 5, none⟩ (.slice A0 nd c0)) := (Mod.refl (fun b => b = s) w0).setCell (p := ⟨s, 5, none⟩) (.inl rfl) _
  have B1 : (w0.setCell ⟨s, 5, none⟩ (.slice A0 nd c0)).heap[s]? = some (.cells #[.int .i64 rt, .int .i64 wt, .int .i64 bk, .int .i64 cy, .string key, .slice A0 nd c0, .slice Ap np cp, .slice Ac nc cc, .slice Ae ne ce] 27 (0, 0)) := by have := sets_block B0w 5 (.slice A0 nd c0); simpa using this
  generalize w0.setCell ⟨s, 5, none⟩ (.slice A0 nd c0) = X1 at *
  have E1 : Ext w X1 := E0.goM M0 (fun i hi => by have := hs'.out; omega)
  have R1 := (M0.block (s + 1) (by omega) (by omega)).trans R0
  have S1 : s + 2 ≤ X1.heap.size := Nat.le_trans S0 M0.size
  have D0 : Hid (RdC Dv.cells 3 X1 X1.heap.size A0 nd dvs) := Lib.hid ((row_rdC hld.out row0).mod P0 (fun hn b o e => by have := fr0 b o e; omega))
  have ltA0 : ∀ b o, A0 = some ⟨b, o, none⟩ → b < X1.heap.size := fun b o e => by subst e; have := (own0.lt b rfl).2; have := P0.size; omega
  clear b0 fz0 B0w z0 y0
  have b1 := cellsAt B1 6
  have gs1 : s < X1.heap.size := by omega
  have b1 : X1.cell? ⟨s, 6, none⟩ = some (.slice Ap np cp) := b1
  have fz1 := frozenIn B1
  go_upto_region 3 with (go_at_call 58; refine (clonePt_any _ _ _ _ _ (((hpt.out.belowE (Nat.le_refl _) E1)).more E1.size) (by omega)).mono ?_; rintro e w1 ⟨v, rfl, own1, F1⟩; obtain ⟨A1, c1, rfl, hc1, hm1, fr1, row1⟩ := own_row Pt.len6 own1; have B1w := (F1.block s gs1).trans B1; have z1 := frozenIn B1w 6; have y1 : w1.cell? ⟨s, 6, none⟩ = some (.slice Ap np cp) := cellsAt B1w 6; have gw1 := lt_of_block B1w)
  have M1 : Mod (fun b => b = s) X1 (w1.setCell ⟨s, 6, none⟩ (.slice A1 np c1)) := (F1.mod _).trans ((Mod.refl (fun b => b = s) w1).setCell (p := ⟨s, 6, none⟩) (.inl rfl) _)
  have P1 : Mod (fun b => b = s) w1 (w1.setCell ⟨s, 6, none⟩ (.slice A1 np c1)) := (Mod.refl (fun b => b = s) w1).setCell (p := ⟨s, 6, none⟩) (.inl rfl) _
  have B2 : (w1.setCell ⟨s, 6, none⟩ (.slice A1 np c1)).heap[s]? = some (.cells #[.int .i64 rt, .int .i64 wt, .int .i64 bk, .int .i64 cy, .string key, .slice A0 nd c0, .slice A1 np c1, .slice Ac nc cc, .slice Ae ne ce] 27 (0, 0)) := by have := sets_block B1w 6 (.slice A1 np c1); simpa using this
  generalize w1.setCell ⟨s, 6, none⟩ (.slice A1 np c1) = X2 at *
  have E2 : Ext w X2 := E1.goM M1 (fun i hi => by have := hs'.out; omega)
  have R2 := (M1.block (s + 1) (by omega) (by omega)).trans R1
  have S2 : s + 2 ≤ X2.heap.size := Nat.le_trans S1 M1.size
  have D1 : Hid (RdC Pt.cells 6 X2 X2.heap.size A1 np pts) := Lib.hid ((row_rdC hlp.out row1).mod P1 (fun hn b o e => by have := fr1 b o e; omega))
  have ltA1 : ∀ b o, A1 = some ⟨b, o, none⟩ → b < X2.heap.size := fun b o e => by subst e; have := (own1.lt b rfl).2; have := P1.size; omega
  clear b1 fz1 B1w z1 y1
  have b2 := cellsAt B2 7
  have gs2 : s < X2.heap.size := by omega
  have b2 : X2.cell? ⟨s, 7, none⟩ = some (.slice Ac nc cc) := b2
  have fz2 := frozenIn B2
  go_upto_region 5 with (go_at_call 59; refine (cloneCa_any _ _ _ _ _ (((hcr.out.belowE (Nat.le_refl _) E2)).more E2.size) (by omega)).mono ?_; rintro e w2 ⟨v, rfl, own2, F2⟩; obtain ⟨A2, c2, rfl, hc2, hm2, fr2, row2⟩ := own_row Ca.len5 own2; have B2w := (F2.block s gs2).trans B2; have z2 := frozenIn B2w 7; have y2 : w2.cell? ⟨s, 7, none⟩ = some (.slice Ac nc cc) := cellsAt B2w 7; have gw2 := lt_of_block B2w)
  have M2 : Mod (fun b => b = s) X2 (w2.setCell ⟨s, 7, none⟩ (.slice A2 nc c2)) := (F2.mod _).trans ((Mod.refl (fun b => b = s) w2).setCell (p := ⟨s, 7, none⟩) (.inl rfl) _)
  have P2 : Mod (fun b => b = s) w2 (w2.setCell ⟨s, 7, none⟩ (.slice A2 nc c2)) := (Mod.refl (fun b => b = s) w2).setCell (p := ⟨s, 7, none⟩) (.inl rfl) _
  have B3 : (w2.setCell ⟨s, 7, none⟩ (.slice A2 nc c2)).heap[s]? = some (.cells #[.int .i64 rt, .int .i64 wt, .int .i64 bk, .int .i64 cy, .string key, .slice A0 nd c0, .slice A1 np c1, .slice A2 nc c2, .slice Ae ne ce] 27 (0, 0)) := by have := sets_block B2w 7 (.slice A2 nc c2); simpa using this
  generalize w2.setCell ⟨s, 7, none⟩ (.slice A2 nc c2) = X3 at *
  have E3 : Ext w X3 := E2.goM M2 (fun i hi => by have := hs'.out; omega)
  have R3 := (M2.block (s + 1) (by omega) (by omega)).trans R2
  have S3 : s + 2 ≤ X3.heap.size := Nat.le_trans S2 M2.size
  have D2 : Hid (RdC Ca.cells 5 X3 X3.heap.size A2 nc cas) := Lib.hid ((row_rdC hlc.out row2).mod P2 (fun hn b o e => by have := fr2 b o e; omega))
  have ltA2 : ∀ b o, A2 = some ⟨b, o, none⟩ → b < X3.heap.size := fun b o e => by subst e; have := (own2.lt b rfl).2; have := P2.size; omega
  clear b2 fz2 B2w z2 y2
  have RW3 : 0 < nc → ∃ g, A2 = some ⟨g, 0, none⟩ ∧ g < X3.heap.size ∧ s + 2 ≤ g ∧ CaRow X3 g cas := fun hn => by
    obtain ⟨g, cur, e1, e2, e3⟩ := row2 hn
    have hge := fr2 g 0 e1
    have e4 := (P2.block g (lt_of_block e2) (by omega)).trans e2
    exact ⟨g, e1, lt_of_block e4, by omega, cur, e4, e3⟩
  have RW3 := Lib.hid RW3
  clear row2 own2
  go_loopw [20] (fun i wr => ∃ (k : Nat) (ys : List Ca), k ≤ nc ∧ i = .int .i64 k ∧ Mod (fun b => ∃ o, A2 = some ⟨b, o, none⟩) X3 wr ∧ ys.length = nc ∧ (0 < nc → ∃ g, A2 = some ⟨g, 0, none⟩ ∧ CaRow wr g ys) ∧ ys.map Ca.strip = cas.map Ca.strip ∧ (∀ j x, ys[j]? = some x → j < k → RdI wr wr.heap.size .i64 x.A x.n x.ps ∧ x.n ≤ x.c ∧ x.c ≤ maxLen ∧ FrA X3.heap.size x.A) ∧ (∀ j, k ≤ j → ys[j]? = cas[j]?)) (fun i _ => nc - (intOf i).toNat)
  case atStart => exact ⟨0, cas, by omega, rfl, Mod.refl _ _, hlc.out, (fun hn => by obtain ⟨g, e, _, _, hr⟩ := RW3.out hn; exact ⟨g, e, hr⟩), rfl, fun j x _ hj => absurd hj (by omega), fun j _ => rfl⟩
  case round =>
    obtain ⟨k, Cays, hk, rfl, hM, hyl, hyr, hys, hyd, hyt⟩ := hrel
    have hM' := Lib.hid hM
    have hyr' := Lib.hid hyr
    have hys' := Lib.hid hys
    have hyd' := Lib.hid hyd
    have hyt' := Lib.hid hyt
    have hyl' := Lib.hid hyl
    have hfs : ∀ b o, A2 = some ⟨b, o, none⟩ → s + 2 ≤ b := fun b o e => by have := fr2 b o e; omega
    have hfs' := Lib.hid hfs
    have BL := (hM.block s (by omega) (fun ⟨o, e⟩ => by have := hfs s o e; omega)).trans B3
    have RL := (hM.block (s + 1) (by omega) (fun ⟨o, e⟩ => by have := hfs _ o e; omega)).trans R3
    have EL : Ext w wr := E3.goM hM (fun i ⟨o, e⟩ => by have := hfs i o e; have := hs'.out; omega)
    have SL : X3.heap.size ≤ wr.heap.size := hM.size
    have gsL : s < wr.heap.size := by omega
    have EL' := Lib.hid EL
    have BL' := Lib.hid BL
    have RL' := Lib.hid RL
    clear hM hyr hys hyd hyt hyl hfs EL BL RL
    by_cases hlt : k < nc
    · have e3 : (k : Int) < (nc : Int) := by omega
      obtain ⟨g, rfl, cur, hcur, hcc⟩ := hyr'.out (by omega)
      have hgs := hfs'.out g 0 rfl
      have hgX : g < X3.heap.size := by obtain ⟨g2, e, h2, _⟩ := RW3.out (by omega); cases e; exact h2
      have hgl := lt_of_block hcur
      obtain ⟨x, hxk⟩ : ∃ x, Cays[k]? = some x := ⟨_, List.getElem?_eq_getElem (by rw [hyl'.out]; exact hlt)⟩
      have hxc : cas[k]? = some x := by rw [← hyt'.out k (Nat.le_refl _)]; exact hxk
      have hmem := List.mem_of_getElem? hxc
      obtain ⟨hrd, hrc⟩ := h'.out.cao x hmem
      have hrn := hca x hmem
      have hx5 := hcc k x hxk
      have hw0 := Lib.hid (hrd.ext EL'.out)
      have hcc' := Lib.hid hcc
      have hcur' := Lib.hid hcur
      have hxk' := Lib.hid hxk
      have hxc' := Lib.hid hxc
      have y4 : wr.drew.cell? ⟨g, k * 5 + 4, none⟩ = some (.slice x.A x.n x.c) := (cellsAt hcur _).trans (hx5 4 (by decide))
      have qb : ∀ w', Mod (fun b => b = g) wr w' → w'.cell? ⟨s, 7, none⟩ = some (.slice (some ⟨g, 0, none⟩) nc c2) := fun w' m => cellsAt ((m.block s gsL (by omega)).trans BL'.out) 7
      clear hcur hxk hxc hx5 hcc hrd hrc hmem
      go_upto_region 7 with fail
      refine wp_region_held_drew (S := fun w' => Mod (fun b => b = g) wr w') (by kernel_rfl) (Mod.refl _ wr).drew (fun hHeld => ?_)
      refine wpAnyH_take (i := 0) (oi := _) (v := ?_) rfl (by kernel_rfl) (by kernel_rfl) (by kernel_rfl) (fun _ _ _ h => h) (Or.inl ⟨by rfl, ?_⟩) (by assumption) ?_
      rotate_left
      · intro w hSw
        (try dsimp only at hSw)
        go_simp
        try (with_reducible rfl)
      try simp only [Act.put, List.getElem_toArray, List.getElem_cons_zero, List.setIfInBounds_toArray, List.set_cons_zero, List.set_cons_succ]
      refine wpAnyH_take (i := 1) (oi := _) (v := ?_) rfl (by kernel_rfl) (by kernel_rfl) (by kernel_rfl) (fun _ _ _ h => h) (Or.inl ⟨by rfl, ?_⟩) (by assumption) ?_
      rotate_left
      · intro w hSw
        (try dsimp only at hSw)
        go_simp
        try (with_reducible rfl)
      try simp only [Act.put, List.getElem_toArray, List.getElem_cons_succ, List.getElem_cons_zero, List.setIfInBounds_toArray, List.set_cons_zero, List.set_cons_succ]
      refine wpAnyH_take (i := 2) (oi := _) (v := ?_) rfl (by kernel_rfl) (by kernel_rfl) (by kernel_rfl) (fun _ _ _ h => h) (Or.inl ⟨by rfl, ?_⟩) (by assumption) ?_
      rotate_left
      · intro w hSw
        (try dsimp only at hSw)
        go_simp
        try (with_reducible rfl)
      try simp only [Act.put, List.getElem_toArray, List.getElem_cons_succ, List.getElem_cons_zero, List.setIfInBounds_toArray, List.set_cons_zero, List.set_cons_succ]
      refine wpAnyH_take (i := 3) (oi := _) (v := ?_) rfl (by kernel_rfl) (by kernel_rfl) (by kernel_rfl) (fun _ _ _ h => h) (Or.inl ⟨by rfl, ?_⟩) (by assumption) ?_
      rotate_left
      · intro w hSw
        (try dsimp only at hSw)
        go_simp
        try (with_reducible rfl)
      try simp only [Act.put, List.getElem_toArray, List.getElem_cons_succ, List.getElem_cons_zero, List.setIfInBounds_toArray, List.set_cons_zero, List.set_cons_succ]
      refine wpAnyH_take (i := 4) (oi := _) (v := ?_) rfl (by kernel_rfl) (by kernel_rfl) (by kernel_rfl) (fun _ _ _ h => h) (Or.inl ⟨by rfl, ?_⟩) (by assumption) ?_
      rotate_left
      · intro w hSw
        (try dsimp only at hSw)
        go_simp
        try (with_reducible rfl)
      try simp only [Act.put, List.getElem_toArray, List.getElem_cons_succ, List.getElem_cons_zero, List.setIfInBounds_toArray, List.set_cons_zero, List.set_cons_succ]
      refine wpAnyH_take (i := 5) (oi := _) (v := ?_) rfl (by kernel_rfl) (by kernel_rfl) (by kernel_rfl) (fun _ _ _ h => h) (Or.inl ⟨by rfl, ?_⟩) (by assumption) ?_
      rotate_left
      · intro w hSw
        (try dsimp only at hSw)
        go_simp
        try (with_reducible rfl)
      try simp only [Act.put, List.getElem_toArray, List.getElem_cons_succ, List.getElem_cons_zero, List.setIfInBounds_toArray, List.set_cons_zero, List.set_cons_succ]
      refine wpAnyH_take (i := 6) (oi := _) (v := ?_) rfl (by kernel_rfl) (by kernel_rfl) (by kernel_rfl) (fun _ _ _ h => h) (Or.inl ⟨by rfl, ?_⟩) (by assumption) ?_
      rotate_left
      · intro w hSw
        (try dsimp only at hSw)
        go_simp
        try (with_reducible rfl)
      try simp only [Act.put, List.getElem_toArray, List.getElem_cons_succ, List.getElem_cons_zero, List.setIfInBounds_toArray, List.set_cons_zero, List.set_cons_succ]
      refine wpAnyH_take (i := 7) (oi := _) (v := ?_) rfl (by kernel_rfl) (by kernel_rfl) (by kernel_rfl) (fun _ _ _ h => h) (Or.inl ⟨by rfl, ?_⟩) (by assumption) ?_
      rotate_left
      · intro w hSw
        (try dsimp only at hSw)
        go_simp
        try (with_reducible rfl)
      try simp only [Act.put, List.getElem_toArray, List.getElem_cons_succ, List.getElem_cons_zero, List.setIfInBounds_toArray, List.set_cons_zero, List.set_cons_succ]
      refine wpAnyH_ready (rs := [8]) (by kernel_rfl) (by simp) ?_
      refine AllReadyH.cons rfl (fun Kz hKz => ?_) ?_
      rotate_left
      · exact AllReadyH.nil
      go_simp
      refine hKz.out _ _ ?_ (fun hHeld => ?_)
      · exact (Mod.refl (fun b => b = g) wr).drew
      clear hKz Kz
      try simp only [Act.put, List.getElem_toArray, List.getElem_cons_succ, List.getElem_cons_zero, List.setIfInBounds_toArray, List.set_cons_zero, List.set_cons_succ]
      refine wpAnyH_ready (rs := [9]) (by kernel_rfl) (by simp) ?_
      refine AllReadyH.cons rfl (fun Kz hKz => ?_) ?_
      rotate_left
      · exact AllReadyH.nil
      go_simp
      go_at_call 60
      refine (cloneInt_any _ _ _ x.ps _ (hw0.out.ext ((Ext.refl wr).god)).rdC hrn).mono ?_
      rintro e w1 ⟨v, rfl, ow1, G1⟩
      rw [← ints_flat] at ow1
      obtain ⟨A9, c9, rfl, hc9, hr9⟩ := own_rd ow1
      have hf9 := fun b o (e : A9 = some ⟨b, o, none⟩) => (show wr.heap.size ≤ b by subst e; exact (ow1.lt b rfl).1)
      have B9 := (G1.block g hgl).trans hcur'.out
      have z9 := frozenIn B9 (k * 5 + 4)
      have y9 : w1.cell? ⟨g, k * 5 + 4, none⟩ = some (.slice x.A x.n x.c) := (cellsAt B9 _).trans (hcc'.out k x hxk'.out 4 (by decide))
      have g9 := lt_of_block B9
      have hHeld : Mod (fun b => b = g) wr w1 := ((Mod.refl (fun b => b = g) wr).drew).trans (G1.mod _)
      try dsimp only
      refine hKz.out _ _ ?_ (fun hHeld => ?_)
      · first | assumption | (dsimp only; assumption)
      clear hKz Kz
      try simp only [Act.put, List.getElem_toArray, List.getElem_cons_succ, List.getElem_cons_zero, List.setIfInBounds_toArray, List.set_cons_zero, List.set_cons_succ]
      refine wpAnyH_take (i := 10) (oi := _) (v := ?_) rfl (by kernel_rfl) (by kernel_rfl) (by kernel_rfl) (fun _ _ _ h => h) (Or.inl ⟨by rfl, ?_⟩) (by assumption) ?_
      rotate_left
      · intro w hSw
        (try dsimp only at hSw)
        go_simp
        try (with_reducible rfl)
      try simp only [Act.put, List.getElem_toArray, List.getElem_cons_succ, List.getElem_cons_zero, List.setIfInBounds_toArray, List.set_cons_zero, List.set_cons_succ]
      refine wpAnyH_take (i := 11) (oi := _) (v := ?_) rfl (by kernel_rfl) (by kernel_rfl) (by kernel_rfl) (fun _ _ _ h => h) (Or.inl ⟨by rfl, ?_⟩) (by assumption) ?_
      rotate_left
      · intro w hSw
        (try dsimp only at hSw)
        go_simp
        try (with_reducible rfl)
      try simp only [Act.put, List.getElem_toArray, List.getElem_cons_succ, List.getElem_cons_zero, List.setIfInBounds_toArray, List.set_cons_zero, List.set_cons_succ]
      refine wpAnyH_ready (rs := [12]) (by kernel_rfl) (by simp) ?_
      refine AllReadyH.cons rfl (fun Kz hKz => ?_) ?_
      rotate_left
      · exact AllReadyH.nil
      go_simp
      refine hKz.out _ _ ?_ (fun hHeld => ?_)
      · exact hHeld.setCell (p := ⟨g, k * 5 + 4, none⟩) (.inl rfl) _
      clear hKz Kz
      try simp only [Act.put, List.getElem_toArray, List.getElem_cons_succ, List.getElem_cons_zero, List.setIfInBounds_toArray, List.set_cons_zero, List.set_cons_succ]
      refine wpAnyH_done (by kernel_rfl) ?_ _
      have BN := sets_block B9 (k * 5 + 4) (.slice A9 x.n c9)
      have BN' := Lib.hid BN
      have MN := hHeld
      have MN' := Lib.hid MN
      have RN : RdI (w1.setCell ⟨g, k * 5 + 4, none⟩ (.slice A9 x.n c9)) (w1.setCell ⟨g, k * 5 + 4, none⟩ (.slice A9 x.n c9)).heap.size .i64 A9 x.n x.ps := hr9.turned ((Mod.refl (fun b => b = g) w1).setCell (p := ⟨g, k * 5 + 4, none⟩) (.inl rfl) _) (fun b o e => by have := hf9 b o e; omega)
      have RN' := Lib.hid RN
      clear qb y4 y9 z9 BN MN RN hHeld ow1 hr9 B9
      go_wp2_with fail
      go_roundw
      case rel =>
        refine ⟨k + 1, Cays.set k { x with A := A9, c := c9 }, by omega, by go_num, hM'.out.trans (MN'.out.weak fun b hb => ⟨0, by rw [hb]⟩), by rw [List.length_set]; exact hyl'.out, fun _ => ⟨g, rfl, _, BN'.out, ?_⟩, ?_, fun j y hy hj => ?_, fun j hj => by rw [List.getElem?_set_ne (by omega)]; exact hyt'.out j (by omega)⟩
        · exact Carow_put hcc'.out hxk'.out hcur'.out A9 c9
        · rw [List.map_set, show (Ca.strip { x with A := A9, c := c9 }) = Ca.strip x from rfl, ← hys'.out]
          apply List.ext_getElem?
          intro j
          rw [List.getElem?_set]
          split
          · rename_i e; subst e
            split
            · rw [List.getElem?_map, hxk'.out]; rfl
            · rename_i h1; exact absurd (by rw [List.length_map, hyl'.out]; exact hlt) h1
          · rfl
        · by_cases e : j = k
          · subst e
            rw [List.getElem?_set_self (by rw [hyl'.out]; exact hlt)] at hy
            cases hy
            exact ⟨RN'.out, hc9.1, hc9.2, fun b o e => by have := hf9 b o e; omega⟩
          · rw [List.getElem?_set_ne (fun h => e h.symm)] at hy
            obtain ⟨d1, d2, d3, d4⟩ := hyd'.out j y hy (by omega)
            exact ⟨d1.turned MN'.out (fun b o e => by have := d4 b o e; omega), d2, d3, d4⟩
      case measure => simp [intOf]; omega
    obtain rfl : nc = k := by omega
    obtain ⟨X4, hX4⟩ : ∃ X, X = wr := ⟨_, rfl⟩
    subst hX4
    have B4 := BL'.out
    have R4 := RL'.out
    have E4 := EL'.out
    have S4 : s + 2 ≤ X4.heap.size := by omega
    have ysC := hyl'.out
    have hCrow : RdC Ca.cells 5 X4 X4.heap.size A2 nc Cays := ⟨ysC, fun hn => by
      obtain ⟨g, e, cur, h1, h2⟩ := hyr'.out hn
      exact ⟨g, 0, e, lt_of_block h1, fun j x hx i hi => by rw [Nat.zero_add]; exact (cellsAt h1 _).trans (h2 j x hx i hi)⟩⟩
    have hCrow := Lib.hid hCrow
    have hCin : Hid (∀ x ∈ Cays, RdI X4 X4.heap.size .i64 x.A x.n x.ps ∧ x.n ≤ x.c ∧ x.c ≤ maxLen ∧ FrA X3.heap.size x.A) := Lib.hid (fun x hx => by
      obtain ⟨j, hj, e⟩ := List.getElem_of_mem hx
      exact hyd'.out j x (by rw [List.getElem?_eq_getElem hj, e]) (by omega))
    have hCs := hys'
    have hC2 := hM'
    have hC2s : X3.heap.size ≤ X4.heap.size := hM'.out.size
    have hA2 : Hid (∀ b o, A2 = some ⟨b, o, none⟩ → X2.heap.size ≤ b ∧ b < X3.heap.size) := Lib.hid (fun b o e => ⟨fr2 b o e, ltA2 b o e⟩)
    clear hyl' hyr' hys' hyd' hyt' hM' BL' RL' EL' hfs'
    have b4 := cellsAt B4 8
    have gs4 : s < X4.heap.size := by omega
    have b4 : X4.cell? ⟨s, 8, none⟩ = some (.slice Ae ne ce) := b4
    have fz4 := frozenIn B4
    go_upto_region 11 with (go_at_call 61; refine (cloneEf_any _ _ _ _ _ (((her.out.belowE (Nat.le_refl _) E4)).more E4.size) (by omega)).mono ?_; rintro e w4 ⟨v, rfl, own4, F4⟩; obtain ⟨A4, c4, rfl, hc4, hm4, fr4, row4⟩ := own_row Ef.len5 own4; have B4w := (F4.block s gs4).trans B4; have z4 := frozenIn B4w 8; have y4 : w4.cell? ⟨s, 8, none⟩ = some (.slice Ae ne ce) := cellsAt B4w 8; have gw4 := lt_of_block B4w)
    have M4 : Mod (fun b => b = s) X4 (w4.setCell ⟨s, 8, none⟩ (.slice A4 ne c4)) := (F4.mod _).trans ((Mod.refl (fun b => b = s) w4).setCell (p := ⟨s, 8, none⟩) (.inl rfl) _)
    have P4 : Mod (fun b => b = s) w4 (w4.setCell ⟨s, 8, none⟩ (.slice A4 ne c4)) := (Mod.refl (fun b => b = s) w4).setCell (p := ⟨s, 8, none⟩) (.inl rfl) _
    have B5 : (w4.setCell ⟨s, 8, none⟩ (.slice A4 ne c4)).heap[s]? = some (.cells #[.int .i64 rt, .int .i64 wt, .int .i64 bk, .int .i64 cy, .string key, .slice A0 nd c0, .slice A1 np c1, .slice A2 nc c2, .slice A4 ne c4] 27 (0, 0)) := by have := sets_block B4w 8 (.slice A4 ne c4); simpa using this
    generalize w4.setCell ⟨s, 8, none⟩ (.slice A4 ne c4) = X5 at *
    have E5 : Ext w X5 := E4.goM M4 (fun i hi => by have := hs'.out; omega)
    have R5 := (M4.block (s + 1) (by omega) (by omega)).trans R4
    have S5 : s + 2 ≤ X5.heap.size := Nat.le_trans S4 M4.size
    have D4 : Hid (RdC Ef.cells 5 X5 X5.heap.size A4 ne efs) := Lib.hid ((row_rdC hle.out row4).mod P4 (fun hn b o e => by have := fr4 b o e; omega))
    have ltA4 : ∀ b o, A4 = some ⟨b, o, none⟩ → b < X5.heap.size := fun b o e => by subst e; have := (own4.lt b rfl).2; have := P4.size; omega
    clear b4 fz4 B4w z4 y4
    have RW5 : 0 < ne → ∃ g, A4 = some ⟨g, 0, none⟩ ∧ g < X5.heap.size ∧ s + 2 ≤ g ∧ EfRow X5 g efs := fun hn => by
      obtain ⟨g, cur, e1, e2, e3⟩ := row4 hn
      have hge := fr4 g 0 e1
      have e4 := (P4.block g (lt_of_block e2) (by omega)).trans e2
      exact ⟨g, e1, lt_of_block e4, by omega, cur, e4, e3⟩
    have RW5 := Lib.hid RW5
    clear row4 own4
    go_loopw [43] (fun i wr => ∃ (k : Nat) (ys : List Ef), k ≤ ne ∧ i = .int .i64 k ∧ Mod (fun b => ∃ o, A4 = some ⟨b, o, none⟩) X5 wr ∧ ys.length = ne ∧ (0 < ne → ∃ g, A4 = some ⟨g, 0, none⟩ ∧ EfRow wr g ys) ∧ ys.map Ef.strip = efs.map Ef.strip ∧ (∀ j x, ys[j]? = some x → j < k → RdI wr wr.heap.size .i64 x.A x.n x.ps ∧ x.n ≤ x.c ∧ x.c ≤ maxLen ∧ FrA X5.heap.size x.A) ∧ (∀ j, k ≤ j → ys[j]? = efs[j]?)) (fun i _ => ne - (intOf i).toNat)
    case atStart => exact ⟨0, efs, by omega, rfl, Mod.refl _ _, hle.out, (fun hn => by obtain ⟨g, e, _, _, hr⟩ := RW5.out hn; exact ⟨g, e, hr⟩), rfl, fun j x _ hj => absurd hj (by omega), fun j _ => rfl⟩
    case round =>
      obtain ⟨k, Efys, hk, rfl, hM, hyl, hyr, hys, hyd, hyt⟩ := hrel
      have hM' := Lib.hid hM
      have hyr' := Lib.hid hyr
      have hys' := Lib.hid hys
      have hyd' := Lib.hid hyd
      have hyt' := Lib.hid hyt
      have hyl' := Lib.hid hyl
      have hfs : ∀ b o, A4 = some ⟨b, o, none⟩ → s + 2 ≤ b := fun b o e => by have := fr4 b o e; omega
      have hfs' := Lib.hid hfs
      have BL := (hM.block s (by omega) (fun ⟨o, e⟩ => by have := hfs s o e; omega)).trans B5
      have RL := (hM.block (s + 1) (by omega) (fun ⟨o, e⟩ => by have := hfs _ o e; omega)).trans R5
      have EL : Ext w wr := E5.goM hM (fun i ⟨o, e⟩ => by have := hfs i o e; have := hs'.out; omega)
      have SL : X5.heap.size ≤ wr.heap.size := hM.size
      have gsL : s < wr.heap.size := by omega
      have EL' := Lib.hid EL
      have BL' := Lib.hid BL
      have RL' := Lib.hid RL
      clear hM hyr hys hyd hyt hyl hfs EL BL RL
      by_cases hlt : k < ne
      · have e3 : (k : Int) < (ne : Int) := by omega
        obtain ⟨g, rfl, cur, hcur, hcc⟩ := hyr'.out (by omega)
        have hgs := hfs'.out g 0 rfl
        have hgX : g < X5.heap.size := by obtain ⟨g2, e, h2, _⟩ := RW5.out (by omega); cases e; exact h2
        have hgl := lt_of_block hcur
        obtain ⟨x, hxk⟩ : ∃ x, Efys[k]? = some x := ⟨_, List.getElem?_eq_getElem (by rw [hyl'.out]; exact hlt)⟩
        have hxc : efs[k]? = some x := by rw [← hyt'.out k (Nat.le_refl _)]; exact hxk
        have hmem := List.mem_of_getElem? hxc
        obtain ⟨hrd, hrc⟩ := h'.out.efo x hmem
        have hrn := hef x hmem
        have hx5 := hcc k x hxk
        have hw0 := Lib.hid (hrd.ext EL'.out)
        have hcc' := Lib.hid hcc
        have hcur' := Lib.hid hcur
        have hxk' := Lib.hid hxk
        have hxc' := Lib.hid hxc
        have y4 : wr.drew.cell? ⟨g, k * 5 + 4, none⟩ = some (.slice x.A x.n x.c) := (cellsAt hcur _).trans (hx5 4 (by decide))
        have qb : ∀ w', Mod (fun b => b = g) wr w' → w'.cell? ⟨s, 8, none⟩ = some (.slice (some ⟨g, 0, none⟩) ne c4) := fun w' m => cellsAt ((m.block s gsL (by omega)).trans BL'.out) 8
        clear hcur hxk hxc hx5 hcc hrd hrc hmem
        go_upto_region 13 with fail
        refine wp_region_held_drew (S := fun w' => Mod (fun b => b = g) wr w') (by kernel_rfl) (Mod.refl _ wr).drew (fun hHeld => ?_)
        refine wpAnyH_take (i := 0) (oi := _) (v := ?_) rfl (by kernel_rfl) (by kernel_rfl) (by kernel_rfl) (fun _ _ _ h => h) (Or.inl ⟨by rfl, ?_⟩) (by assumption) ?_
        rotate_left
        · intro w hSw
          (try dsimp only at hSw)
          go_simp
          try (with_reducible rfl)
        try simp only [Act.put, List.getElem_toArray, List.getElem_cons_zero, List.setIfInBounds_toArray, List.set_cons_zero, List.set_cons_succ]
        refine wpAnyH_take (i := 1) (oi := _) (v := ?_) rfl (by kernel_rfl) (by kernel_rfl) (by kernel_rfl) (fun _ _ _ h => h) (Or.inl ⟨by rfl, ?_⟩) (by assumption) ?_
        rotate_left
        · intro w hSw
          (try dsimp only at hSw)
          go_simp
          try (with_reducible rfl)
        try simp only [Act.put, List.getElem_toArray, List.getElem_cons_succ, List.getElem_cons_zero, List.setIfInBounds_toArray, List.set_cons_zero, List.set_cons_succ]
        refine wpAnyH_take (i := 2) (oi := _) (v := ?_) rfl (by kernel_rfl) (by kernel_rfl) (by kernel_rfl) (fun _ _ _ h => h) (Or.inl ⟨by rfl, ?_⟩) (by assumption) ?_
        rotate_left
        · intro w hSw
          (try dsimp only at hSw)
          go_simp
          try (with_reducible rfl)
        try simp only [Act.put, List.getElem_toArray, List.getElem_cons_succ, List.getElem_cons_zero, List.setIfInBounds_toArray, List.set_cons_zero, List.set_cons_succ]
        refine wpAnyH_take (i := 3) (oi := _) (v := ?_) rfl (by kernel_rfl) (by kernel_rfl) (by kernel_rfl) (fun _ _ _ h => h) (Or.inl ⟨by rfl, ?_⟩) (by assumption) ?_
        rotate_left
        · intro w hSw
          (try dsimp only at hSw)
          go_simp
          try (with_reducible rfl)
        try simp only [Act.put, List.getElem_toArray, List.getElem_cons_succ, List.getElem_cons_zero, List.setIfInBounds_toArray, List.set_cons_zero, List.set_cons_succ]
        refine wpAnyH_take (i := 4) (oi := _) (v := ?_) rfl (by kernel_rfl) (by kernel_rfl) (by kernel_rfl) (fun _ _ _ h => h) (Or.inl ⟨by rfl, ?_⟩) (by assumption) ?_
        rotate_left
        · intro w hSw
          (try dsimp only at hSw)
          go_simp
          try (with_reducible rfl)
        try simp only [Act.put, List.getElem_toArray, List.getElem_cons_succ, List.getElem_cons_zero, List.setIfInBounds_toArray, List.set_cons_zero, List.set_cons_succ]
        refine wpAnyH_take (i := 5) (oi := _) (v := ?_) rfl (by kernel_rfl) (by kernel_rfl) (by kernel_rfl) (fun _ _ _ h => h) (Or.inl ⟨by rfl, ?_⟩) (by assumption) ?_
        rotate_left
        · intro w hSw
          (try dsimp only at hSw)
          go_simp
          try (with_reducible rfl)
        try simp only [Act.put, List.getElem_toArray, List.getElem_cons_succ, List.getElem_cons_zero, List.setIfInBounds_toArray, List.set_cons_zero, List.set_cons_succ]
        refine wpAnyH_take (i := 6) (oi := _) (v := ?_) rfl (by kernel_rfl) (by kernel_rfl) (by kernel_rfl) (fun _ _ _ h => h) (Or.inl ⟨by rfl, ?_⟩) (by assumption) ?_
        rotate_left
        · intro w hSw
          (try dsimp only at hSw)
          go_simp
          try (with_reducible rfl)
        try simp only [Act.put, List.getElem_toArray, List.getElem_cons_succ, List.getElem_cons_zero, List.setIfInBounds_toArray, List.set_cons_zero, List.set_cons_succ]
        refine wpAnyH_take (i := 7) (oi := _) (v := ?_) rfl (by kernel_rfl) (by kernel_rfl) (by kernel_rfl) (fun _ _ _ h => h) (Or.inl ⟨by rfl, ?_⟩) (by assumption) ?_
        rotate_left
        · intro w hSw
          (try dsimp only at hSw)
          go_simp
          try (with_reducible rfl)
        try simp only [Act.put, List.getElem_toArray, List.getElem_cons_succ, List.getElem_cons_zero, List.setIfInBounds_toArray, List.set_cons_zero, List.set_cons_succ]
        refine wpAnyH_ready (rs := [8]) (by kernel_rfl) (by simp) ?_
        refine AllReadyH.cons rfl (fun Kz hKz => ?_) ?_
        rotate_left
        · exact AllReadyH.nil
        go_simp
        refine hKz.out _ _ ?_ (fun hHeld => ?_)
        · exact (Mod.refl (fun b => b = g) wr).drew
        clear hKz Kz
        try simp only [Act.put, List.getElem_toArray, List.getElem_cons_succ, List.getElem_cons_zero, List.setIfInBounds_toArray, List.set_cons_zero, List.set_cons_succ]
        refine wpAnyH_ready (rs := [9]) (by kernel_rfl) (by simp) ?_
        refine AllReadyH.cons rfl (fun Kz hKz => ?_) ?_
        rotate_left
        · exact AllReadyH.nil
        go_simp
        go_at_call 60
        refine (cloneInt_any _ _ _ x.ps _ (hw0.out.ext ((Ext.refl wr).god)).rdC hrn).mono ?_
        rintro e w1 ⟨v, rfl, ow1, G1⟩
        rw [← ints_flat] at ow1
        obtain ⟨A9, c9, rfl, hc9, hr9⟩ := own_rd ow1
        have hf9 := fun b o (e : A9 = some ⟨b, o, none⟩) => (show wr.heap.size ≤ b by subst e; exact (ow1.lt b rfl).1)
        have B9 := (G1.block g hgl).trans hcur'.out
        have z9 := frozenIn B9 (k * 5 + 4)
        have y9 : w1.cell? ⟨g, k * 5 + 4, none⟩ = some (.slice x.A x.n x.c) := (cellsAt B9 _).trans (hcc'.out k x hxk'.out 4 (by decide))
        have g9 := lt_of_block B9
        have hHeld : Mod (fun b => b = g) wr w1 := ((Mod.refl (fun b => b = g) wr).drew).trans (G1.mod _)
        try dsimp only
        refine hKz.out _ _ ?_ (fun hHeld => ?_)
        · first | assumption | (dsimp only; assumption)
        clear hKz Kz
        try simp only [Act.put, List.getElem_toArray, List.getElem_cons_succ, List.getElem_cons_zero, List.setIfInBounds_toArray, List.set_cons_zero, List.set_cons_succ]
        refine wpAnyH_take (i := 10) (oi := _) (v := ?_) rfl (by kernel_rfl) (by kernel_rfl) (by kernel_rfl) (fun _ _ _ h => h) (Or.inl ⟨by rfl, ?_⟩) (by assumption) ?_
        rotate_left
        · intro w hSw
          (try dsimp only at hSw)
          go_simp
          try (with_reducible rfl)
        try simp only [Act.put, List.getElem_toArray, List.getElem_cons_succ, List.getElem_cons_zero, List.setIfInBounds_toArray, List.set_cons_zero, List.set_cons_succ]
        refine wpAnyH_take (i := 11) (oi := _) (v := ?_) rfl (by kernel_rfl) (by kernel_rfl) (by kernel_rfl) (fun _ _ _ h => h) (Or.inl ⟨by rfl, ?_⟩) (by assumption) ?_
        rotate_left
        · intro w hSw
          (try dsimp only at hSw)
          go_simp
          try (with_reducible rfl)
        try simp only [Act.put, List.getElem_toArray, List.getElem_cons_succ, List.getElem_cons_zero, List.setIfInBounds_toArray, List.set_cons_zero, List.set_cons_succ]
        refine wpAnyH_ready (rs := [12]) (by kernel_rfl) (by simp) ?_
        refine AllReadyH.cons rfl (fun Kz hKz => ?_) ?_
        rotate_left
        · exact AllReadyH.nil
        go_simp
        refine hKz.out _ _ ?_ (fun hHeld => ?_)
        · exact hHeld.setCell (p := ⟨g, k * 5 + 4, none⟩) (.inl rfl) _
        clear hKz Kz
        try simp only [Act.put, List.getElem_toArray, List.getElem_cons_succ, List.getElem_cons_zero, List.setIfInBounds_toArray, List.set_cons_zero, List.set_cons_succ]
        refine wpAnyH_done (by kernel_rfl) ?_ _
        have BN := sets_block B9 (k * 5 + 4) (.slice A9 x.n c9)
        have BN' := Lib.hid BN
        have MN := hHeld
        have MN' := Lib.hid MN
        have RN : RdI (w1.setCell ⟨g, k * 5 + 4, none⟩ (.slice A9 x.n c9)) (w1.setCell ⟨g, k * 5 + 4, none⟩ (.slice A9 x.n c9)).heap.size .i64 A9 x.n x.ps := hr9.turned ((Mod.refl (fun b => b = g) w1).setCell (p := ⟨g, k * 5 + 4, none⟩) (.inl rfl) _) (fun b o e => by have := hf9 b o e; omega)
        have RN' := Lib.hid RN
        clear qb y4 y9 z9 BN MN RN hHeld ow1 hr9 B9
        go_wp2_with fail
        go_roundw
        case rel =>
          refine ⟨k + 1, Efys.set k { x with A := A9, c := c9 }, by omega, by go_num, hM'.out.trans (MN'.out.weak fun b hb => ⟨0, by rw [hb]⟩), by rw [List.length_set]; exact hyl'.out, fun _ => ⟨g, rfl, _, BN'.out, ?_⟩, ?_, fun j y hy hj => ?_, fun j hj => by rw [List.getElem?_set_ne (by omega)]; exact hyt'.out j (by omega)⟩
          · exact Efrow_put hcc'.out hxk'.out hcur'.out A9 c9
          · rw [List.map_set, show (Ef.strip { x with A := A9, c := c9 }) = Ef.strip x from rfl, ← hys'.out]
            apply List.ext_getElem?
            intro j
            rw [List.getElem?_set]
            split
            · rename_i e; subst e
              split
              · rw [List.getElem?_map, hxk'.out]; rfl
              · rename_i h1; exact absurd (by rw [List.length_map, hyl'.out]; exact hlt) h1
            · rfl
          · by_cases e : j = k
            · subst e
              rw [List.getElem?_set_self (by rw [hyl'.out]; exact hlt)] at hy
              cases hy
              exact ⟨RN'.out, hc9.1, hc9.2, fun b o e => by have := hf9 b o e; omega⟩
            · rw [List.getElem?_set_ne (fun h => e h.symm)] at hy
              obtain ⟨d1, d2, d3, d4⟩ := hyd'.out j y hy (by omega)
              exact ⟨d1.turned MN'.out (fun b o e => by have := d4 b o e; omega), d2, d3, d4⟩
        case measure => simp [intOf]; omega
      obtain rfl : ne = k := by omega
      obtain ⟨X6, hX6⟩ : ∃ X, X = wr := ⟨_, rfl⟩
      subst hX6
      have zsC := hyl'.out
      have hErow : RdC Ef.cells 5 X6 X6.heap.size A4 ne Efys := ⟨zsC, fun hn => by
        obtain ⟨g, e, cur, h1, h2⟩ := hyr'.out hn
        exact ⟨g, 0, e, lt_of_block h1, fun j x hx i hi => by rw [Nat.zero_add]; exact (cellsAt h1 _).trans (h2 j x hx i hi)⟩⟩
      have BX := BL'.out
      have RX := RL'.out
      have gs6 := lt_of_block BX
      have gr6 := lt_of_block RX
      have v0 : X6.cell? ⟨s, 0, none⟩ = some (.int .i64 rt) := cellsAt BX 0
      have t0 : X6.cell? ⟨s + 1, 0, none⟩ = some (.int .i64 0) := cellsAt RX 0
      have z0 := frozenIn RX 0
      have v1 : X6.cell? ⟨s, 1, none⟩ = some (.int .i64 wt) := cellsAt BX 1
      have t1 : X6.cell? ⟨s + 1, 1, none⟩ = some (.int .i64 0) := cellsAt RX 1
      have z1 := frozenIn RX 1
      have v2 : X6.cell? ⟨s, 2, none⟩ = some (.int .i64 bk) := cellsAt BX 2
      have t2 : X6.cell? ⟨s + 1, 2, none⟩ = some (.int .i64 0) := cellsAt RX 2
      have z2 := frozenIn RX 2
      have v3 : X6.cell? ⟨s, 3, none⟩ = some (.int .i64 cy) := cellsAt BX 3
      have t3 : X6.cell? ⟨s + 1, 3, none⟩ = some (.int .i64 0) := cellsAt RX 3
      have z3 := frozenIn RX 3
      have v4 : X6.cell? ⟨s, 4, none⟩ = some (.string key) := cellsAt BX 4
      have t4 : X6.cell? ⟨s + 1, 4, none⟩ = some (.string { data := #[] }) := cellsAt RX 4
      have z4 := frozenIn RX 4
      have v5 : X6.cell? ⟨s, 5, none⟩ = some (.slice A0 nd c0) := cellsAt BX 5
      have t5 : X6.cell? ⟨s + 1, 5, none⟩ = some (.slice none 0 0) := cellsAt RX 5
      have z5 := frozenIn RX 5
      have v6 : X6.cell? ⟨s, 6, none⟩ = some (.slice A1 np c1) := cellsAt BX 6
      have t6 : X6.cell? ⟨s + 1, 6, none⟩ = some (.slice none 0 0) := cellsAt RX 6
      have z6 := frozenIn RX 6
      have v7 : X6.cell? ⟨s, 7, none⟩ = some (.slice A2 nc c2) := cellsAt BX 7
      have t7 : X6.cell? ⟨s + 1, 7, none⟩ = some (.slice none 0 0) := cellsAt RX 7
      have z7 := frozenIn RX 7
      have v8 : X6.cell? ⟨s, 8, none⟩ = some (.slice A4 ne c4) := cellsAt BX 8
      have t8 : X6.cell? ⟨s + 1, 8, none⟩ = some (.slice none 0 0) := cellsAt RX 8
      have z8 := frozenIn RX 8
      have MF : Mod (fun b => b = s + 1) X6 (((((((((X6.setCell ⟨s + 1, 0, none⟩ (.int .i64 rt)).setCell ⟨s + 1, 1, none⟩ (.int .i64 wt)).setCell ⟨s + 1, 2, none⟩ (.int .i64 bk)).setCell ⟨s + 1, 3, none⟩ (.int .i64 cy)).setCell ⟨s + 1, 4, none⟩ (.string key)).setCell ⟨s + 1, 5, none⟩ (.slice A0 nd c0)).setCell ⟨s + 1, 6, none⟩ (.slice A1 np c1)).setCell ⟨s + 1, 7, none⟩ (.slice A2 nc c2)).setCell ⟨s + 1, 8, none⟩ (.slice A4 ne c4)) := ((((((((((Mod.refl (fun b => b = s + 1) X6).setCell (p := ⟨s + 1, 0, none⟩) (.inl rfl) (.int .i64 rt)).setCell (p := ⟨s + 1, 1, none⟩) (.inl rfl) (.int .i64 wt)).setCell (p := ⟨s + 1, 2, none⟩) (.inl rfl) (.int .i64 bk)).setCell (p := ⟨s + 1, 3, none⟩) (.inl rfl) (.int .i64 cy)).setCell (p := ⟨s + 1, 4, none⟩) (.inl rfl) (.string key)).setCell (p := ⟨s + 1, 5, none⟩) (.inl rfl) (.slice A0 nd c0)).setCell (p := ⟨s + 1, 6, none⟩) (.inl rfl) (.slice A1 np c1)).setCell (p := ⟨s + 1, 7, none⟩) (.inl rfl) (.slice A2 nc c2)).setCell (p := ⟨s + 1, 8, none⟩) (.inl rfl) (.slice A4 ne c4))
      have RF : (((((((((X6.setCell ⟨s + 1, 0, none⟩ (.int .i64 rt)).setCell ⟨s + 1, 1, none⟩ (.int .i64 wt)).setCell ⟨s + 1, 2, none⟩ (.int .i64 bk)).setCell ⟨s + 1, 3, none⟩ (.int .i64 cy)).setCell ⟨s + 1, 4, none⟩ (.string key)).setCell ⟨s + 1, 5, none⟩ (.slice A0 nd c0)).setCell ⟨s + 1, 6, none⟩ (.slice A1 np c1)).setCell ⟨s + 1, 7, none⟩ (.slice A2 nc c2)).setCell ⟨s + 1, 8, none⟩ (.slice A4 ne c4)).heap[s + 1]? = some (.cells #[.int .i64 rt, .int .i64 wt, .int .i64 bk, .int .i64 cy, .string key, .slice A0 nd c0, .slice A1 np c1, .slice A2 nc c2, .slice A4 ne c4] 27 (0, 0)) := by have := (sets_block (sets_block (sets_block (sets_block (sets_block (sets_block (sets_block (sets_block (sets_block RX 0 (.int .i64 rt)) 1 (.int .i64 wt)) 2 (.int .i64 bk)) 3 (.int .i64 cy)) 4 (.string key)) 5 (.slice A0 nd c0)) 6 (.slice A1 np c1)) 7 (.slice A2 nc c2)) 8 (.slice A4 ne c4)); simpa using this
      have MF' := Lib.hid MF
      have RF' := Lib.hid RF
      have EX := EL'
      have hEM := hM'
      have hEs := hys'
      have hEd := hyd'
      have hErow := Lib.hid hErow
      clear BX RX MF RF hyr' hyt'
      go_wp2_with fail
      generalize (((((((((X6.setCell ⟨s + 1, 0, none⟩ (.int .i64 rt)).setCell ⟨s + 1, 1, none⟩ (.int .i64 wt)).setCell ⟨s + 1, 2, none⟩ (.int .i64 bk)).setCell ⟨s + 1, 3, none⟩ (.int .i64 cy)).setCell ⟨s + 1, 4, none⟩ (.string key)).setCell ⟨s + 1, 5, none⟩ (.slice A0 nd c0)).setCell ⟨s + 1, 6, none⟩ (.slice A1 np c1)).setCell ⟨s + 1, 7, none⟩ (.slice A2 nc c2)).setCell ⟨s + 1, 8, none⟩ (.slice A4 ne c4)) = W at *
      have u := cellsAt RF'.out
      have u0 := u 0
      have u1 := u 1
      have u2 := u 2
      have u3 := u 3
      have u4 := u 4
      have u5 := u 5
      have u6 := u 6
      have u7 := u 7
      have u8 := u 8
      refine bodyPost_ret (v := .agg #[.int .i64 rt, .int .i64 wt, .int .i64 bk, .int .i64 cy, .string key, .slice A0 nd c0, .slice A1 np c1, .slice A2 nc c2, .slice A4 ne c4]) (by simp [results, Tryz.results25, go_sem, u0, u1, u2, u3, u4, u5, u6, u7, u8]) rfl ?_
      have sw := hs'.out
      have zz1 := M0.size
      have zz2 := M1.size
      have zz3 := M2.size
      have zz4 := M4.size
      have zz5 := hEM.out.size
      have MX : Mod (fun b => b = s ∨ b = s + 1 ∨ ∃ o, A4 = some ⟨b, o, none⟩) X4 W := ((M4.weak fun b hb => .inl hb).trans (hEM.out.weak fun b hb => .inr (.inr hb))).trans (MF'.out.weak fun b hb => .inr (.inl hb))
      have f4 : ∀ b o, A4 = some ⟨b, o, none⟩ → X4.heap.size ≤ b := fr4
      have M3 : Mod (fun b => b = s ∨ b = s + 1 ∨ X2.heap.size ≤ b) X2 W := (((M2.weak fun b hb => .inl hb).trans (hC2.out.weak fun b ⟨o, e⟩ => .inr (.inr (hA2.out b o e).1))).trans (MX.weak fun b hb => by
        rcases hb with h | h | ⟨o, h⟩
        · exact .inl h
        · exact .inr (.inl h)
        · exact .inr (.inr (by have := f4 b o h; omega))))
      have MM1 : Mod (fun b => b = s ∨ b = s + 1 ∨ X2.heap.size ≤ b) X1 W := (M1.weak fun b hb => .inl hb).trans M3
      refine ⟨⟨rt, wt, bk, cy, key, A0, nd, c0, dvs, A1, np, c1, pts, A2, nc, c2, Cays, A4, ne, c4, Efys⟩, rfl, ⟨⟨?_, ?_, ?_, ?_, ?_, ?_, ⟨⟨hc0, hm0⟩, ⟨hc1, hm1⟩, ⟨hc2, hm2⟩, ⟨hc4, hm4⟩⟩⟩, fun b o e => by have := fr0 b o e; omega, fun b o e => by have := fr1 b o e; omega, fun b o e => by have := fr2 b o e; omega, fun b o e => by have := fr4 b o e; omega, ?_, ?_⟩, ⟨rfl, rfl, rfl, rfl, rfl, rfl, rfl, hCs.out, hEs.out⟩, EX.out.goM MF'.out (fun i hi => by omega)⟩
      · exact D0.out.mod MM1 (fun hn b o e hb => by have h1 := fr0 b o e; have h2 := ltA0 b o e; omega)
      · exact D1.out.mod M3 (fun hn b o e hb => by have h1 := fr1 b o e; have h2 := ltA1 b o e; omega)
      · exact hCrow.out.mod MX (fun hn b o e hb => by
          have h1 := hA2.out b o e
          rcases hb with h | h | ⟨o2, h⟩
          · omega
          · omega
          · have := f4 b o2 h; omega)
      · exact hErow.out.mod MF'.out (fun hn b o e hb => by have := f4 b o e; omega)
      · intro x hx
        obtain ⟨d1, d2, d3, d4⟩ := hCin.out x hx
        refine ⟨d1.turned' MX (fun h0 b o e hb => ?_), d2, d3⟩
        have h1 := d4 b o e
        have h3 := d1.lt_of h0 e
        rcases hb with h | h | ⟨o2, h⟩
        · omega
        · omega
        · have h2 := f4 b o2 h
          omega
      · intro x hx
        obtain ⟨j, hj, e⟩ := List.getElem_of_mem hx
        obtain ⟨d1, d2, d3, d4⟩ := hEd.out j x (by rw [List.getElem?_eq_getElem hj, e]) (by have h1 : Efys.length = ne := zsC; have h2 : j < Efys.length := hj; omega)
        exact ⟨d1.turned' MF'.out (fun h0 b o e hb => by have := d4 b o e; omega), d2, d3⟩
      · intro x hx b o e
        have := (hCin.out x hx).2.2.2 b o e
        show w.heap.size ≤ b
        omega
      · intro x hx b o e
        obtain ⟨j, hj, e2⟩ := List.getElem_of_mem hx
        have := (hEd.out j x (by rw [List.getElem?_eq_getElem hj, e2]) (by have h1 : Efys.length = ne := zsC; have h2 : j < Efys.length := hj; omega)).2.2.2 b o e
        show w.heap.size ≤ b
        omega

end Go.Proofs.YtgajbgdkgelkgaaGreat
