/- A slice of anything, opened; a slice of slices of numbers; an array of four numbers. · A slice of structs that is read. · Layer 8: a matrix, plain, and as it lies in memory. · Rows of the table of types. · A map from int to int64, as a function that is 0 where nothing stands: its laws for the walk. · The builtin copy between slices of numbers. · Layer 15: words for a table of bypasses in memory, and what its calls answer. -/
import Derived.Test.YtgajbgdkgelkgaaGreatOpen
import Derived.Test.YtgajbgdkgelkgaaGreatRows2
import Derived.Deep.Slices
import Derived.Laws.IdiomArrays
import Derived.Test.YtgajbgdkgelkgaaGreatWords
import Derived.Test.YtgajbgdkgelkgaaGreatRows
import Derived.Deep.RegionWith
import Derived.Lib.Bytealg
import Derived.Shelf.Strings.Search1
import Derived.Shelf.Small.Strs
import Derived.Maps.RangeWalk
import Derived.Maps.OwnOps
import Derived.Maps.OwnSet
import Derived.Laws.CopyOwn
namespace Go.Proofs.YtgajbgdkgelkgaaGreat
open Go.ChangeShapes Go.WideShapes Go.ChangeAt Go.RowKit Go.Deep

section
variable {H : Type} {enc : TypeId × Value → H} {P : Program} {W : World} {base : Nat} {sp : Nat → Bool} {hd : Bool}
theorem addr_flat {w : World} {a : Addr} {v : Value} (h : w.cell? a = some v) : ∃ b o, a = ⟨b, o, none⟩ := by
  obtain ⟨b, o, s⟩ := a
  cases s with
  | none => exact ⟨b, o, rfl⟩
  | some q => simp [World.cell?] at h; split at h <;> cases h
theorem addr_add (b o j : Nat) : (⟨b, o, none⟩ : Addr).add j = ⟨b, o + j, none⟩ := by unfold Addr.add; split <;> simp_all
/-- Each element of a slice, by what each reading of it says. -/
theorem openElems {t e : TypeId} {fuel : Nat} {cs : List Value} {x : DataW H × List MemPlace} (Q : List Value → Prop) (sz : Nat) (ht : P.underlying t = some (.slice e)) (hc : P.cellsOf e = sz) (h0 : 0 < sz)
    (hQ : ∀ (fuel : Nat) (cs : List Value) (x : DataW H × List MemPlace), DataW.trod enc P W base sp hd fuel e cs = some x → Q cs) (h : DataW.trod enc P W base sp hd fuel t cs = some x) :
    ∃ (A : Option Addr) (n c : Nat), cs = [.slice A n c] ∧ n ≤ c ∧ c ≤ maxLen ∧ (∀ j, j < n → ∃ b o, A = some ⟨b, o, none⟩ ∧ b < W.heap.size ∧ ∃ vs : List Value, vs.length = sz ∧ Q vs ∧ ∀ i, i < sz → W.cell? ⟨b, o + j * sz + i, none⟩ = vs[i]?) ∧
      ∀ R, (∀ m ∈ x.1.weights P t, m ≤ R) → n * P.bytesOf e ≤ R := by
  rcases open_slice ht h with ⟨rfl, rfl⟩ | ⟨a, len, cap, m, f, D, Pl, rfl, hb, hl, hm, hmm, rfl, hx⟩
  · exact ⟨none, 0, 0, rfl, Nat.le_refl _, by unfold maxLen; omega, fun j hj => absurd hj (by omega), fun R _ => by omega⟩
  · have hlm : len ≤ m := by rw [hmm]; split <;> omega
    refine ⟨some a, len, cap, rfl, hl, hm, fun j hj => ?_, fun R hR => ?_⟩
    · have ha : ∃ b o, a = ⟨b, o, none⟩ := by
        obtain ⟨vs, h1, h2⟩ := hx 0 (by omega)
        obtain ⟨_, hlen, hcell⟩ := World.cells?_some h1
        rw [hc] at hlen hcell
        have c0 := hcell 0 h0
        rw [add_add, Nat.zero_mul, List.getElem?_eq_getElem (by omega)] at c0
        have e0 : a.add (0 + 0) = a := by cases a; simp [Addr.add]
        rw [e0] at c0
        exact addr_flat c0
      obtain ⟨b, o', rfl⟩ := ha
      obtain ⟨vs, h1, h2⟩ := hx j (by omega)
      obtain ⟨_, hlen, hcell⟩ := World.cells?_some h1
      rw [hc] at hlen hcell
      have c0 := hcell 0 h0
      rw [add_add, addr_add, List.getElem?_eq_getElem (by omega)] at c0
      refine ⟨b, o', rfl, World.block_lt_of_cell? W _ c0, vs, hlen, hQ _ _ _ h2, fun i hi => ?_⟩
      rw [← hcell i hi, addr_add, addr_add]
    · have := hR ((((List.range len).map D).length + ((List.range (m - len)).map fun j => D (len + j)).length) * P.bytesOf e) (by
        simp only [DataW.weights, ht]; exact List.mem_cons_self ..)
      simp only [List.length_map, List.length_range] at this
      exact Nat.le_trans (Nat.mul_le_mul_right _ (Nat.le_add_right _ _)) this
/-- A slice of slices of numbers. -/
theorem openSlSl {t e q : TypeId} {k : IntKind} {fuel : Nat} {cs : List Value} {x : DataW H × List MemPlace} (ht : P.underlying t = some (.slice e)) (he : P.underlying e = some (.slice q)) (hq : P.underlying q = some (.int k)) (ce : P.cellsOf e = 1) (cq : P.cellsOf q = 1)
    (h : DataW.trod enc P W base sp hd fuel t cs = some x) :
    ∃ (A : Option Addr) (n c : Nat) (zs : List Sl), cs = [.slice A n c] ∧ n ≤ c ∧ c ≤ maxLen ∧ RdSl W W.heap.size k A n zs ∧ ∀ z ∈ zs, ∀ y ∈ z.xs, (Lit.int k y).wf = true := by
  obtain ⟨A, n, c, rfl, hnc, hcm, hel, _⟩ := openElems (fun cs => ∃ z : Sl, cs = [.slice z.a z.n z.c] ∧ (z.n ≤ z.c ∧ z.c ≤ maxLen) ∧ RdI W W.heap.size k z.a z.n z.xs ∧ ∀ y ∈ z.xs, (Lit.int k y).wf = true) 1 ht ce (by omega)
    (fun fuel cs x h => by
      obtain ⟨A, n, c, xs, h1, h2, h3, h4, h5, _⟩ := openSl he hq cq h
      exact ⟨⟨A, n, c, xs⟩, h1, ⟨h2, h3⟩, h4, h5⟩) h
  have hch : ∀ j, j < n → ∃ z : Sl, (z.n ≤ z.c ∧ z.c ≤ maxLen) ∧ RdI W W.heap.size k z.a z.n z.xs ∧ (∀ y ∈ z.xs, (Lit.int k y).wf = true) ∧ ∃ b o, A = some ⟨b, o, none⟩ ∧ b < W.heap.size ∧ W.cell? ⟨b, o + j, none⟩ = some (.slice z.a z.n z.c) := fun j hj => by
    obtain ⟨b, o, e, hb, vs, _, ⟨z, e1, h1, h2, h3⟩, hcell⟩ := hel j hj
    have := hcell 0 (by omega)
    rw [Nat.mul_one, Nat.add_zero, e1] at this
    exact ⟨z, h1, h2, h3, b, o, e, hb, this⟩
  have : Inhabited Sl := ⟨⟨none, 0, 0, []⟩⟩
  obtain ⟨f, hf⟩ := choose_lt hch
  refine ⟨A, n, c, (List.range n).map f, rfl, hnc, hcm, ⟨by simp, fun j hj => ?_⟩, fun z hz => ?_⟩
  · obtain ⟨h1, h2, h3, b, o, e, hb, hcell⟩ := hf j hj
    exact ⟨b, o, e, hb, f j, List.mem_map.2 ⟨j, List.mem_range.2 hj, rfl⟩, hcell, h1, h2⟩
  · obtain ⟨j, hj, rfl⟩ := List.mem_map.1 hz
    exact (hf j (List.mem_range.1 hj)).2.2.1
theorem okWide_array {r : Reach} {b0 n : Nat} {t e : TypeId} {v : Value} (ht : P.underlying t = some (.array n e)) (h : Value.okWide P W r b0 t v) : ∃ cs, v = .agg cs ∧ cs.size = P.cellsOf t := by
  simp only [Value.okWide, ht] at h
  obtain ⟨cs, h1, h2, _⟩ := h
  exact ⟨cs, h1, h2⟩
/-- An array of four numbers. -/
theorem openArr4 {t e : TypeId} {k : IntKind} {fuel : Nat} {cs : List Value} {x : DataW H × List MemPlace} (ht : P.underlying t = some (.array 4 e)) (he : P.underlying e = some (.int k)) (hc : P.cellsOf e = 1) (hl : cs.length = 4)
    (h : DataW.trod enc P W base sp hd fuel t cs = some x) : ∃ a0 a1 a2 a3 : Int, cs = [.int k a0, .int k a1, .int k a2, .int k a3] := by
  match cs, hl with
  | [v0, v1, v2, v3], _ =>
    obtain ⟨y0, y1, y2, y3, n, _, h0, h1, h2, h3⟩ := trod_array4 ht hc h
    obtain ⟨a0, e0, _, _⟩ := DataW.trod_int he h0
    obtain ⟨a1, e1, _, _⟩ := DataW.trod_int he h1
    obtain ⟨a2, e2, _, _⟩ := DataW.trod_int he h2
    obtain ⟨a3, e3, _, _⟩ := DataW.trod_int he h3
    simp at e0 e1 e2 e3
    exact ⟨a0, a1, a2, a3, by rw [e0, e1, e2, e3]⟩
end
end Go.Proofs.YtgajbgdkgelkgaaGreat
namespace Go.Proofs.YtgajbgdkgelkgaaGreat
open Go.RowKit

/-- The slice '.slice A n c' reads as xs, each element 'sz' cells long, in a block below B. -/
def RdC {α : Type} (cells : α → List Value) (sz : Nat) (w : World) (B : Nat) (A : Option Addr) (n : Nat) (xs : List α) : Prop :=
  xs.length = n ∧ (0 < n → ∃ b o, A = some ⟨b, o, none⟩ ∧ b < B ∧ ∀ j x, xs[j]? = some x → ∀ i, i < sz → w.cell? ⟨b, o + j * sz + i, none⟩ = (cells x)[i]?)
section
variable {α : Type} {cells : α → List Value} {sz : Nat} {w w' : World} {B B' n : Nat} {A : Option Addr} {xs : List α} {S : Nat → Prop}
theorem RdC.nil (cells : α → List Value) (sz : Nat) (w : World) (B : Nat) (A : Option Addr) : RdC cells sz w B A 0 [] := ⟨rfl, fun h => absurd h (by omega)⟩
theorem RdC.len (h : RdC cells sz w B A n xs) : xs.length = n := h.1
theorem RdC.keepB (h : RdC cells sz w B A n xs) (hk : ∀ b o, A = some ⟨b, o, none⟩ → b < B → w'.heap[b]? = w.heap[b]?) : RdC cells sz w' B A n xs :=
  ⟨h.1, fun hn => by
    obtain ⟨b, o, e, hb, hc⟩ := h.2 hn
    exact ⟨b, o, e, hb, fun j x hx i hi => (World.cell?_of_block (a := ⟨b, o + j * sz + i, none⟩) (hk b o e hb)).trans (hc j x hx i hi)⟩⟩
theorem RdC.keep (h : RdC cells sz w B A n xs) (hk : ∀ b, b < B → w'.heap[b]? = w.heap[b]?) : RdC cells sz w' B A n xs := h.keepB fun b _ _ hb => hk b hb
theorem RdC.more (h : RdC cells sz w B A n xs) (hB : B ≤ B') : RdC cells sz w B' A n xs :=
  ⟨h.1, fun hn => by
    obtain ⟨b, o, e, hb, hc⟩ := h.2 hn
    exact ⟨b, o, e, by omega, hc⟩⟩
theorem RdC.below (h : RdC cells sz w B A n xs) (hb : Below B w w') : RdC cells sz w' B A n xs := h.keep fun b hb' => hb.block b hb'
theorem RdC.belowE (h : RdC cells sz w B A n xs) (hB : B ≤ w.heap.size) (hb : Ext w w') : RdC cells sz w' B A n xs := h.keep fun b hb' => hb.block b (by omega)
theorem RdC.ext (h : RdC cells sz w w.heap.size A n xs) (hb : Ext w w') : RdC cells sz w' w'.heap.size A n xs := (h.below hb).more hb.size
theorem RdC.mod (h : RdC cells sz w w.heap.size A n xs) (m : Mod S w w') (hs : 0 < n → ∀ b o, A = some ⟨b, o, none⟩ → ¬ S b) : RdC cells sz w' w'.heap.size A n xs := by
  refine RdC.more ⟨h.1, fun hn => ?_⟩ m.size
  obtain ⟨b, o, e, hb, hc⟩ := h.2 hn
  exact ⟨b, o, e, hb, fun j x hx i hi => (World.cell?_of_block (a := ⟨b, o + j * sz + i, none⟩) (m.block b hb (hs hn b o e))).trans (hc j x hx i hi)⟩
theorem RdC.at_ (h : RdC cells sz w B A n xs) {j : Nat} {x : α} (hx : xs[j]? = some x) : ∃ b o, A = some ⟨b, o, none⟩ ∧ b < B ∧ ∀ i, i < sz → w.cell? ⟨b, o + j * sz + i, none⟩ = (cells x)[i]? := by
  have hj : j < xs.length := by
    rcases Nat.lt_or_ge j xs.length with h | h
    · exact h
    · rw [List.getElem?_eq_none h] at hx; cases hx
  obtain ⟨b, o, e, hb, hc⟩ := h.2 (by have := h.1; omega)
  exact ⟨b, o, e, hb, hc j x hx⟩
theorem RdC.get (h : RdC cells sz w B A n xs) {j : Nat} (hj : j < n) : ∃ x, xs[j]? = some x := ⟨_, List.getElem?_eq_getElem (by have := h.1; omega)⟩
theorem RdC.lt_of {b o : Nat} (h : RdC cells sz w B A n xs) (hn : 0 < n) (e : A = some ⟨b, o, none⟩) : b < B := by
  obtain ⟨b', o', e', hb, _⟩ := h.2 hn
  rw [e] at e'; injection e' with e'; injection e' with e'; omega
/-- What the call owns, read. -/
theorem own_rdC {base : Nat} {e : TypeId} {v : Value} {ys : List Value} (h : w.ownsRow base e sz v n ys) (hl : xs.length = n) (hy : ys = xs.flatMap cells) (hz : ∀ x, (cells x).length = sz) :
    ∃ A c, v = .slice A n c ∧ (n ≤ c ∧ c ≤ maxLen) ∧ RdC cells sz w w.heap.size A n xs ∧ ∀ b o, A = some ⟨b, o, none⟩ → base ≤ b := by
  rcases h.2 with ⟨rfl, rfl⟩ | ⟨g, cap, cur, rfl, hbase, hg, hn, hm, _, ht⟩
  · exact ⟨none, 0, rfl, ⟨Nat.le_refl _, by unfold maxLen; omega⟩, ⟨hl, fun h => absurd h (by omega)⟩, fun b o e => by cases e⟩
  · refine ⟨_, _, rfl, ⟨hn, hm⟩, ⟨hl, fun _ => ⟨g, 0, rfl, (Array.getElem?_eq_some_iff.1 hg).1, fun j x hx i hi => ?_⟩⟩, fun b o e => by injection e with e; injection e with e; omega⟩
    have hflat : ∀ (l : List α) (j : Nat) (x : α), l[j]? = some x → ∀ i, i < sz → (l.flatMap cells)[j * sz + i]? = (cells x)[i]? := by
      intro l
      induction l with
      | nil => intro j x hx; simp at hx
      | cons y l ih =>
        intro j x hx i hi
        rw [List.flatMap_cons]
        cases j with
        | zero =>
          simp at hx
          subst hx
          rw [Nat.zero_mul, Nat.zero_add, List.getElem?_append_left (by rw [hz]; exact hi)]
        | succ j =>
          rw [List.getElem?_append_right (by rw [hz, Nat.add_mul]; omega), hz, ← ih j x (by simpa using hx) i hi]
          congr 1
          rw [Nat.add_mul]; omega
    have hjl : j < xs.length := by
      rcases Nat.lt_or_ge j xs.length with h | h
      · exact h
      · rw [List.getElem?_eq_none h] at hx; cases hx
    have hc := hflat xs j x hx i hi
    have hlt : i < (cells x).length := by rw [hz]; exact hi
    rw [List.getElem?_eq_getElem hlt] at hc ⊢
    rw [← hy] at hc
    have := h.cells (g := g) rfl (j * sz + i) _ hc
    have hadd : (⟨g, 0, none⟩ : Addr).add (j * sz + i) = ⟨g, j * sz + i, none⟩ := by unfold Addr.add; split <;> simp_all
    rw [hadd] at this
    rw [Nat.zero_add]
    exact this
end
end Go.Proofs.YtgajbgdkgelkgaaGreat
namespace Go.Proofs.YtgajbgdkgelkgaaGreat
open Go.RowKit

structure Dv where
  nm : ByteArray
  ln : Int
  un : Int
def Dv.cells (d : Dv) : List Value := [.string d.nm, .int .i64 d.ln, .int .i64 d.un]
structure Pt where
  nm : ByteArray
  dv : Int
  pl : Int
  tr : Int
  on_ : Int
  off : Int
def Pt.cells (p : Pt) : List Value := [.string p.nm, .int .i64 p.dv, .int .i64 p.pl, .int .i64 p.tr, .int .i64 p.on_, .int .i64 p.off]
/-- A cause: its name, votes, lamp, limit, and its points, which are read at A. -/
structure Ca where
  nm : ByteArray
  vt : Int
  lp : Int
  lm : Int
  A : Option Addr
  n : Nat
  c : Nat
  ps : List Int
def Ca.cells (x : Ca) : List Value := [.string x.nm, .int .i64 x.vt, .int .i64 x.lp, .int .i64 x.lm, .slice x.A x.n x.c]
/-- An effect: its name, device, place, safe value, and its causes, which are read at A. -/
structure Ef where
  nm : ByteArray
  dv : Int
  pl : Int
  sf : Int
  A : Option Addr
  n : Nat
  c : Nat
  ps : List Int
def Ef.cells (x : Ef) : List Value := [.string x.nm, .int .i64 x.dv, .int .i64 x.pl, .int .i64 x.sf, .slice x.A x.n x.c]
structure Mx where
  rt : Int
  wt : Int
  bk : Int
  cy : Int
  key : ByteArray
  Ad : Option Addr
  nd : Nat
  cd : Nat
  dvs : List Dv
  Ap : Option Addr
  np : Nat
  cp : Nat
  pts : List Pt
  Ac : Option Addr
  nc : Nat
  cc : Nat
  cas : List Ca
  Ae : Option Addr
  ne : Nat
  ce : Nat
  efs : List Ef
def Mx.cells (m : Mx) : List Value := [.int .i64 m.rt, .int .i64 m.wt, .int .i64 m.bk, .int .i64 m.cy, .string m.key, .slice m.Ad m.nd m.cd, .slice m.Ap m.np m.cp, .slice m.Ac m.nc m.cc, .slice m.Ae m.ne m.ce]
def Mx.val (m : Mx) : Value := .agg #[.int .i64 m.rt, .int .i64 m.wt, .int .i64 m.bk, .int .i64 m.cy, .string m.key, .slice m.Ad m.nd m.cd, .slice m.Ap m.np m.cp, .slice m.Ac m.nc m.cc, .slice m.Ae m.ne m.ce]
theorem Ca.len5 (x : Ca) : x.cells.length = 5 := rfl
theorem Ef.len5 (x : Ef) : x.cells.length = 5 := rfl
/-- What is true of a matrix in memory, below block B. -/
structure OkMx (w : World) (B : Nat) (m : Mx) : Prop where
  dv : RdC Dv.cells 3 w B m.Ad m.nd m.dvs
  pt : RdC Pt.cells 6 w B m.Ap m.np m.pts
  ca : RdC Ca.cells 5 w B m.Ac m.nc m.cas
  ef : RdC Ef.cells 5 w B m.Ae m.ne m.efs
  cao : ∀ x ∈ m.cas, RdI w B .i64 x.A x.n x.ps ∧ x.n ≤ x.c ∧ x.c ≤ maxLen
  efo : ∀ x ∈ m.efs, RdI w B .i64 x.A x.n x.ps ∧ x.n ≤ x.c ∧ x.c ≤ maxLen
  cap : (m.nd ≤ m.cd ∧ m.cd ≤ maxLen) ∧ (m.np ≤ m.cp ∧ m.cp ≤ maxLen) ∧ (m.nc ≤ m.cc ∧ m.cc ≤ maxLen) ∧ (m.ne ≤ m.ce ∧ m.ce ≤ maxLen)
section
variable {w w' : World} {B B' : Nat} {m : Mx}
theorem OkMx.keep (h : OkMx w B m) (hk : ∀ b, b < B → w'.heap[b]? = w.heap[b]?) : OkMx w' B m :=
  ⟨h.dv.keep hk, h.pt.keep hk, h.ca.keep hk, h.ef.keep hk, fun x hx => ⟨(h.cao x hx).1.keep hk, (h.cao x hx).2⟩, fun x hx => ⟨(h.efo x hx).1.keep hk, (h.efo x hx).2⟩, h.cap⟩
theorem OkMx.more (h : OkMx w B m) (hB : B ≤ B') : OkMx w B' m :=
  ⟨h.dv.more hB, h.pt.more hB, h.ca.more hB, h.ef.more hB, fun x hx => ⟨(h.cao x hx).1.more hB, (h.cao x hx).2⟩, fun x hx => ⟨(h.efo x hx).1.more hB, (h.efo x hx).2⟩, h.cap⟩
theorem OkMx.below (h : OkMx w B m) (hb : Below B w w') : OkMx w' B m := h.keep fun b hb' => hb.block b hb'
theorem OkMx.belowE (h : OkMx w B m) (hB : B ≤ w.heap.size) (hb : Ext w w') : OkMx w' B m := h.keep fun b hb' => hb.block b (by omega)
theorem OkMx.mod {S : Nat → Prop} (h : OkMx w B m) (hB : B ≤ w.heap.size) (hm : Mod S w w') (hs : ∀ b, S b → B ≤ b) : OkMx w' B m := h.keep fun b hb => hm.block b (by omega) (fun e => by have := hs b e; omega)
end
end Go.Proofs.YtgajbgdkgelkgaaGreat
namespace Go.Proofs.YtgajbgdkgelkgaaGreat
open Go.RowKit
theorem info_u8 : (Tryz.prog.info? 5).map (fun i => (i.zero, i.size, i.bytes)) = some (some (.int .u8 0), 1, 1) := by kernel_rfl
end Go.Proofs.YtgajbgdkgelkgaaGreat
namespace Go.Proofs.YtgajbgdkgelkgaaGreat
open Go.RowKit Go.Maps Go.ChangeMaps Go.MapKept

theorem keyI : Keyed Tryz.prog 3 := int_keyed Tryz.underlying3
theorem zeroI64 (w : World) : (zeroValue 2).run Tryz.prog w = .ok (.int .i64 0) w := by kernel_rfl
/-- A map's datum reads as a function that is 0 where nothing stands. -/
def Reads (D : DataW Unit) (f : Int → Int) : Prop := ∀ i : Int, Maps.has D (.int .i64 i) = (f i != 0) ∧ D.atKey (.int .i64 i) (.lit (.int .i64 0)) = .lit (.int .i64 (f i))
def fupd (f : Int → Int) (x v : Int) : Int → Int := fun i => if i = x then v else f i
theorem fupd_same (f : Int → Int) (x v : Int) : fupd f x v x = v := if_pos rfl
theorem fupd_other (f : Int → Int) {x i : Int} (v : Int) (h : i ≠ x) : fupd f x v i = f i := if_neg h
theorem Reads.none : Reads (.map []) (fun _ => 0) := fun _ => ⟨rfl, rfl⟩
theorem Reads.put {D : DataW Unit} {f : Int → Int} (h : Reads D f) (hD : IsMap D) (x : Int) {v : Int} (hv : v ≠ 0) : Reads (D.put (.int .i64 x) (.lit (.int .i64 v))) (fupd f x v) := fun i => by
  by_cases e : i = x
  · subst e
    rw [fupd_same]
    exact ⟨by rw [has_put_same hD (k := .int .i64 i) (by exact trivial)]; simp [hv], atKey_put_same hD (k := .int .i64 i) (by exact trivial) _ _⟩
  · rw [fupd_other f v e]
    have hne : (Lit.int IntKind.i64 i) ≠ .int .i64 x := fun h => e (by injection h)
    rw [has_put_other hne, atKey_put_other hne]
    exact h i
theorem Reads.del {D : DataW Unit} {f : Int → Int} (h : Reads D f) (x : Int) : Reads (D.del (.int .i64 x)) (fupd f x 0) := fun i => by
  by_cases e : i = x
  · subst e
    rw [fupd_same]
    exact ⟨by rw [has_del_same]; rfl, atKey_del_same _⟩
  · rw [fupd_other f 0 e]
    have hne : (Lit.int IntKind.i64 i) ≠ .int .i64 x := fun h => e (by injection h)
    rw [has_del_other hne, atKey_del_other hne]
    exact h i
/-- Block b is a map of at most N entries that reads as f. -/
def MapI (w : World) (b N : Nat) (f : Int → Int) : Prop := ∃ D : DataW Unit, w.ownsMap Tryz.prog 3 (plainElem Tryz.prog 2) b N D ∧ Reads D f
section
variable {w w' : World} {b N : Nat} {f : Int → Int}
theorem MapI.lt (h : MapI w b N f) : b < w.heap.size := by obtain ⟨D, h, _⟩ := h; exact h.lt
theorem MapI.keep (h : MapI w b N f) (hb : w'.heap[b]? = w.heap[b]?) : MapI w' b N f := by
  obtain ⟨D, ⟨es, clock, h1, h2⟩, hr⟩ := h
  exact ⟨D, ⟨es, clock, hb.trans h1, h2⟩, hr⟩
theorem MapI.ext (h : MapI w b N f) (E : Ext w w') : MapI w' b N f := h.keep (E.block b h.lt)
theorem MapI.mono (h : MapI w b N f) {M : Nat} (hM : N ≤ M) : MapI w b M f := by obtain ⟨D, h, hr⟩ := h; exact ⟨D, h.mono hM, hr⟩
theorem MapI.congr (h : MapI w b N f) {f' : Int → Int} (hf : ∀ i, f i = f' i) : MapI w b N f' := by rw [show f' = f from funext fun i => (hf i).symm]; exact h
theorem MapI.made (w : World) : MapI (w.alloc (.map #[] 0)) w.heap.size 0 (fun _ => 0) := ⟨_, World.ownsMap_made _ _ _ _, Reads.none⟩
set_option maxRecDepth 100000 in
theorem MapI.look (h : MapI w b N f) {i : Int} (hi : (Lit.int .i64 i).wf = true) : (Instr.lookup 125 (.map (some b)) (.int .i64 i) false).run Tryz.prog w = .ok (.int .i64 (f i)) w := by
  obtain ⟨D, h, hr⟩ := h
  obtain ⟨c, hrun, hat, _⟩ := h.lookup_int keyI Tryz.underlying125 Tryz.underlying2 (zeroI64 w) (keyOf_int_mk Tryz.underlying3 hi)
  rw [(hr i).2] at hat
  injection hat with hat
  injection hat with _ hat
  rw [hrun, hat]
set_option maxRecDepth 100000 in
theorem MapI.look_ok (h : MapI w b N f) {i : Int} (hi : (Lit.int .i64 i).wf = true) : (Instr.lookup 125 (.map (some b)) (.int .i64 i) true).run Tryz.prog w = .ok (.tuple #[.int .i64 (f i), .bool (f i != 0)]) w := by
  obtain ⟨D, h, hr⟩ := h
  obtain ⟨v, ps, hrun, hv⟩ := h.look_ok keyI Tryz.underlying125 (zeroI64 w) (plainElem_int (H := Unit) Tryz.underlying2 (by decide)) (keyOf_int_mk Tryz.underlying3 hi)
  rw [(hr i).2] at hv
  rw [(hr i).1] at hrun
  obtain ⟨c, rfl, hc, _⟩ := plainElem_int_inv Tryz.underlying2 hv
  injection hc with hc _
  injection hc with hc
  injection hc with _ hc
  rw [hrun, hc]
theorem Mod.ofGrown (h : w.grownBy w' (some b)) : Mod (fun i => i = b) w w' := (Mod.refl _ w).grown h (fun k hk => by cases hk; exact .inl rfl)
end
section
variable {ops : Array Oper} {rest : List Oper} {o : Oper} {a : Act} {Q : Exit → Act → World → Prop} {w : World}
theorem wpList_storeI (hg : o.guard = none) (m x v : Operand) (hop : o.op = Op.mapUpdate 125 m x v) {b N : Nat} {f : Int → Int} (hm : a.eval m = .map (some b)) {i c : Int} (hx : a.eval x = .int .i64 i) (hv : a.eval v = .int .i64 c)
    (h : MapI w b N f) (hN : N < maxLen) (hi : (Lit.int .i64 i).wf = true) (hc : (Lit.int .i64 c).wf = true) (hc0 : c ≠ 0)
    (hK : ∀ w', MapI w' b (N + 1) (fupd f i c) → Mod (fun i => i = b) w w' → wpList Tryz.prog ops Q rest (a.put o.dst undef) w') : wpList Tryz.prog ops Q (o :: rest) a w := by
  obtain ⟨D, h, hr⟩ := h
  exact wpList_mapUpdate_own w hg m x v _ hop _ 2 keyI Tryz.underlying125 _ b N D hm h hN _ _ _ hx hv (keyOf_int_mk Tryz.underlying3 hi) _ [] (plainElem_int Tryz.underlying2 hc)
    fun w' h1 h2 => hK w' ⟨_, h1, hr.put h.isMap i hc0⟩ (Mod.ofGrown h2)
theorem wpList_dropI (hg : o.guard = none) (m x : Operand) (hop : o.op = Op.call { callee := Callee.builtin Builtin.delete, args := #[m, x], argTypes := #[125, 3] }) {b N : Nat} {f : Int → Int} (hm : a.eval m = .map (some b)) {i : Int} (hx : a.eval x = .int .i64 i)
    (h : MapI w b N f) (hi : (Lit.int .i64 i).wf = true)
    (hK : ∀ w', MapI w' b N (fupd f i 0) → Mod (fun i => i = b) w w' → wpList Tryz.prog ops Q rest (a.put o.dst (.tuple #[])) w') : wpList Tryz.prog ops Q (o :: rest) a w := by
  obtain ⟨D, h, hr⟩ := h
  exact wpList_delete_own w hg m x _ _ hop 2 keyI Tryz.underlying125 _ b N D hm h _ _ hx (keyOf_int_mk Tryz.underlying3 hi) fun w' h1 h2 => hK w' ⟨_, h1, hr.del i⟩ (Mod.ofGrown h2.grown)
theorem wpList_clearI (hg : o.guard = none) (m : Operand) (hop : o.op = Op.call { callee := Callee.builtin Builtin.clear, args := #[m], argTypes := #[125] }) {b N : Nat} {f : Int → Int} (hm : a.eval m = .map (some b)) (h : MapI w b N f)
    (hK : ∀ w', MapI w' b 0 (fun _ => 0) → Mod (fun i => i = b) w w' → wpList Tryz.prog ops Q rest (a.put o.dst (.tuple #[])) w') : wpList Tryz.prog ops Q (o :: rest) a w := by
  obtain ⟨D, ⟨es, clock, hb, -⟩, -⟩ := h
  refine wpList_plain hg fun K' hK' => ?_
  have hrun : (Builtin.clear_ #[125] o.type #[.map (some b)]).run Tryz.prog w = .ok (.tuple #[]) (setBlock w b (.map #[] clock)) := by
    have h1 : (getObj b).run Tryz.prog w = .ok (.map es clock) w := by simp [getObj, Sem.run, hb]
    have h2 : ∀ o', (setObj b o').run Tryz.prog w = .ok () (setBlock w b o') := fun o' => by simp [setObj, Sem.run, hb, setBlock]
    simp [Builtin.clear_, run_underlying Tryz.underlying125, h1, h2, Result.andThen]
  unfold Oper.wp
  simp [execOp, hop, resolve, invoke, builtin, hm, hrun, Result.andThen]
  refine hK' _ _ (hK _ ⟨.map [], ⟨#[], clock, heap_setBlock_same hb _, ⟨by simp, stamped_empty clock, by simp⟩, Nat.le_refl _, rfl⟩, Reads.none⟩ ?_)
  exact Mod.ofGrown (World.mapTurned.grown ⟨es, clock, #[], clock, hb, rfl⟩)
end
end Go.Proofs.YtgajbgdkgelkgaaGreat
namespace Go.Proofs.YtgajbgdkgelkgaaGreat
open Go.RowKit

theorem wpList_copyI {P : Program} {ops : Array Oper} {rest : List Oper} {o : Oper} {a : Act} {w : World} {Q : Exit → Act → World → Prop} (hgd : o.guard = none) (d s : Operand) (dT sT : TypeId)
    (ho : o.op = .call { callee := .builtin .copy, args := #[d, s], argTypes := #[dT, sT] }) {elem : TypeId} {k : IntKind} (hu : P.underlying dT = some (.slice elem)) (hsz : (P.info? elem).map (·.size) = some 1)
    {dp : Option Addr} {n c : Nat} (hd : a.eval d = .slice dp n c) {A : Option Addr} {m c' : Nat} (hs : a.eval s = .slice A m c')
    {g off : Nat} {e : TypeId} {ds : List Int} (hg : Blk w g e k ds) (hdp : 0 < n → dp = some ⟨g, off, none⟩) (hfit : off + n ≤ ds.length)
    {B : Nat} {ys : List Int} (hr : RdI w B k A m ys)
    (h : ∀ w', Hid (Blk w' g e k (splice ds off (ys.take n))) → Mod (fun i => i = g) w w' → wpList P ops Q rest (a.put o.dst (goInt (min m n : Nat))) w') : wpList P ops Q (o :: rest) a w := by
  have hl : ((ys.take n).map (Value.int k)).length = min m n := by rw [List.length_map, List.length_take, hr.len, Nat.min_comm]
  by_cases h0 : min m n = 0
  · refine wpList_copy_nothing hgd d s dT sT ho elem hu hsz dp A n c m c' hd hs h0 ?_
    have h1 := h w (show Hid (Blk w g e k (splice ds off (ys.take n))) from by
      have : ys.take n = [] := List.eq_nil_of_length_eq_zero (by rw [List.length_take, hr.len]; omega)
      rw [this]
      have e2 : splice ds off [] = ds := by simp [splice]
      rw [e2]
      exact Lib.hid hg) (Mod.refl _ _)
    rw [h0] at h1
    exact h1
  · obtain rfl := hdp (by omega)
    obtain ⟨b, so, rfl, hb, hc⟩ := hr.2 (by omega)
    refine wpList_copy_own hgd d s dT sT ho elem hu hsz g off n c ⟨b, so, none⟩ m c' hd hs (row k ds) e hg ((ys.take n).map (Value.int k)) (by rw [hl]) (fun j v hj => ?_) (by rw [hl, row_size]; omega) (ints_oneCell _ _) ?_
    · have hj' : j < min m n := by
        rcases Nat.lt_or_ge j (min m n) with h2 | h2
        · exact h2
        · rw [List.getElem?_eq_none (by rw [hl]; exact h2)] at hj; cases hj
      have hadd : (⟨b, so, none⟩ : Addr).add j = ⟨b, so + j, none⟩ := by unfold Addr.add; split <;> simp_all
      have hjl : j < ys.length := by rw [hr.len]; omega
      rw [hadd, hc j (by omega), ← hj, List.getElem?_map, List.getElem?_take_of_lt (by omega), List.getElem?_eq_getElem hjl, List.getD_eq_getElem?_getD, List.getElem?_eq_getElem hjl]
      rfl
    · rw [hl]
      refine h _ (Lib.hid ?_) ⟨rfl, rfl, rfl, by simp [World.setRow], fun i _ hi => setRow_other w g i _ hi⟩
      unfold Blk
      rw [setRow_heap w g _ _ e _ hg]
      congr 2
      simp only [row, splice, List.map_append, List.map_take, List.map_drop, List.length_take, hr.len]
      rw [show min m n = min n m from Nat.min_comm m n]
end Go.Proofs.YtgajbgdkgelkgaaGreat
namespace Go.Proofs.YtgajbgdkgelkgaaGreat
open Go.RowKit

theorem info_i64 : (Tryz.prog.info? 2).map (fun i => (i.zero, i.size, i.bytes)) = some (some (.int .i64 0), 1, 8) := by kernel_rfl
theorem info_int : (Tryz.prog.info? 3).map (fun i => (i.zero, i.size, i.bytes)) = some (some (.int .i64 0), 1, 8) := by kernel_rfl
/-- The end of one. -/
def untilE (E : List Int) (i : Int) : Int := if 0 ≤ i then E[i.toNat]?.getD 0 else 0
theorem untilE_of (E : List Int) (i : Nat) : untilE E (i : Int) = E.getD i 0 := by unfold untilE; rw [if_pos (by omega), Int.toNat_natCast, List.getD_eq_getElem?_getD]
def setE (E : List Int) (i v : Int) : List Int := if 0 ≤ i then E.set i.toNat v else E
theorem setE_length (E : List Int) (i v : Int) : (setE E i v).length = E.length := by unfold setE; split <;> simp
theorem fupd_untilE {E : List Int} {i v : Int} (h : (0 ≤ i ∧ i < E.length) ∨ v = 0) (j : Int) : fupd (untilE E) i v j = untilE (setE E i v) j := by
  by_cases h0 : 0 ≤ i
  · obtain ⟨k, rfl⟩ := Int.eq_ofNat_of_zero_le h0
    unfold setE
    rw [if_pos h0, Int.toNat_natCast]
    by_cases e : j = k
    · subst e
      rw [fupd_same, untilE_of, List.getD_eq_getElem?_getD]
      by_cases hk : k < E.length
      · rw [List.getElem?_set_self hk]; rfl
      · rw [List.getElem?_eq_none (by simp; omega)]
        rcases h with h | h
        · omega
        · exact h
    · rw [fupd_other _ _ e]
      unfold untilE
      split
      · rename_i hj
        rw [List.getElem?_set_ne (by omega)]
      · rfl
  · unfold setE
    rw [if_neg h0]
    have hv : v = 0 := by rcases h with h | h; exact absurd h.1 h0; exact h
    subst hv
    by_cases e : j = i
    · subst e; rw [fupd_same]; unfold untilE; rw [if_neg h0]
    · exact fupd_other _ _ e
def RngE (E : List Int) : Prop := ∀ j : Nat, 0 ≤ E[j]?.getD 0 ∧ E[j]?.getD 0 ≤ 2199023255552
theorem RngE.until {E : List Int} (h : RngE E) (i : Int) : 0 ≤ untilE E i ∧ untilE E i ≤ 2199023255552 := by
  unfold untilE
  split
  · exact h _
  · omega
theorem RngE.set {E : List Int} (h : RngE E) (i : Int) {v : Int} (h0 : 0 ≤ v) (h1 : v ≤ 2199023255552) : RngE (setE E i v) := fun j => by
  unfold setE
  split
  · rw [List.getElem?_set]
    split
    · split
      · exact ⟨h0, h1⟩
      · exact ⟨by simp, by simp⟩
    · exact h j
  · exact h j
theorem RngE.zeros (n : Nat) : RngE (zs n) := by
  refine rng_of (by omega) (by omega) fun y hy => ?_
  have := List.eq_of_mem_replicate hy
  omega
theorem until_zeros (n : Nat) (i : Int) : untilE (zs n) i = 0 := by
  have := RngE.zeros n
  unfold untilE
  split
  · unfold zs
    rw [List.getElem?_replicate]
    split <;> rfl
  · rfl
def isB (E : List Int) (i now : Int) : Bool := (untilE E i != 0) && decide (now < untilE E i)
def putC (lims E : List Int) (i ticks now : Int) : Int :=
  if i < 0 ∨ (lims.length : Int) ≤ i then 3
  else if ticks < 1 ∨ lims.getD i.toNat 0 < ticks ∨ 1099511627776 < ticks ∨ now < 0 ∨ 1099511627776 < now then 1
  else if isB E i now = true then 4 else 0
def putE (lims E : List Int) (i ticks now : Int) : List Int := if putC lims E i ticks now = 0 then setE E i (now + ticks) else E
/-- A table lies in block g: its limits in block gl, its ends a map in block gm, of at most N entries. -/
structure Tb (w : World) (g gl gm N : Nat) (lims E : List Int) : Prop where
  head : w.heap[g]? = some (.cells #[.slice (some ⟨gl, 0, none⟩) lims.length lims.length, .map (some gm)] 127 (0, 0))
  row : Blk w gl 2 .i64 lims
  map : MapI w gm N (untilE E)
  len : E.length = lims.length
  n1 : g ≠ gm
  n2 : gl ≠ gm
  rng : RngE E
  fit : lims.length ≤ 140737488351232
section
variable {w w' : World} {g gl gm N : Nat} {lims E : List Int}
theorem Tb.old (h : Tb w g gl gm N lims E) {b : Nat} (hb : b = g ∨ b = gl ∨ b = gm) : b < w.heap.size := by
  rcases hb with rfl | rfl | rfl
  · exact lt_of_block h.head
  · exact h.row.lt
  · exact h.map.lt
theorem Tb.keep (h : Tb w g gl gm N lims E) (hk : ∀ b, b = g ∨ b = gl ∨ b = gm → w'.heap[b]? = w.heap[b]?) : Tb w' g gl gm N lims E :=
  ⟨(hk g (.inl rfl)).trans h.head, (hk gl (.inr (.inl rfl))).trans h.row, h.map.keep (hk gm (.inr (.inr rfl))), h.len, h.n1, h.n2, h.rng, h.fit⟩
theorem Tb.ext (h : Tb w g gl gm N lims E) (D : Ext w w') : Tb w' g gl gm N lims E := h.keep fun b hb => D.block b (h.old hb)
theorem Tb.mod (h : Tb w g gl gm N lims E) {S : Nat → Prop} (M : Mod S w w') (hs : ∀ b, b = g ∨ b = gl ∨ b = gm → ¬ S b) : Tb w' g gl gm N lims E := h.keep fun b hb => M.block b (h.old hb) (hs b hb)
theorem Tb.turn (h : Tb w g gl gm N lims E) {N' : Nat} {E' : List Int} (hm : MapI w' gm N' (untilE E')) (hl : E'.length = E.length) (hr : RngE E') (M : Mod (fun i => i = gm) w w') : Tb w' g gl gm N' lims E' :=
  ⟨(M.block g (h.old (.inl rfl)) h.n1).trans h.head, (M.block gl (h.old (.inr (.inl rfl))) h.n2).trans h.row, hm, hl.trans h.len, h.n1, h.n2, hr, h.fit⟩
theorem Tb.mono (h : Tb w g gl gm N lims E) {M : Nat} (hM : N ≤ M) : Tb w g gl gm M lims E := ⟨h.head, h.row, h.map.mono hM, h.len, h.n1, h.n2, h.rng, h.fit⟩
end
theorem RdI.turned {w w' : World} {k : IntKind} {A : Option Addr} {n : Nat} {xs : List Int} {S : Nat → Prop} (h : RdI w w.heap.size k A n xs) (M : Mod S w w') (hne : ∀ b o, A = some ⟨b, o, none⟩ → ¬ S b) : RdI w' w'.heap.size k A n xs :=
  ⟨h.1, fun hn => by
    obtain ⟨b, o, e, hb, hc⟩ := h.2 hn
    exact ⟨b, o, e, Nat.lt_of_lt_of_le hb M.size, fun j hj => (M.cell (o + j) hb (hne b o e)).trans (hc j hj)⟩⟩
end Go.Proofs.YtgajbgdkgelkgaaGreat
