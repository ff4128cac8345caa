/- Words for memory of my own, over any program: slices of numbers that are read; blocks known whole; worlds that differ in new blocks and in some old ones alone. -/
import Derived.WalkKit
import Derived.WalkSpells
import Derived.WalkLawsBesides
import Derived.BigQuiet
import Derived.Lib.Hide
import Derived.Laws.BytesArg
import Derived.Maps.AppendAt
import Derived.Laws.IdiomStrings
namespace Go.Proofs.YtgajbgdkgelkgaaGreat
open Go.RowKit

/-- The slice value '.slice A n c' reads as the numbers xs, of kind k, in cells below block B. -/
def RdI (w : World) (B : Nat) (k : IntKind) (A : Option Addr) (n : Nat) (xs : List Int) : Prop :=
  xs.length = n ∧ (0 < n → ∃ b o, A = some ⟨b, o, none⟩ ∧ b < B ∧ ∀ j, j < n → w.cell? ⟨b, o + j, none⟩ = some (.int k (xs.getD j 0)))

section
variable {w w' : World} {B B' n : Nat} {k : IntKind} {A : Option Addr} {xs : List Int}
theorem RdI.nil (A : Option Addr) : RdI w B k A 0 [] := ⟨rfl, fun h => absurd h (by omega)⟩
theorem RdI.len (h : RdI w B k A n xs) : xs.length = n := h.1
theorem RdI.keep (h : RdI w B k A n xs) (hk : ∀ b, b < B → w'.heap[b]? = w.heap[b]?) : RdI w' B k A n xs :=
  ⟨h.1, fun hn => by
    obtain ⟨b, o, e, hb, hc⟩ := h.2 hn
    exact ⟨b, o, e, hb, fun j hj => (World.cell?_of_block (a := ⟨b, o + j, none⟩) (hk b hb)).trans (hc j hj)⟩⟩
theorem RdI.more (h : RdI w B k A n xs) (hB : B ≤ B') : RdI w B' k A n xs :=
  ⟨h.1, fun hn => by
    obtain ⟨b, o, e, hb, hc⟩ := h.2 hn
    exact ⟨b, o, e, by omega, hc⟩⟩
theorem RdI.below (h : RdI w B k A n xs) (hb : Below B w w') : RdI w' B k A n xs := h.keep fun b hb' => hb.block b hb'
theorem RdI.alloc (h : RdI w B k A n xs) (hB : B ≤ w.heap.size) (o : Obj) : RdI (w.alloc o) B k A n xs := h.keep fun b hb => Below.heap_alloc w o b (by omega)
theorem RdI.ext (h : RdI w w.heap.size k A n xs) (hb : Below w.heap.size w w') : RdI w' w'.heap.size k A n xs := (h.below hb).more hb.size
theorem RdI.convert {P : Program} {src e dst : TypeId} (h : RdI w B .u8 A n xs) (hs : P.underlying src = some (.slice e)) (he : P.underlying e = some (.int .u8)) (hd : P.underlying dst = some .string) (c : Nat) :
    (Go.convert src dst (.slice A n c)).run P w = .ok (.string (strOfNums xs)) w := by
  rcases Nat.eq_zero_or_pos n with h0 | h0
  · subst h0
    obtain rfl : xs = [] := List.eq_nil_of_length_eq_zero h.1
    rw [run_convert_bytes_string w src dst e _ 0 c hs he hd]
    cases A <;> simp [Conv.bytesToString, loadCells]
    all_goals rfl
  · obtain ⟨b, o, rfl, _, hc⟩ := h.2 h0
    exact run_convert_bytes_arg (P := P) w src e hs he b o n c xs h.1 hc dst hd
theorem RdI.lt_of {b o : Nat} (h : RdI w B k A n xs) (hn : 0 < n) (e : A = some ⟨b, o, none⟩) : b < B := by
  obtain ⟨b', o', e', hb, _⟩ := h.2 hn
  rw [e] at e'; injection e' with e'; injection e' with e'; omega
theorem RdI.at_ {j : Nat} (h : RdI w B k A n xs) (hj : j < n) : ∃ b o, A = some ⟨b, o, none⟩ ∧ b < B ∧ w.cell? ⟨b, o + j, none⟩ = some (.int k (xs.getD j 0)) := by
  obtain ⟨b, o, e, hb, hc⟩ := h.2 (by omega)
  exact ⟨b, o, e, hb, hc j hj⟩
end

/-- Below B blocks are as they were, but for those of S. (Streams and tape too.) -/
structure Mod (S : Nat → Prop) (w w' : World) : Prop where
  os : w'.os = w.os
  tape : w'.tape = w.tape
  output : w'.output = w.output
  size : w.heap.size ≤ w'.heap.size
  block : ∀ k, k < w.heap.size → ¬ S k → w'.heap[k]? = w.heap[k]?

theorem Mod.refl (S : Nat → Prop) (w : World) : Mod S w w := ⟨rfl, rfl, rfl, Nat.le_refl _, fun _ _ _ => rfl⟩
section
variable {S S' : Nat → Prop} {a b c w w' : World}
theorem Mod.trans (h : Mod S a b) (k : Mod S b c) : Mod S a c :=
  ⟨k.os.trans h.os, k.tape.trans h.tape, k.output.trans h.output, Nat.le_trans h.size k.size, fun i hi hs => (k.block i (Nat.lt_of_lt_of_le hi h.size) hs).trans (h.block i hi hs)⟩
theorem Mod.drew (h : Mod S a w) : Mod S a w.drew := ⟨h.os, h.tape, h.output, h.size, h.block⟩
theorem Mod.drewN (h : Mod S a w) (n : Nat) : Mod S a (w.drewN n) := ⟨h.os, h.tape, h.output, h.size, h.block⟩
theorem Mod.alloc (h : Mod S a w) (o : Obj) : Mod S a (w.alloc o) :=
  ⟨h.os, h.tape, h.output, Nat.le_trans h.size (by simp), fun i hi hs => (Below.heap_alloc w o i (Nat.lt_of_lt_of_le hi h.size)).trans (h.block i hi hs)⟩
theorem Mod.setCell (h : Mod S a w) {p : Addr} (hp : S p.block ∨ a.heap.size ≤ p.block) (u : Value) : Mod S a (w.setCell p u) :=
  ⟨h.os, h.tape, h.output, by simpa [World.setCell] using h.size, fun i hi hs => (Below.heap_setCell w p u i (by
    rintro rfl
    rcases hp with hp | hp
    · exact hs hp
    · omega)).trans (h.block i hi hs)⟩
theorem Mod.weak (h : Mod S a w) (hs : ∀ i, S i → S' i) : Mod S' a w := ⟨h.os, h.tape, h.output, h.size, fun i hi hn => h.block i hi (fun e => hn (hs i e))⟩
/-- A step that turns blocks of S' alone, all of them of S or new to 'a'. -/
theorem Mod.step (h : Mod S a b) (k : Mod S' b c) (hs : ∀ i, S' i → S i ∨ a.heap.size ≤ i) : Mod S a c :=
  ⟨k.os.trans h.os, k.tape.trans h.tape, k.output.trans h.output, Nat.le_trans h.size k.size, fun i hi hn => (k.block i (Nat.lt_of_lt_of_le hi h.size) (fun e => (hs i e).elim hn (fun h => by omega))).trans (h.block i hi hn)⟩
theorem Mod.grown (h : Mod S a b) {row : Option Nat} (hg : b.grownBy c row) (hr : ∀ k, row = some k → S k ∨ a.heap.size ≤ k) : Mod S a c :=
  h.step (S' := fun i => row = some i) ⟨hg.os, hg.tape, hg.output, hg.size, fun k hk hn => hg.block k hk (fun e => hn e.symm)⟩ hr
theorem Mod.ofBelow (h : Below w.heap.size w w') : Mod S w w' := ⟨h.os, h.tape, h.output, h.size, fun i hi _ => h.block i hi⟩
theorem Mod.below (h : Mod S w w') {B : Nat} (hB : B ≤ w.heap.size) (hs : ∀ i, S i → B ≤ i) : Below B w w' :=
  ⟨h.os, h.tape, h.output, h.size, fun i hi => h.block i (by omega) (fun e => by have := hs i e; omega)⟩
theorem Below.mod {B : Nat} (h : Below B a b) (k : Mod S b c) (hB : B ≤ b.heap.size) (hs : ∀ i, S i → B ≤ i) : Below B a c := h.trans (k.below hB hs)
/-- Two steps that only make memory. -/
theorem Below.next {B : Nat} (h : Below B a b) (k : Below b.heap.size b c) (hB : B ≤ b.heap.size) : Below B a c := h.trans (k.mono hB)
theorem Mod.cell (h : Mod S w w') {g : Nat} (o : Nat) (hg : g < w.heap.size) (hs : ¬ S g) : w'.cell? ⟨g, o, none⟩ = w.cell? ⟨g, o, none⟩ := World.cell?_of_block (a := ⟨g, o, none⟩) (h.block g hg hs)
theorem Mod.frozen (h : Mod S w w') {g : Nat} (o : Nat) (hg : g < w.heap.size) (hs : ¬ S g) : w'.frozen? ⟨g, o, none⟩ = w.frozen? ⟨g, o, none⟩ := World.frozen?_of_block (a := ⟨g, o, none⟩) (h.block g hg hs)
end

/-- Nothing that was there has turned. -/
abbrev Ext (w w' : World) : Prop := Below w.heap.size w w'
section
variable {a b c : World}
theorem Ext.refl (w : World) : Ext w w := Below.refl _ _
theorem Ext.go (h : Ext a b) (k : Ext b c) : Ext a c := Below.trans h (Below.mono k (Below.size h))
theorem Ext.goA (h : Ext a b) (o : Obj) : Ext a (b.alloc o) := Below.alloc h (Below.size h) o
theorem Ext.goD (h : Ext a b) (n : Nat) : Ext a (b.drewN n) := ⟨h.os, h.tape, h.output, h.size, h.block⟩
theorem Ext.god (h : Ext a b) : Ext a b.drew := ⟨h.os, h.tape, h.output, h.size, h.block⟩
theorem Ext.goS (h : Ext a b) {p : Addr} (hp : a.heap.size ≤ p.block) (u : Value) : Ext a (b.setCell p u) := Below.setCell h hp u
theorem Ext.goM {S : Nat → Prop} (h : Ext a b) (k : Mod S b c) (hs : ∀ i, S i → a.heap.size ≤ i) : Ext a c := Below.trans h (k.below (Below.size h) hs)
theorem Ext.goG (h : Ext a b) {row : Option Nat} (hg : b.grownBy c row) (hr : ∀ k, row = some k → a.heap.size ≤ k) : Ext a c := Below.grown h hg (Below.size h) hr
theorem Ext.mod (h : Ext a b) (S : Nat → Prop) : Mod S a b := Mod.ofBelow h
theorem Ext.cell (h : Ext a b) {g : Nat} (o : Nat) (hg : g < a.heap.size) : b.cell? ⟨g, o, none⟩ = a.cell? ⟨g, o, none⟩ := Below.cell h (p := ⟨g, o, none⟩) hg
theorem Ext.frozen (h : Ext a b) {g : Nat} (o : Nat) (hg : g < a.heap.size) : b.frozen? ⟨g, o, none⟩ = a.frozen? ⟨g, o, none⟩ := Below.frozen h (p := ⟨g, o, none⟩) hg
end

/-- The numbers of a string's bytes. -/
def bs (s : ByteArray) : List Int := s.data.toList.map fun b => (b.toNat : Int)
theorem bs_length (s : ByteArray) : (bs s).length = s.size := by unfold bs; rw [List.length_map, Array.length_toList]; rfl

/-- A row of numbers as the cells of a block. -/
def row (k : IntKind) (xs : List Int) : Array Value := (xs.map (Value.int k)).toArray
theorem row_size (k : IntKind) (xs : List Int) : (row k xs).size = xs.length := by simp [row]
theorem row_get (k : IntKind) (xs : List Int) (j : Nat) (h : j < xs.length) : (row k xs)[j]? = some (.int k (xs.getD j 0)) := by
  simp [row, h]
theorem row_set (k : IntKind) (xs : List Int) (j : Nat) (v : Int) : (row k xs).setIfInBounds j (.int k v) = row k (xs.set j v) := by
  apply Array.ext_getElem?
  intro i
  simp only [row, Array.getElem?_setIfInBounds, List.getElem?_toArray, List.getElem?_map, List.size_toArray, List.length_map, List.getElem?_set]
  split
  · subst_vars; split <;> rfl
  · rfl

/-- Block g is just the numbers xs, none frozen. -/
def Blk (w : World) (g : Nat) (e : TypeId) (k : IntKind) (xs : List Int) : Prop := w.heap[g]? = some (.cells (row k xs) e (0, 0))
section
variable {w w' : World} {g : Nat} {e : TypeId} {k : IntKind} {xs : List Int}
theorem Blk.lt (h : Blk w g e k xs) : g < w.heap.size := (Array.getElem?_eq_some_iff.1 h).1
theorem Blk.cell (h : Blk w g e k xs) (j : Nat) (hj : j < xs.length) : w.cell? ⟨g, j, none⟩ = some (.int k (xs.getD j 0)) := by
  rw [cell_of_row w g j _ e (0, 0) h, row_get k xs j hj]
theorem Blk.frozen (h : Blk w g e k xs) (j : Nat) : w.frozen? ⟨g, j, none⟩ = false := by
  unfold Blk at h; simp [World.frozen?, h]
theorem Blk.new (w : World) (e : TypeId) (k : IntKind) (xs : List Int) : Blk (w.alloc (.cells (row k xs) e)) w.heap.size e k xs := heap_alloc_new w _
theorem Blk.alloc (h : Blk w g e k xs) (o : Obj) : Blk (w.alloc o) g e k xs := (Below.heap_alloc w o g h.lt).trans h
theorem Blk.set_ (h : Blk w g e k xs) (j : Nat) (v : Int) : Blk (w.setCell ⟨g, j, none⟩ (.int k v)) g e k (xs.set j v) := by
  unfold Blk at h ⊢
  simp [World.setCell, Array.getElem?_modify, h, row_set]
theorem Blk.far (h : Blk w g e k xs) {p : Addr} (hp : g ≠ p.block) (u : Value) : Blk (w.setCell p u) g e k xs := (Below.heap_setCell w p u g hp).trans h
theorem Blk.below {B : Nat} (h : Blk w g e k xs) (hb : Below B w w') (hg : g < B) : Blk w' g e k xs := (hb.block g hg).trans h
theorem Blk.rd (h : Blk w g e k xs) {B : Nat} (hB : g < B) : RdI w B k (some ⟨g, 0, none⟩) xs.length xs :=
  ⟨rfl, fun _ => ⟨g, 0, rfl, hB, fun j hj => by rw [Nat.zero_add]; exact h.cell j hj⟩⟩
end

/-- What the call owns, as a list that is read. -/
theorem own_rd {w : World} {base n : Nat} {e : TypeId} {k : IntKind} {v : Value} {xs : List Int} (h : w.ownsRow base e 1 v n (xs.map (Value.int k))) :
    ∃ A c, v = .slice A n c ∧ (n ≤ c ∧ c ≤ maxLen) ∧ RdI w w.heap.size k A n xs := by
  have hl : xs.length = n := by have := h.1; simpa using this
  rcases h.2 with ⟨rfl, rfl⟩ | ⟨g, cap, cur, rfl, _, hg, hn, hm, _, ht⟩
  · exact ⟨none, 0, rfl, ⟨Nat.le_refl _, by unfold maxLen; omega⟩, hl, fun h => absurd h (by omega)⟩
  · refine ⟨_, _, rfl, ⟨hn, hm⟩, hl, fun _ => ⟨g, 0, rfl, (Array.getElem?_eq_some_iff.1 hg).1, fun j hj => ?_⟩⟩
    have := h.cells (g := g) rfl j (.int k (xs.getD j 0)) (by rw [List.getElem?_map, List.getElem?_eq_getElem (by omega)]; simp [List.getElem?_eq_getElem (show j < xs.length by omega)])
    rw [Nat.zero_add]
    have hadd : (⟨g, 0, none⟩ : Addr).add j = ⟨g, j, none⟩ := by unfold Addr.add; split <;> simp_all
    rwa [hadd] at this
/-- The cells of block g, from its beginning on, are the numbers xs, and may be written. -/
def Arr (w : World) (g : Nat) (k : IntKind) (xs : List Int) : Prop := ∀ j, j < xs.length → w.cell? ⟨g, j, none⟩ = some (.int k (xs.getD j 0)) ∧ w.frozen? ⟨g, j, none⟩ = false
section
variable {w w' : World} {g : Nat} {e : TypeId} {k : IntKind} {xs : List Int}
theorem Blk.arr (h : Blk w g e k xs) : Arr w g k xs := fun j hj => ⟨h.cell j hj, h.frozen j⟩
theorem Arr.cell (h : Arr w g k xs) (j : Nat) (hj : j < xs.length) : w.cell? ⟨g, j, none⟩ = some (.int k (xs.getD j 0)) := (h j hj).1
theorem Arr.frozen (h : Arr w g k xs) (j : Nat) (hj : j < xs.length) : w.frozen? ⟨g, j, none⟩ = false := (h j hj).2
theorem Arr.keep (h : Arr w g k xs) (hb : w'.heap[g]? = w.heap[g]?) : Arr w' g k xs := fun j hj =>
  ⟨(World.cell?_of_block (a := ⟨g, j, none⟩) hb).trans (h.cell j hj), (World.frozen?_of_block (a := ⟨g, j, none⟩) hb).trans (h.frozen j hj)⟩
theorem Arr.set_ (h : Arr w g k xs) (j : Nat) (v : Int) (hj : j < xs.length) : Arr (w.setCell ⟨g, j, none⟩ (.int k v)) g k (xs.set j v) := fun i hi => by
  rw [List.length_set] at hi
  refine ⟨?_, by simpa using h.frozen i hi⟩
  by_cases e : j = i
  · subst e
    rw [World.cell?_setCell_same w ⟨g, j, none⟩ _ (h.cell j hj), List.getD_eq_getElem?_getD, List.getElem?_set_self hj]; rfl
  · rw [World.cell?_setCell_other w _ _ _ (fun h => e (by injection h)), h.cell i hi, List.getD_eq_getElem?_getD, List.getD_eq_getElem?_getD, List.getElem?_set_ne e]
theorem Arr.rd (h : Arr w g k xs) {B n : Nat} (hB : g < B) (hn : xs.length = n) : RdI w B k (some ⟨g, 0, none⟩) n xs :=
  ⟨hn, fun _ => ⟨g, 0, rfl, hB, fun j hj => by rw [Nat.zero_add]; exact h.cell j (by omega)⟩⟩
end
/-- An empty row that was just laid. -/
theorem own_empty {w : World} {base g : Nat} (e : TypeId) (k : IntKind) (hg : g = w.heap.size) (hb : base ≤ w.heap.size) : (w.alloc (.cells #[] e)).ownsRow base e 1 (.slice (some ⟨g, 0, none⟩) 0 0) 0 (([] : List Int).map (Value.int k)) := by
  subst hg; exact World.ownsRow_made w #[] 0 hb (by unfold maxLen; omega) rfl
/-- A block of numbers is a row of the call's own. -/
theorem Blk.own {w : World} {g base n : Nat} {e : TypeId} {k : IntKind} {xs : List Int} (h : Blk w g e k xs) (hb : base ≤ g) (hn : xs.length = n) (hm : n ≤ 9223372036854775807) : w.ownsRow base e 1 (.slice (some ⟨g, 0, none⟩) n n) n (xs.map (Value.int k)) := by
  subst hn
  exact ⟨by simp, .inr ⟨g, xs.length, row k xs, rfl, hb, h, Nat.le_refl _, by unfold maxLen; omega, by rw [row_size]; omega, by rw [row, Nat.mul_one]; exact List.take_of_length_le (by simp)⟩⟩
theorem own_new {w : World} {base g : Nat} (e : TypeId) (k : IntKind) (x : Int) (hg : g = w.heap.size) (hb : base ≤ g) : (w.alloc (.cells #[.int k x] e)).ownsRow base e 1 (.slice (some ⟨g, 0, none⟩) 1 1) 1 ([x].map (Value.int k)) := by
  subst hg
  exact (Blk.new w e k [x]).own hb rfl (by omega)
theorem alloc_get (w : World) (o : Obj) (i : Nat) : (w.alloc o).heap[i]? = if i = w.heap.size then some o else w.heap[i]? := by
  by_cases h : i = w.heap.size
  · subst h; rw [if_pos rfl]; exact heap_alloc_new w o
  · rw [if_neg h]; show (w.heap.push o)[i]? = _; rw [Array.getElem?_push, if_neg h]
theorem rng_of {lo hi : Int} {ys : List Int} (h0 : lo ≤ 0) (h1 : 0 ≤ hi) (h : ∀ y ∈ ys, lo ≤ y ∧ y ≤ hi) : ∀ j : Nat, lo ≤ ys[j]?.getD 0 ∧ ys[j]?.getD 0 ≤ hi := fun j => by
  cases e : ys[j]? with
  | none => exact ⟨h0, h1⟩
  | some y => exact h y (List.mem_of_getElem? e)
/-- What lies in block g, cell by cell. -/
theorem cellsAt {w : World} {g : Nat} {cs : Array Value} {t : TypeId} (h : w.heap[g]? = some (.cells cs t (0, 0))) : ∀ o, w.cell? ⟨g, o, none⟩ = cs[o]? := fun o => cell_of_row w g o cs t (0, 0) h
/-- The row of the call's own is another block than one that lies below its base. -/
theorem own_far {w : World} {base n : Nat} {e : TypeId} {size : Nat} {v : Value} {xs : List Value} (h : w.ownsRow base e size v n xs) {g : Nat} (hg : g < base) : ¬ v.ownBlock = some g := fun e => by have := (h.lt g e).1; omega
theorem own_far' {w : World} {base n : Nat} {e : TypeId} {size : Nat} {v : Value} {xs : List Value} (h : w.ownsRow base e size v n xs) {g : Nat} (hg : w.heap.size ≤ g) : v.ownBlock ≠ some g := fun e => by have := (h.lt g e).2; omega
/-- A slice of numbers that a call hands back, in memory that was not there. -/
def RetI (k : IntKind) (xs : List Int) (w : World) (e : Ending) (w' : World) : Prop :=
  ∃ A n c, e = .returned (.slice A n c) ∧ n ≤ c ∧ c ≤ maxLen ∧ RdI w' w'.heap.size k A n xs ∧ Ext w w'
/-- A slice that is read stays so where another row of the call's own is written. -/
theorem RdI.far {w w' : World} {B n : Nat} {k : IntKind} {A : Option Addr} {xs : List Int} {v : Value} (h : RdI w B k A n xs) (hm : Mod (fun i => v.ownBlock = some i) w w') (hne : 0 < n → ∀ b o, A = some ⟨b, o, none⟩ → v.ownBlock ≠ some b) : RdI w' w'.heap.size k A n xs :=
  ⟨h.1, fun hn => by
    obtain ⟨b, o, e, hb, hc⟩ := h.2 hn
    have hlt := World.block_lt_of_cell? w _ (hc 0 hn)
    exact ⟨b, o, e, Nat.lt_of_lt_of_le hlt hm.size, fun j hj => (hm.cell (o + j) hlt (hne hn b o e)).trans (hc j hj)⟩⟩
/-- '[]byte(s)': the bytes in new memory. -/
theorem run_toBytes {P : Program} {src dst e : TypeId} (hs : P.underlying src = some .string) (hd : P.underlying dst = some (.slice e)) (he : P.underlying e = some (.int .u8)) (w : World) (s : ByteArray) :
    ∃ c w', (Go.convert src dst (.string s)).run P w = .ok (.slice (some ⟨w.heap.size, 0, none⟩) s.size c) w' ∧ s.size ≤ c ∧ Arr w' w.heap.size .u8 (bs s) ∧ Ext w w' ∧ w.heap.size < w'.heap.size := by
  refine ⟨_, _, run_bytes_of_string w src dst e s hs hd he, grownCap_ge _ _ _ _, fun j hj => ?_, ((Ext.refl w).god).goA _, by simp⟩
  rw [bs_length] at hj
  have hsz : j < (bytesRow s (grownCap w s.size 0 e)).size := by
    have := grownCap_ge w s.size 0 e
    have h2 : s.data.size = s.size := rfl
    simp only [bytesRow, Array.size_append, Array.size_map, Array.size_replicate]; omega
  constructor
  · rw [cell_of_row _ w.heap.size j _ _ _ (heap_alloc_new w.drew _)]
    unfold bytesRow bs
    rw [Array.getElem?_append_left (by simp; exact hj), List.getD_eq_getElem?_getD, List.getElem?_map, Array.getElem?_map, ← Array.getElem?_toList]
    rw [List.getElem?_eq_getElem (show j < s.data.toList.length from hj)]; rfl
  · have h := heap_alloc_new w.drew (.cells (bytesRow s (grownCap w s.size 0 e)) e ((bytesRow s (grownCap w s.size 0 e)).size, (bytesRow s (grownCap w s.size 0 e)).size + 1))
    have h2 : (w.drew.alloc (.cells (bytesRow s (grownCap w s.size 0 e)) e ((bytesRow s (grownCap w s.size 0 e)).size, (bytesRow s (grownCap w s.size 0 e)).size + 1))).heap[w.heap.size]? = some (.cells (bytesRow s (grownCap w s.size 0 e)) e ((bytesRow s (grownCap w s.size 0 e)).size, (bytesRow s (grownCap w s.size 0 e)).size + 1)) := h
    simp only [World.frozen?, h2]
    simp; omega
/-- What a look-up yields. -/
def pickV (z : Value) (r : Option (Nat × Value)) : Value := match r with | some (_, v) => v | none => z
/-- n zeros. -/
def zs (n : Nat) : List Int := List.replicate n 0
theorem zs_length (n : Nat) : (zs n).length = n := by simp [zs]
theorem madeCells_int (k : IntKind) (n : Nat) : madeCells (Value.int k 0).cells n = row k (zs n) := by
  apply Array.ext_getElem?
  intro i
  by_cases h : i < n
  · simp [madeCells, Value.cells, row, zs, h, Nat.mod_one]
  · simp [madeCells, Value.cells, row, zs, h]
theorem run_mkI {P : Program} {t e : TypeId} {k : IntKind} {by_ : Nat} (ht : P.underlying t = some (.slice e)) (hi : (P.info? e).map (fun i => (i.zero, i.size, i.bytes)) = some (some (.int k 0), 1, by_))
    (z : Int) (n : Nat) (hz : z = n) (hb : n * by_ ≤ 281474976710656) (hn : n ≤ 9223372036854775807) (w : World) :
    (Instr.makeSlice t (.int .i64 z) (.int .i64 z)).run P w = .ok (.slice (some ⟨w.heap.size, 0, none⟩) n n) (w.alloc (.cells (row k (zs n)) e)) := by
  obtain ⟨i, h1, h2, h3, h4⟩ := info_parts hi
  have hh : (i.bytes : Int) * (n : Int) ≤ 281474976710656 := by
    rw [h4]
    have : ((n * by_ : Nat) : Int) ≤ 281474976710656 := by omega
    rwa [Int.natCast_mul, Int.mul_comm] at this
  subst hz
  have := run_make (P := P) w t e i _ ht h1 h2 .i64 .i64 (n : Int) (n : Int) (by omega) (Int.le_refl _) hh (by omega)
  rw [h3] at this
  simpa only [Int.toNat_natCast, Nat.mul_one, madeCells_int] using this
theorem RdI.one (w : World) (e : TypeId) (k : IntKind) (x : Int) : RdI (w.alloc (.cells #[.int k x] e)) (w.heap.size + 1) k (some ⟨w.heap.size, 0, none⟩) 1 [x] :=
  ⟨rfl, fun _ => ⟨_, _, rfl, by omega, fun j hj => by
    obtain rfl : j = 0 := by omega
    rw [cell_of_row _ w.heap.size _ #[.int k x] e (0, 0) (heap_alloc_new w _)]; rfl⟩⟩

/-- A block that was just laid, as a list that is read. The number of the block is a letter: it may stand spelled as it likes. -/
theorem RdI.new {w : World} {g n : Nat} {e : TypeId} {k : IntKind} {cs : Array Value} (xs : List Int) (hg : g = w.heap.size) (hcs : cs = row k xs) (hn : xs.length = n) : RdI (w.alloc (.cells cs e)) (g + 1) k (some ⟨g, 0, none⟩) n xs := by
  subst hg hcs hn
  exact (Blk.new w e k xs).rd (by omega)
/-- 'append(s, x..)' on what the call owns, whatever the source. -/
theorem run_appI {P : Program} {t e : TypeId} {k : IntKind} {by_ : Nat} (ht : P.underlying t = some (.slice e)) (hi : (P.info? e).map (fun i => (i.zero, i.size, i.bytes)) = some (some (.int k 0), 1, by_))
    (ty : TypeId) {w : World} {base : Nat} {v : Value} {n : Nat} {xs : List Int} (hown : w.ownsRow base e 1 v n (xs.map (Value.int k))) {B : Nat} {A : Option Addr} {m : Nat} (c : Nat) {ys : List Int} (hr : RdI w B k A m ys)
    (hb : (n + m) * by_ ≤ 140737488355328) (hm : n + m ≤ 9223372036854775807) (hbase : base ≤ w.heap.size) :
    ∃ v' w', (Builtin.append_ #[t, t] ty #[v, .slice A m c]).run P w = .ok v' w' ∧ w'.ownsRow base e 1 v' (n + m) ((xs ++ ys).map (Value.int k)) ∧ w.grownBy w' v.ownBlock ∧
      (v'.ownBlock = v.ownBlock ∨ v'.ownBlock = some w.heap.size) := by
  obtain ⟨i, h1, h2, h3, h4⟩ := info_parts hi
  rcases A with _ | ad
  · have hm0 : m = 0 := by
      rcases Nat.eq_zero_or_pos m with h0 | h0
      · exact h0
      · obtain ⟨b, o, h, _⟩ := hr.2 h0; cases h
    subst hm0
    obtain rfl : ys = [] := List.eq_nil_of_length_eq_zero hr.1
    refine ⟨v, w, ?_, by simpa using hown, World.grownBy.refl w _, .inl rfl⟩
    rcases hown.2 with ⟨rfl, rfl⟩ | ⟨g, cap, cur, rfl, _, _, hnc, _⟩
    · simp [Builtin.append_, run_underlying ht, sizeOf, typeInfo, h1, Builtin.lenOf, Builtin.firstCells]
    · simp [Builtin.append_, run_underlying ht, sizeOf, typeInfo, h1, Builtin.lenOf, Builtin.firstCells, hnc, storeCells]
  · have hcells : ∀ j u, (ys.map (Value.int k))[j]? = some u → w.cell? (ad.add j) = some u := by
      intro j u hu
      have hj : j < ys.length := by
        rcases Nat.lt_or_ge j ys.length with h | h
        · exact h
        · rw [List.getElem?_eq_none (by simpa using h)] at hu; cases hu
      obtain ⟨b, o, h, _, hc⟩ := hr.2 (by have := hr.1; omega)
      injection h with h
      subst h
      have hadd : (⟨b, o, none⟩ : Addr).add j = ⟨b, o + j, none⟩ := by unfold Addr.add; split <;> simp_all
      rw [hadd, hc j (by have := hr.1; omega), ← hu, List.getElem?_map, List.getElem?_eq_getElem hj, List.getD_eq_getElem?_getD, List.getElem?_eq_getElem hj]
      rfl
    obtain ⟨v', w', hrun, a2, a3, _, a5⟩ := run_append_own_at (P := P) w base t ty e i _ 1 by_ ht h1 h2 h3 h4 rfl (by omega) v n _ hown ad m c (ys.map (Value.int k)) (by simpa using hr.1) hcells (ints_oneCell _ _) (by unfold maxLen; omega) hb hbase
    exact ⟨v', w', hrun, by rw [List.map_append]; exact a2, a3, a5⟩

theorem wpList_appI {P : Program} {ops : Array Oper} {rest : List Oper} {o : Oper} {a : Act} {w : World} {Q : Exit → Act → World → Prop} (hgd : Region.wanted o (yielded ops a.tmps) = true) (s x : Operand) (t : TypeId)
    (ho : o.op = .call { callee := .builtin .append, args := #[s, x], argTypes := #[t, t] }) {e : TypeId} {k : IntKind} {by_ : Nat} (ht : P.underlying t = some (.slice e)) (hi : (P.info? e).map (fun i => (i.zero, i.size, i.bytes)) = some (some (.int k 0), 1, by_))
    {base : Nat} {v : Value} {n : Nat} {xs : List Int} (hown : w.ownsRow base e 1 v n (xs.map (Value.int k))) (hs : a.eval s = v) {B : Nat} {A : Option Addr} {m c : Nat} {ys : List Int} (hr : RdI w B k A m ys) (hx : a.eval x = .slice A m c)
    (hb : (n + m) * by_ ≤ 140737488355328) (hm : n + m ≤ 9223372036854775807) (hbase : base ≤ w.heap.size)
    (h : ∀ v' w', w'.ownsRow base e 1 v' (n + m) ((xs ++ ys).map (Value.int k)) → w.grownBy w' v.ownBlock → (v'.ownBlock = v.ownBlock ∨ v'.ownBlock = some w.heap.size) → wpList P ops Q rest (a.put o.dst v') w') : wpList P ops Q (o :: rest) a w := by
  obtain ⟨v', w', hrun, h2, h3, h4⟩ := run_appI (P := P) ht hi o.type hown c hr hb hm hbase
  refine BigFrame.wpList_want hgd fun K hK => ?_
  unfold Oper.wp execOp
  simp only [ho, resolve, invoke, builtin, Sem.run_bind, Sem.run_pure, Result.andThen_ok, List.map_toArray, List.map_cons, List.map_nil, hs, hx, hrun]
  exact hK _ _ (h v' w' h2 h3 h4)
/-- The same where the region draws its order. -/
theorem step_appI {P : Program} {ops : Array Oper} {o : Oper} {a : Act} {w : World} {K : Act → World → Prop} {Q : Exit → Act → World → Prop} {E : Prop} (hgd : Region.wanted o (yielded ops a.tmps) = true) (s x : Operand) (t : TypeId)
    (ho : o.op = .call { callee := .builtin .append, args := #[s, x], argTypes := #[t, t] }) {e : TypeId} {k : IntKind} {by_ : Nat} (ht : P.underlying t = some (.slice e)) (hi : (P.info? e).map (fun i => (i.zero, i.size, i.bytes)) = some (some (.int k 0), 1, by_))
    {base : Nat} {v : Value} {n : Nat} {xs : List Int} (hown : w.ownsRow base e 1 v n (xs.map (Value.int k))) (hs : a.eval s = v) {B : Nat} {A : Option Addr} {m c : Nat} {ys : List Int} (hr : RdI w B k A m ys) (hx : a.eval x = .slice A m c)
    (hb : (n + m) * by_ ≤ 140737488355328) (hm : n + m ≤ 9223372036854775807) (hbase : base ≤ w.heap.size)
    (h : ∀ v' w', w'.ownsRow base e 1 v' (n + m) ((xs ++ ys).map (Value.int k)) → w.grownBy w' v.ownBlock → (v'.ownBlock = v.ownBlock ∨ v'.ownBlock = some w.heap.size) → K (a.put o.dst v') w') :
    if Region.wanted o (yielded ops a.tmps) = true then Oper.wp P o a w K Q else E := by
  rw [if_pos hgd]
  obtain ⟨v', w', hrun, h2, h3, h4⟩ := run_appI (P := P) ht hi o.type hown c hr hb hm hbase
  unfold Oper.wp execOp
  simp only [ho, resolve, invoke, builtin, Sem.run_bind, Sem.run_pure, Result.andThen_ok, List.map_toArray, List.map_cons, List.map_nil, hs, hx, hrun]
  exact h v' w' h2 h3 h4
/-- What the call owns stays where nothing that was there has turned. -/
theorem own_ext {w w' : World} {base n size : Nat} {e : TypeId} {v : Value} {xs : List Value} (h : w.ownsRow base e size v n xs) (E : Ext w w') : w'.ownsRow base e size v n xs :=
  h.kept (row := none) ⟨E.os, E.tape, E.output, E.size, fun k hk _ => E.block k hk⟩ (by cases h : v.ownBlock <;> simp)
end Go.Proofs.YtgajbgdkgelkgaaGreat
