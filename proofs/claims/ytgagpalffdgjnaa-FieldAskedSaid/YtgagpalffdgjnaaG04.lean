/- Layer 4, the walks: a word of bytes, two at a time. · Layer 4, the walks: what bytes ask for. · Layer 4, the walks: what bytes ask for: reading, one bit. · Layer 4, the walks: what bytes ask for: single registers. -/
import Derived.Test.YtgagpalffdgjnaaG03
import Derived.OneCell
import Derived.Laws.EntriesVeiled
import Derived.Deep.RegionLaw
namespace Go.Proofs.Ytgagpalffdgjnaa
open Go.RowKit

/-- The word at a place of bytes; 0 if these end ahead of its end. -/
def wordAt (l : List Int) (a : Nat) : Int := if l.length < a + 2 then 0 else 256 * l.getD a 0 + l.getD (a + 1) 0
theorem i64_or (x y : Int) (h0 : 0 ≤ x) (h1 : x ≤ 255) (h2 : 0 ≤ y) (h3 : y ≤ 255) : bits .or .i64 (x * 256) y = 256 * x + y := by
  rw [bits_join .i64 32 (by decide) (fun n h0 h1 => by rw [IntKind.wrap_i64]; omega) 8 (x * 256) y (by omega) (by omega) (by omega) h2 (by omega) (by omega)]
  omega
def ByteL (l : List Int) : Prop := ∀ j : Nat, 0 ≤ l[j]?.getD 0 ∧ l[j]?.getD 0 ≤ 255
theorem wordAt_range (l : List Int) (h : ByteL l) (a : Nat) : 0 ≤ wordAt l a ∧ wordAt l a ≤ 65535 := by
  unfold wordAt
  have h1 := h a
  have h2 := h (a + 1)
  rw [List.getD_eq_getElem?_getD, List.getD_eq_getElem?_getD]
  split <;> omega

/-- What a call of 'word' leaves: the block of the place alone has turned. -/
def WordPost (p a : Nat) (l : List Int) (w : World) (e : Ending) (w' : World) : Prop :=
  e = .returned (.int .i64 (wordAt l a)) ∧ w'.heap[p]? = some (.cells #[.int .i64 ((a : Int) + 2)] 3 (0, 0)) ∧ Mod (fun i => i = p) w w'

set_option maxRecDepth 100000 in
set_option maxHeartbeats 1600000 in
theorem word_any (p r a n : Nat) (c : Nat) (A : Option Addr) (B : Nat) (l : List Int) (w : World) (hx : RdI w B .u8 A n l) (hl : ByteL l) (hB : B ≤ p) (ha : a ≤ 1048576)
    (hp : w.heap[p]? = some (.cells #[.int .i64 a] 3 (0, 0))) (hr : w.heap[r]? = some (.cells #[.slice A n c] 34 (0, 0))) (hpr : r ≠ p) :
    Calls Try.prog 130 #[.pointer (some ⟨p, 0, none⟩), .pointer (some ⟨r, 0, none⟩)] w (WordPost p a l w) := by
  have p1 := cell_of_one hp
  have p2 := free_of_one hp
  have r1 := cell_of_one hr
  have hlen := Lib.hid hx.len
  have hp' := Lib.hid hp
  have hset := one_setCell (u := .int .i64 ((a : Int) + 2)) hp
  have hM : Mod (fun i => i = p) w (w.setCell ⟨p, 0, none⟩ (.int .i64 ((a : Int) + 2))) := (Mod.refl (fun i => i = p) w).setCell (p := ⟨p, 0, none⟩) (.inl rfl) _
  have hx' : RdI (w.setCell ⟨p, 0, none⟩ (.int .i64 ((a : Int) + 2))) B .u8 A n l := hx.keep fun b hb => Below.heap_setCell _ _ _ _ (by simp; omega)
  have hset' := Lib.hid hset
  clear hp hr hset
  by_cases hn : n < a + 2
  · have hw : wordAt l a = 0 := by unfold wordAt; rw [hlen.out, if_pos hn]
    have t1 : decide ((n : Int) < (a : Int) + 2) = true := by simp; omega
    clear hx hx'
    go_enter Try.func130, Try.ntmps130
    go_wp2_with fail
    go_ret
    exact ⟨by rw [hw]; rfl, hset'.out, hM⟩
  · have hw : wordAt l a = 256 * l.getD a 0 + l.getD (a + 1) 0 := by unfold wordAt; rw [hlen.out, if_neg hn]
    have t1 : decide ((n : Int) < (a : Int) + 2) = false := by simp; omega
    obtain ⟨b, o, rfl, hb, c1⟩ := hx'.at_ (j := a) (by omega)
    obtain ⟨b', o', e, _, c2⟩ := hx'.at_ (j := a + 1) (by omega)
    injection e with e; injection e with e1 e2; subst e1; subst e2
    clear hx hx'
    have d1 := hl a
    have d2 := hl (a + 1)
    rw [← List.getD_eq_getElem?_getD] at d1 d2
    obtain ⟨x, hx⟩ : ∃ x, l.getD a 0 = x := ⟨_, rfl⟩
    obtain ⟨y, hy⟩ : ∃ y, l.getD (a + 1) 0 = y := ⟨_, rfl⟩
    rw [hx] at d1 c1 hw
    rw [hy] at d2 c2 hw
    have ho := i64_or x y d1.1 d1.2 d2.1 d2.2
    have n1 : (((a : Int) + 2 - 2)).toNat = a := by omega
    have n2 : (((a : Int) + 2 - 1)).toNat = a + 1 := by omega
    clear hx hy
    have u1 : IntKind.i64.wrap (a : Int) = a := by rw [IntKind.wrap_i64]; omega
    have u2 : IntKind.i64.wrap ((a : Int) + 1) = (a : Int) + 1 := by rw [IntKind.wrap_i64]; omega
    have u3 : IntKind.i64.wrap x = x := by rw [IntKind.wrap_i64]; omega
    have u4 : IntKind.i64.wrap (x * 256) = x * 256 := by rw [IntKind.wrap_i64]; omega
    have u5 : IntKind.i64.wrap y = y := by rw [IntKind.wrap_i64]; omega
    have g1 : (a : Int) < n := by omega
    have g2 : (a : Int) + 1 < n := by omega
    have g3 : (0 : Int) ≤ (a : Int) + 1 := by omega
    have g4 : a < n := by omega
    have g5 : a + 1 < n := by omega
    have q1 : decide ((a : Int) < n) = true := by simp; omega
    have q2 : decide ((a : Int) + 1 < n) = true := by simp; omega
    have q3 : (a : Int) + 2 - 1 = (a : Int) + 1 := by omega
    have q4 : decide (0 ≤ (a : Int) + 1) = true := by simp; omega
    go_enter Try.func130, Try.ntmps130
    go_wp2_with fail
    go_quiet (fail)
    go_wp2_with fail
    go_ret
    exact ⟨by rw [hw]; rfl, hset'.out, hM.drewN _⟩
end Go.Proofs.Ytgagpalffdgjnaa
namespace Go.Proofs.Ytgagpalffdgjnaa
open Go.RowKit

/-- The blocks of 'taken': the shape, the bytes, the result, the place, the request. -/
structure Tk (w : World) (g : Nat) (S : Array Value) (B : Value) (R : Array Value) (a : Int) (Q : Array Value) : Prop where
  s : w.heap[g]? = some (.cells S 162 (0, 0))
  b : w.heap[g + 1]? = some (.cells #[B] 34 (0, 0))
  r : w.heap[g + 2]? = some (.cells R 30 (0, 0))
  p : w.heap[g + 3]? = some (.cells #[.int .i64 a] 3 (0, 0))
  q : w.heap[g + 4]? = some (.cells Q 30 (0, 0))
section
variable {w w' : World} {g : Nat} {S : Array Value} {B : Value} {R : Array Value} {a a' : Int} {Q : Array Value}
theorem Tk.new (w : World) (S : Array Value) (B : Value) (R : Array Value) (a : Int) (Q : Array Value) : Tk (((((w.alloc (.cells S 162)).alloc (.cells #[B] 34)).alloc (.cells R 30)).alloc (.cells #[.int .i64 a] 3)).alloc (.cells Q 30)) w.heap.size S B R a Q := by
  constructor
  · rw [alloc_get, if_neg (by simp; omega), alloc_get, if_neg (by simp; omega), alloc_get, if_neg (by simp; omega), alloc_get, if_neg (by simp), alloc_get, if_pos rfl]
  · rw [alloc_get, if_neg (by simp), alloc_get, if_neg (by simp), alloc_get, if_neg (by simp), alloc_get, if_pos (by simp)]
  · rw [alloc_get, if_neg (by simp), alloc_get, if_neg (by simp), alloc_get, if_pos (by simp)]
  · rw [alloc_get, if_neg (by simp), alloc_get, if_pos (by simp)]
  · rw [alloc_get, if_pos (by simp)]
theorem Tk.lt (h : Tk w g S B R a Q) : g + 4 < w.heap.size := lt_of_block h.q
theorem Tk.word (h : Tk w g S B R a Q) (hp : w'.heap[g + 3]? = some (.cells #[.int .i64 a'] 3 (0, 0))) (hm : Mod (fun i => i = g + 3) w w') : Tk w' g S B R a' Q :=
  have hlt := h.lt
  ⟨(hm.block _ (by omega) (by simp)).trans h.s, (hm.block _ (by omega) (by simp)).trans h.b, (hm.block _ (by omega) (by simp)).trans h.r, hp, (hm.block _ (by omega) (by simp)).trans h.q⟩
theorem Tk.ext (h : Tk w g S B R a Q) (e : Ext w w') : Tk w' g S B R a Q :=
  have hlt := h.lt
  ⟨(e.block _ (by omega)).trans h.s, (e.block _ (by omega)).trans h.b, (e.block _ (by omega)).trans h.r, (e.block _ (by omega)).trans h.p, (e.block _ (by omega)).trans h.q⟩
theorem Tk.drew (h : Tk w g S B R a Q) : Tk w.drew g S B R a Q := ⟨h.s, h.b, h.r, h.p, h.q⟩
theorem Tk.keep (h : Tk w g S B R a Q) (hk : ∀ i, i < g + 5 → w'.heap[i]? = w.heap[i]?) : Tk w' g S B R a Q :=
  ⟨(hk _ (by omega)).trans h.s, (hk _ (by omega)).trans h.b, (hk _ (by omega)).trans h.r, (hk _ (by omega)).trans h.p, (hk _ (by omega)).trans h.q⟩
theorem Tk.at_ (h : Tk w g S B R a Q) (e : a = a') : Tk w g S B R a' Q := e ▸ h
theorem own_mod1 {base n size p : Nat} {e : TypeId} {v : Value} {xs : List Value} (h : w.ownsRow base e size v n xs) (hm : Mod (fun i => i = p) w w') (hp : p < base) : w'.ownsRow base e size v n xs :=
  h.kept (row := some p) ⟨hm.os, hm.tape, hm.output, hm.size, fun k hk hn => hm.block k hk (fun e => hn (by rw [e]))⟩ (.inr fun e => by have := (h.lt p e).1; omega)
theorem set_block {i : Nat} {t : TypeId} (h : w.heap[i]? = some (.cells Q t (0, 0))) (j : Nat) (v : Value) : (w.setCell ⟨i, j, none⟩ v).heap[i]? = some (.cells (Q.setIfInBounds j v) t (0, 0)) := by
  simp [World.setCell, Array.getElem?_modify, h]
theorem Tk.setQ (h : Tk w g S B R a Q) (j : Nat) (v : Value) : Tk (w.setCell ⟨g + 4, j, none⟩ v) g S B R a (Q.setIfInBounds j v) :=
  have f : ∀ i, g + 4 ≠ i → (w.setCell ⟨g + 4, j, none⟩ v).heap[i]? = w.heap[i]? := fun i hi => Below.heap_setCell w ⟨g + 4, j, none⟩ v i (Ne.symm hi)
  ⟨(f _ (by omega)).trans h.s, (f _ (by omega)).trans h.b, (f _ (by omega)).trans h.r, (f _ (by omega)).trans h.p, set_block h.q j v⟩
theorem Tk.setP (h : Tk w g S B R a Q) (x : Int) : Tk (w.setCell ⟨g + 3, 0, none⟩ (.int .i64 x)) g S B R x Q :=
  have f : ∀ i, g + 3 ≠ i → (w.setCell ⟨g + 3, 0, none⟩ (.int .i64 x)).heap[i]? = w.heap[i]? := fun i hi => Below.heap_setCell w ⟨g + 3, 0, none⟩ _ i (Ne.symm hi)
  ⟨(f _ (by omega)).trans h.s, (f _ (by omega)).trans h.b, (f _ (by omega)).trans h.r, set_block h.p 0 _, (f _ (by omega)).trans h.q⟩
theorem frozen_block {i : Nat} {t : TypeId} (h : w.heap[i]? = some (.cells Q t (0, 0))) (j : Nat) : w.frozen? ⟨i, j, none⟩ = false := by simp [World.frozen?, h]
theorem five_reads {i : Nat} {t : TypeId} {a0 a1 a2 a3 a4 : Value} (h : w.heap[i]? = some (.cells #[a0, a1, a2, a3, a4] t (0, 0))) (b0 b1 b2 b3 b4 : Value) :
    (w.setCell ⟨i, 0, none⟩ b0).cell? ⟨i, 0, none⟩ = some b0 ∧ ((w.setCell ⟨i, 0, none⟩ b0).setCell ⟨i, 1, none⟩ b1).cell? ⟨i, 1, none⟩ = some b1
    ∧ (((w.setCell ⟨i, 0, none⟩ b0).setCell ⟨i, 1, none⟩ b1).setCell ⟨i, 2, none⟩ b2).cell? ⟨i, 2, none⟩ = some b2
    ∧ ((((w.setCell ⟨i, 0, none⟩ b0).setCell ⟨i, 1, none⟩ b1).setCell ⟨i, 2, none⟩ b2).setCell ⟨i, 3, none⟩ b3).cell? ⟨i, 3, none⟩ = some b3
    ∧ (((((w.setCell ⟨i, 0, none⟩ b0).setCell ⟨i, 1, none⟩ b1).setCell ⟨i, 2, none⟩ b2).setCell ⟨i, 3, none⟩ b3).setCell ⟨i, 4, none⟩ b4).cell? ⟨i, 4, none⟩ = some b4 := by
  have h0 := set_block h 0 b0
  have h1 := set_block h0 1 b1
  have h2 := set_block h1 2 b2
  have h3 := set_block h2 3 b3
  have h4 := set_block h3 4 b4
  exact ⟨cellsAt h0 0, cellsAt h1 1, cellsAt h2 2, cellsAt h3 3, cellsAt h4 4⟩
theorem Ext.five {v : World} {i : Nat} (E : Ext v w) (hi : v.heap.size ≤ i) (b0 b1 b2 b3 b4 : Value) : Ext v (((((w.setCell ⟨i, 0, none⟩ b0).setCell ⟨i, 1, none⟩ b1).setCell ⟨i, 2, none⟩ b2).setCell ⟨i, 3, none⟩ b3).setCell ⟨i, 4, none⟩ b4) :=
  ((((E.goS (p := ⟨i, 0, none⟩) hi b0).goS (p := ⟨i, 1, none⟩) hi b1).goS (p := ⟨i, 2, none⟩) hi b2).goS (p := ⟨i, 3, none⟩) hi b3).goS (p := ⟨i, 4, none⟩) hi b4
theorem setCell_size (w : World) (p : Addr) (v : Value) : (w.setCell p v).heap.size = w.heap.size := by simp [World.setCell]
theorem alloc_size (w : World) (o : Obj) : (w.alloc o).heap.size = w.heap.size + 1 := by simp
theorem five_keep (w : World) (i j : Nat) (h : j ≠ i) (b0 b1 b2 b3 b4 : Value) : (((((w.setCell ⟨i, 0, none⟩ b0).setCell ⟨i, 1, none⟩ b1).setCell ⟨i, 2, none⟩ b2).setCell ⟨i, 3, none⟩ b3).setCell ⟨i, 4, none⟩ b4).heap[j]? = w.heap[j]? := by
  have e : ∀ (w : World) (o : Nat) (v : Value), (w.setCell ⟨i, o, none⟩ v).heap[j]? = w.heap[j]? := fun w o v => Below.heap_setCell w ⟨i, o, none⟩ v j h
  rw [e, e, e, e, e]
theorem RdI.kept {k : IntKind} {n : Nat} {A : Option Addr} {xs : List Int} {C D : Nat} (h : RdI w C k A n xs) (hB : C ≤ D) (hk : 0 < n → ∀ b o, A = some ⟨b, o, none⟩ → w'.heap[b]? = w.heap[b]?) : RdI w' D k A n xs :=
  ⟨h.1, fun hn => by
    obtain ⟨b, o, e, hb, hc⟩ := h.2 hn
    exact ⟨b, o, e, by omega, fun j hj => (World.cell?_of_block (a := ⟨b, o + j, none⟩) (hk hn b o e)).trans (hc j hj)⟩⟩
theorem set_rd {k : IntKind} {n : Nat} {A : Option Addr} {xs : List Int} {C : Nat} (h : RdI w C k A n xs) (hC : C ≤ w.heap.size) (p : Addr) (hA : 0 < n → ∀ b o, A = some ⟨b, o, none⟩ → b ≠ p.block) (u : Value) : RdI (w.setCell p u) (w.setCell p u).heap.size k A n xs :=
  h.kept (by rw [setCell_size]; exact hC) (fun hn b o e => Below.heap_setCell w p u b (hA hn b o e))
theorem five_rd {k : IntKind} {n : Nat} {A : Option Addr} {xs : List Int} {C : Nat} (h : RdI w C k A n xs) (hC : C ≤ w.heap.size) (i : Nat) (hA : 0 < n → ∀ b o, A = some ⟨b, o, none⟩ → b ≠ i) (b0 b1 b2 b3 b4 : Value) :
    RdI (((((w.setCell ⟨i, 0, none⟩ b0).setCell ⟨i, 1, none⟩ b1).setCell ⟨i, 2, none⟩ b2).setCell ⟨i, 3, none⟩ b3).setCell ⟨i, 4, none⟩ b4) (((((w.setCell ⟨i, 0, none⟩ b0).setCell ⟨i, 1, none⟩ b1).setCell ⟨i, 2, none⟩ b2).setCell ⟨i, 3, none⟩ b3).setCell ⟨i, 4, none⟩ b4).heap.size k A n xs :=
  h.kept (by rw [setCell_size, setCell_size, setCell_size, setCell_size, setCell_size]; exact hC) (fun hn b o e => five_keep w i b (hA hn b o e) b0 b1 b2 b3 b4)
theorem RdI.drop {k : IntKind} {n C b o lo : Nat} {xs : List Int} (h : RdI w C k (some ⟨b, o, none⟩) n xs) (hlo : lo ≤ n) : RdI w C k (some ⟨b, o + lo, none⟩) (n - lo) (xs.drop lo) :=
  ⟨by rw [List.length_drop, h.1], fun hn => by
    obtain ⟨b', o', e, hb, hc⟩ := h.2 (by omega)
    injection e with e; injection e with e1 e2
    subst e1 e2
    refine ⟨_, _, rfl, hb, fun j hj => ?_⟩
    have := hc (lo + j) (by omega)
    rw [List.getD_eq_getElem?_getD, List.getElem?_drop, ← List.getD_eq_getElem?_getD, Nat.add_assoc]
    exact this⟩
end

/-- What bytes ask for, handed back. -/
def TakenPost (fc ad qt to : Int) (xs : List Int) (w : World) (e : Ending) (w' : World) : Prop :=
  ∃ A n c, e = .returned (.agg #[.int .i64 fc, .int .i64 ad, .int .i64 qt, .slice A n c, .int .i64 to]) ∧ n ≤ c ∧ c ≤ maxLen ∧ RdI w' w'.heap.size .u16 A n xs ∧ Ext w w' ∧ ∀ b o, A = some ⟨b, o, none⟩ → w.heap.size ≤ b

def wordsAt (l : List Int) (a k : Nat) : List Int := (List.range k).map fun i => wordAt l (a + 2 * i)
theorem wordsAt_succ (l : List Int) (a k : Nat) : wordsAt l a (k + 1) = wordsAt l a k ++ [wordAt l (a + 2 * k)] := by unfold wordsAt; rw [List.range_succ, List.map_append]; rfl
theorem wordsAt_length (l : List Int) (a k : Nat) : (wordsAt l a k).length = k := by simp [wordsAt]
end Go.Proofs.Ytgagpalffdgjnaa
namespace Go.Proofs.Ytgagpalffdgjnaa
open Go.RowKit

set_option maxRecDepth 100000 in
set_option maxHeartbeats 1600000 in
theorem taken_reads (q v : Int) (b : Bool) (A : Option Addr) (n c : Nat) (l : List Int) (w : World) (hx : RdI w w.heap.size .u8 A n l) (hl : ByteL l) (hn : 0 < n) :
    Calls Try.prog 128 #[.agg #[.int .i64 0, .int .i64 q, .int .i64 v, .bool b], .slice A n c] w (TakenPost (l.getD 0 0) (wordAt l 1) (wordAt l 3) 0 [] w) := by
  have hmf : ∀ (fn : Fn) (first cap : Array Value) (w : World), (Instr.makeFunc fn first cap).run Try.prog w = .ok (.func fn first cap) w := fun _ _ _ _ => rfl
  obtain ⟨bb, o, rfl, hbb, c1⟩ := hx.at_ (j := 0) (by omega)
  obtain ⟨x, hx0⟩ : ∃ x, l.getD 0 0 = x := ⟨_, rfl⟩
  have d1 := hl 0
  rw [← List.getD_eq_getElem?_getD] at d1
  rw [hx0] at d1 c1 ⊢
  rw [Nat.add_zero] at c1
  have u3 : IntKind.i64.wrap x = x := by rw [IntKind.wrap_i64]; omega
  have E4 : Ext w ((((w.alloc (.cells #[.int .i64 0, .int .i64 q, .int .i64 v, .bool b] 162)).alloc (.cells #[.slice (some ⟨bb, o, none⟩) n c] 34)).alloc (.cells #[.int .i64 0, .int .i64 0, .int .i64 0, .slice none 0 0, .int .i64 0] 30)).alloc (.cells #[.int .i64 1] 3)) := ((((Ext.refl w).goA _).goA _).goA _).goA _
  have c2 := (E4.cell o hbb).trans c1
  have T0 := Tk.new w #[.int .i64 0, .int .i64 q, .int .i64 v, .bool b] (.slice (some ⟨bb, o, none⟩) n c) #[.int .i64 0, .int .i64 0, .int .i64 0, .slice none 0 0, .int .i64 0] 1 #[.int .i64 x, .int .i64 0, .int .i64 0, .slice none 0 0, .int .i64 0]
  have E0 := E4.goA (.cells #[.int .i64 x, .int .i64 0, .int .i64 0, .slice none 0 0, .int .i64 0] 30)
  have k2 : w.heap.size + 1 + 1 = w.heap.size + 2 := rfl
  have k3 : w.heap.size + 2 + 1 = w.heap.size + 3 := rfl
  have k4 : w.heap.size + 3 + 1 = w.heap.size + 4 := rfl
  have hx' := Lib.hid hx
  clear hx hx0 c1
  go_enter Try.func128, Try.ntmps128
  go_wp2_with fail
  refine (word_any (w.heap.size + 3) (w.heap.size + 1) 1 n c _ w.heap.size l _ (hx'.out.below E0) hl (by omega) (by omega) T0.p T0.b (by omega)).mono ?_
  rintro e w1 ⟨rfl, p1, m1⟩
  have T1 := T0.word p1 m1
  have E1 := E0.goM m1 (fun i hi => by omega)
  have T2 : Tk (w1.setCell ⟨w.heap.size + 4, 1, none⟩ (.int .i64 (wordAt l 1))) w.heap.size #[.int .i64 0, .int .i64 q, .int .i64 v, .bool b] (.slice (some ⟨bb, o, none⟩) n c) #[.int .i64 0, .int .i64 0, .int .i64 0, .slice none 0 0, .int .i64 0] 3 #[.int .i64 x, .int .i64 (wordAt l 1), .int .i64 0, .slice none 0 0, .int .i64 0] := T1.setQ 1 _
  have E2 := E1.goS (p := ⟨w.heap.size + 4, 1, none⟩) (by simp) (.int .i64 (wordAt l 1))
  have f1 := frozen_block T1.q
  have q1 := cellsAt T1.q
  have s2 := cellsAt T2.s
  have T0' := Lib.hid T0
  have T1' := Lib.hid T1
  clear p1 m1 T0 T1 c2 E0 E4
  go_wp2_with fail
  refine (word_any (w.heap.size + 3) (w.heap.size + 1) 3 n c _ w.heap.size l _ (hx'.out.below E2) hl (by omega) (by omega) T2.p T2.b (by omega)).mono ?_
  rintro e w3 ⟨rfl, p3, m3⟩
  have T3 := T2.word p3 m3
  have E3 := E2.goM m3 (fun i hi => by omega)
  have T4 : Tk (w3.setCell ⟨w.heap.size + 4, 2, none⟩ (.int .i64 (wordAt l 3))) w.heap.size #[.int .i64 0, .int .i64 q, .int .i64 v, .bool b] (.slice (some ⟨bb, o, none⟩) n c) #[.int .i64 0, .int .i64 0, .int .i64 0, .slice none 0 0, .int .i64 0] 5 #[.int .i64 x, .int .i64 (wordAt l 1), .int .i64 (wordAt l 3), .slice none 0 0, .int .i64 0] := T3.setQ 2 _
  have E4 := E3.goS (p := ⟨w.heap.size + 4, 2, none⟩) (by simp) (.int .i64 (wordAt l 3))
  have f3 := frozen_block T3.q
  have q3 := cellsAt T3.q
  have f4 := frozen_block T4.r
  have r4 := cellsAt T4.r
  have q4 := cellsAt T4.q
  have T3' := Lib.hid T3
  have T4' := Lib.hid T4
  have T2' := Lib.hid T2
  clear p3 m3 T2 T3 T4 s2 q1 f1 
  go_wp2_with fail
  obtain ⟨z0, z1, z2, z3, z4⟩ := five_reads T4'.out.r (.int .i64 x) (.int .i64 (wordAt l 1)) (.int .i64 (wordAt l 3)) (.slice none 0 0) (.int .i64 0)
  refine bodyPost_ret (v := .agg #[.int .i64 x, .int .i64 (wordAt l 1), .int .i64 (wordAt l 3), .slice none 0 0, .int .i64 0]) (by simp [results, Try.results128, go_sem, z0, z1, z2, z3, z4]) rfl ?_
  exact ⟨_, _, _, rfl, Nat.le_refl _, by unfold maxLen; omega, RdI.nil _, E4.five (by simp) _ _ _ _ _, fun b o e => (nomatch e)⟩

set_option maxRecDepth 100000 in
set_option maxHeartbeats 1600000 in
theorem taken_bit (q v : Int) (A : Option Addr) (n c : Nat) (l : List Int) (w : World) (hx : RdI w w.heap.size .u8 A n l) (hl : ByteL l) (hn : 0 < n) :
    Calls Try.prog 128 #[.agg #[.int .i64 1, .int .i64 q, .int .i64 v, .bool true], .slice A n c] w (TakenPost (l.getD 0 0) (wordAt l 1) 0 0 [wordAt l 3 / 65280] w):= by
  have hmf : ∀ (fn : Fn) (first cap : Array Value) (w : World), (Instr.makeFunc fn first cap).run Try.prog w = .ok (.func fn first cap) w := fun _ _ _ _ => rfl
  obtain ⟨bb, o, rfl, hbb, c1⟩ := hx.at_ (j := 0) (by omega)
  obtain ⟨x, hx0⟩ : ∃ x, l.getD 0 0 = x := ⟨_, rfl⟩
  have d1 := hl 0
  rw [← List.getD_eq_getElem?_getD] at d1
  rw [hx0] at d1 c1 ⊢
  rw [Nat.add_zero] at c1
  have u3 : IntKind.i64.wrap x = x := by rw [IntKind.wrap_i64]; omega
  have E4 : Ext w ((((w.alloc (.cells #[.int .i64 1, .int .i64 q, .int .i64 v, .bool true] 162)).alloc (.cells #[.slice (some ⟨bb, o, none⟩) n c] 34)).alloc (.cells #[.int .i64 0, .int .i64 0, .int .i64 0, .slice none 0 0, .int .i64 0] 30)).alloc (.cells #[.int .i64 1] 3)) := ((((Ext.refl w).goA _).goA _).goA _).goA _
  have c2 := (E4.cell o hbb).trans c1
  have T0 := Tk.new w #[.int .i64 1, .int .i64 q, .int .i64 v, .bool true] (.slice (some ⟨bb, o, none⟩) n c) #[.int .i64 0, .int .i64 0, .int .i64 0, .slice none 0 0, .int .i64 0] 1 #[.int .i64 x, .int .i64 0, .int .i64 0, .slice none 0 0, .int .i64 0]
  have E0 := E4.goA (.cells #[.int .i64 x, .int .i64 0, .int .i64 0, .slice none 0 0, .int .i64 0] 30)
  have k2 : w.heap.size + 1 + 1 = w.heap.size + 2 := rfl
  have k3 : w.heap.size + 2 + 1 = w.heap.size + 3 := rfl
  have k4 : w.heap.size + 3 + 1 = w.heap.size + 4 := rfl
  have hx' := Lib.hid hx
  clear hx hx0 c1
  go_enter Try.func128, Try.ntmps128
  go_wp2_with fail
  refine (word_any (w.heap.size + 3) (w.heap.size + 1) 1 n c _ w.heap.size l _ (hx'.out.below E0) hl (by omega) (by omega) T0.p T0.b (by omega)).mono ?_
  rintro e w1 ⟨rfl, p1, m1⟩
  have T1 := T0.word p1 m1
  have E1 := E0.goM m1 (fun i hi => by omega)
  have T2 : Tk (w1.setCell ⟨w.heap.size + 4, 1, none⟩ (.int .i64 (wordAt l 1))) w.heap.size #[.int .i64 1, .int .i64 q, .int .i64 v, .bool true] (.slice (some ⟨bb, o, none⟩) n c) #[.int .i64 0, .int .i64 0, .int .i64 0, .slice none 0 0, .int .i64 0] 3 #[.int .i64 x, .int .i64 (wordAt l 1), .int .i64 0, .slice none 0 0, .int .i64 0] := T1.setQ 1 _
  have E2 := E1.goS (p := ⟨w.heap.size + 4, 1, none⟩) (by simp) (.int .i64 (wordAt l 1))
  have f1 := frozen_block T1.q
  have q1 := cellsAt T1.q
  have s2 := cellsAt T2.s
  have T0' := Lib.hid T0
  have T1' := Lib.hid T1
  clear p1 m1 T0 T1 c2 E0 E4
  have u6 : (wordAt l 3).tdiv 65280 = wordAt l 3 / 65280 := Int.tdiv_eq_ediv_of_nonneg (wordAt_range l hl 3).1
  have hw3 := wordAt_range l hl 3
  have u7 : IntKind.u16.wrap (wordAt l 3 / 65280) = wordAt l 3 / 65280 := by rw [IntKind.wrap_u16]; omega
  have u8 : IntKind.i64.wrap (wordAt l 3 / 65280) = wordAt l 3 / 65280 := by rw [IntKind.wrap_i64]; omega
  go_wp2_with fail
  refine (word_any (w.heap.size + 3) (w.heap.size + 1) 3 n c _ w.heap.size l _ (hx'.out.below E2) hl (by omega) (by omega) T2.p T2.b (by omega)).mono ?_
  rintro e w3 ⟨rfl, p3, m3⟩
  have T3 := T2.word p3 m3
  have E3 := E2.goM m3 (fun i hi => by omega)
  have T4 : Tk (w3.setCell ⟨w.heap.size + 4, 3, none⟩ (.slice (some ⟨w3.heap.size, 0, none⟩) 1 1)) w.heap.size #[.int .i64 1, .int .i64 q, .int .i64 v, .bool true] (.slice (some ⟨bb, o, none⟩) n c) #[.int .i64 0, .int .i64 0, .int .i64 0, .slice none 0 0, .int .i64 0] 5 #[.int .i64 x, .int .i64 (wordAt l 1), .int .i64 0, .slice (some ⟨w3.heap.size, 0, none⟩) 1 1, .int .i64 0] := T3.setQ 3 _
  have E4 := E3.goS (p := ⟨w.heap.size + 4, 3, none⟩) (by simp) (.slice (some ⟨w3.heap.size, 0, none⟩) 1 1)
  have T3' := Lib.hid T3
  have T2' := Lib.hid T2
  have T4' := Lib.hid T4
  have f3 := frozen_block T3.q
  have q3 := cellsAt T3.q
  have q4 := cellsAt T4.q
  have T5 := T4.ext ((Ext.refl _).goA (.cells #[.int .u16 (wordAt l 3 / 65280)] 43))
  have f5 := frozen_block T5.r
  have r5 := cellsAt T5.r
  have T5' := Lib.hid T5
  have g3 := T3.lt
  clear p3 m3 T2 T3 s2 q1 f1 T4 T5
  go_wp2_with fail
  obtain ⟨z0, z1, z2, z3, z4⟩ := five_reads T5'.out.r (.int .i64 x) (.int .i64 (wordAt l 1)) (.int .i64 0) (.slice (some ⟨w3.heap.size, 0, none⟩) 1 1) (.int .i64 0)
  refine bodyPost_ret (v := .agg #[.int .i64 x, .int .i64 (wordAt l 1), .int .i64 0, .slice (some ⟨w3.heap.size, 0, none⟩) 1 1, .int .i64 0]) (by simp [results, Try.results128, go_sem, z0, z1, z2, z3, z4]) rfl ?_
  have E5 := (E4.goA (.cells #[.int .u16 (wordAt l 3 / 65280)] 43)).five (i := w.heap.size + 2) (by simp) (.int .i64 x) (.int .i64 (wordAt l 1)) (.int .i64 0) (.slice (some ⟨w3.heap.size, 0, none⟩) 1 1) (.int .i64 0)
  refine ⟨_, _, _, rfl, Nat.le_refl _, by unfold maxLen; omega, ?_, E5, fun b o e => by injection e with e; injection e with e; omega⟩
  have r6 : RdI ((w3.setCell ⟨w.heap.size + 4, 3, none⟩ (.slice (some ⟨w3.heap.size, 0, none⟩) 1 1)).alloc (.cells #[.int .u16 (wordAt l 3 / 65280)] 43)) (w3.heap.size + 1) .u16 (some ⟨w3.heap.size, 0, none⟩) 1 [wordAt l 3 / 65280] :=
    RdI.new [wordAt l 3 / 65280] (setCell_size _ _ _).symm rfl rfl
  exact five_rd r6 (by rw [alloc_size, setCell_size]; omega) _ (fun _ b o e => by injection e with e; injection e with e; omega) _ _ _ _ _
end Go.Proofs.Ytgagpalffdgjnaa
namespace Go.Proofs.Ytgagpalffdgjnaa
open Go.RowKit

set_option maxRecDepth 100000 in
set_option maxHeartbeats 1600000 in
theorem taken_regs (q : Int) (A : Option Addr) (n c : Nat) (l : List Int) (w : World) (hx : RdI w w.heap.size .u8 A n l) (hl : ByteL l) (hn : 0 < n) (m : Nat) (hm : m ≤ 2) :
    Calls Try.prog 128 #[.agg #[.int .i64 1, .int .i64 q, .int .i64 (m : Int), .bool false], .slice A n c] w (TakenPost (l.getD 0 0) (wordAt l 1) 0 0 (wordsAt l 3 m) w):= by
  have hmf : ∀ (fn : Fn) (first cap : Array Value) (w : World), (Instr.makeFunc fn first cap).run Try.prog w = .ok (.func fn first cap) w := fun _ _ _ _ => rfl
  obtain ⟨bb, o, rfl, hbb, c1⟩ := hx.at_ (j := 0) (by omega)
  obtain ⟨x, hx0⟩ : ∃ x, l.getD 0 0 = x := ⟨_, rfl⟩
  have d1 := hl 0
  rw [← List.getD_eq_getElem?_getD] at d1
  rw [hx0] at d1 c1 ⊢
  rw [Nat.add_zero] at c1
  have u3 : IntKind.i64.wrap x = x := by rw [IntKind.wrap_i64]; omega
  have E4 : Ext w ((((w.alloc (.cells #[.int .i64 1, .int .i64 q, .int .i64 (m : Int), .bool false] 162)).alloc (.cells #[.slice (some ⟨bb, o, none⟩) n c] 34)).alloc (.cells #[.int .i64 0, .int .i64 0, .int .i64 0, .slice none 0 0, .int .i64 0] 30)).alloc (.cells #[.int .i64 1] 3)) := ((((Ext.refl w).goA _).goA _).goA _).goA _
  have c2 := (E4.cell o hbb).trans c1
  have T0 := Tk.new w #[.int .i64 1, .int .i64 q, .int .i64 (m : Int), .bool false] (.slice (some ⟨bb, o, none⟩) n c) #[.int .i64 0, .int .i64 0, .int .i64 0, .slice none 0 0, .int .i64 0] 1 #[.int .i64 x, .int .i64 0, .int .i64 0, .slice none 0 0, .int .i64 0]
  have E0 := E4.goA (.cells #[.int .i64 x, .int .i64 0, .int .i64 0, .slice none 0 0, .int .i64 0] 30)
  have k2 : w.heap.size + 1 + 1 = w.heap.size + 2 := rfl
  have k3 : w.heap.size + 2 + 1 = w.heap.size + 3 := rfl
  have k4 : w.heap.size + 3 + 1 = w.heap.size + 4 := rfl
  have hx' := Lib.hid hx
  clear hx hx0 c1
  go_enter Try.func128, Try.ntmps128
  go_wp2_with fail
  refine (word_any (w.heap.size + 3) (w.heap.size + 1) 1 n c _ w.heap.size l _ (hx'.out.below E0) hl (by omega) (by omega) T0.p T0.b (by omega)).mono ?_
  rintro e w1 ⟨rfl, p1, m1⟩
  have T1 := T0.word p1 m1
  have E1 := E0.goM m1 (fun i hi => by omega)
  have T2 : Tk (w1.setCell ⟨w.heap.size + 4, 1, none⟩ (.int .i64 (wordAt l 1))) w.heap.size #[.int .i64 1, .int .i64 q, .int .i64 (m : Int), .bool false] (.slice (some ⟨bb, o, none⟩) n c) #[.int .i64 0, .int .i64 0, .int .i64 0, .slice none 0 0, .int .i64 0] 3 #[.int .i64 x, .int .i64 (wordAt l 1), .int .i64 0, .slice none 0 0, .int .i64 0] := T1.setQ 1 _
  have E2 := E1.goS (p := ⟨w.heap.size + 4, 1, none⟩) (by simp) (.int .i64 (wordAt l 1))
  have f1 := frozen_block T1.q
  have q1 := cellsAt T1.q
  have s2 := cellsAt T2.s
  have T0' := Lib.hid T0
  have T1' := Lib.hid T1
  clear p1 m1 T0 T1 c2 E0 E4
  have T2' := Lib.hid T2
  clear T2
  go_wp2_with fail
  go_loopw [79] (fun i wr => ∃ (k : Nat) (u : Value), k ≤ m ∧ i = .int .i64 k ∧ Tk wr w.heap.size #[.int .i64 1, .int .i64 q, .int .i64 (m : Int), .bool false] (.slice (some ⟨bb, o, none⟩) n c) #[.int .i64 0, .int .i64 0, .int .i64 0, .slice none 0 0, .int .i64 0] ((3 + 2 * k : Nat) : Int) #[.int .i64 x, .int .i64 (wordAt l 1), .int .i64 0, u, .int .i64 0] ∧ wr.ownsRow (w.heap.size + 5) 43 1 u k ((wordsAt l 3 k).map (Value.int .u16)) ∧ Ext w wr) (fun i _ => m - (intOf i).toNat)
  case atStart => exact ⟨0, .slice none 0 0, by omega, rfl, T2'.out, ⟨rfl, .inl ⟨rfl, rfl⟩⟩, E2⟩
  case round =>
    obtain ⟨k, u, hk, rfl, TR, own, ER⟩ := hrel
    by_cases hlt : k < m
    · have D0 : Ext w wr.drew := ER.god
      have TD := Lib.hid TR.drew
      have own' : wr.drew.ownsRow (w.heap.size + 5) 43 1 u k _ := own
      have qR := cellsAt TR.q
      have hwv := wordAt_range l hl (3 + 2 * k)
      have uw : IntKind.u16.wrap (wordAt l (3 + 2 * k)) = wordAt l (3 + 2 * k) := by rw [IntKind.wrap_u16]; omega
      clear TR own
      go_wp2_with fail
      go_region_law
        (first
          | (go_simp
             go_at_call 130
             refine (word_any (w.heap.size + 3) (w.heap.size + 1) (3 + 2 * k) n c _ w.heap.size l _ (hx'.out.below D0) hl (by omega) (by omega) TD.out.p TD.out.b (by omega)).mono ?_
             rintro e wx ⟨rfl, px, mx⟩
             have TX := TD.out.word px mx
             have gX := TX.lt
             have ownX := own_mod1 own' mx (by omega)
             have qX := cellsAt TX.q
             have DX := D0.goM mx (fun i hi => by omega)
             dsimp only)
          | (refine step_appI rfl (.tmp 82) (.tmp 86) _ rfl Try.underlying28 info_u16 (ownX.alloc _) rfl (RdI.one _ _ _ _) rfl (by omega) (by omega) (by simp; omega) ?_
             intro v4 w4 own4 hg4 hat4
             obtain ⟨A4, c4, rfl, hc4, r4⟩ := own_rd (k := .u16) (xs := wordsAt l 3 k ++ [wordAt l (3 + 2 * k)]) own4
             have TY := TX.keep (w' := w4) (fun b hb => (hg4.block b (by simp; omega) (fun h => by have := (ownX.lt b h.symm).1; omega)).trans (Below.heap_alloc _ _ b (by omega)))
             have M4 : Ext w w4 := (DX.goA _).goG hg4 (fun k hk => by have := (ownX.lt k hk).1; omega)
             have fY := frozen_block TY.q
             have qY3 : w4.cell? ⟨w.heap.size + 4, 3, none⟩ = some u := cellsAt TY.q 3
             have fY3 : w4.frozen? ⟨w.heap.size + 4, 3, none⟩ = false := fY 3))
      all_goals go_wp2_with fail
      all_goals
        go_roundw
        case rel =>
          refine ⟨k + 1, _, by omega, by go_num, (TY.setQ 3 (.slice A4 (k + 1) c4)).at_ (by omega), ?_, M4.goS (p := ⟨w.heap.size + 4, 3, none⟩) (by simp) _⟩
          rw [wordsAt_succ]
          exact ownsRow_setCell_other own4 (a := ⟨w.heap.size + 4, 3, none⟩) (fun e => by have := (own4.lt _ e).1; simp at this) _
        case measure => simp [intOf]; omega
    · obtain rfl : k = m := by omega
      obtain ⟨A9, c9, rfl, hc9, r9⟩ := own_rd own
      have q9 := cellsAt TR.q
      have f9 := frozen_block TR.r
      have t9 := cellsAt TR.r
      have o9 := own.lt
      have T9 := Lib.hid TR
      clear TR own
      go_wp2_with fail
      obtain ⟨z0, z1, z2, z3, z4⟩ := five_reads T9.out.r (.int .i64 x) (.int .i64 (wordAt l 1)) (.int .i64 0) (.slice A9 k c9) (.int .i64 0)
      refine bodyPost_ret (v := .agg #[.int .i64 x, .int .i64 (wordAt l 1), .int .i64 0, .slice A9 k c9, .int .i64 0]) (by simp [results, Try.results128, go_sem, z0, z1, z2, z3, z4]) rfl ?_
      refine ⟨_, _, _, rfl, hc9.1, hc9.2, ?_, ER.five (i := w.heap.size + 2) (by simp) _ _ _ _ _, fun b o e => by have := (o9 b (by rw [e]; rfl)).1; omega⟩
      exact five_rd r9 (Nat.le_refl _) _ (fun _ b o e => by have := (o9 b (by rw [e]; rfl)).1; omega) _ _ _ _ _
end Go.Proofs.Ytgagpalffdgjnaa
