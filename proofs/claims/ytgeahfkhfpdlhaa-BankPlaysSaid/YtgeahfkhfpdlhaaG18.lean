/- Layer 23: words for a view in memory, and what is shown of it. · Layer 23, the walks: from, Regs. -/
import Derived.Test.YtgeahfkhfpdlhaaG01
import Derived.Deep.RegionHeld
import Derived.Deep.QuietTactic
import Derived.BigQuiet
namespace Go.Proofs.Ytgeahfkhfpdlhaa
open Go.RowKit

/-- The slice value '.slice A n c' reads as those cells, below block B. -/
def RdV (w : World) (B : Nat) (A : Option Addr) (n : Nat) (vs : List Value) : Prop :=
  0 < n → ∃ b o, A = some ⟨b, o, none⟩ ∧ b < B ∧ ∀ j, j < vs.length → w.cell? ⟨b, o + j, none⟩ = vs[j]?
theorem RdV.ext {w w' : World} {A : Option Addr} {n : Nat} {vs : List Value} (h : RdV w w.heap.size A n vs) (E : Ext w w') : RdV w' w'.heap.size A n vs := fun hn => by
  obtain ⟨b, o, e, hb, hc⟩ := h hn
  exact ⟨b, o, e, Nat.lt_of_lt_of_le hb E.size, fun j hj => (E.cell (o + j) hb).trans (hc j hj)⟩
structure Nt where
  kind : Int
  who : Int
  at_ : Int
def Nt.cells (t : Nt) : List Value := [.int .i64 t.kind, .int .i64 t.who, .int .i64 t.at_]
/-- A view: of each of its slices the address, the capacity, and what it holds. -/
structure Vw where
  aL : Option Addr
  cL : Nat
  looks : List Int
  horn : Int
  aC : Option Addr
  cC : Nat
  cs : List Bool
  aE : Option Addr
  cE : Nat
  es : List Bool
  aB : Option Addr
  cB : Nat
  bs : List Bool
  aT : Option Addr
  cT : Nat
  ts : List Bool
  aN : Option Addr
  cN : Nat
  ns : List Nt
def Vw.cells (v : Vw) : Array Value := #[.slice v.aL v.looks.length v.cL, .int .i64 v.horn, .slice v.aC v.cs.length v.cC, .slice v.aE v.es.length v.cE, .slice v.aB v.bs.length v.cB, .slice v.aT v.ts.length v.cT, .slice v.aN v.ns.length v.cN]
structure RdVw (w : World) (v : Vw) : Prop where
  looks : RdI w w.heap.size .i64 v.aL v.looks.length v.looks
  cs : RdV w w.heap.size v.aC v.cs.length (v.cs.map Value.bool)
  es : RdV w w.heap.size v.aE v.es.length (v.es.map Value.bool)
  bs : RdV w w.heap.size v.aB v.bs.length (v.bs.map Value.bool)
  ts : RdV w w.heap.size v.aT v.ts.length (v.ts.map Value.bool)
  ns : RdV w w.heap.size v.aN v.ns.length (v.ns.flatMap Nt.cells)
  len : v.looks.length ≤ maxLen ∧ v.cs.length ≤ maxLen ∧ v.es.length ≤ maxLen ∧ v.bs.length ≤ maxLen ∧ v.ts.length ≤ maxLen ∧ v.ns.length ≤ maxLen
theorem RdVw.ext {w w' : World} {v : Vw} (h : RdVw w v) (E : Ext w w') : RdVw w' v := ⟨h.looks.ext E, h.cs.ext E, h.es.ext E, h.bs.ext E, h.ts.ext E, h.ns.ext E, h.len⟩
theorem flat_get (ns : List Nt) (j i : Nat) (hj : j < ns.length) (hi : i < 3) : (ns.flatMap Nt.cells)[3 * j + i]? = (ns[j]'hj).cells[i]? := by
  induction ns generalizing j with
  | nil => simp at hj
  | cons t ns ih =>
    rw [List.flatMap_cons]
    cases j with
    | zero =>
      rw [List.getElem?_append_left (by show 3 * 0 + i < 3; omega)]
      simp
    | succ j =>
      rw [List.getElem?_append_right (by show 3 ≤ _; omega)]
      have := ih j (by simpa using hj)
      show (ns.flatMap Nt.cells)[3 * (j + 1) + i - 3]? = _
      rw [show 3 * (j + 1) + i - 3 = 3 * j + i by omega]
      exact this
def noteZ : Nt := ⟨0, 0, 0⟩
theorem RdV.note {w : World} {B : Nat} {A : Option Addr} {ns : List Nt} (h : RdV w B A ns.length (ns.flatMap Nt.cells)) {j : Nat} (hj : j < ns.length) :
    ∃ b o, A = some ⟨b, o, none⟩ ∧ b < B ∧ w.cell? ⟨b, o + j * 3, none⟩ = some (.int .i64 (ns.getD j noteZ).kind) ∧ w.cell? ⟨b, o + j * 3 + 1, none⟩ = some (.int .i64 (ns.getD j noteZ).who) ∧ w.cell? ⟨b, o + j * 3 + 2, none⟩ = some (.int .i64 (ns.getD j noteZ).at_) := by
  obtain ⟨b, o, e, hb, hc⟩ := h (by omega)
  have hlen : ∀ l : List Nt, (l.flatMap Nt.cells).length = 3 * l.length := fun l => by
    induction l with
    | nil => rfl
    | cons t l ih => rw [List.flatMap_cons, List.length_append, ih, List.length_cons]; show 3 + _ = _; omega
  have hg : ns.getD j noteZ = ns[j]'hj := by rw [List.getD_eq_getElem?_getD, List.getElem?_eq_getElem hj]; rfl
  rw [hg, Nat.mul_comm j 3]
  refine ⟨b, o, e, hb, ?_, ?_, ?_⟩
  · have := hc (3 * j) (by rw [hlen]; omega)
    rw [this, show 3 * j = 3 * j + 0 from rfl, flat_get ns j 0 hj (by omega)]; rfl
  · have := hc (3 * j + 1) (by rw [hlen]; omega)
    rw [Nat.add_assoc, this, flat_get ns j 1 hj (by omega)]; rfl
  · have := hc (3 * j + 2) (by rw [hlen]; omega)
    rw [Nat.add_assoc, this, flat_get ns j 2 hj (by omega)]; rfl
theorem RdV.bool {w : World} {B : Nat} {A : Option Addr} {xs : List Bool} (h : RdV w B A xs.length (xs.map Value.bool)) {j : Nat} (hj : j < xs.length) :
    ∃ b o, A = some ⟨b, o, none⟩ ∧ b < B ∧ w.cell? ⟨b, o + j, none⟩ = some (.bool (xs.getD j false)) := by
  obtain ⟨b, o, e, hb, hc⟩ := h (by omega)
  refine ⟨b, o, e, hb, ?_⟩
  rw [hc j (by rw [List.length_map]; exact hj), List.getElem?_map, List.getElem?_eq_getElem hj, List.getD_eq_getElem?_getD, List.getElem?_eq_getElem hj]
  rfl
def wr16 (x : Int) : Int := IntKind.u16.wrap x
theorem wr16_range (x : Int) : 0 ≤ wr16 x ∧ wr16 x ≤ 65535 := by unfold wr16; rw [IntKind.wrap_u16]; omega
def noteF (t : Nt) (i : Nat) : Int := if i = 0 then t.kind else if i = 1 then t.who else t.at_
/-- The words that are shown. -/
def shRegAt (v : Vw) (j : Nat) : Int :=
  if j < 8 then (if j < v.looks.length then wr16 (v.looks.getD j 0) else 0)
  else if j = 8 then wr16 v.horn else if j = 9 then wr16 (v.ns.length : Int)
  else if (j - 10) / 3 < v.ns.length then wr16 (noteF (v.ns.getD (v.ns.length - 1 - (j - 10) / 3) noteZ) ((j - 10) % 3)) else 0
def shRegsTo (v : Vw) (m : Nat) : List Int := (List.range 34).map fun j => if j < m then shRegAt v j else 0
def shRegsL (v : Vw) : List Int := (List.range 34).map (shRegAt v)
/-- The bits that are shown. -/
def vwList (v : Vw) (k : Nat) : List Bool := if k = 0 then v.cs else if k = 1 then v.es else if k = 2 then v.bs else v.ts
def shBitAt (v : Vw) (j : Nat) : Int := if (vwList v (j / 8)).getD (j % 8) false = true then 1 else 0
def shBitsTo (v : Vw) (m : Nat) : List Int := (List.range 32).map fun j => if j < m then shBitAt v j else 0
def shBitsL (v : Vw) : List Int := (List.range 32).map (shBitAt v)
theorem fillR_zero (f : Nat → Int) (n : Nat) : ((List.range n).map fun j => if j < 0 then f j else 0) = zs n := by
  apply List.ext_getElem?
  intro j
  by_cases h : j < n
  · simp [zs, h]
  · rw [List.getElem?_eq_none (by simp; omega), List.getElem?_eq_none (by simp [zs]; omega)]
theorem fillR_set (f : Nat → Int) (n m : Nat) : ((List.range n).map fun j => if j < m then f j else 0).set m (f m) = (List.range n).map fun j => if j < m + 1 then f j else 0 := by
  apply List.ext_getElem?
  intro j
  by_cases h : j < n
  · by_cases e : m = j
    · subst e
      rw [List.getElem?_set_self (by simpa using h)]
      simp [h]
    · rw [List.getElem?_set_ne e]
      simp only [List.getElem?_map, List.getElem?_range h, Option.map_some]
      congr 1
      by_cases h2 : j < m
      · rw [if_pos h2, if_pos (by omega)]
      · rw [if_neg h2, if_neg (by omega)]
  · rw [List.getElem?_eq_none (by simp; omega), List.getElem?_eq_none (by simp; omega)]
theorem fillR_skip (f : Nat → Int) (n m m' : Nat) (h : m ≤ m') (hz : ∀ j, m ≤ j → j < m' → f j = 0) : ((List.range n).map fun j => if j < m then f j else 0) = (List.range n).map fun j => if j < m' then f j else 0 := by
  apply List.map_congr_left
  intro j _
  by_cases h1 : j < m
  · rw [if_pos h1, if_pos (by omega)]
  · rw [if_neg h1]
    by_cases h2 : j < m'
    · rw [if_pos h2, hz j (by omega) h2]
    · rw [if_neg h2]
theorem fillR_all (f : Nat → Int) (n m : Nat) (h : n ≤ m) : ((List.range n).map fun j => if j < m then f j else 0) = (List.range n).map f := by
  apply List.map_congr_left
  intro j hj
  have := List.mem_range.1 hj
  rw [if_pos (by omega)]
theorem shRegsTo_length (v : Vw) (m : Nat) : (shRegsTo v m).length = 34 := by simp [shRegsTo]
theorem shBitsTo_length (v : Vw) (m : Nat) : (shBitsTo v m).length = 32 := by simp [shBitsTo]
theorem shBitAt_range (v : Vw) (j : Nat) : 0 ≤ shBitAt v j ∧ shBitAt v j ≤ 1 := by unfold shBitAt; split <;> omega
theorem shRegAt_range (v : Vw) (j : Nat) : 0 ≤ shRegAt v j ∧ shRegAt v j ≤ 65535 := by
  have h := wr16_range
  unfold shRegAt
  split
  · split
    · exact h _
    · omega
  · split
    · exact h _
    · split
      · exact h _
      · split
        · exact h _
        · omega
end Go.Proofs.Ytgeahfkhfpdlhaa
namespace Go.Proofs.Ytgeahfkhfpdlhaa
open Go.RowKit

/-- A filler: its row in block g of n words, from one place on. -/
structure Filler (w : World) (p q g n : Nat) (at_ : Int) : Prop where
  row : w.heap[p]? = some (.cells #[.slice (some ⟨g, 0, none⟩) n n] 30 (0, 0))
  off : w.heap[q]? = some (.cells #[.int .i64 at_] 3 (0, 0))
theorem Filler.mod {w w' : World} {p q g n : Nat} {a : Int} {S : Nat → Prop} (h : Filler w p q g n a) (M : Mod S w w') (hp : ¬ S p) (hq : ¬ S q) : Filler w' p q g n a :=
  ⟨(M.block p (lt_of_block h.row) hp).trans h.row, (M.block q (lt_of_block h.off) hq).trans h.off⟩
theorem Filler.far {w : World} {p q g n : Nat} {a : Int} (h : Filler w p q g n a) {x : Addr} {u : Value} (hp : x.block ≠ p) (hq : x.block ≠ q) : Filler (w.setCell x u) p q g n a :=
  ⟨(Below.heap_setCell w x u p (fun e => hp e.symm)).trans h.row, (Below.heap_setCell w x u q (fun e => hq e.symm)).trans h.off⟩
theorem Filler.made (w : World) (g n : Nat) (a : Int) : Filler ((w.alloc (.cells #[.slice (some ⟨g, 0, none⟩) n n] 30)).alloc (.cells #[.int .i64 a] 3)) w.heap.size (w.heap.size + 1) g n a :=
  ⟨by rw [alloc_get, if_neg (by simp), alloc_get, if_pos rfl], by rw [alloc_get, if_pos (by simp)]⟩
set_option maxRecDepth 100000 in
set_option maxHeartbeats 800000 in
theorem slvFrom_any (g n : Nat) (at_ : Int) (w : World) :
    Calls Try.prog 92 #[.slice (some ⟨g, 0, none⟩) n n, .int .i64 at_] w fun e w' => e = .returned (.func (.func 112) #[] #[.pointer (some ⟨w.heap.size, 0, none⟩), .pointer (some ⟨w.heap.size + 1, 0, none⟩)]) ∧ Filler w' w.heap.size (w.heap.size + 1) g n at_ ∧ Ext w w' := by
  go_enter Try.func92, Try.ntmps92
  go_wp2_with fail
  go_ret
  exact ⟨rfl, Filler.made w g n at_, ((Ext.refl w).goA _).goA _⟩
set_option maxRecDepth 100000 in
set_option maxHeartbeats 800000 in
theorem slvFill_any (p q g n : Nat) (at_ i : Nat) (v : Int) (xs : List Int) (w : World) (hF : Filler w p q g n (at_ : Int)) (hb : Blk w g 34 .u16 xs) (hn : xs.length = n) (hi : at_ + i < n) (hm : n ≤ 1000) :
    Calls Try.prog 112 #[.int .i64 (i : Int), .int .i64 v, .pointer (some ⟨p, 0, none⟩), .pointer (some ⟨q, 0, none⟩)] w fun e w' => e = .returned (.tuple #[]) ∧ w.setCell ⟨g, at_ + i, none⟩ (.int .u16 (wr16 v)) = w' := by
  have h1 := cellsAt hF.row
  have h2 := cellsAt hF.off
  have h3 := hb.cell (at_ + i) (by omega)
  have h4 := hb.frozen (at_ + i)
  have u1 : IntKind.i64.wrap ((at_ : Int) + (i : Int)) = ((at_ + i : Nat) : Int) := by rw [IntKind.wrap_i64]; omega
  have u3 : IntKind.u16.wrap v = wr16 v := rfl
  have g2 : (0 : Int) ≤ (at_ : Int) + (i : Int) := by omega
  generalize xs.getD (at_ + i) 0 = x at *
  clear hF hb hn
  go_enter Try.func112, Try.ntmps112
  go_wp2_with fail
  go_end0
  exact ⟨rfl, rfl⟩
def BlkPost (n : Nat) (xs : List Int) (w : World) (e : Ending) (w' : World) : Prop := ∃ g, e = .returned (.slice (some ⟨g, 0, none⟩) n n) ∧ Blk w' g 34 .u16 xs ∧ Ext w w' ∧ w.heap.size ≤ g
set_option maxRecDepth 100000 in
set_option maxHeartbeats 6400000 in
theorem slvRegs_any (v : Vw) (w : World) (hv : RdVw w v) :
    Calls Try.prog 61 #[.agg v.cells] w (BlkPost 34 (shRegsL v) w) := by
  have hmk := fun w => run_mkI Try.underlying30 info_u16 (34 : Int) 34 rfl (by omega) (by omega) w
  have hlk := hv.len.1
  have hln := hv.len.2.2.2.2.2
  have hs0 : shRegsTo v 0 = zs 34 := fillR_zero _ _
  have hset : ∀ m, (shRegsTo v m).set m (shRegAt v m) = shRegsTo v (m + 1) := fun m => fillR_set _ _ m
  have hv' := Lib.hid hv
  have hs0' := Lib.hid hs0
  have hset' := Lib.hid hset
  unfold maxLen at hlk hln
  clear hv hs0 hset
  unfold Vw.cells
  have EU := ((Ext.refl w).goA (.cells #[.slice v.aL v.looks.length v.cL, .int .i64 v.horn, .slice v.aC v.cs.length v.cC, .slice v.aE v.es.length v.cE, .slice v.aB v.bs.length v.cB, .slice v.aT v.ts.length v.cT, .slice v.aN v.ns.length v.cN] 88)).goA (.cells (row .u16 (zs 34)) 34)
  have hV : ((w.alloc (.cells #[.slice v.aL v.looks.length v.cL, .int .i64 v.horn, .slice v.aC v.cs.length v.cC, .slice v.aE v.es.length v.cE, .slice v.aB v.bs.length v.cB, .slice v.aT v.ts.length v.cT, .slice v.aN v.ns.length v.cN] 88)).alloc (.cells (row .u16 (zs 34)) 34)).heap[w.heap.size]? = some (.cells #[.slice v.aL v.looks.length v.cL, .int .i64 v.horn, .slice v.aC v.cs.length v.cC, .slice v.aE v.es.length v.cE, .slice v.aB v.bs.length v.cB, .slice v.aT v.ts.length v.cT, .slice v.aN v.ns.length v.cN] 88 (0, 0)) := by rw [alloc_get, if_neg (by simp), alloc_get, if_pos rfl]
  have hG : Blk ((w.alloc (.cells #[.slice v.aL v.looks.length v.cL, .int .i64 v.horn, .slice v.aC v.cs.length v.cC, .slice v.aE v.es.length v.cE, .slice v.aB v.bs.length v.cB, .slice v.aT v.ts.length v.cT, .slice v.aN v.ns.length v.cN] 88)).alloc (.cells (row .u16 (zs 34)) 34)) (w.heap.size + 1) 34 .u16 (zs 34) := by unfold Blk; rw [alloc_get, if_pos (by simp)]
  have hV' := Lib.hid hV
  have hG' := Lib.hid hG
  have sU : ((w.alloc (.cells #[.slice v.aL v.looks.length v.cL, .int .i64 v.horn, .slice v.aC v.cs.length v.cC, .slice v.aE v.es.length v.cE, .slice v.aB v.bs.length v.cB, .slice v.aT v.ts.length v.cT, .slice v.aN v.ns.length v.cN] 88)).alloc (.cells (row .u16 (zs 34)) 34)).heap.size = w.heap.size + 2 := by simp
  have sU' := Lib.hid sU
  clear hV hG sU
  go_enter Try.func61, Try.ntmps61
  go_wp2_with fail
  generalize (w.alloc (.cells #[.slice v.aL v.looks.length v.cL, .int .i64 v.horn, .slice v.aC v.cs.length v.cC, .slice v.aE v.es.length v.cE, .slice v.aB v.bs.length v.cB, .slice v.aT v.ts.length v.cT, .slice v.aN v.ns.length v.cN] 88)).alloc (.cells (row .u16 (zs 34)) 34) = U at *
  clear hmk
  refine (slvFrom_any (w.heap.size + 1) 34 0 U).mono ?_
  rintro e W3 ⟨rfl, hF, X3⟩
  have E3 := EU.go X3
  have G3 := hG'.out.below X3 hG'.out.lt
  have V3 := (X3.block _ (lt_of_block hV'.out)).trans hV'.out
  rw [← hs0'.out] at G3
  have hF' := Lib.hid hF
  have G3' := Lib.hid G3
  have V3' := Lib.hid V3
  have v3c := cellsAt V3
  clear hF G3 V3 X3
  go_wp2_with fail
  clear v3c
  go_loopw [16] (fun i wr => ∃ k : Nat, k ≤ v.looks.length ∧ k ≤ 8 ∧ i = .int .i64 k ∧ Blk wr (w.heap.size + 1) 34 .u16 (shRegsTo v k) ∧ Mod (fun i => i = w.heap.size + 1) W3 wr) (fun i _ => 8 - (intOf i).toNat)
  case atStart => exact ⟨0, by omega, by omega, rfl, G3'.out, Mod.refl _ _⟩
  case round =>
    obtain ⟨k, hk1, hk2, rfl, hB, hM⟩ := hrel
    have hB' := Lib.hid hB
    clear hB
    have hVr := (hM.block _ (lt_of_block V3'.out) (by omega)).trans V3'.out
    have vrc := cellsAt hVr
    have hVr' := Lib.hid hVr
    clear hVr
    by_cases hlt : k < v.looks.length ∧ k < 8
    · obtain ⟨h1, h2⟩ := hlt
      have f1 : decide ((k : Int) < min (v.looks.length : Int) 8) = true := by simp; omega
      obtain ⟨b, o, hb, hbl, hc0⟩ := hv'.out.looks.at_ h1
      have hEr : Ext w wr := E3.goM hM (fun i hi => by omega)
      have hc1 := (hEr.cell (o + k) hbl).trans hc0
      have hra : shRegAt v k = wr16 (v.looks.getD k 0) := by unfold shRegAt; rw [if_pos h2, if_pos h1]
      generalize v.looks.getD k 0 = x at *
      have hra' := Lib.hid hra
      rw [hb] at vrc
      clear hra hc0 hb
      go_wp2_with fail
      refine (slvFill_any U.heap.size (U.heap.size + 1) (w.heap.size + 1) 34 0 k x _ wr (hF'.out.mod hM (by have := sU'.out; omega) (by have := sU'.out; omega)) hB'.out (shRegsTo_length v k) (by omega) (by omega)).mono ?_
      rintro e w5 ⟨rfl, rfl⟩
      have hB5 := hB'.out.set_ (0 + k) (wr16 x)
      rw [Nat.zero_add, ← hra'.out, hset'.out] at hB5
      have hM5 := hM.setCell (p := ⟨w.heap.size + 1, 0 + k, none⟩) (.inl rfl) (.int .u16 (wr16 x))
      rw [Nat.zero_add, ← hra'.out] at hM5 ⊢
      have hB5' := Lib.hid hB5
      clear hB5
      go_wp2_with fail
      go_roundw
      case rel => exact ⟨k + 1, by omega, by omega, by go_num, hB5'.out, hM5⟩
      case measure => simp [intOf]; omega
    · have f1 : decide ((k : Int) < min (v.looks.length : Int) 8) = false := by simp; omega
      have hB8 : Blk wr (w.heap.size + 1) 34 .u16 (shRegsTo v 8) := by
        have hsk : shRegsTo v k = shRegsTo v 8 := fillR_skip _ _ k 8 hk2 (fun j h1 h2 => by unfold shRegAt; rw [if_pos h2, if_neg (by omega)])
        rw [← hsk]
        exact hB'.out
      have hB8' := Lib.hid hB8
      clear hB8 hB'
      go_wp2_with fail
      have d0 : Mod (fun i => i = w.heap.size + 1) wr wr.drew := (Mod.refl _ _).drew
      have bv : ∀ w', Mod (fun i => i = w.heap.size + 1) wr w' → ∀ o, w'.cell? ⟨w.heap.size, o, none⟩ = _ := fun w' D => cellsAt ((D.block _ (lt_of_block hVr'.out) (by omega)).trans hVr'.out)
      clear vrc
      refine wp_region_held_drew (S := fun w' => Mod (fun i => i = w.heap.size + 1) wr w') (by kernel_rfl) d0 (fun hHeld => ?_)
      refine wpAnyH_take (i := 0) (oi := _) (v := ?_) rfl (by kernel_rfl) (by kernel_rfl) (by kernel_rfl) (fun _ _ _ h => h) (Or.inl ⟨by rfl, ?_⟩) (by assumption) ?_
      rotate_left
      · intro w hSw
        (try dsimp only at hSw)
        go_simp
        try (with_reducible rfl)
      try simp only [Act.put, List.getElem_toArray, List.getElem_cons_zero, List.setIfInBounds_toArray, List.set_cons_zero, List.set_cons_succ]
      refine wpAnyH_take (i := 2) (oi := _) (v := ?_) rfl (by kernel_rfl) (by kernel_rfl) (by kernel_rfl) (fun _ _ _ h => h) (Or.inl ⟨by rfl, ?_⟩) (by assumption) ?_
      rotate_left
      · intro w hSw
        (try dsimp only at hSw)
        go_simp
        try (with_reducible rfl)
      try simp only [Act.put, List.getElem_toArray, List.getElem_cons_succ, List.getElem_cons_zero, List.setIfInBounds_toArray, List.set_cons_zero, List.set_cons_succ]
      refine wpAnyH_take (i := 3) (oi := _) (v := ?_) rfl (by kernel_rfl) (by kernel_rfl) (by kernel_rfl) (fun _ _ _ h => h) (Or.inl ⟨by rfl, ?_⟩) (by assumption) ?_
      rotate_left
      · intro w hSw
        (try dsimp only at hSw)
        go_simp
        try (with_reducible rfl)
      try simp only [Act.put, List.getElem_toArray, List.getElem_cons_succ, List.getElem_cons_zero, List.setIfInBounds_toArray, List.set_cons_zero, List.set_cons_succ]
      refine wpAnyH_ready (rs := [1]) (by kernel_rfl) (by simp) ?_
      refine AllReadyH.cons rfl (fun K hK => ?_) ?_
      rotate_left
      · exact AllReadyH.nil
      go_simp
      go_at_call 92
      refine (slvFrom_any (w.heap.size + 1) 34 8 _).mono ?_
      rintro e w9 ⟨rfl, F9, X9⟩
      have d1 : Mod (fun i => i = w.heap.size + 1) wr w9 := d0.trans (Mod.ofBelow X9)
      have B9 : Blk w9 (w.heap.size + 1) 34 .u16 (shRegsTo v 8) := (X9.block _ hB8'.out.lt).trans hB8'.out
      try dsimp only
      refine hK.out _ _ ?_ (fun hHeld => ?_)
      · first | assumption | (dsimp only; assumption)
      clear hK K
      try simp only [Act.put, List.getElem_toArray, List.getElem_cons_succ, List.getElem_cons_zero, List.setIfInBounds_toArray, List.set_cons_zero, List.set_cons_succ]
      refine wpAnyH_ready (rs := [4]) (by kernel_rfl) (by simp) ?_
      refine AllReadyH.cons rfl (fun K hK => ?_) ?_
      rotate_left
      · exact AllReadyH.nil
      go_simp
      go_at_call 112
      refine (slvFill_any _ _ (w.heap.size + 1) 34 8 0 v.horn _ w9 F9 B9 (shRegsTo_length v 8) (by omega) (by omega)).mono ?_
      rintro e w10 ⟨rfl, rfl⟩
      have d2 := d1.setCell (p := ⟨w.heap.size + 1, 8 + 0, none⟩) (.inl rfl) (.int .u16 (wr16 v.horn))
      have B10 := B9.set_ (8 + 0) (wr16 v.horn)
      try dsimp only
      refine hK.out _ _ ?_ (fun hHeld => ?_)
      · first | assumption | (dsimp only; assumption)
      clear hK K
      try simp only [Act.put, List.getElem_toArray, List.getElem_cons_succ, List.getElem_cons_zero, List.setIfInBounds_toArray, List.set_cons_zero, List.set_cons_succ]
      refine wpAnyH_done (by kernel_rfl) ?_ _
      clear bv d1 d0 X9 F9 B9
      have hB9 : Blk (w9.setCell ⟨w.heap.size + 1, 8 + 0, none⟩ (.int .u16 (wr16 v.horn))) (w.heap.size + 1) 34 .u16 (shRegsTo v 9) := by
        have hr8 : shRegAt v 8 = wr16 v.horn := rfl
        rw [← hset'.out 8, hr8]
        exact B10
      have hB9' := Lib.hid hB9
      clear B10 hB9
      generalize w9.setCell ⟨w.heap.size + 1, 8 + 0, none⟩ (.int .u16 (wr16 v.horn)) = Y8 at *
      have hV8' := Lib.hid ((d2.block _ (lt_of_block hVr'.out) (by omega)).trans hVr'.out)
      have M8 : Mod (fun i => i = w.heap.size + 1) W3 Y8 := hM.trans d2
      clear d2 hM hVr' hB8'
      go_wp2_with fail
      have d0 : Mod (fun i => i = w.heap.size + 1) Y8 Y8.drew := (Mod.refl _ _).drew
      have bv : ∀ w', Mod (fun i => i = w.heap.size + 1) Y8 w' → ∀ o, w'.cell? ⟨w.heap.size, o, none⟩ = _ := fun w' D => cellsAt ((D.block _ (lt_of_block hV8'.out) (by omega)).trans hV8'.out)
      refine wp_region_held_drew (S := fun w' => Mod (fun i => i = w.heap.size + 1) Y8 w') (by kernel_rfl) d0 (fun hHeld => ?_)
      refine wpAnyH_take (i := 0) (oi := _) (v := ?_) rfl (by kernel_rfl) (by kernel_rfl) (by kernel_rfl) (fun _ _ _ h => h) (Or.inl ⟨by rfl, ?_⟩) (by assumption) ?_
      rotate_left
      · intro w hSw
        (try dsimp only at hSw)
        go_simp
        try (with_reducible rfl)
      try simp only [Act.put, List.getElem_toArray, List.getElem_cons_zero, List.setIfInBounds_toArray, List.set_cons_zero, List.set_cons_succ]
      refine wpAnyH_take (i := 2) (oi := _) (v := ?_) rfl (by kernel_rfl) (by kernel_rfl) (by kernel_rfl) (fun _ _ _ h => h) (Or.inl ⟨by rfl, ?_⟩) (by assumption) ?_
      rotate_left
      · intro w hSw
        (try dsimp only at hSw)
        go_simp
        try (with_reducible rfl)
      try simp only [Act.put, List.getElem_toArray, List.getElem_cons_succ, List.getElem_cons_zero, List.setIfInBounds_toArray, List.set_cons_zero, List.set_cons_succ]
      refine wpAnyH_take (i := 3) (oi := _) (v := ?_) rfl (by kernel_rfl) (by kernel_rfl) (by kernel_rfl) (fun _ _ _ h => h) (Or.inl ⟨by rfl, ?_⟩) (by assumption) ?_
      rotate_left
      · intro w hSw
        (try dsimp only at hSw)
        go_simp
        try (with_reducible rfl)
      try simp only [Act.put, List.getElem_toArray, List.getElem_cons_succ, List.getElem_cons_zero, List.setIfInBounds_toArray, List.set_cons_zero, List.set_cons_succ]
      refine wpAnyH_take (i := 4) (oi := _) (v := ?_) rfl (by kernel_rfl) (by kernel_rfl) (by kernel_rfl) (fun _ _ _ h => h) (Or.inl ⟨by rfl, ?_⟩) (by assumption) ?_
      rotate_left
      · intro w hSw
        (try dsimp only at hSw)
        go_simp
        try (with_reducible rfl)
      try simp only [Act.put, List.getElem_toArray, List.getElem_cons_succ, List.getElem_cons_zero, List.setIfInBounds_toArray, List.set_cons_zero, List.set_cons_succ]
      refine wpAnyH_ready (rs := [1]) (by kernel_rfl) (by simp) ?_
      refine AllReadyH.cons rfl (fun K hK => ?_) ?_
      rotate_left
      · exact AllReadyH.nil
      go_simp
      go_at_call 92
      refine (slvFrom_any (w.heap.size + 1) 34 9 _).mono ?_
      rintro e w9 ⟨rfl, F9, X9⟩
      have d1 : Mod (fun i => i = w.heap.size + 1) Y8 w9 := d0.trans (Mod.ofBelow X9)
      have B9 : Blk w9 (w.heap.size + 1) 34 .u16 (shRegsTo v 9) := (X9.block _ hB9'.out.lt).trans hB9'.out
      try dsimp only
      refine hK.out _ _ ?_ (fun hHeld => ?_)
      · first | assumption | (dsimp only; assumption)
      clear hK K
      try simp only [Act.put, List.getElem_toArray, List.getElem_cons_succ, List.getElem_cons_zero, List.setIfInBounds_toArray, List.set_cons_zero, List.set_cons_succ]
      refine wpAnyH_ready (rs := [5]) (by kernel_rfl) (by simp) ?_
      refine AllReadyH.cons rfl (fun K hK => ?_) ?_
      rotate_left
      · exact AllReadyH.nil
      go_simp
      go_at_call 112
      refine (slvFill_any _ _ (w.heap.size + 1) 34 9 0 (v.ns.length : Int) _ w9 F9 B9 (shRegsTo_length v 9) (by omega) (by omega)).mono ?_
      rintro e w10 ⟨rfl, rfl⟩
      have d2 := d1.setCell (p := ⟨w.heap.size + 1, 9 + 0, none⟩) (.inl rfl) (.int .u16 (wr16 (v.ns.length : Int)))
      have B10 := B9.set_ (9 + 0) (wr16 (v.ns.length : Int))
      try dsimp only
      refine hK.out _ _ ?_ (fun hHeld => ?_)
      · first | assumption | (dsimp only; assumption)
      clear hK K
      try simp only [Act.put, List.getElem_toArray, List.getElem_cons_succ, List.getElem_cons_zero, List.setIfInBounds_toArray, List.set_cons_zero, List.set_cons_succ]
      refine wpAnyH_done (by kernel_rfl) ?_ _
      clear bv d1 d0 X9 F9 B9
      have hB10 : Blk (w9.setCell ⟨w.heap.size + 1, 9 + 0, none⟩ (.int .u16 (wr16 (v.ns.length : Int)))) (w.heap.size + 1) 34 .u16 (shRegsTo v 10) := by
        have hr9 : shRegAt v 9 = wr16 (v.ns.length : Int) := rfl
        rw [← hset'.out 9, hr9]
        exact B10
      have hB10' := Lib.hid hB10
      clear B10 hB10
      generalize w9.setCell ⟨w.heap.size + 1, 9 + 0, none⟩ (.int .u16 (wr16 (v.ns.length : Int))) = Y9 at *
      have hV9' := Lib.hid ((d2.block _ (lt_of_block hV8'.out) (by omega)).trans hV8'.out)
      have M9 : Mod (fun i => i = w.heap.size + 1) W3 Y9 := M8.trans d2
      have E9 : Ext w Y9 := E3.goM M9 (fun i hi => by omega)
      have v9c := cellsAt hV9'.out
      have s9 : w.heap.size + 1 < Y9.heap.size := hB10'.out.lt
      clear d2 hV8' hB9' M8 M9
      go_wp2_with fail
      clear v9c
      go_loopw [43] (fun i wr => ∃ k : Nat, k ≤ v.ns.length ∧ k ≤ 8 ∧ i = .int .i64 k ∧ Blk wr (w.heap.size + 1) 34 .u16 (shRegsTo v (10 + k * 3)) ∧ Mod (fun i => i = w.heap.size + 1) Y9 wr) (fun i _ => 8 - (intOf i).toNat)
      case atStart => exact ⟨0, by omega, by omega, rfl, hB10'.out, Mod.refl _ _⟩
      case round =>
        obtain ⟨k2, hk1, hk2, rfl, hB, hM⟩ := hrel
        have hB' := Lib.hid hB
        clear hB
        have hVr' := Lib.hid ((hM.block _ (lt_of_block hV9'.out) (by omega)).trans hV9'.out)
        have vrc := cellsAt hVr'.out
        by_cases hlt : k2 < v.ns.length ∧ k2 < 8
        · obtain ⟨h1, h2⟩ := hlt
          have f1 : decide ((k2 : Int) < min (v.ns.length : Int) 8) = true := by simp; omega
          obtain ⟨m, hm⟩ : ∃ m : Nat, (v.ns.length : Int) - 1 - (k2 : Int) = (m : Int) := ⟨v.ns.length - 1 - k2, by omega⟩
          have hmn : m < v.ns.length := by omega
          obtain ⟨b, o, hb, hbl, c0, c1, c2⟩ := hv'.out.ns.note hmn
          have hEr : Ext w wr := E9.goM hM (fun i hi => by omega)
          have e0 := (hEr.cell _ hbl).trans c0
          have e1 := (hEr.cell _ hbl).trans c1
          have e2 := (hEr.cell _ hbl).trans c2
          rw [hb] at vrc
          clear c0 c1 c2 hb
          have hn3 : ∀ i, i < 3 → shRegAt v (10 + k2 * 3 + i) = wr16 (noteF (v.ns.getD m noteZ) i) := fun i hi => by
            unfold shRegAt
            rw [if_neg (by omega), if_neg (by omega), if_neg (by omega), show (10 + k2 * 3 + i - 10) / 3 = k2 by omega, show (10 + k2 * 3 + i - 10) % 3 = i by omega, if_pos h1, show v.ns.length - 1 - k2 = m by omega]
          have q0 : shRegAt v (10 + k2 * 3 + 0) = wr16 (v.ns.getD m noteZ).kind := hn3 0 (by omega)
          have q1 : shRegAt v (10 + k2 * 3 + 1) = wr16 (v.ns.getD m noteZ).who := hn3 1 (by omega)
          have q2 : shRegAt v (10 + k2 * 3 + 2) = wr16 (v.ns.getD m noteZ).at_ := hn3 2 (by omega)
          generalize v.ns.getD m noteZ = t at *
          obtain ⟨tk, tw, ta⟩ := t
          dsimp only at e0 e1 e2 q0 q1 q2
          have q0' := Lib.hid q0
          have q1' := Lib.hid q1
          have q2' := Lib.hid q2
          clear q0 q1 q2 hn3
          have hnw := heap_alloc_new wr (.cells #[.int .i64 tk, .int .i64 tw, .int .i64 ta] 105)
          have XA := (Ext.refl wr).goA (.cells #[.int .i64 tk, .int .i64 tw, .int .i64 ta] 105)
          have sr : Y9.heap.size ≤ wr.heap.size := hM.size
          go_wp2_with fail
          generalize wr.alloc (.cells #[.int .i64 tk, .int .i64 tw, .int .i64 ta] 105) = WA at *
          refine (slvFrom_any (w.heap.size + 1) 34 (10 + (k2 : Int) * 3) WA).mono ?_
          rintro e W9 ⟨rfl, F9, X9⟩
          rw [show (10 : Int) + (k2 : Int) * 3 = ((10 + k2 * 3 : Nat) : Int) by omega] at F9
          have sA : wr.heap.size < WA.heap.size := lt_of_block hnw
          have N0b : Mod (fun i => i = w.heap.size + 1) Y9 W9 := (hM.trans (Mod.ofBelow XA)).trans (Mod.ofBelow X9)
          have B0 : Hid (Blk W9 (w.heap.size + 1) 34 .u16 (shRegsTo v (10 + k2 * 3))) := Lib.hid ((hB'.out.below XA hB'.out.lt).below X9 (by omega))
          have F0 := Lib.hid F9
          have NB0 := Lib.hid ((X9.block _ sA).trans hnw)
          clear F9 X9 hnw XA hM hB' vrc e0 e1 e2
          have o0 := cellsAt NB0.out
          go_wp2_with fail
          refine (slvFill_any _ _ (w.heap.size + 1) 34 (10 + k2 * 3) 0 tk _ W9 F0.out B0.out (shRegsTo_length v _) (by omega) (by omega)).mono ?_
          rintro e wz ⟨rfl, rfl⟩
          have N0 := N0b.setCell (p := ⟨w.heap.size + 1, 10 + k2 * 3 + 0, none⟩) (.inl rfl) (.int .u16 (wr16 tk))
          have B1 := Lib.hid (show Blk (W9.setCell ⟨w.heap.size + 1, 10 + k2 * 3 + 0, none⟩ (.int .u16 (wr16 tk))) (w.heap.size + 1) 34 .u16 (shRegsTo v (10 + k2 * 3 + 1)) from by
            have e := hset'.out (10 + k2 * 3 + 0)
            rw [q0'.out] at e
            have h : Blk _ (w.heap.size + 1) 34 .u16 ((shRegsTo v (10 + k2 * 3 + 0)).set (10 + k2 * 3 + 0) (wr16 tk)) := B0.out.set_ (10 + k2 * 3 + 0) (wr16 tk)
            rwa [e] at h)
          have F1 := Lib.hid (F0.out.far (u := .int .u16 (wr16 tk)) (x := ⟨w.heap.size + 1, 10 + k2 * 3 + 0, none⟩) (by show w.heap.size + 1 ≠ _; omega) (by show w.heap.size + 1 ≠ _; omega))
          have NB1 := Lib.hid ((Below.heap_setCell W9 ⟨w.heap.size + 1, 10 + k2 * 3 + 0, none⟩ (.int .u16 (wr16 tk)) wr.heap.size (by show wr.heap.size ≠ w.heap.size + 1; omega)).trans NB0.out)
          clear B0 F0 NB0 o0 N0b
          generalize W9.setCell ⟨w.heap.size + 1, 10 + k2 * 3 + 0, none⟩ (.int .u16 (wr16 tk)) = Z0 at *
          have N1b := N0
          clear N0
          have o1 := cellsAt NB1.out
          go_wp2_with fail
          refine (slvFill_any _ _ (w.heap.size + 1) 34 (10 + k2 * 3) 1 tw _ Z0 F1.out B1.out (shRegsTo_length v _) (by omega) (by omega)).mono ?_
          rintro e wz ⟨rfl, rfl⟩
          have N1 := N1b.setCell (p := ⟨w.heap.size + 1, 10 + k2 * 3 + 1, none⟩) (.inl rfl) (.int .u16 (wr16 tw))
          have B2 := Lib.hid (show Blk (Z0.setCell ⟨w.heap.size + 1, 10 + k2 * 3 + 1, none⟩ (.int .u16 (wr16 tw))) (w.heap.size + 1) 34 .u16 (shRegsTo v (10 + k2 * 3 + 2)) from by
            have e := hset'.out (10 + k2 * 3 + 1)
            rw [q1'.out] at e
            have h : Blk _ (w.heap.size + 1) 34 .u16 ((shRegsTo v (10 + k2 * 3 + 1)).set (10 + k2 * 3 + 1) (wr16 tw)) := B1.out.set_ (10 + k2 * 3 + 1) (wr16 tw)
            rwa [e] at h)
          have F2 := Lib.hid (F1.out.far (u := .int .u16 (wr16 tw)) (x := ⟨w.heap.size + 1, 10 + k2 * 3 + 1, none⟩) (by show w.heap.size + 1 ≠ _; omega) (by show w.heap.size + 1 ≠ _; omega))
          have NB2 := Lib.hid ((Below.heap_setCell Z0 ⟨w.heap.size + 1, 10 + k2 * 3 + 1, none⟩ (.int .u16 (wr16 tw)) wr.heap.size (by show wr.heap.size ≠ w.heap.size + 1; omega)).trans NB1.out)
          clear B1 F1 NB1 o1 N1b
          generalize Z0.setCell ⟨w.heap.size + 1, 10 + k2 * 3 + 1, none⟩ (.int .u16 (wr16 tw)) = Z1 at *
          have N2b := N1
          clear N1
          have o2 := cellsAt NB2.out
          go_wp2_with fail
          refine (slvFill_any _ _ (w.heap.size + 1) 34 (10 + k2 * 3) 2 ta _ Z1 F2.out B2.out (shRegsTo_length v _) (by omega) (by omega)).mono ?_
          rintro e wz ⟨rfl, rfl⟩
          have N2 := N2b.setCell (p := ⟨w.heap.size + 1, 10 + k2 * 3 + 2, none⟩) (.inl rfl) (.int .u16 (wr16 ta))
          have B3 := Lib.hid (show Blk (Z1.setCell ⟨w.heap.size + 1, 10 + k2 * 3 + 2, none⟩ (.int .u16 (wr16 ta))) (w.heap.size + 1) 34 .u16 (shRegsTo v (10 + k2 * 3 + 3)) from by
            have e := hset'.out (10 + k2 * 3 + 2)
            rw [q2'.out] at e
            have h : Blk _ (w.heap.size + 1) 34 .u16 ((shRegsTo v (10 + k2 * 3 + 2)).set (10 + k2 * 3 + 2) (wr16 ta)) := B2.out.set_ (10 + k2 * 3 + 2) (wr16 ta)
            rwa [e] at h)
          have F3 := Lib.hid (F2.out.far (u := .int .u16 (wr16 ta)) (x := ⟨w.heap.size + 1, 10 + k2 * 3 + 2, none⟩) (by show w.heap.size + 1 ≠ _; omega) (by show w.heap.size + 1 ≠ _; omega))
          have NB3 := Lib.hid ((Below.heap_setCell Z1 ⟨w.heap.size + 1, 10 + k2 * 3 + 2, none⟩ (.int .u16 (wr16 ta)) wr.heap.size (by show wr.heap.size ≠ w.heap.size + 1; omega)).trans NB2.out)
          clear B2 F2 NB2 o2 N2b
          generalize Z1.setCell ⟨w.heap.size + 1, 10 + k2 * 3 + 2, none⟩ (.int .u16 (wr16 ta)) = Z2 at *
          have N3b := N2
          clear N2
          go_wp2_with fail
          go_roundw
          case rel => exact ⟨k2 + 1, by omega, by omega, by go_num, by rw [show 10 + (k2 + 1) * 3 = 10 + k2 * 3 + 3 by omega]; exact B3.out, N3b⟩
          case measure => simp [intOf]; omega
        · have f1 : decide ((k2 : Int) < min (v.ns.length : Int) 8) = false := by simp; omega
          have hfin : shRegsTo v (10 + k2 * 3) = shRegsL v := by
            have hsk : shRegsTo v (10 + k2 * 3) = shRegsTo v 34 := fillR_skip _ _ _ 34 (by omega) (fun j h1 h2 => by unfold shRegAt; rw [if_neg (by omega), if_neg (by omega), if_neg (by omega), if_neg (by omega)])
            rw [hsk]
            exact fillR_all _ _ _ (by omega)
          have hB := hB'.out
          rw [hfin] at hB
          have hB2 := Lib.hid hB
          clear hB hB' hfin
          go_wp2_with fail
          go_ret
          exact ⟨w.heap.size + 1, rfl, hB2.out, E9.goM hM (fun i hi => by omega), by omega⟩
end Go.Proofs.Ytgeahfkhfpdlhaa
