/- Layer 4 without the program: what may be asked for, its bytes, what bytes ask for, bits. · Maps keyed by integers that are known whole: what a store of a new key, and a look-up, do. · Layer 4, the walks: shapes, and the look-up in it. · Layer 6, the walks: New. · Layer 4, the walks: words puts words behind bytes. -/
import Derived.Test.YtgagpalffdgjnaaWords
import Derived.Carry
import Derived.Test.YtgagpalffdgjnaaRows
import Derived.Test.YtgagpalffdgjnaaG01
import Derived.Deep.RegionHeld
namespace Go.Proofs.Ytgagpalffdgjnaa
open Go.RowKit

/-- What a request has: its form (0 reading, 1 single, 2 writing, 3 swapping), the greatest amount, how many values, whether bits. -/
structure Shape where
  form : Int
  qty : Int
  vals : Int
  bits : Bool
def shapeOf (fc : Int) : Option Shape :=
  if fc = 1 then some ⟨0, 2000, 0, true⟩ else if fc = 2 then some ⟨0, 2000, 0, true⟩ else if fc = 3 then some ⟨0, 125, 0, false⟩ else if fc = 4 then some ⟨0, 125, 0, false⟩
  else if fc = 5 then some ⟨1, 0, 1, true⟩ else if fc = 6 then some ⟨1, 0, 1, false⟩ else if fc = 15 then some ⟨2, 1968, 0, true⟩ else if fc = 16 then some ⟨2, 123, 0, false⟩
  else if fc = 22 then some ⟨1, 0, 2, false⟩ else if fc = 23 then some ⟨3, 125, 121, false⟩ else none
def Shape.val (s : Shape) : Value := .agg #[.int .i64 s.form, .int .i64 s.qty, .int .i64 s.vals, .bool s.bits]
def shapeZero : Value := .agg #[.int .i64 0, .int .i64 0, .int .i64 0, .bool false]
def lookV (fc : Int) : Value := match shapeOf fc with | some s => s.val | none => shapeZero

def ent (k f q v : Int) (b : Bool) (n : Nat) : MapEntry := ⟨.int .i64 k, .agg #[.int .i64 f, .int .i64 q, .int .i64 v, .bool b], n⟩
def E1 : Array MapEntry := #[ent 1 0 2000 0 true 0]
def E2 : Array MapEntry := E1.push (ent 2 0 2000 0 true 1)
def E3 : Array MapEntry := E2.push (ent 3 0 125 0 false 2)
def E4 : Array MapEntry := E3.push (ent 4 0 125 0 false 3)
def E5 : Array MapEntry := E4.push (ent 5 1 0 1 true 4)
def E6 : Array MapEntry := E5.push (ent 6 1 0 1 false 5)
def E7 : Array MapEntry := E6.push (ent 15 2 1968 0 true 6)
def E8 : Array MapEntry := E7.push (ent 16 2 123 0 false 7)
def E9 : Array MapEntry := E8.push (ent 22 1 0 2 false 8)
def E10 : Array MapEntry := E9.push (ent 23 3 125 121 false 9)

theorem find_E10 (k : Int) : ∃ r, Instr.findNow (.int .i64) (.int .i64 k) E10.toList 0 = some r ∧ pickV shapeZero r = lookV k ∧ r.isSome = (shapeOf k).isSome := by
  have e : E10.toList = [ent 1 0 2000 0 true 0, ent 2 0 2000 0 true 1, ent 3 0 125 0 false 2, ent 4 0 125 0 false 3, ent 5 1 0 1 true 4, ent 6 1 0 1 false 5, ent 15 2 1968 0 true 6, ent 16 2 123 0 false 7, ent 22 1 0 2 false 8, ent 23 3 125 121 false 9] := rfl
  rw [e]
  have step : ∀ (a f q v : Int) (b : Bool) (n i : Nat) (es : List MapEntry), Instr.findNow (.int .i64) (.int .i64 k) (ent a f q v b n :: es) i =
      if k = a then some (some (i, .agg #[.int .i64 f, .int .i64 q, .int .i64 v, .bool b])) else Instr.findNow (.int .i64) (.int .i64 k) es (i + 1) := by
    intro a f q v b n i es
    simp only [Instr.findNow, ent, Instr.sameNow]
    by_cases h : k = a
    · subst h; simp
    · have : (k == a) = false := by simp [h]
      simp [this, h]
  by_cases h1 : k = 1
  · subst h1; exact ⟨_, rfl, rfl, rfl⟩
  by_cases h2 : k = 2
  · subst h2; exact ⟨_, rfl, rfl, rfl⟩
  by_cases h3 : k = 3
  · subst h3; exact ⟨_, rfl, rfl, rfl⟩
  by_cases h4 : k = 4
  · subst h4; exact ⟨_, rfl, rfl, rfl⟩
  by_cases h5 : k = 5
  · subst h5; exact ⟨_, rfl, rfl, rfl⟩
  by_cases h6 : k = 6
  · subst h6; exact ⟨_, rfl, rfl, rfl⟩
  by_cases h15 : k = 15
  · subst h15; exact ⟨_, rfl, rfl, rfl⟩
  by_cases h16 : k = 16
  · subst h16; exact ⟨_, rfl, rfl, rfl⟩
  by_cases h22 : k = 22
  · subst h22; exact ⟨_, rfl, rfl, rfl⟩
  by_cases h23 : k = 23
  · subst h23; exact ⟨_, rfl, rfl, rfl⟩
  refine ⟨none, ?_, ?_, ?_⟩
  · rw [step, if_neg h1, step, if_neg h2, step, if_neg h3, step, if_neg h4, step, if_neg h5, step, if_neg h6, step, if_neg h15, step, if_neg h16, step, if_neg h22, step, if_neg h23]; rfl
  · unfold pickV lookV shapeOf; simp only [if_neg h1, if_neg h2, if_neg h3, if_neg h4, if_neg h5, if_neg h6, if_neg h15, if_neg h16, if_neg h22, if_neg h23]
  · unfold shapeOf; simp only [if_neg h1, if_neg h2, if_neg h3, if_neg h4, if_neg h5, if_neg h6, if_neg h15, if_neg h16, if_neg h22, if_neg h23]; rfl

/-- May these be written? -/
def valuesB (bits : Bool) (xs : List Int) : Bool := !bits || xs.all (· ≤ 1)
/-- Has a request what one of that shape has, and no more? -/
def holdsB (s : Shape) (ad qt to : Int) (xs : List Int) : Bool :=
  if ad < 0 ∨ 65536 ≤ ad ∨ to < 0 ∨ 65536 ≤ to ∨ qt < 0 ∨ s.qty < qt then false
  else if ((qt == 0) != (s.form == 1)) ∨ (s.form ≠ 3 ∧ to ≠ 0) then false
  else if s.form = 0 then xs.length == 0
  else if s.form = 1 then ((xs.length : Int) == s.vals) && valuesB s.bits xs
  else if s.form = 2 then ((xs.length : Int) == qt) && valuesB s.bits xs
  else decide (1 ≤ (xs.length : Int)) && decide ((xs.length : Int) ≤ s.vals)
/-- Are the places below what can be told? -/
def fitsB (ad qt to : Int) (n : Nat) : Bool := decide (ad + max qt 1 ≤ 65536) && decide (to + (n : Int) ≤ 65536)
/-- A word in two bytes, the higher first. -/
def hiLo (x : Int) : List Int := [x / 256 % 256, x % 256]
theorem hiLo_small (x : Int) (h0 : 0 ≤ x) (h1 : x ≤ 65535) : hiLo x = [x / 256, x % 256] := by unfold hiLo; rw [Int.emod_eq_of_lt (by omega) (by omega)]
def wordsL (xs : List Int) : List Int := xs.flatMap hiLo
theorem wordsL_length (xs : List Int) : (wordsL xs).length = 2 * xs.length := by
  induction xs with
  | nil => rfl
  | cons x l ih => show (hiLo x ++ wordsL l).length = _; rw [List.length_append, ih]; simp [hiLo]; omega
theorem wordsL_take (xs : List Int) (k : Nat) (h : k < xs.length) : wordsL (xs.take (k + 1)) = wordsL (xs.take k) ++ hiLo (xs.getD k 0) := by
  rw [List.take_succ_eq_append_getElem h]
  unfold wordsL
  rw [List.flatMap_append, List.getD_eq_getElem?_getD, List.getElem?_eq_getElem h]
  simp
/-- The number of m bits, the first the lowest. -/
def bitN (f : Nat → Bool) : Nat → Int
  | 0 => 0
  | j + 1 => bitN f j + (if f j then 2 ^ j else 0)
theorem bitN_range (f : Nat → Bool) (m : Nat) : 0 ≤ bitN f m ∧ bitN f m < 2 ^ m := by
  induction m with
  | zero => simp [bitN]
  | succ j ih =>
    have hp : (0 : Int) < 2 ^ j := Int.pow_pos (by omega)
    have e : (2 : Int) ^ (j + 1) = 2 ^ j * 2 := rfl
    simp only [bitN]
    split <;> omega
def bitAt (xs : List Int) (i j : Nat) : Bool := xs.getD (8 * i + j) 0 != 0
/-- The bytes when k bits have been put. -/
def bitsTo (xs : List Int) (k : Nat) : List Int := (List.range ((xs.length + 7) / 8)).map fun i => bitN (bitAt xs i) (min 8 (k - 8 * i))
def bitsL (xs : List Int) : List Int := bitsTo xs xs.length
theorem bitsTo_length (xs : List Int) (k : Nat) : (bitsTo xs k).length = (xs.length + 7) / 8 := by simp [bitsTo]
theorem bitsTo_getD (xs : List Int) (k i : Nat) (h : i < (xs.length + 7) / 8) : (bitsTo xs k).getD i 0 = bitN (bitAt xs i) (min 8 (k - 8 * i)) := by
  unfold bitsTo
  rw [List.getD_eq_getElem?_getD, List.getElem?_map, List.getElem?_range h]; rfl
theorem bitsTo_zero (xs : List Int) : bitsTo xs 0 = zs ((xs.length + 7) / 8) := by
  unfold bitsTo zs
  apply List.ext_getElem?
  intro i
  by_cases h : i < (xs.length + 7) / 8
  · rw [List.getElem?_map, List.getElem?_range h, List.getElem?_replicate, if_pos h]; simp [bitN]
  · rw [List.getElem?_eq_none (by simp; omega), List.getElem?_eq_none (by simp; omega)]
theorem bitsTo_other (xs : List Int) (k i : Nat) (hi : k / 8 ≠ i) : (bitsTo xs (k + 1))[i]? = (bitsTo xs k)[i]? := by
  by_cases h : i < (xs.length + 7) / 8
  · unfold bitsTo
    rw [List.getElem?_map, List.getElem?_map, List.getElem?_range h]
    simp only [Option.map_some]
    have e : min 8 (k + 1 - 8 * i) = min 8 (k - 8 * i) := by omega
    rw [e]
  · rw [List.getElem?_eq_none (by rw [bitsTo_length]; omega), List.getElem?_eq_none (by rw [bitsTo_length]; omega)]
theorem bitsTo_here (xs : List Int) (k : Nat) (hk : k < xs.length) : (bitsTo xs (k + 1)).getD (k / 8) 0 = (bitsTo xs k).getD (k / 8) 0 + (if xs.getD k 0 ≠ 0 then 2 ^ (k % 8) else 0) := by
  rw [bitsTo_getD _ _ _ (by omega), bitsTo_getD _ _ _ (by omega)]
  have e1 : min 8 (k + 1 - 8 * (k / 8)) = k % 8 + 1 := by omega
  have e2 : min 8 (k - 8 * (k / 8)) = k % 8 := by omega
  have e3 : 8 * (k / 8) + k % 8 = k := by omega
  rw [e1, e2]
  simp only [bitN, bitAt, e3, bne_iff_ne]
theorem bitsTo_set (xs : List Int) (k : Nat) (hk : k < xs.length) (h : xs.getD k 0 ≠ 0) : (bitsTo xs k).set (k / 8) ((bitsTo xs k).getD (k / 8) 0 + 2 ^ (k % 8)) = bitsTo xs (k + 1) := by
  apply List.ext_getElem?
  intro i
  rw [List.getElem?_set]
  by_cases e : k / 8 = i
  · subst e
    rw [if_pos rfl, if_pos (by rw [bitsTo_length]; omega)]
    have := bitsTo_here xs k hk
    rw [if_pos h] at this
    have hl : k / 8 < (bitsTo xs (k + 1)).length := by rw [bitsTo_length]; omega
    rw [← this, List.getD_eq_getElem?_getD, List.getElem?_eq_getElem hl]; rfl
  · rw [if_neg e, bitsTo_other xs k i e]
theorem bitsTo_same (xs : List Int) (k : Nat) (hk : k < xs.length) (h : xs.getD k 0 = 0) : bitsTo xs k = bitsTo xs (k + 1) := by
  apply List.ext_getElem?
  intro i
  by_cases e : k / 8 = i
  · subst e
    have := bitsTo_here xs k hk
    rw [if_neg (fun e => e h), Int.add_zero] at this
    have h1 : k / 8 < (bitsTo xs (k + 1)).length := by rw [bitsTo_length]; omega
    have h2 : k / 8 < (bitsTo xs k).length := by rw [bitsTo_length]; omega
    rw [List.getD_eq_getElem?_getD, List.getD_eq_getElem?_getD, List.getElem?_eq_getElem h1, List.getElem?_eq_getElem h2] at this
    rw [List.getElem?_eq_getElem h1, List.getElem?_eq_getElem h2]
    exact congrArg some this.symm
  · exact (bitsTo_other xs k i e).symm
theorem bit_or (x : Int) (j : Nat) (h0 : 0 ≤ x) (h1 : x < 2 ^ j) (hj : j < 8) : bits .or .u8 x (2 ^ j) = x + 2 ^ j := by
  have hp : ((2 : Int) ^ j).toNat = 2 ^ j := by rw [show (2 : Int) ^ j = ((2 ^ j : Nat) : Int) by simp]; rfl
  have hx : x = (x.toNat : Int) := by omega
  have hlt : x.toNat < 2 ^ j := by
    have : (x.toNat : Int) < ((2 ^ j : Nat) : Int) := by rw [← hx]; simpa using h1
    omega
  have h8 : (2 : Nat) ^ j ≤ 2 ^ 7 := Nat.pow_le_pow_right (by omega) (by omega)
  have hp2 : (0 : Nat) < 2 ^ j := Nat.pow_pos (by omega)
  have e2 : (2 : Int) ^ j = ((2 ^ j : Nat) : Int) := by simp
  rw [u8_or x (2 ^ j) h0 (by rw [e2] at h1; omega) (by rw [e2]; omega) (by rw [e2]; omega), hp, Nat.or_comm, nat_join j _ _ (by simp) hlt, hx]
  rw [e2]; omega

theorem bit_or' (x : Int) (j : Nat) (h0 : 0 ≤ x) (h1 : x < 2 ^ j) (hj : j < 8) : bits .or .u8 x (2 ^ j % 256) = x + 2 ^ j := by
  have e2 : (2 : Int) ^ j = ((2 ^ j : Nat) : Int) := by simp
  have h8 : (2 : Nat) ^ j ≤ 2 ^ 7 := Nat.pow_le_pow_right (by omega) (by omega)
  rw [Int.emod_eq_of_lt (by rw [e2]; omega) (by rw [e2]; omega), bit_or x j h0 h1 hj]
/-- The first n bits of bytes. -/
def unbitsL (bs : List Int) (n : Nat) : List Int := (List.range n).map fun i => if i / 8 < bs.length then bs.getD (i / 8) 0 / 2 ^ (i % 8) % 2 else 0
theorem unbit_val (x : Int) (j : Nat) (h0 : 0 ≤ x) (h1 : x ≤ 255) : IntKind.u16.wrap (bits .and .u8 (x / 2 ^ j) 1) = x / 2 ^ j % 2 := by
  have hp : (0 : Int) < 2 ^ j := Int.pow_pos (by omega)
  have a0 : 0 ≤ x / 2 ^ j := Int.ediv_nonneg h0 (by omega)
  have a1 : x / 2 ^ j ≤ x := Int.ediv_le_self _ h0
  rw [u8_and _ 1 a0 (by omega) (by omega) (by omega)]
  show IntKind.u16.wrap ((_ &&& 1 : Nat) : Int) = _
  rw [nat_mask1, IntKind.wrap_u16]; omega
def unbitsTo (bs : List Int) (n k : Nat) : List Int := (List.range n).map fun i => if i < k ∧ i / 8 < bs.length then bs.getD (i / 8) 0 / 2 ^ (i % 8) % 2 else 0
theorem unbitsTo_length (bs : List Int) (n k : Nat) : (unbitsTo bs n k).length = n := by simp [unbitsTo]
theorem unbitsL_length (bs : List Int) (n : Nat) : (unbitsL bs n).length = n := by simp [unbitsL]
theorem unbitsTo_zero (bs : List Int) (n : Nat) : unbitsTo bs n 0 = zs n := by
  unfold unbitsTo zs
  apply List.ext_getElem?
  intro i
  by_cases h : i < n <;> simp [h]
theorem unbitsTo_all (bs : List Int) (n k : Nat) (h : n ≤ k ∨ bs.length ≤ k / 8) : unbitsTo bs n k = unbitsL bs n := by
  unfold unbitsTo unbitsL
  apply List.map_congr_left
  intro i hi
  rw [List.mem_range] at hi
  by_cases h1 : i / 8 < bs.length
  · rw [if_pos ⟨by omega, h1⟩, if_pos h1]
  · rw [if_neg (fun h => h1 h.2), if_neg h1]
theorem unbitsTo_set (bs : List Int) (n k : Nat) (hk : k < n) (h : k / 8 < bs.length) : (unbitsTo bs n k).set k (bs.getD (k / 8) 0 / 2 ^ (k % 8) % 2) = unbitsTo bs n (k + 1) := by
  apply List.ext_getElem?
  intro i
  rw [List.getElem?_set, unbitsTo_length]
  by_cases hi : i < n
  · unfold unbitsTo
    rw [List.getElem?_map, List.getElem?_map, List.getElem?_range hi]
    simp only [Option.map_some]
    by_cases e : k = i
    · subst e
      rw [if_pos rfl, if_pos hi, if_pos ⟨by omega, h⟩]
    · rw [if_neg e]
      congr 1
      by_cases h2 : i < k
      · by_cases h3 : i / 8 < bs.length
        · rw [if_pos ⟨h2, h3⟩, if_pos ⟨by omega, h3⟩]
        · rw [if_neg (fun h => h3 h.2), if_neg (fun h => h3 h.2)]
      · rw [if_neg (fun h => h2 h.1), if_neg (fun h => by omega)]
  · rw [if_neg (by omega), List.getElem?_eq_none (by simp [unbitsTo]; omega), List.getElem?_eq_none (by simp [unbitsTo]; omega)]
/-- The bytes of a request. -/
def headL (fc ad : Int) : List Int := [fc % 256] ++ wordsL [ad]
def codedL (s : Shape) (fc ad qt to : Int) (xs : List Int) : List Int :=
  if s.form = 0 then headL fc ad ++ wordsL [qt]
  else if s.form = 1 then (if s.bits then headL fc ad ++ wordsL [65280 * xs.getD 0 0] else headL fc ad ++ wordsL xs)
  else
    let mid := if s.form = 2 then headL fc ad ++ wordsL [qt] else headL fc ad ++ wordsL [qt, to, (xs.length : Int)]
    if s.bits then mid ++ [((xs.length : Int) + 7) / 8] ++ bitsL xs else mid ++ [2 * (xs.length : Int)] ++ wordsL xs
end Go.Proofs.Ytgagpalffdgjnaa
namespace Go.Proofs.Ytgagpalffdgjnaa
open Go.RowKit

theorem getObj_at {P : Program} {w : World} {g : Nat} {es : Array MapEntry} {c : Nat} (h : w.heap[g]? = some (.map es c)) : (getObj g).run P w = .ok (.map es c) w := by
  simp [getObj, Sem.run, h]
theorem setObj_at {P : Program} (w : World) (es : Array MapEntry) (c : Nat) (o : Obj) : (setObj w.heap.size o).run P (w.alloc (.map es c)) = .ok () (w.alloc o) := by
  have h := heap_alloc_new w (.map es c)
  have e : (w.heap.push (.map es c)).setIfInBounds w.heap.size o = w.heap.push o := by
    apply Array.ext_getElem?
    intro i
    rw [Array.getElem?_setIfInBounds, Array.getElem?_push, Array.getElem?_push, Array.size_push]
    by_cases hi : w.heap.size = i
    · subst hi; simp
    · rw [if_neg hi, if_neg (fun e => hi e.symm), if_neg (fun e => hi e.symm)]
  simp only [setObj, Sem.run, h]
  show Result.ok () ({ w with heap := (w.heap.push (.map es c)).setIfInBounds w.heap.size o } : World) = Result.ok () { w with heap := w.heap.push o }
  rw [e]
section
variable {P : Program} {t kt et : TypeId} {ik : IntKind}
theorem check_int (n : Nat) (b : Bool) (w : World) (k : Int) (hk : P.underlying kt = some (.int ik)) : (Instr.checkKey b (n + 1) kt (.int ik k)).run P w = .ok () w := by
  simp [Instr.checkKey, run_underlying hk]
theorem findKey_int (w : World) (k : Int) (es : List MapEntry) {r : Option (Nat × Value)} (hk : P.underlying kt = some (.int ik)) (hf : Instr.findNow (.int ik) (.int ik k) es 0 = some r) : (Instr.findKey kt (.int ik k) es).run P w = .ok r w := by
  simp [Instr.findKey, run_underlying hk, hf]
theorem run_insert_new (ht : P.underlying t = some (.map kt et)) (hk : P.underlying kt = some (.int ik)) (w : World) (es : Array MapEntry) (c g : Nat) (hg : g = w.heap.size) (k : Int) (v : Value)
    (hf : Instr.findNow (.int ik) (.int ik k) es.toList 0 = some none) :
    (Instr.mapUpdate t (.map (some g)) (.int ik k) v).run P (w.alloc (.map es c)) = .ok () (w.alloc (.map (es.push ⟨.int ik k, v, c⟩) (c + 1))) := by
  subst hg
  have h := heap_alloc_new w (.map es c)
  simp only [Instr.mapUpdate, Sem.run_bind, run_underlying ht, Result.andThen_ok, getObj_at h, check_int 9999 false _ k hk, findKey_int _ k _ hk hf, setObj_at]
theorem run_look (ht : P.underlying t = some (.map kt et)) (hk : P.underlying kt = some (.int ik)) {z : Value} {w : World} (hz : (zeroValue et).run P w = .ok z w) {es : Array MapEntry} {c g : Nat} (h : w.heap[g]? = some (.map es c)) (k : Int) {r : Option (Nat × Value)}
    (hf : Instr.findNow (.int ik) (.int ik k) es.toList 0 = some r) :
    (Instr.lookup t (.map (some g)) (.int ik k) true).run P w = .ok (.tuple #[pickV z r, .bool r.isSome]) w := by
  simp only [Instr.lookup, Sem.run_bind, run_underlying ht, Result.andThen_ok, getObj_at h, check_int 9999 _ _ k hk, Sem.run_pure, findKey_int _ k _ hk hf]
  cases r with
  | none => simp [hz, pickV]
  | some p => simp [pickV]
end
end Go.Proofs.Ytgagpalffdgjnaa
namespace Go.Proofs.Ytgagpalffdgjnaa
open Go.RowKit

theorem shape_zero (w : World) : (zeroValue 162).run Try.prog w = .ok shapeZero w := by kernel_rfl
theorem look_any {w : World} {g : Nat} (h : w.heap[g]? = some (.map E10 10)) (k : Int) :
    (Instr.lookup 164 (.map (some g)) (.int .i64 k) true).run Try.prog w = .ok (.tuple #[lookV k, .bool (shapeOf k).isSome]) w := by
  obtain ⟨r, h1, h2, h3⟩ := find_E10 k
  rw [run_look Try.underlying164 Try.underlying3 (shape_zero w) h k h1, h2, h3]

set_option maxRecDepth 100000 in
set_option maxHeartbeats 800000 in
theorem shapes_any (w : World) :
    Calls Try.prog 75 #[] w fun e w' => e = .returned (.map (some w.heap.size)) ∧ w.alloc (.map E10 10) = w' := by
  have hmm := @run_makeMap Try.prog
  have ins := fun es c k v hf => run_insert_new (P := Try.prog) Try.underlying164 Try.underlying3 w es c w.heap.size rfl k v hf
  have i1 := ins #[] 0 1 (ent 1 0 2000 0 true 0).val rfl
  have i2 := ins E1 1 2 (ent 2 0 2000 0 true 0).val rfl
  have i3 := ins E2 2 3 (ent 3 0 125 0 false 0).val rfl
  have i4 := ins E3 3 4 (ent 4 0 125 0 false 0).val rfl
  have i5 := ins E4 4 5 (ent 5 1 0 1 true 0).val rfl
  have i6 := ins E5 5 6 (ent 6 1 0 1 false 0).val rfl
  have i7 := ins E6 6 15 (ent 15 2 1968 0 true 0).val rfl
  have i8 := ins E7 7 16 (ent 16 2 123 0 false 0).val rfl
  have i9 := ins E8 8 22 (ent 22 1 0 2 false 0).val rfl
  have i10 := ins E9 9 23 (ent 23 3 125 121 false 0).val rfl
  clear ins
  rw [show (#[] : Array MapEntry).push ⟨.int .i64 1, (ent 1 0 2000 0 true 0).val, 0⟩ = E1 from rfl] at i1
  rw [show E1.push ⟨.int .i64 2, (ent 2 0 2000 0 true 0).val, 1⟩ = E2 from rfl] at i2
  rw [show E2.push ⟨.int .i64 3, (ent 3 0 125 0 false 0).val, 2⟩ = E3 from rfl] at i3
  rw [show E3.push ⟨.int .i64 4, (ent 4 0 125 0 false 0).val, 3⟩ = E4 from rfl] at i4
  rw [show E4.push ⟨.int .i64 5, (ent 5 1 0 1 true 0).val, 4⟩ = E5 from rfl] at i5
  rw [show E5.push ⟨.int .i64 6, (ent 6 1 0 1 false 0).val, 5⟩ = E6 from rfl] at i6
  rw [show E6.push ⟨.int .i64 15, (ent 15 2 1968 0 true 0).val, 6⟩ = E7 from rfl] at i7
  rw [show E7.push ⟨.int .i64 16, (ent 16 2 123 0 false 0).val, 7⟩ = E8 from rfl] at i8
  rw [show E8.push ⟨.int .i64 22, (ent 22 1 0 2 false 0).val, 8⟩ = E9 from rfl] at i9
  rw [show E9.push ⟨.int .i64 23, (ent 23 3 125 121 false 0).val, 9⟩ = E10 from rfl] at i10
  simp only [ent] at i1 i2 i3 i4 i5 i6 i7 i8 i9 i10
  go_enter Try.func75, Try.ntmps75
  go_wp2
  go_ret
  exact ⟨rfl, rfl⟩
end Go.Proofs.Ytgagpalffdgjnaa
namespace Go.Proofs.Ytgagpalffdgjnaa
open Go.RowKit

def clampN (n : Int) : Nat := (max 0 (min n 256)).toNat
theorem clampN_le (n : Int) : clampN n ≤ 256 := by unfold clampN; omega
def sz4 (a0 a1 a2 a3 : Int) : Nat → Int
  | 0 => a0
  | 1 => a1
  | 2 => a2
  | _ => a3
def newL (a0 a1 a2 a3 : Int) : Nat → List Int := fun k => zs (clampN (sz4 a0 a1 a2 a3 k))
def NewPost (a0 a1 a2 a3 : Int) (w : World) (e : Ending) (w' : World) : Prop :=
  ∃ g G, e = .returned (.pointer (some ⟨g, 0, none⟩)) ∧ Bk w' g (newL a0 a1 a2 a3) G ∧ Ext w w' ∧ w.heap.size ≤ g
def partV (L : Nat → List Int) (G : Nat → Nat) (k j : Nat) : Value := if j < k then slotV L G j else .slice none 0 0
/-- A bank of which the first k rows were made. -/
structure BkPart (w : World) (g : Nat) (L : Nat → List Int) (G : Nat → Nat) (k : Nat) : Prop where
  head : w.heap[g]? = some (.cells #[partV L G k 0, partV L G k 1, partV L G k 2, partV L G k 3] 181 (0, 0))
  rowAt : ∀ j, j < k → Blk w (G j) 43 .u16 (L j)
  up0 : ∀ j, j < k → g < G j
  up : ∀ i j, i < j → j < k → G i < G j
theorem BkPart.lt {w : World} {g : Nat} {L : Nat → List Int} {G : Nat → Nat} {k : Nat} (h : BkPart w g L G k) : g < w.heap.size := (Array.getElem?_eq_some_iff.1 h.head).1
theorem setCell_sizeB (w : World) (p : Addr) (u : Value) : (w.setCell p u).heap.size = w.heap.size := by simp [World.setCell]
theorem BkPart.step {w w1 : World} {g : Nat} {L : Nat → List Int} {G : Nat → Nat} {k m : Nat} (h : BkPart w g L G k) (hk : k < 4) (hL : L k = zs m)
    (hw : w1.heap = ((w.setCell ⟨g, k, none⟩ (.slice (some ⟨w.heap.size, 0, none⟩) m m)).alloc (.cells (row .u16 (zs m)) 43)).heap) : BkPart w1 g L (fun j => if j = k then w.heap.size else G j) (k + 1) := by
  have hg := h.lt
  have hold : ∀ b, b < w.heap.size → b ≠ g → w1.heap[b]? = w.heap[b]? := fun b hb hn => by
    rw [hw, alloc_get, setCell_sizeB, if_neg (by omega), Below.heap_setCell _ _ _ _ (by simpa using hn)]
  refine ⟨?_, fun j hj => ?_, fun j hj => ?_, fun i j hi hj => ?_⟩
  · have h0 := h.head
    rw [hw, alloc_get, setCell_sizeB, if_neg (by omega)]
    simp only [World.setCell, Array.getElem?_modify, h0, if_true, Option.map_some]
    congr 2
    unfold partV slotV
    rcases (show k = 0 ∨ k = 1 ∨ k = 2 ∨ k = 3 by omega) with rfl | rfl | rfl | rfl
    all_goals simp [hL, zs_length]
  · by_cases e : j = k
    · subst e
      simp only [if_true]
      rw [hL]
      unfold Blk
      rw [hw, alloc_get, setCell_sizeB, if_pos rfl]
    · simp only [if_neg e]
      have hj' : j < k := by omega
      have := h.rowAt j hj'
      exact (hold (G j) this.lt (by have := h.up0 j hj'; omega)).trans this
  · by_cases e : j = k
    · simp only [if_pos e]; exact hg
    · simp only [if_neg e]; exact h.up0 j (by omega)
  · by_cases e : j = k
    · simp only [if_pos e, if_neg (show ¬ i = k by omega)]; exact (h.rowAt i (by omega)).lt
    · simp only [if_neg e, if_neg (show ¬ i = k by omega)]; exact h.up i j hi (by omega)
theorem zs_range (n : Nat) : ∀ j : Nat, 0 ≤ (zs n)[j]?.getD 0 ∧ (zs n)[j]?.getD 0 ≤ 65535 := by
  refine rng_of (by omega) (by omega) fun y hy => ?_
  have := List.eq_of_mem_replicate hy
  omega
theorem BkPart.whole {w : World} {g : Nat} {a0 a1 a2 a3 : Int} {G : Nat → Nat} (h : BkPart w g (newL a0 a1 a2 a3) G 4) : Bk w g (newL a0 a1 a2 a3) G :=
  ⟨by have := h.head; simpa [partV] using this, fun k hk => h.rowAt k hk, h.up0 0 (by omega), fun i j hi hj => h.up i j hi hj, fun k => by unfold newL; rw [zs_length]; exact clampN_le _, fun k => zs_range _⟩
set_option maxRecDepth 100000 in
set_option maxHeartbeats 3200000 in
theorem bankNew_any (a0 a1 a2 a3 : Int) (w : World) :
    Calls Try.prog 56 #[.agg #[.int .i64 a0, .int .i64 a1, .int .i64 a2, .int .i64 a3]] w (NewPost a0 a1 a2 a3 w) := by
  go_enter Try.func56, Try.ntmps56
  go_wp2
  go_loopw [8] (fun i wr => ∃ k : Nat, k ≤ 4 ∧ i = .int .i64 k ∧ ∃ G, BkPart wr (w.heap.size + 1) (newL a0 a1 a2 a3) G k ∧ Ext w wr) (fun i _ => 4 - (intOf i).toNat)
  case atStart => exact ⟨0, by omega, rfl, fun _ => 0, ⟨by rw [alloc_get, if_pos (by simp)]; rfl, fun j hj => absurd hj (by omega), fun j hj => absurd hj (by omega), fun i j _ hj => absurd hj (by omega)⟩, ((Ext.refl w).goA _).goA _⟩
  case round =>
    obtain ⟨k, hk, rfl, G, hp, hE⟩ := hrel
    by_cases hlt : k < 4
    · have hix : ∀ w, (Instr.index 69 (.agg #[.int .i64 a0, .int .i64 a1, .int .i64 a2, .int .i64 a3]) (.int .i64 k)).run Try.prog w = .ok (.int .i64 (sz4 a0 a1 a2 a3 k)) w := fun w => by
        rcases (show k = 0 ∨ k = 1 ∨ k = 2 ∨ k = 3 by omega) with rfl | rfl | rfl | rfl <;> kernel_rfl
      have hL : newL a0 a1 a2 a3 k = zs (clampN (sz4 a0 a1 a2 a3 k)) := rfl
      have hL' := Lib.hid hL
      have hm := clampN_le (sz4 a0 a1 a2 a3 k)
      have hmk := fun w => run_mkI Try.underlying28 info_u16 (max 0 (min (sz4 a0 a1 a2 a3 k) 256)) (clampN (sz4 a0 a1 a2 a3 k)) (by unfold clampN; omega) (by omega) (by omega) w
      clear hL
      generalize sz4 a0 a1 a2 a3 k = x at *
      generalize hc : clampN x = m at *
      go_wp2
      have d0 : Ext w wr.drew := hE.god
      have hg := hp.lt
      have hp' := Lib.hid hp
      have hc1 : wr.frozen? ⟨w.heap.size + 1, k, none⟩ = false := by have := hp.head; simp [World.frozen?, this]
      have hc0 : ∃ v, wr.cell? ⟨w.heap.size + 1, k, none⟩ = some v := by
        rw [cellsAt hp.head]
        rcases (show k = 0 ∨ k = 1 ∨ k = 2 ∨ k = 3 by omega) with rfl | rfl | rfl | rfl <;> exact ⟨_, rfl⟩
      obtain ⟨v0, hc0⟩ := hc0
      clear hp
      refine wp_region_held_drew (S := fun w' => Ext w w') (by kernel_rfl) d0 (fun hHeld => ?_)
      refine wpAnyH_take (i := 0) (oi := _) (v := ?_) rfl (by kernel_rfl) (by kernel_rfl) (by kernel_rfl) (fun _ _ _ h => h) (Or.inl ⟨by rfl, ?_⟩) (by assumption) ?_
      rotate_left
      · intro w hSw
        (try dsimp only at hSw)
        go_simp
        try (with_reducible rfl)
      try simp only [Act.put, List.getElem_toArray, List.getElem_cons_zero, List.setIfInBounds_toArray, List.set_cons_zero, List.set_cons_succ]
      refine wpAnyH_take (i := 1) (oi := _) (v := ?_) rfl (by kernel_rfl) (by kernel_rfl) (by kernel_rfl) (fun _ _ _ h => h) (Or.inl ⟨by rfl, ?_⟩) (by assumption) ?_
      rotate_left
      · intro w hSw
        (try dsimp only at hSw)
        go_simp
        try (with_reducible rfl)
      try simp only [Act.put, List.getElem_toArray, List.getElem_cons_succ, List.getElem_cons_zero, List.setIfInBounds_toArray, List.set_cons_zero, List.set_cons_succ]
      refine wpAnyH_take (i := 2) (oi := _) (v := ?_) rfl (by kernel_rfl) (by kernel_rfl) (by kernel_rfl) (fun _ _ _ h => h) (Or.inl ⟨by rfl, ?_⟩) (by assumption) ?_
      rotate_left
      · intro w hSw
        (try dsimp only at hSw)
        go_simp
        try (with_reducible rfl)
      try simp only [Act.put, List.getElem_toArray, List.getElem_cons_succ, List.getElem_cons_zero, List.setIfInBounds_toArray, List.set_cons_zero, List.set_cons_succ]
      refine wpAnyH_take (i := 3) (oi := _) (v := ?_) rfl (by kernel_rfl) (by kernel_rfl) (by kernel_rfl) (fun _ _ _ h => h) (Or.inl ⟨by rfl, ?_⟩) (by assumption) ?_
      rotate_left
      · intro w hSw
        (try dsimp only at hSw)
        go_simp
        try (with_reducible rfl)
      try simp only [Act.put, List.getElem_toArray, List.getElem_cons_succ, List.getElem_cons_zero, List.setIfInBounds_toArray, List.set_cons_zero, List.set_cons_succ]
      refine wpAnyH_take (i := 4) (oi := _) (v := ?_) rfl (by kernel_rfl) (by kernel_rfl) (by kernel_rfl) (fun _ _ _ h => h) (Or.inl ⟨by rfl, ?_⟩) (by assumption) ?_
      rotate_left
      · intro w hSw
        (try dsimp only at hSw)
        go_simp
        try (with_reducible rfl)
      try simp only [Act.put, List.getElem_toArray, List.getElem_cons_succ, List.getElem_cons_zero, List.setIfInBounds_toArray, List.set_cons_zero, List.set_cons_succ]
      refine wpAnyH_take (i := 6) (oi := _) (v := ?_) rfl (by kernel_rfl) (by kernel_rfl) (by kernel_rfl) (fun _ _ _ h => h) (Or.inl ⟨by rfl, ?_⟩) (by assumption) ?_
      rotate_left
      · intro w hSw
        (try dsimp only at hSw)
        go_simp
        try (with_reducible rfl)
      try simp only [Act.put, List.getElem_toArray, List.getElem_cons_succ, List.getElem_cons_zero, List.setIfInBounds_toArray, List.set_cons_zero, List.set_cons_succ]
      refine wpAnyH_take (i := 7) (oi := _) (v := ?_) rfl (by kernel_rfl) (by kernel_rfl) (by kernel_rfl) (fun _ _ _ h => h) (Or.inl ⟨by rfl, ?_⟩) (by assumption) ?_
      rotate_left
      · intro w hSw
        (try dsimp only at hSw)
        go_simp
        try (with_reducible rfl)
      try simp only [Act.put, List.getElem_toArray, List.getElem_cons_succ, List.getElem_cons_zero, List.setIfInBounds_toArray, List.set_cons_zero, List.set_cons_succ]
      refine wpAnyH_ready (rs := [5]) (by kernel_rfl) (by simp) ?_
      refine AllReadyH.cons rfl (fun K hK => ?_) ?_
      rotate_left
      · exact AllReadyH.nil
      go_simp
      refine hK.out _ _ ?_ (fun hHeld => ?_)
      · exact d0.goA _
      clear hK K
      try simp only [Act.put, List.getElem_toArray, List.getElem_cons_succ, List.getElem_cons_zero, List.setIfInBounds_toArray, List.set_cons_zero, List.set_cons_succ]
      refine wpAnyH_take (i := 8) (oi := _) (v := ?_) rfl (by kernel_rfl) (by kernel_rfl) (by kernel_rfl) (fun _ _ _ h => h) (Or.inl ⟨by rfl, ?_⟩) (by assumption) ?_
      rotate_left
      · intro w hSw
        (try dsimp only at hSw)
        go_simp
        try (with_reducible rfl)
      try simp only [Act.put, List.getElem_toArray, List.getElem_cons_succ, List.getElem_cons_zero, List.setIfInBounds_toArray, List.set_cons_zero, List.set_cons_succ]
      refine wpAnyH_ready (rs := [9]) (by kernel_rfl) (by simp) ?_
      refine AllReadyH.cons rfl (fun K hK => ?_) ?_
      rotate_left
      · exact AllReadyH.nil
      go_simp
      refine hK.out _ _ ?_ (fun hHeld => ?_)
      · exact ((hE.goS (by simp) _).goA _).god
      clear hK K
      try simp only [Act.put, List.getElem_toArray, List.getElem_cons_succ, List.getElem_cons_zero, List.setIfInBounds_toArray, List.set_cons_zero, List.set_cons_succ]
      refine wpAnyH_done (by kernel_rfl) ?_ _
      go_wp2_with fail
      go_roundw
      case rel =>
        refine ⟨k + 1, by omega, by go_num, _, hp'.out.step hlt hL'.out rfl, ?_⟩
        exact ((hE.goS (by simp) _).goA _).god
      case measure => simp [intOf]; omega
    · obtain rfl : k = 4 := by omega
      go_wp2
      go_ret
      exact ⟨_, _, rfl, hp.whole, hE, by omega⟩
end Go.Proofs.Ytgagpalffdgjnaa
namespace Go.Proofs.Ytgagpalffdgjnaa
open Go.RowKit

/-- What words leaves. -/
def WordsPost (w : World) (base : Nat) (v : Value) (n : Nat) (bs : List Int) (e : Ending) (w' : World) : Prop :=
  ∃ v', e = .returned v' ∧ w'.ownsRow base 5 1 v' n (bs.map (Value.int .u8)) ∧ Mod (fun i => v.ownBlock = some i) w w' ∧ (v'.ownBlock = v.ownBlock ∨ ∃ g, v'.ownBlock = some g ∧ w.heap.size ≤ g)

theorem RdI.pair (w : World) (e : TypeId) (k : IntKind) (x y : Int) : RdI (w.alloc (.cells #[.int k x, .int k y] e)) (w.heap.size + 1) k (some ⟨w.heap.size, 0, none⟩) 2 [x, y] :=
  RdI.new [x, y] rfl rfl rfl

set_option maxRecDepth 100000 in
set_option maxHeartbeats 1000000 in
theorem words16_any (v : Value) (n base B m c : Nat) (bs ys : List Int) (A : Option Addr) (w : World) (hown : w.ownsRow base 5 1 v n (bs.map (Value.int .u8))) (hbase : base ≤ w.heap.size) (hy : RdI w B .u16 A m ys)
    (hne : 0 < m → ∀ b o, A = some ⟨b, o, none⟩ → v.ownBlock ≠ some b) (hn : n + 2 * m ≤ 1048576) :
    Calls Try.prog 123 #[v, .slice A m c] w (WordsPost w base v (n + 2 * m) (bs ++ wordsL ys)) := by
  have hl := Lib.hid hy.len
  go_enter Try.func123, Try.ntmps123
  go_wp2
  go_loopw [0, 9] (fun u i wr => ∃ k : Nat, k ≤ m ∧ i = .int .i64 k ∧ wr.ownsRow base 5 1 u (n + 2 * k) ((bs ++ wordsL (ys.take k)).map (Value.int .u8)) ∧ Mod (fun i => v.ownBlock = some i) w wr ∧ (u.ownBlock = v.ownBlock ∨ ∃ g, u.ownBlock = some g ∧ w.heap.size ≤ g)) (fun _ i _ => m - (intOf i).toNat)
  case atStart => exact ⟨0, by omega, rfl, by simpa [wordsL] using hown, Mod.refl _ _, .inl rfl⟩
  case round =>
    obtain ⟨k, hk, rfl, hown', hmod, hat⟩ := hrel
    by_cases hlt : k < m
    · obtain ⟨b, o, rfl, hb, hc0⟩ := hy.at_ hlt
      have hlb := World.block_lt_of_cell? w _ hc0
      have hc := (hmod.cell (o + k) hlb (hne (by omega) b o rfl)).trans hc0
      have hc0' := Lib.hid hc0
      clear hc0
      go_wp2_with (at_builtin; refine wpList_appI rfl (.tmp 13) (.tmp 19) _ rfl Try.underlying34 info_u8 (hown'.alloc _) rfl (RdI.pair _ _ _ _ _) rfl (by omega) (by omega) (by have := hmod.size; simp; omega) ?_; intro v' w1 hown1 hg1 hat1)
      go_roundw
      case rel =>
        refine ⟨k + 1, by omega, by go_num, ?_, ?_, ?_⟩
        · rw [wordsL_take ys k (by rw [hl.out]; exact hlt), List.getD_eq_getElem?_getD, ← List.append_assoc, show n + 2 * (k + 1) = n + 2 * k + 2 by omega]; exact hown1
        · refine (hmod.alloc _).grown hg1 (fun i hi => ?_)
          rcases hat with h | ⟨g, h, hge⟩
          · exact .inl (by rw [← h]; exact hi)
          · rw [h] at hi; injection hi with hi; subst hi; exact .inr hge
        · rcases hat1 with h | h
          · rw [h]; exact hat
          · exact .inr ⟨_, h, by have := hmod.size; simp; omega⟩
      case measure => simp [intOf]; omega
    · obtain rfl : k = m := by omega
      go_wp2
      go_ret
      refine ⟨_, rfl, ?_, hmod, hat⟩
      rw [List.take_of_length_le (by rw [hl.out]; exact Nat.le_refl _)] at hown'
      exact hown'
set_option maxRecDepth 100000 in
set_option maxHeartbeats 1000000 in
theorem wordsInt_any (v : Value) (n base B m c : Nat) (bs ys : List Int) (A : Option Addr) (w : World) (hown : w.ownsRow base 5 1 v n (bs.map (Value.int .u8))) (hbase : base ≤ w.heap.size) (hy : RdI w B .i64 A m ys) (hys : ∀ j : Nat, 0 ≤ ys[j]?.getD 0 ∧ ys[j]?.getD 0 ≤ 65535)
    (hne : 0 < m → ∀ b o, A = some ⟨b, o, none⟩ → v.ownBlock ≠ some b) (hn : n + 2 * m ≤ 1048576) :
    Calls Try.prog 122 #[v, .slice A m c] w (WordsPost w base v (n + 2 * m) (bs ++ wordsL ys)) := by
  have hl := Lib.hid hy.len
  have hys' := Lib.hid hys
  clear hys
  go_enter Try.func122, Try.ntmps122
  go_wp2
  go_loopw [0, 9] (fun u i wr => ∃ k : Nat, k ≤ m ∧ i = .int .i64 k ∧ wr.ownsRow base 5 1 u (n + 2 * k) ((bs ++ wordsL (ys.take k)).map (Value.int .u8)) ∧ Mod (fun i => v.ownBlock = some i) w wr ∧ (u.ownBlock = v.ownBlock ∨ ∃ g, u.ownBlock = some g ∧ w.heap.size ≤ g)) (fun _ i _ => m - (intOf i).toNat)
  case atStart => exact ⟨0, by omega, rfl, by simpa [wordsL] using hown, Mod.refl _ _, .inl rfl⟩
  case round =>
    obtain ⟨k, hk, rfl, hown', hmod, hat⟩ := hrel
    by_cases hlt : k < m
    · obtain ⟨b, o, rfl, hb, hc0⟩ := hy.at_ hlt
      obtain ⟨hy0, hy1⟩ := hys'.out k
      have hlb := World.block_lt_of_cell? w _ hc0
      have hc := (hmod.cell (o + k) hlb (hne (by omega) b o rfl)).trans hc0
      have hc0' := Lib.hid hc0
      clear hc0
      go_wp2_with (at_builtin; refine wpList_appI rfl (.tmp 13) (.tmp 19) _ rfl Try.underlying34 info_u8 (hown'.alloc _) rfl (RdI.pair _ _ _ _ _) rfl (by omega) (by omega) (by have := hmod.size; simp; omega) ?_; intro v' w1 hown1 hg1 hat1)
      go_roundw
      case rel =>
        refine ⟨k + 1, by omega, by go_num, ?_, ?_, ?_⟩
        · rw [wordsL_take ys k (by rw [hl.out]; exact hlt), List.getD_eq_getElem?_getD, ← List.append_assoc, show n + 2 * (k + 1) = n + 2 * k + 2 by omega, hiLo_small _ hy0 hy1]; exact hown1
        · refine (hmod.alloc _).grown hg1 (fun i hi => ?_)
          rcases hat with h | ⟨g, h, hge⟩
          · exact .inl (by rw [← h]; exact hi)
          · rw [h] at hi; injection hi with hi; subst hi; exact .inr hge
        · rcases hat1 with h | h
          · rw [h]; exact hat
          · exact .inr ⟨_, h, by have := hmod.size; simp; omega⟩
      case measure => simp [intOf]; omega
    · obtain rfl : k = m := by omega
      go_wp2
      go_ret
      refine ⟨_, rfl, ?_, hmod, hat⟩
      rw [List.take_of_length_le (by rw [hl.out]; exact Nat.le_refl _)] at hown'
      exact hown'
end Go.Proofs.Ytgagpalffdgjnaa
