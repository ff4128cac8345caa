/- Rows of the table of types. · Layer 6: words for a bank in memory; the builtin copy between slices of numbers. · Layer 6, the walks: Size, span, At, Put, kindOf. -/
import Derived.Test.YtgagpalffdgjnaaRows
import Derived.Test.YtgagpalffdgjnaaWords
import Derived.Deep.RegionWith
import Derived.Lib.Bytealg
import Derived.Shelf.Strings.Search1
import Derived.Shelf.Small.Strs
import Derived.Laws.CopyOwn
namespace Go.Proofs.Ytgagpalffdgjnaa
open Go.RowKit
theorem info_u8 : (Try.prog.info? 5).map (fun i => (i.zero, i.size, i.bytes)) = some (some (.int .u8 0), 1, 1) := by kernel_rfl
theorem info_u16 : (Try.prog.info? 43).map (fun i => (i.zero, i.size, i.bytes)) = some (some (.int .u16 0), 1, 2) := by kernel_rfl
end Go.Proofs.Ytgagpalffdgjnaa
namespace Go.Proofs.Ytgagpalffdgjnaa
open Go.RowKit

theorem wpList_copyI {P : Program} {ops : Array Oper} {rest : List Oper} {o : Oper} {a : Act} {w : World} {Q : Exit → Act → World → Prop} (hgd : o.guard = none) (d s : Operand) (dT sT : TypeId)
    (ho : o.op = .call { callee := .builtin .copy, args := #[d, s], argTypes := #[dT, sT] }) {elem : TypeId} {k : IntKind} (hu : P.underlying dT = some (.slice elem)) (hsz : (P.info? elem).map (·.size) = some 1)
    {dp : Option Addr} {n c : Nat} (hd : a.eval d = .slice dp n c) {A : Option Addr} {m c' : Nat} (hs : a.eval s = .slice A m c')
    {g off : Nat} {e : TypeId} {ds : List Int} (hg : Blk w g e k ds) (hdp : 0 < n → dp = some ⟨g, off, none⟩) (hfit : off + n ≤ ds.length)
    {B : Nat} {ys : List Int} (hr : RdI w B k A m ys)
    (h : ∀ w', Hid (Blk w' g e k (splice ds off (ys.take n))) → Mod (fun i => i = g) w w' → wpList P ops Q rest (a.put o.dst (goInt (min m n : Nat))) w') : wpList P ops Q (o :: rest) a w := by
  have hl : ((ys.take n).map (Value.int k)).length = min m n := by rw [List.length_map, List.length_take, hr.len, Nat.min_comm]
  by_cases h0 : min m n = 0
  · refine wpList_copy_nothing hgd d s dT sT ho elem hu hsz dp A n c m c' hd hs h0 ?_
    have h1 := h w (show Hid (Blk w g e k (splice ds off (ys.take n))) from by
      have : ys.take n = [] := List.eq_nil_of_length_eq_zero (by rw [List.length_take, hr.len]; omega)
      rw [this]
      have e2 : splice ds off [] = ds := by simp [splice]
      rw [e2]
      exact Lib.hid hg) (Mod.refl _ _)
    rw [h0] at h1
    exact h1
  · obtain rfl := hdp (by omega)
    obtain ⟨b, so, rfl, hb, hc⟩ := hr.2 (by omega)
    refine wpList_copy_own hgd d s dT sT ho elem hu hsz g off n c ⟨b, so, none⟩ m c' hd hs (row k ds) e hg ((ys.take n).map (Value.int k)) (by rw [hl]) (fun j v hj => ?_) (by rw [hl, row_size]; omega) (ints_oneCell _ _) ?_
    · have hj' : j < min m n := by
        rcases Nat.lt_or_ge j (min m n) with h2 | h2
        · exact h2
        · rw [List.getElem?_eq_none (by rw [hl]; exact h2)] at hj; cases hj
      have hadd : (⟨b, so, none⟩ : Addr).add j = ⟨b, so + j, none⟩ := by unfold Addr.add; split <;> simp_all
      have hjl : j < ys.length := by rw [hr.len]; omega
      rw [hadd, hc j (by omega), ← hj, List.getElem?_map, List.getElem?_take_of_lt (by omega), List.getElem?_eq_getElem hjl, List.getD_eq_getElem?_getD, List.getElem?_eq_getElem hjl]
      rfl
    · rw [hl]
      refine h _ (Lib.hid ?_) ⟨rfl, rfl, rfl, by simp [World.setRow], fun i _ hi => setRow_other w g i _ hi⟩
      unfold Blk
      rw [setRow_heap w g _ _ e _ hg]
      congr 2
      simp only [row, splice, List.map_append, List.map_take, List.map_drop, List.length_take, hr.len]
      rw [show min m n = min n m from Nat.min_comm m n]

/-- A row of a bank turned. -/
def upd (L : Nat → List Int) (k : Nat) (l : List Int) : Nat → List Int := fun j => if j = k then l else L j
theorem upd_same (L : Nat → List Int) (k : Nat) (l : List Int) : upd L k l k = l := if_pos rfl
theorem upd_other (L : Nat → List Int) {k j : Nat} (l : List Int) (h : j ≠ k) : upd L k l j = L j := if_neg h
theorem upd_self (L : Nat → List Int) (k : Nat) : upd L k (L k) = L := by
  funext j
  by_cases h : j = k
  · subst h; exact upd_same _ _ _
  · exact upd_other _ _ h
/-- The blocks of a bank's rows. -/
def RowsOf (G : Nat → Nat) (i : Nat) : Prop := ∃ k, k < 4 ∧ i = G k
def slotV (L : Nat → List Int) (G : Nat → Nat) (k : Nat) : Value := .slice (some ⟨G k, 0, none⟩) (L k).length (L k).length
/-- A bank lies in block g, its rows L in the blocks G. -/
structure Bk (w : World) (g : Nat) (L : Nat → List Int) (G : Nat → Nat) : Prop where
  head : w.heap[g]? = some (.cells #[slotV L G 0, slotV L G 1, slotV L G 2, slotV L G 3] 181 (0, 0))
  row : ∀ k, k < 4 → Blk w (G k) 43 .u16 (L k)
  up0 : g < G 0
  up : ∀ i j, i < j → j < 4 → G i < G j
  len : ∀ k, (L k).length ≤ 256
  rng : ∀ (k j : Nat), 0 ≤ (L k)[j]?.getD 0 ∧ (L k)[j]?.getD 0 ≤ 65535
section
variable {w w' : World} {g : Nat} {L : Nat → List Int} {G : Nat → Nat}
theorem Bk.ne (h : Bk w g L G) {i j : Nat} (hi : i < 4) (hj : j < 4) (hn : i ≠ j) : G i ≠ G j := by
  rcases Nat.lt_or_gt_of_ne hn with h1 | h1
  · have := h.up i j h1 hj; omega
  · have := h.up j i h1 hi; omega
theorem Bk.gt (h : Bk w g L G) {k : Nat} (hk : k < 4) : g < G k := by
  rcases Nat.eq_zero_or_pos k with h0 | h0
  · subst h0; exact h.up0
  · have := h.up 0 k h0 hk; have := h.up0; omega
theorem Bk.lt (h : Bk w g L G) : g < w.heap.size := (Array.getElem?_eq_some_iff.1 h.head).1
theorem Bk.keep (h : Bk w g L G) (hk : ∀ b, b = g ∨ RowsOf G b → w'.heap[b]? = w.heap[b]?) : Bk w' g L G :=
  ⟨(hk g (.inl rfl)).trans h.head, fun k hk4 => (hk (G k) (.inr ⟨k, hk4, rfl⟩)).trans (h.row k hk4), h.up0, h.up, h.len, h.rng⟩
theorem Bk.old (h : Bk w g L G) {b : Nat} (hb : b = g ∨ RowsOf G b) : b < w.heap.size := by
  rcases hb with rfl | ⟨k, hk, rfl⟩
  · exact h.lt
  · exact (h.row k hk).lt
theorem Bk.ext (h : Bk w g L G) (E : Ext w w') : Bk w' g L G := h.keep fun b hb => E.block b (h.old hb)
theorem Bk.mod (h : Bk w g L G) {S : Nat → Prop} (M : Mod S w w') (h0 : ¬ S g) (h1 : ∀ k, k < 4 → ¬ S (G k)) : Bk w' g L G :=
  h.keep fun b hb => M.block b (h.old hb) (by rcases hb with rfl | ⟨k, hk, rfl⟩; exact h0; exact h1 k hk)
theorem Bk.slot (h : Bk w g L G) {k : Nat} (hk : k < 4) : w.cell? ⟨g, k, none⟩ = some (slotV L G k) := by
  rw [cellsAt h.head]
  match k, hk with
  | 0, _ => rfl
  | 1, _ => rfl
  | 2, _ => rfl
  | 3, _ => rfl
/-- One row turned, at its old length. -/
theorem Bk.turn (h : Bk w g L G) {k : Nat} (hk : k < 4) {l : List Int} (hl : l.length = (L k).length) (hr : ∀ j : Nat, 0 ≤ l[j]?.getD 0 ∧ l[j]?.getD 0 ≤ 65535) (hb : Blk w' (G k) 43 .u16 l) (hM : Mod (fun i => i = G k) w w') : Bk w' g (upd L k l) G := by
  have hs : ∀ j, slotV (upd L k l) G j = slotV L G j := fun j => by
    unfold slotV
    by_cases e : j = k
    · subst e; rw [upd_same, hl]
    · rw [upd_other L l e]
  refine ⟨?_, fun j hj => ?_, h.up0, h.up, fun j => ?_, fun j => ?_⟩
  · rw [hs, hs, hs, hs]
    exact (hM.block g h.lt (by have := h.gt hk; omega)).trans h.head
  · by_cases e : j = k
    · subst e; rw [upd_same]; exact hb
    · rw [upd_other L l e]
      exact (hM.block (G j) (h.row j hj).lt (h.ne hj hk e)).trans (h.row j hj)
  · by_cases e : j = k
    · subst e; rw [upd_same, hl]; exact h.len j
    · rw [upd_other L l e]; exact h.len j
  · by_cases e : j = k
    · subst e; rw [upd_same]; exact hr
    · rw [upd_other L l e]; exact h.rng j
theorem Mod.rows {k : Nat} (h : Mod (fun i => i = G k) w w') (hk : k < 4) : Mod (RowsOf G) w w' := h.weak fun _ hi => ⟨k, hk, hi⟩
end
end Go.Proofs.Ytgagpalffdgjnaa
namespace Go.Proofs.Ytgagpalffdgjnaa
open Go.RowKit

def sizeB (L : Nat → List Int) (kd : Int) : Int := if 0 ≤ kd ∧ kd < 4 then ((L kd.toNat).length : Int) else 0
theorem sizeB_of (L : Nat → List Int) (k : Nat) (h : k < 4) : sizeB L (k : Int) = ((L k).length : Int) := by unfold sizeB; rw [if_pos (by omega), Int.toNat_natCast]
set_option maxRecDepth 100000 in
set_option maxHeartbeats 800000 in
theorem bankSize_any (g : Nat) (kd : Int) (L : Nat → List Int) (G : Nat → Nat) (w : World) (hb : Bk w g L G) :
    Calls Try.prog 119 #[.pointer (some ⟨g, 0, none⟩), .int .i64 kd] w fun e w' => e = .returned (.int .i64 (sizeB L kd)) ∧ w = w' := by
  by_cases h0 : kd < 0
  · have hs : sizeB L kd = 0 := by unfold sizeB; rw [if_neg (by omega)]
    have t0 : decide (kd < 0) = true := by simp; exact h0
    rw [hs]
    clear hs
    go_enter Try.func119, Try.ntmps119
    go_wp2_with fail
    go_ret
    exact ⟨rfl, rfl⟩
  · by_cases h4 : 4 ≤ kd
    · have hs : sizeB L kd = 0 := by unfold sizeB; rw [if_neg (by omega)]
      rw [hs]
      clear hs
      go_enter Try.func119, Try.ntmps119
      go_wp2_with fail
      go_ret
      exact ⟨rfl, rfl⟩
    · obtain ⟨k, rfl⟩ := Int.eq_ofNat_of_zero_le (show 0 ≤ kd by omega)
      have hk : k < 4 := by omega
      rw [sizeB_of L k hk]
      have hc := hb.slot hk
      unfold slotV at hc
      go_enter Try.func119, Try.ntmps119
      go_wp2_with fail
      go_ret
      exact ⟨rfl, rfl⟩
/-- Are so many places of a kind there, from one on? -/
def spanB (L : Nat → List Int) (kd fr m : Int) : Bool := decide (0 ≤ fr) && (decide (0 ≤ m) && decide (fr + m ≤ sizeB L kd))
theorem sizeB_le {w : World} {g : Nat} {L : Nat → List Int} {G : Nat → Nat} (hb : Bk w g L G) (kd : Int) : 0 ≤ sizeB L kd ∧ sizeB L kd ≤ 256 := by
  unfold sizeB
  split
  · have := hb.len kd.toNat; omega
  · omega
theorem spanB_kind {L : Nat → List Int} {kd fr m : Int} (h : spanB L kd fr m = true) (hm : 1 ≤ m) : ∃ k f n : Nat, kd = k ∧ fr = f ∧ m = n ∧ k < 4 ∧ f + n ≤ (L k).length ∧ 1 ≤ n := by
  unfold spanB at h
  simp only [Bool.and_eq_true, decide_eq_true_eq] at h
  obtain ⟨h0, h1, h2⟩ := h
  obtain ⟨f, rfl⟩ := Int.eq_ofNat_of_zero_le h0
  obtain ⟨n, rfl⟩ := Int.eq_ofNat_of_zero_le h1
  unfold sizeB at h2
  by_cases hk : 0 ≤ kd ∧ kd < 4
  · rw [if_pos hk] at h2
    obtain ⟨k, rfl⟩ := Int.eq_ofNat_of_zero_le hk.1
    rw [Int.toNat_natCast] at h2
    exact ⟨k, f, n, rfl, rfl, rfl, by omega, by omega, by omega⟩
  · rw [if_neg hk] at h2; omega
def SpanPost (L : Nat → List Int) (G : Nat → Nat) (kd fr m : Int) (w : World) (e : Ending) (w' : World) : Prop :=
  (spanB L kd fr m = true → e = .returned (.tuple #[.slice (some ⟨G kd.toNat, fr.toNat, none⟩) m.toNat m.toNat, .bool true])) ∧ (spanB L kd fr m = false → e = .returned (.tuple #[.slice none 0 0, .bool false])) ∧ w = w'
set_option maxRecDepth 100000 in
set_option maxHeartbeats 1600000 in
theorem bankSpan_yes (g k f n : Nat) (L : Nat → List Int) (G : Nat → Nat) (w : World) (hb : Bk w g L G) (hk : k < 4) (hf : f + n ≤ (L k).length) (hn : 1 ≤ n) :
    Calls Try.prog 94 #[.pointer (some ⟨g, 0, none⟩), .int .i64 k, .int .i64 f, .int .i64 n] w fun e w' => e = .returned (.tuple #[.slice (some ⟨G k, f, none⟩) n n, .bool true]) ∧ w = w' := by
  have hc := hb.slot hk
  have hl := hb.len k
  unfold slotV at hc
  have hs := sizeB_of L k hk
  generalize (L k).length = z at *
  have t1 : decide ((f : Int) < 0) = false := by simp
  have t2 : decide ((n : Int) < 0) = false := by simp
  have t3 : decide (z < f) = false := by simp; omega
  have t4 : decide ((z : Int) - (f : Int) < (n : Int)) = false := by simp; omega
  go_enter Try.func94, Try.ntmps94
  go_wp2_with fail
  refine (bankSize_any g k L G w hb).mono ?_
  rw [hs]
  clear hs
  rintro e w1 ⟨rfl, rfl⟩
  go_wp2_with fail
  go_ret2
  refine ⟨?_, rfl⟩
  show Ending.returned (.tuple #[.slice (some ⟨G k, f, none⟩) (f + n - f) (f + n - f), .bool true]) = _
  rw [show f + n - f = n by omega]
set_option maxRecDepth 100000 in
set_option maxHeartbeats 1600000 in
theorem bankSpan_no (g : Nat) (kd fr m : Int) (L : Nat → List Int) (G : Nat → Nat) (w : World) (hb : Bk w g L G) (h : spanB L kd fr m = false) :
    Calls Try.prog 94 #[.pointer (some ⟨g, 0, none⟩), .int .i64 kd, .int .i64 fr, .int .i64 m] w fun e w' => e = .returned (.tuple #[.slice none 0 0, .bool false]) ∧ w = w' := by
  have hz := sizeB_le hb kd
  have hs := bankSize_any g kd L G w hb
  have hs' := Lib.hid hs
  have h' : ¬ (0 ≤ fr ∧ 0 ≤ m ∧ fr + m ≤ sizeB L kd) := by
    intro e
    unfold spanB at h
    simp only [e.1, e.2.1, e.2.2, decide_true, Bool.and_self] at h
    cases h
  clear h hs
  generalize sizeB L kd = z at *
  by_cases a0 : fr < 0
  · have t1 : decide (fr < 0) = true := by simp; exact a0
    clear h'
    go_enter Try.func94, Try.ntmps94
    go_wp2_with fail
    refine hs'.out.mono ?_
    rintro e w1 ⟨rfl, rfl⟩
    go_wp2_with fail
    go_ret2
    exact ⟨rfl, rfl⟩
  · have t1 : decide (fr < 0) = false := by simp; omega
    by_cases a1 : m < 0
    · have t2 : decide (m < 0) = true := by simp; exact a1
      clear h'
      go_enter Try.func94, Try.ntmps94
      go_wp2_with fail
      refine hs'.out.mono ?_
      rintro e w1 ⟨rfl, rfl⟩
      go_wp2_with fail
      go_ret2
      exact ⟨rfl, rfl⟩
    · have t2 : decide (m < 0) = false := by simp; omega
      by_cases a2 : z < fr
      · have t3 : decide (z < fr) = true := by simp; exact a2
        clear h'
        go_enter Try.func94, Try.ntmps94
        go_wp2_with fail
        refine hs'.out.mono ?_
        rintro e w1 ⟨rfl, rfl⟩
        go_wp2_with fail
        go_ret2
        exact ⟨rfl, rfl⟩
      · have t3 : decide (z < fr) = false := by simp; omega
        have t4 : decide (z - fr < m) = true := by simp; omega
        clear h'
        go_enter Try.func94, Try.ntmps94
        go_wp2_with fail
        refine hs'.out.mono ?_
        rintro e w1 ⟨rfl, rfl⟩
        go_wp2_with fail
        go_ret2
        exact ⟨rfl, rfl⟩
/-- What stands at a place. -/
def atB (L : Nat → List Int) (kd i : Int) : Int := if spanB L kd i 1 = true then (L kd.toNat).getD i.toNat 0 else 0
set_option maxRecDepth 100000 in
set_option maxHeartbeats 1600000 in
theorem bankAt_any (g : Nat) (kd i : Int) (L : Nat → List Int) (G : Nat → Nat) (w : World) (hb : Bk w g L G) :
    Calls Try.prog 69 #[.pointer (some ⟨g, 0, none⟩), .int .i64 kd, .int .i64 i] w fun e w' => e = .returned (.tuple #[.int .u16 (atB L kd i), .bool (spanB L kd i 1)]) ∧ w = w' := by
  unfold atB
  cases h : spanB L kd i 1
  · rw [if_neg (by decide)]
    have hc := Lib.hid (bankSpan_no g kd i 1 L G w hb h)
    clear h
    go_enter Try.func69, Try.ntmps69
    go_wp2_with fail
    refine hc.out.mono ?_
    rintro e w1 ⟨rfl, rfl⟩
    go_wp2_with fail
    go_ret2
    exact ⟨rfl, rfl⟩
  · rw [if_pos rfl]
    obtain ⟨k, f, n, rfl, rfl, hn, hk, hf, _⟩ := spanB_kind h (by omega)
    obtain rfl : n = 1 := by omega
    have hc := Lib.hid (bankSpan_yes g k f 1 L G w hb hk hf (by omega))
    have hcell := (hb.row k hk).cell f (by omega)
    rw [Int.toNat_natCast, Int.toNat_natCast]
    generalize (L k).getD f 0 = v at *
    clear h hn
    go_enter Try.func69, Try.ntmps69
    go_wp2_with fail
    refine hc.out.mono ?_
    rintro e w1 ⟨rfl, rfl⟩
    go_wp2_with fail
    go_ret2
    exact ⟨rfl, rfl⟩
/-- A bank in which something was put. -/
def putV (kd v : Int) : Int := if kd = 0 ∨ kd = 1 then min v 1 else v
def putB (L : Nat → List Int) (kd i v : Int) : Nat → List Int := if spanB L kd i 1 = true then upd L kd.toNat ((L kd.toNat).set i.toNat (putV kd v)) else L
def PutPost (L : Nat → List Int) (G : Nat → Nat) (g : Nat) (kd i v : Int) (w : World) (e : Ending) (w' : World) : Prop :=
  e = .returned (.bool (spanB L kd i 1)) ∧ Bk w' g (putB L kd i v) G ∧ Mod (RowsOf G) w w'
theorem set_range {l : List Int} (h : ∀ j : Nat, 0 ≤ l[j]?.getD 0 ∧ l[j]?.getD 0 ≤ 65535) (i : Nat) {v : Int} (h0 : 0 ≤ v) (h1 : v ≤ 65535) : ∀ j : Nat, 0 ≤ (l.set i v)[j]?.getD 0 ∧ (l.set i v)[j]?.getD 0 ≤ 65535 := fun j => by
  rw [List.getElem?_set]
  split
  · split
    · exact ⟨h0, h1⟩
    · exact ⟨by simp, by simp⟩
  · exact h j
set_option maxRecDepth 100000 in
set_option maxHeartbeats 1600000 in
theorem bankPut_any (g : Nat) (kd i v : Int) (L : Nat → List Int) (G : Nat → Nat) (w : World) (hb : Bk w g L G) (h0 : 0 ≤ v) (h1 : v ≤ 65535) :
    Calls Try.prog 59 #[.pointer (some ⟨g, 0, none⟩), .int .i64 kd, .int .i64 i, .int .u16 v] w (PutPost L G g kd i v w) := by
  unfold PutPost putB
  cases h : spanB L kd i 1
  · rw [if_neg (by decide)]
    have hc := Lib.hid (bankSpan_no g kd i 1 L G w hb h)
    clear h
    go_enter Try.func59, Try.ntmps59
    go_wp2_with fail
    refine hc.out.mono ?_
    rintro e w1 ⟨rfl, rfl⟩
    go_wp2_with fail
    go_ret
    exact ⟨rfl, hb, Mod.refl _ _⟩
  · rw [if_pos rfl]
    obtain ⟨k, f, n, rfl, rfl, hn, hk, hf, _⟩ := spanB_kind h (by omega)
    obtain rfl : n = 1 := by omega
    have hc := Lib.hid (bankSpan_yes g k f 1 L G w hb hk hf (by omega))
    have hcell := (hb.row k hk).cell f (by omega)
    have hfr := (hb.row k hk).frozen f
    rw [Int.toNat_natCast, Int.toNat_natCast]
    generalize (L k).getD f 0 = x at *
    have hfin : ∀ u, 0 ≤ u → u ≤ 65535 → Bk (w.setCell ⟨G k, f, none⟩ (.int .u16 u)) g (upd L k ((L k).set f u)) G ∧ Mod (RowsOf G) w (w.setCell ⟨G k, f, none⟩ (.int .u16 u)) := fun u u0 u1 => by
      have hM : Mod (fun i => i = G k) w (w.setCell ⟨G k, f, none⟩ (.int .u16 u)) := (Mod.refl (fun i => i = G k) w).setCell (p := ⟨G k, f, none⟩) (.inl rfl) _
      exact ⟨hb.turn hk (by simp) (set_range (hb.rng k) f u0 u1) ((hb.row k hk).set_ f u) hM, hM.rows hk⟩
    have hfin' := Lib.hid hfin
    clear hfin hb
    by_cases k0 : k = 0
    · subst k0
      have hv : putV ((0 : Nat) : Int) v = min v 1 := if_pos (.inl rfl)
      rw [hv]
      clear hv
      clear h hn
      go_enter Try.func59, Try.ntmps59
      go_wp2_with fail
      refine hc.out.mono ?_
      rintro e w1 ⟨rfl, rfl⟩
      go_wp2_with fail
      go_ret
      exact ⟨rfl, hfin'.out _ (by omega) (by omega)⟩
    · by_cases k1 : k = 1
      · subst k1
        have hv : putV ((1 : Nat) : Int) v = min v 1 := if_pos (.inr rfl)
        rw [hv]
        clear hv
        clear h hn
        go_enter Try.func59, Try.ntmps59
        go_wp2_with fail
        refine hc.out.mono ?_
        rintro e w1 ⟨rfl, rfl⟩
        go_wp2_with fail
        go_ret
        exact ⟨rfl, hfin'.out _ (by omega) (by omega)⟩
      · have hv : putV (k : Int) v = v := if_neg (by omega)
        rw [hv]
        have t0 : ((k : Int) == 0) = false := by simp; exact k0
        have t1 : ((k : Int) == 1) = false := by simp; omega
        clear hv h hn k0 k1
        go_enter Try.func59, Try.ntmps59
        go_wp2_with fail
        refine hc.out.mono ?_
        rintro e w1 ⟨rfl, rfl⟩
        go_wp2_with fail
        go_ret
        exact ⟨rfl, hfin'.out _ (by omega) (by omega)⟩
/-- Of which kind the places are. -/
def kindN (fc : Int) : Nat := if fc = 1 ∨ fc = 5 ∨ fc = 15 then 0 else if fc = 2 then 1 else if fc = 4 then 3 else 2
theorem kindN_lt (fc : Int) : kindN fc < 4 := by unfold kindN; split; omega; split; omega; split <;> omega
set_option maxRecDepth 100000 in
set_option maxHeartbeats 800000 in
theorem kindOf_any (fc : Int) (w : World) : Calls Try.prog 121 #[.int .i64 fc] w fun e w' => e = .returned (.int .i64 (kindN fc)) ∧ w = w' := by
  rcases (show (fc ≠ 1 ∧ fc ≠ 2 ∧ fc ≠ 4 ∧ fc ≠ 5 ∧ fc ≠ 15) ∨ fc = 1 ∨ fc = 2 ∨ fc = 4 ∨ fc = 5 ∨ fc = 15 by omega) with h | rfl | rfl | rfl | rfl | rfl
  · have hm : kindN fc = 2 := by unfold kindN; rw [if_neg (by omega), if_neg (by omega), if_neg (by omega)]
    rw [hm]
    have e1 : (fc == 1) = false := by simp; omega
    have e2 : (fc == 2) = false := by simp; omega
    have e4 : (fc == 4) = false := by simp; omega
    have e5 : (fc == 5) = false := by simp; omega
    have e7 : (fc == 15) = false := by simp; omega
    clear h hm
    go_enter Try.func121, Try.ntmps121
    go_wp2_with fail
    go_ret
    exact ⟨rfl, rfl⟩
  all_goals
    go_enter Try.func121, Try.ntmps121
    go_wp2_with fail
    go_ret
    exact ⟨rfl, rfl⟩
end Go.Proofs.Ytgagpalffdgjnaa
