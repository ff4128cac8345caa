/- Layer 6, the walks: Do. (Printed by wip/gen/bankdo.py.) -/
import Derived.Test.YtgagpalffdgjnaaG02
import Derived.Test.YtgagpalffdgjnaaG06
import Derived.Test.YtgagpalffdgjnaaReplyG
import Derived.Laws.BitsAllLaws
import Derived.StillTailTactics
namespace Go.Proofs.Ytgagpalffdgjnaa
open Go.RowKit

/-- What a mask makes of a word. -/
def maskV (a x y : Int) : Int := bits .or .u16 (bits .and .u16 a x) (bits .andNot .u16 y x)
theorem maskV_range (a x y : Int) (a0 : 0 ≤ a) (a1 : a ≤ 65535) (x0 : 0 ≤ x) (x1 : x ≤ 65535) (y0 : 0 ≤ y) (y1 : y ≤ 65535) : 0 ≤ maskV a x y ∧ maskV a x y ≤ 65535 := by
  unfold maskV
  have h1 : a.toNat &&& x.toNat < 2 ^ 16 := Nat.and_lt_two_pow _ (by omega)
  have h2 : y.toNat &&& (65535 - x.toNat) < 2 ^ 16 := Nat.and_lt_two_pow _ (by omega)
  have h3 : (a.toNat &&& x.toNat) ||| (y.toNat &&& (65535 - x.toNat)) < 2 ^ 16 := Nat.or_lt_two_pow h1 h2
  rw [Go.u16_and a x a0 (by omega) x0 (by omega), Go.u16_andNot y x y0 (by omega) x0 (by omega), Go.u16_or _ _ (by omega) (by omega) (by omega) (by omega), Int.toNat_natCast, Int.toNat_natCast]
  omega
/-- The row behind what is written. -/
def doRow (L : Nat → List Int) (fc ad to : Int) (xs : List Int) : List Int :=
  if fc = 22 then (L (kindN fc)).set ad.toNat (maskV ((L (kindN fc)).getD ad.toNat 0) (xs.getD 0 0) (xs.getD 1 0))
  else splice (L (kindN fc)) (if fc = 23 then to.toNat else ad.toNat) xs
def doFits (L : Nat → List Int) (fc ad qt to : Int) (n : Nat) : Bool := spanB L (kindN fc) ad (max qt 1) && (fc != 23 || spanB L (kindN fc) to n)
def doGoes (L : Nat → List Int) (fc ad qt to : Int) (xs : List Int) : Bool := rightB' fc ad qt to xs && doFits L fc ad qt to xs.length
def doC (L : Nat → List Int) (fc ad qt to : Int) (xs : List Int) : Int := if rightB' fc ad qt to xs = true then (if doFits L fc ad qt to xs.length = true then 0 else 2) else 3
def doL (L : Nat → List Int) (fc ad qt to : Int) (xs : List Int) : Nat → List Int := if doGoes L fc ad qt to xs = true then upd L (kindN fc) (doRow L fc ad to xs) else L
def doY (L : Nat → List Int) (fc ad qt to : Int) (xs : List Int) : List Int := if doGoes L fc ad qt to xs = true then (if readsB fc = true then ((doRow L fc ad to xs).drop ad.toNat).take qt.toNat else []) else []
def DoPost (code : Int) (ys : List Int) (g : Nat) (L' : Nat → List Int) (G : Nat → Nat) (w : World) (e : Ending) (w' : World) : Prop :=
  ∃ A n c, e = .returned (.agg #[.int .i64 code, .slice A n c]) ∧ n ≤ c ∧ c ≤ maxLen ∧ RdI w' w'.heap.size .u16 A n ys ∧ (∀ b o, A = some ⟨b, o, none⟩ → w.heap.size ≤ b) ∧ Bk w' g L' G ∧ Mod (RowsOf G) w w'
theorem DoPost.none_ {code : Int} {g : Nat} {L : Nat → List Int} {G : Nat → Nat} {w w' : World} (hb : Bk w g L G) (E : Ext w w') : DoPost code [] g L G w (.returned (.agg #[.int .i64 code, .slice none 0 0])) w' :=
  ⟨none, 0, 0, rfl, Nat.le_refl _, by unfold maxLen; omega, RdI.nil _, fun b o e => (nomatch e), hb.ext E, Mod.ofBelow E⟩
theorem Blk.cut {w : World} {g B : Nat} {e : TypeId} {k : IntKind} {xs : List Int} (h : Blk w g e k xs) (hB : g < B) {f m : Nat} (hf : f + m ≤ xs.length) : RdI w B k (some ⟨g, f, none⟩) m ((xs.drop f).take m) :=
  ⟨by rw [List.length_take, List.length_drop]; omega, fun _ => ⟨g, f, rfl, hB, fun j hj => by
    rw [h.cell (f + j) (by omega), List.getD_eq_getElem?_getD, List.getD_eq_getElem?_getD, List.getElem?_take_of_lt hj, List.getElem?_drop]⟩⟩
theorem splice_all {l ys : List Int} (h : ys.length = l.length) : splice l 0 ys = ys := by simp [splice, h]
theorem splice_range {l ys : List Int} {f : Nat} (h : ∀ j : Nat, 0 ≤ l[j]?.getD 0 ∧ l[j]?.getD 0 ≤ 65535) (hy : ∀ j : Nat, 0 ≤ ys[j]?.getD 0 ∧ ys[j]?.getD 0 ≤ 65535) : ∀ j : Nat, 0 ≤ (splice l f ys)[j]?.getD 0 ∧ (splice l f ys)[j]?.getD 0 ≤ 65535 := by
  have mem : ∀ {z : List Int}, (∀ j : Nat, 0 ≤ z[j]?.getD 0 ∧ z[j]?.getD 0 ≤ 65535) → ∀ y ∈ z, 0 ≤ y ∧ y ≤ 65535 := fun {z} hz y hm => by
    obtain ⟨j, hj, rfl⟩ := List.getElem_of_mem hm
    have := hz j
    rw [List.getElem?_eq_getElem hj] at this
    exact this
  refine rng_of (by omega) (by omega) fun y hm => ?_
  unfold splice at hm
  rcases List.mem_append.1 hm with h1 | h1
  · exact mem h y (List.mem_of_mem_take h1)
  · rcases List.mem_append.1 h1 with h2 | h2
    · exact mem hy y h2
    · exact mem h y (List.mem_of_mem_drop h2)

set_option maxRecDepth 100000 in
set_option maxHeartbeats 3200000 in
theorem bankDo_wrong (g : Nat) (fc ad qt to : Int) (A : Option Addr) (n c : Nat) (xs : List Int) (L : Nat → List Int) (G : Nat → Nat) (w : World) (hb : Bk w g L G) (hx : RdI w w.heap.size .u16 A n xs) (nm : n ≤ maxLen) (hq : rightB' fc ad qt to xs = false) :
    Calls Try.prog 102 #[.pointer (some ⟨g, 0, none⟩), .agg #[.int .i64 fc, .int .i64 ad, .int .i64 qt, .slice A n c, .int .i64 to]] w (DoPost 3 [] g L G w) := by
  have E0 := ((Ext.refl w).goA (.cells #[.int .i64 fc, .int .i64 ad, .int .i64 qt, .slice A n c, .int .i64 to] 30)).goA (.cells #[.int .i64 0, .slice none 0 0] 54)
  have hq0 : ((w.alloc (.cells #[.int .i64 fc, .int .i64 ad, .int .i64 qt, .slice A n c, .int .i64 to] 30)).alloc (.cells #[.int .i64 0, .slice none 0 0] 54)).heap[w.heap.size]? = some (.cells #[.int .i64 fc, .int .i64 ad, .int .i64 qt, .slice A n c, .int .i64 to] 30 (0, 0)) := by rw [alloc_get, if_neg (by simp), alloc_get, if_pos rfl]
  have hr0 : ((w.alloc (.cells #[.int .i64 fc, .int .i64 ad, .int .i64 qt, .slice A n c, .int .i64 to] 30)).alloc (.cells #[.int .i64 0, .slice none 0 0] 54)).heap[w.heap.size + 1]? = some (.cells #[.int .i64 0, .slice none 0 0] 54 (0, 0)) := by rw [alloc_get, if_pos (by simp)]
  have hx' := Lib.hid (hx.ext E0)
  have hb' := Lib.hid hb
  have hq0' := Lib.hid hq0
  have hr0' := Lib.hid hr0
  clear hx hb hq0 hr0
  have hq' := Lib.hid hq
  clear hq
  go_enter Try.func102, Try.ntmps102
  go_wp2_with fail
  generalize hW : (w.alloc (.cells #[.int .i64 fc, .int .i64 ad, .int .i64 qt, .slice A n c, .int .i64 to] 30)).alloc (.cells #[.int .i64 0, .slice none 0 0] 54) = W at *
  have sW : W.heap.size = w.heap.size + 2 := by rw [← hW]; simp
  clear hW
  refine (pduRight_any fc ad qt to A n c xs _ hx'.out nm).mono ?_
  rw [hq'.out]
  rintro e w1 ⟨rfl, D1⟩
  have Q1 := (D1.block w.heap.size (by omega)).trans hq0'.out
  have R1 := (D1.block (w.heap.size + 1) (by omega)).trans hr0'.out
  have q1 := cellsAt Q1
  have f1 := frozen_block R1
  have r1 := cellsAt R1
  have Q1' := Lib.hid Q1
  have R1' := Lib.hid R1
  clear Q1 R1 hq0' hr0'
  clear q1
  go_wp2_with fail
  obtain ⟨z0, z1⟩ := two_reads R1'.out (.int .i64 3) (.slice none 0 0)
  refine bodyPost_ret (v := .agg #[.int .i64 3, .slice none 0 0]) (by simp [results, Try.results102, go_sem, z0, z1]) rfl ?_
  exact DoPost.none_ hb'.out (Ext.two (E0.go D1) (by omega) _ _)

/-- A right request's parts, as Do needs them. -/
theorem right_do {fc ad qt to : Int} {xs : List Int} (h : rightB' fc ad qt to xs = true) : 0 ≤ ad ∧ 0 ≤ qt ∧ qt ≤ 2000 ∧ 0 ≤ to ∧ xs.length ≤ 2000 ∧ (fc ≠ 23 → fc ≠ 22 → (xs.length : Int) ≤ max qt 1) ∧ (fc = 23 → 1 ≤ xs.length) ∧ (fc = 22 → xs.length = 2 ∧ qt = 0) ∧ (readsB fc = true → 1 ≤ qt) ∧ (fc = 22 → readsB fc = false) := by
  obtain ⟨s, hs, h1, h2⟩ := right_parts h
  obtain ⟨⟨a0, a1⟩, ⟨t0, t1⟩, ⟨q0, q1⟩, hq, ht, f0, f1, f2, f3⟩ := holds_parts h1
  have hfc : fc = 1 ∨ fc = 2 ∨ fc = 3 ∨ fc = 4 ∨ fc = 5 ∨ fc = 6 ∨ fc = 15 ∨ fc = 16 ∨ fc = 22 ∨ fc = 23 := by
    rcases shape_cases hs with ⟨e, _⟩ | ⟨e, _⟩ | ⟨e, _⟩ | ⟨e, _⟩ | ⟨e, _⟩ | ⟨e, _⟩ | ⟨e, _⟩ | ⟨e, _⟩ <;> omega
  rcases hfc with rfl | rfl | rfl | rfl | rfl | rfl | rfl | rfl | rfl | rfl
  all_goals
    injection hs with hs
    subst hs
  · have := f0 rfl; subst this; simp at q1 hq ⊢; omega
  · have := f0 rfl; subst this; simp at q1 hq ⊢; omega
  · have := f0 rfl; subst this; simp at q1 hq ⊢; omega
  · have := f0 rfl; subst this; simp at q1 hq ⊢; omega
  · have := (f1 rfl).1; simp at q1 hq this ⊢; have hr : readsB 5 = false := rfl; rw [hr]; simp; omega
  · have := (f1 rfl).1; simp at q1 hq this ⊢; have hr : readsB 6 = false := rfl; rw [hr]; simp; omega
  · have := (f2 rfl).1; simp at q1 hq this ⊢; have hr : readsB 15 = false := rfl; rw [hr]; simp; omega
  · have := (f2 rfl).1; simp at q1 hq this ⊢; have hr : readsB 16 = false := rfl; rw [hr]; simp; omega
  · have := (f1 rfl).1; simp at q1 hq this ⊢; have hr : readsB 22 = false := rfl; rw [hr]; simp; omega
  · have := f3 (by simp) (by simp) (by simp); simp at q1 hq this ⊢; omega

set_option maxRecDepth 100000 in
set_option maxHeartbeats 3200000 in
theorem bankDo_none (g : Nat) (fc ad qt to : Int) (A : Option Addr) (n c : Nat) (xs : List Int) (L : Nat → List Int) (G : Nat → Nat) (w : World) (hb : Bk w g L G) (hx : RdI w w.heap.size .u16 A n xs) (nm : n ≤ maxLen) (hq : rightB' fc ad qt to xs = true) (hf : doFits L fc ad qt to xs.length = false) :
    Calls Try.prog 102 #[.pointer (some ⟨g, 0, none⟩), .agg #[.int .i64 fc, .int .i64 ad, .int .i64 qt, .slice A n c, .int .i64 to]] w (DoPost 2 [] g L G w) := by
  obtain ⟨a0, q0, q2, t0, xl, x23, x1, x22, xr, _⟩ := right_do hq
  have hl := hx.len
  unfold doFits at hf
  rw [hl] at hf x1
  have E0 := ((Ext.refl w).goA (.cells #[.int .i64 fc, .int .i64 ad, .int .i64 qt, .slice A n c, .int .i64 to] 30)).goA (.cells #[.int .i64 0, .slice none 0 0] 54)
  have hq0 : ((w.alloc (.cells #[.int .i64 fc, .int .i64 ad, .int .i64 qt, .slice A n c, .int .i64 to] 30)).alloc (.cells #[.int .i64 0, .slice none 0 0] 54)).heap[w.heap.size]? = some (.cells #[.int .i64 fc, .int .i64 ad, .int .i64 qt, .slice A n c, .int .i64 to] 30 (0, 0)) := by rw [alloc_get, if_neg (by simp), alloc_get, if_pos rfl]
  have hr0 : ((w.alloc (.cells #[.int .i64 fc, .int .i64 ad, .int .i64 qt, .slice A n c, .int .i64 to] 30)).alloc (.cells #[.int .i64 0, .slice none 0 0] 54)).heap[w.heap.size + 1]? = some (.cells #[.int .i64 0, .slice none 0 0] 54 (0, 0)) := by rw [alloc_get, if_pos (by simp)]
  have hx' := Lib.hid (hx.ext E0)
  have hb' := Lib.hid hb
  have hq0' := Lib.hid hq0
  have hr0' := Lib.hid hr0
  clear hx hb hq0 hr0
  have hq' := Lib.hid hq
  have hl' := Lib.hid hl
  clear hq hl x23 x22 xr
  have hM : (max qt 1 : Int) = ((max qt 1).toNat : Int) := by omega
  cases h1 : spanB L (kindN fc) ad (max qt 1)
  · have h1' := Lib.hid h1
    clear h1 hf hM
    go_enter Try.func102, Try.ntmps102
    go_wp2_with fail
    generalize hW : (w.alloc (.cells #[.int .i64 fc, .int .i64 ad, .int .i64 qt, .slice A n c, .int .i64 to] 30)).alloc (.cells #[.int .i64 0, .slice none 0 0] 54) = W at *
    have sW : W.heap.size = w.heap.size + 2 := by rw [← hW]; simp
    clear hW
    refine (pduRight_any fc ad qt to A n c xs _ hx'.out nm).mono ?_
    rw [hq'.out]
    rintro e w1 ⟨rfl, D1⟩
    have Q1 := (D1.block w.heap.size (by omega)).trans hq0'.out
    have R1 := (D1.block (w.heap.size + 1) (by omega)).trans hr0'.out
    have q1 := cellsAt Q1
    have f1 := frozen_block R1
    have r1 := cellsAt R1
    have Q1' := Lib.hid Q1
    have R1' := Lib.hid R1
    clear Q1 R1 hq0' hr0'
    go_wp2_with fail
    refine (kindOf_any fc w1).mono ?_
    rintro e w2 ⟨rfl, rfl⟩
    go_wp2_with fail
    refine (bankSpan_no g _ ad _ L G _ ((hb'.out.ext E0).ext D1) h1'.out).mono ?_
    rintro e w3 ⟨rfl, rfl⟩
    go_wp2_with fail
    obtain ⟨z0, z1⟩ := two_reads R1'.out (.int .i64 2) (.slice none 0 0)
    refine bodyPost_ret (v := .agg #[.int .i64 2, .slice none 0 0]) (by simp [results, Try.results102, go_sem, z0, z1]) rfl ?_
    exact DoPost.none_ hb'.out (Ext.two (E0.go D1) (by omega) _ _)
  · rw [h1, Bool.true_and, Bool.or_eq_false_iff] at hf
    obtain ⟨e23, h2⟩ := hf
    have e23 : fc = 23 := by simpa using e23
    subst e23
    have h2' := Lib.hid h2
    obtain ⟨k, f, m, hk, rfl, hm, hk4, hfm, hm1⟩ := spanB_kind h1 (by omega)
    obtain rfl : k = 2 := by have : ((kindN 23 : Nat) : Int) = 2 := rfl; omega
    have hm' := Lib.hid hm
    clear h1 h2 hM hk hm
    go_enter Try.func102, Try.ntmps102
    go_wp2_with fail
    generalize hW : (w.alloc (.cells #[.int .i64 23, .int .i64 (f : Int), .int .i64 qt, .slice A n c, .int .i64 to] 30)).alloc (.cells #[.int .i64 0, .slice none 0 0] 54) = W at *
    have sW : W.heap.size = w.heap.size + 2 := by rw [← hW]; simp
    clear hW
    refine (pduRight_any 23 (f : Int) qt to A n c xs _ hx'.out nm).mono ?_
    rw [hq'.out]
    rintro e w1 ⟨rfl, D1⟩
    have Q1 := (D1.block w.heap.size (by omega)).trans hq0'.out
    have R1 := (D1.block (w.heap.size + 1) (by omega)).trans hr0'.out
    have q1 := cellsAt Q1
    have f1 := frozen_block R1
    have r1 := cellsAt R1
    have Q1' := Lib.hid Q1
    have R1' := Lib.hid R1
    clear Q1 R1 hq0' hr0'
    go_wp2_with fail
    refine (kindOf_any 23 w1).mono ?_
    rintro e w2 ⟨rfl, rfl⟩
    go_wp2_with fail
    rw [show ((kindN 23 : Nat) : Int) = ((2 : Nat) : Int) from rfl, hm'.out]
    refine (bankSpan_yes g 2 f m L G _ ((hb'.out.ext E0).ext D1) hk4 hfm hm1).mono ?_
    rintro e w3 ⟨rfl, rfl⟩
    go_wp2_with fail
    refine (bankSpan_no g _ to _ L G _ ((hb'.out.ext E0).ext D1) h2'.out).mono ?_
    rintro e w4 ⟨rfl, rfl⟩
    go_wp2_with fail
    obtain ⟨z0, z1⟩ := two_reads R1'.out (.int .i64 2) (.slice none 0 0)
    refine bodyPost_ret (v := .agg #[.int .i64 2, .slice none 0 0]) (by simp [results, Try.results102, go_sem, z0, z1]) rfl ?_
    exact DoPost.none_ hb'.out (Ext.two (E0.go D1) (by omega) _ _)

theorem sz_u16 : (Try.prog.info? 43).map (·.size) = some 1 := by kernel_rfl

set_option maxRecDepth 100000 in
set_option maxHeartbeats 3200000 in
theorem bankDo_mask (g : Nat) (ad qt to : Int) (A : Option Addr) (n c : Nat) (xs : List Int) (L : Nat → List Int) (G : Nat → Nat) (w : World) (hb : Bk w g L G) (hx : RdI w w.heap.size .u16 A n xs) (hr : ∀ j : Nat, 0 ≤ xs[j]?.getD 0 ∧ xs[j]?.getD 0 ≤ 65535) (nm : n ≤ maxLen) (hq : rightB' 22 ad qt to xs = true) (hf : doFits L 22 ad qt to xs.length = true) :
    Calls Try.prog 102 #[.pointer (some ⟨g, 0, none⟩), .agg #[.int .i64 22, .int .i64 ad, .int .i64 qt, .slice A n c, .int .i64 to]] w (DoPost 0 [] g (upd L 2 ((L 2).set ad.toNat (maskV ((L 2).getD ad.toNat 0) (xs.getD 0 0) (xs.getD 1 0)))) G w) := by
  obtain ⟨a0, q0, q2, t0, xl, x23, x1, x22, xr, y22⟩ := right_do hq
  have hl := hx.len
  unfold doFits at hf
  rw [Bool.and_eq_true] at hf
  obtain ⟨h1, h2⟩ := hf
  obtain ⟨hn, rfl⟩ := x22 rfl
  obtain ⟨k, f, m, hk, rfl, hm, hk4, hfm, hm1⟩ := spanB_kind h1 (by omega)
  obtain rfl : k = 2 := by have : ((kindN 22 : Nat) : Int) = 2 := rfl; omega
  obtain rfl : m = 1 := by omega
  obtain rfl : n = 2 := by omega
  have hkb := hb.row 2 hk4
  have hold := hkb.lt
  have hgl := hb.lt
  obtain ⟨b, o, rfl, hbl, c0⟩ := hx.at_ (j := 0) (by omega)
  obtain ⟨b', o', e, _, c1⟩ := hx.at_ (j := 1) (by omega)
  injection e with e; injection e with e1 e2; subst e1 e2
  have x0 := hr 0
  have x1 := hr 1
  rw [← List.getD_eq_getElem?_getD] at x0 x1
  have v0 := hb.rng 2 f
  rw [← List.getD_eq_getElem?_getD] at v0
  rw [Nat.add_zero] at c0
  have a1 := hkb.cell f (by omega)
  have E0 := ((Ext.refl w).goA (.cells #[.int .i64 22, .int .i64 (f : Int), .int .i64 0, .slice (some ⟨b, o, none⟩) 2 c, .int .i64 to] 30)).goA (.cells #[.int .i64 0, .slice none 0 0] 54)
  have hq0 : ((w.alloc (.cells #[.int .i64 22, .int .i64 (f : Int), .int .i64 0, .slice (some ⟨b, o, none⟩) 2 c, .int .i64 to] 30)).alloc (.cells #[.int .i64 0, .slice none 0 0] 54)).heap[w.heap.size]? = some (.cells #[.int .i64 22, .int .i64 (f : Int), .int .i64 0, .slice (some ⟨b, o, none⟩) 2 c, .int .i64 to] 30 (0, 0)) := by rw [alloc_get, if_neg (by simp), alloc_get, if_pos rfl]
  have hr0 : ((w.alloc (.cells #[.int .i64 22, .int .i64 (f : Int), .int .i64 0, .slice (some ⟨b, o, none⟩) 2 c, .int .i64 to] 30)).alloc (.cells #[.int .i64 0, .slice none 0 0] 54)).heap[w.heap.size + 1]? = some (.cells #[.int .i64 0, .slice none 0 0] 54 (0, 0)) := by rw [alloc_get, if_pos (by simp)]
  have hx' := Lib.hid (hx.ext E0)
  have hb' := Lib.hid hb
  have hq0' := Lib.hid hq0
  have hr0' := Lib.hid hr0
  clear hx hr hb hq0 hr0
  have hq' := Lib.hid hq
  have hl' := Lib.hid hl
  have hkb' := Lib.hid hkb
  have c0' := Lib.hid c0
  have c1' := Lib.hid c1
  have a1' := Lib.hid a1
  have hmr := maskV_range _ _ _ v0.1 v0.2 x0.1 x0.2 x1.1 x1.2
  generalize xs.getD 0 0 = x at *
  generalize xs.getD 1 0 = y at *
  rw [Int.toNat_natCast]
  generalize (L 2).getD f 0 = v at *
  clear hq hm hl h1 h2 hk hkb x23 x22 xr y22 xl c0 c1 a1
  go_enter Try.func102, Try.ntmps102
  go_wp2_with fail
  generalize hW : (w.alloc (.cells #[.int .i64 22, .int .i64 (f : Int), .int .i64 0, .slice (some ⟨b, o, none⟩) 2 c, .int .i64 to] 30)).alloc (.cells #[.int .i64 0, .slice none 0 0] 54) = W at *
  have sW : W.heap.size = w.heap.size + 2 := by rw [← hW]; simp
  clear hW
  refine (pduRight_any 22 (f : Int) 0 to (some ⟨b, o, none⟩) 2 c xs _ hx'.out nm).mono ?_
  rw [hq'.out]
  rintro e w1 ⟨rfl, D1⟩
  have Q1 := (D1.block w.heap.size (by omega)).trans hq0'.out
  have R1 := (D1.block (w.heap.size + 1) (by omega)).trans hr0'.out
  have q1 := cellsAt Q1
  have f1 := frozen_block R1
  have r1 := cellsAt R1
  have Q1' := Lib.hid Q1
  have R1' := Lib.hid R1
  clear Q1 R1 hq0' hr0'
  go_wp2_with fail
  refine (kindOf_any 22 w1).mono ?_
  rintro e w2 ⟨rfl, rfl⟩
  go_wp2_with fail
  refine (bankSpan_yes g 2 f 1 L G _ ((hb'.out.ext E0).ext D1) hk4 hfm hm1).mono ?_
  rintro e w3 ⟨rfl, rfl⟩
  have C0 := (D1.cell o (by omega)).trans ((E0.cell o hbl).trans c0'.out)
  have C1 := (D1.cell (o + 1) (by omega)).trans ((E0.cell (o + 1) hbl).trans c1'.out)
  have V0 := (D1.cell f (by omega)).trans ((E0.cell f hold).trans a1'.out)
  have kb1 := (hkb'.out.below E0 hold).below D1 (by omega)
  have VF := kb1.frozen f
  go_wp2_with fail
  go_still_tail 19, (by kernel_rfl)
  have W4 : ∀ u, Mod (fun i => i = G 2) w1 ((w1.setCell ⟨G 2, f, none⟩ (.int .u16 u)).drew) := fun u => ((Mod.refl (fun i => i = G 2) w1).setCell (p := ⟨G 2, f, none⟩) (.inl rfl) _).drew
  have M4 := W4 (maskV v x y)
  have hB4 : Bk ((w1.setCell ⟨G 2, f, none⟩ (.int .u16 (maskV v x y))).drew) g (upd L 2 ((L 2).set f (maskV v x y))) G := ((hb'.out.ext E0).ext D1).turn hk4 (by simp) (set_range (hb'.out.rng 2) f hmr.1 hmr.2) (kb1.set_ f _) M4
  have Q4 := (M4.block w.heap.size (by have := D1.size; omega) (by omega)).trans Q1'.out
  have R4 := (M4.block (w.heap.size + 1) (by have := D1.size; omega) (by omega)).trans R1'.out
  have hmv : bits .or .u16 (bits .and .u16 v x) (bits .andNot .u16 y x) = maskV v x y := rfl
  have q4 := cellsAt Q4
  have M4' := Lib.hid M4
  have hB4' := Lib.hid hB4
  have R4' := Lib.hid R4
  clear W4 M4 hB4 Q4 R4 kb1
  go_wp2_with fail
  generalize (w1.setCell ⟨G 2, f, none⟩ (.int .u16 (maskV v x y))).drew = w4 at *
  refine (reads_any 22 w4).mono ?_
  rintro e w5 ⟨rfl, D5⟩
  have R5 := (D5.block (w.heap.size + 1) (by have := M4'.out.size; have := D1.size; omega)).trans R4'.out
  have f5 := frozen_block R5
  have r5 := cellsAt R5
  have R5' := Lib.hid R5
  have hrd : readsB 22 = false := rfl
  rw [hrd]
  clear R5 q4 q1 r1 f1 V0 VF
  go_wp2_with fail
  obtain ⟨z0, z1⟩ := two_reads R5'.out (.int .i64 0) (.slice none 0 0)
  refine bodyPost_ret (v := .agg #[.int .i64 0, .slice none 0 0]) (by simp [results, Try.results102, go_sem, z0, z1]) rfl ?_
  have M6 := (((Mod.ofBelow (S := fun i => i = w.heap.size + 1) D5).setCell (p := ⟨w.heap.size + 1, 0, none⟩) (.inl rfl) (.int .i64 0)).setCell (p := ⟨w.heap.size + 1, 1, none⟩) (.inl rfl) (.slice none 0 0))
  exact ⟨none, 0, 0, rfl, Nat.le_refl _, by unfold maxLen; omega, RdI.nil _, fun b o e => (nomatch e), hB4'.out.mod M6 (by omega) (fun j hj => by have := (hb'.out.row j hj).lt; omega), ((Mod.ofBelow (E0.go D1)).trans (M4'.out.rows hk4)).step M6 (fun i hi => .inr (by omega))⟩

set_option maxRecDepth 100000 in
set_option maxHeartbeats 3200000 in
theorem bankDo_copy (g : Nat) (fc ad qt to : Int) (A : Option Addr) (n c : Nat) (xs : List Int) (L : Nat → List Int) (G : Nat → Nat) (w : World) (hb : Bk w g L G) (hx : RdI w w.heap.size .u16 A n xs) (hr : ∀ j : Nat, 0 ≤ xs[j]?.getD 0 ∧ xs[j]?.getD 0 ≤ 65535) (nm : n ≤ maxLen) (hq : rightB' fc ad qt to xs = true) (hf : doFits L fc ad qt to xs.length = true) (h22 : fc ≠ 22) (h23 : fc ≠ 23) :
    Calls Try.prog 102 #[.pointer (some ⟨g, 0, none⟩), .agg #[.int .i64 fc, .int .i64 ad, .int .i64 qt, .slice A n c, .int .i64 to]] w (DoPost 0 (if readsB fc = true then ((splice (L (kindN fc)) ad.toNat xs).drop ad.toNat).take qt.toNat else []) g (upd L (kindN fc) (splice (L (kindN fc)) ad.toNat xs)) G w) := by
  obtain ⟨a0, q0, q2, t0, xl, x23, x1, x22, xr, y22⟩ := right_do hq
  have hl := hx.len
  unfold doFits at hf
  rw [hl] at hf x1 x23 x22
  rw [Bool.and_eq_true] at hf
  obtain ⟨h1, h2⟩ := hf
  obtain ⟨k, f, m, hk, rfl, hm, hk4, hfm, hm1⟩ := spanB_kind h1 (by omega)
  obtain rfl : k = kindN fc := by omega
  have hkb := hb.row (kindN fc) hk4
  have hold := hkb.lt
  have hgl := hb.lt
  have E0 := ((Ext.refl w).goA (.cells #[.int .i64 fc, .int .i64 (f : Int), .int .i64 qt, .slice A n c, .int .i64 to] 30)).goA (.cells #[.int .i64 0, .slice none 0 0] 54)
  have hq0 : ((w.alloc (.cells #[.int .i64 fc, .int .i64 (f : Int), .int .i64 qt, .slice A n c, .int .i64 to] 30)).alloc (.cells #[.int .i64 0, .slice none 0 0] 54)).heap[w.heap.size]? = some (.cells #[.int .i64 fc, .int .i64 (f : Int), .int .i64 qt, .slice A n c, .int .i64 to] 30 (0, 0)) := by rw [alloc_get, if_neg (by simp), alloc_get, if_pos rfl]
  have hr0 : ((w.alloc (.cells #[.int .i64 fc, .int .i64 (f : Int), .int .i64 qt, .slice A n c, .int .i64 to] 30)).alloc (.cells #[.int .i64 0, .slice none 0 0] 54)).heap[w.heap.size + 1]? = some (.cells #[.int .i64 0, .slice none 0 0] 54 (0, 0)) := by rw [alloc_get, if_pos (by simp)]
  have hx' := Lib.hid (hx.ext E0)
  have hr' := Lib.hid hr
  have hb' := Lib.hid hb
  have hq0' := Lib.hid hq0
  have hr0' := Lib.hid hr0
  clear hx hr hb hq0 hr0
  have hq' := Lib.hid hq
  have hm' := Lib.hid hm
  have hl' := Lib.hid hl
  have hkb' := Lib.hid hkb
  have e22 : (fc == 22) = false := by simp; exact h22
  have e23 : (fc == 23) = false := by simp; exact h23
  have hnm : n ≤ m := by have := x23 h23 h22; omega
  have hqm := Lib.hid (show readsB fc = true → qt.toNat = m from fun h => by have := xr h; omega)
  clear hq hm hl h1 h2 hk hkb x23 x1 x22 xr y22 t0 xl
  generalize hY : (if readsB fc = true then ((splice (L (kindN fc)) (f : Int).toNat xs).drop (f : Int).toNat).take qt.toNat else []) = Y
  have hY' := Lib.hid hY
  clear hY
  go_enter Try.func102, Try.ntmps102
  go_wp2_with fail
  generalize hW : (w.alloc (.cells #[.int .i64 fc, .int .i64 (f : Int), .int .i64 qt, .slice A n c, .int .i64 to] 30)).alloc (.cells #[.int .i64 0, .slice none 0 0] 54) = W at *
  have sW : W.heap.size = w.heap.size + 2 := by rw [← hW]; simp
  clear hW
  refine (pduRight_any fc (f : Int) qt to A n c xs _ hx'.out nm).mono ?_
  rw [hq'.out]
  rintro e w1 ⟨rfl, D1⟩
  have Q1 := (D1.block w.heap.size (by omega)).trans hq0'.out
  have R1 := (D1.block (w.heap.size + 1) (by omega)).trans hr0'.out
  have q1 := cellsAt Q1
  have f1 := frozen_block R1
  have r1 := cellsAt R1
  have Q1' := Lib.hid Q1
  have R1' := Lib.hid R1
  clear Q1 R1 hq0' hr0'
  go_wp2_with fail
  refine (kindOf_any fc w1).mono ?_
  rintro e w2 ⟨rfl, rfl⟩
  go_wp2_with fail
  rw [hm'.out]
  refine (bankSpan_yes g (kindN fc) f m L G _ ((hb'.out.ext E0).ext D1) hk4 hfm hm1).mono ?_
  rintro e w3 ⟨rfl, rfl⟩
  have hx1 := hx'.out.ext D1
  have kb1 := (hkb'.out.below E0 hold).below D1 (by omega)
  go_wp2_with ((with_reducible refine wpList_copyI rfl (.tmp 74) (.tmp 76) 28 28 rfl Try.underlying28 sz_u16 rfl rfl kb1 (fun _ => rfl) hfm hx1 ?_))
  intro w4 HB4 M4
  rw [List.take_of_length_le (by rw [hl'.out]; exact hnm)] at HB4
  have hlen : (splice (L (kindN fc)) f xs).length = (L (kindN fc)).length := length_splice _ _ _ (by rw [hl'.out]; omega)
  have hrng := splice_range (f := f) (hb'.out.rng (kindN fc)) hr'.out
  have hB4 := Lib.hid (((hb'.out.ext E0).ext D1).turn hk4 hlen hrng HB4.out M4)
  have Q4 := (M4.block w.heap.size (by have := D1.size; omega) (by omega)).trans Q1'.out
  have R4 := (M4.block (w.heap.size + 1) (by have := D1.size; omega) (by omega)).trans R1'.out
  have q4 := cellsAt Q4
  have r4' := Lib.hid R4
  have Q4' := Lib.hid Q4
  clear Q4 R4 q1 r1 f1 hx1 kb1
  go_wp2_with fail
  refine (reads_any fc w4).mono ?_
  rintro e w5 ⟨rfl, D5⟩
  have R5 := (D5.block (w.heap.size + 1) (by have := M4.size; have := D1.size; omega)).trans r4'.out
  have f5 := frozen_block R5
  have r5 := cellsAt R5
  have R5' := Lib.hid R5
  have HB5 := Lib.hid (HB4.out.below D5 (HB4.out.lt))
  clear R5 q4
  cases hrd : readsB fc
  · have hy : Y = [] := by rw [← hY'.out, hrd, if_neg (by decide)]
    subst hy
    clear hrd
    go_wp2_with fail
    obtain ⟨z0, z1⟩ := two_reads R5'.out (.int .i64 0) (.slice none 0 0)
    refine bodyPost_ret (v := .agg #[.int .i64 0, .slice none 0 0]) (by simp [results, Try.results102, go_sem, z0, z1]) rfl ?_
    have M6 := (((Mod.ofBelow (S := fun i => i = w.heap.size + 1) D5).setCell (p := ⟨w.heap.size + 1, 0, none⟩) (.inl rfl) (.int .i64 0)).setCell (p := ⟨w.heap.size + 1, 1, none⟩) (.inl rfl) (.slice none 0 0))
    exact ⟨none, 0, 0, rfl, Nat.le_refl _, by unfold maxLen; omega, RdI.nil _, fun b o e => (nomatch e), by simpa using hB4.out.mod M6 (by omega) (fun j hj => by have := (hb'.out.row j hj).lt; omega), ((Mod.ofBelow (E0.go D1)).trans (M4.rows hk4)).step M6 (fun i hi => .inr (by omega))⟩
  · have hqm' := hqm.out hrd
    have hy : Y = ((splice (L (kindN fc)) f xs).drop f).take m := by
      have e := hY'.out
      rw [hrd, if_pos rfl, hqm'] at e
      rw [← e]
      simp only [Int.toNat_natCast]
    subst hy
    clear hrd hqm'
    have hmk := fun w => run_mkI Try.underlying28 info_u16 (m : Int) m rfl (by have := hb'.out.len (kindN fc); omega) (by have := hb'.out.len (kindN fc); omega) w
    have hcut := HB5.out.cut (B := w5.heap.size) HB5.out.lt (f := f) (m := m) (by rw [hlen]; exact hfm)
    have hnew := Blk.new w5 43 .u16 (zs m)
    have hcut' := (hcut.alloc (Nat.le_refl _) (.cells (row .u16 (zs m)) 43))
    have hnew' := hnew
    have R6 : (w5.alloc (.cells (row .u16 (zs m)) 43)).heap[w.heap.size + 1]? = _ := (Below.heap_alloc w5 _ _ (by have := D5.size; have := M4.size; have := D1.size; omega)).trans R5'.out
    have hcl : (((splice (L (kindN fc)) f xs).drop f).take m).length = m := by rw [List.length_take, List.length_drop, hlen]; omega
    have hcl' := Lib.hid hcl
    have R6' := Lib.hid R6
    clear hcl hcut hnew R6 f5 r5
    go_wp2_with ((with_reducible refine wpList_copyI rfl (.tmp 90) (.tmp 91) 28 28 rfl Try.underlying28 sz_u16 rfl rfl hnew' (fun _ => rfl) (by rw [zs_length]; omega) hcut' ?_))
    intro w7 HB7 M7
    have hs : splice (zs m) 0 ((((splice (L (kindN fc)) f xs).drop f).take m).take m) = ((splice (L (kindN fc)) f xs).drop f).take m := by
      rw [List.take_of_length_le (by rw [hcl'.out]; exact Nat.le_refl _)]
      exact splice_all (by rw [hcl'.out, zs_length])
    rw [hs] at HB7
    have s5 : w.heap.size + 2 ≤ w5.heap.size := by have := D5.size; have := M4.size; have := D1.size; omega
    have s7 : w5.heap.size + 1 ≤ w7.heap.size := by have := M7.size; rwa [alloc_size] at this
    have D7 : Ext w4 w7 := (D5.goA _).goM M7 (fun i hi => by have := D5.size; omega)
    have R7 := (M7.block (w.heap.size + 1) (by rw [alloc_size]; omega) (by omega)).trans R6'.out
    have f7 := frozen_block R7
    have r7 := cellsAt R7
    have R7' := Lib.hid R7
    clear hs hmk R7 hcut' hnew'
    go_wp2_with fail
    obtain ⟨z0, z1⟩ := two_reads R7'.out (.int .i64 0) (.slice (some ⟨w5.heap.size, 0, none⟩) m m)
    refine bodyPost_ret (v := .agg #[.int .i64 0, .slice (some ⟨w5.heap.size, 0, none⟩) m m]) (by simp [results, Try.results102, go_sem, z0, z1]) rfl ?_
    have M8 := (((Mod.ofBelow (S := fun i => i = w.heap.size + 1) D7).setCell (p := ⟨w.heap.size + 1, 0, none⟩) (.inl rfl) (.int .i64 0)).setCell (p := ⟨w.heap.size + 1, 1, none⟩) (.inl rfl) (.slice (some ⟨w5.heap.size, 0, none⟩) m m))
    have B8 := (HB7.out.far (p := ⟨w.heap.size + 1, 0, none⟩) (by simp; omega) (.int .i64 0)).far (p := ⟨w.heap.size + 1, 1, none⟩) (by simp; omega) (.slice (some ⟨w5.heap.size, 0, none⟩) m m)
    have R8 := B8.rd B8.lt
    rw [hcl'.out] at R8
    exact ⟨_, m, m, rfl, Nat.le_refl _, by have := hb'.out.len (kindN fc); unfold maxLen; omega, by simpa using R8, fun b o e => by (injection e with e; injection e with e; omega), by simpa using hB4.out.mod M8 (by omega) (fun j hj => by have := (hb'.out.row j hj).lt; omega), ((Mod.ofBelow (E0.go D1)).trans (M4.rows hk4)).step M8 (fun i hi => .inr (by omega))⟩

set_option maxRecDepth 100000 in
set_option maxHeartbeats 3200000 in
theorem bankDo_swap (g : Nat) (ad qt to : Int) (A : Option Addr) (n c : Nat) (xs : List Int) (L : Nat → List Int) (G : Nat → Nat) (w : World) (hb : Bk w g L G) (hx : RdI w w.heap.size .u16 A n xs) (hr : ∀ j : Nat, 0 ≤ xs[j]?.getD 0 ∧ xs[j]?.getD 0 ≤ 65535) (nm : n ≤ maxLen) (hq : rightB' 23 ad qt to xs = true) (hf : doFits L 23 ad qt to xs.length = true) :
    Calls Try.prog 102 #[.pointer (some ⟨g, 0, none⟩), .agg #[.int .i64 23, .int .i64 ad, .int .i64 qt, .slice A n c, .int .i64 to]] w (DoPost 0 (if readsB 23 = true then ((splice (L (kindN 23)) to.toNat xs).drop ad.toNat).take qt.toNat else []) g (upd L (kindN 23) (splice (L (kindN 23)) to.toNat xs)) G w) := by
  obtain ⟨a0, q0, q2, t0, xl, x23, x1, x22, xr, y22⟩ := right_do hq
  have hl := hx.len
  unfold doFits at hf
  rw [hl] at hf x1 x23 x22
  rw [Bool.and_eq_true] at hf
  obtain ⟨h1, h2⟩ := hf
  obtain ⟨k, f, m, hk, rfl, hm, hk4, hfm, hm1⟩ := spanB_kind h1 (by omega)
  obtain rfl : k = kindN 23 := by omega
  have hkb := hb.row (kindN 23) hk4
  have hold := hkb.lt
  have hgl := hb.lt
  have h2 : spanB L (kindN 23) to n = true := by simpa using h2
  obtain ⟨k2, f2, n2, hk2, rfl, hn2, _, hfm2, hn21⟩ := spanB_kind h2 (by have := x1 rfl; omega)
  obtain rfl : k2 = kindN 23 := by omega
  obtain rfl : n = n2 := by omega
  have E0 := ((Ext.refl w).goA (.cells #[.int .i64 23, .int .i64 (f : Int), .int .i64 qt, .slice A n c, .int .i64 (f2 : Int)] 30)).goA (.cells #[.int .i64 0, .slice none 0 0] 54)
  have hq0 : ((w.alloc (.cells #[.int .i64 23, .int .i64 (f : Int), .int .i64 qt, .slice A n c, .int .i64 (f2 : Int)] 30)).alloc (.cells #[.int .i64 0, .slice none 0 0] 54)).heap[w.heap.size]? = some (.cells #[.int .i64 23, .int .i64 (f : Int), .int .i64 qt, .slice A n c, .int .i64 (f2 : Int)] 30 (0, 0)) := by rw [alloc_get, if_neg (by simp), alloc_get, if_pos rfl]
  have hr0 : ((w.alloc (.cells #[.int .i64 23, .int .i64 (f : Int), .int .i64 qt, .slice A n c, .int .i64 (f2 : Int)] 30)).alloc (.cells #[.int .i64 0, .slice none 0 0] 54)).heap[w.heap.size + 1]? = some (.cells #[.int .i64 0, .slice none 0 0] 54 (0, 0)) := by rw [alloc_get, if_pos (by simp)]
  have hx' := Lib.hid (hx.ext E0)
  have hr' := Lib.hid hr
  have hb' := Lib.hid hb
  have hq0' := Lib.hid hq0
  have hr0' := Lib.hid hr0
  clear hx hr hb hq0 hr0
  have hq' := Lib.hid hq
  have hm' := Lib.hid hm
  have hl' := Lib.hid hl
  have hkb' := Lib.hid hkb
  have hqm := Lib.hid (show readsB 23 = true → qt.toNat = m from fun h => by have := xr h; omega)
  clear hq hm hl h1 h2 hk hkb x23 x1 x22 xr y22 t0 xl hk2 hn2
  generalize hY : (if readsB 23 = true then ((splice (L (kindN 23)) (f2 : Int).toNat xs).drop (f : Int).toNat).take qt.toNat else []) = Y
  have hY' := Lib.hid hY
  clear hY
  go_enter Try.func102, Try.ntmps102
  go_wp2_with fail
  generalize hW : (w.alloc (.cells #[.int .i64 23, .int .i64 (f : Int), .int .i64 qt, .slice A n c, .int .i64 (f2 : Int)] 30)).alloc (.cells #[.int .i64 0, .slice none 0 0] 54) = W at *
  have sW : W.heap.size = w.heap.size + 2 := by rw [← hW]; simp
  clear hW
  refine (pduRight_any 23 (f : Int) qt (f2 : Int) A n c xs _ hx'.out nm).mono ?_
  rw [hq'.out]
  rintro e w1 ⟨rfl, D1⟩
  have Q1 := (D1.block w.heap.size (by omega)).trans hq0'.out
  have R1 := (D1.block (w.heap.size + 1) (by omega)).trans hr0'.out
  have q1 := cellsAt Q1
  have f1 := frozen_block R1
  have r1 := cellsAt R1
  have Q1' := Lib.hid Q1
  have R1' := Lib.hid R1
  clear Q1 R1 hq0' hr0'
  go_wp2_with fail
  refine (kindOf_any 23 w1).mono ?_
  rintro e w2 ⟨rfl, rfl⟩
  go_wp2_with fail
  rw [hm'.out]
  refine (bankSpan_yes g (kindN 23) f m L G _ ((hb'.out.ext E0).ext D1) hk4 hfm hm1).mono ?_
  rintro e w3 ⟨rfl, rfl⟩
  go_wp2_with fail
  refine (bankSpan_yes g (kindN 23) f2 n L G _ ((hb'.out.ext E0).ext D1) hk4 hfm2 hn21).mono ?_
  rintro e w4 ⟨rfl, rfl⟩
  have hx1 := hx'.out.ext D1
  have kb1 := (hkb'.out.below E0 hold).below D1 (by omega)
  go_wp2_with ((with_reducible refine wpList_copyI rfl (.tmp 74) (.tmp 76) 28 28 rfl Try.underlying28 sz_u16 rfl rfl kb1 (fun _ => rfl) hfm2 hx1 ?_))
  intro w4 HB4 M4
  rw [List.take_of_length_le (by rw [hl'.out]; exact Nat.le_refl _)] at HB4
  have hlen : (splice (L (kindN 23)) f2 xs).length = (L (kindN 23)).length := length_splice _ _ _ (by rw [hl'.out]; omega)
  have hrng := splice_range (f := f2) (hb'.out.rng (kindN 23)) hr'.out
  have hB4 := Lib.hid (((hb'.out.ext E0).ext D1).turn hk4 hlen hrng HB4.out M4)
  have Q4 := (M4.block w.heap.size (by have := D1.size; omega) (by omega)).trans Q1'.out
  have R4 := (M4.block (w.heap.size + 1) (by have := D1.size; omega) (by omega)).trans R1'.out
  have q4 := cellsAt Q4
  have r4' := Lib.hid R4
  have Q4' := Lib.hid Q4
  clear Q4 R4 q1 r1 f1 hx1 kb1
  go_wp2_with fail
  refine (reads_any 23 w4).mono ?_
  rintro e w5 ⟨rfl, D5⟩
  have R5 := (D5.block (w.heap.size + 1) (by have := M4.size; have := D1.size; omega)).trans r4'.out
  have f5 := frozen_block R5
  have r5 := cellsAt R5
  have R5' := Lib.hid R5
  have HB5 := Lib.hid (HB4.out.below D5 (HB4.out.lt))
  clear R5 q4
  have hrd : readsB 23 = true := rfl
  have hqm' := hqm.out hrd
  have hy : Y = ((splice (L (kindN 23)) f2 xs).drop f).take m := by
    have e := hY'.out
    rw [hrd, if_pos rfl, hqm'] at e
    rw [← e]
    simp only [Int.toNat_natCast]
  subst hy
  clear hrd hqm'
  have hmk := fun w => run_mkI Try.underlying28 info_u16 (m : Int) m rfl (by have := hb'.out.len (kindN 23); omega) (by have := hb'.out.len (kindN 23); omega) w
  have hcut := HB5.out.cut (B := w5.heap.size) HB5.out.lt (f := f) (m := m) (by rw [hlen]; exact hfm)
  have hnew := Blk.new w5 43 .u16 (zs m)
  have hcut' := (hcut.alloc (Nat.le_refl _) (.cells (row .u16 (zs m)) 43))
  have hnew' := hnew
  have R6 : (w5.alloc (.cells (row .u16 (zs m)) 43)).heap[w.heap.size + 1]? = _ := (Below.heap_alloc w5 _ _ (by have := D5.size; have := M4.size; have := D1.size; omega)).trans R5'.out
  have hcl : (((splice (L (kindN 23)) f2 xs).drop f).take m).length = m := by rw [List.length_take, List.length_drop, hlen]; omega
  have hcl' := Lib.hid hcl
  have R6' := Lib.hid R6
  clear hcl hcut hnew R6 f5 r5
  go_wp2_with ((with_reducible refine wpList_copyI rfl (.tmp 90) (.tmp 91) 28 28 rfl Try.underlying28 sz_u16 rfl rfl hnew' (fun _ => rfl) (by rw [zs_length]; omega) hcut' ?_))
  intro w7 HB7 M7
  have hs : splice (zs m) 0 ((((splice (L (kindN 23)) f2 xs).drop f).take m).take m) = ((splice (L (kindN 23)) f2 xs).drop f).take m := by
    rw [List.take_of_length_le (by rw [hcl'.out]; exact Nat.le_refl _)]
    exact splice_all (by rw [hcl'.out, zs_length])
  rw [hs] at HB7
  have s5 : w.heap.size + 2 ≤ w5.heap.size := by have := D5.size; have := M4.size; have := D1.size; omega
  have s7 : w5.heap.size + 1 ≤ w7.heap.size := by have := M7.size; rwa [alloc_size] at this
  have D7 : Ext w4 w7 := (D5.goA _).goM M7 (fun i hi => by have := D5.size; omega)
  have R7 := (M7.block (w.heap.size + 1) (by rw [alloc_size]; omega) (by omega)).trans R6'.out
  have f7 := frozen_block R7
  have r7 := cellsAt R7
  have R7' := Lib.hid R7
  clear hs hmk R7 hcut' hnew'
  go_wp2_with fail
  obtain ⟨z0, z1⟩ := two_reads R7'.out (.int .i64 0) (.slice (some ⟨w5.heap.size, 0, none⟩) m m)
  refine bodyPost_ret (v := .agg #[.int .i64 0, .slice (some ⟨w5.heap.size, 0, none⟩) m m]) (by simp [results, Try.results102, go_sem, z0, z1]) rfl ?_
  have M8 := (((Mod.ofBelow (S := fun i => i = w.heap.size + 1) D7).setCell (p := ⟨w.heap.size + 1, 0, none⟩) (.inl rfl) (.int .i64 0)).setCell (p := ⟨w.heap.size + 1, 1, none⟩) (.inl rfl) (.slice (some ⟨w5.heap.size, 0, none⟩) m m))
  have B8 := (HB7.out.far (p := ⟨w.heap.size + 1, 0, none⟩) (by simp; omega) (.int .i64 0)).far (p := ⟨w.heap.size + 1, 1, none⟩) (by simp; omega) (.slice (some ⟨w5.heap.size, 0, none⟩) m m)
  have R8 := B8.rd B8.lt
  rw [hcl'.out] at R8
  exact ⟨_, m, m, rfl, Nat.le_refl _, by have := hb'.out.len (kindN 23); unfold maxLen; omega, by simpa using R8, fun b o e => by (injection e with e; injection e with e; omega), by simpa using hB4.out.mod M8 (by omega) (fun j hj => by have := (hb'.out.row j hj).lt; omega), ((Mod.ofBelow (E0.go D1)).trans (M4.rows hk4)).step M8 (fun i hi => .inr (by omega))⟩

theorem doGoes_parts {L : Nat → List Int} {fc ad qt to : Int} {xs : List Int} (h : doGoes L fc ad qt to xs = true) : rightB' fc ad qt to xs = true ∧ doFits L fc ad qt to xs.length = true := by
  unfold doGoes at h; rwa [Bool.and_eq_true] at h
theorem bankDo_any (g : Nat) (fc ad qt to : Int) (A : Option Addr) (n c : Nat) (xs : List Int) (L : Nat → List Int) (G : Nat → Nat) (w : World) (hb : Bk w g L G) (hx : RdI w w.heap.size .u16 A n xs) (hr : ∀ j : Nat, 0 ≤ xs[j]?.getD 0 ∧ xs[j]?.getD 0 ≤ 65535) (nm : n ≤ maxLen) :
    Calls Try.prog 102 #[.pointer (some ⟨g, 0, none⟩), .agg #[.int .i64 fc, .int .i64 ad, .int .i64 qt, .slice A n c, .int .i64 to]] w (DoPost (doC L fc ad qt to xs) (doY L fc ad qt to xs) g (doL L fc ad qt to xs) G w) := by
  cases hq : rightB' fc ad qt to xs
  · have h := bankDo_wrong g fc ad qt to A n c xs L G w hb hx nm hq
    unfold doC doY doL doGoes
    rw [hq, if_neg (by decide), Bool.false_and, if_neg (by decide), if_neg (by decide)]
    exact h
  · cases hf : doFits L fc ad qt to xs.length
    · have h := bankDo_none g fc ad qt to A n c xs L G w hb hx nm hq hf
      unfold doC doY doL doGoes
      rw [hq, hf, if_pos rfl, Bool.true_and, if_neg (by decide), if_neg (by decide), if_neg (by decide)]
      exact h
    · unfold doC doY doL doGoes doRow
      rw [hq, hf, if_pos rfl, Bool.true_and, if_pos rfl, if_pos rfl, if_pos rfl]
      by_cases h22 : fc = 22
      · subst h22
        have h := bankDo_mask g ad qt to A n c xs L G w hb hx hr nm hq hf
        rw [if_pos rfl, show readsB 22 = false from rfl, if_neg (by decide), show kindN 22 = 2 from rfl]
        exact h
      · rw [if_neg h22]
        by_cases h23 : fc = 23
        · subst h23
          rw [if_pos rfl]
          exact bankDo_swap g ad qt to A n c xs L G w hb hx hr nm hq hf
        · rw [if_neg h23]
          exact bankDo_copy g fc ad qt to A n c xs L G w hb hx hr nm hq hf h22 h23
end Go.Proofs.Ytgagpalffdgjnaa
