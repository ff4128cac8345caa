
/- Layer 4, the walks: may that be asked? -/
import Derived.Test.YtgeahfkhfpdlhaaPduKindsW
import Derived.Test.YtgeahfkhfpdlhaaPduHoldsB
import Derived.Deep.RegionLaw
namespace Go.Proofs.Ytgeahfkhfpdlhaa
open Go.RowKit

def rightB' (fc ad qt to : Int) (xs : List Int) : Bool := match shapeOf fc with | some s => holdsB s ad qt to xs && fitsB ad qt to xs.length | none => false

theorem have_then {P Q : Prop} (h : P) (k : P → Q) : Q := k h
theorem holds_len {s : Shape} {ad qt to : Int} {xs : List Int} (hf : 0 ≤ s.form ∧ s.form ≤ 3 ∧ s.qty ≤ 2000 ∧ s.vals ≤ 121) (h : holdsB s ad qt to xs = true) : xs.length ≤ 2000 := by
  obtain ⟨-, -, ⟨q0, q1⟩, -, -, f0, f1, f2, f3⟩ := holds_parts h
  by_cases h0 : s.form = 0
  · rw [f0 h0]; simp
  · by_cases h1 : s.form = 1
    · have := (f1 h1).1; omega
    · by_cases h2 : s.form = 2
      · have := (f2 h2).1; omega
      · have := (f3 h0 h1 h2).2; omega
theorem shape_bounds {fc : Int} {s : Shape} (hs : shapeOf fc = some s) : 0 ≤ s.form ∧ s.form ≤ 3 ∧ s.qty ≤ 2000 ∧ s.vals ≤ 121 := by
  rcases shape_cases hs with ⟨_, rfl⟩ | ⟨_, rfl⟩ | ⟨_, rfl⟩ | ⟨_, rfl⟩ | ⟨_, rfl⟩ | ⟨_, rfl⟩ | ⟨_, rfl⟩ | ⟨_, rfl⟩ <;> decide

set_option maxRecDepth 100000 in
set_option maxHeartbeats 1600000 in
theorem right_none (fc ad qt to : Int) (A : Option Addr) (n c : Nat) (w : World) (hs : shapeOf fc = none) :
    Calls Try.prog 72 #[.agg #[.int .i64 fc, .int .i64 ad, .int .i64 qt, .slice A n c, .int .i64 to]] w fun e w' => e = .returned (.bool false) ∧ Ext w w' := by
  have hv : lookV fc = shapeZero := by unfold lookV; rw [hs]
  have lk1 := look_any (w := ((w.alloc (.cells #[.int .i64 fc, .int .i64 ad, .int .i64 qt, .slice A n c, .int .i64 to] 32)).alloc (.map E10 10)).drew) (g := w.heap.size + 1) (by show (World.alloc _ _).heap[_]? = _; rw [alloc_get, if_pos (by simp)]) fc
  have lk2 := look_any (w := (((w.alloc (.cells #[.int .i64 fc, .int .i64 ad, .int .i64 qt, .slice A n c, .int .i64 to] 32)).alloc (.map E10 10)).alloc (.cells #[.int .i64 0, .int .i64 0, .int .i64 0, .bool false] 144)).drew) (g := w.heap.size + 1) (by show (World.alloc _ _).heap[_]? = _; rw [alloc_get, if_neg (by simp), alloc_get, if_pos (by simp)]) fc
  have lk3 := look_any (w := (((w.alloc (.cells #[.int .i64 fc, .int .i64 ad, .int .i64 qt, .slice A n c, .int .i64 to] 32)).alloc (.cells #[.int .i64 0, .int .i64 0, .int .i64 0, .bool false] 144)).alloc (.map E10 10)).drew) (g := w.heap.size + 1 + 1) (by show (World.alloc _ _).heap[_]? = _; rw [alloc_get, if_pos (by simp)]) fc
  rw [hv, hs] at lk1 lk2 lk3
  clear hv hs
  unfold shapeZero at lk1 lk2 lk3
  rw [show (none : Option Shape).isSome = false from rfl] at lk1 lk2 lk3
  have E1 := (Ext.refl w).goA (.cells #[.int .i64 fc, .int .i64 ad, .int .i64 qt, .slice A n c, .int .i64 to] 32)
  go_enter Try.func72, Try.ntmps72
  go_wp2_with fail
  go_region_law
    (first
      | (go_simp
         go_at_call 100
         refine (shapes_any _).mono ?_
         rintro e w1 ⟨rfl, rfl⟩
         dsimp only))
  all_goals
    go_wp2_with fail
    go_ret
    exact ⟨rfl, ((E1.goA _).god).goA _⟩

set_option maxRecDepth 100000 in
set_option maxHeartbeats 1600000 in
theorem right_some (s : Shape) (fc ad qt to : Int) (A : Option Addr) (n c : Nat) (xs : List Int) (w : World) (hs : shapeOf fc = some s) (hx : RdI w w.heap.size .u16 A n xs) (hn : n ≤ maxLen) :
    Calls Try.prog 72 #[.agg #[.int .i64 fc, .int .i64 ad, .int .i64 qt, .slice A n c, .int .i64 to]] w fun e w' => e = .returned (.bool (holdsB s ad qt to xs && fitsB ad qt to n)) ∧ Ext w w' := by
  have hv : lookV fc = s.val := by unfold lookV; rw [hs]
  have hf := shape_bounds hs
  have lk1 := look_any (w := ((w.alloc (.cells #[.int .i64 fc, .int .i64 ad, .int .i64 qt, .slice A n c, .int .i64 to] 32)).alloc (.map E10 10)).drew) (g := w.heap.size + 1) (by show (World.alloc _ _).heap[_]? = _; rw [alloc_get, if_pos (by simp)]) fc
  have lk2 := look_any (w := (((w.alloc (.cells #[.int .i64 fc, .int .i64 ad, .int .i64 qt, .slice A n c, .int .i64 to] 32)).alloc (.map E10 10)).alloc (.cells #[.int .i64 0, .int .i64 0, .int .i64 0, .bool false] 144)).drew) (g := w.heap.size + 1) (by show (World.alloc _ _).heap[_]? = _; rw [alloc_get, if_neg (by simp), alloc_get, if_pos (by simp)]) fc
  have lk3 := look_any (w := (((w.alloc (.cells #[.int .i64 fc, .int .i64 ad, .int .i64 qt, .slice A n c, .int .i64 to] 32)).alloc (.cells #[.int .i64 0, .int .i64 0, .int .i64 0, .bool false] 144)).alloc (.map E10 10)).drew) (g := w.heap.size + 1 + 1) (by show (World.alloc _ _).heap[_]? = _; rw [alloc_get, if_pos (by simp)]) fc
  rw [hv, hs] at lk1 lk2 lk3
  rw [show (some s).isSome = true from rfl] at lk1 lk2 lk3
  have hp := Lib.hid (holds_parts (s := s) (ad := ad) (qt := qt) (to := to) (xs := xs))
  have hc := fun w' (E : Ext w w') => holds_any s fc ad qt to A n c w.heap.size xs w' (hx.below E) E.size hn hf.1 hf.2.1
  have hf' := Lib.hid hf
  clear hv hs hf
  obtain ⟨f, q, v, b⟩ := s
  unfold Shape.val at lk1 lk2 lk3 hc
  dsimp only at lk1 lk2 lk3 hc
  have E1 := (Ext.refl w).goA (.cells #[.int .i64 fc, .int .i64 ad, .int .i64 qt, .slice A n c, .int .i64 to] 32)
  have F1 := Ext.refl (w.alloc (.cells #[.int .i64 fc, .int .i64 ad, .int .i64 qt, .slice A n c, .int .i64 to] 32))
  have hlen := Lib.hid hx.len
  have hc' := Lib.hid hc
  clear hc
  go_enter Try.func72, Try.ntmps72
  go_wp2_with fail
  go_region_law
    (first
      | (go_simp
         go_at_call 100
         refine (shapes_any _).mono ?_
         rintro e w1 ⟨rfl, rfl⟩
         dsimp only))
  all_goals
    go_wp2_with fail
    refine (hc'.out _ (by first | exact ((E1.goA _).goA _).god)).mono ?_
    rintro e w2 ⟨rfl, D2⟩
    cases hh : holdsB ⟨f, q, v, b⟩ ad qt to xs
    · go_wp2_with fail
      go_ret
      exact ⟨by rw [hh]; rfl, (((E1.goA _).goA _).god).go D2⟩
    · obtain ⟨⟨a0, a1⟩, ⟨t0, t1⟩, ⟨q0, q1⟩, _, _, _⟩ := hp.out hh
      have bx := cellsAt (((((F1.goA _).goA _).god).go D2).block w.heap.size (by simp) |>.trans (heap_alloc_new w _))
      have q2 : qt ≤ 65535 := by have := hf'.out.2.2.1; have q1 : qt ≤ q := q1; have this : q ≤ 2000 := this; omega
      have n2 : n ≤ 65536 := by have := holds_len hf'.out hh; have := hlen.out; omega
      go_wp2_with fail
      refine (fits_any fc ad qt to A n c w2 a0 (by omega) t0 (by omega) q0 q2 n2).mono ?_
      rintro e w3 ⟨rfl, D3⟩
      go_wp2_with fail
      go_ret
      exact ⟨by rw [hh]; rfl, ((((E1.goA _).goA _).god).go D2).go D3⟩
theorem pduRight_any (fc ad qt to : Int) (A : Option Addr) (n c : Nat) (xs : List Int) (w : World) (hx : RdI w w.heap.size .u16 A n xs) (hn : n ≤ maxLen) :
    Calls Try.prog 72 #[.agg #[.int .i64 fc, .int .i64 ad, .int .i64 qt, .slice A n c, .int .i64 to]] w fun e w' => e = .returned (.bool (rightB' fc ad qt to xs)) ∧ Ext w w' := by
  unfold rightB'
  cases hs : shapeOf fc with
  | none => exact right_none fc ad qt to A n c w hs
  | some s => dsimp only; rw [hx.len]; exact right_some s fc ad qt to A n c xs w hs hx hn
end Go.Proofs.Ytgeahfkhfpdlhaa
