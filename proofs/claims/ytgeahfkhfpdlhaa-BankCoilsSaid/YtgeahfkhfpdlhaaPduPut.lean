
/- Layer 4, the walks: the bytes of a request. -/
import Derived.Test.YtgeahfkhfpdlhaaPduRight
import Derived.Test.YtgeahfkhfpdlhaaPduCoded4
namespace Go.Proofs.Ytgeahfkhfpdlhaa
open Go.RowKit

set_option maxRecDepth 100000 in
set_option maxHeartbeats 1600000 in
theorem put_none (fc ad qt to : Int) (A : Option Addr) (n c : Nat) (w : World) (hs : shapeOf fc = none) :
    Calls Try.prog 118 #[.agg #[.int .i64 fc, .int .i64 ad, .int .i64 qt, .slice A n c, .int .i64 to]] w (RetI .u8 [] w) := by
  have hv : lookV fc = shapeZero := by unfold lookV; rw [hs]
  have lk1 := look_any (w := ((w.alloc (.cells #[.int .i64 fc, .int .i64 ad, .int .i64 qt, .slice A n c, .int .i64 to] 32)).alloc (.map E10 10)).drew) (g := w.heap.size + 1) (by show (World.alloc _ _).heap[_]? = _; rw [alloc_get, if_pos (by simp)]) fc
  have lk2 := look_any (w := (((w.alloc (.cells #[.int .i64 fc, .int .i64 ad, .int .i64 qt, .slice A n c, .int .i64 to] 32)).alloc (.map E10 10)).alloc (.cells #[.int .i64 0, .int .i64 0, .int .i64 0, .bool false] 144)).drew) (g := w.heap.size + 1) (by show (World.alloc _ _).heap[_]? = _; rw [alloc_get, if_neg (by simp), alloc_get, if_pos (by simp)]) fc
  have lk3 := look_any (w := (((w.alloc (.cells #[.int .i64 fc, .int .i64 ad, .int .i64 qt, .slice A n c, .int .i64 to] 32)).alloc (.cells #[.int .i64 0, .int .i64 0, .int .i64 0, .bool false] 144)).alloc (.map E10 10)).drew) (g := w.heap.size + 1 + 1) (by show (World.alloc _ _).heap[_]? = _; rw [alloc_get, if_pos (by simp)]) fc
  rw [hv, hs] at lk1 lk2 lk3
  clear hv hs
  unfold shapeZero at lk1 lk2 lk3
  rw [show (none : Option Shape).isSome = false from rfl] at lk1 lk2 lk3
  have E1 := (Ext.refl w).goA (.cells #[.int .i64 fc, .int .i64 ad, .int .i64 qt, .slice A n c, .int .i64 to] 32)
  go_enter Try.func118, Try.ntmps118
  go_wp2_with fail
  go_region_law
    (first
      | (go_simp
         go_at_call 100
         refine (shapes_any _).mono ?_
         rintro e w1 ⟨rfl, rfl⟩
         dsimp only))
  all_goals
    go_wp2_with fail
    go_ret
    exact ⟨_, _, _, rfl, Nat.le_refl _, by decide, RdI.nil _, ((E1.goA _).god).goA _⟩

set_option maxRecDepth 100000 in
set_option maxHeartbeats 1600000 in
theorem put_some (s : Shape) (fc ad qt to : Int) (A : Option Addr) (n c : Nat) (xs : List Int) (w : World) (hs : shapeOf fc = some s) (hx : RdI w w.heap.size .u16 A n xs) (hr : ∀ j : Nat, 0 ≤ xs[j]?.getD 0 ∧ xs[j]?.getD 0 ≤ 65535) (hn : n ≤ maxLen) :
    Calls Try.prog 118 #[.agg #[.int .i64 fc, .int .i64 ad, .int .i64 qt, .slice A n c, .int .i64 to]] w (RetI .u8 (if holdsB s ad qt to xs && fitsB ad qt to n then codedL s fc ad qt to xs else []) w) := by
  have hv : lookV fc = s.val := by unfold lookV; rw [hs]
  have hf := shape_bounds hs
  have lk1 := look_any (w := ((w.alloc (.cells #[.int .i64 fc, .int .i64 ad, .int .i64 qt, .slice A n c, .int .i64 to] 32)).alloc (.map E10 10)).drew) (g := w.heap.size + 1) (by show (World.alloc _ _).heap[_]? = _; rw [alloc_get, if_pos (by simp)]) fc
  have lk2 := look_any (w := (((w.alloc (.cells #[.int .i64 fc, .int .i64 ad, .int .i64 qt, .slice A n c, .int .i64 to] 32)).alloc (.map E10 10)).alloc (.cells #[.int .i64 0, .int .i64 0, .int .i64 0, .bool false] 144)).drew) (g := w.heap.size + 1) (by show (World.alloc _ _).heap[_]? = _; rw [alloc_get, if_neg (by simp), alloc_get, if_pos (by simp)]) fc
  have lk3 := look_any (w := (((w.alloc (.cells #[.int .i64 fc, .int .i64 ad, .int .i64 qt, .slice A n c, .int .i64 to] 32)).alloc (.cells #[.int .i64 0, .int .i64 0, .int .i64 0, .bool false] 144)).alloc (.map E10 10)).drew) (g := w.heap.size + 1 + 1) (by show (World.alloc _ _).heap[_]? = _; rw [alloc_get, if_pos (by simp)]) fc
  rw [hv, hs] at lk1 lk2 lk3
  rw [show (some s).isSome = true from rfl] at lk1 lk2 lk3
  have hp := Lib.hid (holds_parts (s := s) (ad := ad) (qt := qt) (to := to) (xs := xs))
  have hc := fun w' (E : Ext w w') => holds_any s fc ad qt to A n c w.heap.size xs w' (hx.below E) E.size hn hf.1 hf.2.1
  have hd := fun w' (E : Ext w w') h => coded_any s fc fc ad qt to hs A n c xs w' (hx.ext E) hr h
  have hf' := Lib.hid hf
  clear hv hs hf
  obtain ⟨f, q, v, b⟩ := s
  unfold Shape.val at lk1 lk2 lk3 hc hd
  dsimp only at lk1 lk2 lk3 hc hd
  have hd' := Lib.hid hd
  clear hd
  have E1 := (Ext.refl w).goA (.cells #[.int .i64 fc, .int .i64 ad, .int .i64 qt, .slice A n c, .int .i64 to] 32)
  have F1 := Ext.refl (w.alloc (.cells #[.int .i64 fc, .int .i64 ad, .int .i64 qt, .slice A n c, .int .i64 to] 32))
  have hlen := Lib.hid hx.len
  generalize hL : (if (holdsB ⟨f, q, v, b⟩ ad qt to xs && fitsB ad qt to n) = true then codedL ⟨f, q, v, b⟩ fc ad qt to xs else []) = L
  have hL' := Lib.hid hL
  clear hL
  have hr' := Lib.hid hr
  clear hr
  have hc' := Lib.hid hc
  clear hc
  go_enter Try.func118, Try.ntmps118
  go_wp2_with fail
  go_region_law
    (first
      | (go_simp
         go_at_call 100
         refine (shapes_any _).mono ?_
         rintro e w1 ⟨rfl, rfl⟩
         dsimp only))
  all_goals
    go_wp2_with fail
    refine (hc'.out _ (by first | exact ((E1.goA _).goA _).god)).mono ?_
    rintro e w2 ⟨rfl, D2⟩
    cases hh : holdsB ⟨f, q, v, b⟩ ad qt to xs
    · go_wp2_with fail
      go_ret
      have hL := hL'.out
      rw [hh, Bool.false_and, if_neg (by decide)] at hL
      subst hL
      exact ⟨_, _, _, rfl, Nat.le_refl _, by decide, RdI.nil _, (((E1.goA _).goA _).god).go D2⟩
    · obtain ⟨⟨a0, a1⟩, ⟨t0, t1⟩, ⟨q0, q1⟩, _, _, _⟩ := hp.out hh
      have bx := cellsAt (((((F1.goA _).goA _).god).go D2).block w.heap.size (by simp) |>.trans (heap_alloc_new w _))
      have q2 : qt ≤ 65535 := by have := hf'.out.2.2.1; have q1 : qt ≤ q := q1; have this : q ≤ 2000 := this; omega
      have n2 : n ≤ 65536 := by have := holds_len hf'.out hh; have := hlen.out; omega
      go_wp2_with fail
      refine (fits_any fc ad qt to A n c w2 a0 (by omega) t0 (by omega) q0 q2 n2).mono ?_
      rintro e w3 ⟨rfl, D3⟩
      have hL := hL'.out
      rw [hh, Bool.true_and] at hL
      have hL' := Lib.hid hL
      clear hL
      cases hb : fitsB ad qt to n
      · go_wp2_with fail
        go_ret
        have hL := hL'.out
        rw [hb, if_neg (by decide)] at hL
        subst hL
        exact ⟨_, _, _, rfl, Nat.le_refl _, by decide, RdI.nil _, ((((E1.goA _).goA _).god).go D2).go D3⟩
      · have bx3 := cellsAt ((((((F1.goA _).goA _).god).go D2).go D3).block w.heap.size (by simp) |>.trans (heap_alloc_new w _))
        have sy3 := fun a cs (h : _ = some (Obj.cells cs 144 (0, 0))) ha => cellsAt ((D2.go D3).block a ha |>.trans h)
        first
          | (refine have_then (sy3 (w.heap.size + 1) #[.int .i64 f, .int .i64 q, .int .i64 v, .bool b] ?_ ?_) (fun sx3 => ?_)
             · show (World.alloc _ _).heap[_]? = _
               rw [alloc_get, if_neg (by simp), alloc_get, if_pos (by simp)]
             · simp)
          | (refine have_then (sy3 (w.heap.size + 1 + 1) #[.int .i64 f, .int .i64 q, .int .i64 v, .bool b] ?_ ?_) (fun sx3 => ?_)
             · show (World.alloc _ _).heap[_]? = _
               rw [alloc_get, if_pos (by simp)]
             · simp)
        clear sy3
        go_wp2_with fail
        refine (hd'.out w3 (((((E1.goA _).goA _).god).go D2).go D3) hh).mono ?_
        rintro e w4 ⟨A', n', c', rfl, g1, g2, g3, D4⟩
        go_wp2_with fail
        go_ret
        have hL := hL'.out
        rw [hb, if_pos rfl] at hL
        subst hL
        exact ⟨_, _, _, rfl, g1, g2, g3, (((((E1.goA _).goA _).god).go D2).go D3).go D4⟩
def putL (fc ad qt to : Int) (xs : List Int) : List Int := match shapeOf fc with | some s => if holdsB s ad qt to xs && fitsB ad qt to xs.length then codedL s fc ad qt to xs else [] | none => []
theorem pduPut_any (fc ad qt to : Int) (A : Option Addr) (n c : Nat) (xs : List Int) (w : World) (hx : RdI w w.heap.size .u16 A n xs) (hr : ∀ j : Nat, 0 ≤ xs[j]?.getD 0 ∧ xs[j]?.getD 0 ≤ 65535) (hn : n ≤ maxLen) :
    Calls Try.prog 118 #[.agg #[.int .i64 fc, .int .i64 ad, .int .i64 qt, .slice A n c, .int .i64 to]] w (RetI .u8 (putL fc ad qt to xs) w) := by
  unfold putL
  cases hs : shapeOf fc with
  | none => exact put_none fc ad qt to A n c w hs
  | some s => dsimp only; rw [hx.len]; exact put_some s fc ad qt to A n c xs w hs hx hr hn
end Go.Proofs.Ytgeahfkhfpdlhaa
