/- The reference of layer 4: Right. (Printed by wip/gen/right04.py.) · The reference of layer 4: Put. · The references of layers 4 and 5: at, Unwords, Unbits, Alarm, Right. -/
import Derived.Test.YtgagpalffdgjnaaRef04Shape
import Derived.Test.YtgagpalffdgjnaaRef04ShapeOk
import Derived.Test.YtgagpalffdgjnaaRef04Bytes
import Derived.Test.YtgagpalffdgjnaaG10
import Derived.Test.YtgagpalffdgjnaaG11
namespace Go.Proofs.Ytgagpalffdgjnaa
open Go.RowKit

theorem place_false {x : Int} (h : placeB x = false) : x < 0 ∨ 65536 ≤ x := by unfold placeB at h; simp at h; omega
theorem place_true {x : Int} (h : placeB x = true) : 0 ≤ x ∧ x ≤ 65535 := by unfold placeB at h; simp at h; omega
theorem holds_out1 (s : Shape) (ad qt to : Int) (xs : List Int) (h : ad < 0 ∨ 65536 ≤ ad ∨ to < 0 ∨ 65536 ≤ to ∨ qt < 0 ∨ s.qty < qt) : holdsB s ad qt to xs = false := by unfold holdsB; rw [if_pos h]
theorem holds_out2 (s : Shape) (ad qt to : Int) (xs : List Int) (h : ((qt == 0) != (s.form == 1)) = true ∨ (s.form ≠ 3 ∧ to ≠ 0)) : holdsB s ad qt to xs = false := by
  unfold holdsB
  split <;> first | rfl | rw [if_pos h]
theorem holds_in (s : Shape) (ad qt to : Int) (xs : List Int) (ha : placeB ad = true) (ht : placeB to = true) (hz : s.form ≠ 3 → to = 0) (h1 : s.form = 1 → qt = 0) (h2 : s.form ≠ 1 → 1 ≤ qt) (h3 : 0 ≤ qt ∧ qt ≤ s.qty) :
    holdsB s ad qt to xs = if s.form = 0 then xs.length == 0 else if s.form = 1 then ((xs.length : Int) == s.vals) && valuesB s.bits xs else if s.form = 2 then ((xs.length : Int) == qt) && valuesB s.bits xs else decide (1 ≤ (xs.length : Int)) && decide ((xs.length : Int) ≤ s.vals) := by
  have a := place_true ha
  have t := place_true ht
  have hq : ((qt == 0) != (s.form == 1)) = false := by
    by_cases hf : s.form = 1
    · rw [h1 hf, hf]; rfl
    · have := h2 hf
      have e1 : (qt == 0) = false := by simp; omega
      have e2 : (s.form == 1) = false := by simp; exact hf
      rw [e1, e2]; rfl
  unfold holdsB
  rw [if_neg (by omega), if_neg (by rw [hq]; rintro (h | h); exact absurd h (by decide); exact h.2 (hz h.1))]
def shapeHB (fc ad qt to : Int) (xs : List Int) : Bool := match shapeOf fc with | some s => holdsB s ad qt to xs | none => false
theorem shape_gen (fc ad qt to M : Int) (A : Option Addr) (n c : Nat) (xs : List Int) (w : World) (s : Shape) (hm : mostV fc = M) (h0 : M ≠ 0) (hsg : singleB fc = (s.form == 1)) (hf3 : fc = 23 ↔ s.form = 3) (hM : s.form ≠ 1 → M = s.qty)
    (hok : placeB ad = true → placeB to = true → (s.form ≠ 3 → to = 0) → (s.form = 1 → qt = 0) → (s.form ≠ 1 → 1 ≤ qt ∧ qt ≤ s.qty) → Calls Try.prog 60 #[.agg #[.int .i64 fc, .int .i64 ad, .int .i64 qt, .slice A n c, .int .i64 to]] w fun e w' => e = .returned (.bool (holdsB s ad qt to xs)) ∧ Ext w w') :
    Calls Try.prog 60 #[.agg #[.int .i64 fc, .int .i64 ad, .int .i64 qt, .slice A n c, .int .i64 to]] w fun e w' => e = .returned (.bool (holdsB s ad qt to xs)) ∧ Ext w w' := by
  cases ha : placeB ad
  · rw [holds_out1 s ad qt to xs (by have := place_false ha; omega)]
    exact shape_ad04 fc ad qt to M A n c w hm h0 ha
  cases ht : placeB to
  · rw [holds_out1 s ad qt to xs (by have := place_false ht; omega)]
    exact shape_to04 fc ad qt to M A n c w hm h0 ha ht
  by_cases hz : s.form ≠ 3 ∧ to ≠ 0
  · rw [holds_out2 s ad qt to xs (.inr hz)]
    exact shape_zero04 fc ad qt to M A n c w hm h0 ha ht (fun e => hz.1 (hf3.1 e)) hz.2
  have hz' : fc = 23 ∨ fc ≠ 23 ∧ to = 0 := by
    by_cases e : fc = 23
    · exact .inl e
    · exact .inr ⟨e, Classical.byContradiction fun h => hz ⟨fun h3 => e (hf3.2 h3), h⟩⟩
  by_cases hf : s.form = 1
  · by_cases hq : qt = 0
    · exact hok ha ht (fun h3 => Classical.byContradiction fun h => hz ⟨h3, h⟩) (fun _ => hq) (fun h => absurd hf h)
    · rw [holds_out2 s ad qt to xs (.inl (by rw [hf, show (qt == 0) = false by simp; exact hq]; rfl))]
      exact shape_single04 fc ad qt to M A n c w hm h0 ha ht hz' (by rw [hsg, hf]; rfl) hq
  · have hs : singleB fc = false := by rw [hsg]; simp; exact hf
    by_cases hq : qt < 1
    · have : holdsB s ad qt to xs = false := by
        by_cases h : qt < 0
        · exact holds_out1 s ad qt to xs (by omega)
        · obtain rfl : qt = 0 := by omega
          exact holds_out2 s ad 0 to xs (.inl (by rw [show (s.form == 1) = false by simp; exact hf]; rfl))
      rw [this]
      exact shape_low04 fc ad qt to M A n c w hm h0 ha ht hz' hs hq
    · by_cases hq2 : M < qt
      · rw [holds_out1 s ad qt to xs (by have := hM hf; omega)]
        exact shape_high04 fc ad qt to M A n c w hm h0 ha ht hz' hs (by omega) hq2
      · exact hok ha ht (fun h3 => Classical.byContradiction fun h => hz ⟨h3, h⟩) (fun h => absurd h hf) (fun _ => ⟨by omega, by have := hM hf; omega⟩)
theorem len_zero (n : Nat) : ((n : Int) == 0) = (n == 0) := by cases n <;> rfl
theorem shape04_any (fc ad qt to : Int) (A : Option Addr) (n c : Nat) (xs : List Int) (w : World) (hx : RdI w w.heap.size .u16 A n xs) (nm : n ≤ maxLen) :
    Calls Try.prog 60 #[.agg #[.int .i64 fc, .int .i64 ad, .int .i64 qt, .slice A n c, .int .i64 to]] w fun e w' => e = .returned (.bool (shapeHB fc ad qt to xs)) ∧ Ext w w' := by
  have hl := hx.len
  rcases fc_cases fc with h | rfl | rfl | rfl | rfl | rfl | rfl | rfl | rfl | rfl | rfl
  · have hm : mostV fc = 0 := by unfold mostV; rw [if_neg (by omega), if_neg (by omega), if_neg (by omega), if_neg (by omega), if_neg (by omega)]
    have hs : shapeOf fc = none := by
      unfold shapeOf
      rw [if_neg (by omega), if_neg (by omega), if_neg (by omega), if_neg (by omega), if_neg (by omega), if_neg (by omega), if_neg (by omega), if_neg (by omega), if_neg (by omega), if_neg (by omega)]
    unfold shapeHB
    rw [hs]
    exact shape_none04 fc ad qt to 0 A n c w hm rfl
  · refine shape_gen 1 ad qt to 2000 A n c xs w ⟨0, 2000, 0, true⟩ rfl (by decide) rfl (by decide) (fun _ => rfl) (fun ha ht hz h1 h2 => ?_)
    have e := holds_in ⟨0, 2000, 0, true⟩ ad qt to xs ha ht hz h1 (fun h => (h2 h).1) (by have := h2 (by decide); simp at this ⊢; omega)
    rw [e]
    clear e
    obtain rfl := hz (by decide)
    show Calls _ _ _ _ (fun e w' => e = .returned (.bool (xs.length == 0)) ∧ Ext w w')
    rw [hl, ← len_zero]
    exact shape_ok04_1 ad qt A n c w ha (h2 (by decide)).1 (h2 (by decide)).2
  · refine shape_gen 2 ad qt to 2000 A n c xs w ⟨0, 2000, 0, true⟩ rfl (by decide) rfl (by decide) (fun _ => rfl) (fun ha ht hz h1 h2 => ?_)
    have e := holds_in ⟨0, 2000, 0, true⟩ ad qt to xs ha ht hz h1 (fun h => (h2 h).1) (by have := h2 (by decide); simp at this ⊢; omega)
    rw [e]
    clear e
    obtain rfl := hz (by decide)
    show Calls _ _ _ _ (fun e w' => e = .returned (.bool (xs.length == 0)) ∧ Ext w w')
    rw [hl, ← len_zero]
    exact shape_ok04_2 ad qt A n c w ha (h2 (by decide)).1 (h2 (by decide)).2
  · refine shape_gen 3 ad qt to 125 A n c xs w ⟨0, 125, 0, false⟩ rfl (by decide) rfl (by decide) (fun _ => rfl) (fun ha ht hz h1 h2 => ?_)
    have e := holds_in ⟨0, 125, 0, false⟩ ad qt to xs ha ht hz h1 (fun h => (h2 h).1) (by have := h2 (by decide); simp at this ⊢; omega)
    rw [e]
    clear e
    obtain rfl := hz (by decide)
    show Calls _ _ _ _ (fun e w' => e = .returned (.bool (xs.length == 0)) ∧ Ext w w')
    rw [hl, ← len_zero]
    exact shape_ok04_3 ad qt A n c w ha (h2 (by decide)).1 (h2 (by decide)).2
  · refine shape_gen 4 ad qt to 125 A n c xs w ⟨0, 125, 0, false⟩ rfl (by decide) rfl (by decide) (fun _ => rfl) (fun ha ht hz h1 h2 => ?_)
    have e := holds_in ⟨0, 125, 0, false⟩ ad qt to xs ha ht hz h1 (fun h => (h2 h).1) (by have := h2 (by decide); simp at this ⊢; omega)
    rw [e]
    clear e
    obtain rfl := hz (by decide)
    show Calls _ _ _ _ (fun e w' => e = .returned (.bool (xs.length == 0)) ∧ Ext w w')
    rw [hl, ← len_zero]
    exact shape_ok04_4 ad qt A n c w ha (h2 (by decide)).1 (h2 (by decide)).2
  · refine shape_gen 5 ad qt to 1 A n c xs w ⟨1, 0, 1, true⟩ rfl (by decide) rfl (by decide) (fun _ => by contradiction) (fun ha ht hz h1 h2 => ?_)
    have e := holds_in ⟨1, 0, 1, true⟩ ad qt to xs ha ht hz h1 (fun h => (h2 h).1) (by have := h1 rfl; simp; omega)
    rw [e]
    clear e
    obtain rfl := hz (by decide)
    obtain rfl := h1 rfl
    show Calls _ _ _ _ (fun e w' => e = .returned (.bool (((xs.length : Int) == 1) && valuesB true xs)) ∧ Ext w w')
    rw [hl]
    exact shape_ok04_5 ad A n c xs w hx nm ha
  · refine shape_gen 6 ad qt to 1 A n c xs w ⟨1, 0, 1, false⟩ rfl (by decide) rfl (by decide) (fun _ => by contradiction) (fun ha ht hz h1 h2 => ?_)
    have e := holds_in ⟨1, 0, 1, false⟩ ad qt to xs ha ht hz h1 (fun h => (h2 h).1) (by have := h1 rfl; simp; omega)
    rw [e]
    clear e
    obtain rfl := hz (by decide)
    obtain rfl := h1 rfl
    show Calls _ _ _ _ (fun e w' => e = .returned (.bool (((xs.length : Int) == 1) && valuesB false xs)) ∧ Ext w w')
    rw [hl]
    rw [show valuesB false xs = true from rfl, Bool.and_true]
    exact shape_ok04_6 ad A n c w ha
  · refine shape_gen 15 ad qt to 1968 A n c xs w ⟨2, 1968, 0, true⟩ rfl (by decide) rfl (by decide) (fun _ => rfl) (fun ha ht hz h1 h2 => ?_)
    have e := holds_in ⟨2, 1968, 0, true⟩ ad qt to xs ha ht hz h1 (fun h => (h2 h).1) (by have := h2 (by decide); simp at this ⊢; omega)
    rw [e]
    clear e
    obtain rfl := hz (by decide)
    show Calls _ _ _ _ (fun e w' => e = .returned (.bool (((xs.length : Int) == qt) && valuesB true xs)) ∧ Ext w w')
    rw [hl]
    exact shape_ok04_15 ad qt A n c xs w hx nm ha (h2 (by decide)).1 (h2 (by decide)).2
  · refine shape_gen 16 ad qt to 123 A n c xs w ⟨2, 123, 0, false⟩ rfl (by decide) rfl (by decide) (fun _ => rfl) (fun ha ht hz h1 h2 => ?_)
    have e := holds_in ⟨2, 123, 0, false⟩ ad qt to xs ha ht hz h1 (fun h => (h2 h).1) (by have := h2 (by decide); simp at this ⊢; omega)
    rw [e]
    clear e
    obtain rfl := hz (by decide)
    show Calls _ _ _ _ (fun e w' => e = .returned (.bool (((xs.length : Int) == qt) && valuesB false xs)) ∧ Ext w w')
    rw [hl]
    rw [show valuesB false xs = true from rfl, Bool.and_true]
    exact shape_ok04_16 ad qt A n c w ha (h2 (by decide)).1 (h2 (by decide)).2
  · refine shape_gen 22 ad qt to 1 A n c xs w ⟨1, 0, 2, false⟩ rfl (by decide) rfl (by decide) (fun _ => by contradiction) (fun ha ht hz h1 h2 => ?_)
    have e := holds_in ⟨1, 0, 2, false⟩ ad qt to xs ha ht hz h1 (fun h => (h2 h).1) (by have := h1 rfl; simp; omega)
    rw [e]
    clear e
    obtain rfl := hz (by decide)
    obtain rfl := h1 rfl
    show Calls _ _ _ _ (fun e w' => e = .returned (.bool (((xs.length : Int) == 2) && valuesB false xs)) ∧ Ext w w')
    rw [hl]
    rw [show valuesB false xs = true from rfl, Bool.and_true]
    exact shape_ok04_22 ad A n c w ha
  · refine shape_gen 23 ad qt to 125 A n c xs w ⟨3, 125, 121, false⟩ rfl (by decide) rfl (by decide) (fun _ => rfl) (fun ha ht hz h1 h2 => ?_)
    have e := holds_in ⟨3, 125, 121, false⟩ ad qt to xs ha ht hz h1 (fun h => (h2 h).1) (by have := h2 (by decide); simp at this ⊢; omega)
    rw [e]
    clear e
    show Calls _ _ _ _ (fun e w' => e = .returned (.bool (decide (1 ≤ (xs.length : Int)) && decide ((xs.length : Int) ≤ 121))) ∧ Ext w w')
    rw [hl]
    exact shape_ok04_23 ad qt to A n c w ha ht (h2 (by decide)).1 (h2 (by decide)).2
/-- Do places end where they may, of a request that has what it should have? -/
theorem ends_fits {fc ad qt to : Int} {xs : List Int} (h : shapeHB fc ad qt to xs = true) : (decide (ad + (if singleB fc then 1 else qt) ≤ 65536) && ((fc != 23) || decide (to + (xs.length : Int) ≤ 65536))) = fitsB ad qt to xs.length := by
  unfold shapeHB at h
  cases hs : shapeOf fc with
  | none => rw [hs] at h; cases h
  | some s =>
    rw [hs] at h
    have hl := holds_len (shape_bounds hs) h
    obtain ⟨a, t, ⟨q0, q1⟩, hq, ht, f0, f1, f2, f3⟩ := holds_parts h
    have hmax : max qt 1 = (if singleB fc = true then 1 else qt) := by
      rcases shape_cases hs with ⟨rfl | rfl, rfl⟩ | ⟨rfl | rfl, rfl⟩ | ⟨rfl, rfl⟩ | ⟨rfl, rfl⟩ | ⟨rfl, rfl⟩ | ⟨rfl, rfl⟩ | ⟨rfl, rfl⟩ | ⟨rfl, rfl⟩
      all_goals
        first
          | (rw [if_neg (by decide)]; have h9 : ¬ qt = 0 := fun e => absurd (hq.1 e) (by decide); omega)
          | (rw [if_pos (by decide)]; have h9 : qt = 0 := hq.2 rfl; omega)
    have hsnd : ((fc != 23) || decide (to + (xs.length : Int) ≤ 65536)) = decide (to + (xs.length : Int) ≤ 65536) := by
      by_cases e : fc = 23
      · subst e; rfl
      · have e0 : to = 0 := by
          apply ht
          rcases shape_cases hs with ⟨e', rfl⟩ | ⟨e', rfl⟩ | ⟨e', rfl⟩ | ⟨e', rfl⟩ | ⟨e', rfl⟩ | ⟨e', rfl⟩ | ⟨e', rfl⟩ | ⟨e', rfl⟩
          all_goals
            first
              | decide
              | exact absurd e' e
        have e1 : (fc != 23) = true := by simp; exact e
        have e2 : decide (to + (xs.length : Int) ≤ 65536) = true := by simp; omega
        rw [e1, e2]; rfl
    unfold fitsB
    rw [hmax, hsnd]
set_option maxRecDepth 100000 in
set_option maxHeartbeats 1600000 in
theorem ends04_any (fc ad qt to : Int) (A : Option Addr) (n c : Nat) (w : World) (ha : 0 ≤ ad ∧ ad ≤ 65535) (ht : 0 ≤ to ∧ to ≤ 65535) (hq : 0 ≤ qt ∧ qt ≤ 65535) (hn : n ≤ 65535) :
    Calls Try.prog 61 #[.agg #[.int .i64 fc, .int .i64 ad, .int .i64 qt, .slice A n c, .int .i64 to]] w fun e w' => e = .returned (.bool (decide (ad + (if singleB fc then 1 else qt) ≤ 65536) && ((fc != 23) || decide (to + (n : Int) ≤ 65536)))) ∧ Ext w w' := by
  have bq : ∀ w', Ext (w.alloc (.cells #[.int .i64 fc, .int .i64 ad, .int .i64 qt, .slice A n c, .int .i64 to] 30)) w' → ∀ o, w'.cell? ⟨w.heap.size, o, none⟩ = _ := fun w' D => cellsAt ((D.block w.heap.size (by simp)).trans (heap_alloc_new w _))
  have E0 := (Ext.refl w).goA (.cells #[.int .i64 fc, .int .i64 ad, .int .i64 qt, .slice A n c, .int .i64 to] 30)
  have w1 : IntKind.i64.wrap (ad + qt) = ad + qt := by rw [IntKind.wrap_i64]; omega
  have w2 : IntKind.i64.wrap (ad + 1) = ad + 1 := by rw [IntKind.wrap_i64]; omega
  have w3 : IntKind.i64.wrap (to + (n : Int)) = to + n := by rw [IntKind.wrap_i64]; omega
  have bq' := Lib.hid bq
  clear ha ht hq hn bq
  generalize hN : (if singleB fc = true then (1 : Int) else qt) = N
  have hN' := Lib.hid hN
  clear hN
  cases hs : singleB fc
  · have hN := hN'.out
    rw [hs, if_neg (by decide)] at hN
    subst hN
    cases t1 : decide (ad + qt ≤ 65536)
    · go_enter Try.func61, Try.ntmps61
      go_wp2_with fail
      refine (single_any fc _).mono ?_
      rw [hs]
      rintro e w1 ⟨rfl, rfl⟩
      go_wp2_with fail
      go_ret
      exact ⟨rfl, E0⟩
    · cases t2 : (fc != 23)
      · have t3 : (fc == 23) = true := by simpa using t2
        go_enter Try.func61, Try.ntmps61
        go_wp2_with fail
        refine (single_any fc _).mono ?_
        rw [hs]
        rintro e w1 ⟨rfl, rfl⟩
        go_wp2_with fail
        go_ret
        exact ⟨rfl, E0⟩
      · have t3 : (fc == 23) = false := by simpa using t2
        go_enter Try.func61, Try.ntmps61
        go_wp2_with fail
        refine (single_any fc _).mono ?_
        rw [hs]
        rintro e w1 ⟨rfl, rfl⟩
        go_wp2_with fail
        go_ret
        exact ⟨rfl, E0⟩
  · have hN := hN'.out
    rw [hs, if_pos rfl] at hN
    subst hN
    cases t1 : decide (ad + 1 ≤ 65536)
    · go_enter Try.func61, Try.ntmps61
      go_wp2_with fail
      refine (single_any fc _).mono ?_
      rw [hs]
      rintro e w1 ⟨rfl, rfl⟩
      go_wp2_with fail
      go_ret
      exact ⟨rfl, E0⟩
    · cases t2 : (fc != 23)
      · have t3 : (fc == 23) = true := by simpa using t2
        go_enter Try.func61, Try.ntmps61
        go_wp2_with fail
        refine (single_any fc _).mono ?_
        rw [hs]
        rintro e w1 ⟨rfl, rfl⟩
        go_wp2_with fail
        go_ret
        exact ⟨rfl, E0⟩
      · have t3 : (fc == 23) = false := by simpa using t2
        go_enter Try.func61, Try.ntmps61
        go_wp2_with fail
        refine (single_any fc _).mono ?_
        rw [hs]
        rintro e w1 ⟨rfl, rfl⟩
        go_wp2_with fail
        go_ret
        exact ⟨rfl, E0⟩
theorem refRight_any (fc ad qt to : Int) (A : Option Addr) (n c : Nat) (xs : List Int) (w : World) (hx : RdI w w.heap.size .u16 A n xs) (nm : n ≤ maxLen) :
    Calls Try.prog 27 #[.agg #[.int .i64 fc, .int .i64 ad, .int .i64 qt, .slice A n c, .int .i64 to]] w fun e w' => e = .returned (.bool (rightB' fc ad qt to xs)) ∧ Ext w w' := by
  have bq : ∀ w', Ext (w.alloc (.cells #[.int .i64 fc, .int .i64 ad, .int .i64 qt, .slice A n c, .int .i64 to] 30)) w' → ∀ o, w'.cell? ⟨w.heap.size, o, none⟩ = _ := fun w' D => cellsAt ((D.block w.heap.size (by simp)).trans (heap_alloc_new w _))
  have E0 := (Ext.refl w).goA (.cells #[.int .i64 fc, .int .i64 ad, .int .i64 qt, .slice A n c, .int .i64 to] 30)
  have hx' := Lib.hid (hx.ext E0)
  have bq' := Lib.hid bq
  have hl := hx.len
  clear bq hx
  cases h : shapeHB fc ad qt to xs
  · have hR : rightB' fc ad qt to xs = false := by
      unfold shapeHB at h
      unfold rightB'
      cases hs : shapeOf fc with
      | none => rfl
      | some s => rw [hs] at h; dsimp only at h ⊢; rw [h]; rfl
    rw [hR]
    have h' := Lib.hid h
    clear hR h
    go_enter Try.func27, Try.ntmps27
    go_wp2_with fail
    refine (shape04_any fc ad qt to A n c xs _ hx'.out nm).mono ?_
    rw [h'.out]
    rintro e w1 ⟨rfl, D1⟩
    go_wp2_with fail
    go_ret
    exact ⟨rfl, E0.go D1⟩
  · have hE := ends_fits h
    have hR : rightB' fc ad qt to xs = fitsB ad qt to xs.length := by
      unfold shapeHB at h
      unfold rightB'
      cases hs : shapeOf fc with
      | none => rw [hs] at h; cases h
      | some s => rw [hs] at h; dsimp only at h ⊢; rw [h]; rfl
    obtain ⟨s, hs, hh⟩ : ∃ s, shapeOf fc = some s ∧ holdsB s ad qt to xs = true := by
      unfold shapeHB at h
      cases hs : shapeOf fc with
      | none => rw [hs] at h; cases h
      | some s => rw [hs] at h; exact ⟨s, rfl, h⟩
    have hlen := holds_len (shape_bounds hs) hh
    have hb := shape_bounds hs
    obtain ⟨ra, rt, rq, -⟩ := holds_parts hh
    rw [hR, ← hE, hl]
    have hnd := fun w' => ends04_any fc ad qt to A n c w' ra rt (by omega) (by omega)
    generalize (decide (ad + (if singleB fc then 1 else qt) ≤ 65536) && ((fc != 23) || decide (to + (n : Int) ≤ 65536))) = V at hnd ⊢
    have hnd' := Lib.hid hnd
    have h' := Lib.hid h
    clear hR hE h hh hs hlen hb ra rt rq hnd
    go_enter Try.func27, Try.ntmps27
    go_wp2_with fail
    refine (shape04_any fc ad qt to A n c xs _ hx'.out nm).mono ?_
    rw [h'.out]
    rintro e w1 ⟨rfl, D1⟩
    have b1 := bq'.out w1 D1
    go_wp2_with fail
    refine (hnd'.out w1).mono ?_
    rintro e w2 ⟨rfl, D2⟩
    go_wp2_with fail
    go_ret
    exact ⟨rfl, (E0.go D1).go D2⟩
end Go.Proofs.Ytgagpalffdgjnaa
namespace Go.Proofs.Ytgagpalffdgjnaa
open Go.RowKit

set_option maxRecDepth 100000 in
set_option maxHeartbeats 1600000 in
theorem refPut_any (fc ad qt to : Int) (A : Option Addr) (n c : Nat) (xs : List Int) (w : World) (hx : RdI w w.heap.size .u16 A n xs) (hr : ∀ j : Nat, 0 ≤ xs[j]?.getD 0 ∧ xs[j]?.getD 0 ≤ 65535) (hn : n ≤ maxLen) :
    Calls Try.prog 19 #[.agg #[.int .i64 fc, .int .i64 ad, .int .i64 qt, .slice A n c, .int .i64 to]] w (RetI .u8 (putL fc ad qt to xs) w) := by
  have W0 := heap_alloc_new w (.cells #[.int .i64 fc, .int .i64 ad, .int .i64 qt, .slice A n c, .int .i64 to] 30)
  have E0 := (Ext.refl w).goA (.cells #[.int .i64 fc, .int .i64 ad, .int .i64 qt, .slice A n c, .int .i64 to] 30)
  have bq : ∀ w', Ext (w.alloc (.cells #[.int .i64 fc, .int .i64 ad, .int .i64 qt, .slice A n c, .int .i64 to] 30)) w' → ∀ o, w'.cell? ⟨w.heap.size, o, none⟩ = _ := fun w' D => cellsAt ((D.block w.heap.size (by simp)).trans W0)
  have hx' := Lib.hid hx
  have hr' := Lib.hid hr
  have bq' := Lib.hid bq
  clear hx hr bq W0
  cases hq : rightB' fc ad qt to xs
  · have hL : putL fc ad qt to xs = [] := by
      unfold rightB' at hq
      unfold putL
      cases hs : shapeOf fc with
      | none => rfl
      | some s => rw [hs] at hq; dsimp only at hq ⊢; rw [hq, if_neg (by decide)]
    have hL' := Lib.hid hL
    have hq' := Lib.hid hq
    clear hL hq
    go_enter Try.func19, Try.ntmps19
    go_wp2_with fail
    refine (refRight_any fc ad qt to A n c xs _ (hx'.out.ext E0) hn).mono ?_
    rw [hq'.out]
    rintro e w1 ⟨rfl, D1⟩
    go_wp2_with fail
    go_ret
    rw [hL'.out]
    exact ⟨_, _, _, rfl, Nat.le_refl _, by decide, RdI.nil _, E0.go D1⟩
  · obtain ⟨s, hs, g1, g2⟩ := right_parts hq
    have hL : putL fc ad qt to xs = codedL s fc ad qt to xs := by unfold putL; rw [hs]; dsimp only; rw [g1, g2, Bool.and_self, if_pos rfl]
    have hL' := Lib.hid hL
    have hq' := Lib.hid hq
    have hs' := Lib.hid hs
    have g1' := Lib.hid g1
    clear hL hq hs g1 g2
    go_enter Try.func19, Try.ntmps19
    go_wp2_with fail
    refine (refRight_any fc ad qt to A n c xs _ (hx'.out.ext E0) hn).mono ?_
    rw [hq'.out]
    rintro e w1 ⟨rfl, D1⟩
    have q1 := bq'.out w1 D1
    have E1 := E0.go D1
    go_wp2_with fail
    refine (refBytes_any s fc ad qt to hs'.out A n c xs _ (hx'.out.ext E1) hr'.out g1'.out).mono ?_
    rintro e w2 ⟨A2, n2, c2, rfl, g2, g2', r2, D2⟩
    go_wp2_with fail
    go_ret
    rw [hL'.out]
    exact ⟨_, _, _, rfl, g2, g2', r2, E1.go D2⟩
end Go.Proofs.Ytgagpalffdgjnaa
namespace Go.Proofs.Ytgagpalffdgjnaa
open Go.RowKit

set_option maxRecDepth 100000 in
set_option maxHeartbeats 1600000 in
theorem refAt_any (A : Option Addr) (a m c B : Nat) (l : List Int) (w : World) (hx : RdI w B .u8 A m l) (hl : ByteL l) (ha : a ≤ 1048576) (hm : m ≤ maxLen) :
    Calls Try.prog 106 #[.slice A m c, .int .i64 a] w fun e w' => e = .returned (.int .i64 (wordAt l a)) ∧ ∃ k, w' = w.drewN k := by
  unfold maxLen at hm
  have hlen := Lib.hid hx.len
  by_cases hn : m < a + 2
  · have hw : wordAt l a = 0 := by unfold wordAt; rw [hlen.out, if_pos hn]
    have t1 : decide ((m : Int) ≤ (a : Int) + 1) = true := by simp; omega
    rw [hw]
    clear hx hw
    go_enter Try.func106, Try.ntmps106
    go_wp2_with fail
    go_ret
    exact ⟨rfl, 0, rfl⟩
  · have hw : wordAt l a = 256 * l.getD a 0 + l.getD (a + 1) 0 := by unfold wordAt; rw [hlen.out, if_neg hn]
    have t1 : decide ((m : Int) ≤ (a : Int) + 1) = false := by simp; omega
    obtain ⟨b, o, rfl, hb, c1⟩ := hx.at_ (j := a) (by omega)
    obtain ⟨b', o', e, _, c2⟩ := hx.at_ (j := a + 1) (by omega)
    injection e with e; injection e with e1 e2; subst e1; subst e2
    clear hx
    have d1 := hl a
    have d2 := hl (a + 1)
    rw [← List.getD_eq_getElem?_getD] at d1 d2
    rw [hw]
    generalize l.getD a 0 = x at *
    generalize l.getD (a + 1) 0 = y at *
    have u1 : IntKind.i64.wrap (a : Int) = a := by rw [IntKind.wrap_i64]; omega
    have u2 : IntKind.i64.wrap ((a : Int) + 1) = (a : Int) + 1 := by rw [IntKind.wrap_i64]; omega
    have u3 : IntKind.i64.wrap x = x := by rw [IntKind.wrap_i64]; omega
    have u4 : IntKind.i64.wrap (256 * x) = 256 * x := by rw [IntKind.wrap_i64]; omega
    have u5 : IntKind.i64.wrap y = y := by rw [IntKind.wrap_i64]; omega
    have u6 : IntKind.i64.wrap (256 * x + y) = 256 * x + y := by rw [IntKind.wrap_i64]; omega
    have g1 : (a : Int) < m := by omega
    have g2 : (a : Int) + 1 < m := by omega
    have g3 : (0 : Int) ≤ (a : Int) + 1 := by omega
    have g4 : a < m := by omega
    have g5 : a + 1 < m := by omega
    have q1 : decide ((a : Int) < m) = true := by simp; omega
    have q2 : decide ((a : Int) + 1 < m) = true := by simp; omega
    have q4 : decide (0 ≤ (a : Int) + 1) = true := by simp; omega
    clear hw hn
    go_enter Try.func106, Try.ntmps106
    go_wp2_with fail
    go_quiet (fail)
    go_wp2_with fail
    go_ret
    exact ⟨rfl, _, rfl⟩
def unwordsL (l : List Int) : List Int := wordsAt l 0 (l.length / 2)
set_option maxRecDepth 100000 in
set_option maxHeartbeats 1600000 in
theorem refUnwords_any (A : Option Addr) (m c B : Nat) (l : List Int) (w : World) (hx : RdI w B .u8 A m l) (hB : B ≤ w.heap.size) (hl : ByteL l) (hm : m ≤ 9000) :
    Calls Try.prog 73 #[.slice A m c] w (RetN .u16 (unwordsL l) w) := by
  have hlen := Lib.hid hx.len
  have hx' := Lib.hid hx
  have hl' := Lib.hid hl
  clear hx hl
  go_enter Try.func73, Try.ntmps73
  go_wp2
  go_loopw [3, 4] (fun u i wr => ∃ k : Nat, k ≤ m / 2 ∧ i = .int .i64 ((2 * k : Nat) : Int) ∧ wr.ownsRow w.heap.size 43 1 u k ((wordsAt l 0 k).map (Value.int .u16)) ∧ Ext w wr) (fun _ i _ => m - (intOf i).toNat)
  case atStart => exact ⟨0, by omega, rfl, World.ownsRow_nil w w.heap.size 43 1, Ext.refl _⟩
  case round =>
    obtain ⟨k, hk, rfl, own, hE⟩ := hrel
    have own' := Lib.hid own
    clear own
    by_cases hlt : k < m / 2
    · have hr := wordAt_range l hl'.out (2 * k)
      have hs := wordsAt_succ l 0 k
      rw [Nat.zero_add] at hs
      have hs' := Lib.hid hs
      have ww : IntKind.u16.wrap (wordAt l (2 * k)) = wordAt l (2 * k) := by rw [IntKind.wrap_u16]; omega
      have hcall := refAt_any A (2 * k) m c B l wr (hx'.out.keep fun b hb => hE.block b (by omega)) hl'.out (by omega) (by unfold maxLen; omega)
      generalize wordAt l (2 * k) = x at *
      have hcall' := Lib.hid hcall
      have t1 : decide (((2 * k : Nat) : Int) + 1 < m) = true := by simp; omega
      clear hs hcall
      go_wp2_with fail
      refine hcall'.out.mono ?_
      rintro e w1 ⟨rfl, n1, rfl⟩
      have own2 : (wr.drewN n1).ownsRow w.heap.size 43 1 u3 k _ := own'.out
      have hE2 := hE.goD n1
      go_wp2_with (at_builtin; refine wpList_appI rfl (.tmp 12) (.tmp 17) _ rfl Try.underlying28 info_u16 (own2.alloc _) rfl (RdI.one _ _ _ _) rfl (by omega) (by omega) (by have := hE2.size; simp at this; simp; omega) ?_; intro v' w2 hown1 hg1 hat1)
      go_roundw
      case rel =>
        refine ⟨k + 1, by omega, by go_num, ?_, (hE2.goA _).goG hg1 (fun i hi => (own2.lt i hi).1)⟩
        rw [hs'.out]
        exact hown1
      case measure => simp [intOf]; omega
    · obtain rfl : k = m / 2 := by omega
      have t1 : decide (((2 * (m / 2) : Nat) : Int) + 1 < m) = false := by simp; omega
      go_wp2_with fail
      go_ret
      obtain ⟨A', c', rfl, ⟨hc1, hc2⟩, r', hf⟩ := own_rdN own'.out
      unfold unwordsL
      rw [hlen.out]
      exact ⟨A', _, c', rfl, hc1, hc2, r', hE, hf⟩
theorem unbitsL_succ (bs : List Int) (k : Nat) : unbitsL bs (k + 1) = unbitsL bs k ++ [if k / 8 < bs.length then bs.getD (k / 8) 0 / 2 ^ (k % 8) % 2 else 0] := by
  unfold unbitsL; rw [List.range_succ, List.map_append]; rfl
set_option maxRecDepth 100000 in
set_option maxHeartbeats 1600000 in
theorem refUnbits_any (A : Option Addr) (m c B n : Nat) (l : List Int) (w : World) (hx : RdI w B .u8 A m l) (hB : B ≤ w.heap.size) (hl : ByteL l) (hm : m ≤ maxLen) (hn : n ≤ 65536) :
    Calls Try.prog 72 #[.slice A m c, .int .i64 n] w (RetN .u16 (unbitsL l n) w) := by
  unfold maxLen at hm
  have hlen := Lib.hid hx.len
  have hx' := Lib.hid hx
  have hl' := Lib.hid hl
  have t0 : decide (65536 < (n : Int)) = false := by simp; omega
  clear hx hl
  go_enter Try.func72, Try.ntmps72
  go_wp2
  go_loopw [5, 6] (fun u i wr => ∃ k : Nat, k ≤ n ∧ i = .int .i64 k ∧ wr.ownsRow w.heap.size 43 1 u k ((unbitsL l k).map (Value.int .u16)) ∧ Ext w wr) (fun _ i _ => n - (intOf i).toNat)
  case atStart => exact ⟨0, by omega, rfl, World.ownsRow_nil w w.heap.size 43 1, Ext.refl _⟩
  case round =>
    obtain ⟨k, hk, rfl, own, hE⟩ := hrel
    have own' := Lib.hid own
    clear own
    by_cases hlt : k < n
    · have hs := unbitsL_succ l k
      by_cases h8 : k / 8 < m
      · rw [hlen.out, if_pos h8] at hs
        obtain ⟨b, o, rfl, hb, c1⟩ := hx'.out.at_ h8
        have hc := (hE.cell (o + k / 8) (by omega)).trans c1
        have hr := hl'.out (k / 8)
        rw [← List.getD_eq_getElem?_getD] at hr
        generalize l.getD (k / 8) 0 = x at *
        have hs' := Lib.hid hs
        have t1 : decide ((k : Int) / 8 < m) = true := by simp; omega
        clear hs c1
        go_wp2_with (at_builtin; refine wpList_appI rfl (.tmp 30) (.tmp 32) _ rfl Try.underlying28 info_u16 (own'.out.alloc _) rfl (RdI.one _ _ _ _) rfl (by omega) (by omega) (by have := hE.size; simp; omega) ?_; intro v' w2 hown1 hg1 hat1)
        go_roundw
        case rel =>
          refine ⟨k + 1, by omega, by go_num, ?_, (hE.goA _).goG hg1 (fun i hi => (own'.out.lt i hi).1)⟩
          have hv : IntKind.u16.wrap ((x / 2 ^ (k % 8)).tmod 2) = x / 2 ^ (k % 8) % 2 := by
            have h0 : 0 ≤ x / 2 ^ (k % 8) := Int.ediv_nonneg hr.1 (Int.le_of_lt (Int.pow_pos (by omega)))
            rw [Int.tmod_eq_emod_of_nonneg h0, IntKind.wrap_u16]
            omega
          rw [hv] at hown1
          rw [hs'.out]
          exact hown1
        case measure => simp [intOf]; omega
      · rw [hlen.out, if_neg h8] at hs
        have hs' := Lib.hid hs
        have t1 : decide ((k : Int) / 8 < m) = false := by simp; omega
        clear hs
        go_wp2_with (at_builtin; refine wpList_appI rfl (.tmp 30) (.tmp 32) _ rfl Try.underlying28 info_u16 (own'.out.alloc _) rfl (RdI.one _ _ _ _) rfl (by omega) (by omega) (by have := hE.size; simp; omega) ?_; intro v' w2 hown1 hg1 hat1)
        go_roundw
        case rel =>
          refine ⟨k + 1, by omega, by go_num, ?_, (hE.goA _).goG hg1 (fun i hi => (own'.out.lt i hi).1)⟩
          rw [hs'.out]
          exact hown1
        case measure => simp [intOf]; omega
    · obtain rfl : k = n := by omega
      go_wp2
      go_ret
      obtain ⟨A', c', rfl, ⟨hc1, hc2⟩, r', hf⟩ := own_rdN own'.out
      exact ⟨A', _, c', rfl, hc1, hc2, r', hE, hf⟩
set_option maxRecDepth 100000 in
set_option maxHeartbeats 1600000 in
theorem refAlarm_any (A : Option Addr) (m c : Nat) (bs : List Int) (code : Int) (w : World) (hz : RdI w w.heap.size .u8 A m bs) :
    Calls Try.prog 66 #[.slice A m c, .int .i64 code] w (RetI .u8 (alarmL bs code) w) := by
  have e1 : ∀ x, bits .or .u8 x 128 = orHi x := fun _ => rfl
  have hl := hz.len
  by_cases h1 : code < 1
  · have hL : alarmL bs code = [] := if_neg (by unfold excB; simp; omega)
    have t1 : decide (code < 1) = true := by simp; omega
    rw [hL]
    clear hL
    go_enter Try.func66, Try.ntmps66
    go_wp2_with fail
    go_ret
    exact ⟨_, _, _, rfl, Nat.le_refl _, by decide, RdI.nil _, Ext.refl _⟩
  · have t1 : decide (code < 1) = false := by simp; omega
    by_cases h4 : 4 < code
    · have hL : alarmL bs code = [] := if_neg (by unfold excB; simp; omega)
      have t2 : decide (4 < code) = true := by simp; omega
      rw [hL]
      clear hL
      go_enter Try.func66, Try.ntmps66
      go_wp2_with fail
      go_ret
      exact ⟨_, _, _, rfl, Nat.le_refl _, by decide, RdI.nil _, Ext.refl _⟩
    · have hL : alarmL bs code = [orHi (bs.getD 0 0), code] := by
        unfold alarmL
        rw [if_pos (by unfold excB; simp; omega), show code % 256 = code by omega]
      have t2 : decide (4 < code) = false := by simp; omega
      rw [hL]
      clear hL
      rcases Nat.eq_zero_or_pos m with hm | hm
      · subst hm
        obtain rfl : bs = [] := List.length_eq_zero_iff.1 hl
        clear hz hl
        have e2 : bits .or .u8 0 128 = orHi 0 := rfl
        go_enter Try.func66, Try.ntmps66
        go_wp2_with fail
        go_ret
        refine ⟨_, _, _, rfl, Nat.le_refl _, by decide, ?_, (Ext.refl w).goA _⟩
        have := RdI.new (w := w) (e := 5) (k := .u8) [orHi 0, code] rfl rfl rfl
        rw [alloc_size]
        exact this
      · obtain ⟨bb, o, rfl, hbb, hc0⟩ := hz.at_ hm
        rw [Nat.add_zero] at hc0
        generalize bs.getD 0 0 = x at hc0 ⊢
        have t3 : decide (0 < m) = true := by simp; exact hm
        have t4 : (0 : Int) < m := by omega
        clear hz hl hm
        go_enter Try.func66, Try.ntmps66
        go_wp2_with fail
        go_ret
        refine ⟨_, _, _, rfl, Nat.le_refl _, by decide, ?_, (Ext.refl w).goA _⟩
        have := RdI.new (w := w) (e := 5) (k := .u8) [orHi x, code] rfl rfl rfl
        rw [alloc_size]
        exact this
end Go.Proofs.Ytgagpalffdgjnaa
