
/- Layer 4, the walks: the request of bytes. -/
import Derived.Test.YtgeahfkhfpdlhaaPduRight
import Derived.Test.YtgeahfkhfpdlhaaPduCoded4
import Derived.Test.YtgeahfkhfpdlhaaPduTakenAny
import Derived.Test.YtgeahfkhfpdlhaaPduEq
namespace Go.Proofs.Ytgeahfkhfpdlhaa
open Go.RowKit

/-- What bytes are answered by: a request, and an exception or 0. -/
def GetPost (fc ad qt to : Int) (xs : List Int) (code : Int) (w : World) (e : Ending) (w' : World) : Prop :=
  ∃ A n c, e = .returned (.tuple #[.agg #[.int .i64 fc, .int .i64 ad, .int .i64 qt, .slice A n c, .int .i64 to], .int .i64 code]) ∧ n ≤ c ∧ c ≤ maxLen ∧ RdI w' w'.heap.size .u16 A n xs ∧ Ext w w' ∧ ∀ b o, A = some ⟨b, o, none⟩ → w.heap.size ≤ b

theorem zero_far {w : World} {g C n : Nat} {t : TypeId} {A : Option Addr} {L : List Int} (h : w.heap[g]? = some (.cells #[.int .i64 0, .int .i64 0, .int .i64 0, .slice none 0 0, .int .i64 0] t (0, 0))) (r : RdI w C .u16 A n L) : 0 < n → ∀ b o, A = some ⟨b, o, none⟩ → b ≠ g := by
  intro hn b o e hb
  obtain ⟨b', o', e', _, hc⟩ := r.2 hn
  rw [e] at e'; injection e' with e'; injection e' with e1 e2
  subst e1 e2 hb
  have h0 := hc 0 hn
  rw [Nat.add_zero, cellsAt h o] at h0
  rcases o with _ | _ | _ | _ | _ | o <;> simp at h0
set_option maxRecDepth 100000 in
set_option maxHeartbeats 1600000 in
theorem get_empty (A : Option Addr) (c : Nat) (w : World) :
    Calls Try.prog 93 #[.slice A 0 c] w (GetPost 0 0 0 0 [] 1 w) := by
  have h0 : (w.alloc (.cells #[.int .i64 0, .int .i64 0, .int .i64 0, .slice none 0 0, .int .i64 0] 32)).heap[w.heap.size]? = some (.cells #[.int .i64 0, .int .i64 0, .int .i64 0, .slice none 0 0, .int .i64 0] 32 (0, 0)) := heap_alloc_new w _
  have E1 := (Ext.refl w).goA (.cells #[.int .i64 0, .int .i64 0, .int .i64 0, .slice none 0 0, .int .i64 0] 32)
  have h0' := Lib.hid h0
  clear h0
  go_enter Try.func93, Try.ntmps93
  go_wp2_with fail
  have z := cellsAt h0'.out
  refine bodyPost_ret (v := .tuple #[.agg #[.int .i64 0, .int .i64 0, .int .i64 0, .slice none 0 0, .int .i64 0], .int .i64 1]) (by simp [results, Try.results93, go_sem, z]) rfl ?_
  exact ⟨_, _, _, rfl, Nat.le_refl _, by decide, RdI.nil _, E1, fun b o e => (nomatch e)⟩
set_option maxRecDepth 100000 in
set_option maxHeartbeats 1600000 in
theorem get_none (A : Option Addr) (n c : Nat) (l : List Int) (w : World) (hx : RdI w w.heap.size .u8 A n l) (hl : ByteL l) (hn : 0 < n) (hs : shapeOf (l.getD 0 0) = none) :
    Calls Try.prog 93 #[.slice A n c] w (GetPost 0 0 0 0 [] 1 w) := by
  have hv : lookV (l.getD 0 0) = shapeZero := by unfold lookV; rw [hs]
  have lk1 := look_any (w := ((w.alloc (.cells #[.int .i64 0, .int .i64 0, .int .i64 0, .slice none 0 0, .int .i64 0] 32)).alloc (.map E10 10)).drew) (g := w.heap.size + 1) (by show (World.alloc _ _).heap[_]? = _; rw [alloc_get, if_pos (by simp)]) (l.getD 0 0)
  have lk2 := look_any (w := (((w.alloc (.cells #[.int .i64 0, .int .i64 0, .int .i64 0, .slice none 0 0, .int .i64 0] 32)).alloc (.map E10 10)).alloc (.cells #[.int .i64 0, .int .i64 0, .int .i64 0, .bool false] 144)).drew) (g := w.heap.size + 1) (by show (World.alloc _ _).heap[_]? = _; rw [alloc_get, if_neg (by simp), alloc_get, if_pos (by simp)]) (l.getD 0 0)
  have lk3 := look_any (w := (((w.alloc (.cells #[.int .i64 0, .int .i64 0, .int .i64 0, .slice none 0 0, .int .i64 0] 32)).alloc (.cells #[.int .i64 0, .int .i64 0, .int .i64 0, .bool false] 144)).alloc (.map E10 10)).drew) (g := w.heap.size + 1 + 1) (by show (World.alloc _ _).heap[_]? = _; rw [alloc_get, if_pos (by simp)]) (l.getD 0 0)
  rw [hv, hs] at lk1 lk2 lk3
  unfold shapeZero at lk1 lk2 lk3
  rw [show (none : Option Shape).isSome = false from rfl] at lk1 lk2 lk3
  have E1 := (Ext.refl w).goA (.cells #[.int .i64 0, .int .i64 0, .int .i64 0, .slice none 0 0, .int .i64 0] 32)
  have F1 := Ext.refl (w.alloc (.cells #[.int .i64 0, .int .i64 0, .int .i64 0, .slice none 0 0, .int .i64 0] 32))
  have zA := Lib.hid (cellsAt (((((F1.goA (.map E10 10)).goA (.cells #[.int .i64 0, .int .i64 0, .int .i64 0, .bool false] 144)).god).block w.heap.size (by simp)).trans (heap_alloc_new w _)))
  have zB := Lib.hid (cellsAt (((((F1.goA (.cells #[.int .i64 0, .int .i64 0, .int .i64 0, .bool false] 144)).goA (.map E10 10)).god).block w.heap.size (by simp)).trans (heap_alloc_new w _)))
  obtain ⟨bb, o, rfl, hb, hc⟩ := hx.at_ hn
  rw [Nat.add_zero] at hc
  have c0 := (E1.cell o hb).trans hc
  have c1 := ((E1.goA (.map E10 10)).cell o hb).trans hc
  have c2 := ((E1.goA (.cells #[.int .i64 0, .int .i64 0, .int .i64 0, .bool false] 144)).cell o hb).trans hc
  have c3 := (((E1.goA (.map E10 10)).goA (.cells #[.int .i64 0, .int .i64 0, .int .i64 0, .bool false] 144)).cell o hb).trans hc
  have c4 := (((E1.goA (.cells #[.int .i64 0, .int .i64 0, .int .i64 0, .bool false] 144)).goA (.map E10 10)).cell o hb).trans hc
  have x0 := hl 0
  rw [← List.getD_eq_getElem?_getD] at x0
  generalize l.getD 0 0 = x at lk1 lk2 lk3 hc x0 c0 c1 c2 c3 c4
  have x1 : IntKind.i64.wrap x = x := by rw [IntKind.wrap_i64]; omega
  have h1 : (0 : Int) < n := by omega
  have h2 : ((n : Int) == 0) = false := by simp; omega
  clear hv hs hx hl
  go_enter Try.func93, Try.ntmps93
  go_wp2_with fail
  go_region_law
    (first
      | (go_simp
         go_at_call 100
         refine (shapes_any _).mono ?_
         rintro e w1 ⟨rfl, rfl⟩
         dsimp only))
  all_goals
    go_wp2_with fail
    have z1 := zA.out
    have z2 := zB.out
    refine bodyPost_ret (v := .tuple #[.agg #[.int .i64 0, .int .i64 0, .int .i64 0, .slice none 0 0, .int .i64 0], .int .i64 1]) (by simp [results, Try.results93, go_sem, z1, z2]) rfl ?_
    exact ⟨_, _, _, rfl, Nat.le_refl _, by decide, RdI.nil _, ((E1.goA _).goA _).god, fun b o e => (nomatch e)⟩
set_option maxRecDepth 100000 in
set_option maxHeartbeats 3200000 in
theorem get_walk (f q v : Int) (b : Bool) (x ad qt to : Int) (L C : List Int) (vh ve vf : Bool) (A : Option Addr) (n c : Nat) (l : List Int) (w : World) (P : Ending → World → Prop) (hs : shapeOf x = some ⟨f, q, v, b⟩)
    (hx : RdI w w.heap.size .u8 A n l) (hn : 0 < n) (ex : l.getD 0 0 = x) (x0 : 0 ≤ x ∧ x ≤ 255)
    (ht : ∀ w', Ext w w' → Calls Try.prog 113 #[.agg #[.int .i64 f, .int .i64 q, .int .i64 v, .bool b], .slice A n c] w' (TakenPost x ad qt to L w'))
    (hh : ∀ (A' : Option Addr) (n' c' B : Nat) (w' : World), RdI w' B .u16 A' n' L → B ≤ w'.heap.size → n' ≤ maxLen → Calls Try.prog 101 #[.agg #[.int .i64 f, .int .i64 q, .int .i64 v, .bool b], .agg #[.int .i64 x, .int .i64 ad, .int .i64 qt, .slice A' n' c', .int .i64 to]] w' fun e w2 => e = .returned (.bool vh) ∧ Ext w' w2)
    (hd : vh = true → ∀ (A' : Option Addr) (n' c' : Nat) (w' : World), RdI w' w'.heap.size .u16 A' n' L → Calls Try.prog 115 #[.agg #[.int .i64 f, .int .i64 q, .int .i64 v, .bool b], .agg #[.int .i64 x, .int .i64 ad, .int .i64 qt, .slice A' n' c', .int .i64 to]] w' (RetI .u8 C w'))
    (he : vh = true → ∀ (A2 : Option Addr) (n2 c2 : Nat) (w' : World), Ext w w' → RdI w' w'.heap.size .u8 A2 n2 C → Calls Try.prog 114 #[.slice A2 n2 c2, .slice A n c] w' fun e w2 => e = .returned (.bool ve) ∧ Ext w' w2)
    (hf : vh = true → ∀ (A' : Option Addr) (n' c' : Nat) (w' : World), L.length = n' → Calls Try.prog 102 #[.agg #[.int .i64 x, .int .i64 ad, .int .i64 qt, .slice A' n' c', .int .i64 to]] w' fun e w2 => e = .returned (.bool vf) ∧ Ext w' w2)
    (hP1 : (vh && ve) = false → ∀ e w', GetPost 0 0 0 0 [] 3 w e w' → P e w')
    (hP2 : (vh && ve) = true → vf = false → ∀ e w', GetPost 0 0 0 0 [] 2 w e w' → P e w')
    (hP3 : (vh && ve) = true → vf = true → ∀ e w', GetPost x ad qt to L 0 w e w' → P e w') :
    Calls Try.prog 93 #[.slice A n c] w P := by
  have hv : lookV x = (Shape.mk f q v b).val := by unfold lookV; rw [hs]
  have lk1 := look_any (w := ((w.alloc (.cells #[.int .i64 0, .int .i64 0, .int .i64 0, .slice none 0 0, .int .i64 0] 32)).alloc (.map E10 10)).drew) (g := w.heap.size + 1) (by show (World.alloc _ _).heap[_]? = _; rw [alloc_get, if_pos (by simp)]) x
  have lk2 := look_any (w := (((w.alloc (.cells #[.int .i64 0, .int .i64 0, .int .i64 0, .slice none 0 0, .int .i64 0] 32)).alloc (.map E10 10)).alloc (.cells #[.int .i64 0, .int .i64 0, .int .i64 0, .bool false] 144)).drew) (g := w.heap.size + 1) (by show (World.alloc _ _).heap[_]? = _; rw [alloc_get, if_neg (by simp), alloc_get, if_pos (by simp)]) x
  have lk3 := look_any (w := (((w.alloc (.cells #[.int .i64 0, .int .i64 0, .int .i64 0, .slice none 0 0, .int .i64 0] 32)).alloc (.cells #[.int .i64 0, .int .i64 0, .int .i64 0, .bool false] 144)).alloc (.map E10 10)).drew) (g := w.heap.size + 1 + 1) (by show (World.alloc _ _).heap[_]? = _; rw [alloc_get, if_pos (by simp)]) x
  rw [hv, hs] at lk1 lk2 lk3
  rw [show (some (Shape.mk f q v b)).isSome = true from rfl] at lk1 lk2 lk3
  unfold Shape.val at lk1 lk2 lk3
  dsimp only at lk1 lk2 lk3
  have E1 := (Ext.refl w).goA (.cells #[.int .i64 0, .int .i64 0, .int .i64 0, .slice none 0 0, .int .i64 0] 32)
  have F1 := Ext.refl (w.alloc (.cells #[.int .i64 0, .int .i64 0, .int .i64 0, .slice none 0 0, .int .i64 0] 32))
  have hx' := Lib.hid hx
  obtain ⟨bb, o, rfl, hb, hc⟩ := hx.at_ hn
  rw [Nat.add_zero, ex] at hc
  have c0 := (E1.cell o hb).trans hc
  have c1 := ((E1.goA (.map E10 10)).cell o hb).trans hc
  have c2 := ((E1.goA (.cells #[.int .i64 0, .int .i64 0, .int .i64 0, .bool false] 144)).cell o hb).trans hc
  have c3 := (((E1.goA (.map E10 10)).goA (.cells #[.int .i64 0, .int .i64 0, .int .i64 0, .bool false] 144)).cell o hb).trans hc
  have c4 := (((E1.goA (.cells #[.int .i64 0, .int .i64 0, .int .i64 0, .bool false] 144)).goA (.map E10 10)).cell o hb).trans hc
  have x1 : IntKind.i64.wrap x = x := by rw [IntKind.wrap_i64]; omega
  have h1 : (0 : Int) < n := by omega
  have h2 : ((n : Int) == 0) = false := by simp; omega
  have ht' := Lib.hid ht
  have hh' := Lib.hid hh
  have hd' := Lib.hid hd
  have he' := Lib.hid he
  have hf' := Lib.hid hf
  have hP1' := Lib.hid hP1
  have hP2' := Lib.hid hP2
  have hP3' := Lib.hid hP3
  clear hv hs hx ex x0 ht hh hd he hf hP1 hP2 hP3
  go_enter Try.func93, Try.ntmps93
  go_wp2_with fail
  go_region_law
    (first
      | (go_simp
         go_at_call 100
         refine (shapes_any _).mono ?_
         rintro e w1 ⟨rfl, rfl⟩
         dsimp only))
  all_goals
    clear lk1 lk2 lk3 c0 c1 c2 c3 c4 hc
    go_wp2_with fail
    refine (ht'.out _ ((E1.goA _).goA _).god).mono ?_
    rintro e w1 ⟨A', n', c', rfl, g1, g2, r1, D1, fr1⟩
    have E3 := (((E1.goA _).goA _).god).go D1
    have F3 := (((F1.goA _).goA _).god).go D1
    have hR := (F3.block w.heap.size (by simp)).trans (heap_alloc_new w _)
    have hS := fun a cs (h : _ = some (Obj.cells cs 144 (0, 0))) ha => (D1.block a ha).trans h
    first
      | (refine have_then (hS (w.heap.size + 1) #[.int .i64 f, .int .i64 q, .int .i64 v, .bool b] ?_ ?_) (fun sx => ?_)
         · show (World.alloc _ _).heap[_]? = _
           rw [alloc_get, if_neg (by simp), alloc_get, if_pos (by simp)]
         · simp)
      | (refine have_then (hS (w.heap.size + 1 + 1) #[.int .i64 f, .int .i64 q, .int .i64 v, .bool b] ?_ ?_) (fun sx => ?_)
         · show (World.alloc _ _).heap[_]? = _
           rw [alloc_get, if_pos (by simp)]
         · simp)
    clear hS
    have nm : n' ≤ maxLen := Nat.le_trans g1 g2
    have G4 := (Ext.refl w1).goA (.cells #[.int .i64 x, .int .i64 ad, .int .i64 qt, .slice A' n' c', .int .i64 to] 32)
    have E4 := E3.goA (.cells #[.int .i64 x, .int .i64 ad, .int .i64 qt, .slice A' n' c', .int .i64 to] 32)
    have s4 := cellsAt ((G4.block _ (lt_of_block sx)).trans sx)
    have hQ := heap_alloc_new w1 (.cells #[.int .i64 x, .int .i64 ad, .int .i64 qt, .slice A' n' c', .int .i64 to] 32)
    have hR' := Lib.hid ((G4.block _ (lt_of_block hR)).trans hR)
    have sx' := Lib.hid ((G4.block _ (lt_of_block sx)).trans sx)
    have hQ' := Lib.hid hQ
    clear hR sx hQ
    go_wp2_with fail
    refine (hh'.out A' n' c' w1.heap.size _ (r1.alloc (Nat.le_refl _) _) (by simp) nm).mono ?_
    rintro e w2 ⟨rfl, D2⟩
    have r2 := (r1.ext G4).ext D2
    have R2 := (D2.block _ (lt_of_block hR'.out)).trans hR'.out
    have Q2 := (D2.block _ (lt_of_block hQ'.out)).trans hQ'.out
    have S2 := (D2.block _ (lt_of_block sx'.out)).trans sx'.out
    have E5 := E4.go D2
    have f2 := frozen_block R2
    have p2 := cellsAt R2
    have q2 := cellsAt Q2
    have s2 := cellsAt S2
    have R2' := Lib.hid R2
    have Q2' := Lib.hid Q2
    clear R2 Q2 S2
    cases hvh : vh
    · go_wp2_with fail
      obtain ⟨z0, z1, z2, z3, z4⟩ := five_reads R2'.out (.int .i64 0) (.int .i64 0) (.int .i64 0) (.slice none 0 0) (.int .i64 0)
      refine bodyPost_ret (v := .tuple #[.agg #[.int .i64 0, .int .i64 0, .int .i64 0, .slice none 0 0, .int .i64 0], .int .i64 3]) (by simp [results, Try.results93, go_sem, z0, z1, z2, z3, z4]) rfl ?_
      exact hP1'.out (by rw [hvh]; rfl) _ _ ⟨_, _, _, rfl, Nat.le_refl _, by decide, RdI.nil _, E5.five (by simp) _ _ _ _ _, fun b o e => (nomatch e)⟩
    · go_wp2_with fail
      refine (hd'.out hvh A' n' c' w2 r2).mono ?_
      rintro e w3 ⟨A3, n3, c3, rfl, g3, g4, r3, D3⟩
      have E6 := E5.go D3
      go_wp2_with fail
      refine (he'.out hvh A3 n3 c3 w3 E6 r3).mono ?_
      rintro e w4 ⟨rfl, D4⟩
      have D34 := D3.go D4
      have E7 := E6.go D4
      have R4 := (D34.block _ (lt_of_block R2'.out)).trans R2'.out
      have Q4 := (D34.block _ (lt_of_block Q2'.out)).trans Q2'.out
      have f4 := frozen_block R4
      have p4 := cellsAt R4
      have q4 := cellsAt Q4
      have R4' := Lib.hid R4
      have Q4' := Lib.hid Q4
      clear R4 Q4
      cases hve : ve
      · go_wp2_with fail
        obtain ⟨z0, z1, z2, z3, z4⟩ := five_reads R4'.out (.int .i64 0) (.int .i64 0) (.int .i64 0) (.slice none 0 0) (.int .i64 0)
        refine bodyPost_ret (v := .tuple #[.agg #[.int .i64 0, .int .i64 0, .int .i64 0, .slice none 0 0, .int .i64 0], .int .i64 3]) (by simp [results, Try.results93, go_sem, z0, z1, z2, z3, z4]) rfl ?_
        exact hP1'.out (by rw [hvh, hve]; rfl) _ _ ⟨_, _, _, rfl, Nat.le_refl _, by decide, RdI.nil _, E7.five (by simp) _ _ _ _ _, fun b o e => (nomatch e)⟩
      · go_wp2_with fail
        refine (hf'.out hvh A' n' c' w4 r1.len).mono ?_
        rintro e w5 ⟨rfl, D5⟩
        have E8 := E7.go D5
        have R5 := (D5.block _ (lt_of_block R4'.out)).trans R4'.out
        have Q5 := (D5.block _ (lt_of_block Q4'.out)).trans Q4'.out
        have f5 := frozen_block R5
        have p5 := cellsAt R5
        have q5 := cellsAt Q5
        have R5' := Lib.hid R5
        clear R5 Q5
        cases hvf : vf
        · go_wp2_with fail
          obtain ⟨z0, z1, z2, z3, z4⟩ := five_reads R5'.out (.int .i64 0) (.int .i64 0) (.int .i64 0) (.slice none 0 0) (.int .i64 0)
          refine bodyPost_ret (v := .tuple #[.agg #[.int .i64 0, .int .i64 0, .int .i64 0, .slice none 0 0, .int .i64 0], .int .i64 2]) (by simp [results, Try.results93, go_sem, z0, z1, z2, z3, z4]) rfl ?_
          exact hP2'.out (by rw [hvh, hve]; rfl) hvf _ _ ⟨_, _, _, rfl, Nat.le_refl _, by decide, RdI.nil _, E8.five (by simp) _ _ _ _ _, fun b o e => (nomatch e)⟩
        · go_wp2_with fail
          obtain ⟨z0, z1, z2, z3, z4⟩ := five_reads R5'.out (.int .i64 x) (.int .i64 ad) (.int .i64 qt) (.slice A' n' c') (.int .i64 to)
          refine bodyPost_ret (v := .tuple #[.agg #[.int .i64 x, .int .i64 ad, .int .i64 qt, .slice A' n' c', .int .i64 to], .int .i64 0]) (by simp [results, Try.results93, go_sem, z0, z1, z2, z3, z4]) rfl ?_
          have r5 := (r2.ext D34).ext D5
          exact hP3'.out (by rw [hvh, hve]; rfl) hvf _ _ ⟨_, _, _, rfl, g1, g2, five_rd r5 (Nat.le_refl _) _ (zero_far R5'.out r5) _ _ _ _ _, E8.five (by simp) _ _ _ _ _, fun b o e => by have := fr1 b o e; simp at this; omega⟩
end Go.Proofs.Ytgeahfkhfpdlhaa
