
/- Layer 4, the walks: what bytes ask for: reading, one bit. -/
import Derived.Test.YtgeahfkhfpdlhaaPduTaken
import Derived.Deep.RegionLaw
namespace Go.Proofs.Ytgeahfkhfpdlhaa
open Go.RowKit

set_option maxRecDepth 100000 in
set_option maxHeartbeats 1600000 in
theorem taken_reads (q v : Int) (b : Bool) (A : Option Addr) (n c : Nat) (l : List Int) (w : World) (hx : RdI w w.heap.size .u8 A n l) (hl : ByteL l) (hn : 0 < n) :
    Calls Try.prog 113 #[.agg #[.int .i64 0, .int .i64 q, .int .i64 v, .bool b], .slice A n c] w (TakenPost (l.getD 0 0) (wordAt l 1) (wordAt l 3) 0 [] w) := by
  have hmf : ∀ (fn : Fn) (first cap : Array Value) (w : World), (Instr.makeFunc fn first cap).run Try.prog w = .ok (.func fn first cap) w := fun _ _ _ _ => rfl
  obtain ⟨bb, o, rfl, hbb, c1⟩ := hx.at_ (j := 0) (by omega)
  obtain ⟨x, hx0⟩ : ∃ x, l.getD 0 0 = x := ⟨_, rfl⟩
  have d1 := hl 0
  rw [← List.getD_eq_getElem?_getD] at d1
  rw [hx0] at d1 c1 ⊢
  rw [Nat.add_zero] at c1
  have u3 : IntKind.i64.wrap x = x := by rw [IntKind.wrap_i64]; omega
  have E4 : Ext w ((((w.alloc (.cells #[.int .i64 0, .int .i64 q, .int .i64 v, .bool b] 144)).alloc (.cells #[.slice (some ⟨bb, o, none⟩) n c] 33)).alloc (.cells #[.int .i64 0, .int .i64 0, .int .i64 0, .slice none 0 0, .int .i64 0] 32)).alloc (.cells #[.int .i64 1] 3)) := ((((Ext.refl w).goA _).goA _).goA _).goA _
  have c2 := (E4.cell o hbb).trans c1
  have T0 := Tk.new w #[.int .i64 0, .int .i64 q, .int .i64 v, .bool b] (.slice (some ⟨bb, o, none⟩) n c) #[.int .i64 0, .int .i64 0, .int .i64 0, .slice none 0 0, .int .i64 0] 1 #[.int .i64 x, .int .i64 0, .int .i64 0, .slice none 0 0, .int .i64 0]
  have E0 := E4.goA (.cells #[.int .i64 x, .int .i64 0, .int .i64 0, .slice none 0 0, .int .i64 0] 32)
  have k2 : w.heap.size + 1 + 1 = w.heap.size + 2 := rfl
  have k3 : w.heap.size + 2 + 1 = w.heap.size + 3 := rfl
  have k4 : w.heap.size + 3 + 1 = w.heap.size + 4 := rfl
  have hx' := Lib.hid hx
  clear hx hx0 c1
  go_enter Try.func113, Try.ntmps113
  go_wp2_with fail
  refine (word_any (w.heap.size + 3) (w.heap.size + 1) 1 n c _ w.heap.size l _ (hx'.out.below E0) hl (by omega) (by omega) T0.p T0.b (by omega)).mono ?_
  rintro e w1 ⟨rfl, p1, m1⟩
  have T1 := T0.word p1 m1
  have E1 := E0.goM m1 (fun i hi => by omega)
  have T2 : Tk (w1.setCell ⟨w.heap.size + 4, 1, none⟩ (.int .i64 (wordAt l 1))) w.heap.size #[.int .i64 0, .int .i64 q, .int .i64 v, .bool b] (.slice (some ⟨bb, o, none⟩) n c) #[.int .i64 0, .int .i64 0, .int .i64 0, .slice none 0 0, .int .i64 0] 3 #[.int .i64 x, .int .i64 (wordAt l 1), .int .i64 0, .slice none 0 0, .int .i64 0] := T1.setQ 1 _
  have E2 := E1.goS (p := ⟨w.heap.size + 4, 1, none⟩) (by simp) (.int .i64 (wordAt l 1))
  have f1 := frozen_block T1.q
  have q1 := cellsAt T1.q
  have s2 := cellsAt T2.s
  have T0' := Lib.hid T0
  have T1' := Lib.hid T1
  clear p1 m1 T0 T1 c2 E0 E4
  go_wp2_with fail
  refine (word_any (w.heap.size + 3) (w.heap.size + 1) 3 n c _ w.heap.size l _ (hx'.out.below E2) hl (by omega) (by omega) T2.p T2.b (by omega)).mono ?_
  rintro e w3 ⟨rfl, p3, m3⟩
  have T3 := T2.word p3 m3
  have E3 := E2.goM m3 (fun i hi => by omega)
  have T4 : Tk (w3.setCell ⟨w.heap.size + 4, 2, none⟩ (.int .i64 (wordAt l 3))) w.heap.size #[.int .i64 0, .int .i64 q, .int .i64 v, .bool b] (.slice (some ⟨bb, o, none⟩) n c) #[.int .i64 0, .int .i64 0, .int .i64 0, .slice none 0 0, .int .i64 0] 5 #[.int .i64 x, .int .i64 (wordAt l 1), .int .i64 (wordAt l 3), .slice none 0 0, .int .i64 0] := T3.setQ 2 _
  have E4 := E3.goS (p := ⟨w.heap.size + 4, 2, none⟩) (by simp) (.int .i64 (wordAt l 3))
  have f3 := frozen_block T3.q
  have q3 := cellsAt T3.q
  have f4 := frozen_block T4.r
  have r4 := cellsAt T4.r
  have q4 := cellsAt T4.q
  have T3' := Lib.hid T3
  have T4' := Lib.hid T4
  have T2' := Lib.hid T2
  clear p3 m3 T2 T3 T4 s2 q1 f1 
  go_wp2_with fail
  obtain ⟨z0, z1, z2, z3, z4⟩ := five_reads T4'.out.r (.int .i64 x) (.int .i64 (wordAt l 1)) (.int .i64 (wordAt l 3)) (.slice none 0 0) (.int .i64 0)
  refine bodyPost_ret (v := .agg #[.int .i64 x, .int .i64 (wordAt l 1), .int .i64 (wordAt l 3), .slice none 0 0, .int .i64 0]) (by simp [results, Try.results113, go_sem, z0, z1, z2, z3, z4]) rfl ?_
  exact ⟨_, _, _, rfl, Nat.le_refl _, by unfold maxLen; omega, RdI.nil _, E4.five (by simp) _ _ _ _ _, fun b o e => (nomatch e)⟩

set_option maxRecDepth 100000 in
set_option maxHeartbeats 1600000 in
theorem taken_bit (q v : Int) (A : Option Addr) (n c : Nat) (l : List Int) (w : World) (hx : RdI w w.heap.size .u8 A n l) (hl : ByteL l) (hn : 0 < n) :
    Calls Try.prog 113 #[.agg #[.int .i64 1, .int .i64 q, .int .i64 v, .bool true], .slice A n c] w (TakenPost (l.getD 0 0) (wordAt l 1) 0 0 [wordAt l 3 / 65280] w):= by
  have hmf : ∀ (fn : Fn) (first cap : Array Value) (w : World), (Instr.makeFunc fn first cap).run Try.prog w = .ok (.func fn first cap) w := fun _ _ _ _ => rfl
  obtain ⟨bb, o, rfl, hbb, c1⟩ := hx.at_ (j := 0) (by omega)
  obtain ⟨x, hx0⟩ : ∃ x, l.getD 0 0 = x := ⟨_, rfl⟩
  have d1 := hl 0
  rw [← List.getD_eq_getElem?_getD] at d1
  rw [hx0] at d1 c1 ⊢
  rw [Nat.add_zero] at c1
  have u3 : IntKind.i64.wrap x = x := by rw [IntKind.wrap_i64]; omega
  have E4 : Ext w ((((w.alloc (.cells #[.int .i64 1, .int .i64 q, .int .i64 v, .bool true] 144)).alloc (.cells #[.slice (some ⟨bb, o, none⟩) n c] 33)).alloc (.cells #[.int .i64 0, .int .i64 0, .int .i64 0, .slice none 0 0, .int .i64 0] 32)).alloc (.cells #[.int .i64 1] 3)) := ((((Ext.refl w).goA _).goA _).goA _).goA _
  have c2 := (E4.cell o hbb).trans c1
  have T0 := Tk.new w #[.int .i64 1, .int .i64 q, .int .i64 v, .bool true] (.slice (some ⟨bb, o, none⟩) n c) #[.int .i64 0, .int .i64 0, .int .i64 0, .slice none 0 0, .int .i64 0] 1 #[.int .i64 x, .int .i64 0, .int .i64 0, .slice none 0 0, .int .i64 0]
  have E0 := E4.goA (.cells #[.int .i64 x, .int .i64 0, .int .i64 0, .slice none 0 0, .int .i64 0] 32)
  have k2 : w.heap.size + 1 + 1 = w.heap.size + 2 := rfl
  have k3 : w.heap.size + 2 + 1 = w.heap.size + 3 := rfl
  have k4 : w.heap.size + 3 + 1 = w.heap.size + 4 := rfl
  have hx' := Lib.hid hx
  clear hx hx0 c1
  go_enter Try.func113, Try.ntmps113
  go_wp2_with fail
  refine (word_any (w.heap.size + 3) (w.heap.size + 1) 1 n c _ w.heap.size l _ (hx'.out.below E0) hl (by omega) (by omega) T0.p T0.b (by omega)).mono ?_
  rintro e w1 ⟨rfl, p1, m1⟩
  have T1 := T0.word p1 m1
  have E1 := E0.goM m1 (fun i hi => by omega)
  have T2 : Tk (w1.setCell ⟨w.heap.size + 4, 1, none⟩ (.int .i64 (wordAt l 1))) w.heap.size #[.int .i64 1, .int .i64 q, .int .i64 v, .bool true] (.slice (some ⟨bb, o, none⟩) n c) #[.int .i64 0, .int .i64 0, .int .i64 0, .slice none 0 0, .int .i64 0] 3 #[.int .i64 x, .int .i64 (wordAt l 1), .int .i64 0, .slice none 0 0, .int .i64 0] := T1.setQ 1 _
  have E2 := E1.goS (p := ⟨w.heap.size + 4, 1, none⟩) (by simp) (.int .i64 (wordAt l 1))
  have f1 := frozen_block T1.q
  have q1 := cellsAt T1.q
  have s2 := cellsAt T2.s
  have T0' := Lib.hid T0
  have T1' := Lib.hid T1
  clear p1 m1 T0 T1 c2 E0 E4
  have u6 : (wordAt l 3).tdiv 65280 = wordAt l 3 / 65280 := Int.tdiv_eq_ediv_of_nonneg (wordAt_range l hl 3).1
  have hw3 := wordAt_range l hl 3
  have u7 : IntKind.u16.wrap (wordAt l 3 / 65280) = wordAt l 3 / 65280 := by rw [IntKind.wrap_u16]; omega
  have u8 : IntKind.i64.wrap (wordAt l 3 / 65280) = wordAt l 3 / 65280 := by rw [IntKind.wrap_i64]; omega
  go_wp2_with fail
  refine (word_any (w.heap.size + 3) (w.heap.size + 1) 3 n c _ w.heap.size l _ (hx'.out.below E2) hl (by omega) (by omega) T2.p T2.b (by omega)).mono ?_
  rintro e w3 ⟨rfl, p3, m3⟩
  have T3 := T2.word p3 m3
  have E3 := E2.goM m3 (fun i hi => by omega)
  have T4 : Tk (w3.setCell ⟨w.heap.size + 4, 3, none⟩ (.slice (some ⟨w3.heap.size, 0, none⟩) 1 1)) w.heap.size #[.int .i64 1, .int .i64 q, .int .i64 v, .bool true] (.slice (some ⟨bb, o, none⟩) n c) #[.int .i64 0, .int .i64 0, .int .i64 0, .slice none 0 0, .int .i64 0] 5 #[.int .i64 x, .int .i64 (wordAt l 1), .int .i64 0, .slice (some ⟨w3.heap.size, 0, none⟩) 1 1, .int .i64 0] := T3.setQ 3 _
  have E4 := E3.goS (p := ⟨w.heap.size + 4, 3, none⟩) (by simp) (.slice (some ⟨w3.heap.size, 0, none⟩) 1 1)
  have T3' := Lib.hid T3
  have T2' := Lib.hid T2
  have T4' := Lib.hid T4
  have f3 := frozen_block T3.q
  have q3 := cellsAt T3.q
  have q4 := cellsAt T4.q
  have T5 := T4.ext ((Ext.refl _).goA (.cells #[.int .u16 (wordAt l 3 / 65280)] 34))
  have f5 := frozen_block T5.r
  have r5 := cellsAt T5.r
  have T5' := Lib.hid T5
  have g3 := T3.lt
  clear p3 m3 T2 T3 s2 q1 f1 T4 T5
  go_wp2_with fail
  obtain ⟨z0, z1, z2, z3, z4⟩ := five_reads T5'.out.r (.int .i64 x) (.int .i64 (wordAt l 1)) (.int .i64 0) (.slice (some ⟨w3.heap.size, 0, none⟩) 1 1) (.int .i64 0)
  refine bodyPost_ret (v := .agg #[.int .i64 x, .int .i64 (wordAt l 1), .int .i64 0, .slice (some ⟨w3.heap.size, 0, none⟩) 1 1, .int .i64 0]) (by simp [results, Try.results113, go_sem, z0, z1, z2, z3, z4]) rfl ?_
  have E5 := (E4.goA (.cells #[.int .u16 (wordAt l 3 / 65280)] 34)).five (i := w.heap.size + 2) (by simp) (.int .i64 x) (.int .i64 (wordAt l 1)) (.int .i64 0) (.slice (some ⟨w3.heap.size, 0, none⟩) 1 1) (.int .i64 0)
  refine ⟨_, _, _, rfl, Nat.le_refl _, by unfold maxLen; omega, ?_, E5, fun b o e => by injection e with e; injection e with e; omega⟩
  have r6 : RdI ((w3.setCell ⟨w.heap.size + 4, 3, none⟩ (.slice (some ⟨w3.heap.size, 0, none⟩) 1 1)).alloc (.cells #[.int .u16 (wordAt l 3 / 65280)] 34)) (w3.heap.size + 1) .u16 (some ⟨w3.heap.size, 0, none⟩) 1 [wordAt l 3 / 65280] :=
    RdI.new [wordAt l 3 / 65280] (setCell_size _ _ _).symm rfl rfl
  exact five_rd r6 (by rw [alloc_size, setCell_size]; omega) _ (fun _ b o e => by injection e with e; injection e with e; omega) _ _ _ _ _
end Go.Proofs.Ytgeahfkhfpdlhaa
