/- Layer 4, the walks: what bytes ask for: registers that are written. · Layer 4, the walks: what bytes ask for: registers that are swapped. · Layer 4, the walks: what bytes ask for: bits that are written. · Layer 4, the walks: what bytes ask for, of any shape. · Layer 4, the walks: are bytes the same? -/
import Derived.Test.YtgagpalffdgjnaaG04
import Derived.Deep.RegionLaw
namespace Go.Proofs.Ytgagpalffdgjnaa
open Go.RowKit

set_option maxRecDepth 100000 in
set_option maxHeartbeats 1600000 in
theorem taken_wregs (q v : Int) (A : Option Addr) (n c : Nat) (l : List Int) (w : World) (hx : RdI w w.heap.size .u8 A n l) (hl : ByteL l) (hn : 0 < n) (h0 : 0 ≤ q) (h1 : q ≤ 2000) :
    Calls Try.prog 128 #[.agg #[.int .i64 2, .int .i64 q, .int .i64 v, .bool false], .slice A n c] w (TakenPost (l.getD 0 0) (wordAt l 1) (wordAt l 3) 0 (wordsAt l 6 (min (wordAt l 3) q).toNat) w):= by
  have hmf : ∀ (fn : Fn) (first cap : Array Value) (w : World), (Instr.makeFunc fn first cap).run Try.prog w = .ok (.func fn first cap) w := fun _ _ _ _ => rfl
  obtain ⟨bb, o, rfl, hbb, c1⟩ := hx.at_ (j := 0) (by omega)
  obtain ⟨x, hx0⟩ : ∃ x, l.getD 0 0 = x := ⟨_, rfl⟩
  have d1 := hl 0
  rw [← List.getD_eq_getElem?_getD] at d1
  rw [hx0] at d1 c1 ⊢
  rw [Nat.add_zero] at c1
  have u3 : IntKind.i64.wrap x = x := by rw [IntKind.wrap_i64]; omega
  have E4 : Ext w ((((w.alloc (.cells #[.int .i64 2, .int .i64 q, .int .i64 v, .bool false] 162)).alloc (.cells #[.slice (some ⟨bb, o, none⟩) n c] 34)).alloc (.cells #[.int .i64 0, .int .i64 0, .int .i64 0, .slice none 0 0, .int .i64 0] 30)).alloc (.cells #[.int .i64 1] 3)) := ((((Ext.refl w).goA _).goA _).goA _).goA _
  have c2 := (E4.cell o hbb).trans c1
  have T0 := Tk.new w #[.int .i64 2, .int .i64 q, .int .i64 v, .bool false] (.slice (some ⟨bb, o, none⟩) n c) #[.int .i64 0, .int .i64 0, .int .i64 0, .slice none 0 0, .int .i64 0] 1 #[.int .i64 x, .int .i64 0, .int .i64 0, .slice none 0 0, .int .i64 0]
  have E0 := E4.goA (.cells #[.int .i64 x, .int .i64 0, .int .i64 0, .slice none 0 0, .int .i64 0] 30)
  have k2 : w.heap.size + 1 + 1 = w.heap.size + 2 := rfl
  have k3 : w.heap.size + 2 + 1 = w.heap.size + 3 := rfl
  have k4 : w.heap.size + 3 + 1 = w.heap.size + 4 := rfl
  have hx' := Lib.hid hx
  clear hx hx0 c1
  have hwm := wordAt_range l hl 3
  obtain ⟨M, hM⟩ : ∃ M : Nat, min (wordAt l 3) q = (M : Int) := ⟨(min (wordAt l 3) q).toNat, by omega⟩
  have hM1 : M ≤ 2000 := by omega
  rw [hM, Int.toNat_natCast]
  go_enter Try.func128, Try.ntmps128
  go_wp2_with fail
  refine (word_any (w.heap.size + 3) (w.heap.size + 1) 1 n c _ w.heap.size l _ (hx'.out.below E0) hl (by omega) (by omega) T0.p T0.b (by omega)).mono ?_
  rintro e w1 ⟨rfl, p1, m1⟩
  have T1 := T0.word p1 m1
  have E1 := E0.goM m1 (fun i hi => by omega)
  have T2 : Tk (w1.setCell ⟨w.heap.size + 4, 1, none⟩ (.int .i64 (wordAt l 1))) w.heap.size #[.int .i64 2, .int .i64 q, .int .i64 v, .bool false] (.slice (some ⟨bb, o, none⟩) n c) #[.int .i64 0, .int .i64 0, .int .i64 0, .slice none 0 0, .int .i64 0] 3 #[.int .i64 x, .int .i64 (wordAt l 1), .int .i64 0, .slice none 0 0, .int .i64 0] := T1.setQ 1 _
  have E2 := E1.goS (p := ⟨w.heap.size + 4, 1, none⟩) (by simp) (.int .i64 (wordAt l 1))
  have f1 := frozen_block T1.q
  have q1 := cellsAt T1.q
  have s2 := cellsAt T2.s
  have T0' := Lib.hid T0
  have T1' := Lib.hid T1
  clear p1 m1 T0 T1 c2 E0 E4
  go_wp2_with fail
  refine (word_any (w.heap.size + 3) (w.heap.size + 1) 3 n c _ w.heap.size l _ (hx'.out.below E2) hl (by omega) (by omega) T2.p T2.b (by omega)).mono ?_
  rintro e w3 ⟨rfl, p3, m3⟩
  have T3 := T2.word p3 m3
  have E3 := E2.goM m3 (fun i hi => by omega)
  have T4 : Tk (w3.setCell ⟨w.heap.size + 4, 2, none⟩ (.int .i64 (wordAt l 3))) w.heap.size #[.int .i64 2, .int .i64 q, .int .i64 v, .bool false] (.slice (some ⟨bb, o, none⟩) n c) #[.int .i64 0, .int .i64 0, .int .i64 0, .slice none 0 0, .int .i64 0] 5 #[.int .i64 x, .int .i64 (wordAt l 1), .int .i64 (wordAt l 3), .slice none 0 0, .int .i64 0] := T3.setQ 2 _
  have E4 := E3.goS (p := ⟨w.heap.size + 4, 2, none⟩) (by simp) (.int .i64 (wordAt l 3))
  have f3 := frozen_block T3.q
  have q3 := cellsAt T3.q
  have s4 := cellsAt T4.s
  have q4 := cellsAt T4.q
  have p4 := cellsAt T4.p
  have pf4 := frozen_block T4.p
  have T3' := Lib.hid T3
  have T4' := Lib.hid T4
  have T2' := Lib.hid T2
  clear p3 m3 T2 T3 T4 s2 q1 f1
  have T5 := T4'.out.setP 6
  have E5 := E4.goS (p := ⟨w.heap.size + 3, 0, none⟩) (by simp) (.int .i64 6)
  have T5' := Lib.hid T5
  clear T5
  go_wp2_with fail
  go_loopw [79] (fun i wr => ∃ (k : Nat) (u : Value), k ≤ M ∧ i = .int .i64 k ∧ Tk wr w.heap.size #[.int .i64 2, .int .i64 q, .int .i64 v, .bool false] (.slice (some ⟨bb, o, none⟩) n c) #[.int .i64 0, .int .i64 0, .int .i64 0, .slice none 0 0, .int .i64 0] ((6 + 2 * k : Nat) : Int) #[.int .i64 x, .int .i64 (wordAt l 1), .int .i64 (wordAt l 3), u, .int .i64 0] ∧ wr.ownsRow (w.heap.size + 5) 43 1 u k ((wordsAt l 6 k).map (Value.int .u16)) ∧ Ext w wr) (fun i _ => M - (intOf i).toNat)
  case atStart => exact ⟨0, .slice none 0 0, by omega, rfl, T5'.out, ⟨rfl, .inl ⟨rfl, rfl⟩⟩, E5⟩
  case round =>
    obtain ⟨k, u, hk, rfl, TR, own, ER⟩ := hrel
    by_cases hlt : k < M
    · have D0 : Ext w wr.drew := ER.god
      have TD := Lib.hid TR.drew
      have own' : wr.drew.ownsRow (w.heap.size + 5) 43 1 u k _ := own
      have qR := cellsAt TR.q
      have hwv := wordAt_range l hl (6 + 2 * k)
      have uw : IntKind.u16.wrap (wordAt l (6 + 2 * k)) = wordAt l (6 + 2 * k) := by rw [IntKind.wrap_u16]; omega
      clear TR own
      go_wp2_with fail
      go_region_law
        (first
          | (go_simp
             go_at_call 130
             refine (word_any (w.heap.size + 3) (w.heap.size + 1) (6 + 2 * k) n c _ w.heap.size l _ (hx'.out.below D0) hl (by omega) (by omega) TD.out.p TD.out.b (by omega)).mono ?_
             rintro e wx ⟨rfl, px, mx⟩
             have TX := TD.out.word px mx
             have gX := TX.lt
             have ownX := own_mod1 own' mx (by omega)
             have qX := cellsAt TX.q
             have DX := D0.goM mx (fun i hi => by omega)
             dsimp only)
          | (refine step_appI rfl (.tmp 82) (.tmp 86) _ rfl Try.underlying28 info_u16 (ownX.alloc _) rfl (RdI.one _ _ _ _) rfl (by omega) (by omega) (by simp; omega) ?_
             intro v4 w4 own4 hg4 hat4
             obtain ⟨A4, c4, rfl, hc4, r4⟩ := own_rd (k := .u16) (xs := wordsAt l 6 k ++ [wordAt l (6 + 2 * k)]) own4
             have TY := TX.keep (w' := w4) (fun b hb => (hg4.block b (by simp; omega) (fun h => by have := (ownX.lt b h.symm).1; omega)).trans (Below.heap_alloc _ _ b (by omega)))
             have M4 : Ext w w4 := (DX.goA _).goG hg4 (fun k hk => by have := (ownX.lt k hk).1; omega)
             have fY := frozen_block TY.q
             have qY3 : w4.cell? ⟨w.heap.size + 4, 3, none⟩ = some u := cellsAt TY.q 3
             have fY3 : w4.frozen? ⟨w.heap.size + 4, 3, none⟩ = false := fY 3))
      all_goals go_wp2_with fail
      all_goals
        go_roundw
        case rel =>
          refine ⟨k + 1, _, by omega, by go_num, (TY.setQ 3 (.slice A4 (k + 1) c4)).at_ (by omega), ?_, M4.goS (p := ⟨w.heap.size + 4, 3, none⟩) (by simp) _⟩
          rw [wordsAt_succ]
          exact ownsRow_setCell_other own4 (a := ⟨w.heap.size + 4, 3, none⟩) (fun e => by have := (own4.lt _ e).1; simp at this) _
        case measure => simp [intOf]; omega
    · obtain rfl : k = M := by omega
      obtain ⟨A9, c9, rfl, hc9, r9⟩ := own_rd own
      have q9 := cellsAt TR.q
      have f9 := frozen_block TR.r
      have t9 := cellsAt TR.r
      have o9 := own.lt
      have T9 := Lib.hid TR
      clear TR own
      go_wp2_with fail
      obtain ⟨z0, z1, z2, z3, z4⟩ := five_reads T9.out.r (.int .i64 x) (.int .i64 (wordAt l 1)) (.int .i64 (wordAt l 3)) (.slice A9 k c9) (.int .i64 0)
      refine bodyPost_ret (v := .agg #[.int .i64 x, .int .i64 (wordAt l 1), .int .i64 (wordAt l 3), .slice A9 k c9, .int .i64 0]) (by simp [results, Try.results128, go_sem, z0, z1, z2, z3, z4]) rfl ?_
      refine ⟨_, _, _, rfl, hc9.1, hc9.2, ?_, ER.five (i := w.heap.size + 2) (by simp) _ _ _ _ _, fun b o e => by have := (o9 b (by rw [e]; rfl)).1; omega⟩
      exact five_rd r9 (Nat.le_refl _) _ (fun _ b o e => by have := (o9 b (by rw [e]; rfl)).1; omega) _ _ _ _ _
end Go.Proofs.Ytgagpalffdgjnaa
namespace Go.Proofs.Ytgagpalffdgjnaa
open Go.RowKit

set_option maxRecDepth 100000 in
set_option maxHeartbeats 1600000 in
theorem taken_swaps (q v : Int) (A : Option Addr) (n c : Nat) (l : List Int) (w : World) (hx : RdI w w.heap.size .u8 A n l) (hl : ByteL l) (hn : 0 < n) (h0 : 0 ≤ v) (h1 : v ≤ 2000) :
    Calls Try.prog 128 #[.agg #[.int .i64 3, .int .i64 q, .int .i64 v, .bool false], .slice A n c] w (TakenPost (l.getD 0 0) (wordAt l 1) (wordAt l 3) (wordAt l 5) (wordsAt l 10 (min (wordAt l 7) v).toNat) w):= by
  have hmf : ∀ (fn : Fn) (first cap : Array Value) (w : World), (Instr.makeFunc fn first cap).run Try.prog w = .ok (.func fn first cap) w := fun _ _ _ _ => rfl
  obtain ⟨bb, o, rfl, hbb, c1⟩ := hx.at_ (j := 0) (by omega)
  obtain ⟨x, hx0⟩ : ∃ x, l.getD 0 0 = x := ⟨_, rfl⟩
  have d1 := hl 0
  rw [← List.getD_eq_getElem?_getD] at d1
  rw [hx0] at d1 c1 ⊢
  rw [Nat.add_zero] at c1
  have u3 : IntKind.i64.wrap x = x := by rw [IntKind.wrap_i64]; omega
  have E4 : Ext w ((((w.alloc (.cells #[.int .i64 3, .int .i64 q, .int .i64 v, .bool false] 162)).alloc (.cells #[.slice (some ⟨bb, o, none⟩) n c] 34)).alloc (.cells #[.int .i64 0, .int .i64 0, .int .i64 0, .slice none 0 0, .int .i64 0] 30)).alloc (.cells #[.int .i64 1] 3)) := ((((Ext.refl w).goA _).goA _).goA _).goA _
  have c2 := (E4.cell o hbb).trans c1
  have T0 := Tk.new w #[.int .i64 3, .int .i64 q, .int .i64 v, .bool false] (.slice (some ⟨bb, o, none⟩) n c) #[.int .i64 0, .int .i64 0, .int .i64 0, .slice none 0 0, .int .i64 0] 1 #[.int .i64 x, .int .i64 0, .int .i64 0, .slice none 0 0, .int .i64 0]
  have E0 := E4.goA (.cells #[.int .i64 x, .int .i64 0, .int .i64 0, .slice none 0 0, .int .i64 0] 30)
  have k2 : w.heap.size + 1 + 1 = w.heap.size + 2 := rfl
  have k3 : w.heap.size + 2 + 1 = w.heap.size + 3 := rfl
  have k4 : w.heap.size + 3 + 1 = w.heap.size + 4 := rfl
  have hx' := Lib.hid hx
  clear hx hx0 c1
  have hwm := wordAt_range l hl 7
  obtain ⟨M, hM⟩ : ∃ M : Nat, min (wordAt l 7) v = (M : Int) := ⟨(min (wordAt l 7) v).toNat, by omega⟩
  have hM1 : M ≤ 2000 := by omega
  rw [hM, Int.toNat_natCast]
  go_enter Try.func128, Try.ntmps128
  go_wp2_with fail
  refine (word_any (w.heap.size + 3) (w.heap.size + 1) 1 n c _ w.heap.size l _ (hx'.out.below E0) hl (by omega) (by omega) T0.p T0.b (by omega)).mono ?_
  rintro e w1 ⟨rfl, p1, m1⟩
  have T1 := T0.word p1 m1
  have E1 := E0.goM m1 (fun i hi => by omega)
  have T2 : Tk (w1.setCell ⟨w.heap.size + 4, 1, none⟩ (.int .i64 (wordAt l 1))) w.heap.size #[.int .i64 3, .int .i64 q, .int .i64 v, .bool false] (.slice (some ⟨bb, o, none⟩) n c) #[.int .i64 0, .int .i64 0, .int .i64 0, .slice none 0 0, .int .i64 0] 3 #[.int .i64 x, .int .i64 (wordAt l 1), .int .i64 0, .slice none 0 0, .int .i64 0] := T1.setQ 1 _
  have E2 := E1.goS (p := ⟨w.heap.size + 4, 1, none⟩) (by simp) (.int .i64 (wordAt l 1))
  have f1 := frozen_block T1.q
  have q1 := cellsAt T1.q
  have s2 := cellsAt T2.s
  have T0' := Lib.hid T0
  have T1' := Lib.hid T1
  clear p1 m1 T0 T1 c2 E0 E4
  go_wp2_with fail
  refine (word_any (w.heap.size + 3) (w.heap.size + 1) 3 n c _ w.heap.size l _ (hx'.out.below E2) hl (by omega) (by omega) T2.p T2.b (by omega)).mono ?_
  rintro e w3 ⟨rfl, p3, m3⟩
  have T3 := T2.word p3 m3
  have E3 := E2.goM m3 (fun i hi => by omega)
  have T4 : Tk (w3.setCell ⟨w.heap.size + 4, 2, none⟩ (.int .i64 (wordAt l 3))) w.heap.size #[.int .i64 3, .int .i64 q, .int .i64 v, .bool false] (.slice (some ⟨bb, o, none⟩) n c) #[.int .i64 0, .int .i64 0, .int .i64 0, .slice none 0 0, .int .i64 0] 5 #[.int .i64 x, .int .i64 (wordAt l 1), .int .i64 (wordAt l 3), .slice none 0 0, .int .i64 0] := T3.setQ 2 _
  have E4 := E3.goS (p := ⟨w.heap.size + 4, 2, none⟩) (by simp) (.int .i64 (wordAt l 3))
  have f3 := frozen_block T3.q
  have q3 := cellsAt T3.q
  have s4 := cellsAt T4.s
  have q4 := cellsAt T4.q
  have p4 := cellsAt T4.p
  have pf4 := frozen_block T4.p
  have T3' := Lib.hid T3
  have T4' := Lib.hid T4
  have T2' := Lib.hid T2
  clear p3 m3 T2 T3 T4 s2 q1 f1
  go_wp2_with fail
  refine (word_any (w.heap.size + 3) (w.heap.size + 1) 5 n c _ w.heap.size l _ (hx'.out.below E4) hl (by omega) (by omega) T4'.out.p T4'.out.b (by omega)).mono ?_
  rintro e w5 ⟨rfl, p5, m5⟩
  have T5 := T4'.out.word p5 m5
  have E5 := E4.goM m5 (fun i hi => by omega)
  have T6 : Tk (w5.setCell ⟨w.heap.size + 4, 4, none⟩ (.int .i64 (wordAt l 5))) w.heap.size #[.int .i64 3, .int .i64 q, .int .i64 v, .bool false] (.slice (some ⟨bb, o, none⟩) n c) #[.int .i64 0, .int .i64 0, .int .i64 0, .slice none 0 0, .int .i64 0] 7 #[.int .i64 x, .int .i64 (wordAt l 1), .int .i64 (wordAt l 3), .slice none 0 0, .int .i64 (wordAt l 5)] := T5.setQ 4 _
  have E6 := E5.goS (p := ⟨w.heap.size + 4, 4, none⟩) (by simp) (.int .i64 (wordAt l 5))
  have f5 := frozen_block T5.q
  have q5 := cellsAt T5.q
  have s6 := cellsAt T6.s
  have TD := Lib.hid T6.drew
  have ED := E6.god
  clear p5 m5 T5 T6 s4 q4 p4 pf4 f3 q3
  go_wp2_with fail
  go_region_law
    (first
      | (go_simp
         go_at_call 130
         refine (word_any (w.heap.size + 3) (w.heap.size + 1) 7 n c _ w.heap.size l _ (hx'.out.below ED) hl (by omega) (by omega) TD.out.p TD.out.b (by omega)).mono ?_
         rintro e w7 ⟨rfl, p7, m7⟩
         have T7 := TD.out.word p7 m7
         have E7 := ED.goM m7 (fun i hi => by omega)
         have s7 := cellsAt T7.s
         dsimp only))
  --MARK
  all_goals
    have T8 := T7.setP 10
    have E8 := E7.goS (p := ⟨w.heap.size + 3, 0, none⟩) (by simp) (.int .i64 10)
    have p7 := cellsAt T7.p
    have pf7 := frozen_block T7.p
    have s8 := cellsAt T8.s
    have T8' := Lib.hid T8
    clear T8 T7 m7 s6 f5 q5
    go_wp2_with fail
    go_loopw [79] (fun i wr => ∃ (k : Nat) (u : Value), k ≤ M ∧ i = .int .i64 k ∧ Tk wr w.heap.size #[.int .i64 3, .int .i64 q, .int .i64 v, .bool false] (.slice (some ⟨bb, o, none⟩) n c) #[.int .i64 0, .int .i64 0, .int .i64 0, .slice none 0 0, .int .i64 0] ((10 + 2 * k : Nat) : Int) #[.int .i64 x, .int .i64 (wordAt l 1), .int .i64 (wordAt l 3), u, .int .i64 (wordAt l 5)] ∧ wr.ownsRow (w.heap.size + 5) 43 1 u k ((wordsAt l 10 k).map (Value.int .u16)) ∧ Ext w wr) (fun i _ => M - (intOf i).toNat)
    case atStart => exact ⟨0, .slice none 0 0, by omega, rfl, T8'.out, ⟨rfl, .inl ⟨rfl, rfl⟩⟩, E8⟩
    case round =>
      obtain ⟨k, u, hk, rfl, TR, own, ER⟩ := hrel
      by_cases hlt : k < M
      · have D0 : Ext w wr.drew := ER.god
        have TD := Lib.hid TR.drew
        have own' : wr.drew.ownsRow (w.heap.size + 5) 43 1 u k _ := own
        have qR := cellsAt TR.q
        have hwv := wordAt_range l hl (10 + 2 * k)
        have uw : IntKind.u16.wrap (wordAt l (10 + 2 * k)) = wordAt l (10 + 2 * k) := by rw [IntKind.wrap_u16]; omega
        clear TR own
        go_wp2_with fail
        go_region_law
          (first
            | (go_simp
               go_at_call 130
               refine (word_any (w.heap.size + 3) (w.heap.size + 1) (10 + 2 * k) n c _ w.heap.size l _ (hx'.out.below D0) hl (by omega) (by omega) TD.out.p TD.out.b (by omega)).mono ?_
               rintro e wx ⟨rfl, px, mx⟩
               have TX := TD.out.word px mx
               have gX := TX.lt
               have ownX := own_mod1 own' mx (by omega)
               have qX := cellsAt TX.q
               have DX := D0.goM mx (fun i hi => by omega)
               dsimp only)
            | (refine step_appI rfl (.tmp 82) (.tmp 86) _ rfl Try.underlying28 info_u16 (ownX.alloc _) rfl (RdI.one _ _ _ _) rfl (by omega) (by omega) (by simp; omega) ?_
               intro v4 w4 own4 hg4 hat4
               obtain ⟨A4, c4, rfl, hc4, r4⟩ := own_rd (k := .u16) (xs := wordsAt l 10 k ++ [wordAt l (10 + 2 * k)]) own4
               have TY := TX.keep (w' := w4) (fun b hb => (hg4.block b (by simp; omega) (fun h => by have := (ownX.lt b h.symm).1; omega)).trans (Below.heap_alloc _ _ b (by omega)))
               have M4 : Ext w w4 := (DX.goA _).goG hg4 (fun k hk => by have := (ownX.lt k hk).1; omega)
               have fY := frozen_block TY.q
               have qY3 : w4.cell? ⟨w.heap.size + 4, 3, none⟩ = some u := cellsAt TY.q 3
               have fY3 : w4.frozen? ⟨w.heap.size + 4, 3, none⟩ = false := fY 3))
        all_goals go_wp2_with fail
        all_goals
          go_roundw
          case rel =>
            refine ⟨k + 1, _, by omega, by go_num, (TY.setQ 3 (.slice A4 (k + 1) c4)).at_ (by omega), ?_, M4.goS (p := ⟨w.heap.size + 4, 3, none⟩) (by simp) _⟩
            rw [wordsAt_succ]
            exact ownsRow_setCell_other own4 (a := ⟨w.heap.size + 4, 3, none⟩) (fun e => by have := (own4.lt _ e).1; simp at this) _
          case measure => simp [intOf]; omega
      · obtain rfl : k = M := by omega
        obtain ⟨A9, c9, rfl, hc9, r9⟩ := own_rd own
        have q9 := cellsAt TR.q
        have f9 := frozen_block TR.r
        have t9 := cellsAt TR.r
        have o9 := own.lt
        have T9 := Lib.hid TR
        clear TR own
        go_wp2_with fail
        obtain ⟨z0, z1, z2, z3, z4⟩ := five_reads T9.out.r (.int .i64 x) (.int .i64 (wordAt l 1)) (.int .i64 (wordAt l 3)) (.slice A9 k c9) (.int .i64 (wordAt l 5))
        refine bodyPost_ret (v := .agg #[.int .i64 x, .int .i64 (wordAt l 1), .int .i64 (wordAt l 3), .slice A9 k c9, .int .i64 (wordAt l 5)]) (by simp [results, Try.results128, go_sem, z0, z1, z2, z3, z4]) rfl ?_
        refine ⟨_, _, _, rfl, hc9.1, hc9.2, ?_, ER.five (i := w.heap.size + 2) (by simp) _ _ _ _ _, fun b o e => by have := (o9 b (by rw [e]; rfl)).1; omega⟩
        exact five_rd r9 (Nat.le_refl _) _ (fun _ b o e => by have := (o9 b (by rw [e]; rfl)).1; omega) _ _ _ _ _
end Go.Proofs.Ytgagpalffdgjnaa
namespace Go.Proofs.Ytgagpalffdgjnaa
open Go.RowKit

set_option maxRecDepth 100000 in
set_option maxHeartbeats 1600000 in
theorem taken_wbits (q v : Int) (A : Option Addr) (n c : Nat) (l : List Int) (w : World) (hx : RdI w w.heap.size .u8 A n l) (hl : ByteL l) (hn : 0 < n) (hnc : n ≤ c) (hc : c ≤ maxLen) (h0 : 0 ≤ q) (h1 : q ≤ 2000) :
    Calls Try.prog 128 #[.agg #[.int .i64 2, .int .i64 q, .int .i64 v, .bool true], .slice A n c] w (TakenPost (l.getD 0 0) (wordAt l 1) (wordAt l 3) 0 (unbitsL (l.drop 6) (min (wordAt l 3) q).toNat) w):= by
  have hmf : ∀ (fn : Fn) (first cap : Array Value) (w : World), (Instr.makeFunc fn first cap).run Try.prog w = .ok (.func fn first cap) w := fun _ _ _ _ => rfl
  obtain ⟨bb, o, rfl, hbb, c1⟩ := hx.at_ (j := 0) (by omega)
  obtain ⟨x, hx0⟩ : ∃ x, l.getD 0 0 = x := ⟨_, rfl⟩
  have d1 := hl 0
  rw [← List.getD_eq_getElem?_getD] at d1
  rw [hx0] at d1 c1 ⊢
  rw [Nat.add_zero] at c1
  have u3 : IntKind.i64.wrap x = x := by rw [IntKind.wrap_i64]; omega
  have E4 : Ext w ((((w.alloc (.cells #[.int .i64 2, .int .i64 q, .int .i64 v, .bool true] 162)).alloc (.cells #[.slice (some ⟨bb, o, none⟩) n c] 34)).alloc (.cells #[.int .i64 0, .int .i64 0, .int .i64 0, .slice none 0 0, .int .i64 0] 30)).alloc (.cells #[.int .i64 1] 3)) := ((((Ext.refl w).goA _).goA _).goA _).goA _
  have c2 := (E4.cell o hbb).trans c1
  have T0 := Tk.new w #[.int .i64 2, .int .i64 q, .int .i64 v, .bool true] (.slice (some ⟨bb, o, none⟩) n c) #[.int .i64 0, .int .i64 0, .int .i64 0, .slice none 0 0, .int .i64 0] 1 #[.int .i64 x, .int .i64 0, .int .i64 0, .slice none 0 0, .int .i64 0]
  have E0 := E4.goA (.cells #[.int .i64 x, .int .i64 0, .int .i64 0, .slice none 0 0, .int .i64 0] 30)
  have k2 : w.heap.size + 1 + 1 = w.heap.size + 2 := rfl
  have k3 : w.heap.size + 2 + 1 = w.heap.size + 3 := rfl
  have k4 : w.heap.size + 3 + 1 = w.heap.size + 4 := rfl
  have hx' := Lib.hid hx
  have hwm := wordAt_range l hl 3
  obtain ⟨M, hM⟩ : ∃ M : Nat, min (wordAt l 3) q = (M : Int) := ⟨(min (wordAt l 3) q).toNat, by omega⟩
  have hM1 : M ≤ 2000 := by omega
  rw [hM, Int.toNat_natCast]
  unfold maxLen at hc
  obtain ⟨lo, hlo⟩ : ∃ lo : Nat, min (6 : Int) (n : Int) = (lo : Int) := ⟨min 6 n, by omega⟩
  have hlo1 : lo ≤ n := by omega
  have hlo2 : lo ≤ c := by omega
  have hlo3 : (lo : Int) ≤ n := by omega
  have hlo4 : (lo : Int) ≤ c := by omega
  have hlen := Lib.hid hx.len
  have hdl : l.drop lo = l.drop 6 := by
    by_cases h6 : 6 ≤ n
    · rw [show lo = 6 by omega]
    · rw [List.drop_eq_nil_of_le (by rw [hlen.out]; omega), List.drop_eq_nil_of_le (by rw [hlen.out]; omega)]
  have hA2 := Lib.hid (hdl ▸ hx.drop hlo1 : RdI w w.heap.size .u8 (some ⟨bb, o + lo, none⟩) (n - lo) (l.drop 6))
  have hA1 : n - lo = 0 → Hid (RdI w w.heap.size .u8 (some ⟨bb, o, none⟩) (n - lo) (l.drop 6)) := fun h => Lib.hid ⟨by rw [← hA2.out.1], fun h' => absurd h' (by omega)⟩
  have hdr : ByteL (l.drop 6) := fun j => by rw [List.getElem?_drop]; exact hl _
  clear hdl
  clear hx hx0 c1
  go_enter Try.func128, Try.ntmps128
  go_wp2_with fail
  refine (word_any (w.heap.size + 3) (w.heap.size + 1) 1 n c _ w.heap.size l _ (hx'.out.below E0) hl (by omega) (by omega) T0.p T0.b (by omega)).mono ?_
  rintro e w1 ⟨rfl, p1, m1⟩
  have T1 := T0.word p1 m1
  have E1 := E0.goM m1 (fun i hi => by omega)
  have T2 : Tk (w1.setCell ⟨w.heap.size + 4, 1, none⟩ (.int .i64 (wordAt l 1))) w.heap.size #[.int .i64 2, .int .i64 q, .int .i64 v, .bool true] (.slice (some ⟨bb, o, none⟩) n c) #[.int .i64 0, .int .i64 0, .int .i64 0, .slice none 0 0, .int .i64 0] 3 #[.int .i64 x, .int .i64 (wordAt l 1), .int .i64 0, .slice none 0 0, .int .i64 0] := T1.setQ 1 _
  have E2 := E1.goS (p := ⟨w.heap.size + 4, 1, none⟩) (by simp) (.int .i64 (wordAt l 1))
  have f1 := frozen_block T1.q
  have q1 := cellsAt T1.q
  have s2 := cellsAt T2.s
  have T0' := Lib.hid T0
  have T1' := Lib.hid T1
  clear p1 m1 T0 T1 c2 E0 E4
  go_wp2_with fail
  refine (word_any (w.heap.size + 3) (w.heap.size + 1) 3 n c _ w.heap.size l _ (hx'.out.below E2) hl (by omega) (by omega) T2.p T2.b (by omega)).mono ?_
  rintro e w3 ⟨rfl, p3, m3⟩
  have T3 := T2.word p3 m3
  have E3 := E2.goM m3 (fun i hi => by omega)
  have T4 : Tk (w3.setCell ⟨w.heap.size + 4, 2, none⟩ (.int .i64 (wordAt l 3))) w.heap.size #[.int .i64 2, .int .i64 q, .int .i64 v, .bool true] (.slice (some ⟨bb, o, none⟩) n c) #[.int .i64 0, .int .i64 0, .int .i64 0, .slice none 0 0, .int .i64 0] 5 #[.int .i64 x, .int .i64 (wordAt l 1), .int .i64 (wordAt l 3), .slice none 0 0, .int .i64 0] := T3.setQ 2 _
  have E4 := E3.goS (p := ⟨w.heap.size + 4, 2, none⟩) (by simp) (.int .i64 (wordAt l 3))
  have f3 := frozen_block T3.q
  have q3 := cellsAt T3.q
  have s4 := cellsAt T4.s
  have q4 := cellsAt T4.q
  have p4 := cellsAt T4.p
  have pf4 := frozen_block T4.p
  have T3' := Lib.hid T3
  have T4' := Lib.hid T4
  have T2' := Lib.hid T2
  clear p3 m3 T2 T3 T4 s2 q1 f1
  have T5 := T4'.out.setP 6
  have E5 := E4.goS (p := ⟨w.heap.size + 3, 0, none⟩) (by simp) (.int .i64 6)
  have T5' := Lib.hid T5
  have s5 := cellsAt T5.s
  have b5 := cellsAt T5.b
  have p5 := cellsAt T5.p
  clear T5
  go_wp2_with fail
  · refine (unbits_any (some ⟨bb, o, none⟩) (n - lo) 0 M (l.drop 6) _ ((hA1 (by omega)).out.ext E5) (by unfold maxLen; omega) (by omega) hdr).mono ?_
    rintro e w6 ⟨rfl, b6, e6⟩
    have E6 := E5.go e6
    have T6 := T5'.out.ext e6
    have g6 := b6.lt
    rw [setCell_size, setCell_size] at b6 g6
    have T7 : Tk (w6.setCell ⟨w.heap.size + 4, 3, none⟩ (.slice (some ⟨w3.heap.size, 0, none⟩) M M)) w.heap.size #[.int .i64 2, .int .i64 q, .int .i64 v, .bool true] (.slice (some ⟨bb, o, none⟩) n c) #[.int .i64 0, .int .i64 0, .int .i64 0, .slice none 0 0, .int .i64 0] 6 #[.int .i64 x, .int .i64 (wordAt l 1), .int .i64 (wordAt l 3), .slice (some ⟨w3.heap.size, 0, none⟩) M M, .int .i64 0] := T6.setQ 3 _
    have E7 := E6.goS (p := ⟨w.heap.size + 4, 3, none⟩) (by simp) (.slice (some ⟨w3.heap.size, 0, none⟩) M M)
    have f6 := frozen_block T6.q
    have q6 := cellsAt T6.q
    have q7 := cellsAt T7.q
    have f7 := frozen_block T7.r
    have t7 := cellsAt T7.r
    have T7' := Lib.hid T7
    have b6' := Lib.hid b6
    clear T6 T7 s5 b5 p5 b6
    simp only [setCell_size]
    go_wp2_with fail
    obtain ⟨z0, z1, z2, z3, z4⟩ := five_reads T7'.out.r (.int .i64 x) (.int .i64 (wordAt l 1)) (.int .i64 (wordAt l 3)) (.slice (some ⟨w3.heap.size, 0, none⟩) M M) (.int .i64 0)
    refine bodyPost_ret (v := .agg #[.int .i64 x, .int .i64 (wordAt l 1), .int .i64 (wordAt l 3), .slice (some ⟨w3.heap.size, 0, none⟩) M M, .int .i64 0]) (by simp [results, Try.results128, go_sem, z0, z1, z2, z3, z4]) rfl ?_
    have g3 := T3'.out.lt
    refine ⟨_, _, _, rfl, Nat.le_refl _, by unfold maxLen; omega, ?_, E7.five (i := w.heap.size + 2) (by simp) _ _ _ _ _, fun b o e => by injection e with e; injection e with e; omega⟩
    have r6 := b6'.out.rd (B := w6.heap.size) g6
    rw [unbitsL_length] at r6
    have r7 := set_rd r6 (Nat.le_refl _) ⟨w.heap.size + 4, 3, none⟩ (fun _ b o e => by injection e with e; injection e with e; simp; omega) (.slice (some ⟨w3.heap.size, 0, none⟩) M M)
    exact five_rd r7 (Nat.le_refl _) _ (fun _ b o e => by injection e with e; injection e with e; omega) _ _ _ _ _
  · refine (unbits_any (some ⟨bb, o + lo, none⟩) (n - lo) (c - lo) M (l.drop 6) _ (hA2.out.ext E5) (by unfold maxLen; omega) (by omega) hdr).mono ?_
    rintro e w6 ⟨rfl, b6, e6⟩
    have E6 := E5.go e6
    have T6 := T5'.out.ext e6
    have g6 := b6.lt
    rw [setCell_size, setCell_size] at b6 g6
    have T7 : Tk (w6.setCell ⟨w.heap.size + 4, 3, none⟩ (.slice (some ⟨w3.heap.size, 0, none⟩) M M)) w.heap.size #[.int .i64 2, .int .i64 q, .int .i64 v, .bool true] (.slice (some ⟨bb, o, none⟩) n c) #[.int .i64 0, .int .i64 0, .int .i64 0, .slice none 0 0, .int .i64 0] 6 #[.int .i64 x, .int .i64 (wordAt l 1), .int .i64 (wordAt l 3), .slice (some ⟨w3.heap.size, 0, none⟩) M M, .int .i64 0] := T6.setQ 3 _
    have E7 := E6.goS (p := ⟨w.heap.size + 4, 3, none⟩) (by simp) (.slice (some ⟨w3.heap.size, 0, none⟩) M M)
    have f6 := frozen_block T6.q
    have q6 := cellsAt T6.q
    have q7 := cellsAt T7.q
    have f7 := frozen_block T7.r
    have t7 := cellsAt T7.r
    have T7' := Lib.hid T7
    have b6' := Lib.hid b6
    clear T6 T7 s5 b5 p5 b6
    simp only [setCell_size]
    go_wp2_with fail
    obtain ⟨z0, z1, z2, z3, z4⟩ := five_reads T7'.out.r (.int .i64 x) (.int .i64 (wordAt l 1)) (.int .i64 (wordAt l 3)) (.slice (some ⟨w3.heap.size, 0, none⟩) M M) (.int .i64 0)
    refine bodyPost_ret (v := .agg #[.int .i64 x, .int .i64 (wordAt l 1), .int .i64 (wordAt l 3), .slice (some ⟨w3.heap.size, 0, none⟩) M M, .int .i64 0]) (by simp [results, Try.results128, go_sem, z0, z1, z2, z3, z4]) rfl ?_
    have g3 := T3'.out.lt
    refine ⟨_, _, _, rfl, Nat.le_refl _, by unfold maxLen; omega, ?_, E7.five (i := w.heap.size + 2) (by simp) _ _ _ _ _, fun b o e => by injection e with e; injection e with e; omega⟩
    have r6 := b6'.out.rd (B := w6.heap.size) g6
    rw [unbitsL_length] at r6
    have r7 := set_rd r6 (Nat.le_refl _) ⟨w.heap.size + 4, 3, none⟩ (fun _ b o e => by injection e with e; injection e with e; simp; omega) (.slice (some ⟨w3.heap.size, 0, none⟩) M M)
    exact five_rd r7 (Nat.le_refl _) _ (fun _ b o e => by injection e with e; injection e with e; omega) _ _ _ _ _
end Go.Proofs.Ytgagpalffdgjnaa
namespace Go.Proofs.Ytgagpalffdgjnaa
open Go.RowKit

/-- What bytes ask for. -/
def takQ (s : Shape) (l : List Int) : Int := if s.form = 1 then 0 else wordAt l 3
def takT (s : Shape) (l : List Int) : Int := if s.form = 3 then wordAt l 5 else 0
def takL (s : Shape) (l : List Int) : List Int :=
  if s.form = 0 then []
  else if s.form = 1 then (if s.bits then [wordAt l 3 / 65280] else wordsAt l 3 s.vals.toNat)
  else if s.form = 2 then (if s.bits then unbitsL (l.drop 6) (min (wordAt l 3) s.qty).toNat else wordsAt l 6 (min (wordAt l 3) s.qty).toNat)
  else wordsAt l 10 (min (wordAt l 7) s.vals).toNat

theorem taken_any (s : Shape) (k : Int) (hs : shapeOf k = some s) (A : Option Addr) (n c : Nat) (l : List Int) (w : World) (hx : RdI w w.heap.size .u8 A n l) (hl : ByteL l) (hn : 0 < n) (hnc : n ≤ c) (hc : c ≤ maxLen) :
    Calls Try.prog 128 #[s.val, .slice A n c] w (TakenPost (l.getD 0 0) (wordAt l 1) (takQ s l) (takT s l) (takL s l) w) := by
  rcases shape_cases hs with ⟨_, rfl⟩ | ⟨_, rfl⟩ | ⟨_, rfl⟩ | ⟨_, rfl⟩ | ⟨_, rfl⟩ | ⟨_, rfl⟩ | ⟨_, rfl⟩ | ⟨_, rfl⟩
  · exact taken_reads _ _ _ A n c l w hx hl hn
  · exact taken_reads _ _ _ A n c l w hx hl hn
  · exact taken_bit _ _ A n c l w hx hl hn
  · exact taken_regs _ A n c l w hx hl hn 1 (by omega)
  · exact taken_wbits _ _ A n c l w hx hl hn hnc hc (by decide) (by decide)
  · exact taken_wregs _ _ A n c l w hx hl hn (by decide) (by decide)
  · exact taken_regs _ A n c l w hx hl hn 2 (by omega)
  · exact taken_swaps _ _ A n c l w hx hl hn (by decide) (by decide)
end Go.Proofs.Ytgagpalffdgjnaa
namespace Go.Proofs.Ytgagpalffdgjnaa
open Go.RowKit

theorem equal_any (A A' : Option Addr) (n c n' c' B : Nat) (l l' : List Int) (w : World) (hx : RdI w B .u8 A n l) (hy : RdI w B .u8 A' n' l') :
    Calls Try.prog 82 #[.slice A n c, .slice A' n' c'] w fun e w' => e = .returned (.bool ((strOfNums l).toList == (strOfNums l').toList)) ∧ Ext w w' := by
  have e1 := hx.convert Try.underlying34 Try.underlying5 Try.underlying9 c
  have e2 := hy.convert Try.underlying34 Try.underlying5 Try.underlying9 c'
  clear hx hy
  go_enter Try.func82, Try.ntmps82
  go_wp2_with fail
  go_ret
  exact ⟨rfl, Ext.refl _⟩
end Go.Proofs.Ytgagpalffdgjnaa
