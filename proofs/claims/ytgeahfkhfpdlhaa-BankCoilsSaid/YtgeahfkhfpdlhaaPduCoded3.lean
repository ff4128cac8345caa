
/- Layer 4, the walks: coded, registers that are written. -/
import Derived.Test.YtgeahfkhfpdlhaaPduCoded2
import Derived.Deep.RegionHeld3
namespace Go.Proofs.Ytgeahfkhfpdlhaa
open Go.RowKit

set_option maxRecDepth 100000 in
set_option maxHeartbeats 1600000 in
theorem coded_wregs (q v : Int) (fc ad qt to : Int) (A : Option Addr) (n c : Nat) (xs : List Int) (w : World) (hx : RdI w w.heap.size .u16 A n xs) (h0 : 0 ≤ ad) (h1 : ad ≤ 65535) (h2 : 0 ≤ qt) (h3 : qt ≤ 65535) (hn : n ≤ 123) :
    Calls Try.prog 115 #[.agg #[.int .i64 2, .int .i64 q, .int .i64 v, .bool false], .agg #[.int .i64 fc, .int .i64 ad, .int .i64 qt, .slice A n c, .int .i64 to]] w (RetI .u8 (headL fc ad ++ wordsL [qt] ++ [2 * (xs.length : Int)] ++ wordsL xs) w) := by
  have hl := Lib.hid hx.len
  go_enter Try.func115, Try.ntmps115
  go_wp2_with fail
  have X0 := Box2.new w #[.int .i64 2, .int .i64 q, .int .i64 v, .bool false] 144 #[.int .i64 fc, .int .i64 ad, .int .i64 qt, .slice A n c, .int .i64 to] 32
  have o0 := own_new (base := w.heap.size + 2) (w := (w.alloc (.cells #[.int .i64 2, .int .i64 q, .int .i64 v, .bool false] 144)).alloc (.cells #[.int .i64 fc, .int .i64 ad, .int .i64 qt, .slice A n c, .int .i64 to] 32)) (g := w.heap.size + 1 + 1) 5 .u8 (fc % 256) (by simp) (by omega)
  refine (wordsNew_any _ 1 _ 1 _ [fc % 256] [ad] _ _ o0 (by simp) (by simp) rfl rfl (by simp; omega) (by omega)).mono ?_
  rintro e w1 ⟨v1, rfl, own1, mod1, at1⟩
  have X1 := ((X0.alloc _).alloc _).own mod1 (o0.alloc _) (by omega)
  have E1 : Ext w w1 := (((((Ext.refl w).goA _).goA _).goA _).goA _).goM mod1 (fun i hi => by have := (o0.lt i hi).1; omega)
  clear X0 o0 mod1 at1
  have s1 := X1.c0
  have q1 := X1.c1
  have l1 := own1.lt
  have z1 := X1.lt
  go_wp2_with fail
  refine (wordsNew_any _ _ _ 1 _ _ [qt] _ _ own1 (by omega) rfl rfl rfl (by simp; omega) (by omega)).mono ?_
  rintro e w2 ⟨v2, rfl, own2, mod2, at2⟩
  have E2 : Ext w w2 := (E1.goA _).goM mod2 (fun i hi => by have := (l1 i hi).1; omega)
  have X2 := (X1.alloc _).own mod2 (own1.alloc _) (by omega)
  clear own1 mod2 at2 s1 q1 l1
  have s2 := X2.c0
  have q2 := X2.c1
  have l2 := own2.lt
  have z2 := X2.lt
  have own2' : w2.drew.ownsRow (w.heap.size + 2) 5 1 v2 _ _ := own2
  have D0 : Box2 w2.drew w.heap.size #[Value.int IntKind.i64 2, Value.int IntKind.i64 q, Value.int IntKind.i64 v, Value.bool false] 144 #[Value.int IntKind.i64 fc, Value.int IntKind.i64 ad, Value.int IntKind.i64 qt, Value.slice A n c, Value.int IntKind.i64 to] 32 := X2
  have hq : ∀ w', Box2 w' w.heap.size #[Value.int IntKind.i64 2, Value.int IntKind.i64 q, Value.int IntKind.i64 v, Value.bool false] 144 #[Value.int IntKind.i64 fc, Value.int IntKind.i64 ad, Value.int IntKind.i64 qt, Value.slice A n c, Value.int IntKind.i64 to] 32 → w'.cell? ⟨w.heap.size + 1, 3, none⟩ = some (.slice A n c) := fun w' h => h.c1 3
  have ew : IntKind.u8.wrap (IntKind.i64.wrap (2 * (n : Int))) = 2 * n := by rw [IntKind.wrap_i64, IntKind.wrap_u8]; omega
  have el : 2 * (n : Int) % 256 = 2 * (n : Int) := by omega
  go_wp2_with fail
  go_region_held3 (fun w' => Box2 w' w.heap.size #[Value.int IntKind.i64 2, Value.int IntKind.i64 q, Value.int IntKind.i64 v, Value.bool false] 144 #[Value.int IntKind.i64 fc, Value.int IntKind.i64 ad, Value.int IntKind.i64 qt, Value.slice A n c, Value.int IntKind.i64 to] 32) (first | assumption | exact Box2.alloc (by assumption) _)
    (first
      | (refine step_appI rfl (.tmp 73) (.tmp 79) _ rfl Try.underlying33 info_u8 (own2'.alloc _) rfl (RdI.one _ _ _ _) rfl (by omega) (by omega) (by simp; omega) ?_
         intro v4 w4 own4 hg4 hat4
         have M4 : Ext w w4 := ((E2.goA _).goD 1).goG hg4 (fun k hk => by have := (l2 k hk).1; omega)
         have X4 := X2.keep (w' := w4) (fun b hb => (hg4.block b (by simp; omega) (fun h => by have := (l2 b h.symm).1; omega)).trans (Below.heap_alloc _ _ b (by omega))))
      | (go_at_call 135
         refine (words16_any v4 _ _ _ n c _ xs A _ own4 (by have := X4.lt; omega) (hx.ext M4) (fun h b o e => own_far own4 (by have := hx.lt_of h e; omega)) (by omega)).mono ?_
         rintro e w5 ⟨v5, rfl, own5, mod5, at5⟩
         have X5 := X4.own mod5 own4 (by omega)))
  go_wp2_with fail
  go_ret
  obtain ⟨A', c', rfl, ⟨hc1, hc2⟩, r⟩ := own_rd own5
  rw [hl.out]
  exact ⟨A', _, c', rfl, hc1, hc2, r, M4.goM mod5 (fun i hi => by have := (own4.lt i hi).1; omega)⟩

set_option maxRecDepth 100000 in
set_option maxHeartbeats 1600000 in
theorem coded_swaps (q v : Int) (fc ad qt to : Int) (A : Option Addr) (n c : Nat) (xs : List Int) (w : World) (hx : RdI w w.heap.size .u16 A n xs) (h0 : 0 ≤ ad) (h1 : ad ≤ 65535) (h2 : 0 ≤ qt) (h3 : qt ≤ 65535) (h4 : 0 ≤ to) (h5 : to ≤ 65535) (hn : n ≤ 123) :
    Calls Try.prog 115 #[.agg #[.int .i64 3, .int .i64 q, .int .i64 v, .bool false], .agg #[.int .i64 fc, .int .i64 ad, .int .i64 qt, .slice A n c, .int .i64 to]] w (RetI .u8 (headL fc ad ++ wordsL [qt, to, (xs.length : Int)] ++ [2 * (xs.length : Int)] ++ wordsL xs) w) := by
  have hl := Lib.hid hx.len
  go_enter Try.func115, Try.ntmps115
  go_wp2_with fail
  have X0 := Box2.new w #[.int .i64 3, .int .i64 q, .int .i64 v, .bool false] 144 #[.int .i64 fc, .int .i64 ad, .int .i64 qt, .slice A n c, .int .i64 to] 32
  have o0 := own_new (base := w.heap.size + 2) (w := (w.alloc (.cells #[.int .i64 3, .int .i64 q, .int .i64 v, .bool false] 144)).alloc (.cells #[.int .i64 fc, .int .i64 ad, .int .i64 qt, .slice A n c, .int .i64 to] 32)) (g := w.heap.size + 1 + 1) 5 .u8 (fc % 256) (by simp) (by omega)
  refine (wordsNew_any _ 1 _ 1 _ [fc % 256] [ad] _ _ o0 (by simp) (by simp) rfl rfl (by simp; omega) (by omega)).mono ?_
  rintro e w1 ⟨v1, rfl, own1, mod1, at1⟩
  have X1 := ((X0.alloc _).alloc _).own mod1 (o0.alloc _) (by omega)
  have E1 : Ext w w1 := (((((Ext.refl w).goA _).goA _).goA _).goA _).goM mod1 (fun i hi => by have := (o0.lt i hi).1; omega)
  clear X0 o0 mod1 at1
  have s1 := X1.c0
  have q1 := X1.c1
  have l1 := own1.lt
  have z1 := X1.lt
  go_wp2_with fail
  refine (wordsNew_any _ _ _ 3 _ _ [qt, to, (n : Int)] _ _ own1 (by omega) rfl rfl rfl (by simp; omega) (by omega)).mono ?_
  rintro e w2 ⟨v2, rfl, own2, mod2, at2⟩
  have E2 : Ext w w2 := (E1.goA _).goM mod2 (fun i hi => by have := (l1 i hi).1; omega)
  have X2 := (X1.alloc _).own mod2 (own1.alloc _) (by omega)
  clear own1 mod2 at2 s1 q1 l1
  have s2 := X2.c0
  have q2 := X2.c1
  have l2 := own2.lt
  have z2 := X2.lt
  have own2' : w2.drew.ownsRow (w.heap.size + 2) 5 1 v2 _ _ := own2
  have D0 : Box2 w2.drew w.heap.size #[Value.int IntKind.i64 3, Value.int IntKind.i64 q, Value.int IntKind.i64 v, Value.bool false] 144 #[Value.int IntKind.i64 fc, Value.int IntKind.i64 ad, Value.int IntKind.i64 qt, Value.slice A n c, Value.int IntKind.i64 to] 32 := X2
  have hq : ∀ w', Box2 w' w.heap.size #[Value.int IntKind.i64 3, Value.int IntKind.i64 q, Value.int IntKind.i64 v, Value.bool false] 144 #[Value.int IntKind.i64 fc, Value.int IntKind.i64 ad, Value.int IntKind.i64 qt, Value.slice A n c, Value.int IntKind.i64 to] 32 → w'.cell? ⟨w.heap.size + 1, 3, none⟩ = some (.slice A n c) := fun w' h => h.c1 3
  have ew : IntKind.u8.wrap (IntKind.i64.wrap (2 * (n : Int))) = 2 * n := by rw [IntKind.wrap_i64, IntKind.wrap_u8]; omega
  have el : 2 * (n : Int) % 256 = 2 * (n : Int) := by omega
  go_wp2_with fail
  go_region_held3 (fun w' => Box2 w' w.heap.size #[Value.int IntKind.i64 3, Value.int IntKind.i64 q, Value.int IntKind.i64 v, Value.bool false] 144 #[Value.int IntKind.i64 fc, Value.int IntKind.i64 ad, Value.int IntKind.i64 qt, Value.slice A n c, Value.int IntKind.i64 to] 32) (first | assumption | exact Box2.alloc (by assumption) _)
    (first
      | (refine step_appI rfl (.tmp 73) (.tmp 79) _ rfl Try.underlying33 info_u8 (own2'.alloc _) rfl (RdI.one _ _ _ _) rfl (by omega) (by omega) (by simp; omega) ?_
         intro v4 w4 own4 hg4 hat4
         have M4 : Ext w w4 := ((E2.goA _).goD 1).goG hg4 (fun k hk => by have := (l2 k hk).1; omega)
         have X4 := X2.keep (w' := w4) (fun b hb => (hg4.block b (by simp; omega) (fun h => by have := (l2 b h.symm).1; omega)).trans (Below.heap_alloc _ _ b (by omega))))
      | (go_at_call 135
         refine (words16_any v4 _ _ _ n c _ xs A _ own4 (by have := X4.lt; omega) (hx.ext M4) (fun h b o e => own_far own4 (by have := hx.lt_of h e; omega)) (by omega)).mono ?_
         rintro e w5 ⟨v5, rfl, own5, mod5, at5⟩
         have X5 := X4.own mod5 own4 (by omega)))
  go_wp2_with fail
  go_ret
  obtain ⟨A', c', rfl, ⟨hc1, hc2⟩, r⟩ := own_rd own5
  rw [hl.out]
  exact ⟨A', _, c', rfl, hc1, hc2, r, M4.goM mod5 (fun i hi => by have := (own4.lt i hi).1; omega)⟩
end Go.Proofs.Ytgeahfkhfpdlhaa
