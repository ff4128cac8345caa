
/- Layer 4, the walks: coded, what is written. -/
import Derived.Test.YtgeahfkhfpdlhaaPduCoded
namespace Go.Proofs.Ytgeahfkhfpdlhaa
open Go.RowKit

set_option maxRecDepth 100000 in
set_option maxHeartbeats 1600000 in
theorem coded_bits (q v : Int) (fc ad qt to : Int) (A : Option Addr) (n c : Nat) (xs : List Int) (w : World) (hx : RdI w w.heap.size .u16 A n xs) (h0 : 0 ≤ ad) (h1 : ad ≤ 65535) (h2 : 0 ≤ qt) (h3 : qt ≤ 65535) (hn : n ≤ 1968) :
    Calls Try.prog 115 #[.agg #[.int .i64 2, .int .i64 q, .int .i64 v, .bool true], .agg #[.int .i64 fc, .int .i64 ad, .int .i64 qt, .slice A n c, .int .i64 to]] w (RetI .u8 (headL fc ad ++ wordsL [qt] ++ [((xs.length : Int) + 7) / 8] ++ bitsL xs) w) := by
  have hl := Lib.hid hx.len
  go_enter Try.func115, Try.ntmps115
  go_wp2_with fail
  have X0 := Box2.new w #[.int .i64 2, .int .i64 q, .int .i64 v, .bool true] 144 #[.int .i64 fc, .int .i64 ad, .int .i64 qt, .slice A n c, .int .i64 to] 32
  have o0 := own_new (base := w.heap.size + 2) (w := (w.alloc (.cells #[.int .i64 2, .int .i64 q, .int .i64 v, .bool true] 144)).alloc (.cells #[.int .i64 fc, .int .i64 ad, .int .i64 qt, .slice A n c, .int .i64 to] 32)) (g := w.heap.size + 1 + 1) 5 .u8 (fc % 256) (by simp) (by omega)
  refine (wordsNew_any _ 1 _ 1 _ [fc % 256] [ad] _ _ o0 (by simp) (by simp) rfl rfl (by simp; omega) (by omega)).mono ?_
  rintro e w1 ⟨v1, rfl, own1, mod1, at1⟩
  have X1 := ((X0.alloc _).alloc _).own mod1 (o0.alloc _) (by omega)
  have E1 : Ext w w1 := (((((Ext.refl w).goA _).goA _).goA _).goA _).goM mod1 (fun i hi => by have := (o0.lt i hi).1; omega)
  clear X0 o0 mod1 at1
  have s1 := X1.c0
  have q1 := X1.c1
  have l1 := own1.lt
  have z1 := X1.lt
  go_wp2_with fail
  refine (wordsNew_any _ _ _ 1 _ _ [qt] _ _ own1 (by omega) rfl rfl rfl (by simp; omega) (by omega)).mono ?_
  rintro e w2 ⟨v2, rfl, own2, mod2, at2⟩
  have E2 : Ext w w2 := (E1.goA _).goM mod2 (fun i hi => by have := (l1 i hi).1; omega)
  have X2 := (X1.alloc _).own mod2 (own1.alloc _) (by omega)
  clear own1 mod2 at2 s1 q1 l1
  have s2 := X2.c0
  have q2 := X2.c1
  have l2 := own2.lt
  have z2 := X2.lt
  go_wp2_with fail
  refine (bits_any A n c xs _ (hx.ext E2) (by omega)).mono ?_
  rintro e w3 ⟨rfl, b3, E3⟩
  have own3 := own_ext own2 E3
  have b3' := Lib.hid b3
  clear b3
  have hb3 : (bitsL xs).length = (n + 7) / 8 := by rw [← hl.out]; exact bitsTo_length _ _
  have g3 := E3.size
  have el : ((n : Int) + 7) / 8 % 256 = ((n : Int) + 7) / 8 := by omega
  have E4 := E2.go E3
  go_wp2_with (at_builtin; refine wpList_appI rfl (.tmp 65) (.tmp 69) _ rfl Try.underlying33 info_u8 (own3.alloc _) rfl (RdI.one _ _ _ _) rfl (by omega) (by omega) (by simp; omega) ?_)
  intro v4 w4 own4 hg4 hat4
  have e4 : Ext w w4 := (E4.goA _).goG hg4 (fun k hk => by have := (own3.lt k hk).1; omega)
  have b4 : Blk w4 w2.heap.size 5 .u8 (bitsL xs) := (hg4.block _ (b3'.out.alloc _).lt (fun h => by have := (l2 _ h.symm).2; omega)).trans (b3'.out.alloc _)
  have z4 := hg4.size
  replace z4 : w3.heap.size ≤ w4.heap.size := by simp at z4; omega
  replace own4 : w4.ownsRow (w.heap.size + 2) 5 1 v4 6 ((headL fc ad ++ wordsL [qt] ++ [((n : Int) + 7) / 8]).map (Value.int .u8)) := by simpa [headL] using own4
  clear hg4 hat4 own3
  have r4 := (b4.rd (B := w4.heap.size) b4.lt)
  rw [hb3] at r4
  clear b4
  go_wp2_with (at_builtin; refine wpList_appI rfl (.tmp 70) (.tmp 71) _ rfl Try.underlying33 info_u8 own4 rfl r4 rfl (by omega) (by omega) (by omega) ?_)
  intro v5 w5 own5 hg5 hat5
  have e5 : Ext w w5 := e4.goG hg5 (fun k hk => by have := (own4.lt k hk).1; omega)
  replace own5 : w5.ownsRow (w.heap.size + 2) 5 1 v5 (6 + (n + 7) / 8) ((headL fc ad ++ wordsL [qt] ++ [((n : Int) + 7) / 8] ++ bitsL xs).map (Value.int .u8)) := by simpa using own5
  go_wp2_with fail
  go_ret
  obtain ⟨A', c', rfl, ⟨hc1, hc2⟩, r⟩ := own_rd own5
  rw [hl.out]
  exact ⟨A', _, c', rfl, hc1, hc2, r, e5⟩
end Go.Proofs.Ytgeahfkhfpdlhaa
