
/- Layer 6: the live question. -/
import Derived.Test.YtgeahfkhfpdlhaaBankServe
import Derived.Test.YtgeahfkhfpdlhaaRef04
namespace Go.Proofs.Ytgeahfkhfpdlhaa
open Go.RowKit

def hb0 : Nat → List Int := newL 4 4 4 4
def hb1 : Nat → List Int := doL hb0 16 1 2 0 [7, 8]
def hb2 : Nat → List Int := doL hb1 3 0 4 0 []
def hb3 : Nat → List Int := doL hb2 3 2 3 0 []
def hb4 : Nat → List Int := serveL hb3 [22, 0, 1, 0, 6, 0, 9]
def hb5 : Nat → List Int := putB hb4 1 3 9
theorem h6_a : doC hb0 16 1 2 0 [7, 8] = 0 ∧ doY hb0 16 1 2 0 [7, 8] = [] := ⟨by kernel_rfl, by kernel_rfl⟩
theorem h6_c : doC hb1 3 0 4 0 [] = 0 ∧ doY hb1 3 0 4 0 [] = [0, 7, 8, 0] := ⟨by kernel_rfl, by kernel_rfl⟩
theorem h6_d : doC hb2 3 2 3 0 [] = 2 ∧ doY hb2 3 2 3 0 [] = [] := ⟨by kernel_rfl, by kernel_rfl⟩
theorem h6_e : serveY hb3 [22, 0, 1, 0, 6, 0, 9] = [22, 0, 1, 0, 6, 0, 9] := by kernel_rfl
theorem h6_at : atB hb4 2 1 = 15 ∧ spanB hb4 2 1 1 = true ∧ spanB hb4 2 4 1 = false ∧ spanB hb4 1 3 1 = true ∧ atB hb5 1 3 = 1 ∧ sizeB hb5 2 = 4 := ⟨by kernel_rfl, by kernel_rfl, by kernel_rfl, by kernel_rfl, by kernel_rfl, by kernel_rfl⟩
theorem h6_s : serveY hb5 [9] = [137, 1] := by kernel_rfl
theorem h6_str : strOfNums [22, 0, 1, 0, 6, 0, 9] = ByteArray.mk #[22, 0, 1, 0, 6, 0, 9] := by kernel_rfl
theorem h6_str2 : strOfNums [137, 1] = ByteArray.mk #[137, 1] := by kernel_rfl
theorem h6_bytes : ByteL [22, 0, 1, 0, 6, 0, 9] ∧ ByteL [9] := ⟨rng_of (by omega) (by omega) (by decide), rng_of (by omega) (by omega) (by decide)⟩
theorem h6_vals : ∀ j : Nat, 0 ≤ ([7, 8] : List Int)[j]?.getD 0 ∧ ([7, 8] : List Int)[j]?.getD 0 ≤ 65535 := rng_of (by omega) (by omega) (by decide)
theorem Mod.box {S : Nat → Prop} {w w' : World} {g : Nat} {cs : Array Value} {t : TypeId} (M : Mod S w w') (h : w.heap[g]? = some (.cells cs t (0, 0))) (hs : ¬ S g) : w'.heap[g]? = some (.cells cs t (0, 0)) := (M.block g (lt_of_block h) hs).trans h

set_option maxRecDepth 100000 in
set_option maxHeartbeats 6400000 in
theorem bankHead_any (w : World) : Calls Try.prog 16 #[] w fun e w' => e = .returned (.bool true) ∧ Ext w w' := by
  obtain ⟨y1, y2⟩ := h6_bytes
  have y1' := Lib.hid y1
  have y2' := Lib.hid y2
  clear y1 y2
  go_enter Try.func16, Try.ntmps16
  go_wp2_with fail
  refine (bankNew_any 4 4 4 4 w).mono ?_
  rintro e w1 ⟨g, G, rfl, B1, E1, hg⟩
  have hrow : ∀ i, RowsOf G i → w.heap.size ≤ i ∧ i < w1.heap.size := fun i h => ⟨by obtain ⟨k, hk, rfl⟩ := h; have := B1.gt hk; omega, B1.old (.inr h)⟩
  have hrow' := Lib.hid hrow
  have B1' : Hid (Bk w1 g hb0 G) := Lib.hid B1
  have hgl := B1.lt
  clear hrow B1
  go_wp2_with fail
  have D1 := (Ext.refl w1).goA (.cells #[.int .u16 7, .int .u16 8] 34)
  refine (bankDo_any g 16 1 2 0 _ 2 2 [7, 8] hb0 G _ (B1'.out.ext D1) (by rw [alloc_size]; exact RdI.new [7, 8] rfl rfl rfl) h6_vals (by decide)).mono ?_
  rw [h6_a.1, h6_a.2]
  rintro e w2 ⟨A2, n2, c2, rfl, g2, g2', r2, -, B2, M2⟩
  have m2 := (Mod.ofBelow (S := RowsOf G) D1).trans M2
  have s2 := m2.size
  have Q2 := heap_alloc_new w2 (.cells #[.int .i64 0, .slice A2 n2 c2] 40)
  have B2' : Hid (Bk w2 g hb1 G) := Lib.hid B2
  have Q2' := Lib.hid Q2
  clear B2 Q2 r2 D1
  go_wp2_with fail
  have D2 := (Ext.refl w2).goA (.cells #[.int .i64 0, .slice A2 n2 c2] 40)
  refine (bankDo_any g 3 0 4 0 none 0 0 [] hb1 G _ (B2'.out.ext D2) (RdI.nil _) (by simp) (by decide)).mono ?_
  rw [h6_c.1, h6_c.2]
  rintro e w3 ⟨A3, n3, c3, rfl, g3, g3', r3, fr3, B3, M3⟩
  have m3 := (Mod.ofBelow (S := RowsOf G) D2).trans M3
  have s3 := M3.size
  rw [alloc_size] at s3 fr3
  have Q3 := heap_alloc_new w3 (.cells #[.int .i64 0, .slice A3 n3 c3] 40)
  have B3' : Hid (Bk w3 g hb2 G) := Lib.hid B3
  have Q3' := Lib.hid Q3
  clear B3 Q3 D2
  go_wp2_with fail
  have D3 := (Ext.refl w3).goA (.cells #[.int .i64 0, .slice A3 n3 c3] 40)
  refine (bankDo_any g 3 2 3 0 none 0 0 [] hb2 G _ (B3'.out.ext D3) (RdI.nil _) (by simp) (by decide)).mono ?_
  rw [h6_d.1, h6_d.2]
  rintro e w4 ⟨A4, n4, c4, rfl, g4, g4', r4, -, B4, M4⟩
  have m4 := (Mod.ofBelow (S := RowsOf G) D3).trans M4
  have s4 := M4.size
  rw [alloc_size] at s4
  have Q4 := heap_alloc_new w4 (.cells #[.int .i64 2, .slice A4 n4 c4] 40)
  have B4' : Hid (Bk w4 g hb3 G) := Lib.hid B4
  have Q4' := Lib.hid Q4
  clear B4 Q4 r4 D3
  go_wp2_with fail
  have D4 := ((Ext.refl w4).goA (.cells #[.int .i64 2, .slice A4 n4 c4] 40)).goA (.cells #[.int .u8 22, .int .u8 0, .int .u8 1, .int .u8 0, .int .u8 6, .int .u8 0, .int .u8 9] 5)
  refine (bankServe_any g _ 7 7 [22, 0, 1, 0, 6, 0, 9] hb3 G _ (B4'.out.ext D4) (by rw [alloc_size, alloc_size]; exact RdI.new [22, 0, 1, 0, 6, 0, 9] (by simp) rfl rfl) y1'.out (by decide) (by decide)).mono ?_
  rw [h6_e]
  rintro e w5 ⟨A5, n5, c5, rfl, g5, g5', r5, B5, M5⟩
  have m5 := (Mod.ofBelow (S := RowsOf G) D4).trans M5
  have m45 := (Mod.ofBelow (S := RowsOf G) ((Ext.refl (w4.alloc (.cells #[.int .i64 2, .slice A4 n4 c4] 40))).goA (.cells #[.int .u8 22, .int .u8 0, .int .u8 1, .int .u8 0, .int .u8 6, .int .u8 0, .int .u8 9] 5))).trans M5
  have s5 := m45.size
  rw [alloc_size] at s5
  have B5' : Hid (Bk w5 g hb4 G) := Lib.hid B5
  clear B5 D4
  go_wp2_with fail
  refine (bankAt_any g 2 1 hb4 G w5 B5'.out).mono ?_
  rw [h6_at.1, h6_at.2.1]
  rintro e w6 ⟨rfl, rfl⟩
  go_wp2_with fail
  refine (bankAt_any g 2 4 hb4 G _ B5'.out).mono ?_
  rw [h6_at.2.2.1]
  rintro e w6 ⟨rfl, rfl⟩
  go_wp2_with fail
  refine (bankPut_any g 1 3 9 hb4 G _ B5'.out (by omega) (by omega)).mono ?_
  rintro e w6 ⟨rfl, B6, M6⟩
  rw [h6_at.2.2.2.1]
  have B6' : Hid (Bk w6 g hb5 G) := Lib.hid B6
  have s6 := M6.size
  clear B6
  go_wp2_with fail
  refine (bankAt_any g 1 3 hb5 G _ B6'.out).mono ?_
  rw [h6_at.2.2.2.2.1]
  rintro e w7 ⟨rfl, rfl⟩
  have m456 := m45.trans M6
  have m356 : Mod (RowsOf G) (w3.alloc (.cells #[.int .i64 0, .slice A3 n3 c3] 40)) w6 := (M4.trans (Mod.ofBelow ((Ext.refl w4).goA _))).trans m456
  have m256 : Mod (RowsOf G) (w2.alloc (.cells #[.int .i64 0, .slice A2 n2 c2] 40)) w6 := (M3.trans (Mod.ofBelow ((Ext.refl w3).goA _))).trans m356
  have X2 := m256.box Q2'.out (fun h => by have := hrow'.out _ h; omega)
  have X3 := m356.box Q3'.out (fun h => by have := hrow'.out _ h; omega)
  have X4 := m456.box Q4'.out (fun h => by have := hrow'.out _ h; omega)
  have x2 := cellsAt X2
  have x3 := cellsAt X3
  have x4 := cellsAt X4
  have x3' := fun o => cellsAt (((Ext.refl w6).goA (.cells #[.int .u16 0, .int .u16 7, .int .u16 8, .int .u16 0] 34)).block w3.heap.size (lt_of_block X3) |>.trans X3) o
  have r3' := (r3.ext ((Ext.refl w3).goA (.cells #[.int .i64 0, .slice A3 n3 c3] 40))).mod m356 (fun b o e h => by have := hrow'.out _ h; have := fr3 b o e; omega)
  have G6 := (Ext.refl w6).goA (.cells #[.int .u16 0, .int .u16 7, .int .u16 8, .int .u16 0] 34)
  have X4' := Lib.hid X4
  have r5' := r5.past B5'.out M6
  have X2' := Lib.hid X2
  have X3' := Lib.hid X3
  have hT : Ext w w6 := ((E1.goM ((((m2.trans m3).trans m4).trans m5).trans M6) (fun i hi => by have := hrow'.out i hi; omega)))
  clear x3' r5 X2 X3
  go_wp2_with fail
  refine (sameVals_any _ _ _ _ _ _ _ _ _ _ (r3'.ext G6) ((RdI.new [0, 7, 8, 0] rfl rfl rfl).more (by rw [alloc_size]; exact Nat.le_refl _)) (Nat.le_trans g3 g3') (by decide)).mono ?_
  rintro e w7 ⟨rfl, k, rfl⟩
  rw [show decide (([0, 7, 8, 0] : List Int) = [0, 7, 8, 0]) = true from rfl]
  have G7 := G6.goD k
  have x4' := cellsAt ((G7.block _ (lt_of_block X4'.out)).trans X4'.out)
  have b5 := (r5'.ext G7).convert Try.underlying33 Try.underlying5 Try.underlying9 c5
  rw [h6_str] at b5
  have B7 := Lib.hid (B6'.out.ext G7)
  clear x2 x3 x4 r3'
  go_wp2_with fail
  refine (bankSize_any g 2 hb5 G _ B7.out).mono ?_
  rw [h6_at.2.2.2.2.2]
  rintro e w8 ⟨rfl, rfl⟩
  go_wp2_with fail
  have G8 := (Ext.refl ((w6.alloc (.cells #[.int .u16 0, .int .u16 7, .int .u16 8, .int .u16 0] 34)).drewN k)).goA (.cells #[.int .u8 9] 5)
  refine (bankServe_any g _ 1 1 [9] hb5 G _ (B7.out.ext G8) ((RdI.new [9] (by simp) rfl rfl).more (by simp)) y2'.out (by decide) (by decide)).mono ?_
  rw [h6_s]
  rintro e w9 ⟨A9, n9, c9, rfl, g9, g9', r9, B9, M9⟩
  have b9 := r9.convert Try.underlying33 Try.underlying5 Try.underlying9 c9
  rw [h6_str2] at b9
  go_wp2_with fail
  go_ret
  exact ⟨rfl, ((hT.go G7).go G8).goM M9 (fun i hi => by have := hrow'.out i hi; omega)⟩
end Go.Proofs.Ytgeahfkhfpdlhaa
