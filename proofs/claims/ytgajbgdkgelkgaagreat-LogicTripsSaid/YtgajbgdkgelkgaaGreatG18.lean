/- Layer 17, the live question: the matrix of the small text. Printed by gen/hda.py. · Layer 17, the live question is answered true: what it comes to, plain. Printed by gen/hdb.py. -/
import Derived.Test.YtgajbgdkgelkgaaGreatR8I
import Derived.Test.YtgajbgdkgelkgaaGreatG14
import Derived.Test.YtgajbgdkgelkgaaGreatG15
namespace Go.Proofs.YtgajbgdkgelkgaaGreat
open Go.RowKit

def text17 : ByteArray := ⟨#[119, 97, 116, 99, 104, 32, 49, 32, 51, 32, 53, 32, 52, 10, 107, 101, 121, 32, 48, 49, 50, 51, 52, 53, 54, 55, 56, 57, 97, 98, 99, 100, 101, 102, 10, 100, 101, 118, 105, 99, 101, 32, 100, 32, 48, 32, 49, 10, 112, 111, 105, 110, 116, 32, 112, 32, 100, 32, 48, 32, 49, 32, 50, 32, 48, 10, 112, 111, 105, 110, 116, 32, 113, 32, 100, 32, 49, 32, 49, 32, 48, 32, 48, 10, 99, 97, 117, 115, 101, 32, 99, 32, 49, 32, 97, 32, 53, 48, 32, 112, 32, 113, 10, 101, 102, 102, 101, 99, 116, 32, 101, 32, 100, 32, 51, 32, 48, 32, 99, 10]⟩
def oneM (key : ByteArray) : Mx := ⟨1, 3, 5, 4, key, none, 0, 0, [⟨⟨#[100]⟩, 0, 1⟩], none, 0, 0, [⟨⟨#[112]⟩, 0, 0, 1, 2, 0⟩, ⟨⟨#[113]⟩, 0, 1, 1, 0, 0⟩], none, 0, 0, [⟨⟨#[99]⟩, 1, 1, 50, none, 0, 0, [0, 1]⟩], none, 0, 0, [⟨⟨#[101]⟩, 0, 3, 0, none, 0, 0, [0]⟩]⟩
def key0 : ByteArray := ⟨#[48, 49, 50, 51, 52, 53, 54, 55, 56, 57, 97, 98, 99, 100, 101, 102]⟩
abbrev open17 : ByteArray := ⟨#[111, 112, 101, 110]⟩
set_option maxRecDepth 1000000 in
set_option maxHeartbeats 4000000 in
theorem parse_text : parseR text17 = (oneM key0, 0, 0) := by kernel_rfl
set_option maxRecDepth 1000000 in
set_option maxHeartbeats 800000 in
theorem text_any17 (w : World) : Calls Tryz.prog 47 #[] w fun e w' => e = .returned (.string text17) ∧ w = w' := by
  go_enter Tryz.func47, Tryz.ntmps47
  go_wp2_with fail
  go_ret
  exact ⟨rfl, rfl⟩
def setKey (m : Mx) (k : ByteArray) : Mx := { m with key := k }
set_option maxRecDepth 100000 in
set_option maxHeartbeats 3200000 in
theorem keyed17_any (m : Mx) (w : World) : Calls Tryz.prog 48 #[m.val] w fun e w' => e = .returned (setKey m (sumS open17)).val ∧ Ext w w' := by
  have E0 := ((Ext.refl w).goA (.cells m.arr 27)).goA (.cells #[.int .i64 0, .int .i64 0, .int .i64 0, .int .i64 0, .string ⟨#[]⟩, .slice none 0 0, .slice none 0 0, .slice none 0 0, .slice none 0 0] 27)
  have B0 := (((Ext.refl (w.alloc (.cells m.arr 27))).goA (.cells #[.int .i64 0, .int .i64 0, .int .i64 0, .int .i64 0, .string ⟨#[]⟩, .slice none 0 0, .slice none 0 0, .slice none 0 0, .slice none 0 0] 27)).block w.heap.size (by simp)).trans (heap_alloc_new w (.cells m.arr 27))
  have R0 := heap_alloc_new (w.alloc (.cells m.arr 27)) (.cells #[.int .i64 0, .int .i64 0, .int .i64 0, .int .i64 0, .string ⟨#[]⟩, .slice none 0 0, .slice none 0 0, .slice none 0 0, .slice none 0 0] 27)
  have S0 : (w.alloc (.cells m.arr 27)).heap.size = w.heap.size + 1 := by simp
  rw [S0] at R0
  have S1 : ((w.alloc (.cells m.arr 27)).alloc (.cells #[.int .i64 0, .int .i64 0, .int .i64 0, .int .i64 0, .string ⟨#[]⟩, .slice none 0 0, .slice none 0 0, .slice none 0 0, .slice none 0 0] 27)).heap.size = w.heap.size + 2 := by simp
  unfold Mx.val
  go_enter Tryz.func48, Tryz.ntmps48
  go_upto_region 1 with fail
  generalize (w.alloc (.cells m.arr 27)).alloc (.cells #[.int .i64 0, .int .i64 0, .int .i64 0, .int .i64 0, .string ⟨#[]⟩, .slice none 0 0, .slice none 0 0, .slice none 0 0, .slice none 0 0] 27) = V at *
  clear S0
  go_upto_region 2 with (go_at_call 43; refine (refSum_any _ _ (by decide)).mono ?_; rintro e W1 ⟨rfl, X1⟩; have B1 := (X1.block w.heap.size (by omega)).trans B0; have R1 := (X1.block (w.heap.size + 1) (by omega)).trans R0; have gB1 := lt_of_block B1; have fB1 := frozenIn B1 4; have y4 : W1.cell? ⟨w.heap.size, 4, none⟩ = some (.string m.key) := cellsAt B1 4)
  have B2 := sets_block B1 4 (.string (sumS ⟨#[111, 112, 101, 110]⟩))
  have M2 : Mod (fun b => b = w.heap.size) W1 (W1.setCell ⟨w.heap.size, 4, none⟩ (.string (sumS ⟨#[111, 112, 101, 110]⟩))) := (Mod.refl (fun b => b = w.heap.size) W1).setCell (p := ⟨w.heap.size, 4, none⟩) (.inl rfl) _
  have R2 := (M2.block (w.heap.size + 1) (lt_of_block R1) (by omega)).trans R1
  clear y4 fB1
  generalize W1.setCell ⟨w.heap.size, 4, none⟩ (.string (sumS ⟨#[111, 112, 101, 110]⟩)) = W2 at *
  have gB2 := lt_of_block B2
  have gR2 := lt_of_block R2
  have y0 : W2.cell? ⟨w.heap.size, 0, none⟩ = some (.int .i64 m.rt) := cellsAt B2 0
  have y1 : W2.cell? ⟨w.heap.size, 1, none⟩ = some (.int .i64 m.wt) := cellsAt B2 1
  have y2 : W2.cell? ⟨w.heap.size, 2, none⟩ = some (.int .i64 m.bk) := cellsAt B2 2
  have y3 : W2.cell? ⟨w.heap.size, 3, none⟩ = some (.int .i64 m.cy) := cellsAt B2 3
  have y4 : W2.cell? ⟨w.heap.size, 4, none⟩ = some (.string (sumS ⟨#[111, 112, 101, 110]⟩)) := cellsAt B2 4
  have y5 : W2.cell? ⟨w.heap.size, 5, none⟩ = some (.slice m.Ad m.nd m.cd) := cellsAt B2 5
  have y6 : W2.cell? ⟨w.heap.size, 6, none⟩ = some (.slice m.Ap m.np m.cp) := cellsAt B2 6
  have y7 : W2.cell? ⟨w.heap.size, 7, none⟩ = some (.slice m.Ac m.nc m.cc) := cellsAt B2 7
  have y8 : W2.cell? ⟨w.heap.size, 8, none⟩ = some (.slice m.Ae m.ne m.ce) := cellsAt B2 8
  have z0 : W2.cell? ⟨w.heap.size + 1, 0, none⟩ = some (.int .i64 0) := cellsAt R2 0
  have f0 := frozenIn R2 0
  have z1 : W2.cell? ⟨w.heap.size + 1, 1, none⟩ = some (.int .i64 0) := cellsAt R2 1
  have f1 := frozenIn R2 1
  have z2 : W2.cell? ⟨w.heap.size + 1, 2, none⟩ = some (.int .i64 0) := cellsAt R2 2
  have f2 := frozenIn R2 2
  have z3 : W2.cell? ⟨w.heap.size + 1, 3, none⟩ = some (.int .i64 0) := cellsAt R2 3
  have f3 := frozenIn R2 3
  have z4 : W2.cell? ⟨w.heap.size + 1, 4, none⟩ = some (.string ⟨#[]⟩) := cellsAt R2 4
  have f4 := frozenIn R2 4
  have z5 : W2.cell? ⟨w.heap.size + 1, 5, none⟩ = some (.slice none 0 0) := cellsAt R2 5
  have f5 := frozenIn R2 5
  have z6 : W2.cell? ⟨w.heap.size + 1, 6, none⟩ = some (.slice none 0 0) := cellsAt R2 6
  have f6 := frozenIn R2 6
  have z7 : W2.cell? ⟨w.heap.size + 1, 7, none⟩ = some (.slice none 0 0) := cellsAt R2 7
  have f7 := frozenIn R2 7
  have z8 : W2.cell? ⟨w.heap.size + 1, 8, none⟩ = some (.slice none 0 0) := cellsAt R2 8
  have f8 := frozenIn R2 8
  go_wp2_with fail
  have hz9 := nine8 R2 (.int .i64 m.rt) (.int .i64 m.wt) (.int .i64 m.bk) (.int .i64 m.cy) (.string (sumS ⟨#[111, 112, 101, 110]⟩)) (.slice m.Ad m.nd m.cd) (.slice m.Ap m.np m.cp) (.slice m.Ac m.nc m.cc) (.slice m.Ae m.ne m.ce)
  have hm9 := nine8_mod (w := W2) (i := w.heap.size + 1) (.int .i64 m.rt) (.int .i64 m.wt) (.int .i64 m.bk) (.int .i64 m.cy) (.string (sumS ⟨#[111, 112, 101, 110]⟩)) (.slice m.Ad m.nd m.cd) (.slice m.Ap m.np m.cp) (.slice m.Ac m.nc m.cc) (.slice m.Ae m.ne m.ce)
  clear y0 z0 f0 y1 z1 f1 y2 z2 f2 y3 z3 f3 y4 z4 f4 y5 z5 f5 y6 z6 f6 y7 z7 f7 y8 z8 f8
  generalize (((((((((W2.setCell ⟨w.heap.size + 1, 0, none⟩ (.int .i64 m.rt)).setCell ⟨w.heap.size + 1, 1, none⟩ (.int .i64 m.wt)).setCell ⟨w.heap.size + 1, 2, none⟩ (.int .i64 m.bk)).setCell ⟨w.heap.size + 1, 3, none⟩ (.int .i64 m.cy)).setCell ⟨w.heap.size + 1, 4, none⟩ (.string (sumS ⟨#[111, 112, 101, 110]⟩))).setCell ⟨w.heap.size + 1, 5, none⟩ (.slice m.Ad m.nd m.cd)).setCell ⟨w.heap.size + 1, 6, none⟩ (.slice m.Ap m.np m.cp)).setCell ⟨w.heap.size + 1, 7, none⟩ (.slice m.Ac m.nc m.cc)).setCell ⟨w.heap.size + 1, 8, none⟩ (.slice m.Ae m.ne m.ce)) = Q at *
  have u := cellsAt hz9
  have u0 := u 0
  have u1 := u 1
  have u2 := u 2
  have u3 := u 3
  have u4 := u 4
  have u5 := u 5
  have u6 := u 6
  have u7 := u 7
  have u8 := u 8
  simp at u0 u1 u2 u3 u4 u5 u6 u7 u8
  refine bodyPost_ret (v := .agg #[.int .i64 m.rt, .int .i64 m.wt, .int .i64 m.bk, .int .i64 m.cy, .string (sumS ⟨#[111, 112, 101, 110]⟩), .slice m.Ad m.nd m.cd, .slice m.Ap m.np m.cp, .slice m.Ac m.nc m.cc, .slice m.Ae m.ne m.ce]) (by simp [results, Tryz.results48, go_sem, u0, u1, u2, u3, u4, u5, u6, u7, u8]) rfl ?_
  exact ⟨rfl, (((E0.go X1).goM M2 (fun i hi => by omega)).goM hm9 (fun i hi => by omega))⟩
def OneP (w : World) (e : Ending) (w' : World) : Prop := ∃ m', e = .returned m'.val ∧ OkMx w' w'.heap.size m' ∧ m'.bareR = oneM (sumS open17) ∧ Ext w w'
set_option maxRecDepth 100000 in
set_option maxHeartbeats 3200000 in
theorem one17_any (w : World) : Calls Tryz.prog 21 #[] w (OneP w) := by
  have E0 := (Ext.refl w).goA (.cells #[.int .i64 0, .int .i64 0, .int .i64 0, .int .i64 0, .string ⟨#[]⟩, .slice none 0 0, .slice none 0 0, .slice none 0 0, .slice none 0 0] 27)
  have R0 := heap_alloc_new w (.cells #[.int .i64 0, .int .i64 0, .int .i64 0, .int .i64 0, .string ⟨#[]⟩, .slice none 0 0, .slice none 0 0, .slice none 0 0, .slice none 0 0] 27)
  have S0 : (w.alloc (.cells #[.int .i64 0, .int .i64 0, .int .i64 0, .int .i64 0, .string ⟨#[]⟩, .slice none 0 0, .slice none 0 0, .slice none 0 0, .slice none 0 0] 27)).heap.size = w.heap.size + 1 := by simp
  go_enter Tryz.func21, Tryz.ntmps21
  go_upto_region 1 with fail
  generalize w.alloc (.cells #[.int .i64 0, .int .i64 0, .int .i64 0, .int .i64 0, .string ⟨#[]⟩, .slice none 0 0, .slice none 0 0, .slice none 0 0, .slice none 0 0] 27) = V at *
  have hps := Lib.hid (fun W => rParse_any text17 W (by decide))
  rw [parse_text] at hps
  go_upto_region 2 with (first | (go_at_call 46; refine (hps.out _).mono ?_; rintro e W1 ⟨m, rfl, p1, p2, p3, p4, X1⟩; unfold Mx.val) | (go_at_call 47; refine (text_any17 _).mono ?_; rintro e w' ⟨rfl, rfl⟩))
  have R1 := (X1.block w.heap.size (by omega)).trans R0
  have EM := (Ext.refl W1).goA (.cells m.arr 27)
  have BM := heap_alloc_new W1 (.cells m.arr 27)
  have RM := (EM.block w.heap.size (lt_of_block R1)).trans R1
  have SM : (W1.alloc (.cells m.arr 27)).heap.size = W1.heap.size + 1 := by simp
  have pk := Lib.hid p1
  have p2' := Lib.hid p2
  clear p1 p2 R1 R0
  generalize W1.alloc (.cells m.arr 27) = W2 at *
  have gW2 : W1.heap.size < W2.heap.size := by omega
  have y0 : W2.cell? ⟨W1.heap.size, 0, none⟩ = some (.int .i64 m.rt) := cellsAt BM 0
  have y1 : W2.cell? ⟨W1.heap.size, 1, none⟩ = some (.int .i64 m.wt) := cellsAt BM 1
  have y2 : W2.cell? ⟨W1.heap.size, 2, none⟩ = some (.int .i64 m.bk) := cellsAt BM 2
  have y3 : W2.cell? ⟨W1.heap.size, 3, none⟩ = some (.int .i64 m.cy) := cellsAt BM 3
  have y4 : W2.cell? ⟨W1.heap.size, 4, none⟩ = some (.string m.key) := cellsAt BM 4
  have y5 : W2.cell? ⟨W1.heap.size, 5, none⟩ = some (.slice m.Ad m.nd m.cd) := cellsAt BM 5
  have y6 : W2.cell? ⟨W1.heap.size, 6, none⟩ = some (.slice m.Ap m.np m.cp) := cellsAt BM 6
  have y7 : W2.cell? ⟨W1.heap.size, 7, none⟩ = some (.slice m.Ac m.nc m.cc) := cellsAt BM 7
  have y8 : W2.cell? ⟨W1.heap.size, 8, none⟩ = some (.slice m.Ae m.ne m.ce) := cellsAt BM 8
  clear BM
  go_wp2_with (go_at_call 48; refine (keyed17_any m _).mono ?_; rintro e W3 ⟨rfl, X3⟩; have R3 := (X3.block w.heap.size (lt_of_block RM)).trans RM; have gR3 := lt_of_block R3; have z0 : W3.cell? ⟨w.heap.size, 0, none⟩ = some (.int .i64 0) := cellsAt R3 0; have f0 := frozenIn R3 0; have z1 : W3.cell? ⟨w.heap.size, 1, none⟩ = some (.int .i64 0) := cellsAt R3 1; have f1 := frozenIn R3 1; have z2 : W3.cell? ⟨w.heap.size, 2, none⟩ = some (.int .i64 0) := cellsAt R3 2; have f2 := frozenIn R3 2; have z3 : W3.cell? ⟨w.heap.size, 3, none⟩ = some (.int .i64 0) := cellsAt R3 3; have f3 := frozenIn R3 3; have z4 : W3.cell? ⟨w.heap.size, 4, none⟩ = some (.string ⟨#[]⟩) := cellsAt R3 4; have f4 := frozenIn R3 4; have z5 : W3.cell? ⟨w.heap.size, 5, none⟩ = some (.slice none 0 0) := cellsAt R3 5; have f5 := frozenIn R3 5; have z6 : W3.cell? ⟨w.heap.size, 6, none⟩ = some (.slice none 0 0) := cellsAt R3 6; have f6 := frozenIn R3 6; have z7 : W3.cell? ⟨w.heap.size, 7, none⟩ = some (.slice none 0 0) := cellsAt R3 7; have f7 := frozenIn R3 7; have z8 : W3.cell? ⟨w.heap.size, 8, none⟩ = some (.slice none 0 0) := cellsAt R3 8; have f8 := frozenIn R3 8; unfold Mx.val setKey; dsimp only)
  have hz9 := nine8 R3 (.int .i64 m.rt) (.int .i64 m.wt) (.int .i64 m.bk) (.int .i64 m.cy) (.string (sumS ⟨#[111, 112, 101, 110]⟩)) (.slice m.Ad m.nd m.cd) (.slice m.Ap m.np m.cp) (.slice m.Ac m.nc m.cc) (.slice m.Ae m.ne m.ce)
  have hm9 := nine8_mod (w := W3) (i := w.heap.size) (.int .i64 m.rt) (.int .i64 m.wt) (.int .i64 m.bk) (.int .i64 m.cy) (.string (sumS ⟨#[111, 112, 101, 110]⟩)) (.slice m.Ad m.nd m.cd) (.slice m.Ap m.np m.cp) (.slice m.Ac m.nc m.cc) (.slice m.Ae m.ne m.ce)
  clear y0 z0 f0 y1 z1 f1 y2 z2 f2 y3 z3 f3 y4 z4 f4 y5 z5 f5 y6 z6 f6 y7 z7 f7 y8 z8 f8
  generalize (((((((((W3.setCell ⟨w.heap.size, 0, none⟩ (.int .i64 m.rt)).setCell ⟨w.heap.size, 1, none⟩ (.int .i64 m.wt)).setCell ⟨w.heap.size, 2, none⟩ (.int .i64 m.bk)).setCell ⟨w.heap.size, 3, none⟩ (.int .i64 m.cy)).setCell ⟨w.heap.size, 4, none⟩ (.string (sumS ⟨#[111, 112, 101, 110]⟩))).setCell ⟨w.heap.size, 5, none⟩ (.slice m.Ad m.nd m.cd)).setCell ⟨w.heap.size, 6, none⟩ (.slice m.Ap m.np m.cp)).setCell ⟨w.heap.size, 7, none⟩ (.slice m.Ac m.nc m.cc)).setCell ⟨w.heap.size, 8, none⟩ (.slice m.Ae m.ne m.ce)) = Q at *
  have u := cellsAt hz9
  have u0 := u 0
  have u1 := u 1
  have u2 := u 2
  have u3 := u 3
  have u4 := u 4
  have u5 := u 5
  have u6 := u 6
  have u7 := u 7
  have u8 := u 8
  simp at u0 u1 u2 u3 u4 u5 u6 u7 u8
  refine bodyPost_ret (v := .agg #[.int .i64 m.rt, .int .i64 m.wt, .int .i64 m.bk, .int .i64 m.cy, .string (sumS ⟨#[111, 112, 101, 110]⟩), .slice m.Ad m.nd m.cd, .slice m.Ap m.np m.cp, .slice m.Ac m.nc m.cc, .slice m.Ae m.ne m.ce]) (by simp [results, Tryz.results21, go_sem, u0, u1, u2, u3, u4, u5, u6, u7, u8]) rfl ?_
  have hk := pk.out Q (((EM.mod _).trans (X3.mod _)).trans (hm9.weak fun b hb => by omega))
  have hk2 : OkMx Q Q.heap.size (setKey m (sumS ⟨#[111, 112, 101, 110]⟩)) := ⟨hk.dv, hk.pt, hk.ca, hk.ef, hk.cao, hk.efo, hk.cap⟩
  exact ⟨setKey m (sumS ⟨#[111, 112, 101, 110]⟩), rfl, hk2, by show setKey m.bareR (sumS ⟨#[111, 112, 101, 110]⟩) = _; rw [p2'.out]; rfl, ((((E0.go X1).go EM).go X3).goM hm9 (fun i hi => by omega))⟩
end Go.Proofs.YtgajbgdkgelkgaaGreat
namespace Go.Proofs.YtgajbgdkgelkgaaGreat
open Go.RowKit

def hdM (k : ByteArray) (Ad : Option Addr) (nd cd : Nat) (Ap : Option Addr) (np cp : Nat) (Ac : Option Addr) (nc cc : Nat) (a1 : Option Addr) (n1 c1 : Nat) (Ae : Option Addr) (ne ce : Nat) (a2 : Option Addr) (n2 c2 : Nat) : Mx :=
  ⟨1, 3, 5, 4, k, Ad, nd, cd, [⟨⟨#[100]⟩, 0, 1⟩], Ap, np, cp, [⟨⟨#[112]⟩, 0, 0, 1, 2, 0⟩, ⟨⟨#[113]⟩, 0, 1, 1, 0, 0⟩], Ac, nc, cc, [⟨⟨#[99]⟩, 1, 1, 50, a1, n1, c1, [0, 1]⟩], Ae, ne, ce, [⟨⟨#[101]⟩, 0, 3, 0, a2, n2, c2, [0]⟩]⟩
theorem shape17 {m : Mx} {k : ByteArray} (h : m.bareR = oneM k) : ∃ Ad nd cd Ap np cp Ac nc cc a1 n1 c1 Ae ne ce a2 n2 c2, m = hdM k Ad nd cd Ap np cp Ac nc cc a1 n1 c1 Ae ne ce a2 n2 c2 := by
  obtain ⟨rt, wt, bk, cy, key, Ad, nd, cd, dvs, Ap, np, cp, pts, Ac, nc, cc, cas, Ae, ne, ce, efs⟩ := m
  unfold Mx.bareR oneM at h
  simp only [Mx.mk.injEq, true_and] at h
  obtain ⟨rfl, rfl, rfl, rfl, rfl, rfl, rfl, hc, he⟩ := h
  obtain ⟨x, rfl, hx⟩ := List.map_eq_singleton_iff.1 hc
  obtain ⟨y, rfl, hy⟩ := List.map_eq_singleton_iff.1 he
  obtain ⟨xn, xv, xl, xm, xA, xnn, xc, xp⟩ := x
  obtain ⟨yn, yd, yp, ys, yA, ynn, yc, yps⟩ := y
  simp only [caStrip, efStrip, Ca.mk.injEq, Ef.mk.injEq, true_and] at hx hy
  obtain ⟨rfl, rfl, rfl, rfl, rfl⟩ := hx
  obtain ⟨rfl, rfl, rfl, rfl, rfl⟩ := hy
  exact ⟨Ad, nd, cd, Ap, np, cp, Ac, nc, cc, xA, xnn, xc, Ae, ne, ce, yA, ynn, yc, rfl⟩
def onS : List Sm := [(true, 0), (true, 1)]
def offS : List Sm := [(true, 0), (true, 0)]
def hs1 (M : Mx) : Co × List Nt := scanC M offS 1 (newC M)
def hs2 (M : Mx) : Co × List Nt := scanC M onS 2 (hs1 M).1
def hs3 (M : Mx) : Co × List Nt := scanC M offS 3 (hs2 M).1
def hs4 (M : Mx) : Co × List Nt × Int := resetC M false 3 (hs3 M).1
def hs5 (M : Mx) : Co × List Nt × Int := resetC M true 3 (hs4 M).1
def hs6 (M : Mx) : Co × List Nt × Int := bypassC M 0 5 4 (hs5 M).1
def hs7 (M : Mx) : Co × List Nt := scanC M onS 5 (hs6 M).1
def hs8 (M : Mx) : Co × List Nt := scanC M onS 9 (hs7 M).1
section
variable (k : ByteArray) (Ad : Option Addr) (nd cd : Nat) (Ap : Option Addr) (np cp : Nat) (Ac : Option Addr) (nc cc : Nat) (a1 : Option Addr) (n1 c1 : Nat) (Ae : Option Addr) (ne ce : Nat) (a2 : Option Addr) (n2 c2 : Nat)
set_option maxRecDepth 100000 in
theorem hd_h1 : (hs1 (hdM k Ad nd cd Ap np cp Ac nc cc a1 n1 c1 Ae ne ce a2 n2 c2)).2 = [] := by kernel_rfl
set_option maxRecDepth 100000 in
theorem hd_h2 : (hs2 (hdM k Ad nd cd Ap np cp Ac nc cc a1 n1 c1 Ae ne ce a2 n2 c2)).2 = [(1, 0, 2), (2, 0, 2)] := by kernel_rfl
set_option maxRecDepth 100000 in
theorem hd_h3 : (hs3 (hdM k Ad nd cd Ap np cp Ac nc cc a1 n1 c1 Ae ne ce a2 n2 c2)).2 = [] := by kernel_rfl
set_option maxRecDepth 100000 in
theorem hd_h4 : (hs4 (hdM k Ad nd cd Ap np cp Ac nc cc a1 n1 c1 Ae ne ce a2 n2 c2)).2 = ([], 161) := by kernel_rfl
set_option maxRecDepth 100000 in
theorem hd_h5 : (hs5 (hdM k Ad nd cd Ap np cp Ac nc cc a1 n1 c1 Ae ne ce a2 n2 c2)).2 = ([(7, 0, 3), (6, 0, 3)], 0) := by kernel_rfl
set_option maxRecDepth 100000 in
theorem hd_h6 : (hs6 (hdM k Ad nd cd Ap np cp Ac nc cc a1 n1 c1 Ae ne ce a2 n2 c2)).2 = ([(3, 0, 4)], 0) := by kernel_rfl
set_option maxRecDepth 100000 in
theorem hd_h7 : (hs7 (hdM k Ad nd cd Ap np cp Ac nc cc a1 n1 c1 Ae ne ce a2 n2 c2)).2 = [] := by kernel_rfl
set_option maxRecDepth 100000 in
theorem hd_h8 : (hs8 (hdM k Ad nd cd Ap np cp Ac nc cc a1 n1 c1 Ae ne ce a2 n2 c2)).2 = [(5, 0, 9), (1, 0, 9), (2, 0, 9)] := by kernel_rfl
set_option maxRecDepth 100000 in
theorem hd_h9 : tripsC (hs8 (hdM k Ad nd cd Ap np cp Ac nc cc a1 n1 c1 Ae ne ce a2 n2 c2)).1 0 = true := by kernel_rfl
set_option maxRecDepth 100000 in
theorem hd_h10 : (stateC (hs8 (hdM k Ad nd cd Ap np cp Ac nc cc a1 n1 c1 Ae ne ce a2 n2 c2)).1).2.1.length = 1 := by kernel_rfl
end
theorem hd_right : rightM (oneM (sumS open17)) = true := by decide +kernel
theorem hd_empty : rightM emptyM = false := by decide +kernel
abbrev shut17 : ByteArray := ⟨#[115, 104, 117, 116]⟩
theorem hd_shut : (rightB shut17 && (sumS open17).toList == (sumS shut17).toList) = false := by decide +kernel
theorem hd_open : (rightB open17 && (sumS open17).toList == (sumS open17).toList) = true := by decide +kernel
end Go.Proofs.YtgajbgdkgelkgaaGreat
