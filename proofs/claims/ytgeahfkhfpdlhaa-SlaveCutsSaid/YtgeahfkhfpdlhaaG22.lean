/- Layer 23, the walks: head. · Layer 23, a plain law: what fits a slave's rows. -/
import Derived.Test.YtgeahfkhfpdlhaaG21
import Derived.Test.YtgeahfkhfpdlhaaG14
namespace Go.Proofs.Ytgeahfkhfpdlhaa
open Go.RowKit

theorem byteL_of {l : List Int} (h : l.all (fun y => decide (0 ≤ y ∧ y ≤ 255)) = true) : ByteL l := fun j => by
  by_cases hj : j < l.length
  · rw [List.getElem?_eq_getElem hj]
    have := List.all_eq_true.1 h _ (List.getElem_mem hj)
    simpa using this
  · rw [List.getElem?_eq_none (by omega)]
    exact ⟨by decide, by decide⟩
theorem wordL_of {l : List Int} (h : l.all (fun y => decide (0 ≤ y ∧ y ≤ 65535)) = true) : ∀ j : Nat, 0 ≤ l[j]?.getD 0 ∧ l[j]?.getD 0 ≤ 65535 := fun j => by
  by_cases hj : j < l.length
  · rw [List.getElem?_eq_getElem hj]
    have := List.all_eq_true.1 h _ (List.getElem_mem hj)
    simpa using this
  · rw [List.getElem?_eq_none (by omega)]
    exact ⟨by decide, by decide⟩
set_option maxRecDepth 100000 in
set_option maxHeartbeats 6400000 in
theorem slvHead_any (w : World) : Calls Try.prog 55 #[] w fun e w' => e = .returned (.bool true) ∧ Ext w w' := by
  go_enter Try.func55, Try.ntmps55
  go_wp2_with fail
  refine (slvNew_any w).mono ?_
  rintro e w1 ⟨s, g, G, rfl, S1, E1, hg, hs⟩
  have S1' := Lib.hid S1
  have hrow : ∀ i, RowsOf G i → w.heap.size ≤ i ∧ i < w1.heap.size := fun i h => ⟨by obtain ⟨k, hk, rfl⟩ := h; have := S1'.out.bk.gt hk; omega, S1'.out.bk.old (.inr h)⟩
  have hrow' := Lib.hid hrow
  clear S1 hrow
  go_wp2_with fail
  have EU : Ext w1 ((((w1.alloc (.cells #[.int .i64 2, .int .i64 1] 3)).alloc (.cells #[.bool true] 4)).alloc (.cells #[.int .i64 1, .int .i64 0, .int .i64 5, .int .i64 2, .int .i64 3, .int .i64 65542] 105)).alloc (.cells #[.slice (some ⟨w1.heap.size, 0, none⟩) 2 2, .int .i64 1, .slice none 0 0, .slice none 0 0, .slice none 0 0, .slice (some ⟨w1.heap.size + 1, 0, none⟩) 1 1, .slice (some ⟨w1.heap.size + 1 + 1, 0, none⟩) 2 2] 88)) := ((((Ext.refl w1).goA _).goA _).goA _).goA _
  have U0 : ((((w1.alloc (.cells #[.int .i64 2, .int .i64 1] 3)).alloc (.cells #[.bool true] 4)).alloc (.cells #[.int .i64 1, .int .i64 0, .int .i64 5, .int .i64 2, .int .i64 3, .int .i64 65542] 105)).alloc (.cells #[.slice (some ⟨w1.heap.size, 0, none⟩) 2 2, .int .i64 1, .slice none 0 0, .slice none 0 0, .slice none 0 0, .slice (some ⟨w1.heap.size + 1, 0, none⟩) 1 1, .slice (some ⟨w1.heap.size + 1 + 1, 0, none⟩) 2 2] 88)).heap[w1.heap.size]? = some (.cells #[.int .i64 2, .int .i64 1] 3 (0, 0)) := by rw [alloc_get, if_neg (by simp only [alloc_size]; omega), alloc_get, if_neg (by simp only [alloc_size]; omega), alloc_get, if_neg (by simp only [alloc_size]; omega), alloc_get, if_pos rfl]
  have U1 : ((((w1.alloc (.cells #[.int .i64 2, .int .i64 1] 3)).alloc (.cells #[.bool true] 4)).alloc (.cells #[.int .i64 1, .int .i64 0, .int .i64 5, .int .i64 2, .int .i64 3, .int .i64 65542] 105)).alloc (.cells #[.slice (some ⟨w1.heap.size, 0, none⟩) 2 2, .int .i64 1, .slice none 0 0, .slice none 0 0, .slice none 0 0, .slice (some ⟨w1.heap.size + 1, 0, none⟩) 1 1, .slice (some ⟨w1.heap.size + 1 + 1, 0, none⟩) 2 2] 88)).heap[w1.heap.size + 1]? = some (.cells #[.bool true] 4 (0, 0)) := by rw [alloc_get, if_neg (by simp only [alloc_size]; omega), alloc_get, if_neg (by simp only [alloc_size]; omega), alloc_get, if_pos (by simp only [alloc_size])]
  have U2 : ((((w1.alloc (.cells #[.int .i64 2, .int .i64 1] 3)).alloc (.cells #[.bool true] 4)).alloc (.cells #[.int .i64 1, .int .i64 0, .int .i64 5, .int .i64 2, .int .i64 3, .int .i64 65542] 105)).alloc (.cells #[.slice (some ⟨w1.heap.size, 0, none⟩) 2 2, .int .i64 1, .slice none 0 0, .slice none 0 0, .slice none 0 0, .slice (some ⟨w1.heap.size + 1, 0, none⟩) 1 1, .slice (some ⟨w1.heap.size + 1 + 1, 0, none⟩) 2 2] 88)).heap[w1.heap.size + 2]? = some (.cells #[.int .i64 1, .int .i64 0, .int .i64 5, .int .i64 2, .int .i64 3, .int .i64 65542] 105 (0, 0)) := by rw [alloc_get, if_neg (by simp only [alloc_size]; omega), alloc_get, if_pos (by simp only [alloc_size])]
  have U3 : ((((w1.alloc (.cells #[.int .i64 2, .int .i64 1] 3)).alloc (.cells #[.bool true] 4)).alloc (.cells #[.int .i64 1, .int .i64 0, .int .i64 5, .int .i64 2, .int .i64 3, .int .i64 65542] 105)).alloc (.cells #[.slice (some ⟨w1.heap.size, 0, none⟩) 2 2, .int .i64 1, .slice none 0 0, .slice none 0 0, .slice none 0 0, .slice (some ⟨w1.heap.size + 1, 0, none⟩) 1 1, .slice (some ⟨w1.heap.size + 1 + 1, 0, none⟩) 2 2] 88)).heap[w1.heap.size + 3]? = some (.cells #[.slice (some ⟨w1.heap.size, 0, none⟩) 2 2, .int .i64 1, .slice none 0 0, .slice none 0 0, .slice none 0 0, .slice (some ⟨w1.heap.size + 1, 0, none⟩) 1 1, .slice (some ⟨w1.heap.size + 1 + 1, 0, none⟩) 2 2] 88 (0, 0)) := by rw [alloc_get, if_pos (by simp only [alloc_size])]
  generalize (((w1.alloc (.cells #[.int .i64 2, .int .i64 1] 3)).alloc (.cells #[.bool true] 4)).alloc (.cells #[.int .i64 1, .int .i64 0, .int .i64 5, .int .i64 2, .int .i64 3, .int .i64 65542] 105)).alloc (.cells #[.slice (some ⟨w1.heap.size, 0, none⟩) 2 2, .int .i64 1, .slice none 0 0, .slice none 0 0, .slice none 0 0, .slice (some ⟨w1.heap.size + 1, 0, none⟩) 1 1, .slice (some ⟨w1.heap.size + 1 + 1, 0, none⟩) 2 2] 88) = U at *
  have hv : ∀ w', Mod (RowsOf G) U w' → RdVw w' (hv0 w1.heap.size) := fun w' M => hv_reads ((M.block _ (lt_of_block U0) (fun h => by have := (hrow'.out _ h).2; omega)).trans U0) ((M.block _ (lt_of_block U1) (fun h => by have := (hrow'.out _ h).2; omega)).trans U1) ((M.block _ (lt_of_block U2) (fun h => by have := (hrow'.out _ h).2; omega)).trans U2)
  have hvb : ∀ w', Mod (RowsOf G) U w' → w'.heap[w1.heap.size + 3]? = some (.cells #[.slice (some ⟨w1.heap.size, 0, none⟩) 2 2, .int .i64 1, .slice none 0 0, .slice none 0 0, .slice none 0 0, .slice (some ⟨w1.heap.size + 1, 0, none⟩) 1 1, .slice (some ⟨w1.heap.size + 1 + 1, 0, none⟩) 2 2] 88 (0, 0)) := fun w' M => (M.block _ (lt_of_block U3) (fun h => by have := (hrow'.out _ h).2; omega)).trans U3
  have sU := EU.size
  have hv' := Lib.hid hv
  have hvb' := Lib.hid hvb
  clear hv hvb U0 U1 U2 U3
  have hsh := slvShow_any s g (hv0 w1.heap.size) slvL0 G U (S1'.out.ext EU) hv'.out
  refine hsh.mono ?_
  rw [hv_show]
  rintro e U5 ⟨rfl, S5, M5⟩
  have S5' := Lib.hid S5
  have b5 := cellsAt (hvb'.out U5 M5)
  have s5 := M5.size
  clear S5 hsh
  go_wp2_with fail
  have D1 := (Ext.refl U5).goA (.cells #[.int .u8 4, .int .u8 0, .int .u8 8, .int .u8 0, .int .u8 5] 5)
  have c1 := slvServe_any s g _ 5 5 hq1 hL1 G _ (S5'.out.ext D1) (by rw [alloc_size]; exact RdI.new hq1 rfl rfl rfl) (byteL_of (by decide)) (by decide) (by decide)
  unfold SrvPost servC at c1
  rw [hv_1.1, hv_1.2, if_neg (by decide), hL2_eq] at c1
  refine c1.mono ?_
  rintro e X1 ⟨A1, n1, m1, rfl, g1, g1', r1, T1, N1⟩
  have T1' := Lib.hid T1
  have r1' := Lib.hid r1
  have M1x : Mod (RowsOf G) U X1 := M5.trans ((Mod.ofBelow D1).trans N1)
  have s1x : U5.heap.size ≤ X1.heap.size := ((Mod.ofBelow (S := RowsOf G) D1).trans N1).size
  clear c1 r1 T1 N1 D1
  go_wp2_with fail
  have Y1 := (Ext.refl X1).goA (.cells #[.int .i64 0, .int .i64 0, .int .i64 0, .string ⟨#[]⟩] 97)
  have T1y := Lib.hid (T1'.out.ext Y1)
  have M1y := M1x.trans (Mod.ofBelow Y1)
  have r1y := Lib.hid (r1'.out.ext Y1)
  have s1y := Y1.size
  have hz1 : (X1.alloc (.cells #[.int .i64 0, .int .i64 0, .int .i64 0, .string ⟨#[]⟩] 97)).heap.size = X1.heap.size + 1 := alloc_size _ _
  generalize X1.alloc (.cells #[.int .i64 0, .int .i64 0, .int .i64 0, .string ⟨#[]⟩] 97) = Z1 at *
  clear T1' r1'
  have D2 := (Ext.refl Z1).goA (.cells #[.int .u8 2, .int .u8 0, .int .u8 24, .int .u8 0, .int .u8 1] 5)
  have c2 := slvServe_any s g _ 5 5 hq2 hL2 G _ (T1y.out.ext D2) (by rw [alloc_size]; exact RdI.new hq2 rfl rfl rfl) (byteL_of (by decide)) (by decide) (by decide)
  unfold SrvPost servC at c2
  rw [hv_2.1, hv_2.2, if_neg (by decide), hL3_eq] at c2
  rw [← hz1]
  refine c2.mono ?_
  rintro e X2 ⟨A2, n2, m2, rfl, g2, g2', r2, T2, N2⟩
  have T2' := Lib.hid T2
  have r2' := Lib.hid r2
  have M2x : Mod (RowsOf G) U X2 := M1y.trans ((Mod.ofBelow D2).trans N2)
  have N2x := (Mod.ofBelow (S := RowsOf G) D2).trans N2
  have s2x := N2x.size
  clear c2 r2 T2 N2 D2
  go_wp2_with fail
  have Y2 := (Ext.refl X2).goA (.cells #[.int .i64 0, .int .i64 0, .int .i64 0, .string ⟨#[]⟩] 97)
  have T2y := Lib.hid (T2'.out.ext Y2)
  have M2y := M2x.trans (Mod.ofBelow Y2)
  have N2y := N2x.trans (Mod.ofBelow (S := RowsOf G) Y2)
  have r2y := Lib.hid (r2'.out.ext Y2)
  have s2y := Y2.size
  have hz2 : (X2.alloc (.cells #[.int .i64 0, .int .i64 0, .int .i64 0, .string ⟨#[]⟩] 97)).heap.size = X2.heap.size + 1 := alloc_size _ _
  generalize X2.alloc (.cells #[.int .i64 0, .int .i64 0, .int .i64 0, .string ⟨#[]⟩] 97) = Z2 at *
  clear T2' r2'
  have D3 := (Ext.refl Z2).goA (.cells #[.int .u16 6, .int .u16 1, .int .u16 30, .int .u16 28528, .int .u16 25856] 34)
  have p3 := refPut_any 16 0 5 0 (some ⟨Z2.heap.size, 0, none⟩) 5 5 [6, 1, 30, 28528, 25856] (Z2.alloc (.cells #[.int .u16 6, .int .u16 1, .int .u16 30, .int .u16 28528, .int .u16 25856] 34)) (by rw [alloc_size]; exact RdI.new [6, 1, 30, 28528, 25856] rfl rfl rfl) (wordL_of (by decide)) (by decide)
  rw [hq3_put] at p3
  unfold RetI at p3
  rw [← hz2]
  refine p3.mono ?_
  rintro e P3 ⟨Ap, np, mp, rfl, gp, gp', rp, Dp⟩
  have Tp := Lib.hid (T2y.out.ext (D3.go Dp))
  have rp' := Lib.hid rp
  have Np := Mod.ofBelow (S := RowsOf G) (D3.go Dp)
  clear p3 rp D3 Dp
  go_wp2_with fail
  have c3 := slvServe_any s g Ap np mp hq3 hL3 G P3 Tp.out rp'.out (byteL_of (by decide)) gp gp'
  unfold SrvPost at c3
  rw [hv_3.1, hv_3.2.1, hv_c, hL4_eq] at c3
  refine c3.mono ?_
  rintro e X3 ⟨A3, n3, m3, rfl, g3, g3', r3, T3, N3⟩
  have l3 := r3.len
  subst l3
  have T3' := Lib.hid T3
  have N3x := Np.trans N3
  have s3x := N3x.size
  clear c3 r3 T3 N3 Np
  go_wp2_with fail
  have Y3 := (Ext.refl X3).goA (.cells #[.int .i64 6, .int .i64 1, .int .i64 30, .string ⟨#[111, 112, 101]⟩] 97)
  have T3y := Lib.hid (T3'.out.ext Y3)
  have N3y := N3x.trans (Mod.ofBelow (S := RowsOf G) Y3)
  have M3y := M2y.trans N3y
  have q3 := Lib.hid (heap_alloc_new X3 (.cells #[.int .i64 6, .int .i64 1, .int .i64 30, .string ⟨#[111, 112, 101]⟩] 97))
  have s3y := Y3.size
  have hz3 : (X3.alloc (.cells #[.int .i64 6, .int .i64 1, .int .i64 30, .string ⟨#[111, 112, 101]⟩] 97)).heap.size = X3.heap.size + 1 := alloc_size _ _
  generalize X3.alloc (.cells #[.int .i64 6, .int .i64 1, .int .i64 30, .string ⟨#[111, 112, 101]⟩] 97) = Z3 at *
  clear T3'
  have D4 := (Ext.refl Z3).goA (.cells #[.int .u8 3, .int .u8 0, .int .u8 0, .int .u8 0, .int .u8 3] 5)
  have c4 := slvServe_any s g _ 5 5 hq4 hL4 G _ (T3y.out.ext D4) (by rw [alloc_size]; exact RdI.new hq4 rfl rfl rfl) (byteL_of (by decide)) (by decide) (by decide)
  unfold SrvPost servC at c4
  rw [hv_4.1, hv_4.2, if_neg (by decide), hL5_eq] at c4
  rw [← hz3]
  refine c4.mono ?_
  rintro e X4 ⟨A4, n4, m4, rfl, g4, g4', r4, T4, N4⟩
  have T4' := Lib.hid T4
  have r4' := Lib.hid r4
  have N4x := (Mod.ofBelow (S := RowsOf G) D4).trans N4
  have s4x := N4x.size
  clear c4 r4 T4 N4 D4
  have Y4 := (Ext.refl X4).goA (.cells #[.int .i64 0, .int .i64 0, .int .i64 0, .string ⟨#[]⟩] 97)
  have r4y := r4'.out.ext Y4
  have N4y := N4x.trans (Mod.ofBelow (S := RowsOf G) Y4)
  have M4y := M3y.trans N4y
  have N1z := (N2y.trans N3y).trans N4y
  have N2z := N3y.trans N4y
  have r1z := r1y.out.past T1y.out.bk N1z
  have r2z := r2y.out.past T2y.out.bk N2z
  have cv1 := r1z.convert Try.underlying33 Try.underlying5 Try.underlying9 m1
  have cv2 := r2z.convert Try.underlying33 Try.underlying5 Try.underlying9 m2
  have cv4 := r4y.convert Try.underlying33 Try.underlying5 Try.underlying9 m4
  rw [show strOfNums [4, 10, 0, 1, 0, 2, 0, 2, 0, 3, 0, 6] = ⟨#[4, 10, 0, 1, 0, 2, 0, 2, 0, 3, 0, 6]⟩ by kernel_rfl] at cv1
  rw [show strOfNums [2, 1, 1] = ⟨#[2, 1, 1]⟩ by kernel_rfl] at cv2
  rw [show strOfNums [3, 6, 0, 0, 0, 0, 0, 0] = ⟨#[3, 6, 0, 0, 0, 0, 0, 0]⟩ by kernel_rfl] at cv4
  have q3z := cellsAt ((N4y.block _ (lt_of_block q3.out) (fun h => by have := (hrow'.out _ h).2; omega)).trans q3.out)
  have v4 := cellsAt (hvb'.out _ M4y)
  clear b5
  go_wp2_with fail
  refine (slvRegs_any (hv0 w1.heap.size) _ (hv'.out _ M4y)).mono ?_
  rw [hv_regs]
  rintro e WF ⟨gr, rfl, KR, DR, -⟩
  have kc : WF.cell? ⟨gr, 1, none⟩ = some (.int .u16 1) := KR.cell 1 (by decide)
  have EF : Ext w WF := ((E1.go EU).goM M4y (fun i h => (hrow'.out _ h).1)).go DR
  clear KR cv1 cv2 cv4 q3z v4
  go_wp2_with fail
  go_ret
  exact ⟨rfl, EF⟩
end Go.Proofs.Ytgeahfkhfpdlhaa
namespace Go.Proofs.Ytgeahfkhfpdlhaa
open Go.RowKit

def szOf (fc : Int) : Int := if fc = 1 ∨ fc = 5 ∨ fc = 15 then 0 else if fc = 2 then 32 else if fc = 4 then 34 else 19
theorem size_slv (fc : Int) : sizeB slvL0 (kindN fc) = szOf fc := by
  unfold szOf kindN
  split
  · kernel_rfl
  · split
    · kernel_rfl
    · split <;> kernel_rfl
theorem fits_slv {fc ad qt to : Int} {n : Nat} (h0 : 0 ≤ ad) (h1 : 0 ≤ to) :
    doFits slvL0 fc ad qt to n = true ↔ (ad + max qt 1 ≤ szOf fc ∧ (fc = 23 → to + n ≤ szOf fc)) := by
  unfold doFits spanB
  rw [size_slv]
  by_cases hf : fc = 23
  · subst hf
    simp
    omega
  · have : (fc != 23) = true := by simp; exact hf
    rw [this]
    simp [hf]
    omega
theorem servC_form (L : Nat → List Int) (l : List Int) : ∃ (a b c : Int) (d : ByteArray), servC L l = #[.int .i64 a, .int .i64 b, .int .i64 c, .string d] := by
  unfold servC cmdCells
  split
  · exact ⟨_, _, _, _, rfl⟩
  · exact ⟨_, _, _, _, rfl⟩
theorem told_rest {l : List Int} (h : serveL slvL0 l = slvL0) : toldB slvL0 l = false := by
  unfold toldB
  rw [h]
  kernel_rfl
end Go.Proofs.Ytgeahfkhfpdlhaa
