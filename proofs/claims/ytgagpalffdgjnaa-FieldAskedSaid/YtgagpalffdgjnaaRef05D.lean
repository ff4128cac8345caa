/- The reference of layer 5: Get, of an answer's bytes. (Printed by wip/gen/get05.py.) -/
import Derived.Test.YtgagpalffdgjnaaG15
import Derived.Test.YtgagpalffdgjnaaG61
import Derived.Test.YtgagpalffdgjnaaReplyOtherLaw
namespace Go.Proofs.Ytgagpalffdgjnaa
open Go.RowKit

set_option maxRecDepth 100000 in
set_option maxHeartbeats 6400000 in
theorem ref05Get_alarm (fc ad qt to code : Int) (A Ab : Option Addr) (n c m cb : Nat) (xs ys bs : List Int) (w : World) (hx : RdI w w.heap.size .u16 A n xs) (hr : ∀ j : Nat, 0 ≤ xs[j]?.getD 0 ∧ xs[j]?.getD 0 ≤ 65535) (nm : n ≤ maxLen) (hyr : ∀ j : Nat, 0 ≤ ys[j]?.getD 0 ∧ ys[j]?.getD 0 ≤ 65535) (hz : RdI w w.heap.size .u8 Ab m bs) (hmc : m ≤ cb) (_hcm : cb ≤ maxLen) (ha : ansR fc ad qt to xs code ys = true) (hbs : repR fc ad qt to xs code ys = bs) (hc : code ≠ 0) :
    Calls Try.prog 41 #[.agg #[.int .i64 fc, .int .i64 ad, .int .i64 qt, .slice A n c, .int .i64 to], .slice Ab m cb] w (RGetPost code ys 52 w) := by
  have E0 := (((Ext.refl w).goA (.cells #[.int .i64 fc, .int .i64 ad, .int .i64 qt, .slice A n c, .int .i64 to] 30)).goA (.cells #[.int .i64 0, .slice none 0 0] 54)).goA (.cells #[.int .i64 0, .slice none 0 0] 54)
  have hQ : (((w.alloc (.cells #[.int .i64 fc, .int .i64 ad, .int .i64 qt, .slice A n c, .int .i64 to] 30)).alloc (.cells #[.int .i64 0, .slice none 0 0] 54)).alloc (.cells #[.int .i64 0, .slice none 0 0] 54)).heap[w.heap.size]? = some (.cells #[.int .i64 fc, .int .i64 ad, .int .i64 qt, .slice A n c, .int .i64 to] 30 (0, 0)) := by rw [alloc_get, if_neg (by simp; omega), alloc_get, if_neg (by simp), alloc_get, if_pos rfl]
  have hR : (((w.alloc (.cells #[.int .i64 fc, .int .i64 ad, .int .i64 qt, .slice A n c, .int .i64 to] 30)).alloc (.cells #[.int .i64 0, .slice none 0 0] 54)).alloc (.cells #[.int .i64 0, .slice none 0 0] 54)).heap[w.heap.size + 1]? = some (.cells #[.int .i64 0, .slice none 0 0] 54 (0, 0)) := by rw [alloc_get, if_neg (by simp), alloc_get, if_pos (by simp)]
  have hP : (((w.alloc (.cells #[.int .i64 fc, .int .i64 ad, .int .i64 qt, .slice A n c, .int .i64 to] 30)).alloc (.cells #[.int .i64 0, .slice none 0 0] 54)).alloc (.cells #[.int .i64 0, .slice none 0 0] 54)).heap[w.heap.size + 2]? = some (.cells #[.int .i64 0, .slice none 0 0] 54 (0, 0)) := by rw [alloc_get, if_pos (by simp)]
  have k2 : w.heap.size + 1 + 1 = w.heap.size + 2 := rfl
  obtain ⟨a1, a2, a3⟩ := ans_parts ha
  obtain ⟨s, hs, -, -⟩ := right_parts a1
  obtain ⟨f1, f2, -, -⟩ := shape_hi hs
  have hfc : 1 ≤ fc ∧ fc ≤ 23 := by rcases shape_cases hs with ⟨rfl | rfl, _⟩ | ⟨rfl | rfl, _⟩ | ⟨rfl, _⟩ | ⟨rfl, _⟩ | ⟨rfl, _⟩ | ⟨rfl, _⟩ | ⟨rfl, _⟩ | ⟨rfl, _⟩ <;> decide
  have hpL : rputL fc ad qt to xs code ys = bs := by unfold rputL; rw [if_pos ha]; exact hbs
  have hlen := rep_length ha
  rw [hbs] at hlen
  have hzl := hz.len
  have hrr := fun hb => right_reads a1 hb
  have hqq := right_qty a1
  have hxr' := Lib.hid hr
  have hyr' := Lib.hid hyr
  have hx' := Lib.hid hx
  have hz' := Lib.hid hz
  have ha' := Lib.hid ha
  have hpL' := Lib.hid hpL
  have hQ' := Lib.hid hQ
  have hR' := Lib.hid hR
  have hP' := Lib.hid hP
  clear hs
  obtain ⟨hcr, rfl⟩ := a2 hc
  have hrep : repR fc ad qt to xs code [] = [fc + 128, code] := by
    unfold repR repL
    rw [if_pos hc, f2, show code % 256 = code by omega]
  rw [hrep] at hbs
  subst hbs
  obtain rfl : m = 2 := hzl.symm
  obtain ⟨bb, oo, rfl, hbb, c0⟩ := hz.at_ (j := 0) (by omega)
  obtain ⟨bb', oo', e, _, c1⟩ := hz.at_ (j := 1) (by omega)
  injection e with e; injection e with e1 e2; subst e1 e2
  rw [Nat.add_zero, show ([fc + 128, code] : List Int).getD 0 0 = fc + 128 from rfl] at c0
  rw [show ([fc + 128, code] : List Int).getD 1 0 = code from rfl] at c1
  have C0 := (E0.cell oo hbb).trans c0
  have C1 := (E0.cell (oo + 1) hbb).trans c1
  have u1 : IntKind.i64.wrap (fc + 128) = fc + 128 := by rw [IntKind.wrap_i64]; omega
  have u2 : IntKind.i64.wrap code = code := by rw [IntKind.wrap_i64]; omega
  have t1 : (code != 0) = true := by simp; exact hc
  have q0 := cellsAt hQ
  have f0 := frozen_block hP
  have p0 := cellsAt hP
  have sW : (((w.alloc (.cells #[.int .i64 fc, .int .i64 ad, .int .i64 qt, .slice A n c, .int .i64 to] 30)).alloc (.cells #[.int .i64 0, .slice none 0 0] 54)).alloc (.cells #[.int .i64 0, .slice none 0 0] 54)).heap.size = w.heap.size + 3 := by simp
  clear hx hr hyr hz ha hpL hQ hR hP a1 a2 a3 hlen hrr hqq f1 f2 hrep hc c0 c1 hzl
  go_enter Try.func41, Try.ntmps41
  go_wp2_with fail
  generalize ((w.alloc (.cells #[.int .i64 fc, .int .i64 ad, .int .i64 qt, .slice A n c, .int .i64 to] 30)).alloc (.cells #[.int .i64 0, .slice none 0 0] 54)).alloc (.cells #[.int .i64 0, .slice none 0 0] 54) = U at *
  go_quiet (fail)
  go_wp2_with fail
  have EV := (E0.goD nq).goS (p := ⟨w.heap.size + 2, 0, none⟩) (by simp) (.int .i64 code)
  have QV' := Lib.hid (((Below.heap_setCell (U.drewN nq) ⟨w.heap.size + 2, 0, none⟩ (.int .i64 code) w.heap.size (by simp)).trans hQ'.out))
  have RV' := Lib.hid (((Below.heap_setCell (U.drewN nq) ⟨w.heap.size + 2, 0, none⟩ (.int .i64 code) (w.heap.size + 1) (by simp)).trans hR'.out))
  have PV : ((U.drewN nq).setCell ⟨w.heap.size + 2, 0, none⟩ (.int .i64 code)).heap[w.heap.size + 2]? = some (.cells #[.int .i64 code, .slice none 0 0] 54 (0, 0)) := set_block (w := U.drewN nq) hP'.out 0 (.int .i64 code)
  have PV' := Lib.hid PV
  clear q0 f0 p0 C0 C1 PV
  generalize (U.drewN nq).setCell ⟨w.heap.size + 2, 0, none⟩ (.int .i64 code) = V at *
  have y5' : Hid (RdI V V.heap.size .u16 none 0 []) := Lib.hid (RdI.nil _)
  have n5m : 0 ≤ maxLen := Nat.zero_le _
  have g5 : 0 ≤ 0 := Nat.le_refl _
  have g5' : 0 ≤ maxLen := Nat.zero_le _
  have fr5 : ∀ b o, (none : Option Addr) = some ⟨b, o, none⟩ → w.heap.size + 3 ≤ b := fun b o e => (nomatch e)
  have hm0 : 0 < 2 := by omega
  have dV : Ext V V.drew := (Ext.refl _).god
  have bq : ∀ w', Ext V w' → ∀ o, w'.cell? ⟨w.heap.size, o, none⟩ = _ := fun w' D => cellsAt ((D.block _ (lt_of_block QV'.out)).trans QV'.out)
  have bp : ∀ w', Ext V w' → ∀ o, w'.cell? ⟨w.heap.size + 2, o, none⟩ = _ := fun w' D => cellsAt ((D.block _ (lt_of_block PV'.out)).trans PV'.out)
  have hcv : ∀ w', Ext V w' → Sem.run Try.prog (convert 34 9 (.slice (some ⟨bb, oo, none⟩) 2 cb)) w' = .ok (.string (strOfNums [fc + 128, code])) w' := fun w' h => (hz'.out.ext (EV.go h)).convert Try.underlying34 Try.underlying5 Try.underlying9 cb
  have tn : ((2 : Int) == 0) = false := by simp <;> omega
  have tn' : (2 == 0) = false := by simp <;> omega
  refine wp_region_held_drew (S := fun w' => Ext V w') (by kernel_rfl) dV (fun hHeld => ?_)
  refine tk 0 ?_
  try simp only [Act.put, gA, gC, List.setIfInBounds_toArray, gE, gF]
  refine tk 1 ?_
  try simp only [Act.put, gA, gB, gC, List.setIfInBounds_toArray, gE, gF]
  refine tk 2 ?_
  try simp only [Act.put, gA, gB, gC, List.setIfInBounds_toArray, gE, gF]
  refine tk 3 ?_
  try simp only [Act.put, gA, gB, gC, List.setIfInBounds_toArray, gE, gF]
  refine tk 4 ?_
  try simp only [Act.put, gA, gB, gC, List.setIfInBounds_toArray, gE, gF]
  refine tk 5 ?_
  try simp only [Act.put, gA, gB, gC, List.setIfInBounds_toArray, gE, gF]
  refine wpAnyH_ready (rs := [6]) (by kernel_rfl) (by simp) ?_
  refine AllReadyH.cons rfl (fun K hK => ?_) ?_
  rotate_left
  · exact AllReadyH.nil
  go_simp
  go_at_call 20
  refine (ref05Right_any fc ad qt to code A none n c 0 0 xs [] _ (hx'.out.ext (EV.go dV)) (y5'.out.ext dV) nm n5m).mono ?_
  rw [ha'.out]
  rintro e w9 ⟨rfl, D9⟩
  have d9 := dV.go D9
  try dsimp only
  refine hK.out _ _ ?_ (fun hHeld => ?_)
  · first | assumption | (dsimp only; assumption)
  clear hK K
  try simp only [Act.put, gA, gB, gC, List.setIfInBounds_toArray, gE, gF]
  refine tk 7 ?_
  try simp only [Act.put, gA, gB, gC, List.setIfInBounds_toArray, gE, gF]
  refine tk 8 ?_
  try simp only [Act.put, gA, gB, gC, List.setIfInBounds_toArray, gE, gF]
  refine tk 9 ?_
  try simp only [Act.put, gA, gB, gC, List.setIfInBounds_toArray, gE, gF]
  refine tk 10 ?_
  try simp only [Act.put, gA, gB, gC, List.setIfInBounds_toArray, gE, gF]
  refine tk 11 ?_
  try simp only [Act.put, gA, gB, gC, List.setIfInBounds_toArray, gE, gF]
  refine tk 14 ?_
  try simp only [Act.put, gA, gB, gC, List.setIfInBounds_toArray, gE, gF]
  refine tk 15 ?_
  try simp only [Act.put, gA, gB, gC, List.setIfInBounds_toArray, gE, gF]
  refine wpAnyH_ready (rs := [12]) (by kernel_rfl) (by simp) ?_
  refine AllReadyH.cons rfl (fun K hK => ?_) ?_
  rotate_left
  · exact AllReadyH.nil
  go_simp
  go_at_call 40
  refine (ref05Put_any fc ad qt to code A none n c 0 0 xs [] _ (hx'.out.ext (EV.go d9)) hxr'.out nm (y5'.out.ext d9) hyr'.out n5m).mono ?_
  rw [hpL'.out]
  rintro e w10 ⟨A10, n10, c10, rfl, _, _, r10, D10⟩
  have d10 := d9.go D10
  have cs10 := r10.convert Try.underlying34 Try.underlying5 Try.underlying9 c10
  clear r10
  try dsimp only
  refine hK.out _ _ ?_ (fun hHeld => ?_)
  · first | assumption | (dsimp only; assumption)
  clear hK K
  try simp only [Act.put, gA, gB, gC, List.setIfInBounds_toArray, gE, gF]
  refine wpAnyH_ready (rs := [13]) (by kernel_rfl) (by simp) ?_
  refine AllReadyH.cons rfl (fun K hK => ?_) ?_
  rotate_left
  · exact AllReadyH.nil
  go_simp
  refine hK.out _ _ ?_ (fun hHeld => ?_)
  · first | assumption | (dsimp only; assumption)
  clear hK K
  try simp only [Act.put, gA, gB, gC, List.setIfInBounds_toArray, gE, gF]
  refine tk 16 ?_
  try simp only [Act.put, gA, gB, gC, List.setIfInBounds_toArray, gE, gF]
  refine tk 17 ?_
  try simp only [Act.put, gA, gB, gC, List.setIfInBounds_toArray, gE, gF]
  refine wpAnyH_done (by kernel_rfl) ?_ _
  have p10 := bp w10 d10
  have R10 := (d10.block _ (lt_of_block RV'.out)).trans RV'.out
  have f10 := frozen_block R10
  have c10' := cellsAt R10
  have R10' := Lib.hid R10
  have y10 := Lib.hid (y5'.out.ext d10)
  clear hcv R10 bq bp cs10
  go_wp2_with fail
  obtain ⟨z0, z1⟩ := two_reads R10'.out (.int .i64 code) (.slice none 0 0)
  refine bodyPost_ret (v := .tuple #[.agg #[.int .i64 code, .slice none 0 0], .int .i64 52]) (by simp [results, Try.results41, go_sem, z0, z1]) rfl ?_
  exact ⟨_, _, _, rfl, g5, g5', two_rd y10.out (Nat.le_refl _) _ (fun hn b o e => by have := fr5 b o e; omega) _ _, (EV.go d10).two (by omega) _ _⟩
set_option maxRecDepth 100000 in
set_option maxHeartbeats 6400000 in
theorem ref05Get_writes (fc ad qt to : Int) (A Ab : Option Addr) (n c m cb : Nat) (xs ys bs : List Int) (w : World) (hx : RdI w w.heap.size .u16 A n xs) (hr : ∀ j : Nat, 0 ≤ xs[j]?.getD 0 ∧ xs[j]?.getD 0 ≤ 65535) (nm : n ≤ maxLen) (hyr : ∀ j : Nat, 0 ≤ ys[j]?.getD 0 ∧ ys[j]?.getD 0 ≤ 65535) (hz : RdI w w.heap.size .u8 Ab m bs) (hmc : m ≤ cb) (_hcm : cb ≤ maxLen) (ha : ansR fc ad qt to xs 0 ys = true) (hbs : repR fc ad qt to xs 0 ys = bs) (hrd : readsB fc = false) :
    Calls Try.prog 41 #[.agg #[.int .i64 fc, .int .i64 ad, .int .i64 qt, .slice A n c, .int .i64 to], .slice Ab m cb] w (RGetPost 0 ys 0 w) := by
  have E0 := (((Ext.refl w).goA (.cells #[.int .i64 fc, .int .i64 ad, .int .i64 qt, .slice A n c, .int .i64 to] 30)).goA (.cells #[.int .i64 0, .slice none 0 0] 54)).goA (.cells #[.int .i64 0, .slice none 0 0] 54)
  have hQ : (((w.alloc (.cells #[.int .i64 fc, .int .i64 ad, .int .i64 qt, .slice A n c, .int .i64 to] 30)).alloc (.cells #[.int .i64 0, .slice none 0 0] 54)).alloc (.cells #[.int .i64 0, .slice none 0 0] 54)).heap[w.heap.size]? = some (.cells #[.int .i64 fc, .int .i64 ad, .int .i64 qt, .slice A n c, .int .i64 to] 30 (0, 0)) := by rw [alloc_get, if_neg (by simp; omega), alloc_get, if_neg (by simp), alloc_get, if_pos rfl]
  have hR : (((w.alloc (.cells #[.int .i64 fc, .int .i64 ad, .int .i64 qt, .slice A n c, .int .i64 to] 30)).alloc (.cells #[.int .i64 0, .slice none 0 0] 54)).alloc (.cells #[.int .i64 0, .slice none 0 0] 54)).heap[w.heap.size + 1]? = some (.cells #[.int .i64 0, .slice none 0 0] 54 (0, 0)) := by rw [alloc_get, if_neg (by simp), alloc_get, if_pos (by simp)]
  have hP : (((w.alloc (.cells #[.int .i64 fc, .int .i64 ad, .int .i64 qt, .slice A n c, .int .i64 to] 30)).alloc (.cells #[.int .i64 0, .slice none 0 0] 54)).alloc (.cells #[.int .i64 0, .slice none 0 0] 54)).heap[w.heap.size + 2]? = some (.cells #[.int .i64 0, .slice none 0 0] 54 (0, 0)) := by rw [alloc_get, if_pos (by simp)]
  have k2 : w.heap.size + 1 + 1 = w.heap.size + 2 := rfl
  obtain ⟨a1, a2, a3⟩ := ans_parts ha
  obtain ⟨s, hs, -, -⟩ := right_parts a1
  obtain ⟨f1, f2, -, -⟩ := shape_hi hs
  have hfc : 1 ≤ fc ∧ fc ≤ 23 := by rcases shape_cases hs with ⟨rfl | rfl, _⟩ | ⟨rfl | rfl, _⟩ | ⟨rfl, _⟩ | ⟨rfl, _⟩ | ⟨rfl, _⟩ | ⟨rfl, _⟩ | ⟨rfl, _⟩ | ⟨rfl, _⟩ <;> decide
  have hpL : rputL fc ad qt to xs 0 ys = bs := by unfold rputL; rw [if_pos ha]; exact hbs
  have hlen := rep_length ha
  rw [hbs] at hlen
  have hzl := hz.len
  have hrr := fun hb => right_reads a1 hb
  have hqq := right_qty a1
  have hxr' := Lib.hid hr
  have hyr' := Lib.hid hyr
  have hx' := Lib.hid hx
  have hz' := Lib.hid hz
  have ha' := Lib.hid ha
  have hpL' := Lib.hid hpL
  have hQ' := Lib.hid hQ
  have hR' := Lib.hid hR
  have hP' := Lib.hid hP
  clear hs
  have h5 := hlen.2.2.1 rfl hrd
  have hy0 : ys = [] := by
    have := (a3 rfl).1
    rw [hrd, if_neg (by decide)] at this
    exact List.length_eq_zero_iff.1 (by omega)
  subst hy0
  have t2 : ((m : Int) == 2) = false := by simp; omega
  have t2' : (m == 2) = false := by simp; omega
  have t3 : decide (2 < m) = true := by simp; omega
  have t4 : (2 : Int) < m := by omega
  have p4 : ¬ cb = 2 := by omega
  have p5 : 2 ≤ m := by omega
  have p6 : (2 : Int) ≤ (m : Int) := by omega
  have q0 := cellsAt hQ
  have f0 := frozen_block hP
  have p0 := cellsAt hP
  have sW : (((w.alloc (.cells #[.int .i64 fc, .int .i64 ad, .int .i64 qt, .slice A n c, .int .i64 to] 30)).alloc (.cells #[.int .i64 0, .slice none 0 0] 54)).alloc (.cells #[.int .i64 0, .slice none 0 0] 54)).heap.size = w.heap.size + 3 := by simp
  clear hx hr hyr hz ha hpL hQ hR hP a1 a2 a3 hlen hrr f1 f2 hzl
  have hrd' := Lib.hid hrd
  have hm0 : 0 < m := by omega
  clear hrd h5
  go_enter Try.func41, Try.ntmps41
  go_wp2_with fail
  generalize ((w.alloc (.cells #[.int .i64 fc, .int .i64 ad, .int .i64 qt, .slice A n c, .int .i64 to] 30)).alloc (.cells #[.int .i64 0, .slice none 0 0] 54)).alloc (.cells #[.int .i64 0, .slice none 0 0] 54) = U at *
  go_quiet (fail)
  go_wp2_with fail
  refine (refReads_any fc _).mono ?_
  rw [hrd'.out]
  rintro e w2 ⟨rfl, rfl⟩
  go_wp2_with fail
  have EV := E0.goD nq
  have QV' : Hid ((U.drewN nq).heap[w.heap.size]? = _) := hQ'
  have RV' : Hid ((U.drewN nq).heap[w.heap.size + 1]? = _) := hR'
  have PV' : Hid ((U.drewN nq).heap[w.heap.size + 2]? = _) := hP'
  clear q0 f0 p0
  generalize U.drewN nq = V at *
  have y5' : Hid (RdI V V.heap.size .u16 none 0 []) := Lib.hid (RdI.nil _)
  have n5m : 0 ≤ maxLen := Nat.zero_le _
  have g5 : 0 ≤ 0 := Nat.le_refl _
  have g5' : 0 ≤ maxLen := Nat.zero_le _
  have fr5 : ∀ b o, (none : Option Addr) = some ⟨b, o, none⟩ → w.heap.size + 3 ≤ b := fun b o e => (nomatch e)
  have dV : Ext V V.drew := (Ext.refl _).god
  have bq : ∀ w', Ext V w' → ∀ o, w'.cell? ⟨w.heap.size, o, none⟩ = _ := fun w' D => cellsAt ((D.block _ (lt_of_block QV'.out)).trans QV'.out)
  have bp : ∀ w', Ext V w' → ∀ o, w'.cell? ⟨w.heap.size + 2, o, none⟩ = _ := fun w' D => cellsAt ((D.block _ (lt_of_block PV'.out)).trans PV'.out)
  have hcv : ∀ w', Ext V w' → Sem.run Try.prog (convert 34 9 (.slice Ab m cb)) w' = .ok (.string (strOfNums bs)) w' := fun w' h => (hz'.out.ext (EV.go h)).convert Try.underlying34 Try.underlying5 Try.underlying9 cb
  have tn : ((m : Int) == 0) = false := by simp <;> omega
  have tn' : (m == 0) = false := by simp <;> omega
  refine wp_region_held_drew (S := fun w' => Ext V w') (by kernel_rfl) dV (fun hHeld => ?_)
  refine tk 0 ?_
  try simp only [Act.put, gA, gC, List.setIfInBounds_toArray, gE, gF]
  refine tk 1 ?_
  try simp only [Act.put, gA, gB, gC, List.setIfInBounds_toArray, gE, gF]
  refine tk 2 ?_
  try simp only [Act.put, gA, gB, gC, List.setIfInBounds_toArray, gE, gF]
  refine tk 3 ?_
  try simp only [Act.put, gA, gB, gC, List.setIfInBounds_toArray, gE, gF]
  refine tk 4 ?_
  try simp only [Act.put, gA, gB, gC, List.setIfInBounds_toArray, gE, gF]
  refine tk 5 ?_
  try simp only [Act.put, gA, gB, gC, List.setIfInBounds_toArray, gE, gF]
  refine wpAnyH_ready (rs := [6]) (by kernel_rfl) (by simp) ?_
  refine AllReadyH.cons rfl (fun K hK => ?_) ?_
  rotate_left
  · exact AllReadyH.nil
  go_simp
  go_at_call 20
  refine (ref05Right_any fc ad qt to 0 A none n c 0 0 xs [] _ (hx'.out.ext (EV.go dV)) (y5'.out.ext dV) nm n5m).mono ?_
  rw [ha'.out]
  rintro e w9 ⟨rfl, D9⟩
  have d9 := dV.go D9
  try dsimp only
  refine hK.out _ _ ?_ (fun hHeld => ?_)
  · first | assumption | (dsimp only; assumption)
  clear hK K
  try simp only [Act.put, gA, gB, gC, List.setIfInBounds_toArray, gE, gF]
  refine tk 7 ?_
  try simp only [Act.put, gA, gB, gC, List.setIfInBounds_toArray, gE, gF]
  refine tk 8 ?_
  try simp only [Act.put, gA, gB, gC, List.setIfInBounds_toArray, gE, gF]
  refine tk 9 ?_
  try simp only [Act.put, gA, gB, gC, List.setIfInBounds_toArray, gE, gF]
  refine tk 10 ?_
  try simp only [Act.put, gA, gB, gC, List.setIfInBounds_toArray, gE, gF]
  refine tk 11 ?_
  try simp only [Act.put, gA, gB, gC, List.setIfInBounds_toArray, gE, gF]
  refine tk 14 ?_
  try simp only [Act.put, gA, gB, gC, List.setIfInBounds_toArray, gE, gF]
  refine tk 15 ?_
  try simp only [Act.put, gA, gB, gC, List.setIfInBounds_toArray, gE, gF]
  refine wpAnyH_ready (rs := [12]) (by kernel_rfl) (by simp) ?_
  refine AllReadyH.cons rfl (fun K hK => ?_) ?_
  rotate_left
  · exact AllReadyH.nil
  go_simp
  go_at_call 40
  refine (ref05Put_any fc ad qt to 0 A none n c 0 0 xs [] _ (hx'.out.ext (EV.go d9)) hxr'.out nm (y5'.out.ext d9) hyr'.out n5m).mono ?_
  rw [hpL'.out]
  rintro e w10 ⟨A10, n10, c10, rfl, _, _, r10, D10⟩
  have d10 := d9.go D10
  have cs10 := r10.convert Try.underlying34 Try.underlying5 Try.underlying9 c10
  clear r10
  try dsimp only
  refine hK.out _ _ ?_ (fun hHeld => ?_)
  · first | assumption | (dsimp only; assumption)
  clear hK K
  try simp only [Act.put, gA, gB, gC, List.setIfInBounds_toArray, gE, gF]
  refine wpAnyH_ready (rs := [13]) (by kernel_rfl) (by simp) ?_
  refine AllReadyH.cons rfl (fun K hK => ?_) ?_
  rotate_left
  · exact AllReadyH.nil
  go_simp
  refine hK.out _ _ ?_ (fun hHeld => ?_)
  · first | assumption | (dsimp only; assumption)
  clear hK K
  try simp only [Act.put, gA, gB, gC, List.setIfInBounds_toArray, gE, gF]
  refine tk 16 ?_
  try simp only [Act.put, gA, gB, gC, List.setIfInBounds_toArray, gE, gF]
  refine tk 17 ?_
  try simp only [Act.put, gA, gB, gC, List.setIfInBounds_toArray, gE, gF]
  refine wpAnyH_done (by kernel_rfl) ?_ _
  have p10 := bp w10 d10
  have R10 := (d10.block _ (lt_of_block RV'.out)).trans RV'.out
  have f10 := frozen_block R10
  have c10' := cellsAt R10
  have R10' := Lib.hid R10
  have y10 := Lib.hid (y5'.out.ext d10)
  clear hcv R10 bq bp cs10
  go_wp2_with fail
  obtain ⟨z0, z1⟩ := two_reads R10'.out (.int .i64 0) (.slice none 0 0)
  refine bodyPost_ret (v := .tuple #[.agg #[.int .i64 0, .slice none 0 0], .int .i64 0]) (by simp [results, Try.results41, go_sem, z0, z1]) rfl ?_
  exact ⟨_, _, _, rfl, g5, g5', two_rd y10.out (Nat.le_refl _) _ (fun hn b o e => by have := fr5 b o e; omega) _ _, (EV.go d10).two (by omega) _ _⟩
set_option maxRecDepth 100000 in
set_option maxHeartbeats 6400000 in
theorem ref05Get_words (fc ad qt to : Int) (A Ab : Option Addr) (n c m cb : Nat) (xs ys bs : List Int) (w : World) (hx : RdI w w.heap.size .u16 A n xs) (hr : ∀ j : Nat, 0 ≤ xs[j]?.getD 0 ∧ xs[j]?.getD 0 ≤ 65535) (nm : n ≤ maxLen) (hyr : ∀ j : Nat, 0 ≤ ys[j]?.getD 0 ∧ ys[j]?.getD 0 ≤ 65535) (hz : RdI w w.heap.size .u8 Ab m bs) (hmc : m ≤ cb) (_hcm : cb ≤ maxLen) (ha : ansR fc ad qt to xs 0 ys = true) (hbs : repR fc ad qt to xs 0 ys = bs) (hrd : readsB fc = true) (hbb : readsBits fc = false) :
    Calls Try.prog 41 #[.agg #[.int .i64 fc, .int .i64 ad, .int .i64 qt, .slice A n c, .int .i64 to], .slice Ab m cb] w (RGetPost 0 ys 0 w) := by
  have E0 := (((Ext.refl w).goA (.cells #[.int .i64 fc, .int .i64 ad, .int .i64 qt, .slice A n c, .int .i64 to] 30)).goA (.cells #[.int .i64 0, .slice none 0 0] 54)).goA (.cells #[.int .i64 0, .slice none 0 0] 54)
  have hQ : (((w.alloc (.cells #[.int .i64 fc, .int .i64 ad, .int .i64 qt, .slice A n c, .int .i64 to] 30)).alloc (.cells #[.int .i64 0, .slice none 0 0] 54)).alloc (.cells #[.int .i64 0, .slice none 0 0] 54)).heap[w.heap.size]? = some (.cells #[.int .i64 fc, .int .i64 ad, .int .i64 qt, .slice A n c, .int .i64 to] 30 (0, 0)) := by rw [alloc_get, if_neg (by simp; omega), alloc_get, if_neg (by simp), alloc_get, if_pos rfl]
  have hR : (((w.alloc (.cells #[.int .i64 fc, .int .i64 ad, .int .i64 qt, .slice A n c, .int .i64 to] 30)).alloc (.cells #[.int .i64 0, .slice none 0 0] 54)).alloc (.cells #[.int .i64 0, .slice none 0 0] 54)).heap[w.heap.size + 1]? = some (.cells #[.int .i64 0, .slice none 0 0] 54 (0, 0)) := by rw [alloc_get, if_neg (by simp), alloc_get, if_pos (by simp)]
  have hP : (((w.alloc (.cells #[.int .i64 fc, .int .i64 ad, .int .i64 qt, .slice A n c, .int .i64 to] 30)).alloc (.cells #[.int .i64 0, .slice none 0 0] 54)).alloc (.cells #[.int .i64 0, .slice none 0 0] 54)).heap[w.heap.size + 2]? = some (.cells #[.int .i64 0, .slice none 0 0] 54 (0, 0)) := by rw [alloc_get, if_pos (by simp)]
  have k2 : w.heap.size + 1 + 1 = w.heap.size + 2 := rfl
  obtain ⟨a1, a2, a3⟩ := ans_parts ha
  obtain ⟨s, hs, -, -⟩ := right_parts a1
  obtain ⟨f1, f2, -, -⟩ := shape_hi hs
  have hfc : 1 ≤ fc ∧ fc ≤ 23 := by rcases shape_cases hs with ⟨rfl | rfl, _⟩ | ⟨rfl | rfl, _⟩ | ⟨rfl, _⟩ | ⟨rfl, _⟩ | ⟨rfl, _⟩ | ⟨rfl, _⟩ | ⟨rfl, _⟩ | ⟨rfl, _⟩ <;> decide
  have hpL : rputL fc ad qt to xs 0 ys = bs := by unfold rputL; rw [if_pos ha]; exact hbs
  have hlen := rep_length ha
  rw [hbs] at hlen
  have hzl := hz.len
  have hrr := fun hb => right_reads a1 hb
  have hqq := right_qty a1
  have hxr' := Lib.hid hr
  have hyr' := Lib.hid hyr
  have hx' := Lib.hid hx
  have hz' := Lib.hid hz
  have ha' := Lib.hid ha
  have hpL' := Lib.hid hpL
  have hQ' := Lib.hid hQ
  have hR' := Lib.hid hR
  have hP' := Lib.hid hP
  clear hs
  have hq := hrr hrd
  have hql := (a3 rfl)
  rw [hrd, if_pos rfl] at hql
  have hl2 := hlen.2.1 rfl hrd
  have her : bs = [fc, ((bodyL (readsBits fc) ys).length : Int) % 256] ++ bodyL (readsBits fc) ys := by
    rw [← hbs]
    unfold repR repL
    rw [if_neg (by simp), hrd, if_pos rfl, f1]
  have hdrop : bs.drop 2 = bodyL (readsBits fc) ys := by rw [her]; rfl
  have hbb8 : ByteL (bs.drop 2) := fun j => by rw [List.getElem?_drop, ← hbs]; exact repR_bytes ha _
  rw [hbb, if_neg (by decide)] at hq hl2
  have hys : unwordsL (bs.drop 2) = ys := by
    rw [hdrop, hbb, show bodyL false ys = wordsL ys from if_neg (by decide)]
    unfold unwordsL
    rw [wordsL_length, show 2 * ys.length / 2 = ys.length by omega]
    have := wordsAt_mid [] [] ys hyr
    simpa using this
  obtain ⟨bb, oo, rfl, hbl, -⟩ := hz.at_ (j := 0) (by omega)
  have t2 : ((m : Int) == 2) = false := by simp; omega
  have t2' : (m == 2) = false := by simp; omega
  have t3 : decide (2 < m) = true := by simp; omega
  have t4 : (2 : Int) < m := by omega
  have p4 : ¬ cb = 2 := by omega
  have p5 : 2 ≤ m := by omega
  have p6 : (2 : Int) ≤ (m : Int) := by omega
  have q0 := cellsAt hQ
  have f0 := frozen_block hP
  have p0 := cellsAt hP
  have sW : (((w.alloc (.cells #[.int .i64 fc, .int .i64 ad, .int .i64 qt, .slice A n c, .int .i64 to] 30)).alloc (.cells #[.int .i64 0, .slice none 0 0] 54)).alloc (.cells #[.int .i64 0, .slice none 0 0] 54)).heap.size = w.heap.size + 3 := by simp
  have hm9 : m ≤ 2100 := by omega
  have hcut := Lib.hid ((hz.below (E0.mono (Nat.le_refl _))).drop p5)
  have hys' := Lib.hid hys
  have hb8' := Lib.hid hbb8
  have hrd' := Lib.hid hrd
  have hbb' := Lib.hid hbb
  clear hx hr hyr hz ha hpL hQ hR hP a1 a2 a3 hlen hrr f1 f2 hzl hql hl2 her hdrop hys hbb8 hrd hbb
  have hm0 : 0 < m := by omega
  go_enter Try.func41, Try.ntmps41
  go_wp2_with fail
  generalize ((w.alloc (.cells #[.int .i64 fc, .int .i64 ad, .int .i64 qt, .slice A n c, .int .i64 to] 30)).alloc (.cells #[.int .i64 0, .slice none 0 0] 54)).alloc (.cells #[.int .i64 0, .slice none 0 0] 54) = U at *
  go_quiet (fail)
  go_wp2_with fail
  refine (refReads_any fc _).mono ?_
  rw [hrd'.out, hbb'.out]
  rintro e w2 ⟨rfl, rfl⟩
  have hQn : (U.drewN nq).heap[w.heap.size]? = _ := hQ'.out
  have hPn : (U.drewN nq).heap[w.heap.size + 2]? = _ := hP'.out
  have hRn : (U.drewN nq).heap[w.heap.size + 1]? = _ := hR'.out
  have hcn : Hid (RdI (U.drewN nq) w.heap.size .u8 (some ⟨bb, oo + 2, none⟩) (m - 2) (bs.drop 2)) := hcut
  have EU := E0.goD nq
  have sU : (U.drewN nq).heap.size = w.heap.size + 3 := sW
  clear q0 f0 p0
  generalize U.drewN nq = U2 at *
  have q0 := cellsAt hQn
  have hQn' := Lib.hid hQn
  have hPn' := Lib.hid hPn
  have hRn' := Lib.hid hRn
  clear hPn hRn hQn
  go_wp2_with fail
  refine (refUnwords_any _ (m - 2) _ _ _ U2 hcn.out (by omega) hb8'.out (by omega)).mono ?_
  rw [hys'.out]
  rintro e w3 ⟨A5, n5, c5, rfl, g5, g5', r5, D5, fr5⟩
  have hQ3 := (D5.block w.heap.size (by omega)).trans hQn'.out
  have hP3 := (D5.block (w.heap.size + 2) (by omega)).trans hPn'.out
  have hR3 := (D5.block (w.heap.size + 1) (by omega)).trans hRn'.out
  have f3 := frozen_block hP3
  have p3 := cellsAt hP3
  have fr5 : ∀ b o, A5 = some ⟨b, o, none⟩ → w.heap.size + 3 ≤ b := fun b o e => by have := fr5 b o e; omega
  have hQ3' := Lib.hid hQ3
  have hP3' := Lib.hid hP3
  have hR3' := Lib.hid hR3
  have EV := (EU.go D5).goS (p := ⟨w.heap.size + 2, 1, none⟩) (by simp) (.slice A5 n5 c5)
  clear q0 hQ3 hP3 hR3
  have QV' := Lib.hid ((Below.heap_setCell w3 ⟨w.heap.size + 2, 1, none⟩ (.slice A5 n5 c5) w.heap.size (by simp)).trans hQ3'.out)
  have RV' := Lib.hid ((Below.heap_setCell w3 ⟨w.heap.size + 2, 1, none⟩ (.slice A5 n5 c5) (w.heap.size + 1) (by simp)).trans hR3'.out)
  have PV : (w3.setCell ⟨w.heap.size + 2, 1, none⟩ (.slice A5 n5 c5)).heap[w.heap.size + 2]? = some (.cells #[.int .i64 0, .slice A5 n5 c5] 54 (0, 0)) := set_block hP3'.out 1 (.slice A5 n5 c5)
  have PV' := Lib.hid PV
  have y5 := set_rd r5 (Nat.le_refl _) ⟨w.heap.size + 2, 1, none⟩ (fun _ b o e => by have := fr5 b o e; simp; omega) (.slice A5 n5 c5)
  have y5' := Lib.hid y5
  have n5m := Nat.le_trans g5 g5'
  clear PV y5 r5
  go_wp2_with fail
  clear f3 p3
  generalize w3.setCell ⟨w.heap.size + 2, 1, none⟩ (.slice A5 n5 c5) = V at *
  have dV : Ext V V.drew := (Ext.refl _).god
  have bq : ∀ w', Ext V w' → ∀ o, w'.cell? ⟨w.heap.size, o, none⟩ = _ := fun w' D => cellsAt ((D.block _ (lt_of_block QV'.out)).trans QV'.out)
  have bp : ∀ w', Ext V w' → ∀ o, w'.cell? ⟨w.heap.size + 2, o, none⟩ = _ := fun w' D => cellsAt ((D.block _ (lt_of_block PV'.out)).trans PV'.out)
  have hcv : ∀ w', Ext V w' → Sem.run Try.prog (convert 34 9 (.slice (some ⟨bb, oo, none⟩) m cb)) w' = .ok (.string (strOfNums bs)) w' := fun w' h => (hz'.out.ext (EV.go h)).convert Try.underlying34 Try.underlying5 Try.underlying9 cb
  have tn : ((m : Int) == 0) = false := by simp <;> omega
  have tn' : (m == 0) = false := by simp <;> omega
  refine wp_region_held_drew (S := fun w' => Ext V w') (by kernel_rfl) dV (fun hHeld => ?_)
  refine tk 0 ?_
  try simp only [Act.put, gA, gC, List.setIfInBounds_toArray, gE, gF]
  refine tk 1 ?_
  try simp only [Act.put, gA, gB, gC, List.setIfInBounds_toArray, gE, gF]
  refine tk 2 ?_
  try simp only [Act.put, gA, gB, gC, List.setIfInBounds_toArray, gE, gF]
  refine tk 3 ?_
  try simp only [Act.put, gA, gB, gC, List.setIfInBounds_toArray, gE, gF]
  refine tk 4 ?_
  try simp only [Act.put, gA, gB, gC, List.setIfInBounds_toArray, gE, gF]
  refine tk 5 ?_
  try simp only [Act.put, gA, gB, gC, List.setIfInBounds_toArray, gE, gF]
  refine wpAnyH_ready (rs := [6]) (by kernel_rfl) (by simp) ?_
  refine AllReadyH.cons rfl (fun K hK => ?_) ?_
  rotate_left
  · exact AllReadyH.nil
  go_simp
  go_at_call 20
  refine (ref05Right_any fc ad qt to 0 A A5 n c n5 c5 xs ys _ (hx'.out.ext (EV.go dV)) (y5'.out.ext dV) nm n5m).mono ?_
  rw [ha'.out]
  rintro e w9 ⟨rfl, D9⟩
  have d9 := dV.go D9
  try dsimp only
  refine hK.out _ _ ?_ (fun hHeld => ?_)
  · first | assumption | (dsimp only; assumption)
  clear hK K
  try simp only [Act.put, gA, gB, gC, List.setIfInBounds_toArray, gE, gF]
  refine tk 7 ?_
  try simp only [Act.put, gA, gB, gC, List.setIfInBounds_toArray, gE, gF]
  refine tk 8 ?_
  try simp only [Act.put, gA, gB, gC, List.setIfInBounds_toArray, gE, gF]
  refine tk 9 ?_
  try simp only [Act.put, gA, gB, gC, List.setIfInBounds_toArray, gE, gF]
  refine tk 10 ?_
  try simp only [Act.put, gA, gB, gC, List.setIfInBounds_toArray, gE, gF]
  refine tk 11 ?_
  try simp only [Act.put, gA, gB, gC, List.setIfInBounds_toArray, gE, gF]
  refine tk 14 ?_
  try simp only [Act.put, gA, gB, gC, List.setIfInBounds_toArray, gE, gF]
  refine tk 15 ?_
  try simp only [Act.put, gA, gB, gC, List.setIfInBounds_toArray, gE, gF]
  refine wpAnyH_ready (rs := [12]) (by kernel_rfl) (by simp) ?_
  refine AllReadyH.cons rfl (fun K hK => ?_) ?_
  rotate_left
  · exact AllReadyH.nil
  go_simp
  go_at_call 40
  refine (ref05Put_any fc ad qt to 0 A A5 n c n5 c5 xs ys _ (hx'.out.ext (EV.go d9)) hxr'.out nm (y5'.out.ext d9) hyr'.out n5m).mono ?_
  rw [hpL'.out]
  rintro e w10 ⟨A10, n10, c10, rfl, _, _, r10, D10⟩
  have d10 := d9.go D10
  have cs10 := r10.convert Try.underlying34 Try.underlying5 Try.underlying9 c10
  clear r10
  try dsimp only
  refine hK.out _ _ ?_ (fun hHeld => ?_)
  · first | assumption | (dsimp only; assumption)
  clear hK K
  try simp only [Act.put, gA, gB, gC, List.setIfInBounds_toArray, gE, gF]
  refine wpAnyH_ready (rs := [13]) (by kernel_rfl) (by simp) ?_
  refine AllReadyH.cons rfl (fun K hK => ?_) ?_
  rotate_left
  · exact AllReadyH.nil
  go_simp
  refine hK.out _ _ ?_ (fun hHeld => ?_)
  · first | assumption | (dsimp only; assumption)
  clear hK K
  try simp only [Act.put, gA, gB, gC, List.setIfInBounds_toArray, gE, gF]
  refine tk 16 ?_
  try simp only [Act.put, gA, gB, gC, List.setIfInBounds_toArray, gE, gF]
  refine tk 17 ?_
  try simp only [Act.put, gA, gB, gC, List.setIfInBounds_toArray, gE, gF]
  refine wpAnyH_done (by kernel_rfl) ?_ _
  have p10 := bp w10 d10
  have R10 := (d10.block _ (lt_of_block RV'.out)).trans RV'.out
  have f10 := frozen_block R10
  have c10' := cellsAt R10
  have R10' := Lib.hid R10
  have y10 := Lib.hid (y5'.out.ext d10)
  clear hcv R10 bq bp cs10
  go_wp2_with fail
  obtain ⟨z0, z1⟩ := two_reads R10'.out (.int .i64 0) (.slice A5 n5 c5)
  refine bodyPost_ret (v := .tuple #[.agg #[.int .i64 0, .slice A5 n5 c5], .int .i64 0]) (by simp [results, Try.results41, go_sem, z0, z1]) rfl ?_
  exact ⟨_, _, _, rfl, g5, g5', two_rd y10.out (Nat.le_refl _) _ (fun hn b o e => by have := fr5 b o e; omega) _ _, (EV.go d10).two (by omega) _ _⟩
set_option maxRecDepth 100000 in
set_option maxHeartbeats 6400000 in
theorem ref05Get_bits (fc ad qt to : Int) (A Ab : Option Addr) (n c m cb : Nat) (xs ys bs : List Int) (w : World) (hx : RdI w w.heap.size .u16 A n xs) (hr : ∀ j : Nat, 0 ≤ xs[j]?.getD 0 ∧ xs[j]?.getD 0 ≤ 65535) (nm : n ≤ maxLen) (hyr : ∀ j : Nat, 0 ≤ ys[j]?.getD 0 ∧ ys[j]?.getD 0 ≤ 65535) (hz : RdI w w.heap.size .u8 Ab m bs) (hmc : m ≤ cb) (_hcm : cb ≤ maxLen) (ha : ansR fc ad qt to xs 0 ys = true) (hbs : repR fc ad qt to xs 0 ys = bs) (hrd : readsB fc = true) (hbb : readsBits fc = true) :
    Calls Try.prog 41 #[.agg #[.int .i64 fc, .int .i64 ad, .int .i64 qt, .slice A n c, .int .i64 to], .slice Ab m cb] w (RGetPost 0 ys 0 w) := by
  have E0 := (((Ext.refl w).goA (.cells #[.int .i64 fc, .int .i64 ad, .int .i64 qt, .slice A n c, .int .i64 to] 30)).goA (.cells #[.int .i64 0, .slice none 0 0] 54)).goA (.cells #[.int .i64 0, .slice none 0 0] 54)
  have hQ : (((w.alloc (.cells #[.int .i64 fc, .int .i64 ad, .int .i64 qt, .slice A n c, .int .i64 to] 30)).alloc (.cells #[.int .i64 0, .slice none 0 0] 54)).alloc (.cells #[.int .i64 0, .slice none 0 0] 54)).heap[w.heap.size]? = some (.cells #[.int .i64 fc, .int .i64 ad, .int .i64 qt, .slice A n c, .int .i64 to] 30 (0, 0)) := by rw [alloc_get, if_neg (by simp; omega), alloc_get, if_neg (by simp), alloc_get, if_pos rfl]
  have hR : (((w.alloc (.cells #[.int .i64 fc, .int .i64 ad, .int .i64 qt, .slice A n c, .int .i64 to] 30)).alloc (.cells #[.int .i64 0, .slice none 0 0] 54)).alloc (.cells #[.int .i64 0, .slice none 0 0] 54)).heap[w.heap.size + 1]? = some (.cells #[.int .i64 0, .slice none 0 0] 54 (0, 0)) := by rw [alloc_get, if_neg (by simp), alloc_get, if_pos (by simp)]
  have hP : (((w.alloc (.cells #[.int .i64 fc, .int .i64 ad, .int .i64 qt, .slice A n c, .int .i64 to] 30)).alloc (.cells #[.int .i64 0, .slice none 0 0] 54)).alloc (.cells #[.int .i64 0, .slice none 0 0] 54)).heap[w.heap.size + 2]? = some (.cells #[.int .i64 0, .slice none 0 0] 54 (0, 0)) := by rw [alloc_get, if_pos (by simp)]
  have k2 : w.heap.size + 1 + 1 = w.heap.size + 2 := rfl
  obtain ⟨a1, a2, a3⟩ := ans_parts ha
  obtain ⟨s, hs, -, -⟩ := right_parts a1
  obtain ⟨f1, f2, -, -⟩ := shape_hi hs
  have hfc : 1 ≤ fc ∧ fc ≤ 23 := by rcases shape_cases hs with ⟨rfl | rfl, _⟩ | ⟨rfl | rfl, _⟩ | ⟨rfl, _⟩ | ⟨rfl, _⟩ | ⟨rfl, _⟩ | ⟨rfl, _⟩ | ⟨rfl, _⟩ | ⟨rfl, _⟩ <;> decide
  have hpL : rputL fc ad qt to xs 0 ys = bs := by unfold rputL; rw [if_pos ha]; exact hbs
  have hlen := rep_length ha
  rw [hbs] at hlen
  have hzl := hz.len
  have hrr := fun hb => right_reads a1 hb
  have hqq := right_qty a1
  have hxr' := Lib.hid hr
  have hyr' := Lib.hid hyr
  have hx' := Lib.hid hx
  have hz' := Lib.hid hz
  have ha' := Lib.hid ha
  have hpL' := Lib.hid hpL
  have hQ' := Lib.hid hQ
  have hR' := Lib.hid hR
  have hP' := Lib.hid hP
  clear hs
  have hq := hrr hrd
  have hql := (a3 rfl)
  rw [hrd, if_pos rfl] at hql
  have hl2 := hlen.2.1 rfl hrd
  have her : bs = [fc, ((bodyL (readsBits fc) ys).length : Int) % 256] ++ bodyL (readsBits fc) ys := by
    rw [← hbs]
    unfold repR repL
    rw [if_neg (by simp), hrd, if_pos rfl, f1]
  have hdrop : bs.drop 2 = bodyL (readsBits fc) ys := by rw [her]; rfl
  have hbb8 : ByteL (bs.drop 2) := fun j => by rw [List.getElem?_drop, ← hbs]; exact repR_bytes ha _
  rw [hbb, if_pos rfl] at hq hl2
  have hys : unbitsL (bs.drop 2) qt.toNat = ys := by
    rw [hdrop, hbb, show bodyL true ys = bitsL ys from if_pos rfl, show qt.toNat = ys.length by omega]
    exact unbits_same ys (by have := hql.2; rwa [hbb] at this) (fun j => (hyr j).1)
  have t7 : decide (qt ≤ 2000) = true := by simp; omega
  obtain ⟨bb, oo, rfl, hbl, -⟩ := hz.at_ (j := 0) (by omega)
  have t2 : ((m : Int) == 2) = false := by simp; omega
  have t2' : (m == 2) = false := by simp; omega
  have t3 : decide (2 < m) = true := by simp; omega
  have t4 : (2 : Int) < m := by omega
  have p4 : ¬ cb = 2 := by omega
  have p5 : 2 ≤ m := by omega
  have p6 : (2 : Int) ≤ (m : Int) := by omega
  have q0 := cellsAt hQ
  have f0 := frozen_block hP
  have p0 := cellsAt hP
  have sW : (((w.alloc (.cells #[.int .i64 fc, .int .i64 ad, .int .i64 qt, .slice A n c, .int .i64 to] 30)).alloc (.cells #[.int .i64 0, .slice none 0 0] 54)).alloc (.cells #[.int .i64 0, .slice none 0 0] 54)).heap.size = w.heap.size + 3 := by simp
  have hm9 : m ≤ 2100 := by omega
  have hcut := Lib.hid ((hz.below (E0.mono (Nat.le_refl _))).drop p5)
  have hys' := Lib.hid hys
  have hb8' := Lib.hid hbb8
  have hrd' := Lib.hid hrd
  have hbb' := Lib.hid hbb
  clear hx hr hyr hz ha hpL hQ hR hP a1 a2 a3 hlen hrr f1 f2 hzl hql hl2 her hdrop hys hbb8 hrd hbb
  have hm0 : 0 < m := by omega
  go_enter Try.func41, Try.ntmps41
  go_wp2_with fail
  generalize ((w.alloc (.cells #[.int .i64 fc, .int .i64 ad, .int .i64 qt, .slice A n c, .int .i64 to] 30)).alloc (.cells #[.int .i64 0, .slice none 0 0] 54)).alloc (.cells #[.int .i64 0, .slice none 0 0] 54) = U at *
  go_quiet (fail)
  go_wp2_with fail
  refine (refReads_any fc _).mono ?_
  rw [hrd'.out, hbb'.out]
  rintro e w2 ⟨rfl, rfl⟩
  have hQn : (U.drewN nq).heap[w.heap.size]? = _ := hQ'.out
  have hPn : (U.drewN nq).heap[w.heap.size + 2]? = _ := hP'.out
  have hRn : (U.drewN nq).heap[w.heap.size + 1]? = _ := hR'.out
  have hcn : Hid (RdI (U.drewN nq) w.heap.size .u8 (some ⟨bb, oo + 2, none⟩) (m - 2) (bs.drop 2)) := hcut
  have EU := E0.goD nq
  have sU : (U.drewN nq).heap.size = w.heap.size + 3 := sW
  clear q0 f0 p0
  generalize U.drewN nq = U2 at *
  have q0 := cellsAt hQn
  have hQn' := Lib.hid hQn
  have hPn' := Lib.hid hPn
  have hRn' := Lib.hid hRn
  clear hPn hRn hQn
  obtain ⟨N, hN⟩ := Int.eq_ofNat_of_zero_le (show 0 ≤ qt by omega)
  subst hN
  rw [Int.toNat_natCast] at hys'
  go_wp2_with fail
  have hQd : U2.drew.heap[w.heap.size]? = _ := hQn'.out
  have bqS : ∀ w' : World, w'.heap[w.heap.size]? = some (.cells #[.int .i64 fc, .int .i64 ad, .int .i64 (N : Int), .slice A n c, .int .i64 to] 30 (0, 0)) → ∀ o, w'.cell? ⟨w.heap.size, o, none⟩ = _ := fun w' h => cellsAt h
  refine wp_region_held_drew (S := fun w' => w'.heap[w.heap.size]? = some (.cells #[.int .i64 fc, .int .i64 ad, .int .i64 (N : Int), .slice A n c, .int .i64 to] 30 (0, 0))) (by kernel_rfl) hQd (fun hHeld => ?_)
  refine tk 0 ?_
  try simp only [Act.put, gA, gC, List.setIfInBounds_toArray, gE, gF]
  refine tk 1 ?_
  try simp only [Act.put, gA, gB, gC, List.setIfInBounds_toArray, gE, gF]
  refine tk 2 ?_
  try simp only [Act.put, gA, gB, gC, List.setIfInBounds_toArray, gE, gF]
  refine tk 3 ?_
  try simp only [Act.put, gA, gB, gC, List.setIfInBounds_toArray, gE, gF]
  refine wpAnyH_ready (rs := [4]) (by kernel_rfl) (by simp) ?_
  refine AllReadyH.cons rfl (fun K hK => ?_) ?_
  rotate_left
  · exact AllReadyH.nil
  go_simp
  go_at_call 72
  refine (refUnbits_any _ (m - 2) _ _ N _ U2.drew hcn.out (by rw [show U2.drew.heap.size = U2.heap.size from rfl]; omega) hb8'.out (by omega) (by omega)).mono ?_
  rw [hys'.out]
  rintro e w3 ⟨A5, n5, c5, rfl, g5, g5', r5, D5, fr5⟩
  have hQ3 := (D5.block w.heap.size (by rw [show U2.drew.heap.size = U2.heap.size from rfl]; omega)).trans hQd
  have hP3 := (D5.block (w.heap.size + 2) (by rw [show U2.drew.heap.size = U2.heap.size from rfl]; omega)).trans (show U2.drew.heap[w.heap.size + 2]? = _ from hPn'.out)
  have hR3 := (D5.block (w.heap.size + 1) (by rw [show U2.drew.heap.size = U2.heap.size from rfl]; omega)).trans (show U2.drew.heap[w.heap.size + 1]? = _ from hRn'.out)
  have f3 := frozen_block hP3
  have p3 := cellsAt hP3
  try dsimp only
  refine hK.out _ _ ?_ (fun hHeld => ?_)
  · first | assumption | (dsimp only; assumption)
  clear hK K
  try simp only [Act.put, gA, gB, gC, List.setIfInBounds_toArray, gE, gF]
  refine tk 5 ?_
  try simp only [Act.put, gA, gB, gC, List.setIfInBounds_toArray, gE, gF]
  refine wpAnyH_ready (rs := [6]) (by kernel_rfl) (by simp) ?_
  refine AllReadyH.cons rfl (fun K hK => ?_) ?_
  rotate_left
  · exact AllReadyH.nil
  go_simp
  refine hK.out _ _ ?_ (fun hHeld => ?_)
  · exact (Below.heap_setCell w3 ⟨w.heap.size + 2, 1, none⟩ (.slice A5 n5 c5) w.heap.size (by simp)).trans hQ3
  clear hK K
  try simp only [Act.put, gA, gB, gC, List.setIfInBounds_toArray, gE, gF]
  refine wpAnyH_done (by kernel_rfl) ?_ _
  have fr5 : ∀ b o, A5 = some ⟨b, o, none⟩ → w.heap.size + 3 ≤ b := fun b o e => by have := fr5 b o e; rw [show U2.drew.heap.size = U2.heap.size from rfl] at this; omega
  have EV := (EU.god.go D5).goS (p := ⟨w.heap.size + 2, 1, none⟩) (by simp) (.slice A5 n5 c5)
  have QV' := Lib.hid ((Below.heap_setCell w3 ⟨w.heap.size + 2, 1, none⟩ (.slice A5 n5 c5) w.heap.size (by simp)).trans hQ3)
  have RV' := Lib.hid ((Below.heap_setCell w3 ⟨w.heap.size + 2, 1, none⟩ (.slice A5 n5 c5) (w.heap.size + 1) (by simp)).trans hR3)
  have PV : (w3.setCell ⟨w.heap.size + 2, 1, none⟩ (.slice A5 n5 c5)).heap[w.heap.size + 2]? = some (.cells #[.int .i64 0, .slice A5 n5 c5] 54 (0, 0)) := set_block hP3 1 (.slice A5 n5 c5)
  have PV' := Lib.hid PV
  have y5 := set_rd r5 (Nat.le_refl _) ⟨w.heap.size + 2, 1, none⟩ (fun _ b o e => by have := fr5 b o e; simp; omega) (.slice A5 n5 c5)
  have y5' := Lib.hid y5
  have n5m := Nat.le_trans g5 g5'
  clear PV y5 r5
  go_wp2_with fail
  clear f3 p3
  generalize w3.setCell ⟨w.heap.size + 2, 1, none⟩ (.slice A5 n5 c5) = V at *
  have dV : Ext V V.drew := (Ext.refl _).god
  have bq : ∀ w', Ext V w' → ∀ o, w'.cell? ⟨w.heap.size, o, none⟩ = _ := fun w' D => cellsAt ((D.block _ (lt_of_block QV'.out)).trans QV'.out)
  have bp : ∀ w', Ext V w' → ∀ o, w'.cell? ⟨w.heap.size + 2, o, none⟩ = _ := fun w' D => cellsAt ((D.block _ (lt_of_block PV'.out)).trans PV'.out)
  have hcv : ∀ w', Ext V w' → Sem.run Try.prog (convert 34 9 (.slice (some ⟨bb, oo, none⟩) m cb)) w' = .ok (.string (strOfNums bs)) w' := fun w' h => (hz'.out.ext (EV.go h)).convert Try.underlying34 Try.underlying5 Try.underlying9 cb
  have tn : ((m : Int) == 0) = false := by simp <;> omega
  have tn' : (m == 0) = false := by simp <;> omega
  refine wp_region_held_drew (S := fun w' => Ext V w') (by kernel_rfl) dV (fun hHeld => ?_)
  refine tk 0 ?_
  try simp only [Act.put, gA, gC, List.setIfInBounds_toArray, gE, gF]
  refine tk 1 ?_
  try simp only [Act.put, gA, gB, gC, List.setIfInBounds_toArray, gE, gF]
  refine tk 2 ?_
  try simp only [Act.put, gA, gB, gC, List.setIfInBounds_toArray, gE, gF]
  refine tk 3 ?_
  try simp only [Act.put, gA, gB, gC, List.setIfInBounds_toArray, gE, gF]
  refine tk 4 ?_
  try simp only [Act.put, gA, gB, gC, List.setIfInBounds_toArray, gE, gF]
  refine tk 5 ?_
  try simp only [Act.put, gA, gB, gC, List.setIfInBounds_toArray, gE, gF]
  refine wpAnyH_ready (rs := [6]) (by kernel_rfl) (by simp) ?_
  refine AllReadyH.cons rfl (fun K hK => ?_) ?_
  rotate_left
  · exact AllReadyH.nil
  go_simp
  go_at_call 20
  refine (ref05Right_any fc ad (N : Int) to 0 A A5 n c n5 c5 xs ys _ (hx'.out.ext (EV.go dV)) (y5'.out.ext dV) nm n5m).mono ?_
  rw [ha'.out]
  rintro e w9 ⟨rfl, D9⟩
  have d9 := dV.go D9
  try dsimp only
  refine hK.out _ _ ?_ (fun hHeld => ?_)
  · first | assumption | (dsimp only; assumption)
  clear hK K
  try simp only [Act.put, gA, gB, gC, List.setIfInBounds_toArray, gE, gF]
  refine tk 7 ?_
  try simp only [Act.put, gA, gB, gC, List.setIfInBounds_toArray, gE, gF]
  refine tk 8 ?_
  try simp only [Act.put, gA, gB, gC, List.setIfInBounds_toArray, gE, gF]
  refine tk 9 ?_
  try simp only [Act.put, gA, gB, gC, List.setIfInBounds_toArray, gE, gF]
  refine tk 10 ?_
  try simp only [Act.put, gA, gB, gC, List.setIfInBounds_toArray, gE, gF]
  refine tk 11 ?_
  try simp only [Act.put, gA, gB, gC, List.setIfInBounds_toArray, gE, gF]
  refine tk 14 ?_
  try simp only [Act.put, gA, gB, gC, List.setIfInBounds_toArray, gE, gF]
  refine tk 15 ?_
  try simp only [Act.put, gA, gB, gC, List.setIfInBounds_toArray, gE, gF]
  refine wpAnyH_ready (rs := [12]) (by kernel_rfl) (by simp) ?_
  refine AllReadyH.cons rfl (fun K hK => ?_) ?_
  rotate_left
  · exact AllReadyH.nil
  go_simp
  go_at_call 40
  refine (ref05Put_any fc ad (N : Int) to 0 A A5 n c n5 c5 xs ys _ (hx'.out.ext (EV.go d9)) hxr'.out nm (y5'.out.ext d9) hyr'.out n5m).mono ?_
  rw [hpL'.out]
  rintro e w10 ⟨A10, n10, c10, rfl, _, _, r10, D10⟩
  have d10 := d9.go D10
  have cs10 := r10.convert Try.underlying34 Try.underlying5 Try.underlying9 c10
  clear r10
  try dsimp only
  refine hK.out _ _ ?_ (fun hHeld => ?_)
  · first | assumption | (dsimp only; assumption)
  clear hK K
  try simp only [Act.put, gA, gB, gC, List.setIfInBounds_toArray, gE, gF]
  refine wpAnyH_ready (rs := [13]) (by kernel_rfl) (by simp) ?_
  refine AllReadyH.cons rfl (fun K hK => ?_) ?_
  rotate_left
  · exact AllReadyH.nil
  go_simp
  refine hK.out _ _ ?_ (fun hHeld => ?_)
  · first | assumption | (dsimp only; assumption)
  clear hK K
  try simp only [Act.put, gA, gB, gC, List.setIfInBounds_toArray, gE, gF]
  refine tk 16 ?_
  try simp only [Act.put, gA, gB, gC, List.setIfInBounds_toArray, gE, gF]
  refine tk 17 ?_
  try simp only [Act.put, gA, gB, gC, List.setIfInBounds_toArray, gE, gF]
  refine wpAnyH_done (by kernel_rfl) ?_ _
  have p10 := bp w10 d10
  have R10 := (d10.block _ (lt_of_block RV'.out)).trans RV'.out
  have f10 := frozen_block R10
  have c10' := cellsAt R10
  have R10' := Lib.hid R10
  have y10 := Lib.hid (y5'.out.ext d10)
  clear hcv R10 bq bp cs10
  go_wp2_with fail
  obtain ⟨z0, z1⟩ := two_reads R10'.out (.int .i64 0) (.slice A5 n5 c5)
  refine bodyPost_ret (v := .tuple #[.agg #[.int .i64 0, .slice A5 n5 c5], .int .i64 0]) (by simp [results, Try.results41, go_sem, z0, z1]) rfl ?_
  exact ⟨_, _, _, rfl, g5, g5', two_rd y10.out (Nat.le_refl _) _ (fun hn b o e => by have := fr5 b o e; omega) _ _, (EV.go d10).two (by omega) _ _⟩
theorem ref05Get_any (fc ad qt to code : Int) (A Ab : Option Addr) (n c m cb : Nat) (xs ys bs : List Int) (w : World) (hx : RdI w w.heap.size .u16 A n xs) (hr : ∀ j : Nat, 0 ≤ xs[j]?.getD 0 ∧ xs[j]?.getD 0 ≤ 65535) (nm : n ≤ maxLen) (hyr : ∀ j : Nat, 0 ≤ ys[j]?.getD 0 ∧ ys[j]?.getD 0 ≤ 65535) (hz : RdI w w.heap.size .u8 Ab m bs) (hmc : m ≤ cb) (hcm : cb ≤ maxLen) (ha : ansR fc ad qt to xs code ys = true) (hbs : repR fc ad qt to xs code ys = bs) :
    Calls Try.prog 41 #[.agg #[.int .i64 fc, .int .i64 ad, .int .i64 qt, .slice A n c, .int .i64 to], .slice Ab m cb] w (RGetPost code ys (if code = 0 then 0 else 52) w) := by
  by_cases hc : code = 0
  · subst hc
    rw [if_pos rfl]
    cases hrd : readsB fc
    · exact ref05Get_writes fc ad qt to A Ab n c m cb xs ys bs w hx hr nm hyr hz hmc hcm ha hbs hrd
    · cases hbb : readsBits fc
      · exact ref05Get_words fc ad qt to A Ab n c m cb xs ys bs w hx hr nm hyr hz hmc hcm ha hbs hrd hbb
      · exact ref05Get_bits fc ad qt to A Ab n c m cb xs ys bs w hx hr nm hyr hz hmc hcm ha hbs hrd hbb
  · rw [if_neg hc]
    exact ref05Get_alarm fc ad qt to code A Ab n c m cb xs ys bs w hx hr nm hyr hz hmc hcm ha hbs hc
end Go.Proofs.Ytgagpalffdgjnaa
