/- Layer 17, the walks: Load. · Layer 17, the walks: Load. -/
import Derived.Test.YtgajbgdkgelkgaaGreatCoI
namespace Go.Proofs.YtgajbgdkgelkgaaGreat
open Go.RowKit

theorem latchLoad_none {g gl gf gs N : Nat} {r : Lw} {w : World} (h : Rw w g gl gf gs N r) {A : Option Addr} {n c : Nat} {xs : List Lt} (hx : RdC ltCells 3 w w.heap.size A n xs) (hcm : n ≤ c ∧ c ≤ maxLen) (hoff : 0 < n → ∀ b o, A = some ⟨b, o, none⟩ → b ≠ g ∧ b ≠ gl) (hl : loadL r xs = none) :
    Calls Tryz.prog 44 #[.pointer (some ⟨g, 0, none⟩), .slice A n c] w fun e w' => e = .returned (.bool false) ∧ Ext w w' :=
  (latchLoad_any g gl gf gs N r w h A n c xs hx hcm hoff).mono fun e w' hp => by
    rcases hp with ⟨-, h1, h2⟩ | ⟨r', gf', gs', h1, -⟩
    · exact ⟨h1, h2⟩
    · rw [hl] at h1; cases h1
theorem latchLoad_some {g gl gf gs N : Nat} {r r' : Lw} {w : World} (h : Rw w g gl gf gs N r) {A : Option Addr} {n c : Nat} {xs : List Lt} (hx : RdC ltCells 3 w w.heap.size A n xs) (hcm : n ≤ c ∧ c ≤ maxLen) (hoff : 0 < n → ∀ b o, A = some ⟨b, o, none⟩ → b ≠ g ∧ b ≠ gl) (hl : loadL r xs = some r') :
    Calls Tryz.prog 44 #[.pointer (some ⟨g, 0, none⟩), .slice A n c] w fun e w' => e = .returned (.bool true) ∧ ∃ gf' gs', Rw w' g gl gf' gs' 1000 r' ∧ Mod (fun b => b = g ∨ b = gl) w w' ∧ w.heap.size ≤ gf' ∧ w.heap.size ≤ gs' :=
  (latchLoad_any g gl gf gs N r w h A n c xs hx hcm hoff).mono fun e w' hp => by
    rcases hp with ⟨h1, -⟩ | ⟨r2, gf', gs', h1, h2, h3⟩
    · rw [hl] at h1; cases h1
    · rw [hl] at h1; cases h1; exact ⟨h2, gf', gs', h3⟩
theorem loadB_iff (n : Nat) (xs : List Int) : loadB n xs = decide (xs.length = n ∧ xs.all endOk = true) := by
  have h : xs.any wrongE = !xs.all endOk := by
    induction xs with
    | nil => rfl
    | cons x xs ih =>
      have hx : wrongE x = !endOk x := by
        unfold wrongE endOk
        rw [Bool.eq_iff_iff]
        simp only [Bool.or_eq_true, decide_eq_true_eq, Bool.not_eq_true', Bool.and_eq_false_iff, decide_eq_false_iff_not]
        omega
      rw [List.any_cons, List.all_cons, ih, hx, Bool.not_and]
  unfold loadB
  rw [h, Bool.not_not, Bool.eq_iff_iff]
  simp
/-- The three parts are put in anew. -/
abbrev CoK.with (K : CoK) (cg cl cf cs eg el ef es tg tl tm : Nat) : CoK := { K with cg := cg, cl := cl, cf := cf, cs := cs, eg := eg, el := el, ef := ef, es := es, tg := tg, tl := tl, tm := tm }
theorem HasK.swap {w w' : World} {base B N N' : Nat} {K : CoK} {m : Mx} {c : Co} (h : HasK w base B N K m c) {cg cl cf cs eg el ef es tg tl tm : Nat} {ca' ef' : Lw} {en' : List Int}
    (hh : w'.heap[K.g]? = some (.cells ((K.with cg cl cf cs eg el ef es tg tl tm).arr m) 79 (0, 0))) (hca : Rw w' cg cl cf cs N' ca') (hef : Rw w' eg el ef es N' ef') (hen : Tb w' tg tl tm N' (m.cas.map Ca.lm) en')
    (gca : ca'.g = m.cas.map groupOf) (gef : ef'.g = m.efs.map fun _ => 0) (M : Mod (fun b => b = K.g) w w') (l1 : ∀ b, LwB cg cl cf cs b → w.heap.size ≤ b) (l2 : ∀ b, LwB eg el ef es b → w.heap.size ≤ b) (l3 : ∀ b, TbB tg tl tm b → w.heap.size ≤ b)
    (d12 : ∀ b, LwB cg cl cf cs b → ¬ LwB eg el ef es b) (d13 : ∀ b, LwB cg cl cf cs b → ¬ TbB tg tl tm b) (d23 : ∀ b, LwB eg el ef es b → ¬ TbB tg tl tm b) :
    HasK w' base B N' (K.with cg cl cf cs eg el ef es tg tl tm) m { c with ca := ca', ef := ef', en := en' } := by
  have oldg := h.old (b := K.g) (.inl rfl)
  have oldt := h.old (b := K.gt) (.inr (.inr (.inl rfl)))
  have oldp : 0 < m.np → K.gp < w.heap.size := fun h0 => h.old (.inr (.inl ⟨h0, rfl⟩))
  have oldd : ∀ j, j < m.np → K.gd j < w.heap.size := fun j hj => (h.dl j hj).1.lt
  have hB := h.mxlt
  have hgB := h.big.1
  have far : ∀ b, w.heap.size ≤ b → b ≠ K.g ∧ (0 < m.np → b ≠ K.gp) ∧ b ≠ K.gt ∧ (∀ j, j < m.np → b ≠ K.gd j) := fun b hb => ⟨by omega, fun h0 => by have := oldp h0; omega, by omega, fun j hj => by have := oldd j hj; omega⟩
  refine ⟨h.mx.keep fun b _ hb => M.block b (by omega) (by omega), hh, fun h0 => ⟨(h.pA h0).1, (h.pA h0).2.keep (M.block _ (oldp h0) (h.n1.2 h0).1)⟩, fun j hj => ⟨(h.dl j hj).1.keep (M.block _ (oldd j hj) (h.n5 j hj).1), (h.dl j hj).2⟩, (M.block _ oldt (Ne.symm h.n1.1)).trans h.tr, hca, hef, hen, h.ldl, h.lkn, h.ltr, gca, gef, h.bB, ⟨h.big.1, fun b hb => ?_⟩, h.sz, h.cap, h.n1, fun b hb => ?_, fun b hb => ?_, fun b hb => far b (l3 b hb), h.n5⟩
  · rcases hb with h1 | h1 | h1 | h1 | h1 | h1 | h1
    · exact h.big.2 b (.inl h1)
    · exact h.big.2 b (.inr (.inl h1))
    · exact h.big.2 b (.inr (.inr (.inl h1)))
    · have := l1 b h1; omega
    · have := l2 b h1; omega
    · have := l3 b h1; omega
    · exact h.big.2 b (.inr (.inr (.inr (.inr (.inr (.inr h1))))))
  · obtain ⟨f1, f2, f3, f4⟩ := far b (l1 b hb)
    exact ⟨f1, f2, f3, f4, d12 b hb, d13 b hb⟩
  · obtain ⟨f1, f2, f3, f4⟩ := far b (l2 b hb)
    exact ⟨f1, f2, f3, f4, d23 b hb⟩
def LoadCPost (base B N : Nat) (K : CoK) (m : Mx) (c : Co) (s : St) (w : World) (e : Ending) (w' : World) : Prop :=
  (loadC m s c = none ∧ e = .returned (.bool false) ∧ HasK w' base B N K m c ∧ Ext w w') ∨
  ∃ c' cg cl cf cs eg el ef es tg tl tm, loadC m s c = some c' ∧ e = .returned (.bool true) ∧ HasK w' base B (1000 + s.2.2.length) (K.with cg cl cf cs eg el ef es tg tl tm) m c' ∧ Mod (fun b => b = K.g) w w' ∧ (∀ b, LwB cg cl cf cs b → w.heap.size ≤ b) ∧ (∀ b, LwB eg el ef es b → w.heap.size ≤ b) ∧ ∀ b, TbB tg tl tm b → w.heap.size ≤ b
end Go.Proofs.YtgajbgdkgelkgaaGreat
namespace Go.Proofs.YtgajbgdkgelkgaaGreat
open Go.RowKit

theorem loadL_g {g : List Int} {xs : List Lt} {r : Lw} (h : loadL (newL g) xs = some r) : r.g = g := by
  unfold loadL at h
  split at h
  · rw [Option.map_eq_some_iff] at h
    obtain ⟨f, -, rfl⟩ := h
    rfl
  · cases h
set_option maxRecDepth 100000 in
set_option maxHeartbeats 12800000 in
theorem coLoad_any (base B N : Nat) (K : CoK) (m : Mx) (c : Co) (w : World) (h : HasK w base B N K m c) (hR : rightM m = true) (A1 A2 A3 : Option Addr) (n1 c1 n2 c2 n3 c3 : Nat) (s : St)
    (hc1 : n1 ≤ c1 ∧ c1 ≤ maxLen) (hc2 : n2 ≤ c2 ∧ c2 ≤ maxLen) (r1 : RdC ltCells 3 w w.heap.size A1 n1 s.1) (r2 : RdC ltCells 3 w w.heap.size A2 n2 s.2.1) (r3 : RdI w w.heap.size .i64 A3 n3 s.2.2) (h3 : n3 ≤ 140737488351232) :
    Calls Tryz.prog 20 #[.pointer (some ⟨K.g, 0, none⟩), .agg #[.slice A1 n1 c1, .slice A2 n2 c2, .slice A3 n3 c3]] w (LoadCPost base B N K m c s w) := by
  have E0 := (Ext.refl w).goA (.cells #[.slice A1 n1 c1, .slice A2 n2 c2, .slice A3 n3 c3] 50)
  have B0 := heap_alloc_new w (.cells #[.slice A1 n1 c1, .slice A2 n2 c2, .slice A3 n3 c3] 50)
  have S0 : (w.alloc (.cells #[.slice A1 n1 c1, .slice A2 n2 c2, .slice A3 n3 c3] 50)).heap.size = w.heap.size + 1 := by simp
  have hIn : Hid (ClIn (w.alloc (.cells #[.slice A1 n1 c1, .slice A2 n2 c2, .slice A3 n3 c3] 50)) base B K.g (K.arr m) m) := Lib.hid ⟨(h.ext E0).head, rfl, rfl, (h.ext E0).mx, (h.ext E0).mxlt⟩
  have lt1 : 0 < n1 → ∀ b o, A1 = some ⟨b, o, none⟩ → b < w.heap.size := fun h0 b o e => by
    obtain ⟨x, hx⟩ := r1.get h0
    obtain ⟨b', o', e', hb, -⟩ := r1.at_ hx
    rw [e] at e'; cases e'; exact hb
  have lt2 : 0 < n2 → ∀ b o, A2 = some ⟨b, o, none⟩ → b < w.heap.size := fun h0 b o e => by
    obtain ⟨x, hx⟩ := r2.get h0
    obtain ⟨b', o', e', hb, -⟩ := r2.at_ hx
    rw [e] at e'; cases e'; exact hb
  have lt3 : 0 < n3 → ∀ b o, A3 = some ⟨b, o, none⟩ → b < w.heap.size := fun h0 b o e => r3.lt_of h0 e
  have hl3 := r3.len
  have h' := Lib.hid h
  have r1' := Lib.hid r1
  have r2' := Lib.hid r2
  have r3' := Lib.hid r3
  have hR' := Lib.hid hR
  have hlc : m.cas.length = m.nc := h.mx.ok.ca.len
  have hgo := h.old (b := K.g) (.inl rfl)
  have E0' := Lib.hid E0
  have B0' := Lib.hid B0
  have S0' := Lib.hid S0
  clear h r1 r2 r3 hR E0 B0 S0
  go_enter Tryz.func20, Tryz.ntmps20
  go_upto_region 2 with (go_at_call 27; refine (clear_any base B K.g (K.arr m) m _ hIn.out hR'.out).mono ?_; rintro e W1 ⟨cg, cl, cf, cs, eg, el, ef, es, tg, tl, tm, rfl, hCl⟩)
  have X1 := Lib.hid (E0'.out.go hCl.ext)
  have hB1 := (hCl.ext.block w.heap.size (by have := S0'.out; omega)).trans B0'.out
  have t0 : W1.cell? ⟨w.heap.size, 0, none⟩ = some (.slice A1 n1 c1) := cellsAt hB1 0
  have hBW := lt_of_block hB1
  have hBx := Lib.hid hB1
  have l1 : ∀ b, LwB cg cl cf cs b → w.heap.size + 1 ≤ b := fun b hb => by have := hCl.l1 b hb; have := S0'.out; omega
  have l2 : ∀ b, LwB eg el ef es b → w.heap.size + 1 ≤ b := fun b hb => by have := hCl.l2 b hb; have := S0'.out; omega
  have l3 : ∀ b, TbB tg tl tm b → w.heap.size + 1 ≤ b := fun b hb => by have := hCl.l3 b hb; have := S0'.out; omega
  have m1 := l1 cg (.inl rfl)
  have m2 := l1 cl (.inr (.inl rfl))
  have m3 := l2 eg (.inl rfl)
  have m4 := l2 el (.inr (.inl rfl))
  have m5 := l3 tm (.inr (.inr rfl))
  have hoff1 : Hid (0 < n1 → ∀ b o, A1 = some ⟨b, o, none⟩ → b ≠ cg ∧ b ≠ cl) := Lib.hid fun h0 b o e => by have := lt1 h0 b o e; constructor <;> omega
  have hoff2 : Hid (0 < n2 → ∀ b o, A2 = some ⟨b, o, none⟩ → b ≠ eg ∧ b ≠ el) := Lib.hid fun h0 b o e => by have := lt2 h0 b o e; constructor <;> omega
  have hoff3 : Hid (0 < n3 → ∀ b o, A3 = some ⟨b, o, none⟩ → b ≠ tm) := Lib.hid fun h0 b o e => by have := lt3 h0 b o e; omega
  have hM1 : Hid (∀ i, (i = cg ∨ i = cl) → w.heap.size ≤ i) := Lib.hid fun i hi => by omega
  have hM1b : Hid (¬ (w.heap.size = cg ∨ w.heap.size = cl)) := Lib.hid (by omega)
  have hM1c : Hid (∀ i, (i = cg ∨ i = cl) → LwB cg cl cf cs i) := Lib.hid fun i hi => by rcases hi with h | h; exact .inl h; exact .inr (.inl h)
  have hM2 : Hid (∀ i, (i = eg ∨ i = el) → w.heap.size ≤ i) := Lib.hid fun i hi => by omega
  have hM2b : Hid (¬ (w.heap.size = eg ∨ w.heap.size = el)) := Lib.hid (by omega)
  have hM2c : Hid (∀ i, (i = eg ∨ i = el) → LwB eg el ef es i) := Lib.hid fun i hi => by rcases hi with h | h; exact .inl h; exact .inr (.inl h)
  have hCl := Lib.hid hCl
  have L1 := Lib.hid l1
  have L2 := Lib.hid l2
  have L3 := Lib.hid l3
  clear hB1 lt1 lt2 lt3 l1 l2 l3
  rcases hq1 : loadL (newL (m.cas.map groupOf)) s.1 with _ | a
  · have hL1 := Lib.hid hq1
    clear hq1
    go_wp2_with (go_at_call 44; refine (latchLoad_none hCl.out.hca (r1'.out.ext X1.out) hc1 hoff1.out hL1.out).mono ?_; rintro e W2 ⟨rfl, E2⟩)
    go_ret
    exact .inl ⟨by unfold loadC; rw [hL1.out], rfl, h'.out.ext (X1.out.go E2), X1.out.go E2⟩
  · have hL1 := Lib.hid hq1
    clear hq1
    rcases hq2 : loadL (newL (m.efs.map fun _ => 0)) s.2.1 with _ | b
    · have hL2 := Lib.hid hq2
      clear hq2
      go_wp2_with (first | (go_at_call 44; refine (latchLoad_none RE.out (r2'.out.ext X2.out) hc2 hoff2.out hL2.out).mono ?_; rintro e W3 ⟨rfl, E3⟩) | (go_at_call 44; refine (latchLoad_some hCl.out.hca (r1'.out.ext X1.out) hc1 hoff1.out hL1.out).mono ?_; rintro e W2 ⟨rfl, gf1, gs1, R1, M1, f1, f2⟩; have X2 := Lib.hid (X1.out.goM M1 hM1.out); have q1 : W2.cell? ⟨w.heap.size, 1, none⟩ = some (.slice A2 n2 c2) := cellsAt ((M1.block w.heap.size hBW hM1b.out).trans hBx.out) 1; have q2 : W2.cell? ⟨w.heap.size, 2, none⟩ = some (.slice A3 n3 c3) := cellsAt ((M1.block w.heap.size hBW hM1b.out).trans hBx.out) 2; have RE := Lib.hid (hCl.out.hef.mod M1 (fun b hb hS => hCl.out.d12 b (hM1c.out b hS) hb)); have z1 := M1.size))
      go_ret
      exact .inl ⟨by unfold loadC; rw [hL1.out, hL2.out], rfl, h'.out.ext (X2.out.go E3), X2.out.go E3⟩
    · have hL2 := Lib.hid hq2
      clear hq2
      by_cases hB : s.2.2.length = m.cas.length ∧ s.2.2.all endOk = true
      · have hb : Hid (loadB (m.cas.map Ca.lm).length s.2.2 = true) := Lib.hid (by rw [loadB_iff, List.length_map]; exact decide_eq_true hB)
        have hB' := Lib.hid hB
        clear hB
        go_upto_region 4 with (first | (go_at_call 45; refine (bypLoad_any tg tl tm 0 (m.cas.map Ca.lm) (zs m.cas.length) A3 n3 c3 s.2.2 _ TE.out (r3'.out.ext X3.out) h3 hoff3.out).mono ?_; unfold TurnPost; rw [hb.out]; rintro e W4 ⟨rfl, T4, M4⟩) | (go_at_call 44; refine (latchLoad_some RE.out (r2'.out.ext X2.out) hc2 hoff2.out hL2.out).mono ?_; rintro e W3 ⟨rfl, gf2, gs2, R2, M2, f3, f4⟩; have X3 := Lib.hid (X2.out.goM M2 hM2.out); have q3 : W3.cell? ⟨w.heap.size, 2, none⟩ = some (.slice A3 n3 c3) := (cellsAt ((M2.block w.heap.size (by omega) hM2b.out).trans ((M1.block w.heap.size hBW hM1b.out).trans hBx.out)) 2); have TE := Lib.hid ((hCl.out.hen.mod M1 (fun b hb hS => hCl.out.d13 b (hM1c.out b hS) hb)).mod M2 (fun b hb hS => hCl.out.d23 b (hM2c.out b hS) hb)); have z2 := M2.size) | (go_at_call 44; refine (latchLoad_some hCl.out.hca (r1'.out.ext X1.out) hc1 hoff1.out hL1.out).mono ?_; rintro e W2 ⟨rfl, gf1, gs1, R1, M1, f1, f2⟩; have X2 := Lib.hid (X1.out.goM M1 hM1.out); have q1 : W2.cell? ⟨w.heap.size, 1, none⟩ = some (.slice A2 n2 c2) := cellsAt ((M1.block w.heap.size hBW hM1b.out).trans hBx.out) 1; have q2 : W2.cell? ⟨w.heap.size, 2, none⟩ = some (.slice A3 n3 c3) := cellsAt ((M1.block w.heap.size hBW hM1b.out).trans hBx.out) 2; have RE := Lib.hid (hCl.out.hef.mod M1 (fun b hb hS => hCl.out.d12 b (hM1c.out b hS) hb)); have z1 := M1.size))
        have X4 := X3.out.goM M4 (fun i hi => by subst hi; omega)
        have hd4 := (X4.block K.g hgo).trans h'.out.head
        have g4 := lt_of_block hd4
        have w11 := frozenIn hd4 11
        have w12 := frozenIn hd4 12
        have w13 := frozenIn hd4 13
        have v11 : W4.cell? ⟨K.g, 11, none⟩ = some (.pointer (some ⟨K.cg, 0, none⟩)) := cellsAt hd4 11
        have v12 : W4.cell? ⟨K.g, 12, none⟩ = some (.pointer (some ⟨K.eg, 0, none⟩)) := cellsAt hd4 12
        have v13 : W4.cell? ⟨K.g, 13, none⟩ = some (.pointer (some ⟨K.tg, 0, none⟩)) := cellsAt hd4 13
        simp only [if_true] at T4
        have T4' := Lib.hid T4
        have X4' := Lib.hid X4
        have hd4' := Lib.hid hd4
        have R1' := Lib.hid R1
        have R2' := Lib.hid R2
        have M2' := Lib.hid M2
        have M4' := Lib.hid M4
        clear T4 X4 hd4 R1 R2 M1 M2 M4 t0 q1 q2 q3
        go_wp2_with fail
        go_ret
        have hW4 := X4'.out.size
        have N1 : w.heap.size + 1 ≤ gf1 := by omega
        have a0 : cg < W1.heap.size := hCl.out.hca.old (.inl rfl)
        have a1 : cl < W1.heap.size := hCl.out.hca.old (.inr (.inl rfl))
        have a2 : eg < W1.heap.size := hCl.out.hef.old (.inl rfl)
        have a3 : el < W1.heap.size := hCl.out.hef.old (.inr (.inl rfl))
        have at0 : tg < W1.heap.size := hCl.out.hen.old (.inl rfl)
        have at1 : tl < W1.heap.size := hCl.out.hen.old (.inr (.inl rfl))
        have at2 : tm < W1.heap.size := hCl.out.hen.old (.inr (.inr rfl))
        have b0 : gf1 < W2.heap.size := R1'.out.old (.inr (.inr (.inl rfl)))
        have b1 : gs1 < W2.heap.size := R1'.out.old (.inr (.inr (.inr rfl)))
        have ycgeg : cg ≠ eg := fun e => hCl.out.d12 cg (.inl rfl) (.inl e)
        have ycgel : cg ≠ el := fun e => hCl.out.d12 cg (.inl rfl) (.inr (.inl e))
        have ycgtg : cg ≠ tg := fun e => hCl.out.d13 cg (.inl rfl) (.inl e)
        have ycgtl : cg ≠ tl := fun e => hCl.out.d13 cg (.inl rfl) (.inr (.inl e))
        have ycgtm : cg ≠ tm := fun e => hCl.out.d13 cg (.inl rfl) (.inr (.inr e))
        have ycleg : cl ≠ eg := fun e => hCl.out.d12 cl (.inr (.inl rfl)) (.inl e)
        have yclel : cl ≠ el := fun e => hCl.out.d12 cl (.inr (.inl rfl)) (.inr (.inl e))
        have ycltg : cl ≠ tg := fun e => hCl.out.d13 cl (.inr (.inl rfl)) (.inl e)
        have ycltl : cl ≠ tl := fun e => hCl.out.d13 cl (.inr (.inl rfl)) (.inr (.inl e))
        have ycltm : cl ≠ tm := fun e => hCl.out.d13 cl (.inr (.inl rfl)) (.inr (.inr e))
        have yegtg : eg ≠ tg := fun e => hCl.out.d23 eg (.inl rfl) (.inl e)
        have yegtl : eg ≠ tl := fun e => hCl.out.d23 eg (.inl rfl) (.inr (.inl e))
        have yegtm : eg ≠ tm := fun e => hCl.out.d23 eg (.inl rfl) (.inr (.inr e))
        have yeltg : el ≠ tg := fun e => hCl.out.d23 el (.inr (.inl rfl)) (.inl e)
        have yeltl : el ≠ tl := fun e => hCl.out.d23 el (.inr (.inl rfl)) (.inr (.inl e))
        have yeltm : el ≠ tm := fun e => hCl.out.d23 el (.inr (.inl rfl)) (.inr (.inr e))
        have nt1 := L3.out tg (.inl rfl)
        have nt2 := L3.out tl (.inr (.inl rfl))
        have hz := sets_block (sets_block (sets_block hd4'.out 11 (.pointer (some ⟨cg, 0, none⟩))) 12 (.pointer (some ⟨eg, 0, none⟩))) 13 (.pointer (some ⟨tg, 0, none⟩))
        have MM : Mod (fun b => b = K.g) W4 (((W4.setCell ⟨K.g, 11, none⟩ (.pointer (some ⟨cg, 0, none⟩))).setCell ⟨K.g, 12, none⟩ (.pointer (some ⟨eg, 0, none⟩))).setCell ⟨K.g, 13, none⟩ (.pointer (some ⟨tg, 0, none⟩))) := (((Mod.refl (fun b => b = K.g) W4).setCell (p := ⟨K.g, 11, none⟩) (.inl rfl) _).setCell (p := ⟨K.g, 12, none⟩) (.inl rfl) _).setCell (p := ⟨K.g, 13, none⟩) (.inl rfl) _
        have RA := ((R1'.out.mod M2'.out (fun b hb hS => by rcases hb with rfl | rfl | rfl | rfl <;> rcases hS with h9 | h9 <;> omega)).mod M4'.out (fun b hb hS => by rcases hb with rfl | rfl | rfl | rfl <;> omega)).mod MM (fun b hb hS => by rcases hb with rfl | rfl | rfl | rfl <;> omega)
        have RB := (R2'.out.mod M4'.out (fun b hb hS => by rcases hb with rfl | rfl | rfl | rfl <;> omega)).mod MM (fun b hb hS => by rcases hb with rfl | rfl | rfl | rfl <;> omega)
        have RT := T4'.out.mod MM (fun b hb hS => by rcases hb with rfl | rfl | rfl <;> omega)
        have LA : ∀ b, LwB cg cl gf1 gs1 b → w.heap.size ≤ b := fun b hb => by rcases hb with rfl | rfl | rfl | rfl <;> omega
        have LB : ∀ b, LwB eg el gf2 gs2 b → w.heap.size ≤ b := fun b hb => by rcases hb with rfl | rfl | rfl | rfl <;> omega
        have LT : ∀ b, TbB tg tl tm b → w.heap.size ≤ b := fun b hb => by rcases hb with rfl | rfl | rfl <;> omega
        have MW : Mod (fun b => b = K.g) w _ := (X4'.out.mod _).trans MM
        obtain ⟨-, ga, -⟩ := (⟨trivial, loadL_g hL1.out, trivial⟩ : True ∧ _ ∧ True)
        have gb := loadL_g hL2.out
        have KW := h'.out.swap (by simpa using hz) (RA.mono (M := 1000 + s.2.2.length) (by omega)) (RB.mono (by omega)) (RT.mono (by omega)) ga gb MW LA LB LT (fun b h1 h2 => by rcases h1 with rfl | rfl | rfl | rfl <;> rcases h2 with h2 | h2 | h2 | h2 <;> omega) (fun b h1 h2 => by rcases h1 with rfl | rfl | rfl | rfl <;> rcases h2 with h2 | h2 | h2 <;> omega) (fun b h1 h2 => by rcases h1 with rfl | rfl | rfl | rfl <;> rcases h2 with h2 | h2 | h2 <;> omega)
        exact .inr ⟨_, cg, cl, gf1, gs1, eg, el, gf2, gs2, tg, tl, tm, by unfold loadC; rw [hL1.out, hL2.out]; exact if_pos hB'.out, rfl, KW, MW, LA, LB, LT⟩
      · have hb : Hid (loadB (m.cas.map Ca.lm).length s.2.2 = false) := Lib.hid (by rw [loadB_iff, List.length_map]; exact decide_eq_false hB)
        have hB' := Lib.hid hB
        clear hB
        go_wp2_with (first | (go_at_call 45; refine (bypLoad_any tg tl tm 0 (m.cas.map Ca.lm) (zs m.cas.length) A3 n3 c3 s.2.2 _ TE.out (r3'.out.ext X3.out) h3 hoff3.out).mono ?_; unfold TurnPost; rw [hb.out]; rintro e W4 ⟨rfl, T4, M4⟩) | (go_at_call 44; refine (latchLoad_some RE.out (r2'.out.ext X2.out) hc2 hoff2.out hL2.out).mono ?_; rintro e W3 ⟨rfl, gf2, gs2, R2, M2, f3, f4⟩; have X3 := Lib.hid (X2.out.goM M2 hM2.out); have q3 : W3.cell? ⟨w.heap.size, 2, none⟩ = some (.slice A3 n3 c3) := (cellsAt ((M2.block w.heap.size (by omega) hM2b.out).trans ((M1.block w.heap.size hBW hM1b.out).trans hBx.out)) 2); have TE := Lib.hid ((hCl.out.hen.mod M1 (fun b hb hS => hCl.out.d13 b (hM1c.out b hS) hb)).mod M2 (fun b hb hS => hCl.out.d23 b (hM2c.out b hS) hb)); have z2 := M2.size) | (go_at_call 44; refine (latchLoad_some hCl.out.hca (r1'.out.ext X1.out) hc1 hoff1.out hL1.out).mono ?_; rintro e W2 ⟨rfl, gf1, gs1, R1, M1, f1, f2⟩; have X2 := Lib.hid (X1.out.goM M1 hM1.out); have q1 : W2.cell? ⟨w.heap.size, 1, none⟩ = some (.slice A2 n2 c2) := cellsAt ((M1.block w.heap.size hBW hM1b.out).trans hBx.out) 1; have q2 : W2.cell? ⟨w.heap.size, 2, none⟩ = some (.slice A3 n3 c3) := cellsAt ((M1.block w.heap.size hBW hM1b.out).trans hBx.out) 2; have RE := Lib.hid (hCl.out.hef.mod M1 (fun b hb hS => hCl.out.d12 b (hM1c.out b hS) hb)); have z1 := M1.size))
        go_ret
        have X4 := X3.out.goM M4 (fun i hi => by subst hi; omega)
        exact .inl ⟨by unfold loadC; rw [hL1.out, hL2.out]; exact if_neg hB'.out, rfl, h'.out.ext X4, X4⟩
end Go.Proofs.YtgajbgdkgelkgaaGreat
