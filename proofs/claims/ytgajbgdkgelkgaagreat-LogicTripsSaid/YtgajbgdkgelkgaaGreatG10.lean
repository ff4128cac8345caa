/- Layer 17, the walks: Scan. · Layer 16 without the program: a key, its sum, its words, the key of words. · The library's functions by their contracts, which the shelf has proved over any program: laid at this translation's numbers. · Layer 16, the walks: right. -/
import Derived.Test.YtgajbgdkgelkgaaGreatCoE
import Derived.Test.YtgajbgdkgelkgaaGreatWords
import Derived.Lib.Bytealg
import Derived.Test.YtgajbgdkgelkgaaGreatRows
import Derived.Shelf.Strings.Search1
import Derived.Shelf.Small.Strs
import Derived.Test.YtgajbgdkgelkgaaGreatG01
namespace Go.Proofs.YtgajbgdkgelkgaaGreat
open Go.RowKit

abbrev Sm := Bool × Int
def smCells (x : Sm) : List Value := [.bool x.1, .int .i64 x.2]
theorem PtRow.put {w : World} {gp : Nat} {gd : Nat → Nat} {kn : List Bool} (h : PtRow w gp gd kn) {i : Nat} (hi : i < kn.length) (b : Bool) : PtRow (w.setCell ⟨gp, i * 2 + 1, none⟩ (.bool b)) gp gd (kn.set i b) := by
  obtain ⟨cs, h1, h2⟩ := h
  refine ⟨_, sets_block h1 (i * 2 + 1) (.bool b), fun j hj => ?_⟩
  rw [List.length_set] at hj
  obtain ⟨k0, k1⟩ := h2 j hj
  have hsz : j * 2 + 1 < cs.size := by
    rcases Nat.lt_or_ge (j * 2 + 1) cs.size with h | h
    · exact h
    · rw [Array.getElem?_eq_none h] at k1; cases k1
  simp only [Array.getElem?_setIfInBounds]
  refine ⟨by rw [if_neg (by omega)]; exact k0, ?_⟩
  by_cases e : i = j
  · subst e; rw [if_pos rfl, if_pos hsz, getD_set_same _ _ _ _ hi]
  · rw [if_neg (by omega), getD_set_other _ _ _ e]; exact k1
theorem foldN_len {β : Type} (f : Co × List β → Nat → Co × List β) (d : Nat) (s : Co × List β) : ∀ n, (∀ k s, k < n → (f s k).2.length ≤ s.2.length + d) → (foldN f s n).2.length ≤ s.2.length + d * n
  | 0, _ => by rw [foldN_zero]; omega
  | n + 1, h => by
    rw [foldN_succ]
    have h1 := foldN_len f d s n (fun k s hk => h k s (by omega))
    have h2 := h n (foldN f s n) (by omega)
    rw [Nat.mul_add]
    omega
theorem scanQ_len (m : Mx) (now : Int) (s : Co × List Nt) (q : Nat) (he : m.efs.length ≤ 8) : (scanQ m now s q).2.length ≤ s.2.length + 9 := by
  unfold scanQ
  dsimp only
  split
  · dsimp only; omega
  · refine Nat.le_trans (foldN_len (efStep m q now) 1 _ m.efs.length (fun k s _ => ?_)) ?_
    · unfold efStep
      split
      · simp
      · omega
    · split
      · dsimp only; omega
      · simp; omega
def ScanPost (base B N : Nat) (K : CoK) (m : Mx) (s : Co × List Nt) (w : World) (e : Ending) (w' : World) : Prop :=
  ∃ A n cc, e = .returned (.slice A n cc) ∧ n ≤ cc ∧ cc ≤ maxLen ∧ RdC ntCells 3 w' w'.heap.size A n s.2 ∧ (∀ b o, A = some ⟨b, o, none⟩ → w.heap.size ≤ b) ∧ CoAt base B N K m (K.mut m.np) w s.1 w'
theorem HasK.lens {w : World} {base B N : Nat} {K : CoK} {m : Mx} {c : Co} (h : HasK w base B N K m c) : m.nc ≤ 8 ∧ m.ne ≤ 8 ∧ m.np ≤ 16 ∧ m.nd ≤ 4 ∧ m.cas.length = m.nc ∧ m.efs.length = m.ne ∧ m.pts.length = m.np := by
  have hsz := h.sz
  unfold sizesB at hsz
  simp only [Bool.and_eq_true, decide_eq_true_eq] at hsz
  have h1 := h.mx.ok.ca.len
  have h2 := h.mx.ok.ef.len
  have h3 := h.mx.ok.pt.len
  have h4 := h.mx.ok.dv.len
  exact ⟨by omega, by omega, by omega, by omega, h1, h2, h3⟩
set_option maxRecDepth 100000 in
set_option maxHeartbeats 12800000 in
theorem coScan_any (base B N : Nat) (K : CoK) (m : Mx) (c : Co) (w : World) (h : HasK w base B N K m c) (hR : rightM m = true) (A : Option Addr) (n cc : Nat) (l : List Sm) (now : Int) (hx : RdC smCells 2 w w.heap.size A n l) (hcm : n ≤ cc ∧ cc ≤ maxLen) (hoff : 0 < n → ∀ b o, A = some ⟨b, o, none⟩ → ¬ K.mut m.np b) (hN : N ≤ 4611686017000) :
    Calls Tryz.prog 11 #[.pointer (some ⟨K.g, 0, none⟩), .slice A n cc, .int .i64 now] w (ScanPost base B (N + 100) K m (scanC m l now c) w) := by
  obtain ⟨hnc, hne, hnp, hnd, hlc, hle, hlp⟩ := h.lens
  have hg := lt_of_block h.head
  have hln := hx.len
  have hldl := h.ldl
  have hnm : n ≤ 9223372036854775807 := by unfold maxLen at hcm; omega
  have c9 : w.cell? ⟨K.g, 9, none⟩ = some (.slice K.A m.np K.cp) := h.cell 9
  have c13 : w.cell? ⟨K.g, 13, none⟩ = some (.pointer (some ⟨K.tg, 0, none⟩)) := h.cell 13
  have h' := Lib.hid h
  have hx' := Lib.hid hx
  have hoff' := Lib.hid hoff
  have hR' := Lib.hid hR
  clear h hx hoff hR hcm
  by_cases hbad : now < 0 ∨ 1099511627776 < now ∨ n ≠ m.np
  · have hsc : scanC m l now c = (c, []) := by unfold scanC; rw [if_pos (by rw [hln, hldl]; exact hbad)]
    rw [hsc]
    have hfin : ScanPost base B (N + 100) K m (c, []) w (.returned (.slice none 0 0)) w := ⟨none, 0, 0, rfl, Nat.le_refl _, by unfold maxLen; omega, RdC.nil _ _ _ _ _, (fun b o e => by cases e), h'.out.mono (by omega), Mod.refl _ _⟩
    have hfin' := Lib.hid hfin
    clear hfin hsc hln hldl
    rcases (show now < 0 ∨ (¬ now < 0 ∧ 1099511627776 < now) ∨ (¬ now < 0 ∧ ¬ 1099511627776 < now ∧ n ≠ m.np) by omega) with k1 | ⟨k1, k2⟩ | ⟨k1, k2, k3⟩
    · have d1 : decide (now < 0) = true := decide_eq_true k1
      go_enter Tryz.func11, Tryz.ntmps11
      go_wp2_with fail
      go_ret
      exact hfin'.out
    · have d1 : decide (now < 0) = false := decide_eq_false k1
      have d2 : decide (1099511627776 < now) = true := decide_eq_true k2
      go_enter Tryz.func11, Tryz.ntmps11
      go_wp2_with fail
      go_ret
      exact hfin'.out
    · have d1 : decide (now < 0) = false := decide_eq_false k1
      have d2 : decide (1099511627776 < now) = false := decide_eq_false k2
      have d3 : ((n : Int) != (m.np : Int)) = true := by simp; omega
      go_enter Tryz.func11, Tryz.ntmps11
      go_wp2_with fail
      go_ret
      exact hfin'.out
  have n0 : 0 ≤ now := by omega
  have n1 : now ≤ 1099511627776 := by omega
  obtain rfl : n = m.np := by omega
  have d1 : decide (now < 0) = false := decide_eq_false (by omega)
  have d2 : decide (1099511627776 < now) = false := decide_eq_false (by omega)
  have d3 : ((m.np : Int) != (m.np : Int)) = false := by simp
  have hsc : scanC m l now c = foldN (scanQ m now) (foldN (seeQ m l now) { c with en := lapseE c.en now } m.np, (lapseL c.en now).map fun i => (5, i, now)) m.nc := by
    unfold scanC
    rw [if_neg (by rw [hln, hldl]; omega), hln, hlc]
  have hsc' := Lib.hid hsc
  clear hsc hbad
  go_enter Tryz.func11, Tryz.ntmps11
  go_upto_region 5 with fail
  have E0 := (Ext.refl w).goA (.cells #[.int .i64 now, .slice none 0 0] 91)
  have B0 := heap_alloc_new w (.cells #[.int .i64 now, .slice none 0 0] 91)
  have S0 : (w.alloc (.cells #[.int .i64 now, .slice none 0 0] 91)).heap.size = w.heap.size + 1 := by simp
  generalize w.alloc (.cells #[.int .i64 now, .slice none 0 0] 91) = X0 at *
  have N0 : HasNt X0 w.heap.size (w.heap.size + 1) now (.slice none 0 0) [] := ⟨B0, World.ownsRow_nil _ _ _ _, by omega, by omega⟩
  have K0 := Lib.hid (h'.out.ext E0)
  have N0 := Lib.hid N0
  have hgn : Hid ((∀ b, K.mut m.np b → b < w.heap.size) ∧ B ≤ w.heap.size) := Lib.hid ⟨fun b hb => h'.out.old hb, h'.out.mxlt⟩
  have c13 : X0.cell? ⟨K.g, 13, none⟩ = some (.pointer (some ⟨K.tg, 0, none⟩)) := K0.out.cell 13
  have g0 := lt_of_block K0.out.head
  have E0' := Lib.hid E0
  have S0' := Lib.hid S0
  clear E0 B0 S0 c9 d1 d2 d3
  go_upto_region 6 with (first
    | (go_at_call 29; refine (bypLapse_any _ _ _ _ _ _ now _ K0.out.en (by omega)).mono ?_; rintro e w1 ⟨A5, n5, c5, rfl, h51, h52, hr5, hf5, ht5, hm5⟩; have hK1 := Lib.hid (K0.out.turnEn (Nat.le_refl _) ht5 hm5); have hm5i : ∀ b, b = K.tm → K.mut m.np b := (fun b hb => .inr (.inr (.inr (.inr (.inr (.inl (.inr (.inr hb)))))))); have hN1 := Lib.hid (N0.out.core K0.out hgn.out hm5 hm5i); have hn5 : n5 ≤ 1000 := (by have q1 := hr5.len; have q2 := lapse_length c.en now; have q3 := h'.out.en.len; rw [List.length_map] at q3; omega))
    | (go_at_call 28; refine (tell_any _ _ now _ [] 5 _ _ _ (lapseL c.en now) _ hN1.out hr5 (fun b o e hb => by have q1 := hf5 b o e; have q2 := S0'.out; rcases hb with q3 | q3; omega; cases q3) hn5 (by simp)).mono ?_; rintro e w2 ⟨rfl, v2, hN2, hM2, hv2⟩))
  have K2 := Lib.hid (hK1.out.tell hN1.out hgn.out hM2)
  have M2 : Mod (K.mut m.np) w w2 := ((E0'.out.mod _).trans (hm5.weak hm5i)).step hM2 (fun b hb => by
    rcases hb with q | q
    · exact .inr (by omega)
    · cases q)
  have N2 := Lib.hid hN2
  have M2' := Lib.hid M2
  have V2 := Lib.hid hv2
  clear hr5 ht5 hm5 hm5i hM2 hN2 M2 hv2 hf5
  go_upto_region 7 with fail
  go_loopw [42] (fun i wr => ∃ k : Nat, k ≤ m.np ∧ i = .int .i64 k ∧ HasK wr base B N K m (foldN (seeQ m l now) { c with en := lapseE c.en now } k) ∧ HasNt wr w.heap.size (w.heap.size + 1) now v2 ([] ++ (lapseL c.en now).map fun x => (5, x, now)) ∧ Mod (K.mut m.np) w wr) (fun i _ => m.np - (intOf i).toNat)
  case atStart => exact ⟨0, by omega, rfl, K2.out, N2.out, M2'.out⟩
  case round =>
    obtain ⟨k, hk, rfl, hKk, hNk, hMk⟩ := hrel
    have hsucc := foldN_succ (seeQ m l now) { c with en := lapseE c.en now } k
    generalize hst : foldN (seeQ m l now) { c with en := lapseE c.en now } k = ck at *
    have hst' := Lib.hid hst
    have hsucc' := Lib.hid hsucc
    have hKk' := Lib.hid hKk
    have hNk' := Lib.hid hNk
    have hMk' := Lib.hid hMk
    clear hst hsucc hNk hMk
    by_cases hlt : k < m.np
    · have e6 : (k : Int) < (m.np : Int) := by omega
      obtain ⟨x, hxk⟩ := hx'.out.get hlt
      obtain ⟨b, o, rfl, hb, hc⟩ := hx'.out.at_ hxk
      obtain ⟨sk, sv⟩ := x
      have hnb := hoff'.out (by omega) b o rfl
      have y0 : wr.cell? ⟨b, o + k * 2, none⟩ = some (.bool sk) := (hMk'.out.cell _ hb hnb).trans (hc 0 (by decide))
      have y1 : wr.cell? ⟨b, o + k * 2 + 1, none⟩ = some (.int .i64 sv) := (hMk'.out.cell _ hb hnb).trans (hc 1 (by decide))
      have hlk : l.getD k (false, 0) = (sk, sv) := by rw [List.getD_eq_getElem?_getD, hxk]; rfl
      have h0 : 0 < m.np := by omega
      obtain ⟨hKA, hPt⟩ := hKk.pA h0
      have hkl : k < ck.kn.length := by rw [hKk.lkn]; exact hlt
      have EA := (Ext.refl wr).goA (.cells #[.bool sk, .int .i64 sv] 37)
      have c9 : (wr.alloc (.cells #[.bool sk, .int .i64 sv] 37)).cell? ⟨K.g, 9, none⟩ = some (.slice (some ⟨K.gp, 0, none⟩) m.np K.cp) := by rw [← hKA]; exact (hKk.ext EA).cell 9
      have gk := lt_of_block hKk.head
      have PA := hPt.keep (EA.block K.gp (hKk.old (.inr (.inl ⟨h0, rfl⟩))))
      have hgpl : K.gp < wr.heap.size := hKk.old (.inr (.inl ⟨h0, rfl⟩))
      obtain ⟨cs, hcs, hcc⟩ := PA
      have p1 : (wr.alloc (.cells #[.bool sk, .int .i64 sv] 37)).cell? ⟨K.gp, k * 2 + 1, none⟩ = some (.bool (ck.kn.getD k false)) := (cellsAt hcs _).trans (hcc k hkl).2
      have p2 := frozenIn hcs (k * 2 + 1)
      have hlk' := Lib.hid hlk
      have hcap := hKk.cap
      have hcp : K.cp ≤ 9223372036854775807 := by have := hcap.2; unfold maxLen at this; exact this
      clear hb hc hxk hlk hcs hcc hcap
      go_upto_region 11 with fail
      have MP := ((Mod.refl (fun b => b = K.gp) wr).setCell (p := ⟨K.gp, k * 2 + 1, none⟩) (.inl rfl) (.bool sk)).alloc (.cells #[.bool sk, .int .i64 sv] 37)
      have PN := (hPt.put hkl sk).keep (w' := ((wr.setCell ⟨K.gp, k * 2 + 1, none⟩ (.bool sk)).alloc (.cells #[.bool sk, .int .i64 sv] 37))) (((Ext.refl (wr.setCell ⟨K.gp, k * 2 + 1, none⟩ (.bool sk))).goA (.cells #[.bool sk, .int .i64 sv] 37)).block K.gp (by simp; omega))
      have KP := Lib.hid (hKk.turnKn h0 PN (by rw [List.length_set]) MP)
      have hgpm : ∀ b, b = K.gp → K.mut m.np b := fun b hb => .inr (.inl ⟨h0, hb⟩)
      have NP := Lib.hid (hNk'.out.core hKk hgn.out MP hgpm)
      have MW := Lib.hid (hMk'.out.trans (MP.weak hgpm))
      have TB : ((wr.setCell ⟨K.gp, k * 2 + 1, none⟩ (.bool sk)).alloc (.cells #[.bool sk, .int .i64 sv] 37)).heap[wr.heap.size]? = some (.cells #[.bool sk, .int .i64 sv] 37 (0, 0)) := heap_new_at (by simp)
      generalize ((wr.setCell ⟨K.gp, k * 2 + 1, none⟩ (.bool sk)).alloc (.cells #[.bool sk, .int .i64 sv] 37)) = X at *
      have t0 : X.cell? ⟨wr.heap.size, 0, none⟩ = some (.bool sk) := cellsAt TB 0
      have gX := lt_of_block TB
      have TB' := Lib.hid TB
      clear p1 p2 c9 y0 y1 PN MP TB EA hPt
      cases sk
      · have hnext : foldN (seeQ m l now) { c with en := lapseE c.en now } (k + 1) = { ck with kn := ck.kn.set k false } := by rw [hsucc'.out]; unfold seeQ; rw [hlk'.out]; rfl
        go_wp2_with fail
        go_roundw
        case rel => exact ⟨k + 1, by omega, by go_num, by rw [hnext]; exact KP.out, NP.out, MW.out⟩
        case measure => simp [intOf]; omega
      · obtain ⟨p, hpk⟩ := KP.out.mx.ok.pt.get hlt
        obtain ⟨ga, oa, hAp, hga, hcp2⟩ := KP.out.mx.ok.pt.at_ hpk
        have hptr : (m.pts.getD k ⟨ByteArray.empty, 0, 0, 0, 0, 0⟩).tr = p.tr := by rw [List.getD_eq_getElem?_getD, hpk]; rfl
        have hgdk : K.gd k < wr.heap.size := (hKk.dl k hlt).1.lt
        have hga3 := KP.out.mx.fp _ _ hAp
        have hgdB : K.gd k < base ∨ B ≤ K.gd k := KP.out.big.2 _ (.inr (.inr (.inr (.inr (.inr (.inr ⟨k, hlt, rfl⟩))))))
        have n5 := KP.out.n5 k hlt
        have hXs : wr.heap.size < X.heap.size := gX
        have hga2 : ga < X.heap.size := by have := KP.out.mxlt; omega
        have q0 : ∀ w', Mod (fun b => b = K.gd k) X w' → w'.cell? ⟨K.g, 6, none⟩ = some (.slice (some ⟨ga, oa, none⟩) m.np m.cp) := fun w' M => by rw [← hAp]; exact cellsAt ((M.block K.g (lt_of_block KP.out.head) (Ne.symm n5.1)).trans KP.out.head) 6
        have q1 : ∀ w', Mod (fun b => b = K.gd k) X w' → w'.cell? ⟨K.gp, k * 2, none⟩ = some (.pointer (some ⟨K.gd k, 0, none⟩)) := fun w' M => by
          obtain ⟨cs, z1, z2⟩ := (KP.out.pA h0).2
          exact (cellsAt ((M.block K.gp (lt_of_block z1) (Ne.symm n5.2.1)).trans z1) _).trans (z2 k (by rw [KP.out.lkn]; exact hlt)).1
        have q2 : ∀ w', Mod (fun b => b = K.gd k) X w' → w'.cell? ⟨wr.heap.size, 1, none⟩ = some (.int .i64 sv) := fun w' M => cellsAt ((M.block wr.heap.size gX (by omega)).trans TB'.out) 1
        have q4 : ∀ w', Mod (fun b => b = K.gd k) X w' → w'.cell? ⟨ga, oa + k * 6 + 3, none⟩ = some (.int .i64 p.tr) := fun w' M => (M.cell (oa + k * 6 + 3) hga2 (by omega)).trans (hcp2 3 (by decide))
        have gKX := lt_of_block KP.out.head
        obtain ⟨hdl, hok⟩ := KP.out.dl k hlt
        have hptr' := Lib.hid hptr
        have hmcp : m.cp ≤ 9223372036854775807 := by have := KP.out.mx.ok.cap.2.1.2; unfold maxLen at this; exact this
        clear hpk hcp2 hptr hAp
        go_upto_region 12 with fail
        clear t0
        refine wp_region_held_drew (S := fun w' => Mod (fun b => b = K.gd k) X w') (by kernel_rfl) (Mod.refl _ X).drew (fun hHeld => ?_)
        refine wpAnyH_take (i := 0) (oi := _) (v := ?_) rfl (by kernel_rfl) (by kernel_rfl) (by kernel_rfl) (fun _ _ _ h => h) (Or.inl ⟨by rfl, ?_⟩) (by assumption) ?_
        rotate_left
        · intro w hSw
          (try dsimp only at hSw)
          go_simp
          try (with_reducible rfl)
        try simp only [Act.put, List.getElem_toArray, List.getElem_cons_zero, List.setIfInBounds_toArray, List.set_cons_zero, List.set_cons_succ]
        refine wpAnyH_take (i := 1) (oi := _) (v := ?_) rfl (by kernel_rfl) (by kernel_rfl) (by kernel_rfl) (fun _ _ _ h => h) (Or.inl ⟨by rfl, ?_⟩) (by assumption) ?_
        rotate_left
        · intro w hSw
          (try dsimp only at hSw)
          go_simp
          try (with_reducible rfl)
        try simp only [Act.put, List.getElem_toArray, List.getElem_cons_succ, List.getElem_cons_zero, List.setIfInBounds_toArray, List.set_cons_zero, List.set_cons_succ]
        refine wpAnyH_take (i := 2) (oi := _) (v := ?_) rfl (by kernel_rfl) (by kernel_rfl) (by kernel_rfl) (fun _ _ _ h => h) (Or.inl ⟨by rfl, ?_⟩) (by assumption) ?_
        rotate_left
        · intro w hSw
          (try dsimp only at hSw)
          go_simp
          try (with_reducible rfl)
        try simp only [Act.put, List.getElem_toArray, List.getElem_cons_succ, List.getElem_cons_zero, List.setIfInBounds_toArray, List.set_cons_zero, List.set_cons_succ]
        refine wpAnyH_take (i := 3) (oi := _) (v := ?_) rfl (by kernel_rfl) (by kernel_rfl) (by kernel_rfl) (fun _ _ _ h => h) (Or.inl ⟨by rfl, ?_⟩) (by assumption) ?_
        rotate_left
        · intro w hSw
          (try dsimp only at hSw)
          go_simp
          try (with_reducible rfl)
        try simp only [Act.put, List.getElem_toArray, List.getElem_cons_succ, List.getElem_cons_zero, List.setIfInBounds_toArray, List.set_cons_zero, List.set_cons_succ]
        refine wpAnyH_take (i := 4) (oi := _) (v := ?_) rfl (by kernel_rfl) (by kernel_rfl) (by kernel_rfl) (fun _ _ _ h => h) (Or.inl ⟨by rfl, ?_⟩) (by assumption) ?_
        rotate_left
        · intro w hSw
          (try dsimp only at hSw)
          go_simp
          try (with_reducible rfl)
        try simp only [Act.put, List.getElem_toArray, List.getElem_cons_succ, List.getElem_cons_zero, List.setIfInBounds_toArray, List.set_cons_zero, List.set_cons_succ]
        refine wpAnyH_take (i := 5) (oi := _) (v := ?_) rfl (by kernel_rfl) (by kernel_rfl) (by kernel_rfl) (fun _ _ _ h => h) (Or.inl ⟨by rfl, ?_⟩) (by assumption) ?_
        rotate_left
        · intro w hSw
          (try dsimp only at hSw)
          go_simp
          try (with_reducible rfl)
        try simp only [Act.put, List.getElem_toArray, List.getElem_cons_succ, List.getElem_cons_zero, List.setIfInBounds_toArray, List.set_cons_zero, List.set_cons_succ]
        refine wpAnyH_take (i := 6) (oi := _) (v := ?_) rfl (by kernel_rfl) (by kernel_rfl) (by kernel_rfl) (fun _ _ _ h => h) (Or.inl ⟨by rfl, ?_⟩) (by assumption) ?_
        rotate_left
        · intro w hSw
          (try dsimp only at hSw)
          go_simp
          try (with_reducible rfl)
        try simp only [Act.put, List.getElem_toArray, List.getElem_cons_succ, List.getElem_cons_zero, List.setIfInBounds_toArray, List.set_cons_zero, List.set_cons_succ]
        refine wpAnyH_take (i := 7) (oi := _) (v := ?_) rfl (by kernel_rfl) (by kernel_rfl) (by kernel_rfl) (fun _ _ _ h => h) (Or.inl ⟨by rfl, ?_⟩) (by assumption) ?_
        rotate_left
        · intro w hSw
          (try dsimp only at hSw)
          go_simp
          try (with_reducible rfl)
        try simp only [Act.put, List.getElem_toArray, List.getElem_cons_succ, List.getElem_cons_zero, List.setIfInBounds_toArray, List.set_cons_zero, List.set_cons_succ]
        refine wpAnyH_take (i := 8) (oi := _) (v := ?_) rfl (by kernel_rfl) (by kernel_rfl) (by kernel_rfl) (fun _ _ _ h => h) (Or.inl ⟨by rfl, ?_⟩) (by assumption) ?_
        rotate_left
        · intro w hSw
          (try dsimp only at hSw)
          go_simp
          try (with_reducible rfl)
        try simp only [Act.put, List.getElem_toArray, List.getElem_cons_succ, List.getElem_cons_zero, List.setIfInBounds_toArray, List.set_cons_zero, List.set_cons_succ]
        refine wpAnyH_take (i := 9) (oi := _) (v := ?_) rfl (by kernel_rfl) (by kernel_rfl) (by kernel_rfl) (fun _ _ _ h => h) (Or.inl ⟨by rfl, ?_⟩) (by assumption) ?_
        rotate_left
        · intro w hSw
          (try dsimp only at hSw)
          go_simp
          try (with_reducible rfl)
        try simp only [Act.put, List.getElem_toArray, List.getElem_cons_succ, List.getElem_cons_zero, List.setIfInBounds_toArray, List.set_cons_zero, List.set_cons_succ]
        refine wpAnyH_take (i := 10) (oi := _) (v := ?_) rfl (by kernel_rfl) (by kernel_rfl) (by kernel_rfl) (fun _ _ _ h => h) (Or.inl ⟨by rfl, ?_⟩) (by assumption) ?_
        rotate_left
        · intro w hSw
          (try dsimp only at hSw)
          go_simp
          try (with_reducible rfl)
        try simp only [Act.put, List.getElem_toArray, List.getElem_cons_succ, List.getElem_cons_zero, List.setIfInBounds_toArray, List.set_cons_zero, List.set_cons_succ]
        refine wpAnyH_take (i := 11) (oi := _) (v := ?_) rfl (by kernel_rfl) (by kernel_rfl) (by kernel_rfl) (fun _ _ _ h => h) (Or.inl ⟨by rfl, ?_⟩) (by assumption) ?_
        rotate_left
        · intro w hSw
          (try dsimp only at hSw)
          go_simp
          try (with_reducible rfl)
        try simp only [Act.put, List.getElem_toArray, List.getElem_cons_succ, List.getElem_cons_zero, List.setIfInBounds_toArray, List.set_cons_zero, List.set_cons_succ]
        refine wpAnyH_take (i := 12) (oi := _) (v := ?_) rfl (by kernel_rfl) (by kernel_rfl) (by kernel_rfl) (fun _ _ _ h => h) (Or.inl ⟨by rfl, ?_⟩) (by assumption) ?_
        rotate_left
        · intro w hSw
          (try dsimp only at hSw)
          go_simp
          try (with_reducible rfl)
        try simp only [Act.put, List.getElem_toArray, List.getElem_cons_succ, List.getElem_cons_zero, List.setIfInBounds_toArray, List.set_cons_zero, List.set_cons_succ]
        refine wpAnyH_take (i := 13) (oi := _) (v := ?_) rfl (by kernel_rfl) (by kernel_rfl) (by kernel_rfl) (fun _ _ _ h => h) (Or.inl ⟨by rfl, ?_⟩) (by assumption) ?_
        rotate_left
        · intro w hSw
          (try dsimp only at hSw)
          go_simp
          try (with_reducible rfl)
        try simp only [Act.put, List.getElem_toArray, List.getElem_cons_succ, List.getElem_cons_zero, List.setIfInBounds_toArray, List.set_cons_zero, List.set_cons_succ]
        refine wpAnyH_take (i := 14) (oi := _) (v := ?_) rfl (by kernel_rfl) (by kernel_rfl) (by kernel_rfl) (fun _ _ _ h => h) (Or.inl ⟨by rfl, ?_⟩) (by assumption) ?_
        rotate_left
        · intro w hSw
          (try dsimp only at hSw)
          go_simp
          try (with_reducible rfl)
        try simp only [Act.put, List.getElem_toArray, List.getElem_cons_succ, List.getElem_cons_zero, List.setIfInBounds_toArray, List.set_cons_zero, List.set_cons_succ]
        refine wpAnyH_take (i := 15) (oi := _) (v := ?_) rfl (by kernel_rfl) (by kernel_rfl) (by kernel_rfl) (fun _ _ _ h => h) (Or.inl ⟨by rfl, ?_⟩) (by assumption) ?_
        rotate_left
        · intro w hSw
          (try dsimp only at hSw)
          go_simp
          try (with_reducible rfl)
        try simp only [Act.put, List.getElem_toArray, List.getElem_cons_succ, List.getElem_cons_zero, List.setIfInBounds_toArray, List.set_cons_zero, List.set_cons_succ]
        refine wpAnyH_take (i := 16) (oi := _) (v := ?_) rfl (by kernel_rfl) (by kernel_rfl) (by kernel_rfl) (fun _ _ _ h => h) (Or.inl ⟨by rfl, ?_⟩) (by assumption) ?_
        rotate_left
        · intro w hSw
          (try dsimp only at hSw)
          go_simp
          try (with_reducible rfl)
        try simp only [Act.put, List.getElem_toArray, List.getElem_cons_succ, List.getElem_cons_zero, List.setIfInBounds_toArray, List.set_cons_zero, List.set_cons_succ]
        refine wpAnyH_ready (rs := [17]) (by kernel_rfl) (by simp) ?_
        refine AllReadyH.cons rfl (fun Kz hKz => ?_) ?_
        rotate_left
        · exact AllReadyH.nil
        go_simp
        go_at_call 30
        refine (delaySee_any (K.gd k) (ck.dl.getD k dl0) (sv == p.tr) now X.drew (hdl.keep (w' := X.drew) rfl) hok n0 n1).mono ?_
        rintro e w5 ⟨rfl, hd5, hm5⟩
        have hHeld : Mod (fun b => b = K.gd k) X w5 := (Mod.refl _ X).drew.trans hm5
        try dsimp only
        refine hKz.out _ _ ?_ (fun hHeld => ?_)
        · first | assumption | (dsimp only; assumption)
        clear hKz Kz
        try simp only [Act.put, List.getElem_toArray, List.getElem_cons_succ, List.getElem_cons_zero, List.setIfInBounds_toArray, List.set_cons_zero, List.set_cons_succ]
        refine wpAnyH_done (by kernel_rfl) ?_ _
        have hnext : foldN (seeQ m l now) { c with en := lapseE c.en now } (k + 1) = { ck with kn := ck.kn.set k true, dl := ck.dl.set k (seeD (ck.dl.getD k dl0) (sv == p.tr) now) } := by rw [hsucc'.out]; unfold seeQ; rw [hlk'.out, hptr'.out]; rfl
        have K5 := Lib.hid (KP.out.turnDl hlt hd5 (hok.see _ _) hHeld)
        have hgm : ∀ b, b = K.gd k → K.mut m.np b := fun b hb => .inr (.inr (.inr (.inr (.inr (.inr ⟨k, hlt, hb⟩)))))
        have N5 := Lib.hid (NP.out.core KP.out hgn.out hHeld hgm)
        have M5 := Lib.hid (MW.out.trans (hHeld.weak hgm))
        clear q0 q1 q2 q4 hHeld hd5 hm5 hdl
        go_wp2_with fail
        go_roundw
        case rel => exact ⟨_, _, _, .int .i64 ((k : Int) + 1), ⟨k + 1, by omega, by go_num, by rw [hnext]; exact K5.out, N5.out, M5.out⟩, rfl, rfl, rfl, rfl⟩
        case measure => simp [intOf]; omega
    · obtain rfl : k = m.np := by omega
      obtain ⟨Y, hY⟩ : ∃ Y, Y = wr := ⟨_, rfl⟩
      subst hY
      have z7 : Y.cell? ⟨K.g, 7, none⟩ = some (.slice m.Ac m.nc m.cc) := hKk.cell 7
      have gY := lt_of_block hKk.head
      have hl5 : ([] ++ (lapseL c.en now).map fun x => ((5, x, now) : Nt)).length ≤ 8 := by
        have q2 := lapse_length c.en now
        have q3 := h'.out.en.len
        rw [List.length_map] at q3
        simp
        omega
      have hV2 := Lib.hid (fun b (hb : v2.ownBlock = some b) => (show w.heap.size + 1 ≤ b from (hNk'.out.own.lt b hb).1))
      rw [hst'.out] at hsc'
      have hsc9 : scanC m l now c = foldN (scanQ m now) (ck, [] ++ (lapseL c.en now).map fun x => ((5, x, now) : Nt)) m.nc := hsc'.out
      have hsc9 := Lib.hid hsc9
      generalize hL5 : ([] ++ (lapseL c.en now).map fun x => ((5, x, now) : Nt)) = L5 at *
      clear hL5 hKk
      go_upto_region 15 with fail
      go_loopw [85] (fun i wr => ∃ (k : Nat) (v3 : Value), k ≤ m.nc ∧ i = .int .i64 k ∧ HasK wr base B (N + 9 * k) K m (foldN (scanQ m now) (ck, L5) k).1 ∧ HasNt wr w.heap.size (w.heap.size + 1) now v3 (foldN (scanQ m now) (ck, L5) k).2 ∧ (foldN (scanQ m now) (ck, L5) k).2.length ≤ 8 + 9 * k ∧ Mod (K.mut m.np) w wr ∧ ∀ b, v3.ownBlock = some b → w.heap.size + 1 ≤ b) (fun i _ => m.nc - (intOf i).toNat)
      case atStart => exact ⟨0, v2, by omega, rfl, hKk'.out, hNk'.out, by simpa [foldN_zero] using hl5, hMk'.out, hV2.out⟩
      case round =>
        obtain ⟨k, v3, hk3, rfl, hK3, hN3, hl3, hM3, hv3⟩ := hrel
        have hsucc := foldN_succ (scanQ m now) (ck, L5) k
        generalize hst3 : foldN (scanQ m now) (ck, L5) k = st at *
        obtain ⟨c3, l3⟩ := st
        dsimp only at hK3 hN3 hl3
        have hK3' := Lib.hid hK3
        have hN3' := Lib.hid hN3
        have hM3' := Lib.hid hM3
        have hst3' := Lib.hid hst3
        have hsucc3 := Lib.hid hsucc
        have hv3' := Lib.hid hv3
        clear hsucc hst3 hK3 hN3 hM3 hv3 z7
        by_cases hlt3 : k < m.nc
        · have e7 : (k : Int) < (m.nc : Int) := by omega
          have hln9 : (scanQ m now (c3, l3) k).2.length ≤ l3.length + 9 := scanQ_len m now (c3, l3) k (by rw [hle]; exact hne)
          go_wp2_with (go_at_call 31; refine (scanOne_any _ _ _ _ _ _ _ _ now _ _ _ hK3'.out hR'.out hN3'.out hgn.out k hlt3 (by omega) (by omega)).mono ?_; rintro e w6 ⟨rfl, v6, hK6, hN6, hM6, hv6⟩)
          have M6 : Mod (K.mut m.np) w w6 := hM3'.out.step hM6 (fun b hb => by
            rcases hb with q | q | q
            · exact .inl q
            · exact .inr (by omega)
            · exact .inr (by have := hv3'.out b q; omega))
          have V6 : ∀ b, v6.ownBlock = some b → w.heap.size + 1 ≤ b := fun b hb => (hN6.own.lt b hb).1
          go_roundw
          case rel => exact ⟨k + 1, v6, by omega, by go_num, by rw [hsucc3.out]; exact hK6.mono (by omega), by rw [hsucc3.out]; exact hN6, by rw [hsucc3.out]; omega, M6, V6⟩
          case measure => simp [intOf]; omega
        · obtain rfl : k = m.nc := by omega
          have cn1 : wr.cell? ⟨w.heap.size, 1, none⟩ = some v3 := cellsAt hN3'.out.head 1
          have gn1 := lt_of_block hN3'.out.head
          obtain ⟨A9, c9, rfl, ⟨h91, h92⟩, hr9, hf9⟩ := own_rdC (cells := ntCells) hN3'.out.own rfl rfl ntCells_len
          have hr9' := Lib.hid hr9
          clear hr9
          go_wp2_with fail
          go_ret
          rw [hsc9.out, hst3'.out]
          exact ⟨A9, _, c9, rfl, h91, h92, hr9'.out, fun b o e => by have := hf9 b o e; omega, hK3'.out.mono (by omega), hM3'.out⟩
end Go.Proofs.YtgajbgdkgelkgaaGreat
namespace Go.Proofs.YtgajbgdkgelkgaaGreat
open Go.RowKit

/-- Is that a key? -/
def rightB (s : ByteArray) : Bool := decide (1 ≤ s.size) && decide (s.size ≤ 32) && decide (Lib.indexByte s.data.toList 0 < 0)

def mix (h x : Int) : Int := IntKind.u64.wrap (bits .xor .u64 h x * 1099511628211)
/-- The sum behind the first k bytes of a round. -/
def roundTo (s : ByteArray) (h : Int) : Nat → Int
  | 0 => h
  | k + 1 => mix (roundTo s h k) ((bs s).getD k 0)
def start : Int := 14695981039346656037
/-- The sum behind t rounds. -/
def sumTo (s : ByteArray) : Nat → Int
  | 0 => start
  | t + 1 => mix (roundTo s (sumTo s t) s.size) t

/-- The digit of sixteen at place k from the end. -/
def nib (n : Int) (k : Nat) : Int := bits .and .u64 (n / 2 ^ (4 * k)) 15
def hexS : ByteArray := ⟨#[48, 49, 50, 51, 52, 53, 54, 55, 56, 57, 97, 98, 99, 100, 101, 102]⟩
def hx (d : Int) : Int := ((hexS.data.toList.getD d.toNat 0).toNat : Int)
/-- The digits when the last k of them stand. -/
def toldTo (n : Int) (k : Nat) : List Int := (List.range 16).map fun j => if 15 - j < k then hx (nib n (15 - j)) else 0
def toldL (n : Int) : List Int := (List.range 16).map fun j => hx (nib n (15 - j))
def sumS (s : ByteArray) : ByteArray := if rightB s then strOfNums (toldL (sumTo s 64)) else ⟨#[]⟩

theorem nib_range (n : Int) (k : Nat) : 0 ≤ nib n k ∧ nib n k < 16 := by
  show 0 ≤ IntKind.u64.wrap ((BitVec.ofInt 64 (n / 2 ^ (4 * k)) &&& BitVec.ofInt 64 15).toNat : Int) ∧ IntKind.u64.wrap ((BitVec.ofInt 64 (n / 2 ^ (4 * k)) &&& BitVec.ofInt 64 15).toNat : Int) < 16
  have h : (BitVec.ofInt 64 (n / 2 ^ (4 * k)) &&& BitVec.ofInt 64 15).toNat ≤ 15 := by
    rw [BitVec.toNat_and]; exact Nat.and_le_right
  rw [IntKind.wrap_u64]; omega
theorem toldTo_zero (n : Int) : toldTo n 0 = zs 16 := by
  unfold toldTo zs
  apply List.ext_getElem?
  intro i
  simp only [List.getElem?_map, List.getElem?_replicate]
  by_cases h : i < 16
  · simp [h]
  · simp [h]
theorem toldTo_all (n : Int) : toldTo n 16 = toldL n := by
  unfold toldTo toldL
  apply List.map_congr_left
  intro j _
  rw [if_pos (by omega)]
theorem toldTo_step (n : Int) (k : Nat) (hk : k < 16) : (toldTo n k).set (15 - k) (hx (nib n k)) = toldTo n (k + 1) := by
  unfold toldTo
  apply List.ext_getElem?
  intro i
  rw [List.getElem?_set]
  simp only [List.getElem?_map, List.length_map, List.length_range]
  by_cases h : i < 16
  · simp only [List.getElem?_range h, Option.map_some]
    by_cases e : 15 - k = i
    · subst e
      rw [if_pos rfl, if_pos h, if_pos (by omega)]
      congr 3; omega
    · rw [if_neg e]
      congr 1
      by_cases h2 : 15 - i < k
      · rw [if_pos h2, if_pos (by omega)]
      · rw [if_neg h2, if_neg (by omega)]
  · have : (List.range 16)[i]? = none := by simp; omega
    rw [if_neg (by omega), this]; rfl
theorem toldTo_length (n : Int) (k : Nat) : (toldTo n k).length = 16 := by simp [toldTo]
theorem toldL_length (n : Int) : (toldL n).length = 16 := by simp [toldL]
theorem hex_at (d : Int) (h : d.toNat < hexS.size) : ((hexS[d.toNat]'h).toNat : Int) = hx d := by
  unfold hx
  have h2 : d.toNat < hexS.data.toList.length := h
  rw [List.getD_eq_getElem?_getD, List.getElem?_eq_getElem h2]
  rfl
/-- The words when k bytes have been put. -/
def wordsTo (s : ByteArray) (k : Nat) : List Int :=
  (List.range ((s.size + 1) / 2)).map fun i => (if 2 * i < k then (bs s).getD (2 * i) 0 * 256 else 0) + (if 2 * i + 1 < k then (bs s).getD (2 * i + 1) 0 else 0)
theorem wordsTo_length (s : ByteArray) (k : Nat) : (wordsTo s k).length = (s.size + 1) / 2 := by simp [wordsTo]
theorem wordsTo_zero (s : ByteArray) : wordsTo s 0 = zs ((s.size + 1) / 2) := by
  unfold wordsTo zs
  apply List.ext_getElem?
  intro i
  simp only [List.getElem?_map, List.getElem?_replicate]
  by_cases h : i < (s.size + 1) / 2
  · rw [List.getElem?_range h]; simp [h]
  · have : (List.range ((s.size + 1) / 2))[i]? = none := by simp; omega
    rw [this]; simp [h]
theorem wordsTo_getD (s : ByteArray) (k i : Nat) (h : i < (s.size + 1) / 2) :
    (wordsTo s k).getD i 0 = (if 2 * i < k then (bs s).getD (2 * i) 0 * 256 else 0) + (if 2 * i + 1 < k then (bs s).getD (2 * i + 1) 0 else 0) := by
  unfold wordsTo
  rw [List.getD_eq_getElem?_getD, List.getElem?_map, List.getElem?_range h]; rfl
theorem wordsTo_step (s : ByteArray) (k : Nat) (hk : k < s.size) (v : Int) (hv : v = (if k % 2 = 0 then (bs s).getD k 0 * 256 else (wordsTo s k).getD (k / 2) 0 + (bs s).getD k 0)) :
    (wordsTo s k).set (k / 2) v = wordsTo s (k + 1) := by
  apply List.ext_getElem?
  intro i
  rw [List.getElem?_set]
  by_cases e : k / 2 = i
  · subst e
    rw [if_pos rfl, if_pos (by rw [wordsTo_length]; omega)]
    have h1 : k / 2 < (s.size + 1) / 2 := by omega
    have hl : k / 2 < (wordsTo s (k + 1)).length := by rw [wordsTo_length]; omega
    have := wordsTo_getD s (k + 1) (k / 2) h1
    rw [List.getD_eq_getElem?_getD, List.getElem?_eq_getElem hl] at this
    rw [List.getElem?_eq_getElem hl]
    simp only [Option.getD_some] at this
    rw [this, hv, wordsTo_getD s k (k / 2) h1]
    by_cases h2 : k % 2 = 0
    · have e2 : 2 * (k / 2) = k := by omega
      rw [if_pos h2, if_pos (by omega), if_neg (by omega), e2]; simp
    · have e2 : 2 * (k / 2) + 1 = k := by omega
      rw [if_neg h2, if_pos (by omega), if_neg (by omega), if_pos (by omega), if_pos (by omega), e2]; simp
  · rw [if_neg e]
    by_cases h : i < (s.size + 1) / 2
    · unfold wordsTo
      rw [List.getElem?_map, List.getElem?_map, List.getElem?_range h]
      simp only [Option.map_some]
      congr 2
      · by_cases a : 2 * i < k
        · rw [if_pos a, if_pos (by omega)]
        · rw [if_neg a, if_neg (by omega)]
      · by_cases a : 2 * i + 1 < k
        · rw [if_pos a, if_pos (by omega)]
        · rw [if_neg a, if_neg (by omega)]
    · rw [List.getElem?_eq_none (by rw [wordsTo_length]; omega), List.getElem?_eq_none (by rw [wordsTo_length]; omega)]
theorem word_hi (b : Int) (h0 : 0 ≤ b) (h1 : b ≤ 255) : IntKind.u16.wrap (IntKind.u16.wrap b * 256) = b * 256 := by
  rw [IntKind.wrap_u16, IntKind.wrap_u16]; omega
theorem word_or (x b : Int) (h0 : 0 ≤ b) (h1 : b ≤ 255) (h2 : 0 ≤ x) (h3 : x ≤ 255) : bits .or .u16 (x * 256) (IntKind.u16.wrap b) = x * 256 + b := by
  have e : IntKind.u16.wrap b = b := by rw [IntKind.wrap_u16]; omega
  rw [e, u16_or (x * 256) b (by omega) (by omega) (by omega) (by omega), nat_join 8 _ _ (by omega) (by omega)]
  omega
theorem byte_range (s : ByteArray) (k : Nat) : 0 ≤ (bs s).getD k 0 ∧ (bs s).getD k 0 ≤ 255 := by
  unfold bs
  rw [List.getD_eq_getElem?_getD, List.getElem?_map]
  cases h : s.data.toList[k]? with
  | none => simp
  | some b => have := b.toNat_lt; simp; omega
/-- The byte i of words. -/
def byteAt (xs : List Int) (i : Nat) : Int := if i % 2 = 1 then xs.getD (i / 2) 0 % 256 else xs.getD (i / 2) 0 / 256 % 256
def textTo (xs : List Int) (k : Nat) : List Int := (List.range k).map (byteAt xs)
theorem textTo_length (xs : List Int) (k : Nat) : (textTo xs k).length = k := by simp [textTo]
theorem textTo_succ (xs : List Int) (k : Nat) : textTo xs (k + 1) = textTo xs k ++ [byteAt xs k] := by simp [textTo, List.range_succ]
/-- The bytes of words up to the first 0, of at most m. -/
def textL (xs : List Int) (m : Nat) : List Int := (textTo xs m).takeWhile (· ≠ 0)
def textS (xs : List Int) (n : Nat) : ByteArray :=
  if rightB (strOfNums (textL xs (2 * min n 32))) then strOfNums (textL xs (2 * min n 32)) else ⟨#[]⟩
theorem textL_stop (xs : List Int) (m k : Nat) (hk : k ≤ m) (h : ∀ j, j < k → byteAt xs j ≠ 0) (he : k = m ∨ byteAt xs k = 0) : textL xs m = textTo xs k := by
  unfold textL
  have h1 : ∀ x ∈ textTo xs k, (decide (x ≠ 0)) = true := by
    intro x hx
    simp only [textTo, List.mem_map, List.mem_range] at hx
    obtain ⟨j, hj, rfl⟩ := hx
    exact decide_eq_true (h j hj)
  have h0 : (textTo xs k).takeWhile (· ≠ 0) = textTo xs k := by
    have := List.takeWhile_append_of_pos (l₂ := []) h1
    simpa using this
  rcases he with rfl | he
  · exact h0
  · rcases Nat.eq_or_lt_of_le hk with rfl | hlt
    · exact h0
    · obtain ⟨d, rfl⟩ : ∃ d, m = k + (d + 1) := ⟨m - k - 1, by omega⟩
      have e : textTo xs (k + (d + 1)) = textTo xs k ++ (byteAt xs k :: ((List.range' (k + 1) d).map (byteAt xs))) := by
        simp only [textTo]
        rw [List.range_eq_range', List.range_eq_range', ← List.range'_append_1]
        simp [List.range'_succ]
      rw [e, List.takeWhile_append_of_pos h1, List.takeWhile_cons_of_neg (by simp [he])]
      simp
end Go.Proofs.YtgajbgdkgelkgaaGreat
namespace Go.Proofs.YtgajbgdkgelkgaaGreat
open Go.Shelf Go.RowKit
def lays137_ren : Go.Shelf.Ren := ⟨fun | 137 => 101 | 217 => 126 | 266 => 149 | n => n, fun | 9 => 9 | 5 => 5 | 3 => 3 | n => n, fun | n => n⟩
theorem lays137 : Go.Proofs.Lays.n137 Tryz.prog lays137_ren := {
  mixed := by kernel_rfl
  f137 := Tryz.func101.trans (congrArg some (by kernel_rfl))
  f217 := Tryz.func126.trans (congrArg some (by kernel_rfl))
  f266 := Tryz.func149.trans (congrArg some (by kernel_rfl))
  t3 := Tryz.underlying3
  a3 := Tryz.isAgg3
  z3 := Tryz.sizeOf3
  v3 := Tryz.zeroValue3
  t5 := Tryz.underlying5
  a5 := Tryz.isAgg5
  z5 := Tryz.sizeOf5
  v5 := Tryz.zeroValue5
  t9 := Tryz.underlying9
  a9 := Tryz.isAgg9
  z9 := Tryz.sizeOf9
  v9 := Tryz.zeroValue9 }
theorem idx_any (s : ByteArray) (c : Int) (w : World) :
    Calls Tryz.prog 101 #[.string s, .int .u8 c] w fun e w' => e = .returned (.int .i64 (Lib.indexByte s.data.toList c.toNat.toUInt8)) ∧ w' = w := Any.strings_IndexByte lays137 s c w
end Go.Proofs.YtgajbgdkgelkgaaGreat
namespace Go.Proofs.YtgajbgdkgelkgaaGreat
open Go.RowKit

set_option maxRecDepth 100000 in
set_option maxHeartbeats 400000 in
theorem keyRight_any (s : ByteArray) (w : World) (hs : s.size ≤ maxLen) :
    Calls Tryz.prog 73 #[.string s] w fun e w' => e = .returned (.bool (rightB s)) ∧ w = w' := by
  unfold maxLen at hs
  go_enter Tryz.func73, Tryz.ntmps73
  go_wp2_with (go_at_call 101; refine (idx_any _ _ _).mono ?_; rintro e w' ⟨rfl, rfl⟩)
  all_goals go_ret
  · have h1 : 1 ≤ s.size := by omega
    have h2 : s.size ≤ 32 := by omega
    exact ⟨by simp [rightB, h1, h2], rfl⟩
  · have h1 : ¬ s.size ≤ 32 := by omega
    exact ⟨by simp [rightB, h1], rfl⟩
  · have h1 : ¬ 1 ≤ s.size := by omega
    exact ⟨by simp [rightB, h1], rfl⟩
end Go.Proofs.YtgajbgdkgelkgaaGreat
