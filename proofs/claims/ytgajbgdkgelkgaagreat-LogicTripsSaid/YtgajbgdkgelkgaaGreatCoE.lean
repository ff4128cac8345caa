/- Layer 17, the walks: scan, one cause. -/
import Derived.Test.YtgajbgdkgelkgaaGreatG09
namespace Go.Proofs.YtgajbgdkgelkgaaGreat
open Go.RowKit

theorem right_parts {m : Mx} (h : rightM m = true) : (∀ x ∈ m.cas, x.ps.length ≤ 4 ∧ (∀ p ∈ x.ps, 0 ≤ p ∧ p < m.pts.length) ∧ 1 ≤ x.vt ∧ x.vt ≤ x.ps.length ∧ 1 ≤ x.ps.length ∧ 1 ≤ x.lp ∧ x.lp ≤ 6 ∧ 0 ≤ x.lm ∧ x.lm ≤ 100000) ∧
    (∀ x ∈ m.efs, x.ps.length ≤ 8 ∧ ∀ p ∈ x.ps, 0 ≤ p ∧ p < m.cas.length) ∧ sizesB m = true := by
  unfold rightM at h
  simp only [Bool.and_eq_true] at h
  obtain ⟨⟨⟨⟨⟨⟨⟨h1, -⟩, -⟩, -⟩, -⟩, -⟩, h2⟩, h3⟩ := h
  refine ⟨fun x hx => ?_, fun x hx => ?_, h1⟩
  · unfold causesB at h2
    have := List.all_eq_true.1 h2 x hx
    unfold caB picksB wiB at this
    simp only [Bool.and_eq_true, decide_eq_true_eq, List.all_eq_true] at this
    obtain ⟨⟨⟨⟨⟨⟨a1, a2⟩, a3⟩, -⟩, a4, a5⟩, a6, a7⟩, a8, a9⟩ := this
    exact ⟨by omega, fun p hp => by have := a3 p hp; omega, a4, a5, by omega, a6, a7, a8, a9⟩
  · unfold effectsB at h3
    rw [Bool.and_eq_true] at h3
    have := List.all_eq_true.1 h3.1 x hx
    unfold efB picksB wiB at this
    simp only [Bool.and_eq_true, decide_eq_true_eq, List.all_eq_true] at this
    obtain ⟨-, ⟨⟨a1, a2⟩, a3⟩, -⟩ := this
    exact ⟨by omega, fun p hp => by have := a3 p hp; omega⟩
theorem caAt_get {m : Mx} {q : Nat} {x : Ca} (h : m.cas[q]? = some x) : caAt m q = x := by unfold caAt; rw [List.getD_eq_getElem?_getD, h]; rfl
theorem efAt_get {m : Mx} {q : Nat} {x : Ef} (h : m.efs[q]? = some x) : efAt m q = x := by unfold efAt; rw [List.getD_eq_getElem?_getD, h]; rfl
theorem info_in : (Tryz.prog.info? 131).map (fun i => (i.zero, i.size, i.bytes)) = some (some (.agg #[.bool false, .bool false, .bool false]), 3, 3) := by kernel_rfl
def ScanB (K : CoK) (m : Mx) (gn : Nat) (v : Value) (b : Nat) : Prop := K.mut m.np b ∨ NtB gn v b
theorem HasNt.keepM {w w' : World} {gn nb : Nat} {now : Int} {v : Value} {l : List Nt} (h : HasNt w gn nb now v l) {S : Nat → Prop} (M : Mod S w w') (hs : ∀ b, S b → b ≠ gn ∧ ¬ v.ownBlock = some b) : HasNt w' gn nb now v l := by
  refine ⟨(M.block gn (lt_of_block h.head) fun hS => (hs gn hS).1 rfl).trans h.head, ⟨h.own.1, ?_⟩, h.lt, Nat.le_trans h.le M.size⟩
  rcases h.own.2 with hn | ⟨g, cap, cur, hv, hb, hg, rest⟩
  · exact .inl hn
  · exact .inr ⟨g, cap, cur, hv, hb, (M.block g (lt_of_block hg) fun hS => (hs g hS).2 (by rw [hv]; rfl)).trans hg, rest⟩
/-- A core and its notes, side by side, behind a call. -/
def CoNt (base B N : Nat) (K : CoK) (m : Mx) (gn nb : Nat) (now : Int) (v : Value) (w : World) (s : Co × List Nt) (w' : World) : Prop :=
  ∃ v', HasK w' base B N K m s.1 ∧ HasNt w' gn nb now v' s.2 ∧ Mod (ScanB K m gn v) w w' ∧ ∀ b, v'.ownBlock = some b → v.ownBlock = some b ∨ w.heap.size ≤ b
theorem HasK.tell {w w' : World} {base B N : Nat} {K : CoK} {m : Mx} {c : Co} {gn nb : Nat} {now : Int} {v : Value} {l : List Nt} (h : HasK w base B N K m c) (hn : HasNt w gn nb now v l) (hgn : (∀ b, K.mut m.np b → b < gn) ∧ B ≤ gn) (M : Mod (NtB gn v) w w') : HasK w' base B N K m c :=
  h.mod M fun b hb => by
    have h1 : gn ≤ b := by
      rcases hb with h1 | h1
      · omega
      · have := (hn.own.lt b h1).1; have := hn.lt; omega
    exact ⟨fun hm => by have := hgn.1 b hm; omega, fun hm => by omega⟩
theorem HasNt.core {w w' : World} {base B N : Nat} {K : CoK} {m : Mx} {c : Co} {gn nb : Nat} {now : Int} {v : Value} {l : List Nt} (hn : HasNt w gn nb now v l) (_h : HasK w base B N K m c) (hgn : (∀ b, K.mut m.np b → b < gn) ∧ B ≤ gn) {S : Nat → Prop} (M : Mod S w w') (hS : ∀ b, S b → K.mut m.np b) : HasNt w' gn nb now v l :=
  hn.keepM M fun b hb => by
    have h1 := hgn.1 b (hS b hb)
    exact ⟨by omega, fun e => by have := (hn.own.lt b e).1; have := hn.lt; omega⟩
theorem HasNt.ext {w w' : World} {gn nb : Nat} {now : Int} {v : Value} {l : List Nt} (hn : HasNt w gn nb now v l) (E : Ext w w') : HasNt w' gn nb now v l :=
  hn.keepM (S := fun b => w.heap.size ≤ b) ⟨E.os, E.tape, E.output, E.size, fun k hk _ => E.block k hk⟩ fun b hb => ⟨by have := lt_of_block hn.head; omega, fun e => by have := (hn.own.lt b e).2; omega⟩
theorem len_tell {l : List Nt} {n : Nat} {x : Nt} (h : l.length ≤ n) : (l ++ [x]).length ≤ n + 1 := by rw [List.length_append]; simp; omega
set_option maxRecDepth 100000 in
set_option maxHeartbeats 12800000 in
theorem scanOne_any (base B N : Nat) (K : CoK) (m : Mx) (c : Co) (gn nb : Nat) (now : Int) (v : Value) (l : List Nt) (w : World) (h : HasK w base B N K m c) (hR : rightM m = true) (hn : HasNt w gn nb now v l) (hgn : (∀ b, K.mut m.np b → b < gn) ∧ B ≤ gn) (q : Nat) (hq : q < m.nc) (hN : N ≤ 4611686018000) (hl : l.length ≤ 900000) :
    Calls Tryz.prog 31 #[.pointer (some ⟨K.g, 0, none⟩), .int .i64 q, .int .i64 now, .func (.func 28) #[.pointer (some ⟨gn, 0, none⟩)] #[]] w fun e w' => e = .returned (.tuple #[]) ∧ CoNt base B (N + 9) K m gn nb now v w (scanQ m now (c, l) q) w' := by
  obtain ⟨hrc, hre, hsz⟩ := right_parts hR
  unfold sizesB at hsz
  simp only [Bool.and_eq_true, decide_eq_true_eq] at hsz
  have hnc : m.nc ≤ 8 := by have := h.mx.ok.ca.len; omega
  have hne : m.ne ≤ 8 := by have := h.mx.ok.ef.len; omega
  have hnp : m.np ≤ 16 := by have := h.mx.ok.pt.len; omega
  have hg := lt_of_block h.head
  obtain ⟨x, hx⟩ := h.mx.ok.ca.get hq
  obtain ⟨gc, oc, hAc, hgc, hcc⟩ := h.mx.ok.ca.at_ hx
  have hmem := List.mem_of_getElem? hx
  obtain ⟨hxr, hxn, hxc⟩ := h.mx.ok.cao x hmem
  obtain ⟨p1, p2, p3, p4, -⟩ := hrc x hmem
  have hBw := h.mxlt
  have c7 : w.cell? ⟨K.g, 7, none⟩ = some (.slice (some ⟨gc, oc, none⟩) m.nc m.cc) := by rw [← hAc]; exact h.cell 7
  have x0 : w.cell? ⟨gc, oc + q * 5, none⟩ = some (.string x.nm) := hcc 0 (by decide)
  have x1 : w.cell? ⟨gc, oc + q * 5 + 1, none⟩ = some (.int .i64 x.vt) := hcc 1 (by decide)
  have x2 : w.cell? ⟨gc, oc + q * 5 + 2, none⟩ = some (.int .i64 x.lp) := hcc 2 (by decide)
  have x3 : w.cell? ⟨gc, oc + q * 5 + 3, none⟩ = some (.int .i64 x.lm) := hcc 3 (by decide)
  have x4 : w.cell? ⟨gc, oc + q * 5 + 4, none⟩ = some (.slice x.A x.n x.c) := hcc 4 (by decide)
  have e3 : (q : Int) < (m.nc : Int) := by omega
  have hgcw : gc < w.heap.size := by omega
  have hxl := hxr.len
  have hxn4 : x.n ≤ 4 := by omega
  have hca := caAt_get hx
  have h' := Lib.hid h
  have hn' := Lib.hid hn
  have hxr' := Lib.hid hxr
  have hgn' := Lib.hid hgn
  have hca' := Lib.hid hca
  have hp2 := Lib.hid p2
  have hre' := Lib.hid hre
  have hxl' := Lib.hid hxl
  clear h hn hxr hgn hcc hAc hrc hsz hR hca p2 hre hxc hmem hx hxl
  go_enter Tryz.func31, Tryz.ntmps31
  go_upto_region 3 with fail
  have b8 := heap_alloc_new w (.cells #[.string x.nm, .int .i64 x.vt, .int .i64 x.lp, .int .i64 x.lm, .slice x.A x.n x.c] 87)
  have EU := (Ext.refl w).goA (.cells #[.string x.nm, .int .i64 x.vt, .int .i64 x.lp, .int .i64 x.lm, .slice x.A x.n x.c] 87)
  have SU : (w.alloc (.cells #[.string x.nm, .int .i64 x.vt, .int .i64 x.lp, .int .i64 x.lm, .slice x.A x.n x.c] 87)).heap.size = w.heap.size + 1 := by simp
  generalize w.alloc (.cells #[.string x.nm, .int .i64 x.vt, .int .i64 x.lp, .int .i64 x.lm, .slice x.A x.n x.c] 87) = U at *
  clear c7 x0 x1 x2 x3 x4
  have EU' := Lib.hid EU
  have b8' := Lib.hid b8
  have SU' := Lib.hid SU
  clear EU b8 SU
  go_loopw [9, 25] (fun u i wr => ∃ k : Nat, k ≤ x.n ∧ i = .int .i64 k ∧ Mod (fun b => w.heap.size + 1 ≤ b) U wr ∧ wr.ownsRow (w.heap.size + 1) 131 3 u k (((x.ps.take k).map fun p => ((c.dl.getD p.toNat dl0).cnt, !c.kn.getD p.toNat false, false)).flatMap inCells)) (fun _ i _ => x.n - (intOf i).toNat)
  case atStart => exact ⟨0, by omega, rfl, Mod.refl _ _, by simpa using World.ownsRow_nil _ _ _ _⟩
  case round =>
    obtain ⟨k, hk, rfl, hM, hown⟩ := hrel
    have hEw : Ext w wr := EU'.out.goM hM (fun i hi => by omega)
    have hEw' := Lib.hid hEw
    have hM' := Lib.hid hM
    have hown' := Lib.hid hown
    have hB8 := (hM.block w.heap.size (by have := SU'.out; omega) (by omega)).trans b8'.out
    have hB8' := Lib.hid hB8
    have hKr := Lib.hid (h'.out.ext hEw)
    have swr : w.heap.size + 1 ≤ wr.heap.size := by have := hM.size; have := SU'.out; omega
    clear hM hown hB8 hEw
    by_cases hlt : k < x.n
    · have e4 : (k : Int) < (x.n : Int) := by omega
      obtain ⟨b, o, hA, hb, hc⟩ := hxr'.out.at_ hlt
      have hkl : k < x.ps.length := by rw [hxl'.out]; exact hlt
      have hpm : x.ps.getD k 0 ∈ x.ps := by rw [List.getD_eq_getElem?_getD, List.getElem?_eq_getElem hkl]; exact List.getElem_mem hkl
      obtain ⟨pn, hpn, hpl⟩ : ∃ pn : Nat, x.ps.getD k 0 = (pn : Int) ∧ pn < m.np := by
        have h1 := hp2.out _ hpm
        have h2 : m.pts.length = m.np := h'.out.mx.ok.pt.len
        exact ⟨(x.ps.getD k 0).toNat, by omega, by omega⟩
      have htk : x.ps.take (k + 1) = x.ps.take k ++ [(pn : Int)] := by
        rw [List.take_succ_eq_append_getElem hkl, ← hpn, List.getD_eq_getElem?_getD, List.getElem?_eq_getElem hkl]; rfl
      rw [hpn] at hc
      have cx : wr.cell? ⟨b, o + k, none⟩ = some (.int .i64 (pn : Int)) := (hEw'.out.cell _ (by omega)).trans hc
      have KS : ∀ w', Mod (fun b => w.heap.size + 1 ≤ b) wr w' → HasK w' base B N K m c := fun w' M => hKr.out.mod M fun b hb => ⟨fun hm => by have := h'.out.old hm; omega, fun hm => by omega⟩
      obtain ⟨hKA, hPt⟩ := h'.out.pA (by omega)
      have r9 : ∀ w', Mod (fun b => w.heap.size + 1 ≤ b) wr w' → w'.cell? ⟨K.g, 9, none⟩ = some (.slice (some ⟨K.gp, 0, none⟩) m.np K.cp) := fun w' M => by rw [← hKA]; exact (KS w' M).cell 9
      have rp : ∀ w', Mod (fun b => w.heap.size + 1 ≤ b) wr w' → w'.cell? ⟨K.gp, pn * 2, none⟩ = some (.pointer (some ⟨K.gd pn, 0, none⟩)) := fun w' M => by
        obtain ⟨cs, h1, h2⟩ := ((KS w' M).pA (by omega)).2
        exact (cellsAt h1 _).trans (h2 pn (by rw [h'.out.lkn]; exact hpl)).1
      have rk : ∀ w', Mod (fun b => w.heap.size + 1 ≤ b) wr w' → w'.cell? ⟨K.gp, pn * 2 + 1, none⟩ = some (.bool (c.kn.getD pn false)) := fun w' M => by
        obtain ⟨cs, h1, h2⟩ := ((KS w' M).pA (by omega)).2
        exact (cellsAt h1 _).trans (h2 pn (by rw [h'.out.lkn]; exact hpl)).2
      have e5 : (pn : Int) < (m.np : Int) := by omega
      have hcap := h'.out.cap
      have hcp : K.cp ≤ 9223372036854775807 := by have := hcap.2; unfold maxLen at this; exact this
      have hdl := Lib.hid (fun w' M => ((KS w' M).dl pn hpl).1)
      have htk' := Lib.hid htk
      have gKr := lt_of_block hKr.out.head
      clear hb hc hpm hkl htk hPt hKA hcap hpn
      rw [hA]
      go_upto_region 5 with fail
      refine wp_region_held_drew (S := fun w' => Mod (fun b => w.heap.size + 1 ≤ b) wr w') (by kernel_rfl) (Mod.refl _ wr).drew (fun hHeld => ?_)
      refine wpAnyH_take (i := 0) (oi := _) (v := ?_) rfl (by kernel_rfl) (by kernel_rfl) (by kernel_rfl) (fun _ _ _ h => h) (Or.inl ⟨by rfl, ?_⟩) (by assumption) ?_
      rotate_left
      · intro w hSw
        (try dsimp only at hSw)
        go_simp
        try (with_reducible rfl)
      try simp only [Act.put, List.getElem_toArray, List.getElem_cons_zero, List.setIfInBounds_toArray, List.set_cons_zero, List.set_cons_succ]
      refine wpAnyH_take (i := 1) (oi := _) (v := ?_) rfl (by kernel_rfl) (by kernel_rfl) (by kernel_rfl) (fun _ _ _ h => h) (Or.inl ⟨by rfl, ?_⟩) (by assumption) ?_
      rotate_left
      · intro w hSw
        (try dsimp only at hSw)
        go_simp
        try (with_reducible rfl)
      try simp only [Act.put, List.getElem_toArray, List.getElem_cons_succ, List.getElem_cons_zero, List.setIfInBounds_toArray, List.set_cons_zero, List.set_cons_succ]
      refine wpAnyH_take (i := 2) (oi := _) (v := ?_) rfl (by kernel_rfl) (by kernel_rfl) (by kernel_rfl) (fun _ _ _ h => h) (Or.inl ⟨by rfl, ?_⟩) (by assumption) ?_
      rotate_left
      · intro w hSw
        (try dsimp only at hSw)
        go_simp
        try (with_reducible rfl)
      try simp only [Act.put, List.getElem_toArray, List.getElem_cons_succ, List.getElem_cons_zero, List.setIfInBounds_toArray, List.set_cons_zero, List.set_cons_succ]
      refine wpAnyH_take (i := 3) (oi := _) (v := ?_) rfl (by kernel_rfl) (by kernel_rfl) (by kernel_rfl) (fun _ _ _ h => h) (Or.inl ⟨by rfl, ?_⟩) (by assumption) ?_
      rotate_left
      · intro w hSw
        (try dsimp only at hSw)
        go_simp
        try (with_reducible rfl)
      try simp only [Act.put, List.getElem_toArray, List.getElem_cons_succ, List.getElem_cons_zero, List.setIfInBounds_toArray, List.set_cons_zero, List.set_cons_succ]
      refine wpAnyH_take (i := 4) (oi := _) (v := ?_) rfl (by kernel_rfl) (by kernel_rfl) (by kernel_rfl) (fun _ _ _ h => h) (Or.inl ⟨by rfl, ?_⟩) (by assumption) ?_
      rotate_left
      · intro w hSw
        (try dsimp only at hSw)
        go_simp
        try (with_reducible rfl)
      try simp only [Act.put, List.getElem_toArray, List.getElem_cons_succ, List.getElem_cons_zero, List.setIfInBounds_toArray, List.set_cons_zero, List.set_cons_succ]
      refine wpAnyH_take (i := 5) (oi := _) (v := ?_) rfl (by kernel_rfl) (by kernel_rfl) (by kernel_rfl) (fun _ _ _ h => h) (Or.inl ⟨by rfl, ?_⟩) (by assumption) ?_
      rotate_left
      · intro w hSw
        (try dsimp only at hSw)
        go_simp
        try (with_reducible rfl)
      try simp only [Act.put, List.getElem_toArray, List.getElem_cons_succ, List.getElem_cons_zero, List.setIfInBounds_toArray, List.set_cons_zero, List.set_cons_succ]
      refine wpAnyH_take (i := 6) (oi := _) (v := ?_) rfl (by kernel_rfl) (by kernel_rfl) (by kernel_rfl) (fun _ _ _ h => h) (Or.inl ⟨by rfl, ?_⟩) (by assumption) ?_
      rotate_left
      · intro w hSw
        (try dsimp only at hSw)
        go_simp
        try (with_reducible rfl)
      try simp only [Act.put, List.getElem_toArray, List.getElem_cons_succ, List.getElem_cons_zero, List.setIfInBounds_toArray, List.set_cons_zero, List.set_cons_succ]
      refine wpAnyH_take (i := 7) (oi := _) (v := ?_) rfl (by kernel_rfl) (by kernel_rfl) (by kernel_rfl) (fun _ _ _ h => h) (Or.inl ⟨by rfl, ?_⟩) (by assumption) ?_
      rotate_left
      · intro w hSw
        (try dsimp only at hSw)
        go_simp
        try (with_reducible rfl)
      try simp only [Act.put, List.getElem_toArray, List.getElem_cons_succ, List.getElem_cons_zero, List.setIfInBounds_toArray, List.set_cons_zero, List.set_cons_succ]
      refine wpAnyH_take (i := 8) (oi := _) (v := ?_) rfl (by kernel_rfl) (by kernel_rfl) (by kernel_rfl) (fun _ _ _ h => h) (Or.inl ⟨by rfl, ?_⟩) (by assumption) ?_
      rotate_left
      · intro w hSw
        (try dsimp only at hSw)
        go_simp
        try (with_reducible rfl)
      try simp only [Act.put, List.getElem_toArray, List.getElem_cons_succ, List.getElem_cons_zero, List.setIfInBounds_toArray, List.set_cons_zero, List.set_cons_succ]
      refine wpAnyH_take (i := 10) (oi := _) (v := ?_) rfl (by kernel_rfl) (by kernel_rfl) (by kernel_rfl) (fun _ _ _ h => h) (Or.inl ⟨by rfl, ?_⟩) (by assumption) ?_
      rotate_left
      · intro w hSw
        (try dsimp only at hSw)
        go_simp
        try (with_reducible rfl)
      try simp only [Act.put, List.getElem_toArray, List.getElem_cons_succ, List.getElem_cons_zero, List.setIfInBounds_toArray, List.set_cons_zero, List.set_cons_succ]
      refine wpAnyH_take (i := 11) (oi := _) (v := ?_) rfl (by kernel_rfl) (by kernel_rfl) (by kernel_rfl) (fun _ _ _ h => h) (Or.inl ⟨by rfl, ?_⟩) (by assumption) ?_
      rotate_left
      · intro w hSw
        (try dsimp only at hSw)
        go_simp
        try (with_reducible rfl)
      try simp only [Act.put, List.getElem_toArray, List.getElem_cons_succ, List.getElem_cons_zero, List.setIfInBounds_toArray, List.set_cons_zero, List.set_cons_succ]
      refine wpAnyH_take (i := 12) (oi := _) (v := ?_) rfl (by kernel_rfl) (by kernel_rfl) (by kernel_rfl) (fun _ _ _ h => h) (Or.inl ⟨by rfl, ?_⟩) (by assumption) ?_
      rotate_left
      · intro w hSw
        (try dsimp only at hSw)
        go_simp
        try (with_reducible rfl)
      try simp only [Act.put, List.getElem_toArray, List.getElem_cons_succ, List.getElem_cons_zero, List.setIfInBounds_toArray, List.set_cons_zero, List.set_cons_succ]
      refine wpAnyH_take (i := 13) (oi := _) (v := ?_) rfl (by kernel_rfl) (by kernel_rfl) (by kernel_rfl) (fun _ _ _ h => h) (Or.inl ⟨by rfl, ?_⟩) (by assumption) ?_
      rotate_left
      · intro w hSw
        (try dsimp only at hSw)
        go_simp
        try (with_reducible rfl)
      try simp only [Act.put, List.getElem_toArray, List.getElem_cons_succ, List.getElem_cons_zero, List.setIfInBounds_toArray, List.set_cons_zero, List.set_cons_succ]
      refine wpAnyH_take (i := 14) (oi := _) (v := ?_) rfl (by kernel_rfl) (by kernel_rfl) (by kernel_rfl) (fun _ _ _ h => h) (Or.inl ⟨by rfl, ?_⟩) (by assumption) ?_
      rotate_left
      · intro w hSw
        (try dsimp only at hSw)
        go_simp
        try (with_reducible rfl)
      try simp only [Act.put, List.getElem_toArray, List.getElem_cons_succ, List.getElem_cons_zero, List.setIfInBounds_toArray, List.set_cons_zero, List.set_cons_succ]
      refine wpAnyH_take (i := 15) (oi := _) (v := ?_) rfl (by kernel_rfl) (by kernel_rfl) (by kernel_rfl) (fun _ _ _ h => h) (Or.inl ⟨by rfl, ?_⟩) (by assumption) ?_
      rotate_left
      · intro w hSw
        (try dsimp only at hSw)
        go_simp
        try (with_reducible rfl)
      try simp only [Act.put, List.getElem_toArray, List.getElem_cons_succ, List.getElem_cons_zero, List.setIfInBounds_toArray, List.set_cons_zero, List.set_cons_succ]
      refine wpAnyH_take (i := 16) (oi := _) (v := ?_) rfl (by kernel_rfl) (by kernel_rfl) (by kernel_rfl) (fun _ _ _ h => h) (Or.inl ⟨by rfl, ?_⟩) (by assumption) ?_
      rotate_left
      · intro w hSw
        (try dsimp only at hSw)
        go_simp
        try (with_reducible rfl)
      try simp only [Act.put, List.getElem_toArray, List.getElem_cons_succ, List.getElem_cons_zero, List.setIfInBounds_toArray, List.set_cons_zero, List.set_cons_succ]
      refine wpAnyH_take (i := 17) (oi := _) (v := ?_) rfl (by kernel_rfl) (by kernel_rfl) (by kernel_rfl) (fun _ _ _ h => h) (Or.inl ⟨by rfl, ?_⟩) (by assumption) ?_
      rotate_left
      · intro w hSw
        (try dsimp only at hSw)
        go_simp
        try (with_reducible rfl)
      try simp only [Act.put, List.getElem_toArray, List.getElem_cons_succ, List.getElem_cons_zero, List.setIfInBounds_toArray, List.set_cons_zero, List.set_cons_succ]
      refine wpAnyH_take (i := 18) (oi := _) (v := ?_) rfl (by kernel_rfl) (by kernel_rfl) (by kernel_rfl) (fun _ _ _ h => h) (Or.inl ⟨by rfl, ?_⟩) (by assumption) ?_
      rotate_left
      · intro w hSw
        (try dsimp only at hSw)
        go_simp
        try (with_reducible rfl)
      try simp only [Act.put, List.getElem_toArray, List.getElem_cons_succ, List.getElem_cons_zero, List.setIfInBounds_toArray, List.set_cons_zero, List.set_cons_succ]
      refine wpAnyH_ready (rs := [9]) (by kernel_rfl) (by simp) ?_
      refine AllReadyH.cons rfl (fun Kz hKz => ?_) ?_
      rotate_left
      · exact AllReadyH.nil
      go_simp
      go_at_call 67
      refine (delayValue_any _ _ _ (hdl.out _ hHeld)).mono ?_
      rintro e w' ⟨rfl, rfl⟩
      try dsimp only
      refine hKz.out _ _ ?_ (fun hHeld => ?_)
      · first | assumption | (dsimp only; assumption)
      clear hKz Kz
      try simp only [Act.put, List.getElem_toArray, List.getElem_cons_succ, List.getElem_cons_zero, List.setIfInBounds_toArray, List.set_cons_zero, List.set_cons_succ]
      refine wpAnyH_take (i := 19) (oi := _) (v := ?_) rfl (by kernel_rfl) (by kernel_rfl) (by kernel_rfl) (fun _ _ _ h => h) (Or.inl ⟨by rfl, ?_⟩) (by assumption) ?_
      rotate_left
      · intro w hSw
        (try dsimp only at hSw)
        go_simp
        try (with_reducible rfl)
      try simp only [Act.put, List.getElem_toArray, List.getElem_cons_succ, List.getElem_cons_zero, List.setIfInBounds_toArray, List.set_cons_zero, List.set_cons_succ]
      have OW := (own_ext hown'.out (Ext.refl wr).god).alloc (.cells #[.bool (c.dl.getD pn dl0).cnt, .bool (!c.kn.getD pn false), .bool false] 131)
      have hnew := heap_alloc_new wr.drew (.cells #[.bool (c.dl.getD pn dl0).cnt, .bool (!c.kn.getD pn false), .bool false] 131)
      refine wpAnyH_ready (rs := [20]) (by kernel_rfl) (by simp) ?_
      refine AllReadyH.cons rfl (fun Kz hKz => ?_) ?_
      rotate_left
      · exact AllReadyH.nil
      go_simp
      refine hKz.out _ _ ?_ (fun hHeld => ?_)
      · exact (Mod.refl _ wr).drew.alloc _
      clear hKz Kz
      try simp only [Act.put, List.getElem_toArray, List.getElem_cons_succ, List.getElem_cons_zero, List.setIfInBounds_toArray, List.set_cons_zero, List.set_cons_succ]
      refine wpAnyH_ready (rs := [21]) (by kernel_rfl) (by simp) ?_
      refine AllReadyH.cons rfl (fun Kz hKz => ?_) ?_
      rotate_left
      · exact AllReadyH.nil
      refine step_appS rfl (.tmp 29) (.tmp 49) _ rfl Tryz.underlying129 info_in rfl (by decide) OW rfl (new := [.bool (c.dl.getD pn dl0).cnt, .bool (!c.kn.getD pn false), .bool false]) rfl hnew rfl (by intro u hu; simp at hu; rcases hu with rfl | rfl | rfl <;> rfl) (by omega) (by unfold maxLen; omega) (by simp; omega) ?_
      intro v2 w2 own2 hg2 hat2
      have hHeld : Mod (fun b => w.heap.size + 1 ≤ b) wr w2 := ((Mod.refl _ wr).drew.alloc _).grown hg2 (fun i hi => .inl (OW.lt i hi).1)
      try dsimp only
      refine hKz.out _ _ ?_ (fun hHeld => ?_)
      · first | assumption | (dsimp only; assumption)
      clear hKz Kz
      try simp only [Act.put, List.getElem_toArray, List.getElem_cons_succ, List.getElem_cons_zero, List.setIfInBounds_toArray, List.set_cons_zero, List.set_cons_succ]
      refine wpAnyH_take (i := 22) (oi := _) (v := ?_) rfl (by kernel_rfl) (by kernel_rfl) (by kernel_rfl) (fun _ _ _ h => h) (Or.inl ⟨by rfl, ?_⟩) (by assumption) ?_
      rotate_left
      · intro w hSw
        (try dsimp only at hSw)
        go_simp
        try (with_reducible rfl)
      try simp only [Act.put, List.getElem_toArray, List.getElem_cons_succ, List.getElem_cons_zero, List.setIfInBounds_toArray, List.set_cons_zero, List.set_cons_succ]
      refine wpAnyH_done (by kernel_rfl) ?_ _
      have own3 : w2.ownsRow (w.heap.size + 1) 131 3 v2 (k + 1) (((x.ps.take (k + 1)).map fun p => ((c.dl.getD p.toNat dl0).cnt, !c.kn.getD p.toNat false, false)).flatMap inCells) := by
        rw [htk'.out, List.map_append, List.flatMap_append]
        simpa [inCells] using own2
      have own3' := Lib.hid own3
      have M2' := Lib.hid hHeld
      clear r9 rp rk own3 own2 hg2 hat2 hHeld OW hnew KS
      go_wp2_with fail
      go_roundw
      case rel => exact ⟨k + 1, by omega, by go_num, hM'.out.trans M2'.out, own3'.out⟩
      case measure => simp [intOf]; omega
    · obtain rfl : k = x.n := by omega
      obtain ⟨V, hV⟩ : ∃ V, V = wr := ⟨_, rfl⟩
      subst hV
      have hins : insOf c x = x.ps.map fun p => ((c.dl.getD p.toNat dl0).cnt, !c.kn.getD p.toNat false, false) := rfl
      have ho := hown'.out
      rw [List.take_of_length_le (by rw [hxl'.out]; exact Nat.le_refl _), ← hins] at ho
      have hil : (insOf c x).length = x.n := by rw [hins, List.length_map]; exact hxl'.out
      obtain ⟨Ai, ci, rfl, -, hri, -⟩ := own_rdC (cells := inCells) ho hil rfl (fun _ => rfl)
      have hri' := Lib.hid hri
      have KV := hKr
      have gg := lt_of_block hKr.out.head
      have ggt := lt_of_block hKr.out.tr
      have hn1 := hKr.out.n1
      have hgtw : K.gt < w.heap.size := h'.out.old (.inr (.inr (.inl rfl)))
      have r10 : ∀ w', Mod (fun b => b = K.gt) V w' → w'.cell? ⟨K.g, 10, none⟩ = some (.slice (some ⟨K.gt, 0, none⟩) m.nc m.nc) := fun w' M => (cellsAt ((M.block K.g gg hn1.1).trans hKr.out.head) 10)
      have r8 : ∀ w', Mod (fun b => b = K.gt) V w' → w'.cell? ⟨w.heap.size, 1, none⟩ = some (.int .i64 x.vt) := fun w' M => (cellsAt ((M.block w.heap.size (by omega) (by omega)).trans hB8'.out) 1)
      clear ho hins hil hri hown'
      go_upto_region 7 with fail
      refine wp_region_held_drew (S := fun w' => Mod (fun b => b = K.gt) V w') (by kernel_rfl) (Mod.refl _ V).drew (fun hHeld => ?_)
      refine wpAnyH_take (i := 0) (oi := _) (v := ?_) rfl (by kernel_rfl) (by kernel_rfl) (by kernel_rfl) (fun _ _ _ h => h) (Or.inl ⟨by rfl, ?_⟩) (by assumption) ?_
      rotate_left
      · intro w hSw
        (try dsimp only at hSw)
        go_simp
        try (with_reducible rfl)
      try simp only [Act.put, List.getElem_toArray, List.getElem_cons_zero, List.setIfInBounds_toArray, List.set_cons_zero, List.set_cons_succ]
      refine wpAnyH_take (i := 1) (oi := _) (v := ?_) rfl (by kernel_rfl) (by kernel_rfl) (by kernel_rfl) (fun _ _ _ h => h) (Or.inl ⟨by rfl, ?_⟩) (by assumption) ?_
      rotate_left
      · intro w hSw
        (try dsimp only at hSw)
        go_simp
        try (with_reducible rfl)
      try simp only [Act.put, List.getElem_toArray, List.getElem_cons_succ, List.getElem_cons_zero, List.setIfInBounds_toArray, List.set_cons_zero, List.set_cons_succ]
      refine wpAnyH_take (i := 2) (oi := _) (v := ?_) rfl (by kernel_rfl) (by kernel_rfl) (by kernel_rfl) (fun _ _ _ h => h) (Or.inl ⟨by rfl, ?_⟩) (by assumption) ?_
      rotate_left
      · intro w hSw
        (try dsimp only at hSw)
        go_simp
        try (with_reducible rfl)
      try simp only [Act.put, List.getElem_toArray, List.getElem_cons_succ, List.getElem_cons_zero, List.setIfInBounds_toArray, List.set_cons_zero, List.set_cons_succ]
      refine wpAnyH_take (i := 3) (oi := _) (v := ?_) rfl (by kernel_rfl) (by kernel_rfl) (by kernel_rfl) (fun _ _ _ h => h) (Or.inl ⟨by rfl, ?_⟩) (by assumption) ?_
      rotate_left
      · intro w hSw
        (try dsimp only at hSw)
        go_simp
        try (with_reducible rfl)
      try simp only [Act.put, List.getElem_toArray, List.getElem_cons_succ, List.getElem_cons_zero, List.setIfInBounds_toArray, List.set_cons_zero, List.set_cons_succ]
      refine wpAnyH_take (i := 4) (oi := _) (v := ?_) rfl (by kernel_rfl) (by kernel_rfl) (by kernel_rfl) (fun _ _ _ h => h) (Or.inl ⟨by rfl, ?_⟩) (by assumption) ?_
      rotate_left
      · intro w hSw
        (try dsimp only at hSw)
        go_simp
        try (with_reducible rfl)
      try simp only [Act.put, List.getElem_toArray, List.getElem_cons_succ, List.getElem_cons_zero, List.setIfInBounds_toArray, List.set_cons_zero, List.set_cons_succ]
      refine wpAnyH_take (i := 5) (oi := _) (v := ?_) rfl (by kernel_rfl) (by kernel_rfl) (by kernel_rfl) (fun _ _ _ h => h) (Or.inl ⟨by rfl, ?_⟩) (by assumption) ?_
      rotate_left
      · intro w hSw
        (try dsimp only at hSw)
        go_simp
        try (with_reducible rfl)
      try simp only [Act.put, List.getElem_toArray, List.getElem_cons_succ, List.getElem_cons_zero, List.setIfInBounds_toArray, List.set_cons_zero, List.set_cons_succ]
      refine wpAnyH_take (i := 6) (oi := _) (v := ?_) rfl (by kernel_rfl) (by kernel_rfl) (by kernel_rfl) (fun _ _ _ h => h) (Or.inl ⟨by rfl, ?_⟩) (by assumption) ?_
      rotate_left
      · intro w hSw
        (try dsimp only at hSw)
        go_simp
        try (with_reducible rfl)
      try simp only [Act.put, List.getElem_toArray, List.getElem_cons_succ, List.getElem_cons_zero, List.setIfInBounds_toArray, List.set_cons_zero, List.set_cons_succ]
      refine wpAnyH_take (i := 7) (oi := _) (v := ?_) rfl (by kernel_rfl) (by kernel_rfl) (by kernel_rfl) (fun _ _ _ h => h) (Or.inl ⟨by rfl, ?_⟩) (by assumption) ?_
      rotate_left
      · intro w hSw
        (try dsimp only at hSw)
        go_simp
        try (with_reducible rfl)
      try simp only [Act.put, List.getElem_toArray, List.getElem_cons_succ, List.getElem_cons_zero, List.setIfInBounds_toArray, List.set_cons_zero, List.set_cons_succ]
      refine wpAnyH_ready (rs := [8]) (by kernel_rfl) (by simp) ?_
      refine AllReadyH.cons rfl (fun Kz hKz => ?_) ?_
      rotate_left
      · exact AllReadyH.nil
      go_simp
      go_at_call 68
      refine (voteTrips_any x.vt Ai x.n ci (insOf c x) _ (hri'.out.ext (Ext.refl V).god) (by omega)).mono ?_
      rintro e w1 ⟨rfl, E1⟩
      have E1' : Ext V w1 := ((Ext.refl V).god).go E1
      have T1 := (E1'.block K.gt ggt).trans hKr.out.tr
      have y1 : w1.cell? ⟨K.gt, q, none⟩ = some (.bool (c.tr.getD q false)) := TrRow.cell T1 (by rw [h'.out.ltr]; exact hq)
      have z1 := frozenIn T1 q
      have gt1 := lt_of_block T1
      have hHeld : Mod (fun b => b = K.gt) V w1 := E1'.mod _
      try dsimp only
      refine hKz.out _ _ ?_ (fun hHeld => ?_)
      · first | assumption | (dsimp only; assumption)
      clear hKz Kz
      try simp only [Act.put, List.getElem_toArray, List.getElem_cons_succ, List.getElem_cons_zero, List.setIfInBounds_toArray, List.set_cons_zero, List.set_cons_succ]
      refine wpAnyH_take (i := 9) (oi := _) (v := ?_) rfl (by kernel_rfl) (by kernel_rfl) (by kernel_rfl) (fun _ _ _ h => h) (Or.inl ⟨by rfl, ?_⟩) (by assumption) ?_
      rotate_left
      · intro w hSw
        (try dsimp only at hSw)
        go_simp
        try (with_reducible rfl)
      try simp only [Act.put, List.getElem_toArray, List.getElem_cons_succ, List.getElem_cons_zero, List.setIfInBounds_toArray, List.set_cons_zero, List.set_cons_succ]
      refine wpAnyH_ready (rs := [10]) (by kernel_rfl) (by simp) ?_
      refine AllReadyH.cons rfl (fun Kz hKz => ?_) ?_
      rotate_left
      · exact AllReadyH.nil
      go_simp
      refine hKz.out _ _ ?_ (fun hHeld => ?_)
      · exact hHeld.setCell (p := ⟨K.gt, q, none⟩) (.inl rfl) _
      clear hKz Kz
      try simp only [Act.put, List.getElem_toArray, List.getElem_cons_succ, List.getElem_cons_zero, List.setIfInBounds_toArray, List.set_cons_zero, List.set_cons_succ]
      refine wpAnyH_done (by kernel_rfl) ?_ _
      have TN : TrRow (w1.setCell ⟨K.gt, q, none⟩ (.bool (voteB x.vt (insOf c x)))) K.gt (c.tr.set q (voteB x.vt (insOf c x))) := by
        have := sets_block T1 q (.bool (voteB x.vt (insOf c x)))
        unfold TrRow
        rw [this, List.map_set]
        simp
      have MN := hHeld
      have KN := hKr.out.turnTr TN (by rw [List.length_set]) MN
      have B8N := Lib.hid ((MN.block w.heap.size (by omega) (by omega)).trans hB8'.out)
      have NN : HasNt (w1.setCell ⟨K.gt, q, none⟩ (.bool (voteB x.vt (insOf c x)))) gn nb now v l := by
        have hnl := hn'.out.le
        have hg1 := hgn'.out.1 K.gt (.inr (.inr (.inl rfl)))
        have M9 : Mod (fun b => b = K.gt ∨ w.heap.size ≤ b) w (w1.setCell ⟨K.gt, q, none⟩ (.bool (voteB x.vt (insOf c x)))) := (hEw'.out.mod _).trans (MN.weak fun b hb => .inl hb)
        exact hn'.out.keepM M9 (fun b hb => by
          rcases hb with h1 | h1
          · subst h1
            exact ⟨by omega, fun e => by have := (hn'.out.own.lt _ e).1; have := hn'.out.lt; omega⟩
          · exact ⟨by have := lt_of_block hn'.out.head; omega, fun e => by have := (hn'.out.own.lt _ e).2; omega⟩)
      have EW9 : Mod (ScanB K m gn v) w (w1.setCell ⟨K.gt, q, none⟩ (.bool (voteB x.vt (insOf c x)))) := (hEw'.out.mod _).trans (MN.weak fun b hb => .inl (.inr (.inr (.inl hb))))
      have SZ9 : w.heap.size + 1 ≤ (w1.setCell ⟨K.gt, q, none⟩ (.bool (voteB x.vt (insOf c x)))).heap.size := by have := MN.size; omega
      clear hHeld r10 r8 y1 z1 T1 gt1 TN MN E1 E1' hKr hEw' hM' hB8' KV hri' ggt gg
      generalize w1.setCell ⟨K.gt, q, none⟩ (.bool (voteB x.vt (insOf c x))) = X at *
      have KN' := Lib.hid KN
      have NN' := Lib.hid NN
      have EW9' := Lib.hid EW9
      clear KN NN EW9
      go_upto_region 8 with fail
      have hdef : scanQ m now (c, l) q = if healthyC { c with tr := c.tr.set q (voteB x.vt (insOf c x)) } q now then ({ c with tr := c.tr.set q (voteB x.vt (insOf c x)) }, l) else foldN (efStep m q now) (if setOf c.ca q then ({ c with tr := c.tr.set q (voteB x.vt (insOf c x)) }, l) else ({ c with tr := c.tr.set q (voteB x.vt (insOf c x)), ca := tripL c.ca q now }, l ++ [(1, (q : Int), now)])) m.efs.length := by
        unfold scanQ
        rw [hca'.out]
      cases hh : healthyC { c with tr := c.tr.set q (voteB x.vt (insOf c x)) } q now
      · rw [hh, if_neg (by decide)] at hdef
        have gX := lt_of_block KN'.out.head
        have c11 : X.cell? ⟨K.g, 11, none⟩ = some (.pointer (some ⟨K.cg, 0, none⟩)) := KN'.out.cell 11
        have hcl : c.ca.g.length = m.nc := by rw [KN'.out.lca, List.length_map]; exact KN'.out.mx.ok.ca.len
        have hdef' := Lib.hid hdef
        clear hdef
        have hmutc : ∀ b, RwS K.cl K.cf K.cs b → K.mut m.np b := fun b hb => .inr (.inr (.inr (.inl (.inr hb))))
        have hmutc' := Lib.hid hmutc
        clear hmutc
        cases hsq : setOf c.ca q
        · go_upto_region 10 with (first | (go_at_call 39; refine (healthy_any _ _ _ _ _ _ _ KN'.out q hq now).mono ?_; rw [hh]; rintro e w' ⟨rfl, rfl⟩) | (go_at_call 69; refine (latchTrip_any _ _ _ _ _ _ _ KN'.out.ca q (by show q < c.ca.g.length; omega) now (by omega)).mono ?_; unfold TripPost; show ∀ e w', _ ∧ _ ∧ _ → _; simp only [hsq]; rintro e w3 ⟨rfl, hr3, hm3⟩))
          simp only [Bool.false_eq_true, if_false] at hr3
          have K3 := Lib.hid (KN'.out.turnCa (show N ≤ N + 1 by omega) hr3 rfl hm3)
          have N3 := Lib.hid (NN'.out.core KN'.out hgn'.out hm3 hmutc'.out)
          have M3 := Lib.hid (EW9'.out.trans (hm3.weak fun b hb => .inl (hmutc'.out b hb)))
          have s3 := hm3.size
          clear hr3 hm3
          obtain ⟨W3, hW3⟩ : ∃ W, W = w3 := ⟨_, rfl⟩
          subst hW3
          have hNe := N3.out.le
          have hNl := N3.out.lt
          have hNo : ∀ b, (v).ownBlock = some b → nb ≤ b ∧ b < W3.heap.size := fun b hb => N3.out.own.lt b hb
          have YE := (Ext.refl W3).goA (.cells #[.int .i64 q] 3)
          have YN := Lib.hid (N3.out.ext YE)
          have YK := Lib.hid (K3.out.ext YE)
          have YX : RdI (W3.alloc (.cells #[.int .i64 q] 3)) (W3.alloc (.cells #[.int .i64 q] 3)).heap.size .i64 (some ⟨W3.heap.size, 0, none⟩) 1 [(q : Int)] := by
            have := RdI.new (w := W3) (g := W3.heap.size) (e := 3) (k := .i64) (cs := #[.int .i64 q]) [(q : Int)] rfl rfl rfl
            simpa using this
          have YX := Lib.hid YX
          have hNo' := Lib.hid hNo
          clear hNo
          go_upto_region 11 with (go_at_call 28; refine (tell_any _ _ now _ l 1 _ _ _ [(q : Int)] _ YN.out YX.out (fun b o e hb => by cases e; rcases hb with h1 | h1; omega; have := (hNo'.out _ h1).2; omega) (by omega) (by omega)).mono ?_; rintro e w2 ⟨rfl, v9, hN9, hM9, hv9⟩)
          have K9 := Lib.hid (YK.out.tell YN.out hgn'.out hM9)
          have sz9 : W3.heap.size + 1 ≤ w2.heap.size := by have := hM9.size; simpa using this
          have M9 : Mod (ScanB K m gn v) w w2 := M3.out.step ((YE.mod _).trans hM9) (fun b hb => by
            rcases hb with h1 | h1
            · exact .inl (.inr (.inl h1))
            · rcases (fun b hb => Or.inl hb : ∀ b, v.ownBlock = some b → v.ownBlock = some b ∨ w.heap.size ≤ b) b h1 with h2 | h2
              · exact .inl (.inr (.inr h2))
              · exact .inr h2)
          have V9 : ∀ b, v9.ownBlock = some b → v.ownBlock = some b ∨ w.heap.size ≤ b := fun b hb => by
            rcases hv9 b hb with h1 | h1
            · exact (fun b hb => Or.inl hb : ∀ b, v.ownBlock = some b → v.ownBlock = some b ∨ w.heap.size ≤ b) b h1
            · right
              have hz9 := M3.out.size
              simp at h1
              omega
          have N9 := Lib.hid hN9
          have M9 := Lib.hid M9
          have V9 := Lib.hid V9
          clear hN9 hM9 hv9 YE
          obtain ⟨cc, ll, v1, hsc, hKc, hNc, hlc, hMc, hvc⟩ : ∃ cc ll v1, scanQ m now (c, l) q = foldN (efStep m q now) (cc, ll) m.efs.length ∧ Hid (HasK w2 base B (N + 1) K m cc) ∧ Hid (HasNt w2 gn nb now v1 ll) ∧ ll.length ≤ 900001 ∧ Hid (Mod (ScanB K m gn v) w w2) ∧ Hid (∀ b, v1.ownBlock = some b → v.ownBlock = some b ∨ w.heap.size ≤ b) :=
            ⟨_, _, v9, by rw [hdef'.out, hsq]; rfl, K9, N9, len_tell hl, M9, V9⟩
          clear K9 N9 M9 V9 hdef' K3 N3 M3 KN' NN' EW9'
          obtain ⟨Z, hZ⟩ : ∃ Z, Z = w2 := ⟨_, rfl⟩
          subst hZ
          have hsc' := Lib.hid hsc
          clear hsc
          have gcz := lt_of_block hKc.out.head
          have z8 : Z.cell? ⟨K.g, 8, none⟩ = some (.slice m.Ae m.ne m.ce) := hKc.out.cell 8
          go_upto_region 12 with fail
          go_loopw [83] (fun i wr => ∃ (k : Nat) (v2 : Value), k ≤ m.ne ∧ i = .int .i64 k ∧ HasK wr base B (N + 1 + k) K m (foldN (efStep m q now) (cc, ll) k).1 ∧ HasNt wr gn nb now v2 (foldN (efStep m q now) (cc, ll) k).2 ∧ (foldN (efStep m q now) (cc, ll) k).2.length ≤ 900001 + k ∧ Mod (ScanB K m gn v) w wr ∧ ∀ b, v2.ownBlock = some b → v.ownBlock = some b ∨ w.heap.size ≤ b) (fun i _ => m.ne - (intOf i).toNat)
          case atStart => exact ⟨0, v1, by omega, rfl, hKc.out, hNc.out, hlc, hMc.out, hvc.out⟩
          case round =>
            obtain ⟨k, v2, hk, rfl, hKk, hNk, hlk, hMk, hvk⟩ := hrel
            have hsucc := foldN_succ (efStep m q now) (cc, ll) k
            generalize hst : foldN (efStep m q now) (cc, ll) k = st at *
            obtain ⟨ck, lk⟩ := st
            dsimp only at hKk hNk hlk
            have hst' := Lib.hid hst
            have hsucc' := Lib.hid hsucc
            have hKk' := Lib.hid hKk
            have hNk' := Lib.hid hNk
            have hMk' := Lib.hid hMk
            have hvk' := Lib.hid hvk
            clear hst hsucc hMk hvk z8
            by_cases hlt : k < m.ne
            · have e6 : (k : Int) < (m.ne : Int) := by omega
              obtain ⟨y, hy⟩ := hKk.mx.ok.ef.get hlt
              obtain ⟨ge, oe, hAe, hge, hce⟩ := hKk.mx.ok.ef.at_ hy
              have hmem := List.mem_of_getElem? hy
              obtain ⟨hyr, hyn, hyc⟩ := hKk.mx.ok.efo y hmem
              obtain ⟨hy8, -⟩ := hre'.out y hmem
              have hyl := hyr.len
              have hefa := efAt_get hy
              have hBk := hKk.mxlt
              have y0 : wr.cell? ⟨ge, oe + k * 5, none⟩ = some (.string y.nm) := hce 0 (by decide)
              have y1 : wr.cell? ⟨ge, oe + k * 5 + 1, none⟩ = some (.int .i64 y.dv) := hce 1 (by decide)
              have y2 : wr.cell? ⟨ge, oe + k * 5 + 2, none⟩ = some (.int .i64 y.pl) := hce 2 (by decide)
              have y3 : wr.cell? ⟨ge, oe + k * 5 + 3, none⟩ = some (.int .i64 y.sf) := hce 3 (by decide)
              have y4 : wr.cell? ⟨ge, oe + k * 5 + 4, none⟩ = some (.slice y.A y.n y.c) := hce 4 (by decide)
              have hgew : ge < wr.heap.size := by omega
              have hefl : ck.ef.g.length = m.ne := by rw [hKk.lef, List.length_map]; exact hKk.mx.ok.ef.len
              have hefa' := Lib.hid hefa
              have hyr' := Lib.hid (hyr.more hBk)
              clear hce hmem hyr hyc hy hefa hKk hNk
              rw [hAe]
              go_upto_region 14 with fail
              have EU := (Ext.refl wr).goA (.cells #[.string y.nm, .int .i64 y.dv, .int .i64 y.pl, .int .i64 y.sf, .slice y.A y.n y.c] 59)
              have hUs : wr.heap.size < (wr.alloc (.cells #[.string y.nm, .int .i64 y.dv, .int .i64 y.pl, .int .i64 y.sf, .slice y.A y.n y.c] 59)).heap.size := by simp
              have u4 : (wr.alloc (.cells #[.string y.nm, .int .i64 y.dv, .int .i64 y.pl, .int .i64 y.sf, .slice y.A y.n y.c] 59)).cell? ⟨wr.heap.size, 4, none⟩ = some (.slice y.A y.n y.c) := cellsAt (heap_alloc_new wr _) 4
              generalize wr.alloc (.cells #[.string y.nm, .int .i64 y.dv, .int .i64 y.pl, .int .i64 y.sf, .slice y.A y.n y.c] 59) = U2 at *
              have KU := Lib.hid (hKk'.out.ext EU)
              have NU := Lib.hid (hNk'.out.ext EU)
              have MU := Lib.hid (hMk'.out.trans (EU.mod _))
              have hyU := Lib.hid (hyr'.out.ext EU)
              have d12 : U2.cell? ⟨K.g, 12, none⟩ = some (.pointer (some ⟨K.eg, 0, none⟩)) := KU.out.cell 12
              have gU := lt_of_block KU.out.head
              clear EU y0 y1 y2 y3 y4
              cases hct : y.ps.contains (q : Int)
              · go_wp2_with (go_at_call 70; refine (contains_any _ _ _ _ _ _ hyU.out (by omega)).mono ?_; rw [hct]; rintro e w' ⟨rfl, rfl⟩)
                have hstay : foldN (efStep m q now) (cc, ll) (k + 1) = (ck, lk) := by rw [hsucc'.out]; unfold efStep; rw [hefa'.out, hct, Bool.false_and]; rfl
                go_roundw
                case rel => exact ⟨k + 1, v2, by omega, by go_num, by rw [hstay]; exact KU.out.mono (by omega), by rw [hstay]; exact NU.out, by rw [hstay]; show lk.length ≤ _; omega, MU.out, hvk'.out⟩
                case measure => simp [intOf]; omega
              · cases hse : setOf ck.ef k
                · go_upto_region 15 with (first | (go_at_call 70; refine (contains_any _ _ _ _ _ _ hyU.out (by omega)).mono ?_; rw [hct]; rintro e w' ⟨rfl, rfl⟩) | (go_at_call 69; refine (latchTrip_any _ _ _ _ _ _ _ KU.out.ef k (by rw [hefl]; exact hlt) now (by omega)).mono ?_; unfold TripPost; rw [hse]; rintro e w3 ⟨rfl, hr3, hm3⟩))
                  simp only [Bool.false_eq_true, if_false] at hr3
                  have K3 := Lib.hid (KU.out.turnEf (show N + 1 + k ≤ N + 1 + k + 1 by omega) hr3 rfl hm3)
                  have hmut3 : ∀ b, RwS K.el K.ef K.es b → K.mut m.np b := fun b hb => .inr (.inr (.inr (.inr (.inl (.inr hb)))))
                  have N3 := Lib.hid (NU.out.core KU.out hgn'.out hm3 hmut3)
                  have M3 := Lib.hid (MU.out.trans (hm3.weak fun b hb => .inl (hmut3 b hb)))
                  have s3 := hm3.size
                  clear hr3 hm3
                  obtain ⟨W3, hW3⟩ : ∃ W, W = w3 := ⟨_, rfl⟩
                  subst hW3
                  have hNe := N3.out.le
                  have hNl := N3.out.lt
                  have hNo : ∀ b, (v2).ownBlock = some b → nb ≤ b ∧ b < W3.heap.size := fun b hb => N3.out.own.lt b hb
                  have YE := (Ext.refl W3).goA (.cells #[.int .i64 k] 3)
                  have YN := Lib.hid (N3.out.ext YE)
                  have YK := Lib.hid (K3.out.ext YE)
                  have YX : RdI (W3.alloc (.cells #[.int .i64 k] 3)) (W3.alloc (.cells #[.int .i64 k] 3)).heap.size .i64 (some ⟨W3.heap.size, 0, none⟩) 1 [(k : Int)] := by
                    have := RdI.new (w := W3) (g := W3.heap.size) (e := 3) (k := .i64) (cs := #[.int .i64 k]) [(k : Int)] rfl rfl rfl
                    simpa using this
                  have YX := Lib.hid YX
                  have hNo' := Lib.hid hNo
                  clear hNo
                  go_wp2_with (go_at_call 28; refine (tell_any _ _ now _ lk 2 _ _ _ [(k : Int)] _ YN.out YX.out (fun b o e hb => by cases e; rcases hb with h1 | h1; omega; have := (hNo'.out _ h1).2; omega) (by omega) (by omega)).mono ?_; rintro e w2 ⟨rfl, v9, hN9, hM9, hv9⟩)
                  have K9 := Lib.hid (YK.out.tell YN.out hgn'.out hM9)
                  have sz9 : W3.heap.size + 1 ≤ w2.heap.size := by have := hM9.size; simpa using this
                  have M9 : Mod (ScanB K m gn v) w w2 := M3.out.step ((YE.mod _).trans hM9) (fun b hb => by
                    rcases hb with h1 | h1
                    · exact .inl (.inr (.inl h1))
                    · rcases hvk'.out b h1 with h2 | h2
                      · exact .inl (.inr (.inr h2))
                      · exact .inr h2)
                  have V9 : ∀ b, v9.ownBlock = some b → v.ownBlock = some b ∨ w.heap.size ≤ b := fun b hb => by
                    rcases hv9 b hb with h1 | h1
                    · exact hvk'.out b h1
                    · right
                      have hz9 := M3.out.size
                      simp at h1
                      omega
                  have N9 := Lib.hid hN9
                  have M9 := Lib.hid M9
                  have V9 := Lib.hid V9
                  clear hN9 hM9 hv9 YE
                  have hgo : foldN (efStep m q now) (cc, ll) (k + 1) = ({ ck with ef := tripL ck.ef k now }, lk ++ [(2, (k : Int), now)]) := by rw [hsucc'.out]; unfold efStep; rw [hefa'.out, hct, hse]; rfl
                  go_roundw
                  case rel => exact ⟨k + 1, v9, by omega, by go_num, by rw [hgo]; exact K9.out, by rw [hgo]; exact N9.out, by rw [hgo]; exact len_tell hlk, M9.out, V9.out⟩
                  case measure => simp [intOf]; omega
                · go_wp2_with (first | (go_at_call 70; refine (contains_any _ _ _ _ _ _ hyU.out (by omega)).mono ?_; rw [hct]; rintro e w' ⟨rfl, rfl⟩) | (go_at_call 69; refine (latchTrip_any _ _ _ _ _ _ _ KU.out.ef k (by rw [hefl]; exact hlt) now (by omega)).mono ?_; unfold TripPost; rw [hse]; rintro e w3 ⟨rfl, hr3, hm3⟩))
                  simp only [if_true] at hr3
                  have K3 := KU.out.turnEf (show N + 1 + k ≤ N + 1 + k + 1 by omega) hr3 rfl hm3
                  have hmut3 : ∀ b, RwS K.el K.ef K.es b → K.mut m.np b := fun b hb => .inr (.inr (.inr (.inr (.inl (.inr hb)))))
                  have hstay : foldN (efStep m q now) (cc, ll) (k + 1) = (ck, lk) := by rw [hsucc'.out]; unfold efStep; rw [hefa'.out, hct, hse]; rfl
                  go_roundw
                  case rel => exact ⟨k + 1, v2, by omega, by go_num, by rw [hstay]; exact K3, by rw [hstay]; exact NU.out.core KU.out hgn'.out hm3 hmut3, by rw [hstay]; show lk.length ≤ _; omega, MU.out.trans (hm3.weak fun b hb => .inl (hmut3 b hb)), hvk'.out⟩
                  case measure => simp [intOf]; omega
            · obtain rfl : k = m.ne := by omega
              have hml : m.efs.length = m.ne := h'.out.mx.ok.ef.len
              go_wp2_with fail
              refine bodyPost_end (results_none rfl _ _ _) rfl ?_
              have hfin : scanQ m now (c, l) q = (ck, lk) := by rw [hsc'.out, hml]; exact hst'.out
              exact ⟨rfl, v2, by rw [hfin]; exact hKk'.out.mono (by omega), by rw [hfin]; exact hNk'.out, hMk'.out, hvk'.out⟩
        · go_upto_region 11 with (first | (go_at_call 39; refine (healthy_any _ _ _ _ _ _ _ KN'.out q hq now).mono ?_; rw [hh]; rintro e w' ⟨rfl, rfl⟩) | (go_at_call 69; refine (latchTrip_any _ _ _ _ _ _ _ KN'.out.ca q (by show q < c.ca.g.length; omega) now (by omega)).mono ?_; unfold TripPost; show ∀ e w', _ ∧ _ ∧ _ → _; simp only [hsq]; rintro e w3 ⟨rfl, hr3, hm3⟩))
          simp only [if_true] at hr3
          have K3 := KN'.out.turnCa (show N ≤ N + 1 by omega) hr3 rfl hm3
          have N3 := NN'.out.core KN'.out hgn'.out hm3 hmutc'.out
          have M3 := EW9'.out.trans (hm3.weak fun b hb => .inl (hmutc'.out b hb))
          obtain ⟨cc, ll, v1, hsc, hKc, hNc, hlc, hMc, hvc⟩ : ∃ cc ll v1, scanQ m now (c, l) q = foldN (efStep m q now) (cc, ll) m.efs.length ∧ Hid (HasK w3 base B (N + 1) K m cc) ∧ Hid (HasNt w3 gn nb now v1 ll) ∧ ll.length ≤ 900001 ∧ Hid (Mod (ScanB K m gn v) w w3) ∧ Hid (∀ b, v1.ownBlock = some b → v.ownBlock = some b ∨ w.heap.size ≤ b) :=
            ⟨_, _, v, by rw [hdef'.out, hsq]; rfl, Lib.hid K3, Lib.hid N3, by omega, Lib.hid M3, Lib.hid (fun b hb => .inl hb)⟩
          clear hr3 hm3 hdef' K3 N3 M3 KN' NN' EW9'
          obtain ⟨Z, hZ⟩ : ∃ Z, Z = w3 := ⟨_, rfl⟩
          subst hZ
          have hsc' := Lib.hid hsc
          clear hsc
          have gcz := lt_of_block hKc.out.head
          have z8 : Z.cell? ⟨K.g, 8, none⟩ = some (.slice m.Ae m.ne m.ce) := hKc.out.cell 8
          go_upto_region 12 with fail
          go_loopw [83] (fun i wr => ∃ (k : Nat) (v2 : Value), k ≤ m.ne ∧ i = .int .i64 k ∧ HasK wr base B (N + 1 + k) K m (foldN (efStep m q now) (cc, ll) k).1 ∧ HasNt wr gn nb now v2 (foldN (efStep m q now) (cc, ll) k).2 ∧ (foldN (efStep m q now) (cc, ll) k).2.length ≤ 900001 + k ∧ Mod (ScanB K m gn v) w wr ∧ ∀ b, v2.ownBlock = some b → v.ownBlock = some b ∨ w.heap.size ≤ b) (fun i _ => m.ne - (intOf i).toNat)
          case atStart => exact ⟨0, v1, by omega, rfl, hKc.out, hNc.out, hlc, hMc.out, hvc.out⟩
          case round =>
            obtain ⟨k, v2, hk, rfl, hKk, hNk, hlk, hMk, hvk⟩ := hrel
            have hsucc := foldN_succ (efStep m q now) (cc, ll) k
            generalize hst : foldN (efStep m q now) (cc, ll) k = st at *
            obtain ⟨ck, lk⟩ := st
            dsimp only at hKk hNk hlk
            have hst' := Lib.hid hst
            have hsucc' := Lib.hid hsucc
            have hKk' := Lib.hid hKk
            have hNk' := Lib.hid hNk
            have hMk' := Lib.hid hMk
            have hvk' := Lib.hid hvk
            clear hst hsucc hMk hvk z8
            by_cases hlt : k < m.ne
            · have e6 : (k : Int) < (m.ne : Int) := by omega
              obtain ⟨y, hy⟩ := hKk.mx.ok.ef.get hlt
              obtain ⟨ge, oe, hAe, hge, hce⟩ := hKk.mx.ok.ef.at_ hy
              have hmem := List.mem_of_getElem? hy
              obtain ⟨hyr, hyn, hyc⟩ := hKk.mx.ok.efo y hmem
              obtain ⟨hy8, -⟩ := hre'.out y hmem
              have hyl := hyr.len
              have hefa := efAt_get hy
              have hBk := hKk.mxlt
              have y0 : wr.cell? ⟨ge, oe + k * 5, none⟩ = some (.string y.nm) := hce 0 (by decide)
              have y1 : wr.cell? ⟨ge, oe + k * 5 + 1, none⟩ = some (.int .i64 y.dv) := hce 1 (by decide)
              have y2 : wr.cell? ⟨ge, oe + k * 5 + 2, none⟩ = some (.int .i64 y.pl) := hce 2 (by decide)
              have y3 : wr.cell? ⟨ge, oe + k * 5 + 3, none⟩ = some (.int .i64 y.sf) := hce 3 (by decide)
              have y4 : wr.cell? ⟨ge, oe + k * 5 + 4, none⟩ = some (.slice y.A y.n y.c) := hce 4 (by decide)
              have hgew : ge < wr.heap.size := by omega
              have hefl : ck.ef.g.length = m.ne := by rw [hKk.lef, List.length_map]; exact hKk.mx.ok.ef.len
              have hefa' := Lib.hid hefa
              have hyr' := Lib.hid (hyr.more hBk)
              clear hce hmem hyr hyc hy hefa hKk hNk
              rw [hAe]
              go_upto_region 14 with fail
              have EU := (Ext.refl wr).goA (.cells #[.string y.nm, .int .i64 y.dv, .int .i64 y.pl, .int .i64 y.sf, .slice y.A y.n y.c] 59)
              have hUs : wr.heap.size < (wr.alloc (.cells #[.string y.nm, .int .i64 y.dv, .int .i64 y.pl, .int .i64 y.sf, .slice y.A y.n y.c] 59)).heap.size := by simp
              have u4 : (wr.alloc (.cells #[.string y.nm, .int .i64 y.dv, .int .i64 y.pl, .int .i64 y.sf, .slice y.A y.n y.c] 59)).cell? ⟨wr.heap.size, 4, none⟩ = some (.slice y.A y.n y.c) := cellsAt (heap_alloc_new wr _) 4
              generalize wr.alloc (.cells #[.string y.nm, .int .i64 y.dv, .int .i64 y.pl, .int .i64 y.sf, .slice y.A y.n y.c] 59) = U2 at *
              have KU := Lib.hid (hKk'.out.ext EU)
              have NU := Lib.hid (hNk'.out.ext EU)
              have MU := Lib.hid (hMk'.out.trans (EU.mod _))
              have hyU := Lib.hid (hyr'.out.ext EU)
              have d12 : U2.cell? ⟨K.g, 12, none⟩ = some (.pointer (some ⟨K.eg, 0, none⟩)) := KU.out.cell 12
              have gU := lt_of_block KU.out.head
              clear EU y0 y1 y2 y3 y4
              cases hct : y.ps.contains (q : Int)
              · go_wp2_with (go_at_call 70; refine (contains_any _ _ _ _ _ _ hyU.out (by omega)).mono ?_; rw [hct]; rintro e w' ⟨rfl, rfl⟩)
                have hstay : foldN (efStep m q now) (cc, ll) (k + 1) = (ck, lk) := by rw [hsucc'.out]; unfold efStep; rw [hefa'.out, hct, Bool.false_and]; rfl
                go_roundw
                case rel => exact ⟨k + 1, v2, by omega, by go_num, by rw [hstay]; exact KU.out.mono (by omega), by rw [hstay]; exact NU.out, by rw [hstay]; show lk.length ≤ _; omega, MU.out, hvk'.out⟩
                case measure => simp [intOf]; omega
              · cases hse : setOf ck.ef k
                · go_upto_region 15 with (first | (go_at_call 70; refine (contains_any _ _ _ _ _ _ hyU.out (by omega)).mono ?_; rw [hct]; rintro e w' ⟨rfl, rfl⟩) | (go_at_call 69; refine (latchTrip_any _ _ _ _ _ _ _ KU.out.ef k (by rw [hefl]; exact hlt) now (by omega)).mono ?_; unfold TripPost; rw [hse]; rintro e w3 ⟨rfl, hr3, hm3⟩))
                  simp only [Bool.false_eq_true, if_false] at hr3
                  have K3 := Lib.hid (KU.out.turnEf (show N + 1 + k ≤ N + 1 + k + 1 by omega) hr3 rfl hm3)
                  have hmut3 : ∀ b, RwS K.el K.ef K.es b → K.mut m.np b := fun b hb => .inr (.inr (.inr (.inr (.inl (.inr hb)))))
                  have N3 := Lib.hid (NU.out.core KU.out hgn'.out hm3 hmut3)
                  have M3 := Lib.hid (MU.out.trans (hm3.weak fun b hb => .inl (hmut3 b hb)))
                  have s3 := hm3.size
                  clear hr3 hm3
                  obtain ⟨W3, hW3⟩ : ∃ W, W = w3 := ⟨_, rfl⟩
                  subst hW3
                  have hNe := N3.out.le
                  have hNl := N3.out.lt
                  have hNo : ∀ b, (v2).ownBlock = some b → nb ≤ b ∧ b < W3.heap.size := fun b hb => N3.out.own.lt b hb
                  have YE := (Ext.refl W3).goA (.cells #[.int .i64 k] 3)
                  have YN := Lib.hid (N3.out.ext YE)
                  have YK := Lib.hid (K3.out.ext YE)
                  have YX : RdI (W3.alloc (.cells #[.int .i64 k] 3)) (W3.alloc (.cells #[.int .i64 k] 3)).heap.size .i64 (some ⟨W3.heap.size, 0, none⟩) 1 [(k : Int)] := by
                    have := RdI.new (w := W3) (g := W3.heap.size) (e := 3) (k := .i64) (cs := #[.int .i64 k]) [(k : Int)] rfl rfl rfl
                    simpa using this
                  have YX := Lib.hid YX
                  have hNo' := Lib.hid hNo
                  clear hNo
                  go_wp2_with (go_at_call 28; refine (tell_any _ _ now _ lk 2 _ _ _ [(k : Int)] _ YN.out YX.out (fun b o e hb => by cases e; rcases hb with h1 | h1; omega; have := (hNo'.out _ h1).2; omega) (by omega) (by omega)).mono ?_; rintro e w2 ⟨rfl, v9, hN9, hM9, hv9⟩)
                  have K9 := Lib.hid (YK.out.tell YN.out hgn'.out hM9)
                  have sz9 : W3.heap.size + 1 ≤ w2.heap.size := by have := hM9.size; simpa using this
                  have M9 : Mod (ScanB K m gn v) w w2 := M3.out.step ((YE.mod _).trans hM9) (fun b hb => by
                    rcases hb with h1 | h1
                    · exact .inl (.inr (.inl h1))
                    · rcases hvk'.out b h1 with h2 | h2
                      · exact .inl (.inr (.inr h2))
                      · exact .inr h2)
                  have V9 : ∀ b, v9.ownBlock = some b → v.ownBlock = some b ∨ w.heap.size ≤ b := fun b hb => by
                    rcases hv9 b hb with h1 | h1
                    · exact hvk'.out b h1
                    · right
                      have hz9 := M3.out.size
                      simp at h1
                      omega
                  have N9 := Lib.hid hN9
                  have M9 := Lib.hid M9
                  have V9 := Lib.hid V9
                  clear hN9 hM9 hv9 YE
                  have hgo : foldN (efStep m q now) (cc, ll) (k + 1) = ({ ck with ef := tripL ck.ef k now }, lk ++ [(2, (k : Int), now)]) := by rw [hsucc'.out]; unfold efStep; rw [hefa'.out, hct, hse]; rfl
                  go_roundw
                  case rel => exact ⟨k + 1, v9, by omega, by go_num, by rw [hgo]; exact K9.out, by rw [hgo]; exact N9.out, by rw [hgo]; exact len_tell hlk, M9.out, V9.out⟩
                  case measure => simp [intOf]; omega
                · go_wp2_with (first | (go_at_call 70; refine (contains_any _ _ _ _ _ _ hyU.out (by omega)).mono ?_; rw [hct]; rintro e w' ⟨rfl, rfl⟩) | (go_at_call 69; refine (latchTrip_any _ _ _ _ _ _ _ KU.out.ef k (by rw [hefl]; exact hlt) now (by omega)).mono ?_; unfold TripPost; rw [hse]; rintro e w3 ⟨rfl, hr3, hm3⟩))
                  simp only [if_true] at hr3
                  have K3 := KU.out.turnEf (show N + 1 + k ≤ N + 1 + k + 1 by omega) hr3 rfl hm3
                  have hmut3 : ∀ b, RwS K.el K.ef K.es b → K.mut m.np b := fun b hb => .inr (.inr (.inr (.inr (.inl (.inr hb)))))
                  have hstay : foldN (efStep m q now) (cc, ll) (k + 1) = (ck, lk) := by rw [hsucc'.out]; unfold efStep; rw [hefa'.out, hct, hse]; rfl
                  go_roundw
                  case rel => exact ⟨k + 1, v2, by omega, by go_num, by rw [hstay]; exact K3, by rw [hstay]; exact NU.out.core KU.out hgn'.out hm3 hmut3, by rw [hstay]; show lk.length ≤ _; omega, MU.out.trans (hm3.weak fun b hb => .inl (hmut3 b hb)), hvk'.out⟩
                  case measure => simp [intOf]; omega
            · obtain rfl : k = m.ne := by omega
              have hml : m.efs.length = m.ne := h'.out.mx.ok.ef.len
              go_wp2_with fail
              refine bodyPost_end (results_none rfl _ _ _) rfl ?_
              have hfin : scanQ m now (c, l) q = (ck, lk) := by rw [hsc'.out, hml]; exact hst'.out
              exact ⟨rfl, v2, by rw [hfin]; exact hKk'.out.mono (by omega), by rw [hfin]; exact hNk'.out, hMk'.out, hvk'.out⟩
      · rw [hh, if_pos rfl] at hdef
        have hdef' := Lib.hid hdef
        clear hdef
        go_wp2_with (go_at_call 39; refine (healthy_any _ _ _ _ _ _ _ KN'.out q hq now).mono ?_; rw [hh]; rintro e w' ⟨rfl, rfl⟩)
        refine bodyPost_ret (results_none rfl _ _ _) rfl ?_
        exact ⟨rfl, v, by rw [hdef'.out]; exact KN'.out.mono (by omega), by rw [hdef'.out]; exact NN'.out, EW9'.out, fun b hb => .inl hb⟩
end Go.Proofs.YtgajbgdkgelkgaaGreat
