/- Layer 24, the walks: New, of any devices. -/
import Derived.Test.YtgagpalffdgjnaaG63
import Derived.Test.YtgagpalffdgjnaaG61
namespace Go.Proofs.Ytgagpalffdgjnaa
open Go.RowKit

theorem NewPart.junk {W W' : World} {f m k : Nat} {t : Nat → Nat} (h : NewPart W f m k t) (hk : k < 4) {a0 a1 a2 a3 a4 : Value}
    (hW : W' = ((((W.setCell ⟨f, 2 + 5 * k, none⟩ a0).setCell ⟨f, 2 + 5 * k + 1, none⟩ a1).setCell ⟨f, 2 + 5 * k + 2, none⟩ a2).setCell ⟨f, 2 + 5 * k + 3, none⟩ a3).setCell ⟨f, 2 + 5 * k + 4, none⟩ a4) : NewPart W' f m k t := by
  obtain ⟨cs, e, hs⟩ := h.head
  obtain ⟨⟨cs', e', hs'⟩, _, b, mm⟩ := five_put e (by omega) _ _ _ _ _ hW
  have isF : Is W f 129 := ⟨_, _, e⟩
  refine ⟨⟨cs', e', hs'.trans hs⟩, (b _ (by omega)).trans h.c0, (b _ (by omega)).trans h.c1, fun j hj => ?_, fun j hj => ?_, h.mp.keep (mm.block _ h.mp.lt (fun e2 => ?_))⟩
  · obtain ⟨a0, a1, a2, a3, a4⟩ := h.wi j hj
    exact ⟨(b _ (by omega)).trans a0, (b _ (by omega)).trans a1, (b _ (by omega)).trans a2, (b _ (by omega)).trans a3, (b _ (by omega)).trans a4⟩
  · have ht := h.tj j hj
    exact (mm.block _ (lt_of_block ht) (fun e2 => Is.ne ⟨_, _, ht⟩ isF (by decide) e2)).trans ht
  · obtain ⟨es, ck, h1⟩ := h.mp.block
    rw [e2, e] at h1
    simp at h1
theorem NewPart.slots {W : World} {f m k j : Nat} {t : Nat → Nat} (h : NewPart W f m k t) (hj : j < 4) :
    (∃ x, W.cell? ⟨f, 2 + j * 5, none⟩ = some x) ∧ (∃ x, W.cell? ⟨f, 2 + j * 5 + 1, none⟩ = some x) ∧ (∃ x, W.cell? ⟨f, 2 + j * 5 + 2, none⟩ = some x) ∧ (∃ x, W.cell? ⟨f, 2 + j * 5 + 3, none⟩ = some x) ∧ (∃ x, W.cell? ⟨f, 2 + j * 5 + 4, none⟩ = some x) ∧ ∀ o, W.frozen? ⟨f, o, none⟩ = false := by
  obtain ⟨cs, e, hs⟩ := h.head
  have hc : ∀ o, o < 22 → ∃ x, W.cell? ⟨f, o, none⟩ = some x := fun o ho => by
    rw [cellsAt e]
    exact ⟨_, Array.getElem?_eq_getElem (by omega)⟩
  exact ⟨hc _ (by omega), hc _ (by omega), hc _ (by omega), hc _ (by omega), hc _ (by omega), fun o => frozen_block e o⟩
/-- A new field. -/
def newF : Fp := ⟨fun _ => newL 256 256 0 0, fun _ => ⟨[], []⟩⟩
def newM (m : Nat) (t : Nat → Nat) : Fdm := ⟨.slice none 0 0, fun _ => 0, fun _ _ => 0, m, t, fun _ => .slice none 0 0, fun _ => .slice none 0 0, fun _ => []⟩
theorem NewPart.whole {W : World} {f m : Nat} {t : Nat → Nat} (h : NewPart W f m 4 t) : FdM W f [] newF (newM m t) := by
  refine ⟨let ⟨cs, e, _⟩ := h.head; ⟨cs, e⟩, h.c0, h.c1, fun j hj => h.wi j hj, RowAt.nil _ _ _, fun i hi => absurd hi (by simp), fun i j _ hj => absurd hj (by simp), ?_, fun j hj => h.tj j hj, fun j _ => RowAt.nil _ _ _, fun j _ => RowAt.nil _ _ _, fun j _ => rfl, fun j _ r hr => by simp [newM] at hr, fun i j _ _ _ b hb => by simp [newM, Value.ownBlock] at hb, fun i j _ _ _ b hb => by simp [newM, Value.ownBlock] at hb⟩
  exact h.mp
theorem devAt_more (dv : List (Int × Int)) (x : Int × Int) (l u : Int) : devAt (dv ++ [x]) l u = match devAt dv l u with | some i => some i | none => if l = x.1 ∧ u = x.2 then some dv.length else none := by
  unfold devAt
  rw [List.findIdx?_append]
  cases h : dv.findIdx? (fun p => p.1 == l && p.2 == u) with
  | some i => simp
  | none =>
    simp only [Option.none_or, List.findIdx?_singleton]
    by_cases e : l = x.1 ∧ u = x.2
    · rw [if_pos e, if_pos (by simp [e.1, e.2])]; simp
    · rw [if_neg e, if_neg (by simp; intro h1 h2; exact e ⟨h1.symm, h2.symm⟩)]; simp
theorem slot_more (dv : List (Int × Int)) (x : Int × Int) (g : Nat → Nat) (gn : Nat) (l u : Int) :
    slotOf (dv ++ [x]) (upf g dv.length gn) l u = match devAt dv l u with | some i => g i + 1 | none => if l = x.1 ∧ u = x.2 then gn + 1 else 0 := by
  unfold slotOf
  rw [devAt_more]
  cases h : devAt dv l u with
  | some i =>
    have := devAt_lt h
    simp only
    rw [upf_other _ _ (by omega)]
  | none =>
    simp only
    by_cases e : l = x.1 ∧ u = x.2
    · rw [if_pos e, if_pos e]; simp only; rw [upf_same]
    · rw [if_neg e, if_neg e]
theorem slot_known {dv : List (Int × Int)} {x : Int × Int} {g : Nat → Nat} {gn : Nat} (h : slotOf dv g x.1 x.2 ≠ 0) : slotOf (dv ++ [x]) (upf g dv.length gn) = slotOf dv g := by
  funext l u
  rw [slot_more]
  unfold slotOf
  cases hd : devAt dv l u with
  | some i => rfl
  | none =>
    simp only
    rw [if_neg]
    rintro ⟨rfl, rfl⟩
    unfold slotOf at h
    rw [hd] at h
    exact h rfl
theorem slot_new {dv : List (Int × Int)} {x : Int × Int} {g : Nat → Nat} {gn : Nat} (h : slotOf dv g x.1 x.2 = 0) : slotOf (dv ++ [x]) (upf g dv.length gn) = wupd (slotOf dv g) x.1 x.2 (gn + 1) := by
  funext l u
  rw [slot_more]
  have hw : wupd (slotOf dv g) x.1 x.2 (gn + 1) l u = if l = x.1 ∧ u = x.2 then gn + 1 else slotOf dv g l u := rfl
  rw [hw]
  by_cases e : l = x.1 ∧ u = x.2
  · rw [if_pos e]
    obtain ⟨rfl, rfl⟩ := e
    unfold slotOf at h
    cases hd : devAt dv x.1 x.2 with
    | some i => rw [hd] at h; simp at h
    | none => simp
  · unfold slotOf
    cases hd : devAt dv l u with
    | some i => simp only; rw [if_neg e]
    | none => simp only [if_neg e]
theorem ptrs_more (g : Nat → Nat) (n gn : Nat) : ptrs (upf g n gn) (n + 1) = ptrs g n ++ [.pointer (some ⟨gn, 0, none⟩)] := by
  unfold ptrs
  rw [List.range_succ, List.map_append, List.map_singleton, upf_same]
  congr 1
  apply List.map_congr_left
  intro i hi
  rw [upf_other _ _ (by have := List.mem_range.1 hi; omega)]
/-- One device more. -/
theorem FdM.grow {W W' : World} {f : Nat} {dv : List (Int × Int)} {M : Fdm} (h : FdM W f dv newF M) (hrs : ∀ j, j < 4 → M.rs j = []) (hnf : ∀ j, j < 4 → M.fv j = .slice none 0 0 ∧ M.wv j = .slice none 0 0) {l u : Int} {gn : Nat} {Gn : Nat → Nat} {v : Value}
    (m : Mod (fun b => b = f ∨ M.bv.ownBlock = some b ∨ b = M.m) W W') (hh : ∃ cs, W'.heap[f]? = some (.cells cs 129 (0, 0))) (hc : ∀ o, o ≠ 0 → W'.cell? ⟨f, o, none⟩ = W.cell? ⟨f, o, none⟩) (h0 : W'.cell? ⟨f, 0, none⟩ = some v)
    (hv : RowAt W' 131 1 v (dv.length + 1) (ptrs M.g dv.length ++ [.pointer (some ⟨gn, 0, none⟩)])) (hb : Bk W' gn (newL 256 256 0 0) Gn) (hg : W.heap.size ≤ gn) (hm : MapW W' M.m (dv.length + 1) (slotOf (dv ++ [(l, u)]) (upf M.g dv.length gn))) :
    FdM W' f (dv ++ [(l, u)]) newF { M with bv := v, g := upf M.g dv.length gn, G := upf M.G dv.length Gn } := by
  have hlen : (dv ++ [(l, u)]).length = dv.length + 1 := by simp
  have no : ∀ {b : Nat} {t : TypeId}, Is W b t → t ≠ 129 → t ≠ 131 → W'.heap[b]? = W.heap[b]? := fun {b t} hb h1 h2 => m.block b hb.lt (by
    rintro (rfl | h' | h')
    · exact (hb.ne h.isF h1) rfl
    · exact (hb.ne (h.isB h') h2) rfl
    · exact h.notMap hb h')
  refine ⟨hh, h0, (hc 1 (by omega)).trans h.c1, fun j hj => ?_, ?_, fun i hi => ?_, fun i j hij hj => ?_, ?_, fun j hj => (no (h.isT hj) (by decide) (by decide)).trans (h.tj j hj), fun j hj => ?_, fun j hj => ?_, h.wp, fun j hj r hr => ?_, h.fx, h.wx⟩
  · obtain ⟨a0, a1, a2, a3, a4⟩ := h.wi j hj
    exact ⟨(hc _ (by omega)).trans a0, (hc _ (by omega)).trans a1, (hc _ (by omega)).trans a2, (hc _ (by omega)).trans a3, (hc _ (by omega)).trans a4⟩
  · rw [hlen, ptrs_more]; exact hv
  · rw [hlen] at hi
    show Bk W' (upf M.g dv.length gn i) _ (upf M.G dv.length Gn i)
    by_cases e : i = dv.length
    · subst e; rw [upf_same, upf_same]; exact hb
    · rw [upf_other _ _ e, upf_other _ _ e]
      have hi' : i < dv.length := by omega
      refine (h.bk i hi').keep ?_
      rintro b (rfl | ⟨k, hk, rfl⟩)
      · exact no (h.isg hi') (by decide) (by decide)
      · exact no (h.isG hi' hk) (by decide) (by decide)
  · rw [hlen] at hj
    show upf M.G dv.length Gn i 3 < upf M.g dv.length gn j
    rw [upf_other _ _ (show i ≠ dv.length by omega)]
    by_cases e : j = dv.length
    · subst e; rw [upf_same]
      have := (h.isG (show i < dv.length by omega) (show 3 < 4 by omega)).lt
      omega
    · rw [upf_other _ _ e]; exact h.ap i j hij (by omega)
  · rw [hlen]; exact hm
  · refine (h.fa j hj).keep fun b hb => ?_
    rw [(hnf j hj).1] at hb; simp [Value.ownBlock] at hb
  · refine (h.wa j hj).keep fun b hb => ?_
    rw [(hnf j hj).2] at hb; simp [Value.ownBlock] at hb
  · replace hr : r ∈ M.rs j := hr
    rw [hrs j hj] at hr; simp at hr
theorem Fdm.U_grow {M : Fdm} {f nd B gn : Nat} {Gn : Nat → Nat} {v : Value} (hU : ∀ b, M.U f nd b → B ≤ b) (hrs : ∀ j, j < 4 → M.rs j = []) (hfw : ∀ j, j < 4 → M.fv j = .slice none 0 0 ∧ M.wv j = .slice none 0 0) (hbv : ∀ b, v.ownBlock = some b → B ≤ b) (hg : B ≤ gn) (hG : ∀ k, k < 4 → B ≤ Gn k) :
    ∀ b, Fdm.U { M with bv := v, g := upf M.g nd gn, G := upf M.G nd Gn } f (nd + 1) b → B ≤ b := fun b hb => by
  rcases hb with (rfl | ⟨i, hi, k, hk, e⟩ | ⟨j, hj, hb | hb⟩) | rfl | hb | ⟨i, hi, e⟩ | ⟨j, hj, rfl | ⟨r, hr, _⟩⟩
  · exact hU _ (.inl (.inl rfl))
  · replace e : b = upf M.G nd Gn i k := e
    by_cases h : i = nd
    · subst h; rw [upf_same] at e; subst e; exact hG k hk
    · rw [upf_other _ _ h] at e
      exact hU b (.inl (.inr (.inl ⟨i, by omega, k, hk, e⟩)))
  · replace hb : (M.fv j).ownBlock = some b := hb
    rw [(hfw j hj).1] at hb; simp [Value.ownBlock] at hb
  · replace hb : (M.wv j).ownBlock = some b := hb
    rw [(hfw j hj).2] at hb; simp [Value.ownBlock] at hb
  · exact hU _ (.inr (.inl rfl))
  · exact hbv b hb
  · replace e : b = upf M.g nd gn i := e
    by_cases h : i = nd
    · subst h; rw [upf_same] at e; subst e; exact hg
    · rw [upf_other _ _ h] at e
      exact hU b (.inr (.inr (.inr (.inl ⟨i, by omega, e⟩))))
  · exact hU _ (.inr (.inr (.inr (.inr ⟨j, hj, .inl rfl⟩))))
  · replace hr : r ∈ M.rs j := hr
    rw [hrs j hj] at hr; simp at hr
/-- Devices that are read: a line and a unit each. -/
def RdDv (w : World) (A : Option Addr) (n : Nat) (dev : List (Int × Int)) : Prop :=
  dev.length = n ∧ ∀ k (hk : k < dev.length), ∃ b o s, A = some ⟨b, o, none⟩ ∧ b < w.heap.size ∧ w.cell? ⟨b, o + k * 3, none⟩ = some (.string s) ∧ w.cell? ⟨b, o + k * 3 + 1, none⟩ = some (.int .i64 dev[k].1) ∧ w.cell? ⟨b, o + k * 3 + 2, none⟩ = some (.int .i64 dev[k].2) ∧ (Lit.int .i64 dev[k].1).wf = true ∧ (Lit.int .i64 dev[k].2).wf = true
theorem info_bankp : ∃ i, Try.prog.info? 131 = some i ∧ i.zero = some (.pointer none) ∧ i.size = 1 ∧ i.bytes = 8 := by
  have h : (Try.prog.info? 131).map (fun i => (i.zero, i.size, i.bytes)) = some (some (.pointer none), 1, 8) := by kernel_rfl
  obtain ⟨i, hi, hb⟩ := Option.map_eq_some_iff.1 h
  simp only [Prod.mk.injEq] at hb
  exact ⟨i, hi, hb.1, hb.2.1, hb.2.2⟩
section
variable (A : Option Addr) (n c : Nat) (dev : List (Int × Int)) (w : World)
set_option maxRecDepth 100000 in
set_option maxHeartbeats 3200000 in
theorem fieldNew_any (hx : RdDv w A n dev) (hn : n ≤ 1000) (hcm : n ≤ c) :
    Calls Try.prog 23 #[.slice A n c] w fun e w' => ∃ f M, e = .returned (.pointer (some ⟨f, 0, none⟩)) ∧ FdM w' f dev newF M ∧ Ext w w' ∧ ∀ b, M.U f dev.length b → w.heap.size ≤ b := by
  have hmm := @run_makeMap Try.prog
  have hx' := Lib.hid hx
  clear hx
  go_enter Try.func23, Try.ntmps23
  go_wp2_with fail
  go_loopw [14] (fun i wr => ∃ k : Nat, k ≤ 4 ∧ i = .int .i64 k ∧ ∃ t, NewPart wr (w.heap.size + 1) w.heap.size k t ∧ (∀ j, j < k → w.heap.size ≤ t j) ∧ Ext w wr) (fun i _ => 4 - (intOf i).toNat)
  case atStart =>
    have h1 := last_laid w (.map #[] 0) (.cells #[.slice none 0 0, .map (some w.heap.size), .nilFunc, .nilFunc, .nilFunc, .slice none 0 0, .slice none 0 0, .nilFunc, .nilFunc, .nilFunc, .slice none 0 0, .slice none 0 0, .nilFunc, .nilFunc, .nilFunc, .slice none 0 0, .slice none 0 0, .nilFunc, .nilFunc, .nilFunc, .slice none 0 0, .slice none 0 0] 129)
    exact ⟨0, by omega, rfl, fun _ => 0, ⟨⟨_, h1, rfl⟩, cellsAt h1 0, cellsAt h1 1, fun j hj => absurd hj (by omega), fun j hj => absurd hj (by omega), (MapW.made w).ext ((Ext.refl _).goA _)⟩, fun j hj => absurd hj (by omega), ((Ext.refl w).goA _).goA _⟩
  case round =>
    obtain ⟨k, hk, rfl, t, hp, ht, E⟩ := hrel
    have hp' := Lib.hid hp
    have ht' := Lib.hid ht
    clear hp ht
    by_cases hk4 : k < 4
    · have d1 : decide ((k : Int) < 4) = true := by simp; omega
      have d3 : (k : Int) < 4 := by omega
      by_cases hk2 : k < 2
      · have d2 : decide ((2 : Int) ≤ (k : Int)) = false := by simp; omega
        go_wp2_with fail
        refine wp_region_held_drew (S := fun w' => wr.heap.size ≤ w'.heap.size) (by kernel_rfl) (Nat.le_refl _) (fun hHeld => ?_)
        refine tk 0 ?_
        try simp only [Act.put, gA, gC, List.setIfInBounds_toArray, gE, gF]
        refine tk 1 ?_
        try simp only [Act.put, gA, gB, gC, List.setIfInBounds_toArray, gE, gF]
        refine tk 3 ?_
        try simp only [Act.put, gA, gB, gC, List.setIfInBounds_toArray, gE, gF]
        refine tk 4 ?_
        try simp only [Act.put, gA, gB, gC, List.setIfInBounds_toArray, gE, gF]
        refine wpAnyH_ready (rs := [2]) (by kernel_rfl) (by simp) ?_
        refine AllReadyH.cons rfl (fun K hK => ?_) ?_
        rotate_left
        · exact AllReadyH.nil
        go_simp
        go_at_call 54
        refine (serial_any k hk2 _).mono ?_
        rintro e w3 ⟨tn, rfl, ht3, E3, ht4⟩
        have X3 : Ext wr w3 := ((Ext.refl wr).god).go E3
        have hS := X3.size
        unfold wireV spoilV
        rw [show openV k = .func (.func 86) #[] #[] from if_pos hk2, show frameV k = .func (.func 88) #[] #[] from if_pos hk2]
        try dsimp only
        refine hK.out _ _ ?_ (fun hHeld => ?_)
        · first | assumption | (dsimp only; assumption)
        clear hK K
        try simp only [Act.put, gA, gB, gC, List.setIfInBounds_toArray, gE, gF]
        refine tk 5 ?_
        try simp only [Act.put, gA, gB, gC, List.setIfInBounds_toArray, gE, gF]
        obtain ⟨c0, c1, c2, c3, c4, fz⟩ := (hp'.out.ext X3).slots hk4
        obtain ⟨y0, c0⟩ := c0
        obtain ⟨y1, c1⟩ := c1
        obtain ⟨y2, c2⟩ := c2
        obtain ⟨y3, c3⟩ := c3
        obtain ⟨y4, c4⟩ := c4
        refine wpAnyH_ready (rs := [6]) (by kernel_rfl) (by simp) ?_
        refine AllReadyH.cons rfl (fun K hK => ?_) ?_
        rotate_left
        · exact AllReadyH.nil
        go_simp
        refine hK.out _ _ ?_ (fun hHeld => ?_)
        · (simp only [setCell_sizeB]; exact hS)
        clear hK K
        try simp only [Act.put, gA, gB, gC, List.setIfInBounds_toArray, gE, gF]
        refine wpAnyH_done (by kernel_rfl) ?_ _
        obtain ⟨cs, hcs, hsz⟩ := (hp'.out.ext X3).head
        have hmm2 := (five_put hcs (q := 2 + k * 5) (by omega) (.func (.func 86) #[] #[]) (.func (.func 88) #[] #[]) (.func (.func 117) #[] #[.pointer (some ⟨tn, 0, none⟩)]) (.slice none 0 0) (.slice none 0 0) rfl).2.2.2
        have hst : NewPart (((((w3.setCell ⟨w.heap.size + 1, 2 + k * 5, none⟩ (.func (.func 86) #[] #[])).setCell ⟨w.heap.size + 1, 2 + k * 5 + 1, none⟩ (.func (.func 88) #[] #[])).setCell ⟨w.heap.size + 1, 2 + k * 5 + 2, none⟩ (.func (.func 117) #[] #[.pointer (some ⟨tn, 0, none⟩)])).setCell ⟨w.heap.size + 1, 2 + k * 5 + 3, none⟩ (.slice none 0 0)).setCell ⟨w.heap.size + 1, 2 + k * 5 + 4, none⟩ (.slice none 0 0)) (w.heap.size + 1) w.heap.size (k + 1) (upf t k tn) := (hp'.out.ext X3).step (tk := tn) hk4 ht3 (by unfold spoilV; rw [Nat.mul_comm 5 k, show openV k = .func (.func 86) #[] #[] from if_pos hk2, show frameV k = .func (.func 88) #[] #[] from if_pos hk2])
        have hst' := Lib.hid hst
        have hE4 := Lib.hid ((E.go X3).goM hmm2 (fun i hi => by omega))
        have htb : ∀ j, j < k + 1 → w.heap.size ≤ upf t k tn j := fun j hj => by
          by_cases e : j = k
          · subst e; rw [upf_same]; have := E.size; have : wr.heap.size ≤ tn := ht4; omega
          · rw [upf_other _ _ e]; exact ht'.out j (by omega)
        have htb' := Lib.hid htb
        clear hHeld c0 c1 c2 c3 c4 fz hcs hmm2 hst htb ht3 ht4
        generalize ((((w3.setCell ⟨w.heap.size + 1, 2 + k * 5, none⟩ (.func (.func 86) #[] #[])).setCell ⟨w.heap.size + 1, 2 + k * 5 + 1, none⟩ (.func (.func 88) #[] #[])).setCell ⟨w.heap.size + 1, 2 + k * 5 + 2, none⟩ (.func (.func 117) #[] #[.pointer (some ⟨tn, 0, none⟩)])).setCell ⟨w.heap.size + 1, 2 + k * 5 + 3, none⟩ (.slice none 0 0)).setCell ⟨w.heap.size + 1, 2 + k * 5 + 4, none⟩ (.slice none 0 0) = w4 at *
        go_wp2_with fail
        go_roundw
        case rel => exact ⟨k + 1, by omega, by simp, upf t k tn, hst'.out, htb'.out, hE4.out⟩
        case measure => simp [intOf]; omega
      · have d2 : decide ((2 : Int) ≤ (k : Int)) = true := by simp; omega
        go_wp2_with fail
        refine wp_region_held_drew (S := fun w' => wr.heap.size ≤ w'.heap.size) (by kernel_rfl) (Nat.le_refl _) (fun hHeld => ?_)
        refine tk 0 ?_
        try simp only [Act.put, gA, gC, List.setIfInBounds_toArray, gE, gF]
        refine tk 1 ?_
        try simp only [Act.put, gA, gB, gC, List.setIfInBounds_toArray, gE, gF]
        refine tk 3 ?_
        try simp only [Act.put, gA, gB, gC, List.setIfInBounds_toArray, gE, gF]
        refine tk 4 ?_
        try simp only [Act.put, gA, gB, gC, List.setIfInBounds_toArray, gE, gF]
        refine wpAnyH_ready (rs := [2]) (by kernel_rfl) (by simp) ?_
        refine AllReadyH.cons rfl (fun K hK => ?_) ?_
        rotate_left
        · exact AllReadyH.nil
        go_simp
        go_at_call 54
        refine (serial_any 0 (by omega) _).mono ?_
        rintro e w3 ⟨tn, rfl, ht3, E3, ht4⟩
        have X3 : Ext wr w3 := ((Ext.refl wr).god).go E3
        have hS := X3.size
        unfold wireV spoilV
        rw [show openV 0 = .func (.func 86) #[] #[] from if_pos (by omega), show frameV 0 = .func (.func 88) #[] #[] from if_pos (by omega)]
        try dsimp only
        refine hK.out _ _ ?_ (fun hHeld => ?_)
        · first | assumption | (dsimp only; assumption)
        clear hK K
        try simp only [Act.put, gA, gB, gC, List.setIfInBounds_toArray, gE, gF]
        refine tk 5 ?_
        try simp only [Act.put, gA, gB, gC, List.setIfInBounds_toArray, gE, gF]
        obtain ⟨c0, c1, c2, c3, c4, fz⟩ := (hp'.out.ext X3).slots hk4
        obtain ⟨y0, c0⟩ := c0
        obtain ⟨y1, c1⟩ := c1
        obtain ⟨y2, c2⟩ := c2
        obtain ⟨y3, c3⟩ := c3
        obtain ⟨y4, c4⟩ := c4
        refine wpAnyH_ready (rs := [6]) (by kernel_rfl) (by simp) ?_
        refine AllReadyH.cons rfl (fun K hK => ?_) ?_
        rotate_left
        · exact AllReadyH.nil
        go_simp
        refine hK.out _ _ ?_ (fun hHeld => ?_)
        · (simp only [setCell_sizeB]; exact hS)
        clear hK K
        try simp only [Act.put, gA, gB, gC, List.setIfInBounds_toArray, gE, gF]
        refine wpAnyH_done (by kernel_rfl) ?_ _
        obtain ⟨cs, hcs, hsz⟩ := (hp'.out.ext X3).head
        have hmm2 := (five_put hcs (q := 2 + k * 5) (by omega) (.func (.func 86) #[] #[]) (.func (.func 88) #[] #[]) (.func (.func 117) #[] #[.pointer (some ⟨tn, 0, none⟩)]) (.slice none 0 0) (.slice none 0 0) rfl).2.2.2
        have hst := (hp'.out.ext X3).junk (a0 := .func (.func 86) #[] #[]) (a1 := .func (.func 88) #[] #[]) (a2 := .func (.func 117) #[] #[.pointer (some ⟨tn, 0, none⟩)]) (a3 := .slice none 0 0) (a4 := .slice none 0 0) hk4 (by rw [Nat.mul_comm 5 k])
        have hst' := Lib.hid hst
        have hE4 := Lib.hid ((E.go X3).goM hmm2 (fun i hi => by omega))
        clear hHeld c0 c1 c2 c3 c4 fz hcs hmm2 hst ht3 ht4
        generalize ((((w3.setCell ⟨w.heap.size + 1, 2 + k * 5, none⟩ (.func (.func 86) #[] #[])).setCell ⟨w.heap.size + 1, 2 + k * 5 + 1, none⟩ (.func (.func 88) #[] #[])).setCell ⟨w.heap.size + 1, 2 + k * 5 + 2, none⟩ (.func (.func 117) #[] #[.pointer (some ⟨tn, 0, none⟩)])).setCell ⟨w.heap.size + 1, 2 + k * 5 + 3, none⟩ (.slice none 0 0)).setCell ⟨w.heap.size + 1, 2 + k * 5 + 4, none⟩ (.slice none 0 0) = w4 at *
        clear X3 hS E3
        go_wp2_with fail
        refine wp_region_held_drew (S := fun w' => w4.heap.size ≤ w'.heap.size) (by kernel_rfl) (Nat.le_refl _) (fun hHeld => ?_)
        refine tk 0 ?_
        try simp only [Act.put, gA, gC, List.setIfInBounds_toArray, gE, gF]
        refine tk 1 ?_
        try simp only [Act.put, gA, gB, gC, List.setIfInBounds_toArray, gE, gF]
        refine tk 3 ?_
        try simp only [Act.put, gA, gB, gC, List.setIfInBounds_toArray, gE, gF]
        refine tk 4 ?_
        try simp only [Act.put, gA, gB, gC, List.setIfInBounds_toArray, gE, gF]
        refine wpAnyH_ready (rs := [2]) (by kernel_rfl) (by simp) ?_
        refine AllReadyH.cons rfl (fun K hK => ?_) ?_
        rotate_left
        · exact AllReadyH.nil
        go_simp
        go_at_call 55
        refine (stream_any k hk2 _).mono ?_
        rintro e w5 ⟨to, rfl, ht3, E3, ht4⟩
        have X3 : Ext w4 w5 := ((Ext.refl w4).god).go E3
        have hS := X3.size
        unfold wireV spoilV
        rw [show openV k = .func (.func 91) #[] #[] from if_neg hk2, show frameV k = .func (.func 93) #[] #[] from if_neg hk2]
        try dsimp only
        refine hK.out _ _ ?_ (fun hHeld => ?_)
        · first | assumption | (dsimp only; assumption)
        clear hK K
        try simp only [Act.put, gA, gB, gC, List.setIfInBounds_toArray, gE, gF]
        refine tk 5 ?_
        try simp only [Act.put, gA, gB, gC, List.setIfInBounds_toArray, gE, gF]
        obtain ⟨c0, c1, c2, c3, c4, fz⟩ := (hst'.out.ext X3).slots hk4
        obtain ⟨z0, c0⟩ := c0
        obtain ⟨z1, c1⟩ := c1
        obtain ⟨z2, c2⟩ := c2
        obtain ⟨z3, c3⟩ := c3
        obtain ⟨z4, c4⟩ := c4
        refine wpAnyH_ready (rs := [6]) (by kernel_rfl) (by simp) ?_
        refine AllReadyH.cons rfl (fun K hK => ?_) ?_
        rotate_left
        · exact AllReadyH.nil
        go_simp
        refine hK.out _ _ ?_ (fun hHeld => ?_)
        · (simp only [setCell_sizeB]; exact hS)
        clear hK K
        try simp only [Act.put, gA, gB, gC, List.setIfInBounds_toArray, gE, gF]
        refine wpAnyH_done (by kernel_rfl) ?_ _
        obtain ⟨cs', hcs, hsz'⟩ := (hst'.out.ext X3).head
        have hmm2 := (five_put hcs (q := 2 + k * 5) (by omega) (.func (.func 91) #[] #[]) (.func (.func 93) #[] #[]) (.func (.func 117) #[] #[.pointer (some ⟨to, 0, none⟩)]) (.slice none 0 0) (.slice none 0 0) rfl).2.2.2
        have hst : NewPart (((((w5.setCell ⟨w.heap.size + 1, 2 + k * 5, none⟩ (.func (.func 91) #[] #[])).setCell ⟨w.heap.size + 1, 2 + k * 5 + 1, none⟩ (.func (.func 93) #[] #[])).setCell ⟨w.heap.size + 1, 2 + k * 5 + 2, none⟩ (.func (.func 117) #[] #[.pointer (some ⟨to, 0, none⟩)])).setCell ⟨w.heap.size + 1, 2 + k * 5 + 3, none⟩ (.slice none 0 0)).setCell ⟨w.heap.size + 1, 2 + k * 5 + 4, none⟩ (.slice none 0 0)) (w.heap.size + 1) w.heap.size (k + 1) (upf t k to) := (hst'.out.ext X3).step (tk := to) hk4 ht3 (by unfold spoilV; rw [Nat.mul_comm 5 k, show openV k = .func (.func 91) #[] #[] from if_neg hk2, show frameV k = .func (.func 93) #[] #[] from if_neg hk2])
        have hst2' := Lib.hid hst
        have hE6 := Lib.hid ((hE4.out.go X3).goM hmm2 (fun i hi => by omega))
        have htb : ∀ j, j < k + 1 → w.heap.size ≤ upf t k to j := fun j hj => by
          by_cases e : j = k
          · subst e; rw [upf_same]; have := hE4.out.size; have : w4.heap.size ≤ to := ht4; omega
          · rw [upf_other _ _ e]; exact ht'.out j (by omega)
        have htb' := Lib.hid htb
        clear hHeld c0 c1 c2 c3 c4 fz hcs hmm2 hst htb ht3 ht4
        generalize ((((w5.setCell ⟨w.heap.size + 1, 2 + k * 5, none⟩ (.func (.func 91) #[] #[])).setCell ⟨w.heap.size + 1, 2 + k * 5 + 1, none⟩ (.func (.func 93) #[] #[])).setCell ⟨w.heap.size + 1, 2 + k * 5 + 2, none⟩ (.func (.func 117) #[] #[.pointer (some ⟨to, 0, none⟩)])).setCell ⟨w.heap.size + 1, 2 + k * 5 + 3, none⟩ (.slice none 0 0)).setCell ⟨w.heap.size + 1, 2 + k * 5 + 4, none⟩ (.slice none 0 0) = w6 at *
        go_wp2_with fail
        go_roundw
        case rel => exact ⟨k + 1, by omega, by simp, upf t k to, hst2'.out, htb'.out, hE6.out⟩
        case measure => simp [intOf]; omega
    · have hk5 : k = 4 := by omega
      have d1 : decide ((k : Int) < 4) = false := by simp; omega
      have hp4 : NewPart wr (w.heap.size + 1) w.heap.size 4 t := hk5 ▸ hp'.out
      have hM := hp4.whole
      have hU : ∀ b, (newM w.heap.size t).U (w.heap.size + 1) 0 b → w.heap.size ≤ b := fun b hb => by
        rcases hb with (rfl | ⟨i, hi, _⟩ | ⟨j, hj, hb | hb⟩) | rfl | hb | ⟨i, hi, _⟩ | ⟨j, hj, rfl | ⟨r, hr, _⟩⟩
        · omega
        · omega
        · simp [newM, Value.ownBlock] at hb
        · simp [newM, Value.ownBlock] at hb
        · exact Nat.le_refl _
        · simp [newM, Value.ownBlock] at hb
        · omega
        · exact ht'.out j (by omega)
        · simp [newM] at hr
      have hM' := Lib.hid hM
      have hU' := Lib.hid hU
      clear hM hU hp' ht' hk5 hp4 hk4 hk
      have hdl : dev.length = n := hx'.out.1
      have hdl' := Lib.hid hdl
      clear hdl
      obtain ⟨bi, hbi, hbz, hb4, hbb⟩ := info_bankp
      go_wp2_with fail
      go_loopw [34] (fun i wq => ∃ q : Nat, q ≤ n ∧ i = .int .i64 q ∧ ∃ M, FdM wq (w.heap.size + 1) (dev.take q) newF M ∧ (∀ b, M.U (w.heap.size + 1) (dev.take q).length b → w.heap.size ≤ b) ∧ (∀ j, j < 4 → M.rs j = []) ∧ (∀ j, j < 4 → M.fv j = .slice none 0 0 ∧ M.wv j = .slice none 0 0) ∧ Ext w wq) (fun i _ => n - (intOf i).toNat)
      case atStart => exact ⟨0, by omega, rfl, _, hM'.out, hU'.out, fun _ _ => rfl, fun _ _ => ⟨rfl, rfl⟩, E⟩
      case round =>
        clear hM' hU' E
        obtain ⟨q, hq, rfl, M, hF, hU, hrs, hfw, E⟩ := hrel
        have hF' := Lib.hid hF
        have hU' := Lib.hid hU
        have hrs' := Lib.hid hrs
        have hfw' := Lib.hid hfw
        clear hF hU hrs hfw
        by_cases hqn : q < n
        · have d1 : decide ((q : Int) < (n : Int)) = true := by simp; omega
          have d2 : (q : Int) < (n : Int) := by omega
          obtain ⟨b, o, sb, rfl, hbl, x0, x1, x2, wf1, wf2⟩ := hx'.out.2 q (by have := hdl'.out; omega)
          have y0 := (E.cell _ hbl).trans x0
          have y1 := (E.cell _ hbl).trans x1
          have y2 := (E.cell _ hbl).trans x2
          have htk : dev.take (q + 1) = dev.take q ++ [dev[q]'(by have := hdl'.out; omega)] := List.take_succ_eq_append_getElem (by have := hdl'.out; omega)
          have hlq : (dev.take q).length = q := by rw [List.length_take]; have := hdl'.out; omega
          have htk' := Lib.hid htk
          have hlq' := Lib.hid hlq
          clear x0 x1 x2 htk hlq
          generalize dev[q]'(by have := hdl'.out; omega) = x at *
          obtain ⟨xl, xu⟩ := x
          dsimp only at y1 y2 wf1 wf2
          have hnew := bankNew_any 256 256 0 0
          go_wp2_with fail
          refine (hnew _).mono ?_
          rintro e w2 ⟨gn, Gn, rfl, hB, E2, hg⟩
          have E12 : Ext wr w2 := ((Ext.refl wr).goA _).go E2
          have hF2 := hF'.out.ext E12
          have PD := (E2.block _ (lt_of_block (heap_alloc_new wr (.cells #[.string sb, .int .i64 xl, .int .i64 xu] 65)))).trans (heap_alloc_new wr (.cells #[.string sb, .int .i64 xl, .int .i64 xu] 65))
          have hrowb := hF2.bv
          rw [hlq'.out] at hrowb
          obtain ⟨Ab, cb, hbv, _, _⟩ := hrowb.shape
          have c0 := hF2.c0
          rw [hbv] at c0 hrowb
          have E3 : Ext w2 (w2.alloc (.cells #[.pointer (some ⟨gn, 0, none⟩)] 131)) := (Ext.refl w2).goA _
          have hrow3 := Lib.hid (hrowb.ext E3)
          have hnew3 := Lib.hid (heap_alloc_new w2 (.cells #[.pointer (some ⟨gn, 0, none⟩)] 131))
          have hgl : wr.heap.size < gn := by have := hg; simp only [alloc_size] at this; omega
          have hF2' := Lib.hid hF2
          have PD' := Lib.hid PD
          have E12' := Lib.hid E12
          have hB' := Lib.hid hB
          have hbv' := Lib.hid hbv
          have E3' := Lib.hid E3
          clear hnew hF2 PD E12 hB hbv hrowb y0 y1 y2 E2 hg E3
          have hone : ∀ u ∈ [Value.pointer (some ⟨gn, 0, none⟩)], u.oneCell' = true := fun u hu => by simp at hu; subst hu; rfl
          have hmax : q + 1 ≤ maxLen := by unfold maxLen; omega
          have hsml : (q + 1) * 8 ≤ 140737488355328 := by omega
          go_upto_region 14 with (at_builtin; refine wpList_append_rowAt rfl (.tmp 44) (.tmp 46) _ rfl 131 bi _ 1 8 Try.underlying120 hbi hbz hb4 hbb rfl (by decide) _ q _ rfl hrow3.out ⟨w2.heap.size, 0, none⟩ 1 [.pointer (some ⟨gn, 0, none⟩)] rfl rfl (cell_one_at hnew3.out) hone hmax hsml ?_; intro v' w4 hr4 hm4 hat4; obtain ⟨Av, cv, rfl, _, _⟩ := hr4.shape; have m24 : Mod (fun b => M.bv.ownBlock = some b) w2 w4 := (by rw [hbv'.out]; exact (E3'.out.mod _).trans hm4); have nbf : ¬ M.bv.ownBlock = some (w.heap.size + 1) := (fun e => (hF2'.out.isB e).ne hF2'.out.isF (by decide) rfl); have k4 : w4.cell? ⟨w.heap.size + 1, 0, none⟩ = some (.slice Ab q cb) := (m24.cell _ hF2'.out.isF.lt nbf).trans c0; have f4 : w4.frozen? ⟨w.heap.size + 1, 0, none⟩ = false := (m24.frozen _ hF2'.out.isF.lt nbf).trans (frozen_block hF2'.out.head.choose_spec _); have hr4' := Lib.hid hr4; have m24' := Lib.hid m24; have hat4' := Lib.hid hat4; clear hr4 m24 hat4 hm4 c0)
          have isF2 := hF2'.out.isF
          obtain ⟨csf, hcsf⟩ := hF2'.out.head
          have hcsf4 := (m24'.out.block _ (lt_of_block hcsf) nbf).trans hcsf
          have hh5 : ∃ cs, (w4.setCell ⟨w.heap.size + 1, 0, none⟩ (.slice Av (q + 1) cv)).heap[w.heap.size + 1]? = some (.cells cs 129 (0, 0)) := ⟨_, sets_block hcsf4 _ _⟩
          have hc5 : ∀ o, o ≠ 0 → (w4.setCell ⟨w.heap.size + 1, 0, none⟩ (.slice Av (q + 1) cv)).cell? ⟨w.heap.size + 1, o, none⟩ = wr.cell? ⟨w.heap.size + 1, o, none⟩ := fun o ho => by
            rw [World.cell?_setCell_other w4 _ _ _ (fun e => ho (by injection e with _ e _; exact e.symm))]
            exact (m24'.out.cell _ (lt_of_block hcsf) nbf).trans (E12'.out.cell _ hF'.out.isF.lt)
          have h05 : (w4.setCell ⟨w.heap.size + 1, 0, none⟩ (.slice Av (q + 1) cv)).cell? ⟨w.heap.size + 1, 0, none⟩ = some (.slice Av (q + 1) cv) := World.cell?_setCell_same w4 _ _ k4
          have m5 : Mod (fun b => b = w.heap.size + 1 ∨ M.bv.ownBlock = some b ∨ b = M.m) wr (w4.setCell ⟨w.heap.size + 1, 0, none⟩ (.slice Av (q + 1) cv)) := (((E12'.out.mod _).trans m24'.out).weak (fun b hb => .inr (.inl hb))).setCell (.inl (.inl rfl)) _
          have hk5 : ∀ {b : Nat} {t : TypeId}, Is w2 b t → t ≠ 129 → t ≠ 131 → (w4.setCell ⟨w.heap.size + 1, 0, none⟩ (.slice Av (q + 1) cv)).heap[b]? = w2.heap[b]? := fun {b t} hb h1 h2 =>
            (Below.heap_setCell w4 _ _ _ (fun e => by subst e; exact (hb.ne isF2 h1) rfl)).trans (m24'.out.block b hb.lt (fun e => (hb.ne (hF2'.out.isB e) h2) rfl))
          have PD5 := (hk5 ⟨_, _, PD'.out⟩ (by decide) (by decide)).trans PD'.out
          have hrow5 : RowAt (w4.setCell ⟨w.heap.size + 1, 0, none⟩ (.slice Av (q + 1) cv)) 131 1 (.slice Av (q + 1) cv) (q + 1) (ptrs M.g q ++ [.pointer (some ⟨gn, 0, none⟩)]) := hr4'.out.keep fun b hb => Below.heap_setCell w4 _ _ _ (fun e => by
            subst e
            exact (hr4'.out.is hb).ne ⟨_, _, hcsf4⟩ (by decide) rfl)
          have hB5 : Bk (w4.setCell ⟨w.heap.size + 1, 0, none⟩ (.slice Av (q + 1) cv)) gn (newL 256 256 0 0) Gn := hB'.out.keep fun b hb => by
            rcases hb with rfl | ⟨k, hk, rfl⟩
            · exact hk5 ⟨_, _, hB'.out.head⟩ (by decide) (by decide)
            · exact hk5 ⟨_, _, hB'.out.row k hk⟩ (by decide) (by decide)
          have hmp5 : MapW (w4.setCell ⟨w.heap.size + 1, 0, none⟩ (.slice Av (q + 1) cv)) M.m q (slotOf (dev.take q) M.g) := by
            have h1 := hF2'.out.mp
            rw [hlq'.out] at h1
            refine h1.keep ((Below.heap_setCell w4 _ _ _ (fun e => hF2'.out.notMap isF2 e.symm)).trans (m24'.out.block _ h1.lt (fun e => hF2'.out.notMap (hF2'.out.isB e) rfl)))
          have hh5' := Lib.hid hh5
          have hc5' := Lib.hid hc5
          have h05' := Lib.hid h05
          have m5' := Lib.hid m5
          have PD5' := Lib.hid PD5
          have hrow5' := Lib.hid hrow5
          have hB5' := Lib.hid hB5
          have hmp5' := Lib.hid hmp5
          have hun : ∀ b, (Value.slice Av (q + 1) cv).ownBlock = some b → w.heap.size ≤ b := fun b hb => by
            have h1 := hr4'.out
            rcases hat4'.out with h2 | h2
            · exact hU'.out b (.inr (.inr (.inl (h2.symm.trans hb |> fun e => by rw [hbv'.out]; exact e))))
            · rw [hb, Option.some.injEq] at h2
              simp only [alloc_size] at h2
              have := E.size; have := E12'.out.size; omega
          have hun' := Lib.hid hun
          clear hh5 hc5 h05 m5 PD5 hrow5 hB5 hmp5 hun hk5 hcsf4 hcsf k4 f4 nbf isF2 hr4' m24' hat4' hrow3 hnew3 hF2' PD' E3' hone hmax hsml hB'
          generalize w4.setCell ⟨w.heap.size + 1, 0, none⟩ (.slice Av (q + 1) cv) = w5 at *
          have e0 : w5.cell? ⟨wr.heap.size, 0, none⟩ = some (.string sb) := cellsAt PD5'.out 0
          have e1 : w5.cell? ⟨wr.heap.size, 1, none⟩ = some (.int .i64 xl) := cellsAt PD5'.out 1
          have e2 : w5.cell? ⟨wr.heap.size, 2, none⟩ = some (.int .i64 xu) := cellsAt PD5'.out 2
          go_upto_region 15 with fail
          have PW := heap_alloc_new w5 (.cells #[.int .i64 xl, .int .i64 xu] 134)
          have E56 : Ext w5 (w5.alloc (.cells #[.int .i64 xl, .int .i64 xu] 134)) := (Ext.refl w5).goA _
          have hmp6 := Lib.hid (hmp5'.out.ext E56)
          have c1 : w5.cell? ⟨w.heap.size + 1, 1, none⟩ = some (.map (some M.m)) := (hc5'.out 1 (by omega)).trans hF'.out.c1
          have hfl5 : w.heap.size + 1 < w5.heap.size := let ⟨_, e⟩ := hh5'.out; lt_of_block e
          have E56' := Lib.hid E56
          have C1 := fun w' (E : Ext (w5.alloc (.cells #[.int .i64 xl, .int .i64 xu] 134)) w') => ((E56'.out.go E).cell 1 hfl5).trans c1
          have A0 := fun w' (E : Ext (w5.alloc (.cells #[.int .i64 xl, .int .i64 xu] 134)) w') => (E.cell 0 (lt_of_block PW)).trans (show _ = some (.int .i64 xl) from cellsAt PW 0)
          have A1 := fun w' (E : Ext (w5.alloc (.cells #[.int .i64 xl, .int .i64 xu] 134)) w') => (E.cell 1 (lt_of_block PW)).trans (show _ = some (.int .i64 xu) from cellsAt PW 1)
          have hlook := fun w' (E : Ext (w5.alloc (.cells #[.int .i64 xl, .int .i64 xu] 134)) w') => (hmp6.out.ext E).look_ok wf1 wf2
          clear E56 PW c1 e0 e1 e2
          generalize hw6 : w5.alloc (.cells #[.int .i64 xl, .int .i64 xu] 134) = w6 at *
          clear hw6
          have hgn := hB5'.out
          have hGn : ∀ k, k < 4 → w.heap.size ≤ Gn k := fun k hk => by have := hgn.gt hk; have := E.size; omega
          have hfin : ∀ W' : World, Mod (fun b => b = M.m) w5 W' → MapW W' M.m (q + 1) (slotOf (dev.take (q + 1)) (upf M.g q gn)) → ∃ M', FdM W' (w.heap.size + 1) (dev.take (q + 1)) newF M' ∧ (∀ b, M'.U (w.heap.size + 1) (dev.take (q + 1)).length b → w.heap.size ≤ b) ∧ (∀ j, j < 4 → M'.rs j = []) ∧ (∀ j, j < 4 → M'.fv j = .slice none 0 0 ∧ M'.wv j = .slice none 0 0) ∧ Ext w W' := fun W' mW hmW => by
            have hm5 : w.heap.size ≤ M.m := hU'.out M.m (.inr (.inl rfl))
            have isF5 : Is w5 (w.heap.size + 1) 129 := let ⟨cs, e⟩ := hh5'.out; ⟨cs, _, e⟩
            have nM : ∀ {b : Nat} {t : TypeId}, Is w5 b t → b ≠ M.m := fun {b t} hb e => by
              subst e
              obtain ⟨es, ck, h1⟩ := hmp5'.out.block
              obtain ⟨cs, r, h2⟩ := hb
              rw [h1] at h2
              simp at h2
            have kk : ∀ {b : Nat} {t : TypeId}, Is w5 b t → W'.heap[b]? = w5.heap[b]? := fun {b t} hb => mW.block b hb.lt (nM hb)
            have hcW : ∀ o, W'.cell? ⟨w.heap.size + 1, o, none⟩ = w5.cell? ⟨w.heap.size + 1, o, none⟩ := fun o => World.cell?_of_block (a := ⟨w.heap.size + 1, o, none⟩) (kk isF5)
            have mm : Mod (fun b => b = w.heap.size + 1 ∨ M.bv.ownBlock = some b ∨ b = M.m) wr W' := m5'.out.step mW (fun b hb => .inl (.inr (.inr hb)))
            have hrowW : RowAt W' 131 1 (.slice Av (q + 1) cv) (q + 1) (ptrs M.g q ++ [.pointer (some ⟨gn, 0, none⟩)]) := hrow5'.out.keep fun b hb => kk (hrow5'.out.is hb)
            have hBW : Bk W' gn (newL 256 256 0 0) Gn := hB5'.out.keep fun b hb => by
              rcases hb with rfl | ⟨k, hk, rfl⟩
              · exact kk ⟨_, _, hB5'.out.head⟩
              · exact kk ⟨_, _, hB5'.out.row k hk⟩
            have key := hF'.out.grow (W' := W') (l := xl) (u := xu) (gn := gn) (Gn := Gn) (v := .slice Av (q + 1) cv) hrs'.out hfw'.out mm (let ⟨cs, e⟩ := hh5'.out; ⟨cs, (kk isF5).trans e⟩) (fun o ho => (hcW o).trans (hc5'.out o ho)) ((hcW 0).trans h05'.out) (by rw [hlq'.out]; exact hrowW) hBW (by omega) (by rw [hlq'.out, ← htk'.out]; exact hmW)
            rw [hlq'.out, ← htk'.out] at key
            have hlq2 : (dev.take (q + 1)).length = q + 1 := by rw [htk'.out, List.length_append, hlq'.out]; rfl
            refine ⟨_, key, ?_, hrs'.out, hfw'.out, ?_⟩
            · rw [hlq2]
              have h1 := hU'.out
              rw [hlq'.out] at h1
              exact Fdm.U_grow h1 hrs'.out hfw'.out hun'.out (by have := E.size; omega) hGn
            · exact E.goM mm (fun b hb => by
                rcases hb with rfl | hb | rfl
                · omega
                · exact hU'.out b (.inr (.inr (.inl hb)))
                · exact hm5)
          have hfin' := Lib.hid hfin
          clear hfin hgn hGn
          by_cases hsl : slotOf (dev.take q) M.g xl xu = 0
          · rw [hsl] at hlook
            have hlook' : ∀ w', Ext w6 w' → (Instr.lookup 119 (.map (some M.m)) (.agg #[.int .i64 xl, .int .i64 xu]) true).run Try.prog w' = .ok (.tuple #[.pointer none, .bool false]) w' := hlook
            have hsl' := Lib.hid hsl
            clear hlook hsl
            refine wp_region_held_drew (S := fun w' => Ext w6 w') (by kernel_rfl) ((Ext.refl w6).god) (fun hHeld => ?_)
            refine tk 0 ?_
            try simp only [Act.put, gA, gC, List.setIfInBounds_toArray, gE, gF]
            refine tk 1 ?_
            try simp only [Act.put, gA, gB, gC, List.setIfInBounds_toArray, gE, gF]
            refine tk 2 ?_
            try simp only [Act.put, gA, gB, gC, List.setIfInBounds_toArray, gE, gF]
            refine tk 3 ?_
            try simp only [Act.put, gA, gB, gC, List.setIfInBounds_toArray, gE, gF]
            refine tk 4 ?_
            try simp only [Act.put, gA, gB, gC, List.setIfInBounds_toArray, gE, gF]
            refine tk 5 ?_
            try simp only [Act.put, gA, gB, gC, List.setIfInBounds_toArray, gE, gF]
            refine tk 6 ?_
            try simp only [Act.put, gA, gB, gC, List.setIfInBounds_toArray, gE, gF]
            refine tk 7 ?_
            try simp only [Act.put, gA, gB, gC, List.setIfInBounds_toArray, gE, gF]
            refine tk 8 ?_
            try simp only [Act.put, gA, gB, gC, List.setIfInBounds_toArray, gE, gF]
            refine tk 9 ?_
            try simp only [Act.put, gA, gB, gC, List.setIfInBounds_toArray, gE, gF]
            refine tk 10 ?_
            try simp only [Act.put, gA, gB, gC, List.setIfInBounds_toArray, gE, gF]
            refine wpAnyH_done (by kernel_rfl) ?_ _
            clear hlook'
            have E67 : Ext w6 w6.drew := (Ext.refl w6).god
            have E57 := Lib.hid (E56'.out.go E67)
            have hfl6 : w.heap.size + 1 < w6.heap.size := Nat.lt_of_lt_of_le hfl5 E56'.out.size
            have hmp7 := Lib.hid (hmp6.out.ext (E67.go ((Ext.refl w6.drew).god)))
            have C17 := C1 _ E67
            have A07 := A0 _ E67
            have A17 := A1 _ E67
            have hl07 := cell_lt A07
            clear C1 A0 A1 hHeld E67
            generalize w6.drew = w7 at *
            obtain ⟨w8, hrun, hmp8, mm8⟩ := hmp7.out.store (by unfold maxLen; omega) wf1 wf2 gn
            have nmf : w.heap.size + 1 ≠ M.m := hF'.out.notMap hF'.out.isF
            have nmw : w5.heap.size ≠ M.m := by have := hmp5'.out.lt; omega
            have hm7 : w.heap.size + 1 < w7.heap.size := Nat.lt_of_lt_of_le hfl5 E57.out.size
            have C1 := fun w' (m : Mod (fun b => b = M.m) w7 w') => (m.cell 1 hm7 nmf).trans C17
            have A0 := fun w' (m : Mod (fun b => b = M.m) w7 w') => (m.cell 0 hl07 nmw).trans A07
            have A1 := fun w' (m : Mod (fun b => b = M.m) w7 w') => (m.cell 1 hl07 nmw).trans A17
            have mm7 : Mod (fun b => b = M.m) w7 w8 := ((Mod.refl _ w7).drew).trans mm8
            have hnew8 : MapW w8 M.m (q + 1) (slotOf (dev.take (q + 1)) (upf M.g q gn)) := by
              have h1 := slot_new (dv := dev.take q) (x := (xl, xu)) (g := M.g) (gn := gn) hsl'.out
              rw [hlq'.out] at h1
              rw [htk'.out, h1]
              exact hmp8
            have hend := Lib.hid (hfin'.out w8 ((E57.out.mod _).trans mm7) hnew8)
            clear C17 A07 A17 hl07 hmp8 mm8 hm7 nmf nmw hnew8 hfin' hmp7
            go_wp2_with fail
            refine wp_region_held_drew (S := fun w' => Mod (fun b => b = M.m) w7 w') (by kernel_rfl) ((Mod.refl _ w7).drew) (fun hHeld => ?_)
            refine tk 0 ?_
            try simp only [Act.put, gA, gC, List.setIfInBounds_toArray, gE, gF]
            refine tk 1 ?_
            try simp only [Act.put, gA, gB, gC, List.setIfInBounds_toArray, gE, gF]
            refine tk 2 ?_
            try simp only [Act.put, gA, gB, gC, List.setIfInBounds_toArray, gE, gF]
            refine tk 3 ?_
            try simp only [Act.put, gA, gB, gC, List.setIfInBounds_toArray, gE, gF]
            refine tk 4 ?_
            try simp only [Act.put, gA, gB, gC, List.setIfInBounds_toArray, gE, gF]
            refine tk 5 ?_
            try simp only [Act.put, gA, gB, gC, List.setIfInBounds_toArray, gE, gF]
            refine wpAnyH_ready (rs := [6]) (by kernel_rfl) (by simp) ?_
            refine AllReadyH.cons rfl (fun K hK => ?_) ?_
            rotate_left
            · exact AllReadyH.nil
            go_simp
            refine hK.out _ _ ?_ (fun hHeld => ?_)
            · exact mm7
            clear hK K
            try simp only [Act.put, gA, gB, gC, List.setIfInBounds_toArray, gE, gF]
            refine wpAnyH_done (by kernel_rfl) ?_ _
            clear hHeld C1 A0 A1 hrun mm7
            go_wp2_with fail
            go_roundw
            case rel =>
              obtain ⟨M', z1, z2, z3, z4, z5⟩ := hend.out
              exact ⟨q + 1, by omega, by simp, M', z1, z2, z3, z4, z5⟩
            case measure => simp [intOf]; omega
          · obtain ⟨g0, hg0⟩ : ∃ g0, slotOf (dev.take q) M.g xl xu = g0 + 1 := ⟨slotOf (dev.take q) M.g xl xu - 1, by omega⟩
            rw [hg0] at hlook
            have hlook' : ∀ w', Ext w6 w' → (Instr.lookup 119 (.map (some M.m)) (.agg #[.int .i64 xl, .int .i64 xu]) true).run Try.prog w' = .ok (.tuple #[.pointer (some ⟨g0, 0, none⟩), .bool true]) w' := hlook
            have hnew8 : MapW w6.drew M.m (q + 1) (slotOf (dev.take (q + 1)) (upf M.g q gn)) := by
              have h1 := slot_known (dv := dev.take q) (x := (xl, xu)) (g := M.g) (gn := gn) hsl
              rw [hlq'.out] at h1
              rw [htk'.out, h1]
              exact ((hmp6.out.ext ((Ext.refl w6).god)).mono (by omega))
            have hend := Lib.hid (hfin'.out w6.drew ((E56'.out.god).mod _) hnew8)
            clear hlook hsl hg0 hnew8 hfin'
            refine wp_region_held_drew (S := fun w' => Ext w6 w') (by kernel_rfl) ((Ext.refl w6).god) (fun hHeld => ?_)
            refine tk 0 ?_
            try simp only [Act.put, gA, gC, List.setIfInBounds_toArray, gE, gF]
            refine tk 1 ?_
            try simp only [Act.put, gA, gB, gC, List.setIfInBounds_toArray, gE, gF]
            refine tk 2 ?_
            try simp only [Act.put, gA, gB, gC, List.setIfInBounds_toArray, gE, gF]
            refine tk 3 ?_
            try simp only [Act.put, gA, gB, gC, List.setIfInBounds_toArray, gE, gF]
            refine tk 4 ?_
            try simp only [Act.put, gA, gB, gC, List.setIfInBounds_toArray, gE, gF]
            refine tk 5 ?_
            try simp only [Act.put, gA, gB, gC, List.setIfInBounds_toArray, gE, gF]
            refine tk 6 ?_
            try simp only [Act.put, gA, gB, gC, List.setIfInBounds_toArray, gE, gF]
            refine tk 7 ?_
            try simp only [Act.put, gA, gB, gC, List.setIfInBounds_toArray, gE, gF]
            refine tk 8 ?_
            try simp only [Act.put, gA, gB, gC, List.setIfInBounds_toArray, gE, gF]
            refine tk 9 ?_
            try simp only [Act.put, gA, gB, gC, List.setIfInBounds_toArray, gE, gF]
            refine tk 10 ?_
            try simp only [Act.put, gA, gB, gC, List.setIfInBounds_toArray, gE, gF]
            refine wpAnyH_done (by kernel_rfl) ?_ _
            clear hlook' C1 A0 A1 hHeld
            go_wp2_with fail
            go_roundw
            case rel =>
              obtain ⟨M', z1, z2, z3, z4, z5⟩ := hend.out
              exact ⟨q + 1, by omega, by simp, M', z1, z2, z3, z4, z5⟩
            case measure => simp [intOf]; omega
        · obtain rfl : q = n := by omega
          have d1 : decide ((q : Int) < (q : Int)) = false := by simp
          have htk : dev.take q = dev := List.take_of_length_le (by have := hdl'.out; omega)
          rw [htk] at hF' hU'
          clear htk
          go_wp2_with fail
          go_ret
          exact ⟨_, M, rfl, hF'.out, E, hU'.out⟩
end
end Go.Proofs.Ytgagpalffdgjnaa
