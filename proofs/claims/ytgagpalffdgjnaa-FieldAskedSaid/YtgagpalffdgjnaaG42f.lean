/- Layer 24: what a call turns of a field; Fault and next. · Layer 24, the walks: Fault, next. -/
import Derived.Test.YtgagpalffdgjnaaG41f
import Derived.Test.YtgagpalffdgjnaaG28
namespace Go.Proofs.Ytgagpalffdgjnaa
open Go.RowKit

theorem Grew.refl (w : World) (T : Nat → Prop) : Grew w T T := fun _ h => .inl h
theorem Grew.trans {w w1 : World} {T T1 T2 : Nat → Prop} (h : Grew w T T1) (k : Grew w1 T1 T2) (hs : w.heap.size ≤ w1.heap.size) : Grew w T T2 := fun b hb => by
  rcases k b hb with h1 | h1
  · exact h b h1
  · exact .inr (by omega)
theorem Grew.from_ {w w1 : World} {T T' : Nat → Prop} (h : Grew w1 T T') (hs : w.heap.size ≤ w1.heap.size) : Grew w T T' := fun b hb => (h b hb).imp id (fun h => by omega)
/-- A step of a field: what was its own is its own, or was not there. -/
def FdStep (w w' : World) (f : Nat) (dev : List (Int × Int)) (M : Fdm) (F' : Fp) : Prop :=
  ∃ M', FdM w' f dev F' M' ∧ Mod (M.T f dev.length) w w' ∧ Grew w (M.T f dev.length) (M'.T f dev.length) ∧ Grew w (M.U f dev.length) (M'.U f dev.length) ∧ M'.G = M.G
section
variable {w w1 w' : World} {f : Nat} {dev : List (Int × Int)} {F F' : Fp} {M : Fdm}
theorem FdStep.stay (h : FdM w f dev F M) (E : Ext w w') : FdStep w w' f dev M F := ⟨M, h.ext E, E.mod _, Grew.refl _ _, Grew.refl _ _, rfl⟩
theorem FdStep.from_ (E : Ext w w1) (h : FdStep w1 w' f dev M F') : FdStep w w' f dev M F' := by
  obtain ⟨M', h1, h2, h3, h4, h5⟩ := h
  exact ⟨M', h1, (E.mod _).trans h2, h3.from_ E.size, h4.from_ E.size, h5⟩
theorem FdStep.upto {w2 : World} (h : FdStep w w1 f dev M F') (E : Ext w1 w2) : FdStep w w2 f dev M F' := by
  obtain ⟨M', h1, h2, h3, h4, h5⟩ := h
  exact ⟨M', h1.ext E, h2.trans (E.mod _), h3, h4, h5⟩
/-- Cells of the call's own, written behind. -/
theorem FdStep.around {w2 w3 w4 : World} {S : Nat → Prop} (h : FdM w f dev F M) (E : Ext w w2) (s : FdStep w2 w3 f dev M F') (m : Mod S w3 w4) (hS : ∀ b, S b → w.heap.size ≤ b ∧ b < w2.heap.size) : FdStep w w4 f dev M F' := by
  obtain ⟨M', h1, h2, h3, h4, h9⟩ := s
  refine ⟨M', h1.keep (fun b hb => m.block b (h1.lt hb) (fun hs => ?_)) m.size, ((E.mod _).trans h2).step m (fun b hb => .inr (hS b hb).1), h3.from_ E.size, h4.from_ E.size, h9⟩
  have h5 := hS b hs
  rcases h4 b hb with h6 | h6
  · have := h.lt h6; omega
  · omega
theorem FdM.putLine (h : FdM w f dev F M) {j : Nat} (hj : j < 4) {fs : List (Int × Int)} {rs : List Rm} {fv wv : Value}
    (m : Mod (fun b => b = f ∨ (M.fv j).ownBlock = some b ∨ (M.wv j).ownBlock = some b) w w') (hh : ∃ cs, w'.heap[f]? = some (.cells cs 129 (0, 0)))
    (hc : ∀ o, o ≠ 2 + 5 * j + 3 → o ≠ 2 + 5 * j + 4 → w'.cell? ⟨f, o, none⟩ = w.cell? ⟨f, o, none⟩) (h3 : w'.cell? ⟨f, 2 + 5 * j + 3, none⟩ = some fv) (h4 : w'.cell? ⟨f, 2 + 5 * j + 4, none⟩ = some wv)
    (hfa : RowAt w' 144 2 fv fs.length (fs.flatMap fCells)) (hwa : RowAt w' 148 2 wv rs.length (rs.flatMap Rm.cells))
    (hnf : ∀ b, fv.ownBlock = some b → (M.fv j).ownBlock = some b ∨ w.heap.size ≤ b) (hnw : ∀ b, wv.ownBlock = some b → (M.wv j).ownBlock = some b ∨ w.heap.size ≤ b)
    (han : ∀ r ∈ rs, r.ok w' (M.T f dev.length) ∧ (0 < r.n → ∀ b o, r.A = some ⟨b, o, none⟩ → wv.ownBlock ≠ some b ∧ fv.ownBlock ≠ some b))
    (hnr : ∀ r ∈ rs, r ∈ M.rs j ∨ (0 < r.n → ∀ b o, r.A = some ⟨b, o, none⟩ → w.heap.size ≤ b)) :
    FdStep w w' f dev M { F with W := upf F.W j ⟨fs, rs.map Rm.p⟩ } := by
  have hT : ∀ b, Fdm.T { M with fv := upf M.fv j fv, wv := upf M.wv j wv, rs := upf M.rs j rs } f dev.length b → M.T f dev.length b ∨ w.heap.size ≤ b := fun b hb => by
    rcases hb with rfl | hb | ⟨i, hi, hb | hb⟩
    · exact .inl (.inl rfl)
    · exact .inl (.inr (.inl hb))
    · by_cases e : i = j
      · subst e
        replace hb : (upf M.fv i fv i).ownBlock = some b := hb
        rw [upf_same] at hb
        exact (hnf b hb).imp (fun h1 => .inr (.inr ⟨i, hi, .inl h1⟩)) id
      · replace hb : (upf M.fv j fv i).ownBlock = some b := hb
        rw [upf_other _ _ e] at hb
        exact .inl (.inr (.inr ⟨i, hi, .inl hb⟩))
    · by_cases e : i = j
      · subst e
        replace hb : (upf M.wv i wv i).ownBlock = some b := hb
        rw [upf_same] at hb
        exact (hnw b hb).imp (fun h1 => .inr (.inr ⟨i, hi, .inr h1⟩)) id
      · replace hb : (upf M.wv j wv i).ownBlock = some b := hb
        rw [upf_other _ _ e] at hb
        exact .inl (.inr (.inr ⟨i, hi, .inr hb⟩))
  refine ⟨_, h.turnLine hj m hh hc h3 h4 hfa hwa hnf hnw han, m.weak ?_, hT, ?_, rfl⟩
  · rintro b (rfl | hb | hb)
    · exact .inl rfl
    · exact .inr (.inr ⟨j, hj, .inl hb⟩)
    · exact .inr (.inr ⟨j, hj, .inr hb⟩)
  · rintro b (hb | hb | hb | hb | ⟨i, hi, hb | ⟨r, hr, hn, o, e⟩⟩)
    · exact (hT b hb).imp .inl id
    · exact .inl (.inr (.inl hb))
    · exact .inl (.inr (.inr (.inl hb)))
    · exact .inl (.inr (.inr (.inr (.inl hb))))
    · exact .inl (.inr (.inr (.inr (.inr ⟨i, hi, .inl hb⟩))))
    · replace hr : r ∈ upf M.rs j rs i := hr
      by_cases e2 : i = j
      · subst e2
        rw [upf_same] at hr
        rcases hnr r hr with h1 | h1
        · exact .inl (.inr (.inr (.inr (.inr ⟨i, hi, .inr ⟨r, h1, hn, o, e⟩⟩))))
        · exact .inr (h1 hn b o e)
      · rw [upf_other _ _ e2] at hr
        exact .inl (.inr (.inr (.inr (.inr ⟨i, hi, .inr ⟨r, hr, hn, o, e⟩⟩))))
/-- A line's faults, stored. -/
theorem FdM.putFaults (h : FdM w f dev F M) {j : Nat} (hj : j < 4) {fs : List (Int × Int)} {v : Value} (m : Mod (fun b => (M.fv j).ownBlock = some b) w w1)
    (hrow : RowAt w1 144 2 v fs.length (fs.flatMap fCells)) (hnf : ∀ b, v.ownBlock = some b → (M.fv j).ownBlock = some b ∨ w.heap.size ≤ b) :
    FdStep w (w1.setCell ⟨f, 2 + 5 * j + 3, none⟩ v) f dev M { F with W := upf F.W j ⟨fs, (F.W j).ws⟩ } := by
  obtain ⟨cs, hf⟩ := h.head
  have hfl := lt_of_block hf
  have nf : ¬ (M.fv j).ownBlock = some f := fun e => (h.isV hj e).ne h.isF (by decide) rfl
  have hf1 : w1.heap[f]? = some (.cells cs 129 (0, 0)) := (m.block f hfl nf).trans hf
  have hc1 : ∀ o, w1.cell? ⟨f, o, none⟩ = w.cell? ⟨f, o, none⟩ := fun o => m.cell o hfl nf
  obtain ⟨_, _, _, a3, a4⟩ := h.wi j hj
  have m2 : Mod (fun b => b = f ∨ (M.fv j).ownBlock = some b ∨ (M.wv j).ownBlock = some b) w (w1.setCell ⟨f, 2 + 5 * j + 3, none⟩ v) := (m.weak (fun b hb => .inr (.inl hb))).setCell (.inl (.inl rfl)) v
  have nW : ∀ b, (M.wv j).ownBlock = some b → ¬ (M.fv j).ownBlock = some b := fun b hb e => (h.isV hj e).ne (h.isW hj hb) (by decide) rfl
  have hw1 : ∀ b, b ≠ f → ¬ (M.fv j).ownBlock = some b → b < w.heap.size → (w1.setCell ⟨f, 2 + 5 * j + 3, none⟩ v).heap[b]? = w.heap[b]? := fun b h1 h2 h3 => (Below.heap_setCell w1 _ _ _ h1).trans (m.block b h3 h2)
  have key := h.putLine (fs := fs) (rs := M.rs j) (fv := v) (wv := M.wv j) hj m2 ⟨_, sets_block hf1 _ _⟩
    (fun o h1 _ => by rw [World.cell?_setCell_other w1 _ _ _ (fun e => h1 (by injection e with _ e _; exact e.symm))]; exact hc1 o)
    (World.cell?_setCell_same w1 _ _ ((hc1 _).trans a3))
    (by rw [World.cell?_setCell_other w1 _ _ _ (fun e => by injection e with _ e _; omega)]; exact (hc1 _).trans a4)
    (hrow.keep fun b hb => Below.heap_setCell w1 _ _ _ (fun e => by
      subst e
      exact (hrow.is hb).ne ⟨_, _, hf1⟩ (by decide) rfl))
    ((h.wa j hj).keep fun b hb => hw1 b (fun e => by subst e; exact (h.isW hj hb).ne h.isF (by decide) rfl) (nW b hb) (h.isW hj hb).lt)
    hnf (fun b hb => .inl hb)
    (fun r hr => by
      have h1 := h.an j hj r hr
      refine ⟨⟨h1.rd.modS (h1.off.weak ?_) m2, h1.nc, h1.cm, h1.off⟩, fun hn b o e => ⟨fun hb => h1.off hn b o e (.inr (.inr ⟨j, hj, .inr hb⟩)), fun hb => ?_⟩⟩
      · rintro b (rfl | hb | hb)
        · exact .inl rfl
        · exact .inr (.inr ⟨j, hj, .inl hb⟩)
        · exact .inr (.inr ⟨j, hj, .inr hb⟩)
      · rcases hnf b hb with h2 | h2
        · exact h1.off hn b o e (.inr (.inr ⟨j, hj, .inl h2⟩))
        · have := h1.rd.lt_of hn e; omega)
    (fun r hr => .inl hr)
  rw [← h.wp j hj] at key
  exact key
/-- A line's answers, stored. -/
theorem FdM.putWaits (h : FdM w f dev F M) {j : Nat} (hj : j < 4) {rs : List Rm} {v : Value} (m : Mod (fun b => (M.wv j).ownBlock = some b) w w1)
    (hrow : RowAt w1 148 2 v rs.length (rs.flatMap Rm.cells)) (hnw : ∀ b, v.ownBlock = some b → (M.wv j).ownBlock = some b ∨ w.heap.size ≤ b)
    (hrs : ∀ r ∈ rs, r ∈ M.rs j ∨ (RdI w w.heap.size .u8 r.A r.n r.b ∧ r.n ≤ r.c ∧ r.c ≤ maxLen ∧ OffB (M.T f dev.length) r.A r.n)) {w0 : World} (hs : w0.heap.size ≤ w.heap.size) (hup : ∀ r ∈ rs, r ∈ M.rs j ∨ (0 < r.n → ∀ b o, r.A = some ⟨b, o, none⟩ → w0.heap.size ≤ b)) :
    ∃ M', FdM (w1.setCell ⟨f, 2 + 5 * j + 4, none⟩ v) f dev { F with W := upf F.W j ⟨(F.W j).fs, rs.map Rm.p⟩ } M' ∧ Mod (M.T f dev.length) w (w1.setCell ⟨f, 2 + 5 * j + 4, none⟩ v) ∧ Grew w0 (M.T f dev.length) (M'.T f dev.length) ∧ Grew w0 (M.U f dev.length) (M'.U f dev.length) ∧ M'.G = M.G := by
  obtain ⟨cs, hf⟩ := h.head
  have hfl := lt_of_block hf
  have nf : ¬ (M.wv j).ownBlock = some f := fun e => (h.isW hj e).ne h.isF (by decide) rfl
  have hf1 : w1.heap[f]? = some (.cells cs 129 (0, 0)) := (m.block f hfl nf).trans hf
  have hc1 : ∀ o, w1.cell? ⟨f, o, none⟩ = w.cell? ⟨f, o, none⟩ := fun o => m.cell o hfl nf
  obtain ⟨_, _, _, a3, a4⟩ := h.wi j hj
  have m2 : Mod (fun b => b = f ∨ (M.fv j).ownBlock = some b ∨ (M.wv j).ownBlock = some b) w (w1.setCell ⟨f, 2 + 5 * j + 4, none⟩ v) := (m.weak (fun b hb => .inr (.inr hb))).setCell (.inl (.inl rfl)) v
  have nW : ∀ b, (M.fv j).ownBlock = some b → ¬ (M.wv j).ownBlock = some b := fun b hb e => (h.isV hj hb).ne (h.isW hj e) (by decide) rfl
  have hw1 : ∀ b, b ≠ f → ¬ (M.wv j).ownBlock = some b → b < w.heap.size → (w1.setCell ⟨f, 2 + 5 * j + 4, none⟩ v).heap[b]? = w.heap[b]? := fun b h1 h2 h3 => (Below.heap_setCell w1 _ _ _ h1).trans (m.block b h3 h2)
  have hsub : ∀ b, (b = f ∨ (M.fv j).ownBlock = some b ∨ (M.wv j).ownBlock = some b) → M.T f dev.length b := by
    rintro b (rfl | hb | hb)
    · exact .inl rfl
    · exact .inr (.inr ⟨j, hj, .inl hb⟩)
    · exact .inr (.inr ⟨j, hj, .inr hb⟩)
  have hok : ∀ r ∈ rs, r.ok w (M.T f dev.length) := fun r hr => by
    rcases hrs r hr with h1 | ⟨h1, h2, h3, h4⟩
    · exact h.an j hj r h1
    · exact ⟨h1, h2, h3, h4⟩
  have han : ∀ r ∈ rs, r.ok (w1.setCell ⟨f, 2 + 5 * j + 4, none⟩ v) (M.T f dev.length) ∧ (0 < r.n → ∀ b o, r.A = some ⟨b, o, none⟩ → v.ownBlock ≠ some b ∧ (M.fv j).ownBlock ≠ some b) := fun r hr => by
    have h1 := hok r hr
    refine ⟨⟨h1.rd.modS (h1.off.weak hsub) m2, h1.nc, h1.cm, h1.off⟩, fun hn b o e => ⟨fun hb => ?_, fun hb => h1.off hn b o e (.inr (.inr ⟨j, hj, .inl hb⟩))⟩⟩
    rcases hnw b hb with h2 | h2
    · exact h1.off hn b o e (.inr (.inr ⟨j, hj, .inr h2⟩))
    · have := h1.rd.lt_of hn e; omega
  have hT := h.turnLine (fs := (F.W j).fs) (rs := rs) (fv := M.fv j) (wv := v) hj m2 ⟨_, sets_block hf1 _ _⟩
    (fun o _ h1 => by rw [World.cell?_setCell_other w1 _ _ _ (fun e => h1 (by injection e with _ e _; exact e.symm))]; exact hc1 o)
    (by rw [World.cell?_setCell_other w1 _ _ _ (fun e => by injection e with _ e _; omega)]; exact (hc1 _).trans a3)
    (World.cell?_setCell_same w1 _ _ ((hc1 _).trans a4))
    ((h.fa j hj).keep fun b hb => hw1 b (fun e => by subst e; exact (h.isV hj hb).ne h.isF (by decide) rfl) (nW b hb) (h.isV hj hb).lt)
    (hrow.keep fun b hb => Below.heap_setCell w1 _ _ _ (fun e => by
      subst e
      exact (hrow.is hb).ne ⟨_, _, hf1⟩ (by decide) rfl))
    (fun b hb => .inl hb) hnw han
  have hTT : ∀ b, Fdm.T { M with fv := upf M.fv j (M.fv j), wv := upf M.wv j v, rs := upf M.rs j rs } f dev.length b → M.T f dev.length b ∨ w0.heap.size ≤ b := fun b hb => by
    rcases hb with rfl | hb | ⟨i, hi, hb | hb⟩
    · exact .inl (.inl rfl)
    · exact .inl (.inr (.inl hb))
    · replace hb : (upf M.fv j (M.fv j) i).ownBlock = some b := hb
      rw [upf_self] at hb
      exact .inl (.inr (.inr ⟨i, hi, .inl hb⟩))
    · by_cases e : i = j
      · subst e
        replace hb : (upf M.wv i v i).ownBlock = some b := hb
        rw [upf_same] at hb
        exact (hnw b hb).imp (fun h1 => .inr (.inr ⟨i, hi, .inr h1⟩)) (fun h1 => by omega)
      · replace hb : (upf M.wv j v i).ownBlock = some b := hb
        rw [upf_other _ _ e] at hb
        exact .inl (.inr (.inr ⟨i, hi, .inr hb⟩))
  refine ⟨_, hT, m2.weak hsub, hTT, ?_, rfl⟩
  rintro b (hb | hb | hb | hb | ⟨i, hi, hb | ⟨r, hr, hn, o, e⟩⟩)
  · exact (hTT b hb).imp .inl id
  · exact .inl (.inr (.inl hb))
  · exact .inl (.inr (.inr (.inl hb)))
  · exact .inl (.inr (.inr (.inr (.inl hb))))
  · exact .inl (.inr (.inr (.inr (.inr ⟨i, hi, .inl hb⟩))))
  · replace hr : r ∈ upf M.rs j rs i := hr
    by_cases e2 : i = j
    · subst e2
      rw [upf_same] at hr
      rcases hup r hr with h1 | h1
      · exact .inl (.inr (.inr (.inr (.inr ⟨i, hi, .inr ⟨r, h1, hn, o, e⟩⟩))))
      · exact .inr (h1 hn b o e)
    · rw [upf_other _ _ e2] at hr
      exact .inl (.inr (.inr (.inr (.inr ⟨i, hi, .inr ⟨r, hr, hn, o, e⟩⟩))))
end
theorem twoMod (w : World) (i : Nat) (b0 b1 : Value) : Mod (fun j => j = i) w ((w.setCell ⟨i, 0, none⟩ b0).setCell ⟨i, 1, none⟩ b1) :=
  ((Mod.refl (fun j => j = i) w).setCell (p := ⟨i, 0, none⟩) (.inl rfl) _).setCell (p := ⟨i, 1, none⟩) (.inl rfl) _
theorem info_fault : ∃ i, Try.prog.info? 144 = some i ∧ i.zero = some (.agg #[.int .i64 0, .int .i64 0]) ∧ i.size = 2 ∧ i.bytes = 16 := by
  have h : (Try.prog.info? 144).map (fun i => (i.zero, i.size, i.bytes)) = some (some (.agg #[.int .i64 0, .int .i64 0]), 2, 16) := by kernel_rfl
  obtain ⟨i, hi, hb⟩ := Option.map_eq_some_iff.1 h
  simp only [Prod.mk.injEq] at hb
  exact ⟨i, hi, hb.1, hb.2.1, hb.2.2⟩
theorem info_reply : ∃ i, Try.prog.info? 148 = some i ∧ i.zero = some (.agg #[.int .i64 0, .slice none 0 0]) ∧ i.size = 2 ∧ i.bytes = 32 := by
  have h : (Try.prog.info? 148).map (fun i => (i.zero, i.size, i.bytes)) = some (some (.agg #[.int .i64 0, .slice none 0 0]), 2, 32) := by kernel_rfl
  obtain ⟨i, hi, hb⟩ := Option.map_eq_some_iff.1 h
  simp only [Prod.mk.injEq] at hb
  exact ⟨i, hi, hb.1, hb.2.1, hb.2.2⟩
end Go.Proofs.Ytgagpalffdgjnaa
namespace Go.Proofs.Ytgagpalffdgjnaa
open Go.RowKit

def faultOk (F : Fp) (l k n : Int) : Bool := decide (0 ≤ l ∧ l < 4 ∧ 1 ≤ k ∧ k ≤ 4 ∧ 0 ≤ n ∧ n ≤ 1099511627776 ∧ (F.W l.toNat).fs.length < 1000)
/-- A fault is to come. -/
def faultF (F : Fp) (l k n : Int) : Fp := if faultOk F l k n = true then { F with W := upf F.W l.toNat ⟨(F.W l.toNat).fs ++ [(k, n)], (F.W l.toNat).ws⟩ } else F
section
variable {w w' : World} {f : Nat} {dev : List (Int × Int)} {F : Fp} {M : Fdm}
set_option maxRecDepth 100000 in
set_option maxHeartbeats 1600000 in
theorem fieldFault_m (h : FdM w f dev F M) (l k n : Int) :
    Calls Try.prog 28 #[.pointer (some ⟨f, 0, none⟩), .int .i64 l, .int .i64 k, .int .i64 n] w fun e w' => e = .returned (.bool (faultOk F l k n)) ∧ FdStep w w' f dev M (faultF F l k n) := by
  have hno : faultOk F l k n = false → faultF F l k n = F := fun e => by unfold faultF; rw [e]; rfl
  by_cases hl : 0 ≤ l ∧ l < 4
  rotate_left
  · have hw := wire_no f l w hl
    have e1 : faultOk F l k n = false := by unfold faultOk; simp; omega
    rw [hno e1, e1]
    have hs := Lib.hid (FdStep.stay h (Ext.refl w))
    clear h hno e1 hl
    go_enter Try.func28, Try.ntmps28
    go_wp2_with fail
    refine hw.mono ?_
    rintro e w' ⟨rfl, rfl⟩
    go_wp2_with fail
    go_ret
    exact ⟨rfl, hs.out⟩
  obtain ⟨j, rfl⟩ : ∃ j : Nat, l = j := ⟨l.toNat, by omega⟩
  have hj : j < 4 := by omega
  have hw := wire_yes f j w hj
  obtain ⟨_, _, _, c3, _⟩ := h.wi j hj
  have hrow := h.fa j hj
  obtain ⟨A, c, hv, hnc, hcm⟩ := hrow.shape
  have c3' := c3
  rw [hv] at c3'
  by_cases hok : faultOk F (j : Int) k n = true
  rotate_left
  · have e1 : faultOk F (j : Int) k n = false := by simpa using hok
    rw [hno e1, e1]
    have hs := Lib.hid (FdStep.stay h (Ext.refl w))
    have hway : (k < 1) ∨ (¬ k < 1 ∧ 4 < k) ∨ (¬ k < 1 ∧ ¬ 4 < k ∧ n < 0) ∨ (¬ k < 1 ∧ ¬ 4 < k ∧ ¬ n < 0 ∧ 1099511627776 < n) ∨ (¬ k < 1 ∧ ¬ 4 < k ∧ ¬ n < 0 ∧ ¬ 1099511627776 < n ∧ 1000 ≤ (F.W j).fs.length) := by
      unfold faultOk at e1
      rw [Int.toNat_natCast] at e1
      have := of_decide_eq_false e1
      omega
    clear h hno hok e1 hl hrow hv c3 hnc hcm
    generalize 2 + 5 * j = q at *
    generalize (F.W j).fs.length = m at *
    rcases hway with t1 | ⟨t1, t2⟩ | ⟨t1, t2, t3⟩ | ⟨t1, t2, t3, t4⟩ | ⟨t1, t2, t3, t4, t5⟩
    · have d1 : decide (k < 1) = true := by simpa using t1
      go_enter Try.func28, Try.ntmps28
      go_wp2_with fail
      refine hw.mono ?_
      rintro e w' ⟨rfl, rfl⟩
      go_wp2_with fail
      go_ret
      exact ⟨rfl, hs.out⟩
    · have d1 : decide (k < 1) = false := by simpa using t1
      have d2 : decide (4 < k) = true := by simpa using t2
      go_enter Try.func28, Try.ntmps28
      go_wp2_with fail
      refine hw.mono ?_
      rintro e w' ⟨rfl, rfl⟩
      go_wp2_with fail
      go_ret
      exact ⟨rfl, hs.out⟩
    · have d1 : decide (k < 1) = false := by simpa using t1
      have d2 : decide (4 < k) = false := by simpa using t2
      have d3 : decide (n < 0) = true := by simpa using t3
      go_enter Try.func28, Try.ntmps28
      go_wp2_with fail
      refine hw.mono ?_
      rintro e w' ⟨rfl, rfl⟩
      go_wp2_with fail
      go_ret
      exact ⟨rfl, hs.out⟩
    · have d1 : decide (k < 1) = false := by simpa using t1
      have d2 : decide (4 < k) = false := by simpa using t2
      have d3 : decide (n < 0) = false := by simpa using t3
      have d4 : decide (1099511627776 < n) = true := by simpa using t4
      go_enter Try.func28, Try.ntmps28
      go_wp2_with fail
      refine hw.mono ?_
      rintro e w' ⟨rfl, rfl⟩
      go_wp2_with fail
      go_ret
      exact ⟨rfl, hs.out⟩
    · have d1 : decide (k < 1) = false := by simpa using t1
      have d2 : decide (4 < k) = false := by simpa using t2
      have d3 : decide (n < 0) = false := by simpa using t3
      have d4 : decide (1099511627776 < n) = false := by simpa using t4
      have d5 : decide ((1000 : Int) ≤ (m : Int)) = true := by simp; omega
      go_enter Try.func28, Try.ntmps28
      go_wp2_with fail
      refine hw.mono ?_
      rintro e w' ⟨rfl, rfl⟩
      go_wp2_with fail
      go_ret
      exact ⟨rfl, hs.out⟩
  · have e2 : faultF F (j : Int) k n = { F with W := upf F.W j ⟨(F.W j).fs ++ [(k, n)], (F.W j).ws⟩ } := by unfold faultF; rw [if_pos hok, Int.toNat_natCast]
    rw [e2, hok]
    have hway : ¬ k < 1 ∧ ¬ 4 < k ∧ ¬ n < 0 ∧ ¬ 1099511627776 < n ∧ (F.W j).fs.length < 1000 := by
      unfold faultOk at hok
      rw [Int.toNat_natCast] at hok
      have := of_decide_eq_true hok
      omega
    obtain ⟨t1, t2, t3, t4, t5⟩ := hway
    have d1 : decide (k < 1) = false := by simpa using t1
    have d2 : decide (4 < k) = false := by simpa using t2
    have d3 : decide (n < 0) = false := by simpa using t3
    have d4 : decide (1099511627776 < n) = false := by simpa using t4
    have d5 : decide ((1000 : Int) ≤ ((F.W j).fs.length : Int)) = false := by simp; omega
    have hput := fun w1 v => h.putFaults (w1 := w1) (fs := (F.W j).fs ++ [(k, n)]) (v := v) hj
    have hput' := Lib.hid hput
    have hE : Ext w (w.alloc (.cells #[.int .i64 k, .int .i64 n] 144)) := (Ext.refl w).goA _
    have hrow1 := hrow.ext hE
    rw [hv] at hrow1
    have hnew := heap_alloc_new w (.cells #[.int .i64 k, .int .i64 n] 144)
    obtain ⟨cs, hf⟩ := h.head
    have hfl := lt_of_block hf
    have nf : ¬ (Value.slice A (F.W j).fs.length c).ownBlock = some f := fun e => (h.isV hj (by rw [hv]; exact e)).ne h.isF (by decide) rfl
    have hvl : ∀ b, (M.fv j).ownBlock = some b → b < w.heap.size := fun b hb => (h.isV hj hb).lt
    have hvl' := Lib.hid hvl
    have nf' := Lib.hid nf
    have hrow' := Lib.hid hrow1
    have hnew' := Lib.hid hnew
    have hE' := Lib.hid hE
    have hv' := Lib.hid hv
    have hf' := Lib.hid hf
    have t5' : (F.W j).fs.length < 1000 := t5
    have hcl : ((F.W j).fs.flatMap fCells).length = (F.W j).fs.length * 2 := fCells_len _
    clear h hno hok e2 hl hrow hv hnc hcm hput hE hrow1 hnew hf nf hvl c3
    obtain ⟨i, hi, hz, h4, hb⟩ := info_fault
    generalize hq : 2 + 5 * j = q at *
    generalize (F.W j).fs.length = m at *
    go_enter Try.func28, Try.ntmps28
    go_wp2_with fail
    refine hw.mono ?_
    rintro e w' ⟨rfl, rfl⟩
    go_wp2_with (at_builtin; refine wpList_append_rowAt rfl (.tmp 43) (.tmp 47) _ rfl 144 i _ 2 16 Try.underlying123 hi hz h4 hb rfl (by decide) _ m _ rfl hrow'.out ⟨w.heap.size, 0, none⟩ 1 [.int .i64 k, .int .i64 n] rfl rfl (cell_two_at hnew'.out) ?c1 ?c2 ?c3 ?_)
    case c1 => intro u hu; simp at hu; rcases hu with rfl | rfl <;> rfl
    case c2 => unfold maxLen; omega
    case c3 => omega
    intro v' w1 hr hm hat
    have mall : Mod (fun b => (M.fv j).ownBlock = some b) w w1 := by
      rw [hv'.out]
      exact (hE'.out.mod _).trans hm
    have hnf : ∀ b, v'.ownBlock = some b → (M.fv j).ownBlock = some b ∨ w.heap.size ≤ b := fun b hb => by
      rw [hv'.out]
      rcases hat with h1 | h1
      · exact .inl (h1.symm.trans hb)
      · rw [hb, Option.some.injEq] at h1
        exact .inr (by omega)
    have hfin := Lib.hid (hput'.out w1 v' mall (by
      rw [List.flatMap_append, List.length_append, show [(k, n)].flatMap fCells = [.int .i64 k, .int .i64 n] from rfl]
      have hlen := hr.1
      rw [List.length_append, hcl] at hlen
      have : (F.W j).fs.length = m := by
        have := fCells_len (F.W j).fs
        omega
      rw [this]
      exact hr) hnf)
    obtain ⟨A', c', rfl, _, _⟩ := hr.shape
    have nf1 : ¬ (M.fv j).ownBlock = some f := by rw [hv'.out]; exact nf'.out
    have k3 : w1.cell? ⟨f, q + 3, none⟩ = some (.slice A m c) := (mall.cell _ hfl nf1).trans c3'
    have z3 : w1.frozen? ⟨f, q + 3, none⟩ = false := (mall.frozen _ hfl nf1).trans (frozen_block hf'.out _)
    clear hr hm hat mall hnf hput' hrow' hnew' hE' hv' nf1 nf' hf' hvl' c3' hw
    go_wp2_with fail
    go_ret
    exact ⟨rfl, hfin.out⟩
theorem two_laid (W : World) (o1 o2 : Obj) : ((W.alloc o1).alloc o2).heap[W.heap.size]? = some o1 := by
  rw [alloc_get, if_neg (by simp), alloc_get, if_pos rfl]
/-- A line without its first fault; and that fault. -/
def nextX (W : Wi) : Int × Int := W.fs.headD (0, 0)
def nextW (W : Wi) : Wi := ⟨W.fs.drop 1, W.ws⟩
set_option maxRecDepth 100000 in
set_option maxHeartbeats 1600000 in
theorem next_m (h : FdM w f dev F M) {j : Nat} (hj : j < 4) :
    Calls Try.prog 63 #[.pointer (some ⟨f, 2 + 5 * j, none⟩)] w fun e w' => e = .returned (.agg #[.int .i64 (nextX (F.W j)).1, .int .i64 (nextX (F.W j)).2]) ∧ FdStep w w' f dev M { F with W := upf F.W j (nextW (F.W j)) } := by
  obtain ⟨_, _, _, c3, _⟩ := h.wi j hj
  have hrow := h.fa j hj
  have E0 : Ext w (w.alloc (.cells #[.int .i64 0, .int .i64 0] 144)) := (Ext.refl w).goA _
  have P0 := heap_alloc_new w (.cells #[.int .i64 0, .int .i64 0] 144)
  obtain ⟨cs, hf⟩ := h.head
  have hfl := lt_of_block hf
  cases hfs : (F.W j).fs with
  | nil =>
    have e1 : nextX (F.W j) = (0, 0) := by unfold nextX; rw [hfs]; rfl
    have e2 : nextW (F.W j) = F.W j := by unfold nextW; rw [hfs, List.drop_nil, ← hfs]
    rw [e1, e2, upf_self]
    obtain ⟨A, c, hv, _, _⟩ := hrow.shape
    rw [hfs] at hv
    have c3' := (E0.cell _ hfl).trans (hv ▸ c3)
    have hs := fun w' (E : Ext w w') => FdStep.stay h E
    have hs' := Lib.hid hs
    have z0 : (w.alloc (.cells #[.int .i64 0, .int .i64 0] 144)).cell? ⟨w.heap.size, 0, none⟩ = some (.int .i64 0) := cellsAt P0 0
    have z1 : (w.alloc (.cells #[.int .i64 0, .int .i64 0] 144)).cell? ⟨w.heap.size, 1, none⟩ = some (.int .i64 0) := cellsAt P0 1
    have ff := fun o => frozen_block P0 o
    have P0' := Lib.hid P0
    have E0' := Lib.hid E0
    clear h hrow c3 hv hf e1 e2 hfs hs P0 E0
    generalize 2 + 5 * j = q at *
    rw [List.length_nil] at c3'
    go_enter Try.func63, Try.ntmps63
    go_wp2_with fail
    refine bodyPost_ret (v := .agg #[.int .i64 0, .int .i64 0]) (by simp [results, Try.results63, go_sem, z0, z1]) rfl ?_
    exact ⟨rfl, hs'.out _ E0'.out⟩
  | cons x fs =>
    have e1 : nextX (F.W j) = x := by unfold nextX; rw [hfs]; rfl
    have e2 : nextW (F.W j) = ⟨fs, (F.W j).ws⟩ := by unfold nextW; rw [hfs]; rfl
    rw [e1, e2]
    obtain ⟨x1, x2⟩ := x
    rw [hfs] at hrow
    obtain ⟨b, o, cap, hv, hbl, hn, hm, hty, hc⟩ := hrow.at_ (by rw [List.length_cons]; omega)
    rw [List.length_cons] at hv hn hc
    have y0 : w.cell? ⟨b, o, none⟩ = some (.int .i64 x1) := hc 0 (by omega)
    have y1 : w.cell? ⟨b, o + 1, none⟩ = some (.int .i64 x2) := hc 1 (by omega)
    have c3' : w.cell? ⟨f, 2 + 5 * j + 3, none⟩ = some (.slice (some ⟨b, o, none⟩) (fs.length + 1) cap) := hv ▸ c3
    rw [hv, List.length_cons] at hrow
    have E1 : Ext w ((w.alloc (.cells #[.int .i64 0, .int .i64 0] 144)).alloc (.cells #[.int .i64 x1, .int .i64 x2] 144)) := E0.goA _
    have hput := fun v hr hnf => (h.putFaults (fs := fs) (v := v) hj (Mod.refl _ w) hr hnf).upto (((Ext.refl _).goA (.cells #[.int .i64 x1, .int .i64 x2] 144)).goA (.cells #[.int .i64 x1, .int .i64 x2] 144))
    have hown : ∀ o', (∀ b', (Value.slice (some ⟨b, o', none⟩) fs.length (cap - 1)).ownBlock = some b' → (M.fv j).ownBlock = some b' ∨ w.heap.size ≤ b') := fun o' b' hb => .inl (by rw [hv]; exact hb)
    have S1 := fun (hc1 : cap = 1) => hput _ (hrow.tail (.inr ⟨hc1, rfl⟩)) (hown o)
    have S2 := hput _ (hrow.tail (.inl rfl)) (hown (o + 2))
    have S1' := Lib.hid S1
    have S2' := Lib.hid S2
    have y0' := (E0.cell _ hbl).trans y0
    have y1' := (E0.cell _ hbl).trans y1
    have c3a := (E0.cell _ hfl).trans c3'
    have c3b := (E1.cell _ hfl).trans c3'
    have z3 := (E1.frozen (2 + 5 * j + 3) hfl).trans (frozen_block hf _)
    have hlast := fun v => two_laid (w.setCell ⟨f, 2 + 5 * j + 3, none⟩ v) (.cells #[.int .i64 x1, .int .i64 x2] 144) (.cells #[.int .i64 x1, .int .i64 x2] 144)
    have hlast' := Lib.hid hlast
    clear h hrow c3 hv e1 e2 hfs hput hown S1 S2 hc hf y0 y1 c3' hty hlast
    generalize 2 + 5 * j = q at *
    generalize fs.length = m at *
    by_cases hcap : cap = 1
    · have hm0 : m = 0 := by omega
      subst hcap
      subst hm0
      have S3 := Lib.hid (S1'.out rfl)
      clear S1' S2'
      go_enter Try.func63, Try.ntmps63
      go_wp2_with fail
      have hl := hlast'.out (.slice (some ⟨b, o, none⟩) 0 0)
      rw [setCell_sizeB] at hl
      refine bodyPost_ret (v := .agg #[.int .i64 x1, .int .i64 x2]) (by simp [results, Try.results63, go_sem, cellsAt hl 0, cellsAt hl 1]) rfl ?_
      exact ⟨rfl, S3.out⟩
    · clear S1'
      have hc1 : ¬ cap = 1 := hcap
      have hc2 : (1 : Int) ≤ ((m + 1 : Nat) : Int) := by omega
      have hc3 : ((m + 1 : Nat) : Int) ≤ (cap : Int) := by omega
      go_enter Try.func63, Try.ntmps63
      go_wp2_with fail
      have hl := hlast'.out (.slice (some ⟨b, o + 2, none⟩) m (cap - 1))
      rw [setCell_sizeB] at hl
      refine bodyPost_ret (v := .agg #[.int .i64 x1, .int .i64 x2]) (by simp [results, Try.results63, go_sem, cellsAt hl 0, cellsAt hl 1]) rfl ?_
      exact ⟨rfl, S2'.out⟩
end
end Go.Proofs.Ytgagpalffdgjnaa
