/- Layer 8, the reference's parser in memory; what is appended; fresh. Printed by gen/r8f.py. -/
import Derived.Test.YtgajbgdkgelkgaaGreatR8E
namespace Go.Proofs.YtgajbgdkgelkgaaGreat
open Go.RowKit

/-- A slice of places, that is read, in memory of the parser's own. -/
structure Inn (w : World) (g : Nat) (A : Option Addr) (n c : Nat) (ps : List Int) : Prop where
  rd : RdI w w.heap.size .i64 A n ps
  cap : n ≤ c ∧ c ≤ maxLen
  at_ : ∀ b o, A = some ⟨b, o, none⟩ → g < b ∧ ∃ cs, w.heap[b]? = some (.cells cs 3 (0, 0))
theorem Inn.keep {w w' : World} {g : Nat} {A : Option Addr} {n c : Nat} {ps : List Int} (h : Inn w g A n c ps) (hs : w.heap.size ≤ w'.heap.size) (hk : ∀ b cs, g < b → w.heap[b]? = some (.cells cs 3 (0, 0)) → w'.heap[b]? = w.heap[b]?) : Inn w' g A n c ps := by
  have hb : ∀ b o, A = some ⟨b, o, none⟩ → w'.heap[b]? = w.heap[b]? := fun b o e => by
    obtain ⟨h1, cs, h2⟩ := h.at_ b o e
    exact hk b cs h1 h2
  refine ⟨⟨h.rd.1, fun hn => ?_⟩, h.cap, fun b o e => ?_⟩
  · obtain ⟨b, o, e, h1, h2⟩ := h.rd.2 hn
    exact ⟨b, o, e, by omega, fun j hj => (World.cell?_of_block (a := ⟨b, o + j, none⟩) (hb b o e)).trans (h2 j hj)⟩
  · obtain ⟨h1, cs, h2⟩ := h.at_ b o e
    exact ⟨h1, cs, (hb b o e).trans h2⟩
theorem own_isR {w : World} {base n size : Nat} {e : TypeId} {v : Value} {xs : List Value} (h : w.ownsRow base e size v n xs) {b : Nat} (hb : v.ownBlock = some b) : base ≤ b ∧ ∃ cs, w.heap[b]? = some (.cells cs e (0, 0)) := by
  have hl := h.lt b hb
  rcases h.2 with ⟨rfl, -⟩ | ⟨g, cap, cur, rfl, h1, h2, -⟩
  · cases hb
  · cases hb; exact ⟨h1, cur, h2⟩
theorem own_keepR {w w' : World} {base n size : Nat} {e : TypeId} {v : Value} {xs : List Value} (h : w.ownsRow base e size v n xs) (hk : ∀ b cs, base ≤ b → w.heap[b]? = some (.cells cs e (0, 0)) → w'.heap[b]? = w.heap[b]?) : w'.ownsRow base e size v n xs := by
  refine ⟨h.1, ?_⟩
  rcases h.2 with hn | ⟨g, cap, cur, hv, hb, hg, rest⟩
  · exact .inl hn
  · exact .inr ⟨g, cap, cur, hv, hb, (hk g cur hb hg).trans hg, rest⟩
theorem own_atR {w : World} {base n size c : Nat} {e : TypeId} {A : Option Addr} {xs : List Value} (h : w.ownsRow base e size (.slice A n c) n xs) : (n ≤ c ∧ c ≤ maxLen) ∧ ∀ b o, A = some ⟨b, o, none⟩ → base ≤ b := by
  rcases h.2 with ⟨hv, rfl⟩ | ⟨g, cap, cur, hv, h1, h2, h3, h4, -⟩
  · cases hv; exact ⟨⟨Nat.le_refl _, by unfold maxLen; omega⟩, fun b o e => by cases e⟩
  · cases hv; exact ⟨⟨h3, h4⟩, fun b o e => by cases e; exact h1⟩
structure HasPs (w : World) (g : Nat) (m : Mx) (wt ky : Bool) (e : Int) : Prop where
  hd : PsHd w g m wt ky e
  dv : w.ownsRow (g + 1) 89 3 (.slice m.Ad m.nd m.cd) m.nd (m.dvs.flatMap Dv.cells)
  pt : w.ownsRow (g + 1) 35 6 (.slice m.Ap m.np m.cp) m.np (m.pts.flatMap Pt.cells)
  ca : w.ownsRow (g + 1) 87 5 (.slice m.Ac m.nc m.cc) m.nc (m.cas.flatMap Ca.cells)
  ef : w.ownsRow (g + 1) 59 5 (.slice m.Ae m.ne m.ce) m.ne (m.efs.flatMap Ef.cells)
  ci : ∀ x ∈ m.cas, Inn w g x.A x.n x.c x.ps
  ei : ∀ x ∈ m.efs, Inn w g x.A x.n x.c x.ps
  ld : m.dvs.length = m.nd
  lp : m.pts.length = m.np
  lc : m.cas.length = m.nc
  le : m.efs.length = m.ne
  nsz : ∀ s ∈ namesOf m, s.size ≤ maxLen
  ksz : m.key.size ≤ maxLen
section
variable {w w' : World} {g : Nat} {m : Mx} {wt ky wt' ky' : Bool} {e e' : Int}
theorem HasPs.ok (h : HasPs w g m wt ky e) : OkMx w w.heap.size m := by
  refine ⟨?_, ?_, ?_, ?_, fun x hx => ⟨(h.ci x hx).rd, (h.ci x hx).cap⟩, fun x hx => ⟨(h.ei x hx).rd, (h.ei x hx).cap⟩, (own_atR h.dv).1, (own_atR h.pt).1, (own_atR h.ca).1, (own_atR h.ef).1⟩
  · obtain ⟨A, c, e, -, hr, -⟩ := own_rdC (cells := Dv.cells) h.dv h.ld rfl (fun _ => rfl); cases e; exact hr
  · obtain ⟨A, c, e, -, hr, -⟩ := own_rdC (cells := Pt.cells) h.pt h.lp rfl (fun _ => rfl); cases e; exact hr
  · obtain ⟨A, c, e, -, hr, -⟩ := own_rdC (cells := Ca.cells) h.ca h.lc rfl (fun _ => rfl); cases e; exact hr
  · obtain ⟨A, c, e, -, hr, -⟩ := own_rdC (cells := Ef.cells) h.ef h.le rfl (fun _ => rfl); cases e; exact hr
theorem HasPs.keep (h : HasPs w g m wt ky e) (hs : w.heap.size ≤ w'.heap.size) (hd : PsHd w' g m wt' ky' e') (hk : ∀ b, g < b → b < w.heap.size → w'.heap[b]? = w.heap[b]?) : HasPs w' g m wt' ky' e' :=
  have hk' : ∀ {t : TypeId} b (cs : Array Value), g + 1 ≤ b → w.heap[b]? = some (.cells cs t (0, 0)) → w'.heap[b]? = w.heap[b]? := fun b _ h1 h2 => hk b h1 (lt_of_block h2)
  ⟨hd, own_keepR h.dv hk', own_keepR h.pt hk', own_keepR h.ca hk', own_keepR h.ef hk', fun x hx => (h.ci x hx).keep hs hk', fun x hx => (h.ei x hx).keep hs hk', h.ld, h.lp, h.lc, h.le, h.nsz, h.ksz⟩
theorem HasPs.ext (h : HasPs w g m wt ky e) (E : Ext w w') : HasPs w' g m wt ky e := h.keep E.size (h.hd.ext E) fun b _ hb => E.block b hb
theorem HasPs.modG (h : HasPs w g m wt ky e) (M : Mod (fun b => b = g) w w') (hd : PsHd w' g m wt' ky' e') : HasPs w' g m wt' ky' e' := h.keep M.size hd fun b h1 hb => M.block b hb (by omega)
/-- The numbers, and the key, turn. -/
theorem HasPs.turn (h : HasPs w g m wt ky e) (M : Mod (fun b => b = g) w w') {rt wn bk cy : Int} {key : ByteArray} (hd : PsHd w' g { m with rt := rt, wt := wn, bk := bk, cy := cy, key := key } wt' ky' e') (hkz : key.size ≤ maxLen) : HasPs w' g { m with rt := rt, wt := wn, bk := bk, cy := cy, key := key } wt' ky' e' :=
  have hk' : ∀ {t : TypeId} b (cs : Array Value), g + 1 ≤ b → w.heap[b]? = some (.cells cs t (0, 0)) → w'.heap[b]? = w.heap[b]? := fun b _ h1 h2 => M.block b (lt_of_block h2) (by omega)
  ⟨hd, own_keepR h.dv hk', own_keepR h.pt hk', own_keepR h.ca hk', own_keepR h.ef hk', fun x hx => (h.ci x hx).keep M.size hk', fun x hx => (h.ei x hx).keep M.size hk', h.ld, h.lp, h.lc, h.le, h.nsz, hkz⟩
/-- One more is appended. -/
theorem HasPs.addDv (h : HasPs w g m wt ky e) {w2 : World} {d : Dv} {A2 : Option Addr} {c2 : Nat} (hz : d.nm.size ≤ maxLen) (own2 : w2.ownsRow (g + 1) 89 3 (.slice A2 (m.nd + 1) c2) (m.nd + 1) (m.dvs.flatMap Dv.cells ++ Dv.cells d)) (hg : w.grownBy w2 (Value.slice m.Ad m.nd m.cd).ownBlock) :
    HasPs (w2.setCell ⟨g, 5, none⟩ (.slice A2 (m.nd + 1) c2)) g { m with Ad := A2, nd := m.nd + 1, cd := c2, dvs := m.dvs ++ [d] } wt ky e ∧ Mod (fun b => g ≤ b) w (w2.setCell ⟨g, 5, none⟩ (.slice A2 (m.nd + 1) c2)) := by
  have M1 : Mod (fun b => (Value.slice m.Ad m.nd m.cd).ownBlock = some b) w w2 := (Mod.refl _ w).grown hg fun k hk => .inl hk
  have hgw := h.hd.lt
  have hB : PsHd w2 g m wt ky e := (M1.block g hgw (fun hb => by have := (own_isR h.dv hb).1; omega)).trans h.hd
  have M2 : Mod (fun b => b = g) w2 (w2.setCell ⟨g, 5, none⟩ (.slice A2 (m.nd + 1) c2)) := (Mod.refl (fun b => b = g) w2).setCell (p := ⟨g, 5, none⟩) (.inl rfl) _
  have hk1 : ∀ {t : TypeId} b (cs : Array Value), t ≠ 89 → g + 1 ≤ b → w.heap[b]? = some (.cells cs t (0, 0)) → (w2.setCell ⟨g, 5, none⟩ (.slice A2 (m.nd + 1) c2)).heap[b]? = w.heap[b]? := fun b cs ht h1 h2 => by
    have hlt := lt_of_block h2
    have hne : ¬ (Value.slice m.Ad m.nd m.cd).ownBlock = some b := fun hb => by
      obtain ⟨-, cs', h3⟩ := own_isR h.dv hb
      rw [h2] at h3; cases h3; exact ht rfl
    exact (M2.block b (Nat.lt_of_lt_of_le hlt M1.size) (by omega)).trans (M1.block b hlt hne)
  have hsz : w.heap.size ≤ (w2.setCell ⟨g, 5, none⟩ (.slice A2 (m.nd + 1) c2)).heap.size := Nat.le_trans M1.size M2.size
  have hhd : PsHd (w2.setCell ⟨g, 5, none⟩ (.slice A2 (m.nd + 1) c2)) g { m with Ad := A2, nd := m.nd + 1, cd := c2, dvs := m.dvs ++ [d] } wt ky e := by have := sets_block hB 5 (.slice A2 (m.nd + 1) c2); simpa [PsHd] using this
  have hown : (w2.setCell ⟨g, 5, none⟩ (.slice A2 (m.nd + 1) c2)).ownsRow (g + 1) 89 3 (.slice A2 (m.nd + 1) c2) (m.nd + 1) ((m.dvs ++ [d]).flatMap Dv.cells) := by
    rw [List.flatMap_append, List.flatMap_cons, List.flatMap_nil, List.append_nil]
    exact own_keepR own2 fun b cs h1 h2 => M2.block b (lt_of_block h2) (by omega)
  refine ⟨⟨hhd, hown, own_keepR h.pt (fun b cs => hk1 b cs (by decide)), own_keepR h.ca (fun b cs => hk1 b cs (by decide)), own_keepR h.ef (fun b cs => hk1 b cs (by decide)), fun x hx => (h.ci x hx).keep hsz (fun b cs h1 => hk1 b cs (by decide) h1), fun x hx => (h.ei x hx).keep hsz (fun b cs h1 => hk1 b cs (by decide) h1), by show (m.dvs ++ [d]).length = m.nd + 1; rw [List.length_append, h.ld]; rfl, h.lp, h.lc, h.le, fun s hs => ?_, h.ksz⟩, (M1.weak fun b hb => by have := (own_isR h.dv hb).1; omega).step M2 fun b hb => .inl (by omega)⟩
  have : s ∈ namesOf m ∨ s = d.nm := by
    unfold namesOf at hs ⊢
    simp only [List.mem_append, List.map_append, List.map_cons, List.map_nil, List.mem_singleton] at hs ⊢
    rcases hs with ((hs | hs) | hs) | hs <;> first | (rcases hs with hs | hs) | skip
    all_goals simp [hs]
  rcases this with h1 | rfl
  · exact h.nsz s h1
  · exact hz
/-- One more is appended. -/
theorem HasPs.addPt (h : HasPs w g m wt ky e) {w2 : World} {d : Pt} {A2 : Option Addr} {c2 : Nat} (hz : d.nm.size ≤ maxLen) (own2 : w2.ownsRow (g + 1) 35 6 (.slice A2 (m.np + 1) c2) (m.np + 1) (m.pts.flatMap Pt.cells ++ Pt.cells d)) (hg : w.grownBy w2 (Value.slice m.Ap m.np m.cp).ownBlock) :
    HasPs (w2.setCell ⟨g, 6, none⟩ (.slice A2 (m.np + 1) c2)) g { m with Ap := A2, np := m.np + 1, cp := c2, pts := m.pts ++ [d] } wt ky e ∧ Mod (fun b => g ≤ b) w (w2.setCell ⟨g, 6, none⟩ (.slice A2 (m.np + 1) c2)) := by
  have M1 : Mod (fun b => (Value.slice m.Ap m.np m.cp).ownBlock = some b) w w2 := (Mod.refl _ w).grown hg fun k hk => .inl hk
  have hgw := h.hd.lt
  have hB : PsHd w2 g m wt ky e := (M1.block g hgw (fun hb => by have := (own_isR h.pt hb).1; omega)).trans h.hd
  have M2 : Mod (fun b => b = g) w2 (w2.setCell ⟨g, 6, none⟩ (.slice A2 (m.np + 1) c2)) := (Mod.refl (fun b => b = g) w2).setCell (p := ⟨g, 6, none⟩) (.inl rfl) _
  have hk1 : ∀ {t : TypeId} b (cs : Array Value), t ≠ 35 → g + 1 ≤ b → w.heap[b]? = some (.cells cs t (0, 0)) → (w2.setCell ⟨g, 6, none⟩ (.slice A2 (m.np + 1) c2)).heap[b]? = w.heap[b]? := fun b cs ht h1 h2 => by
    have hlt := lt_of_block h2
    have hne : ¬ (Value.slice m.Ap m.np m.cp).ownBlock = some b := fun hb => by
      obtain ⟨-, cs', h3⟩ := own_isR h.pt hb
      rw [h2] at h3; cases h3; exact ht rfl
    exact (M2.block b (Nat.lt_of_lt_of_le hlt M1.size) (by omega)).trans (M1.block b hlt hne)
  have hsz : w.heap.size ≤ (w2.setCell ⟨g, 6, none⟩ (.slice A2 (m.np + 1) c2)).heap.size := Nat.le_trans M1.size M2.size
  have hhd : PsHd (w2.setCell ⟨g, 6, none⟩ (.slice A2 (m.np + 1) c2)) g { m with Ap := A2, np := m.np + 1, cp := c2, pts := m.pts ++ [d] } wt ky e := by have := sets_block hB 6 (.slice A2 (m.np + 1) c2); simpa [PsHd] using this
  have hown : (w2.setCell ⟨g, 6, none⟩ (.slice A2 (m.np + 1) c2)).ownsRow (g + 1) 35 6 (.slice A2 (m.np + 1) c2) (m.np + 1) ((m.pts ++ [d]).flatMap Pt.cells) := by
    rw [List.flatMap_append, List.flatMap_cons, List.flatMap_nil, List.append_nil]
    exact own_keepR own2 fun b cs h1 h2 => M2.block b (lt_of_block h2) (by omega)
  refine ⟨⟨hhd, own_keepR h.dv (fun b cs => hk1 b cs (by decide)), hown, own_keepR h.ca (fun b cs => hk1 b cs (by decide)), own_keepR h.ef (fun b cs => hk1 b cs (by decide)), fun x hx => (h.ci x hx).keep hsz (fun b cs h1 => hk1 b cs (by decide) h1), fun x hx => (h.ei x hx).keep hsz (fun b cs h1 => hk1 b cs (by decide) h1), h.ld, by show (m.pts ++ [d]).length = m.np + 1; rw [List.length_append, h.lp]; rfl, h.lc, h.le, fun s hs => ?_, h.ksz⟩, (M1.weak fun b hb => by have := (own_isR h.pt hb).1; omega).step M2 fun b hb => .inl (by omega)⟩
  have : s ∈ namesOf m ∨ s = d.nm := by
    unfold namesOf at hs ⊢
    simp only [List.mem_append, List.map_append, List.map_cons, List.map_nil, List.mem_singleton] at hs ⊢
    rcases hs with ((hs | hs) | hs) | hs <;> first | (rcases hs with hs | hs) | skip
    all_goals simp [hs]
  rcases this with h1 | rfl
  · exact h.nsz s h1
  · exact hz
/-- One more is appended. -/
theorem HasPs.addCa (h : HasPs w g m wt ky e) {w2 : World} {d : Ca} {A2 : Option Addr} {c2 : Nat} (hz : d.nm.size ≤ maxLen) (hi : Inn w g d.A d.n d.c d.ps) (own2 : w2.ownsRow (g + 1) 87 5 (.slice A2 (m.nc + 1) c2) (m.nc + 1) (m.cas.flatMap Ca.cells ++ Ca.cells d)) (hg : w.grownBy w2 (Value.slice m.Ac m.nc m.cc).ownBlock) :
    HasPs (w2.setCell ⟨g, 7, none⟩ (.slice A2 (m.nc + 1) c2)) g { m with Ac := A2, nc := m.nc + 1, cc := c2, cas := m.cas ++ [d] } wt ky e ∧ Mod (fun b => g ≤ b) w (w2.setCell ⟨g, 7, none⟩ (.slice A2 (m.nc + 1) c2)) := by
  have M1 : Mod (fun b => (Value.slice m.Ac m.nc m.cc).ownBlock = some b) w w2 := (Mod.refl _ w).grown hg fun k hk => .inl hk
  have hgw := h.hd.lt
  have hB : PsHd w2 g m wt ky e := (M1.block g hgw (fun hb => by have := (own_isR h.ca hb).1; omega)).trans h.hd
  have M2 : Mod (fun b => b = g) w2 (w2.setCell ⟨g, 7, none⟩ (.slice A2 (m.nc + 1) c2)) := (Mod.refl (fun b => b = g) w2).setCell (p := ⟨g, 7, none⟩) (.inl rfl) _
  have hk1 : ∀ {t : TypeId} b (cs : Array Value), t ≠ 87 → g + 1 ≤ b → w.heap[b]? = some (.cells cs t (0, 0)) → (w2.setCell ⟨g, 7, none⟩ (.slice A2 (m.nc + 1) c2)).heap[b]? = w.heap[b]? := fun b cs ht h1 h2 => by
    have hlt := lt_of_block h2
    have hne : ¬ (Value.slice m.Ac m.nc m.cc).ownBlock = some b := fun hb => by
      obtain ⟨-, cs', h3⟩ := own_isR h.ca hb
      rw [h2] at h3; cases h3; exact ht rfl
    exact (M2.block b (Nat.lt_of_lt_of_le hlt M1.size) (by omega)).trans (M1.block b hlt hne)
  have hsz : w.heap.size ≤ (w2.setCell ⟨g, 7, none⟩ (.slice A2 (m.nc + 1) c2)).heap.size := Nat.le_trans M1.size M2.size
  have hhd : PsHd (w2.setCell ⟨g, 7, none⟩ (.slice A2 (m.nc + 1) c2)) g { m with Ac := A2, nc := m.nc + 1, cc := c2, cas := m.cas ++ [d] } wt ky e := by have := sets_block hB 7 (.slice A2 (m.nc + 1) c2); simpa [PsHd] using this
  have hown : (w2.setCell ⟨g, 7, none⟩ (.slice A2 (m.nc + 1) c2)).ownsRow (g + 1) 87 5 (.slice A2 (m.nc + 1) c2) (m.nc + 1) ((m.cas ++ [d]).flatMap Ca.cells) := by
    rw [List.flatMap_append, List.flatMap_cons, List.flatMap_nil, List.append_nil]
    exact own_keepR own2 fun b cs h1 h2 => M2.block b (lt_of_block h2) (by omega)
  refine ⟨⟨hhd, own_keepR h.dv (fun b cs => hk1 b cs (by decide)), own_keepR h.pt (fun b cs => hk1 b cs (by decide)), hown, own_keepR h.ef (fun b cs => hk1 b cs (by decide)), fun x hx => by
    rcases List.mem_append.1 hx with hx | hx
    · exact (h.ci x hx).keep hsz (fun b cs h1 => hk1 b cs (by decide) h1)
    · rw [List.mem_singleton] at hx; subst hx; exact hi.keep hsz (fun b cs h1 => hk1 b cs (by decide) h1), fun x hx => (h.ei x hx).keep hsz (fun b cs h1 => hk1 b cs (by decide) h1), h.ld, h.lp, by show (m.cas ++ [d]).length = m.nc + 1; rw [List.length_append, h.lc]; rfl, h.le, fun s hs => ?_, h.ksz⟩, (M1.weak fun b hb => by have := (own_isR h.ca hb).1; omega).step M2 fun b hb => .inl (by omega)⟩
  have : s ∈ namesOf m ∨ s = d.nm := by
    unfold namesOf at hs ⊢
    simp only [List.mem_append, List.map_append, List.map_cons, List.map_nil, List.mem_singleton] at hs ⊢
    rcases hs with ((hs | hs) | hs) | hs <;> first | (rcases hs with hs | hs) | skip
    all_goals simp [hs]
  rcases this with h1 | rfl
  · exact h.nsz s h1
  · exact hz
/-- One more is appended. -/
theorem HasPs.addEf (h : HasPs w g m wt ky e) {w2 : World} {d : Ef} {A2 : Option Addr} {c2 : Nat} (hz : d.nm.size ≤ maxLen) (hi : Inn w g d.A d.n d.c d.ps) (own2 : w2.ownsRow (g + 1) 59 5 (.slice A2 (m.ne + 1) c2) (m.ne + 1) (m.efs.flatMap Ef.cells ++ Ef.cells d)) (hg : w.grownBy w2 (Value.slice m.Ae m.ne m.ce).ownBlock) :
    HasPs (w2.setCell ⟨g, 8, none⟩ (.slice A2 (m.ne + 1) c2)) g { m with Ae := A2, ne := m.ne + 1, ce := c2, efs := m.efs ++ [d] } wt ky e ∧ Mod (fun b => g ≤ b) w (w2.setCell ⟨g, 8, none⟩ (.slice A2 (m.ne + 1) c2)) := by
  have M1 : Mod (fun b => (Value.slice m.Ae m.ne m.ce).ownBlock = some b) w w2 := (Mod.refl _ w).grown hg fun k hk => .inl hk
  have hgw := h.hd.lt
  have hB : PsHd w2 g m wt ky e := (M1.block g hgw (fun hb => by have := (own_isR h.ef hb).1; omega)).trans h.hd
  have M2 : Mod (fun b => b = g) w2 (w2.setCell ⟨g, 8, none⟩ (.slice A2 (m.ne + 1) c2)) := (Mod.refl (fun b => b = g) w2).setCell (p := ⟨g, 8, none⟩) (.inl rfl) _
  have hk1 : ∀ {t : TypeId} b (cs : Array Value), t ≠ 59 → g + 1 ≤ b → w.heap[b]? = some (.cells cs t (0, 0)) → (w2.setCell ⟨g, 8, none⟩ (.slice A2 (m.ne + 1) c2)).heap[b]? = w.heap[b]? := fun b cs ht h1 h2 => by
    have hlt := lt_of_block h2
    have hne : ¬ (Value.slice m.Ae m.ne m.ce).ownBlock = some b := fun hb => by
      obtain ⟨-, cs', h3⟩ := own_isR h.ef hb
      rw [h2] at h3; cases h3; exact ht rfl
    exact (M2.block b (Nat.lt_of_lt_of_le hlt M1.size) (by omega)).trans (M1.block b hlt hne)
  have hsz : w.heap.size ≤ (w2.setCell ⟨g, 8, none⟩ (.slice A2 (m.ne + 1) c2)).heap.size := Nat.le_trans M1.size M2.size
  have hhd : PsHd (w2.setCell ⟨g, 8, none⟩ (.slice A2 (m.ne + 1) c2)) g { m with Ae := A2, ne := m.ne + 1, ce := c2, efs := m.efs ++ [d] } wt ky e := by have := sets_block hB 8 (.slice A2 (m.ne + 1) c2); simpa [PsHd] using this
  have hown : (w2.setCell ⟨g, 8, none⟩ (.slice A2 (m.ne + 1) c2)).ownsRow (g + 1) 59 5 (.slice A2 (m.ne + 1) c2) (m.ne + 1) ((m.efs ++ [d]).flatMap Ef.cells) := by
    rw [List.flatMap_append, List.flatMap_cons, List.flatMap_nil, List.append_nil]
    exact own_keepR own2 fun b cs h1 h2 => M2.block b (lt_of_block h2) (by omega)
  refine ⟨⟨hhd, own_keepR h.dv (fun b cs => hk1 b cs (by decide)), own_keepR h.pt (fun b cs => hk1 b cs (by decide)), own_keepR h.ca (fun b cs => hk1 b cs (by decide)), hown, fun x hx => (h.ci x hx).keep hsz (fun b cs h1 => hk1 b cs (by decide) h1), fun x hx => by
    rcases List.mem_append.1 hx with hx | hx
    · exact (h.ei x hx).keep hsz (fun b cs h1 => hk1 b cs (by decide) h1)
    · rw [List.mem_singleton] at hx; subst hx; exact hi.keep hsz (fun b cs h1 => hk1 b cs (by decide) h1), h.ld, h.lp, h.lc, by show (m.efs ++ [d]).length = m.ne + 1; rw [List.length_append, h.le]; rfl, fun s hs => ?_, h.ksz⟩, (M1.weak fun b hb => by have := (own_isR h.ef hb).1; omega).step M2 fun b hb => .inl (by omega)⟩
  have : s ∈ namesOf m ∨ s = d.nm := by
    unfold namesOf at hs ⊢
    simp only [List.mem_append, List.map_append, List.map_cons, List.map_nil, List.mem_singleton] at hs ⊢
    rcases hs with ((hs | hs) | hs) | hs <;> first | (rcases hs with hs | hs) | skip
    all_goals simp [hs]
  rcases this with h1 | rfl
  · exact h.nsz s h1
  · exact hz
end
def freshE (m : Mx) (s : ByteArray) (e : Int) : Int := if 0 ≤ findR (namesOf m) s 0 then orE e 82 else e
set_option maxRecDepth 100000 in
set_option maxHeartbeats 1600000 in
theorem rFresh_any (g : Nat) (m : Mx) (wt ky : Bool) (e : Int) (s : ByteArray) (w : World) (h : HasPs w g m wt ky e) (hs : m.nd ≤ 10000 ∧ m.np ≤ 10000 ∧ m.nc ≤ 10000 ∧ m.ne ≤ 10000) :
    Calls Tryz.prog 128 #[.pointer (some ⟨g, 0, none⟩), .string s] w (FailPost g m wt ky (freshE m s e) w) := by
  have hgw := h.hd.lt
  have hc := cellsAt h.hd
  have k0 : w.cell? ⟨g, 0, none⟩ = some (.int .i64 m.rt) := hc 0
  have k1 : w.cell? ⟨g, 1, none⟩ = some (.int .i64 m.wt) := hc 1
  have k2 : w.cell? ⟨g, 2, none⟩ = some (.int .i64 m.bk) := hc 2
  have k3 : w.cell? ⟨g, 3, none⟩ = some (.int .i64 m.cy) := hc 3
  have k4 : w.cell? ⟨g, 4, none⟩ = some (.string m.key) := hc 4
  have k5 : w.cell? ⟨g, 5, none⟩ = some (.slice m.Ad m.nd m.cd) := hc 5
  have k6 : w.cell? ⟨g, 6, none⟩ = some (.slice m.Ap m.np m.cp) := hc 6
  have k7 : w.cell? ⟨g, 7, none⟩ = some (.slice m.Ac m.nc m.cc) := hc 7
  have k8 : w.cell? ⟨g, 8, none⟩ = some (.slice m.Ae m.ne m.ce) := hc 8
  have h' := Lib.hid h
  have hs' := Lib.hid hs
  clear h hs hc
  by_cases hf : 0 ≤ findR (namesOf m) s 0
  · have d0 : decide (0 ≤ findR (namesOf m) s 0) = true := decide_eq_true hf
    rw [show freshE m s e = orE e 82 from if_pos hf]
    clear hf
    go_enter Tryz.func128, Tryz.ntmps128
    go_wp2_with (first | (go_at_call 151; refine (rName_any g m wt ky e _ (h'.out.hd.ext X1)).mono ?_; rintro e W2 ⟨rfl, hF⟩) | (go_at_call 150; refine (rFind_any _ _ _ _ (namesOf m) s _ r3 (Nat.le_refl _) (Nat.le_trans r1 r2)).mono ?_; rintro e w' ⟨rfl, rfl⟩) | (go_at_call 142; refine (rNamesOf_any m _ h'.out.ok hs'.out).mono ?_; rintro e W1 ⟨A1, n1, c1, rfl, r1, r2, r3, r4, X1⟩))
    refine bodyPost_ret (results_none rfl _ _ _) rfl ?_
    exact ⟨rfl, hF.1, (X1.mod _).trans hF.2⟩
  · have d0 : decide (0 ≤ findR (namesOf m) s 0) = false := decide_eq_false hf
    rw [show freshE m s e = e from if_neg hf]
    clear hf
    go_enter Tryz.func128, Tryz.ntmps128
    go_wp2_with (first | (go_at_call 150; refine (rFind_any _ _ _ _ (namesOf m) s _ r3 (Nat.le_refl _) (Nat.le_trans r1 r2)).mono ?_; rintro e w' ⟨rfl, rfl⟩) | (go_at_call 142; refine (rNamesOf_any m _ h'.out.ok hs'.out).mono ?_; rintro e W1 ⟨A1, n1, c1, rfl, r1, r2, r3, r4, X1⟩))
    refine bodyPost_ret (results_none rfl _ _ _) rfl ?_
    exact ⟨rfl, h'.out.hd.ext X1, X1.mod _⟩
end Go.Proofs.YtgajbgdkgelkgaaGreat
