/- Layer 17, plain: what a scan, and a reset, leave. · Layer 17: a core in memory. -/
import Derived.Test.YtgajbgdkgelkgaaGreatG05
import Derived.Test.YtgajbgdkgelkgaaGreatG04
import Derived.Test.YtgajbgdkgelkgaaGreatLgI
import Derived.Test.YtgajbgdkgelkgaaGreatLgK
import Derived.Test.YtgajbgdkgelkgaaGreatG03
namespace Go.Proofs.YtgajbgdkgelkgaaGreat

/-- How often a note is one of some. -/
def cntN (x : Nt) (l : List Nt) : Nat := l.countP fun y => y == x
theorem cntN_more (x y : Nt) (l : List Nt) : cntN x (l ++ [y]) = cntN x l + if y = x then 1 else 0 := by
  unfold cntN
  rw [List.countP_append, List.countP_cons, List.countP_nil, Nat.zero_add]
  by_cases h : y = x <;> simp [h]
/-- One turn of the effects of a cause that trips. -/
structure EfInv (m : Mx) (q : Nat) (now : Int) (c0 : Co) (n0 : List Nt) (k : Nat) (s : Co × List Nt) : Prop where
  dl : s.1.dl = c0.dl
  kn : s.1.kn = c0.kn
  tr : s.1.tr = c0.tr
  ca : s.1.ca = c0.ca
  en : s.1.en = c0.en
  len : s.1.ef.s.length = c0.ef.s.length
  g : s.1.ef.g = c0.ef.g
  up : ∀ e, setOf c0.ef e = true → setOf s.1.ef e = true
  set_ : ∀ e, e < k → (efAt m e).ps.contains (q : Int) = true → setOf s.1.ef e = true
  n2 : ∀ e : Nat, cntN (2, (e : Int), now) s.2 = cntN (2, (e : Int), now) n0 + if setOf s.1.ef e = true ∧ setOf c0.ef e = false then 1 else 0
  nq : ∀ x : Nt, x.1 ≠ 2 → cntN x s.2 = cntN x n0
theorem efInv (m : Mx) (q : Nat) (now : Int) (c0 : Co) (n0 : List Nt) (hl : m.efs.length ≤ c0.ef.s.length) : EfInv m q now c0 n0 m.efs.length (foldN (efStep m q now) (c0, n0) m.efs.length) := by
  refine foldN_inv (EfInv m q now c0 n0) _ _ _ ⟨rfl, rfl, rfl, rfl, rfl, rfl, rfl, fun e h => h, fun e h => absurd h (by omega), fun e => ?_, fun x hx => rfl⟩ (fun k hk s h => ?_)
  · rw [if_neg (fun h => by rw [h.1] at h; exact absurd h.2 (by decide))]; rfl
  · unfold efStep
    split
    · rename_i hc
      simp only [Bool.and_eq_true, Bool.not_eq_true'] at hc
      have hlt : k < s.1.ef.s.length := by rw [h.len]; omega
      refine ⟨h.dl, h.kn, h.tr, h.ca, h.en, by simpa [tripL] using h.len, h.g, fun e he => ?_, fun e he hm => ?_, fun e => ?_, fun x hx => ?_⟩
      · rw [set_trip]; split
        · simpa using hlt
        · exact h.up e he
      · rw [set_trip]; split
        · simpa using hlt
        · exact h.set_ e (by omega) hm
      · rw [cntN_more, set_trip, h.n2 e]
        by_cases e1 : e = k
        · subst e1
          have h0 : setOf c0.ef e = false := by
            cases hh : setOf c0.ef e with
            | false => rfl
            | true => rw [h.up e hh] at hc; exact absurd hc.2 (by decide)
          rw [if_neg (fun h => by rw [hc.2] at h; exact absurd h.1 (by decide)), if_pos rfl, if_pos rfl, if_pos ⟨by simpa using hlt, h0⟩]
        · rw [if_neg (show ¬ ((2, (k : Int), now) : Nt) = (2, (e : Int), now) from fun h => e1 (by simp only [Prod.mk.injEq] at h; omega)), if_neg e1, Nat.add_zero]
      · rw [cntN_more, h.nq x hx, if_neg (fun h => hx (by rw [← h]))]
        rfl
    · rename_i hc
      refine ⟨h.dl, h.kn, h.tr, h.ca, h.en, h.len, h.g, h.up, fun e he hm => ?_, h.n2, h.nq⟩
      rcases Nat.lt_or_ge e k with h1 | h1
      · exact h.set_ e h1 hm
      · obtain rfl : e = k := by omega
        rw [hm, Bool.true_and] at hc
        simpa using hc
/-- The causes, one behind the other. -/
structure ScInv (m : Mx) (now : Int) (c0 : Co) (n0 : List Nt) (k : Nat) (s : Co × List Nt) : Prop where
  dl : s.1.dl = c0.dl
  kn : s.1.kn = c0.kn
  trl : s.1.tr.length = c0.tr.length
  en : s.1.en = c0.en
  cal : s.1.ca.s.length = c0.ca.s.length
  efl : s.1.ef.s.length = c0.ef.s.length
  cag : s.1.ca.g = c0.ca.g
  efg : s.1.ef.g = c0.ef.g
  tr : ∀ q, q < k → s.1.tr.getD q false = voteB (caAt m q).vt (insOf c0 (caAt m q))
  cau : ∀ q, setOf c0.ca q = true → setOf s.1.ca q = true
  efu : ∀ e, setOf c0.ef e = true → setOf s.1.ef e = true
  sca : ∀ q, q < k → healthyC s.1 q now = false → setOf s.1.ca q = true
  sef : ∀ q, q < k → healthyC s.1 q now = false → ∀ e, e < m.efs.length → (efAt m e).ps.contains (q : Int) = true → setOf s.1.ef e = true
  cnew : ∀ q, k ≤ q → setOf s.1.ca q = setOf c0.ca q
  n1 : ∀ q : Nat, cntN (1, (q : Int), now) s.2 = cntN (1, (q : Int), now) n0 + if setOf s.1.ca q = true ∧ setOf c0.ca q = false then 1 else 0
  n2 : ∀ e : Nat, cntN (2, (e : Int), now) s.2 = cntN (2, (e : Int), now) n0 + if setOf s.1.ef e = true ∧ setOf c0.ef e = false then 1 else 0
theorem getD_set_same {α : Type} (l : List α) (i : Nat) (x d : α) (h : i < l.length) : (l.set i x).getD i d = x := by
  rw [List.getD_eq_getElem?_getD, List.getElem?_set_self h]; rfl
theorem getD_set_other {α : Type} (l : List α) {i j : Nat} (x d : α) (h : i ≠ j) : (l.set i x).getD j d = l.getD j d := by
  rw [List.getD_eq_getElem?_getD, List.getD_eq_getElem?_getD, List.getElem?_set_ne h]
theorem scInv (m : Mx) (now : Int) (c0 : Co) (n0 : List Nt) (ht : m.cas.length ≤ c0.tr.length) (hc : m.cas.length ≤ c0.ca.s.length) (he : m.efs.length ≤ c0.ef.s.length) : ScInv m now c0 n0 m.cas.length (foldN (scanQ m now) (c0, n0) m.cas.length) := by
  refine foldN_inv (ScInv m now c0 n0) _ _ _ ⟨rfl, rfl, rfl, rfl, rfl, rfl, rfl, rfl, fun q h => absurd h (by omega), fun q h => h, fun e h => h, fun q h => absurd h (by omega), fun q h => absurd h (by omega), fun q _ => rfl, fun q => ?_, fun e => ?_⟩ (fun k hk s h => ?_)
  · rw [if_neg (fun h => by rw [h.1] at h; exact absurd h.2 (by decide))]; rfl
  · rw [if_neg (fun h => by rw [h.1] at h; exact absurd h.2 (by decide))]; rfl
  · have hins : insOf s.1 (caAt m k) = insOf c0 (caAt m k) := by unfold insOf; rw [h.dl, h.kn]
    have hkt : k < s.1.tr.length := by rw [h.trl]; omega
    have hkc : k < s.1.ca.s.length := by rw [h.cal]; omega
    have hh : ∀ (c : Co) q, q ≠ k → c.tr = s.1.tr.set k (voteB (caAt m k).vt (insOf s.1 (caAt m k))) → c.en = s.1.en → healthyC c q now = healthyC s.1 q now := fun c q hq h1 h2 => by
      unfold healthyC; rw [h1, h2, getD_set_other _ _ _ (fun e => hq e.symm)]
    have htr : ∀ q, q < k + 1 → (s.1.tr.set k (voteB (caAt m k).vt (insOf s.1 (caAt m k)))).getD q false = voteB (caAt m q).vt (insOf c0 (caAt m q)) := fun q hq => by
      by_cases e : q = k
      · subst e; rw [getD_set_same _ _ _ _ hkt, hins]
      · rw [getD_set_other _ _ _ (fun h => e h.symm)]; exact h.tr q (by omega)
    unfold scanQ
    dsimp only
    by_cases hy : healthyC { s.1 with tr := s.1.tr.set k (voteB (caAt m k).vt (insOf s.1 (caAt m k))) } k now = true
    · rw [if_pos hy]
      refine ⟨h.dl, h.kn, by simpa using h.trl, h.en, h.cal, h.efl, h.cag, h.efg, htr, h.cau, h.efu, fun q hq hs => ?_, fun q hq hs => ?_, fun q hq => h.cnew q (by omega), h.n1, h.n2⟩
      · by_cases e : q = k
        · subst e; rw [hy] at hs; cases hs
        · exact h.sca q (by omega) ((hh { s.1 with tr := s.1.tr.set k (voteB (caAt m k).vt (insOf s.1 (caAt m k))) } q e rfl rfl).symm.trans hs)
      · by_cases e : q = k
        · subst e; rw [hy] at hs; cases hs
        · exact h.sef q (by omega) ((hh { s.1 with tr := s.1.tr.set k (voteB (caAt m k).vt (insOf s.1 (caAt m k))) } q e rfl rfl).symm.trans hs)
    · rw [if_neg hy]
      generalize hc1 : (if setOf s.1.ca k = true then ({ s.1 with tr := s.1.tr.set k (voteB (caAt m k).vt (insOf s.1 (caAt m k))) }, s.2) else ({ s.1 with tr := s.1.tr.set k (voteB (caAt m k).vt (insOf s.1 (caAt m k))), ca := tripL s.1.ca k now }, s.2 ++ [((1, (k : Int), now) : Nt)])) = p
      have hp : p.1.dl = s.1.dl ∧ p.1.kn = s.1.kn ∧ p.1.tr = s.1.tr.set k (voteB (caAt m k).vt (insOf s.1 (caAt m k))) ∧ p.1.en = s.1.en ∧ p.1.ef = s.1.ef ∧ p.1.ca.s.length = s.1.ca.s.length ∧ p.1.ca.g = s.1.ca.g ∧ (∀ q, setOf p.1.ca q = if q = k then true else setOf s.1.ca q) ∧ (∀ e : Nat, cntN (2, (e : Int), now) p.2 = cntN (2, (e : Int), now) s.2) ∧ ∀ q : Nat, cntN (1, (q : Int), now) p.2 = cntN (1, (q : Int), now) s.2 + if q = k ∧ setOf s.1.ca k = false then 1 else 0 := by
        rw [← hc1]
        by_cases hs : setOf s.1.ca k = true
        · rw [if_pos hs]
          refine ⟨rfl, rfl, rfl, rfl, rfl, rfl, rfl, fun q => ?_, fun e => rfl, fun q => ?_⟩
          · split
            · rename_i e; subst e; exact hs
            · rfl
          · rw [if_neg (fun h => by rw [hs] at h; exact absurd h.2 (by decide))]; rfl
        · rw [if_neg hs]
          refine ⟨rfl, rfl, rfl, rfl, rfl, by simp [tripL], rfl, fun q => ?_, fun e => ?_, fun q => ?_⟩
          · rw [set_trip]; split
            · simpa using hkc
            · rfl
          · rw [cntN_more, if_neg (fun h => by simp only [Prod.mk.injEq] at h; exact absurd h.1 (by decide))]; rfl
          · rw [cntN_more]
            have hs' : setOf s.1.ca k = false := by simpa using hs
            by_cases e : q = k
            · subst e; rw [if_pos rfl, if_pos ⟨rfl, hs'⟩]
            · rw [if_neg (fun h => e (by simp only [Prod.mk.injEq] at h; omega)), if_neg (fun h => e h.1)]
      obtain ⟨p1, p2, p3, p4, p5, p6, p7, p8, p9, p10⟩ := hp
      obtain ⟨pc, pn⟩ := p
      have I := efInv m k now pc pn (by rw [p5, h.efl]; exact he)
      generalize foldN (efStep m k now) (pc, pn) m.efs.length = r at I ⊢
      dsimp only at p1 p2 p3 p4 p5 p6 p7 p8 p9 p10
      have rtr := I.tr.trans p3
      have ren := I.en.trans p4
      refine ⟨I.dl.trans (p1.trans h.dl), I.kn.trans (p2.trans h.kn), by rw [rtr]; simpa using h.trl, ren.trans h.en, by rw [I.ca, p6]; exact h.cal, by rw [I.len, p5]; exact h.efl, by rw [I.ca, p7]; exact h.cag, by rw [I.g, p5]; exact h.efg, by rw [rtr]; exact htr, fun q hq => ?_, fun e hq => ?_, fun q hq hs => ?_, fun q hq hs => ?_, fun q hq => ?_, fun q => ?_, fun e => ?_⟩
      · rw [I.ca, p8]; split
        · rfl
        · exact h.cau q hq
      · exact I.up e (by rw [p5]; exact h.efu e hq)
      · rw [I.ca, p8]; split
        · rfl
        · rename_i e; exact h.sca q (by omega) ((hh _ q e rtr ren).symm.trans hs)
      · intro e he2 hm
        by_cases e1 : q = k
        · subst e1; exact I.set_ e he2 hm
        · exact I.up e (by rw [p5]; exact h.sef q (by omega) ((hh _ q e1 rtr ren).symm.trans hs) e he2 hm)
      · rw [I.ca, p8, if_neg (by omega)]; exact h.cnew q (by omega)
      · rw [I.nq _ (show (1 : Int) ≠ 2 by decide), p10, h.n1, I.ca, p8]
        by_cases e : q = k
        · subst e
          have e0 : setOf s.1.ca q = setOf c0.ca q := h.cnew q (Nat.le_refl _)
          rw [e0, if_pos rfl]
          by_cases e2 : setOf c0.ca q = true
          · simp [e2]
          · simp [e2]
        · simp [e]
      · rw [I.n2, p9, h.n2, p5]
        cases h1 : setOf c0.ef e with
        | true =>
          have h2 := h.efu e h1
          simp [h2]
        | false =>
          cases h2 : setOf s.1.ef e with
          | true =>
            have h3 := I.up e (by rw [p5]; exact h2)
            simp [h3]
          | false => simp
end Go.Proofs.YtgajbgdkgelkgaaGreat
namespace Go.Proofs.YtgajbgdkgelkgaaGreat
open Go.RowKit

/-- Where the parts of a core lie. -/
structure CoK where
  g : Nat
  A : Option Addr
  cp : Nat
  gp : Nat
  gd : Nat → Nat
  gt : Nat
  cg : Nat
  cl : Nat
  cf : Nat
  cs : Nat
  eg : Nat
  el : Nat
  ef : Nat
  es : Nat
  tg : Nat
  tl : Nat
  tm : Nat
/-- The blocks of it that may be written. -/
def CoK.mut (K : CoK) (np : Nat) (b : Nat) : Prop := b = K.g ∨ (0 < np ∧ b = K.gp) ∨ b = K.gt ∨ (b = K.cg ∨ b = K.cl ∨ b = K.cf ∨ b = K.cs) ∨ (b = K.eg ∨ b = K.el ∨ b = K.ef ∨ b = K.es) ∨ (b = K.tg ∨ b = K.tl ∨ b = K.tm) ∨ ∃ j, j < np ∧ b = K.gd j
/-- The points' row. -/
def PtRow (w : World) (gp : Nat) (gd : Nat → Nat) (kn : List Bool) : Prop := ∃ cs : Array Value, w.heap[gp]? = some (.cells cs 83 (0, 0)) ∧ ∀ j, j < kn.length → cs[j * 2]? = some (.pointer (some ⟨gd j, 0, none⟩)) ∧ cs[j * 2 + 1]? = some (.bool (kn.getD j false))
def TrRow (w : World) (gt : Nat) (tr : List Bool) : Prop := w.heap[gt]? = some (.cells (tr.map Value.bool).toArray 4 (0, 0))
abbrev CoK.arr (K : CoK) (m : Mx) : Array Value := #[.int .i64 m.rt, .int .i64 m.wt, .int .i64 m.bk, .int .i64 m.cy, .string m.key, .slice m.Ad m.nd m.cd, .slice m.Ap m.np m.cp, .slice m.Ac m.nc m.cc, .slice m.Ae m.ne m.ce, .slice K.A m.np K.cp, .slice (some ⟨K.gt, 0, none⟩) m.nc m.nc, .pointer (some ⟨K.cg, 0, none⟩), .pointer (some ⟨K.eg, 0, none⟩), .pointer (some ⟨K.tg, 0, none⟩)]
structure HasK (w : World) (base B N : Nat) (K : CoK) (m : Mx) (c : Co) : Prop where
  mx : OwnMx w base B m
  head : w.heap[K.g]? = some (.cells (K.arr m) 79 (0, 0))
  pA : 0 < m.np → K.A = some ⟨K.gp, 0, none⟩ ∧ PtRow w K.gp K.gd c.kn
  dl : ∀ j, j < m.np → HasDl w (K.gd j) (c.dl.getD j dl0) ∧ OkDl (c.dl.getD j dl0)
  tr : TrRow w K.gt c.tr
  ca : Rw w K.cg K.cl K.cf K.cs N c.ca
  ef : Rw w K.eg K.el K.ef K.es N c.ef
  en : Tb w K.tg K.tl K.tm N (m.cas.map Ca.lm) c.en
  ldl : c.dl.length = m.np
  lkn : c.kn.length = m.np
  ltr : c.tr.length = m.nc
  lca : c.ca.g = m.cas.map groupOf
  lef : c.ef.g = m.efs.map fun _ => 0
  /- apart -/
  bB : base ≤ B
  big : B ≤ K.g ∧ ∀ b, K.mut m.np b → b < base ∨ B ≤ b
  sz : sizesB m = true
  cap : m.np ≤ K.cp ∧ K.cp ≤ maxLen
  n1 : K.g ≠ K.gt ∧ (0 < m.np → K.gp ≠ K.g ∧ K.gp ≠ K.gt)
  n2 : ∀ b, (b = K.cg ∨ b = K.cl ∨ b = K.cf ∨ b = K.cs) → b ≠ K.g ∧ (0 < m.np → b ≠ K.gp) ∧ b ≠ K.gt ∧ (∀ j, j < m.np → b ≠ K.gd j) ∧ ¬ (b = K.eg ∨ b = K.el ∨ b = K.ef ∨ b = K.es) ∧ ¬ (b = K.tg ∨ b = K.tl ∨ b = K.tm)
  n3 : ∀ b, (b = K.eg ∨ b = K.el ∨ b = K.ef ∨ b = K.es) → b ≠ K.g ∧ (0 < m.np → b ≠ K.gp) ∧ b ≠ K.gt ∧ (∀ j, j < m.np → b ≠ K.gd j) ∧ ¬ (b = K.tg ∨ b = K.tl ∨ b = K.tm)
  n4 : ∀ b, (b = K.tg ∨ b = K.tl ∨ b = K.tm) → b ≠ K.g ∧ (0 < m.np → b ≠ K.gp) ∧ b ≠ K.gt ∧ (∀ j, j < m.np → b ≠ K.gd j)
  n5 : ∀ j, j < m.np → K.gd j ≠ K.g ∧ K.gd j ≠ K.gp ∧ K.gd j ≠ K.gt ∧ ∀ i, i < m.np → i ≠ j → K.gd i ≠ K.gd j
theorem PtRow.keep {w w' : World} {gp : Nat} {gd : Nat → Nat} {kn : List Bool} (h : PtRow w gp gd kn) (hk : w'.heap[gp]? = w.heap[gp]?) : PtRow w' gp gd kn := by
  obtain ⟨cs, h1, h2⟩ := h; exact ⟨cs, hk.trans h1, h2⟩
section
variable {w w' : World} {base B N : Nat} {K : CoK} {m : Mx} {c : Co}
theorem HasK.old (h : HasK w base B N K m c) {b : Nat} (hb : K.mut m.np b) : b < w.heap.size := by
  rcases hb with rfl | ⟨h0, rfl⟩ | rfl | hb | hb | hb | ⟨j, hj, rfl⟩
  · exact lt_of_block h.head
  · obtain ⟨cs, h1, _⟩ := (h.pA h0).2; exact lt_of_block h1
  · exact lt_of_block h.tr
  · exact h.ca.old hb
  · exact h.ef.old hb
  · exact h.en.old hb
  · exact (h.dl j hj).1.lt
/-- What changes nothing of its blocks leaves it. -/
theorem HasK.keep (h : HasK w base B N K m c) (hk : ∀ b, K.mut m.np b → w'.heap[b]? = w.heap[b]?) (hm : ∀ b, base ≤ b → b < B → w'.heap[b]? = w.heap[b]?) : HasK w' base B N K m c :=
  ⟨h.mx.keep hm, (hk _ (.inl rfl)).trans h.head, fun h0 => ⟨(h.pA h0).1, (h.pA h0).2.keep (hk _ (.inr (.inl ⟨h0, rfl⟩)))⟩, fun j hj => ⟨(h.dl j hj).1.keep (hk _ (.inr (.inr (.inr (.inr (.inr (.inr ⟨j, hj, rfl⟩))))))), (h.dl j hj).2⟩, (hk _ (.inr (.inr (.inl rfl)))).trans h.tr,
    h.ca.keep fun b hb => hk b (.inr (.inr (.inr (.inl hb)))), h.ef.keep fun b hb => hk b (.inr (.inr (.inr (.inr (.inl hb))))), h.en.keep fun b hb => hk b (.inr (.inr (.inr (.inr (.inr (.inl hb)))))), h.ldl, h.lkn, h.ltr, h.lca, h.lef, h.bB, h.big, h.sz, h.cap, h.n1, h.n2, h.n3, h.n4, h.n5⟩
theorem HasK.mxlt (h : HasK w base B N K m c) : B ≤ w.heap.size := Nat.le_trans h.big.1 (Nat.le_of_lt (h.old (.inl rfl)))
theorem HasK.ext (h : HasK w base B N K m c) (E : Ext w w') : HasK w' base B N K m c := h.keep (fun b hb => E.block b (h.old hb)) (fun b _ hb => E.block b (Nat.lt_of_lt_of_le hb h.mxlt))
theorem HasK.mod (h : HasK w base B N K m c) {S : Nat → Prop} (M : Mod S w w') (hs : ∀ b, S b → ¬ K.mut m.np b ∧ ¬ (base ≤ b ∧ b < B)) : HasK w' base B N K m c :=
  h.keep (fun b hb => M.block b (h.old hb) fun hS => (hs b hS).1 hb) (fun b h1 hb => M.block b (Nat.lt_of_lt_of_le hb h.mxlt) fun hS => (hs b hS).2 ⟨h1, hb⟩)
theorem HasK.mono (h : HasK w base B N K m c) {M : Nat} (hM : N ≤ M) : HasK w base B M K m c :=
  ⟨h.mx, h.head, h.pA, h.dl, h.tr, h.ca.mono hM, h.ef.mono hM, h.en.mono hM, h.ldl, h.lkn, h.ltr, h.lca, h.lef, h.bB, h.big, h.sz, h.cap, h.n1, h.n2, h.n3, h.n4, h.n5⟩
/-- The causes' latches turn. -/
theorem HasK.turnCa (h : HasK w base B N K m c) {r : Lw} {N' : Nat} (hN : N ≤ N') (hr : Rw w' K.cg K.cl K.cf K.cs N' r) (hg : r.g = c.ca.g) (M : Mod (RwS K.cl K.cf K.cs) w w') : HasK w' base B N' K m { c with ca := r } := by
  have hS : ∀ b, RwS K.cl K.cf K.cs b → (b = K.cg ∨ b = K.cl ∨ b = K.cf ∨ b = K.cs) := fun b hb => .inr hb
  have hmx : ∀ b, base ≤ b → b < B → w'.heap[b]? = w.heap[b]? := fun b h9 hb => M.block b (Nat.lt_of_lt_of_le hb h.mxlt) fun hs => by have := h.big.2 b (.inr (.inr (.inr (.inl (hS b hs))))); omega
  have off : ∀ b, b < w.heap.size → ¬ (b = K.cg ∨ b = K.cl ∨ b = K.cf ∨ b = K.cs) → w'.heap[b]? = w.heap[b]? := fun b hb hn => M.block b hb fun hs => hn (hS b hs)
  refine ⟨h.mx.keep fun b h9 hb => hmx b h9 hb, (off _ (h.old (.inl rfl)) fun hb => (h.n2 _ hb).1 rfl).trans h.head, fun h0 => ⟨(h.pA h0).1, (h.pA h0).2.keep (off _ (h.old (.inr (.inl ⟨h0, rfl⟩))) fun hb => (h.n2 _ hb).2.1 h0 rfl)⟩,
    fun j hj => ⟨(h.dl j hj).1.keep (off _ (h.dl j hj).1.lt fun hb => (h.n2 _ hb).2.2.2.1 j hj rfl), (h.dl j hj).2⟩, (off _ (h.old (.inr (.inr (.inl rfl)))) fun hb => (h.n2 _ hb).2.2.1 rfl).trans h.tr, hr,
    (h.ef.keep fun b hb => off b (h.ef.old hb) fun hc => (h.n2 b hc).2.2.2.2.1 hb).mono hN, (h.en.keep fun b hb => off b (h.en.old hb) fun hc => (h.n2 b hc).2.2.2.2.2 hb).mono hN, h.ldl, h.lkn, h.ltr, hg.trans h.lca, h.lef, h.bB, h.big, h.sz, h.cap, h.n1, h.n2, h.n3, h.n4, h.n5⟩
theorem HasK.turnEf (h : HasK w base B N K m c) {r : Lw} {N' : Nat} (hN : N ≤ N') (hr : Rw w' K.eg K.el K.ef K.es N' r) (hg : r.g = c.ef.g) (M : Mod (RwS K.el K.ef K.es) w w') : HasK w' base B N' K m { c with ef := r } := by
  have hS : ∀ b, RwS K.el K.ef K.es b → (b = K.eg ∨ b = K.el ∨ b = K.ef ∨ b = K.es) := fun b hb => .inr hb
  have hmx : ∀ b, base ≤ b → b < B → w'.heap[b]? = w.heap[b]? := fun b h9 hb => M.block b (Nat.lt_of_lt_of_le hb h.mxlt) fun hs => by have := h.big.2 b (.inr (.inr (.inr (.inr (.inl (hS b hs)))))); omega
  have off : ∀ b, b < w.heap.size → ¬ (b = K.eg ∨ b = K.el ∨ b = K.ef ∨ b = K.es) → w'.heap[b]? = w.heap[b]? := fun b hb hn => M.block b hb fun hs => hn (hS b hs)
  refine ⟨h.mx.keep fun b h9 hb => hmx b h9 hb, (off _ (h.old (.inl rfl)) fun hb => (h.n3 _ hb).1 rfl).trans h.head, fun h0 => ⟨(h.pA h0).1, (h.pA h0).2.keep (off _ (h.old (.inr (.inl ⟨h0, rfl⟩))) fun hb => (h.n3 _ hb).2.1 h0 rfl)⟩,
    fun j hj => ⟨(h.dl j hj).1.keep (off _ (h.dl j hj).1.lt fun hb => (h.n3 _ hb).2.2.2.1 j hj rfl), (h.dl j hj).2⟩, (off _ (h.old (.inr (.inr (.inl rfl)))) fun hb => (h.n3 _ hb).2.2.1 rfl).trans h.tr,
    (h.ca.keep fun b hb => off b (h.ca.old hb) fun hc => (h.n2 b hb).2.2.2.2.1 hc).mono hN, hr, (h.en.keep fun b hb => off b (h.en.old hb) fun hc => (h.n3 b hc).2.2.2.2 hb).mono hN, h.ldl, h.lkn, h.ltr, h.lca, hg.trans h.lef, h.bB, h.big, h.sz, h.cap, h.n1, h.n2, h.n3, h.n4, h.n5⟩
theorem HasK.turnEn (h : HasK w base B N K m c) {E : List Int} {N' : Nat} (hN : N ≤ N') (hr : Tb w' K.tg K.tl K.tm N' (m.cas.map Ca.lm) E) (M : Mod (fun b => b = K.tm) w w') : HasK w' base B N' K m { c with en := E } := by
  have hmx : ∀ b, base ≤ b → b < B → w'.heap[b]? = w.heap[b]? := fun b h9 hb => M.block b (Nat.lt_of_lt_of_le hb h.mxlt) fun hs => by have := h.big.2 b (.inr (.inr (.inr (.inr (.inr (.inl (.inr (.inr hs)))))))); omega
  have off : ∀ b, b < w.heap.size → b ≠ K.tm → w'.heap[b]? = w.heap[b]? := fun b hb hn => M.block b hb hn
  refine ⟨h.mx.keep fun b h9 hb => hmx b h9 hb, (off _ (h.old (.inl rfl)) fun hb => (h.n4 _ (.inr (.inr hb))).1 rfl).trans h.head, fun h0 => ⟨(h.pA h0).1, (h.pA h0).2.keep (off _ (h.old (.inr (.inl ⟨h0, rfl⟩))) fun hb => (h.n4 _ (.inr (.inr hb))).2.1 h0 rfl)⟩,
    fun j hj => ⟨(h.dl j hj).1.keep (off _ (h.dl j hj).1.lt fun hb => (h.n4 _ (.inr (.inr hb))).2.2.2 j hj rfl), (h.dl j hj).2⟩, (off _ (h.old (.inr (.inr (.inl rfl)))) fun hb => (h.n4 _ (.inr (.inr hb))).2.2.1 rfl).trans h.tr,
    (h.ca.keep fun b hb => off b (h.ca.old hb) fun hc => (h.n2 b hb).2.2.2.2.2 (.inr (.inr hc))).mono hN, (h.ef.keep fun b hb => off b (h.ef.old hb) fun hc => (h.n3 b hb).2.2.2.2 (.inr (.inr hc))).mono hN, hr, h.ldl, h.lkn, h.ltr, h.lca, h.lef, h.bB, h.big, h.sz, h.cap, h.n1, h.n2, h.n3, h.n4, h.n5⟩
theorem HasK.turnTr (h : HasK w base B N K m c) {tr : List Bool} (hr : TrRow w' K.gt tr) (hl : tr.length = c.tr.length) (M : Mod (fun b => b = K.gt) w w') : HasK w' base B N K m { c with tr := tr } := by
  have hmx : ∀ b, base ≤ b → b < B → w'.heap[b]? = w.heap[b]? := fun b h9 hb => M.block b (Nat.lt_of_lt_of_le hb h.mxlt) fun hs => by have := h.big.2 b (.inr (.inr (.inl hs))); omega
  have off : ∀ b, b < w.heap.size → b ≠ K.gt → w'.heap[b]? = w.heap[b]? := fun b hb hn => M.block b hb hn
  refine ⟨h.mx.keep fun b h9 hb => hmx b h9 hb, (off _ (h.old (.inl rfl)) h.n1.1).trans h.head, fun h0 => ⟨(h.pA h0).1, (h.pA h0).2.keep (off _ (h.old (.inr (.inl ⟨h0, rfl⟩))) (h.n1.2 h0).2)⟩,
    fun j hj => ⟨(h.dl j hj).1.keep (off _ (h.dl j hj).1.lt (h.n5 j hj).2.2.1), (h.dl j hj).2⟩, hr,
    h.ca.keep fun b hb => off b (h.ca.old hb) (h.n2 b hb).2.2.1, h.ef.keep fun b hb => off b (h.ef.old hb) (h.n3 b hb).2.2.1, h.en.keep fun b hb => off b (h.en.old hb) (h.n4 b hb).2.2.1, h.ldl, h.lkn, hl.trans h.ltr, h.lca, h.lef, h.bB, h.big, h.sz, h.cap, h.n1, h.n2, h.n3, h.n4, h.n5⟩
theorem HasK.turnKn (h : HasK w base B N K m c) (h0 : 0 < m.np) {kn : List Bool} (hr : PtRow w' K.gp K.gd kn) (hl : kn.length = c.kn.length) (M : Mod (fun b => b = K.gp) w w') : HasK w' base B N K m { c with kn := kn } := by
  have hmx : ∀ b, base ≤ b → b < B → w'.heap[b]? = w.heap[b]? := fun b h9 hb => M.block b (Nat.lt_of_lt_of_le hb h.mxlt) fun hs => by have := h.big.2 b (.inr (.inl ⟨h0, hs⟩)); omega
  have off : ∀ b, b < w.heap.size → b ≠ K.gp → w'.heap[b]? = w.heap[b]? := fun b hb hn => M.block b hb hn
  refine ⟨h.mx.keep fun b h9 hb => hmx b h9 hb, (off _ (h.old (.inl rfl)) (Ne.symm (h.n1.2 h0).1)).trans h.head, fun _ => ⟨(h.pA h0).1, hr⟩,
    fun j hj => ⟨(h.dl j hj).1.keep (off _ (h.dl j hj).1.lt (h.n5 j hj).2.1), (h.dl j hj).2⟩, (off _ (h.old (.inr (.inr (.inl rfl)))) (Ne.symm (h.n1.2 h0).2)).trans h.tr,
    h.ca.keep fun b hb => off b (h.ca.old hb) ((h.n2 b hb).2.1 h0), h.ef.keep fun b hb => off b (h.ef.old hb) ((h.n3 b hb).2.1 h0), h.en.keep fun b hb => off b (h.en.old hb) ((h.n4 b hb).2.1 h0), h.ldl, hl.trans h.lkn, h.ltr, h.lca, h.lef, h.bB, h.big, h.sz, h.cap, h.n1, h.n2, h.n3, h.n4, h.n5⟩
theorem HasK.turnDl (h : HasK w base B N K m c) {j : Nat} (hj : j < m.np) {d : Dl} (hr : HasDl w' (K.gd j) d) (ok : OkDl d) (M : Mod (fun b => b = K.gd j) w w') : HasK w' base B N K m { c with dl := c.dl.set j d } := by
  have hmx : ∀ b, base ≤ b → b < B → w'.heap[b]? = w.heap[b]? := fun b h9 hb => M.block b (Nat.lt_of_lt_of_le hb h.mxlt) fun hs => by have := h.big.2 b (.inr (.inr (.inr (.inr (.inr (.inr ⟨j, hj, hs⟩)))))); omega
  have off : ∀ b, b < w.heap.size → b ≠ K.gd j → w'.heap[b]? = w.heap[b]? := fun b hb hn => M.block b hb hn
  refine ⟨h.mx.keep fun b h9 hb => hmx b h9 hb, (off _ (h.old (.inl rfl)) (Ne.symm (h.n5 j hj).1)).trans h.head, fun h0 => ⟨(h.pA h0).1, (h.pA h0).2.keep (off _ (h.old (.inr (.inl ⟨h0, rfl⟩))) (Ne.symm (h.n5 j hj).2.1))⟩,
    fun i hi => ?_, (off _ (h.old (.inr (.inr (.inl rfl)))) (Ne.symm (h.n5 j hj).2.2.1)).trans h.tr,
    h.ca.keep fun b hb => off b (h.ca.old hb) ((h.n2 b hb).2.2.2.1 j hj), h.ef.keep fun b hb => off b (h.ef.old hb) ((h.n3 b hb).2.2.2.1 j hj), h.en.keep fun b hb => off b (h.en.old hb) ((h.n4 b hb).2.2.2 j hj), by rw [List.length_set]; exact h.ldl, h.lkn, h.ltr, h.lca, h.lef, h.bB, h.big, h.sz, h.cap, h.n1, h.n2, h.n3, h.n4, h.n5⟩
  by_cases e : i = j
  · subst e
    rw [show ({ c with dl := c.dl.set i d } : Co).dl.getD i dl0 = d from getD_set_same _ _ _ _ (by rw [h.ldl]; exact hi)]
    exact ⟨hr, ok⟩
  · rw [show ({ c with dl := c.dl.set j d } : Co).dl.getD i dl0 = c.dl.getD i dl0 from getD_set_other _ _ _ (fun e2 => e e2.symm)]
    exact ⟨(h.dl i hi).1.keep (off _ (h.dl i hi).1.lt ((h.n5 j hj).2.2.2 i hi e)), (h.dl i hi).2⟩
end
end Go.Proofs.YtgajbgdkgelkgaaGreat
