/- Layer 24: devices and lines, in memory and as they are. · Layer 24, the walks: wire, device, Waits, Coil, Set. -/
import Derived.Test.YtgagpalffdgjnaaG40f
import Derived.Test.YtgagpalffdgjnaaG11
import Derived.Test.YtgagpalffdgjnaaG36
import Derived.Test.YtgagpalffdgjnaaG31
import Derived.Test.YtgagpalffdgjnaaG02
import Derived.Test.YtgagpalffdgjnaaG01
import Derived.Laws.EntriesVeiled
namespace Go.Proofs.Ytgagpalffdgjnaa
open Go.RowKit

def upf {α : Type} (f : Nat → α) (j : Nat) (x : α) : Nat → α := fun i => if i = j then x else f i
theorem upf_same {α : Type} (f : Nat → α) (j : Nat) (x : α) : upf f j x j = x := if_pos rfl
theorem upf_other {α : Type} (f : Nat → α) {i j : Nat} (x : α) (h : i ≠ j) : upf f j x i = f i := if_neg h
theorem upf_self {α : Type} (f : Nat → α) (j : Nat) : upf f j (f j) = f := by
  funext i
  by_cases h : i = j
  · subst h; exact upf_same _ _ _
  · exact upf_other _ _ h
/-- A line as it is: the faults that are to come, and the answers. -/
structure Wi where
  fs : List (Int × Int)
  ws : List (Int × List Int)
/-- Devices, and lines, as they are. -/
structure Fp where
  L : Nat → Nat → List Int
  W : Nat → Wi
/-- An answer in memory. -/
structure Rm where
  at_ : Int
  b : List Int
  A : Option Addr
  n : Nat
  c : Nat
def Rm.p (r : Rm) : Int × List Int := (r.at_, r.b)
def Rm.cells (r : Rm) : List Value := [.int .i64 r.at_, .slice r.A r.n r.c]
def fCells (x : Int × Int) : List Value := [.int .i64 x.1, .int .i64 x.2]
theorem fCells_len (l : List (Int × Int)) : (l.flatMap fCells).length = l.length * 2 := by
  induction l with
  | nil => rfl
  | cons x l ih => rw [List.flatMap_cons, List.length_append, ih, List.length_cons]; simp [fCells]; omega
theorem rCells_len (l : List Rm) : (l.flatMap Rm.cells).length = l.length * 2 := by
  induction l with
  | nil => rfl
  | cons x l ih => rw [List.flatMap_cons, List.length_append, ih, List.length_cons]; simp [Rm.cells]; omega
/-- Where a field's parts lie. -/
structure Fdm where
  bv : Value
  g : Nat → Nat
  G : Nat → Nat → Nat
  m : Nat
  t : Nat → Nat
  fv : Nat → Value
  wv : Nat → Value
  rs : Nat → List Rm
def ptrs (g : Nat → Nat) (n : Nat) : List Value := (List.range n).map fun i => .pointer (some ⟨g i, 0, none⟩)
def openV (j : Nat) : Value := if j < 2 then .func (.func 86) #[] #[] else .func (.func 91) #[] #[]
def frameV (j : Nat) : Value := if j < 2 then .func (.func 88) #[] #[] else .func (.func 93) #[] #[]
def spoilV (t : Nat) : Value := .func (.func 117) #[] #[.pointer (some ⟨t, 0, none⟩)]
def placeJ (j : Nat) : Int := if j < 2 then -1 else 2
def devAt (dev : List (Int × Int)) (l u : Int) : Option Nat := dev.findIdx? fun p => p.1 == l && p.2 == u
def slotOf (dev : List (Int × Int)) (g : Nat → Nat) (l u : Int) : Nat := match devAt dev l u with | some i => g i + 1 | none => 0
/-- The blocks that its calls may write. -/
def Fdm.T (M : Fdm) (f nd : Nat) (b : Nat) : Prop := b = f ∨ (∃ i, i < nd ∧ RowsOf (M.G i) b) ∨ (∃ j, j < 4 ∧ ((M.fv j).ownBlock = some b ∨ (M.wv j).ownBlock = some b))
/-- All that it reads. -/
def Fdm.U (M : Fdm) (f nd : Nat) (b : Nat) : Prop := M.T f nd b ∨ b = M.m ∨ M.bv.ownBlock = some b ∨ (∃ i, i < nd ∧ b = M.g i) ∨ (∃ j, j < 4 ∧ (b = M.t j ∨ ∃ r ∈ M.rs j, 0 < r.n ∧ ∃ o, r.A = some ⟨b, o, none⟩))
structure Rm.ok (w : World) (T : Nat → Prop) (r : Rm) : Prop where
  rd : RdI w w.heap.size .u8 r.A r.n r.b
  nc : r.n ≤ r.c
  cm : r.c ≤ maxLen
  off : OffB T r.A r.n
structure FdM (w : World) (f : Nat) (dev : List (Int × Int)) (F : Fp) (M : Fdm) : Prop where
  head : ∃ cs, w.heap[f]? = some (.cells cs 129 (0, 0))
  c0 : w.cell? ⟨f, 0, none⟩ = some M.bv
  c1 : w.cell? ⟨f, 1, none⟩ = some (.map (some M.m))
  wi : ∀ j, j < 4 → w.cell? ⟨f, 2 + 5 * j, none⟩ = some (openV j) ∧ w.cell? ⟨f, 2 + 5 * j + 1, none⟩ = some (frameV j) ∧ w.cell? ⟨f, 2 + 5 * j + 2, none⟩ = some (spoilV (M.t j)) ∧ w.cell? ⟨f, 2 + 5 * j + 3, none⟩ = some (M.fv j) ∧ w.cell? ⟨f, 2 + 5 * j + 4, none⟩ = some (M.wv j)
  bv : RowAt w 131 1 M.bv dev.length (ptrs M.g dev.length)
  bk : ∀ i, i < dev.length → Bk w (M.g i) (F.L i) (M.G i)
  ap : ∀ i j, i < j → j < dev.length → M.G i 3 < M.g j
  mp : MapW w M.m dev.length (slotOf dev M.g)
  tj : ∀ j, j < 4 → w.heap[M.t j]? = some (.cells #[.int .i64 (placeJ j)] 3 (0, 0))
  fa : ∀ j, j < 4 → RowAt w 144 2 (M.fv j) (F.W j).fs.length ((F.W j).fs.flatMap fCells)
  wa : ∀ j, j < 4 → RowAt w 148 2 (M.wv j) (M.rs j).length ((M.rs j).flatMap Rm.cells)
  wp : ∀ j, j < 4 → (F.W j).ws = (M.rs j).map Rm.p
  an : ∀ j, j < 4 → ∀ r ∈ M.rs j, r.ok w (M.T f dev.length)
  fx : ∀ i j, i < 4 → j < 4 → i ≠ j → ∀ b, (M.fv i).ownBlock = some b → (M.fv j).ownBlock ≠ some b
  wx : ∀ i j, i < 4 → j < 4 → i ≠ j → ∀ b, (M.wv i).ownBlock = some b → (M.wv j).ownBlock ≠ some b
def HasFd (w : World) (T U : Nat → Prop) (f : Nat) (dev : List (Int × Int)) (F : Fp) : Prop := ∃ M, FdM w f dev F M ∧ T = M.T f dev.length ∧ U = M.U f dev.length
/-- Blocks of one field behind a call: what they were, or new. -/
def Grew (w : World) (T T' : Nat → Prop) : Prop := ∀ b, T' b → T b ∨ w.heap.size ≤ b
def Is (w : World) (b : Nat) (t : TypeId) : Prop := ∃ cs r, w.heap[b]? = some (.cells cs t r)
theorem Is.ne {w : World} {a b : Nat} {s t : TypeId} (h : Is w a s) (k : Is w b t) (hn : s ≠ t) : a ≠ b := fun e => by
  subst e
  obtain ⟨cs, r, h⟩ := h
  obtain ⟨cs', r', k⟩ := k
  rw [h] at k
  simp only [Option.some.injEq, Obj.cells.injEq] at k
  exact hn k.2.1
theorem RowAt.is {w : World} {e : TypeId} {size n : Nat} {v : Value} {xs : List Value} (h : RowAt w e size v n xs) {b : Nat} (hb : v.ownBlock = some b) : Is w b e := by
  rcases h.2 with ⟨rfl, _⟩ | ⟨g', o, cap, cur, rfl, hh, _⟩
  · simp [Value.ownBlock] at hb
  · simp only [Value.ownBlock, Option.some.injEq] at hb
    subst hb
    exact ⟨_, _, hh⟩
theorem RdI.keepB {w w' : World} {k : IntKind} {A : Option Addr} {n : Nat} {xs : List Int} (h : RdI w w.heap.size k A n xs) (hk : 0 < n → ∀ b o, A = some ⟨b, o, none⟩ → w'.heap[b]? = w.heap[b]?) (hs : w.heap.size ≤ w'.heap.size) : RdI w' w'.heap.size k A n xs :=
  ⟨h.1, fun hn => by
    obtain ⟨b, o, e, hb, hc⟩ := h.2 hn
    exact ⟨b, o, e, by omega, fun j hj => (World.cell?_of_block (a := ⟨b, o + j, none⟩) (hk hn b o e)).trans (hc j hj)⟩⟩
section
variable {w w' : World} {f : Nat} {dev : List (Int × Int)} {F : Fp} {M : Fdm}
theorem FdM.isF (h : FdM w f dev F M) : Is w f 129 := let ⟨cs, e⟩ := h.head; ⟨cs, _, e⟩
theorem FdM.isG (h : FdM w f dev F M) {i k : Nat} (hi : i < dev.length) (hk : k < 4) : Is w (M.G i k) 43 := ⟨_, _, (h.bk i hi).row k hk⟩
theorem FdM.isg (h : FdM w f dev F M) {i : Nat} (hi : i < dev.length) : Is w (M.g i) 181 := ⟨_, _, (h.bk i hi).head⟩
theorem FdM.isT (h : FdM w f dev F M) {j : Nat} (hj : j < 4) : Is w (M.t j) 3 := ⟨_, _, h.tj j hj⟩
theorem FdM.isV (h : FdM w f dev F M) {j b : Nat} (hj : j < 4) (hb : (M.fv j).ownBlock = some b) : Is w b 144 := (h.fa j hj).is hb
theorem FdM.isW (h : FdM w f dev F M) {j b : Nat} (hj : j < 4) (hb : (M.wv j).ownBlock = some b) : Is w b 148 := (h.wa j hj).is hb
theorem FdM.isB (h : FdM w f dev F M) {b : Nat} (hb : M.bv.ownBlock = some b) : Is w b 131 := h.bv.is hb
theorem Is.lt {b : Nat} {t : TypeId} (h : Is w b t) : b < w.heap.size := let ⟨_, _, e⟩ := h; lt_of_block e
theorem FdM.notMap (h : FdM w f dev F M) {b : Nat} {t : TypeId} (hb : Is w b t) : b ≠ M.m := fun e => by
  subst e
  obtain ⟨es, ck, h1⟩ := h.mp.block
  obtain ⟨cs, r, h2⟩ := hb
  rw [h1] at h2
  simp at h2
theorem FdM.lt (h : FdM w f dev F M) {b : Nat} (hb : M.U f dev.length b) : b < w.heap.size := by
  rcases hb with (rfl | ⟨i, hi, k, hk, rfl⟩ | ⟨j, hj, hb | hb⟩) | rfl | hb | ⟨i, hi, rfl⟩ | ⟨j, hj, rfl | ⟨r, hr, hn, o, e⟩⟩
  · exact h.isF.lt
  · exact (h.isG hi hk).lt
  · exact (h.isV hj hb).lt
  · exact (h.isW hj hb).lt
  · exact h.mp.lt
  · exact (h.isB hb).lt
  · exact (h.isg hi).lt
  · exact (h.isT hj).lt
  · exact (h.an j hj r hr).rd.lt_of hn e
theorem FdM.keep (h : FdM w f dev F M) (hk : ∀ b, M.U f dev.length b → w'.heap[b]? = w.heap[b]?) (hs : w.heap.size ≤ w'.heap.size) : FdM w' f dev F M := by
  have hf : w'.heap[f]? = w.heap[f]? := hk f (.inl (.inl rfl))
  have hc : ∀ o, w'.cell? ⟨f, o, none⟩ = w.cell? ⟨f, o, none⟩ := fun o => World.cell?_of_block (a := ⟨f, o, none⟩) hf
  refine ⟨let ⟨cs, e⟩ := h.head; ⟨cs, hf.trans e⟩, (hc _).trans h.c0, (hc _).trans h.c1, fun j hj => ?_, h.bv.keep fun b hb => hk b (.inr (.inr (.inl hb))), fun i hi => (h.bk i hi).keep fun b hb => hk b ?_, h.ap, h.mp.keep (hk _ (.inr (.inl rfl))), fun j hj => (hk _ (.inr (.inr (.inr (.inr ⟨j, hj, .inl rfl⟩))))).trans (h.tj j hj),
    fun j hj => (h.fa j hj).keep fun b hb => hk b (.inl (.inr (.inr ⟨j, hj, .inl hb⟩))), fun j hj => (h.wa j hj).keep fun b hb => hk b (.inl (.inr (.inr ⟨j, hj, .inr hb⟩))), h.wp, fun j hj r hr => ?_, h.fx, h.wx⟩
  · obtain ⟨a1, a2, a3, a4, a5⟩ := h.wi j hj
    exact ⟨(hc _).trans a1, (hc _).trans a2, (hc _).trans a3, (hc _).trans a4, (hc _).trans a5⟩
  · rcases hb with rfl | hb
    · exact .inr (.inr (.inr (.inl ⟨i, hi, rfl⟩)))
    · exact .inl (.inr (.inl ⟨i, hi, hb⟩))
  · have h1 := h.an j hj r hr
    exact ⟨h1.rd.keepB (fun hn b o e => hk b (.inr (.inr (.inr (.inr ⟨j, hj, .inr ⟨r, hr, hn, o, e⟩⟩))))) hs, h1.nc, h1.cm, h1.off⟩
theorem FdM.ext (h : FdM w f dev F M) (E : Ext w w') : FdM w' f dev F M := h.keep (fun b hb => E.block b (h.lt hb)) E.size
theorem HasFd.ext {T U : Nat → Prop} (h : HasFd w T U f dev F) (E : Ext w w') : HasFd w' T U f dev F := let ⟨M, hm, e1, e2⟩ := h; ⟨M, hm.ext E, e1, e2⟩
theorem HasFd.lt {T U : Nat → Prop} (h : HasFd w T U f dev F) {b : Nat} (hb : U b) : b < w.heap.size := by
  obtain ⟨M, hm, rfl, rfl⟩ := h
  exact hm.lt hb
theorem HasFd.sub {T U : Nat → Prop} (h : HasFd w T U f dev F) {b : Nat} (hb : T b) : U b := by
  obtain ⟨M, hm, rfl, rfl⟩ := h
  exact .inl hb
theorem HasFd.ltT {T U : Nat → Prop} (h : HasFd w T U f dev F) {b : Nat} (hb : T b) : b < w.heap.size := h.lt (h.sub hb)
theorem HasFd.modS {T U S : Nat → Prop} (h : HasFd w T U f dev F) (m : Mod S w w') (hs : ∀ b, U b → ¬ S b) : HasFd w' T U f dev F := by
  obtain ⟨M, hm, rfl, rfl⟩ := h
  exact ⟨M, hm.keep (fun b hb => m.block b (hm.lt hb) (hs b hb)) m.size, rfl, rfl⟩
/-- A bank's rows turned. -/
theorem FdM.turnBank (h : FdM w f dev F M) {i : Nat} (hi : i < dev.length) {L' : Nat → List Int} (hb : Bk w' (M.g i) L' (M.G i)) (m : Mod (RowsOf (M.G i)) w w') : FdM w' f dev { F with L := upf F.L i L' } M := by
  have no : ∀ {b : Nat} {t : TypeId}, Is w b t → t ≠ 43 → w'.heap[b]? = w.heap[b]? := fun {b t} hb ht => m.block b hb.lt (by
    rintro ⟨k, hk, rfl⟩
    exact ht (Classical.byContradiction fun hn => (hb.ne (h.isG hi hk) hn) rfl))
  have hf := no h.isF (by decide)
  have hc : ∀ o, w'.cell? ⟨f, o, none⟩ = w.cell? ⟨f, o, none⟩ := fun o => World.cell?_of_block (a := ⟨f, o, none⟩) hf
  have hG3 : ∀ {i : Nat}, i < dev.length → ∀ {k : Nat}, k < 4 → M.G i k ≤ M.G i 3 := fun {i} hi {k} hk => by
    rcases Nat.lt_or_ge k 3 with h1 | h1
    · exact Nat.le_of_lt ((h.bk i hi).up k 3 h1 (by omega))
    · have : k = 3 := by omega
      subst this; exact Nat.le_refl _
  refine ⟨let ⟨cs, e⟩ := h.head; ⟨cs, hf.trans e⟩, (hc _).trans h.c0, (hc _).trans h.c1, fun j hj => ?_, h.bv.keep fun b hb => no (h.isB hb) (by decide), fun i' hi' => ?_, h.ap, h.mp.keep (m.block _ h.mp.lt ?_), fun j hj => (no (h.isT hj) (by decide)).trans (h.tj j hj),
    fun j hj => (h.fa j hj).keep fun b hb => no (h.isV hj hb) (by decide), fun j hj => (h.wa j hj).keep fun b hb => no (h.isW hj hb) (by decide), h.wp, fun j hj r hr => ?_, h.fx, h.wx⟩
  · obtain ⟨a1, a2, a3, a4, a5⟩ := h.wi j hj
    exact ⟨(hc _).trans a1, (hc _).trans a2, (hc _).trans a3, (hc _).trans a4, (hc _).trans a5⟩
  · show Bk w' (M.g i') (upf F.L i L' i') (M.G i')
    by_cases e : i' = i
    · subst e; rw [upf_same]; exact hb
    · rw [upf_other _ _ e]
      refine (h.bk i' hi').mod m ?_ ?_
      · rintro ⟨k, hk, e2⟩
        exact (h.isg hi').ne (h.isG hi hk) (by decide) e2
      · rintro k' hk' ⟨k, hk, e2⟩
        have a1 := hG3 hi hk
        have a2 := hG3 hi' hk'
        have b1 := (h.bk i hi).gt hk
        have b2 := (h.bk i' hi').gt hk'
        rcases Nat.lt_or_gt_of_ne e with h1 | h1
        · have := h.ap i' i h1 hi; omega
        · have := h.ap i i' h1 hi'; omega
  · rintro ⟨k, hk, e⟩
    exact h.notMap (h.isG hi hk) e.symm
  · have h1 := h.an j hj r hr
    exact ⟨h1.rd.modS (h1.off.weak fun b hb => .inr (.inl ⟨i, hi, hb⟩)) m, h1.nc, h1.cm, h1.off⟩
/-- A line turned: its faults, and its answers. -/
theorem FdM.turnLine (h : FdM w f dev F M) {j : Nat} (hj : j < 4) {fs : List (Int × Int)} {rs : List Rm} {fv wv : Value}
    (m : Mod (fun b => b = f ∨ (M.fv j).ownBlock = some b ∨ (M.wv j).ownBlock = some b) w w') (hh : ∃ cs, w'.heap[f]? = some (.cells cs 129 (0, 0)))
    (hc : ∀ o, o ≠ 2 + 5 * j + 3 → o ≠ 2 + 5 * j + 4 → w'.cell? ⟨f, o, none⟩ = w.cell? ⟨f, o, none⟩) (h3 : w'.cell? ⟨f, 2 + 5 * j + 3, none⟩ = some fv) (h4 : w'.cell? ⟨f, 2 + 5 * j + 4, none⟩ = some wv)
    (hfa : RowAt w' 144 2 fv fs.length (fs.flatMap fCells)) (hwa : RowAt w' 148 2 wv rs.length (rs.flatMap Rm.cells))
    (hnf : ∀ b, fv.ownBlock = some b → (M.fv j).ownBlock = some b ∨ w.heap.size ≤ b) (hnw : ∀ b, wv.ownBlock = some b → (M.wv j).ownBlock = some b ∨ w.heap.size ≤ b)
    (han : ∀ r ∈ rs, r.ok w' (M.T f dev.length) ∧ (0 < r.n → ∀ b o, r.A = some ⟨b, o, none⟩ → wv.ownBlock ≠ some b ∧ fv.ownBlock ≠ some b)) :
    FdM w' f dev { F with W := upf F.W j ⟨fs, rs.map Rm.p⟩ } { M with fv := upf M.fv j fv, wv := upf M.wv j wv, rs := upf M.rs j rs } := by
  have no : ∀ {b : Nat} {t : TypeId}, Is w b t → t ≠ 129 → t ≠ 144 → t ≠ 148 → w'.heap[b]? = w.heap[b]? := fun {b t} hb h1 h2 h3 => m.block b hb.lt (by
    rintro (rfl | h' | h')
    · exact (hb.ne h.isF h1) rfl
    · exact (hb.ne (h.isV hj h') h2) rfl
    · exact (hb.ne (h.isW hj h') h3) rfl)
  have nV : ∀ i, i < 4 → i ≠ j → ∀ b, (M.fv i).ownBlock = some b → w'.heap[b]? = w.heap[b]? := fun i hi hn b hb => m.block b (h.isV hi hb).lt (by
    rintro (rfl | h' | h')
    · exact ((h.isV hi hb).ne h.isF (by decide)) rfl
    · exact h.fx i j hi hj hn b hb h'
    · exact ((h.isV hi hb).ne (h.isW hj h') (by decide)) rfl)
  have nW : ∀ i, i < 4 → i ≠ j → ∀ b, (M.wv i).ownBlock = some b → w'.heap[b]? = w.heap[b]? := fun i hi hn b hb => m.block b (h.isW hi hb).lt (by
    rintro (rfl | h' | h')
    · exact ((h.isW hi hb).ne h.isF (by decide)) rfl
    · exact ((h.isW hi hb).ne (h.isV hj h') (by decide)) rfl
    · exact h.wx i j hi hj hn b hb h')
  have hT : ∀ b, Fdm.T { M with fv := upf M.fv j fv, wv := upf M.wv j wv, rs := upf M.rs j rs } f dev.length b → M.T f dev.length b ∨ w.heap.size ≤ b ∧ (fv.ownBlock = some b ∨ wv.ownBlock = some b) := fun b hb => by
    rcases hb with rfl | hb | ⟨i, hi, hb | hb⟩
    · exact .inl (.inl rfl)
    · exact .inl (.inr (.inl hb))
    · by_cases e : i = j
      · subst e
        have hb : (upf M.fv i fv i).ownBlock = some b := hb
        rw [upf_same] at hb
        rcases hnf b hb with h1 | h1
        · exact .inl (.inr (.inr ⟨i, hi, .inl h1⟩))
        · exact .inr ⟨h1, .inl hb⟩
      · replace hb : (upf M.fv j fv i).ownBlock = some b := hb
        rw [upf_other _ _ e] at hb
        exact .inl (.inr (.inr ⟨i, hi, .inl hb⟩))
    · by_cases e : i = j
      · subst e
        have hb : (upf M.wv i wv i).ownBlock = some b := hb
        rw [upf_same] at hb
        rcases hnw b hb with h1 | h1
        · exact .inl (.inr (.inr ⟨i, hi, .inr h1⟩))
        · exact .inr ⟨h1, .inr hb⟩
      · replace hb : (upf M.wv j wv i).ownBlock = some b := hb
        rw [upf_other _ _ e] at hb
        exact .inl (.inr (.inr ⟨i, hi, .inr hb⟩))
  refine ⟨hh, (hc 0 (by omega) (by omega)).trans h.c0, (hc 1 (by omega) (by omega)).trans h.c1, fun i hi => ?_, h.bv.keep fun b hb => no (h.isB hb) (by decide) (by decide) (by decide), fun i hi => (h.bk i hi).keep ?_, h.ap, h.mp.keep (m.block _ h.mp.lt ?_),
    fun i hi => (no (h.isT hi) (by decide) (by decide) (by decide)).trans (h.tj i hi), fun i hi => ?_, fun i hi => ?_, fun i hi => ?_, fun i hi r hr => ?_, fun i k hi hk hn b hb => ?_, fun i k hi hk hn b hb => ?_⟩
  · obtain ⟨a1, a2, a3, a4, a5⟩ := h.wi i hi
    show _ ∧ _ ∧ _ ∧ w'.cell? ⟨f, 2 + 5 * i + 3, none⟩ = some (upf M.fv j fv i) ∧ w'.cell? ⟨f, 2 + 5 * i + 4, none⟩ = some (upf M.wv j wv i)
    by_cases e : i = j
    · subst e
      rw [upf_same, upf_same]
      exact ⟨(hc _ (by omega) (by omega)).trans a1, (hc _ (by omega) (by omega)).trans a2, (hc _ (by omega) (by omega)).trans a3, h3, h4⟩
    · rw [upf_other _ _ e, upf_other _ _ e]
      exact ⟨(hc _ (by omega) (by omega)).trans a1, (hc _ (by omega) (by omega)).trans a2, (hc _ (by omega) (by omega)).trans a3, (hc _ (by omega) (by omega)).trans a4, (hc _ (by omega) (by omega)).trans a5⟩
  · rintro b (rfl | ⟨k, hk, rfl⟩)
    · exact no (h.isg hi) (by decide) (by decide) (by decide)
    · exact no (h.isG hi hk) (by decide) (by decide) (by decide)
  · rintro (e | e | e)
    · exact h.notMap h.isF e.symm
    · exact h.notMap (h.isV hj e) rfl
    · exact h.notMap (h.isW hj e) rfl
  · show RowAt w' _ 2 (upf M.fv j fv i) (upf F.W j ⟨fs, rs.map Rm.p⟩ i).fs.length ((upf F.W j ⟨fs, rs.map Rm.p⟩ i).fs.flatMap fCells)
    by_cases e : i = j
    · subst e; rw [upf_same, upf_same]; exact hfa
    · rw [upf_other _ _ e, upf_other _ _ e]; exact (h.fa i hi).keep fun b hb => nV i hi e b hb
  · show RowAt w' _ 2 (upf M.wv j wv i) (upf M.rs j rs i).length ((upf M.rs j rs i).flatMap Rm.cells)
    by_cases e : i = j
    · subst e; rw [upf_same, upf_same]; exact hwa
    · rw [upf_other _ _ e, upf_other _ _ e]; exact (h.wa i hi).keep fun b hb => nW i hi e b hb
  · show (upf F.W j ⟨fs, rs.map Rm.p⟩ i).ws = (upf M.rs j rs i).map Rm.p
    by_cases e : i = j
    · subst e; rw [upf_same, upf_same]
    · rw [upf_other _ _ e, upf_other _ _ e]; exact h.wp i hi
  · have hr : r ∈ upf M.rs j rs i := hr
    by_cases e : i = j
    · subst e
      rw [upf_same] at hr
      obtain ⟨h1, h2⟩ := han r hr
      refine ⟨h1.rd, h1.nc, h1.cm, fun hn b o e hb => ?_⟩
      rcases hT b hb with hb | ⟨_, hb | hb⟩
      · exact h1.off hn b o e hb
      · exact (h2 hn b o e).2 hb
      · exact (h2 hn b o e).1 hb
    · rw [upf_other _ _ e] at hr
      have h1 := h.an i hi r hr
      refine ⟨h1.rd.modS (h1.off.weak ?_) m, h1.nc, h1.cm, fun hn b o e hb => ?_⟩
      · rintro b (rfl | hb | hb)
        · exact .inl rfl
        · exact .inr (.inr ⟨j, hj, .inl hb⟩)
        · exact .inr (.inr ⟨j, hj, .inr hb⟩)
      · rcases hT b hb with hb | ⟨hb, _⟩
        · exact h1.off hn b o e hb
        · have := h1.rd.lt_of hn e; omega
  · replace hb : (upf M.fv j fv i).ownBlock = some b := hb
    show (upf M.fv j fv k).ownBlock ≠ some b
    intro hb2
    by_cases e : i = j
    · subst e
      rw [upf_same] at hb
      rw [upf_other _ _ (Ne.symm hn)] at hb2
      rcases hnf b hb with h1 | h1
      · exact h.fx i k hi hk hn b h1 hb2
      · have := (h.isV hk hb2).lt; omega
    · rw [upf_other _ _ e] at hb
      by_cases e2 : k = j
      · subst e2
        rw [upf_same] at hb2
        rcases hnf b hb2 with h1 | h1
        · exact h.fx i k hi hk hn b hb h1
        · have := (h.isV hi hb).lt; omega
      · rw [upf_other _ _ e2] at hb2
        exact h.fx i k hi hk hn b hb hb2
  · replace hb : (upf M.wv j wv i).ownBlock = some b := hb
    show (upf M.wv j wv k).ownBlock ≠ some b
    intro hb2
    by_cases e : i = j
    · subst e
      rw [upf_same] at hb
      rw [upf_other _ _ (Ne.symm hn)] at hb2
      rcases hnw b hb with h1 | h1
      · exact h.wx i k hi hk hn b h1 hb2
      · have := (h.isW hk hb2).lt; omega
    · rw [upf_other _ _ e] at hb
      by_cases e2 : k = j
      · subst e2
        rw [upf_same] at hb2
        rcases hnw b hb2 with h1 | h1
        · exact h.wx i k hi hk hn b hb h1
        · have := (h.isW hi hb).lt; omega
      · rw [upf_other _ _ e2] at hb2
        exact h.wx i k hi hk hn b hb hb2
end
end Go.Proofs.Ytgagpalffdgjnaa
namespace Go.Proofs.Ytgagpalffdgjnaa
open Go.RowKit

section
variable {w w' : World} {f : Nat} {dev : List (Int × Int)} {F : Fp} {M : Fdm}
set_option maxRecDepth 100000 in
theorem wire_yes (f j : Nat) (w : World) (hj : j < 4) :
    Calls Try.prog 62 #[.pointer (some ⟨f, 0, none⟩), .int .i64 (j : Int)] w fun e w' => e = .returned (.pointer (some ⟨f, 2 + 5 * j, none⟩)) ∧ w = w' := by
  have h1 : decide ((j : Int) < 0) = false := by simp
  have h2 : decide ((4 : Int) ≤ (j : Int)) = false := by simp; omega
  have h3 : (j : Int) < 4 := by omega
  go_enter Try.func62, Try.ntmps62
  go_wp2
  go_ret
  refine ⟨?_, rfl⟩
  rw [Nat.mul_comm]
  rfl
set_option maxRecDepth 100000 in
theorem wire_no (f : Nat) (l : Int) (w : World) (hl : ¬ (0 ≤ l ∧ l < 4)) :
    Calls Try.prog 62 #[.pointer (some ⟨f, 0, none⟩), .int .i64 l] w fun e w' => e = .returned (.pointer none) ∧ w = w' := by
  rcases (show l < 0 ∨ (¬ l < 0 ∧ 4 ≤ l) from by omega) with h | ⟨h, h'⟩
  · have h1 : decide (l < 0) = true := by simpa using h
    go_enter Try.func62, Try.ntmps62
    go_wp2
    go_ret
    exact ⟨rfl, rfl⟩
  · have h1 : decide (l < 0) = false := by simpa using h
    have h2 : decide ((4 : Int) ≤ l) = true := by simpa using h'
    go_enter Try.func62, Try.ntmps62
    go_wp2
    go_ret
    exact ⟨rfl, rfl⟩
set_option maxRecDepth 100000 in
theorem device_yes (h : FdM w f dev F M) {i : Nat} (hi : i < dev.length) :
    Calls Try.prog 58 #[.pointer (some ⟨f, 0, none⟩), .int .i64 (i : Int)] w fun e w' => e = .returned (.pointer (some ⟨M.g i, 0, none⟩)) ∧ w = w' := by
  obtain ⟨b, o, cap, hv, _, hn, _hm, _, hc⟩ := h.bv.at_ (by omega)
  have c0 := h.c0
  rw [hv] at c0
  have h1 : decide ((i : Int) < 0) = false := by simp
  have h2 : decide ((dev.length : Int) ≤ (i : Int)) = false := by simp; omega
  have h3 : (i : Int) < (dev.length : Int) := by omega
  have ci : w.cell? ⟨b, o + i, none⟩ = some (.pointer (some ⟨M.g i, 0, none⟩)) := by
    rw [hc i (by omega)]
    simp [ptrs, hi]
  generalize dev.length = nd at *
  clear hv hc h
  go_enter Try.func58, Try.ntmps58
  go_wp2
  go_ret
  exact ⟨rfl, rfl⟩
set_option maxRecDepth 100000 in
theorem device_no (h : FdM w f dev F M) {i : Int} (hi : ¬ (0 ≤ i ∧ i < dev.length)) :
    Calls Try.prog 58 #[.pointer (some ⟨f, 0, none⟩), .int .i64 i] w fun e w' => e = .returned (.pointer none) ∧ w = w' := by
  obtain ⟨A, c, hv, _, _⟩ := h.bv.shape
  have c0 := h.c0
  rw [hv] at c0
  rcases (show i < 0 ∨ (¬ i < 0 ∧ (dev.length : Int) ≤ i) from by omega) with h0 | ⟨h0, h0'⟩
  · have h1 : decide (i < 0) = true := by simpa using h0
    generalize dev.length = nd at *
    clear hv h
    go_enter Try.func58, Try.ntmps58
    go_wp2
    go_ret
    exact ⟨rfl, rfl⟩
  · have h1 : decide (i < 0) = false := by simpa using h0
    have h2 : decide ((dev.length : Int) ≤ i) = true := by simpa using h0'
    generalize dev.length = nd at *
    clear hv h
    go_enter Try.func58, Try.ntmps58
    go_wp2
    go_ret
    exact ⟨rfl, rfl⟩
/-- How many answers have not come yet. -/
def waitsF (F : Fp) (l : Int) : Nat := if 0 ≤ l ∧ l < 4 then (F.W l.toNat).ws.length else 0
set_option maxRecDepth 100000 in
theorem fieldWaits_m (h : FdM w f dev F M) (l : Int) :
    Calls Try.prog 39 #[.pointer (some ⟨f, 0, none⟩), .int .i64 l] w fun e w' => e = .returned (.int .i64 (waitsF F l : Int)) ∧ w = w' := by
  by_cases hl : 0 ≤ l ∧ l < 4
  · obtain ⟨j, rfl⟩ : ∃ j : Nat, l = j := ⟨l.toNat, by omega⟩
    have hj : j < 4 := by omega
    have he : waitsF F (j : Int) = (M.rs j).length := by unfold waitsF; rw [if_pos hl, Int.toNat_natCast, h.wp j hj, List.length_map]
    obtain ⟨_, _, _, _, c4⟩ := h.wi j hj
    obtain ⟨A, c, hv, _, _⟩ := (h.wa j hj).shape
    rw [hv] at c4
    rw [he]
    have hw := wire_yes f j w hj
    generalize 2 + 5 * j = q at *
    generalize (M.rs j).length = nr at *
    clear he hv h hl
    go_enter Try.func39, Try.ntmps39
    go_wp2_with fail
    refine hw.mono ?_
    rintro e w' ⟨rfl, rfl⟩
    go_wp2_with fail
    go_ret
    exact ⟨rfl, rfl⟩
  · have he : waitsF F l = 0 := if_neg hl
    rw [he]
    have hw := wire_no f l w hl
    clear he h
    go_enter Try.func39, Try.ntmps39
    go_wp2_with fail
    refine hw.mono ?_
    rintro e w' ⟨rfl, rfl⟩
    go_wp2_with fail
    go_ret
    exact ⟨rfl, rfl⟩
/-- How a coil is; and whether it is there. -/
def coilF (dev : List (Int × Int)) (F : Fp) (i k : Int) : Int := if 0 ≤ i ∧ i < dev.length then atB (F.L i.toNat) 0 k else 0
def coilOk (dev : List (Int × Int)) (F : Fp) (i k : Int) : Bool := if 0 ≤ i ∧ i < dev.length then spanB (F.L i.toNat) 0 k 1 else false
set_option maxRecDepth 100000 in
theorem fieldCoil_m (h : FdM w f dev F M) (i k : Int) :
    Calls Try.prog 35 #[.pointer (some ⟨f, 0, none⟩), .int .i64 i, .int .i64 k] w fun e w' => e = .returned (.tuple #[.int .i64 (coilF dev F i k), .bool (coilOk dev F i k)]) ∧ w = w' := by
  unfold coilF coilOk
  by_cases hl : 0 ≤ i ∧ i < dev.length
  · obtain ⟨j, rfl⟩ : ∃ j : Nat, i = j := ⟨i.toNat, by omega⟩
    have hj : j < dev.length := by omega
    have hw := device_yes h hj
    have hb := h.bk j hj
    have ha := bankAt_any (M.g j) 0 k (F.L j) (M.G j) w hb
    rw [if_pos hl, if_pos hl, Int.toNat_natCast]
    have hr : 0 ≤ atB (F.L j) 0 k ∧ atB (F.L j) 0 k ≤ 65535 := by
      unfold atB
      split
      · have := hb.rng 0 k.toNat
        rw [show ((0 : Int).toNat) = 0 from rfl, List.getD_eq_getElem?_getD]
        exact this
      · omega
    generalize atB (F.L j) 0 k = x at *
    generalize spanB (F.L j) 0 k 1 = ok at *
    generalize dev.length = nd at *
    have hcv : IntKind.i64.wrap x = x := by rw [IntKind.wrap_i64]; omega
    clear h hb hl
    go_enter Try.func35, Try.ntmps35
    go_wp2_with fail
    refine hw.mono ?_
    rintro e w' ⟨rfl, rfl⟩
    go_wp2_with fail
    refine ha.mono ?_
    rintro e w' ⟨rfl, rfl⟩
    go_wp2_with fail
    go_ret2
    exact ⟨rfl, rfl⟩
  · have hw := device_no h hl
    rw [if_neg hl, if_neg hl]
    clear h hl
    go_enter Try.func35, Try.ntmps35
    go_wp2_with fail
    refine hw.mono ?_
    rintro e w' ⟨rfl, rfl⟩
    go_wp2_with fail
    go_ret2
    exact ⟨rfl, rfl⟩
def bitOf (v : Int) : Int := if v = 0 then 0 else 1
/-- An input is set. -/
def setF (dev : List (Int × Int)) (F : Fp) (i k v : Int) : Fp := if 0 ≤ i ∧ i < dev.length then { F with L := upf F.L i.toNat (putB (F.L i.toNat) 1 k (bitOf v)) } else F
def setOk (dev : List (Int × Int)) (F : Fp) (i k : Int) : Bool := if 0 ≤ i ∧ i < dev.length then spanB (F.L i.toNat) 1 k 1 else false
set_option maxRecDepth 100000 in
theorem fieldSet_m (h : FdM w f dev F M) (i k v : Int) :
    Calls Try.prog 26 #[.pointer (some ⟨f, 0, none⟩), .int .i64 i, .int .i64 k, .int .i64 v] w fun e w' => e = .returned (.bool (setOk dev F i k)) ∧ FdM w' f dev (setF dev F i k v) M ∧ Mod (M.T f dev.length) w w' := by
  by_cases hl : 0 ≤ i ∧ i < dev.length
  · obtain ⟨j, rfl⟩ : ∃ j : Nat, i = j := ⟨i.toNat, by omega⟩
    have hj : j < dev.length := by omega
    have hw := device_yes h hj
    have hb := h.bk j hj
    have e1 : setOk dev F (j : Int) k = spanB (F.L j) 1 k 1 := by unfold setOk; rw [if_pos hl, Int.toNat_natCast]
    have e2 : setF dev F (j : Int) k v = { F with L := upf F.L j (putB (F.L j) 1 k (bitOf v)) } := by unfold setF; rw [if_pos hl, Int.toNat_natCast]
    have ha := bankPut_any (M.g j) 1 k (bitOf v) (F.L j) (M.G j) w hb (by unfold bitOf; split <;> omega) (by unfold bitOf; split <;> omega)
    have ha' : Calls Try.prog 59 #[.pointer (some ⟨M.g j, 0, none⟩), .int .i64 1, .int .i64 k, .int .u16 (bitOf v)] w fun e w' => e = .returned (.bool (setOk dev F (j : Int) k)) ∧ FdM w' f dev (setF dev F (j : Int) k v) M ∧ Mod (M.T f dev.length) w w' := by
      refine ha.mono ?_
      rintro e w' ⟨rfl, hb', m⟩
      rw [e1, e2]
      exact ⟨rfl, h.turnBank hj hb' m, m.weak fun b hb => .inr (.inl ⟨j, hj, hb⟩)⟩
    clear ha e1 e2 hb h hl
    generalize setOk dev F (j : Int) k = ok at *
    generalize setF dev F (j : Int) k v = F' at *
    by_cases hv : v = 0
    · subst hv
      rw [show bitOf 0 = 0 from rfl] at ha'
      go_enter Try.func26, Try.ntmps26
      go_wp2_with fail
      refine hw.mono ?_
      rintro e w' ⟨rfl, rfl⟩
      go_wp2_with fail
      refine ha'.mono ?_
      rintro e w' ⟨rfl, h1, h2⟩
      go_wp2_with fail
      go_ret
      exact ⟨rfl, h1, h2⟩
    · rw [show bitOf v = 1 from if_neg hv] at ha'
      have hv' : (v != 0) = true := by simpa using hv
      go_enter Try.func26, Try.ntmps26
      go_wp2_with fail
      refine hw.mono ?_
      rintro e w' ⟨rfl, rfl⟩
      go_wp2_with fail
      refine ha'.mono ?_
      rintro e w' ⟨rfl, h1, h2⟩
      go_wp2_with fail
      go_ret
      exact ⟨rfl, h1, h2⟩
  · have hw := device_no h hl
    have e1 : setOk dev F i k = false := if_neg hl
    have e2 : setF dev F i k v = F := if_neg hl
    rw [e1, e2]
    have h' := Lib.hid h
    clear h hl e1 e2
    go_enter Try.func26, Try.ntmps26
    go_wp2_with fail
    refine hw.mono ?_
    rintro e w' ⟨rfl, rfl⟩
    go_wp2_with fail
    go_ret
    exact ⟨rfl, h'.out, Mod.refl _ _⟩
end
end Go.Proofs.Ytgagpalffdgjnaa
