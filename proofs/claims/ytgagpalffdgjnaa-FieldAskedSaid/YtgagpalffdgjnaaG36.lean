/- Layer 3, the walks: frames; what is kept between two frames. · Layer 3, the walks: Cut. -/
import Derived.Test.YtgagpalffdgjnaaG35
import Derived.RangeFuncRecord
import Derived.Test.YtgagpalffdgjnaaG61
import Derived.RangeFuncBox
namespace Go.Proofs.Ytgagpalffdgjnaa
open Go.RowKit

set_option maxRecDepth 100000 in
set_option maxHeartbeats 800000 in
theorem frames_any (A : Option Addr) (N c Bq : Nat) (w : World) :
    Calls Try.prog 118 #[.slice A N c, .pointer (some ⟨Bq, 0, none⟩)] w fun e w' => e = .returned (.func (.func 126) #[] #[.pointer (some ⟨w.heap.size, 0, none⟩), .pointer (some ⟨w.heap.size + 1, 0, none⟩)]) ∧
      w' = (w.alloc (.cells #[.slice A N c] 34)).alloc (.cells #[.pointer (some ⟨Bq, 0, none⟩)] 195) := by
  go_enter Try.func118, Try.ntmps118
  go_wp2_with fail
  go_ret
  exact ⟨rfl, rfl⟩
/-- A frame that came; where its bytes lie. -/
structure Fm where
  id : Int
  u : Int
  l : List Int
  A : Option Addr
  n : Nat
  c : Nat
def Fm.cells (f : Fm) : List Value := [.int .u16 f.id, .int .u8 f.u, .slice f.A f.n f.c]
structure Fm.good (w : World) (base : Nat) (f : Fm) : Prop where
  id : 0 ≤ f.id ∧ f.id ≤ 65535
  u : 0 ≤ f.u ∧ f.u ≤ 255
  rd : RdI w w.heap.size .u8 f.A f.n f.l
  by_ : ByteL f.l
  nc : f.n ≤ f.c
  cm : f.c ≤ maxLen
  up : ∀ b o, f.A = some ⟨b, o, none⟩ → base ≤ b
def FramesAt (w : World) (base : Nat) (v : Value) (fs : List Fm) : Prop := w.ownsRow base 48 3 v fs.length (fs.flatMap Fm.cells) ∧ ∀ f, f ∈ fs → f.good w base ∧ (0 < f.n → ∀ b o, f.A = some ⟨b, o, none⟩ → v.ownBlock ≠ some b)
section
variable {w w' : World} {base : Nat} {v : Value} {fs : List Fm} {f : Fm} {S : Nat → Prop}
theorem Fm.good.modS (h : f.good w base) (m : Mod S w w') (hS : ∀ i, S i → i < base) : f.good w' base :=
  ⟨h.id, h.u, h.rd.modS (fun _ b o e hs => by have := hS b hs; have := h.up b o e; omega) m, h.by_, h.nc, h.cm, h.up⟩
theorem Fm.good.ext (h : f.good w base) (E : Ext w w') : f.good w' base := ⟨h.id, h.u, h.rd.ext E, h.by_, h.nc, h.cm, h.up⟩
theorem own_modS2 {n size : Nat} {e : TypeId} {xs : List Value} (h : w.ownsRow base e size v n xs) (hm : Mod S w w') (hp : ∀ i, S i → i < base) : w'.ownsRow base e size v n xs := by
  refine ⟨h.1, ?_⟩
  rcases h.2 with hn | ⟨g, cap, cur, hv, hb, hg, rest⟩
  · exact .inl hn
  · exact .inr ⟨g, cap, cur, hv, hb, (hm.block g (Array.getElem?_eq_some_iff.1 hg).1 (fun hs => by have := hp g hs; omega)).trans hg, rest⟩
theorem FramesAt.modS (h : FramesAt w base v fs) (m : Mod S w w') (hS : ∀ i, S i → i < base) : FramesAt w' base v fs := ⟨own_modS2 h.1 m hS, fun f hf => ⟨(h.2 f hf).1.modS m hS, (h.2 f hf).2⟩⟩
theorem FramesAt.ext (h : FramesAt w base v fs) (E : Ext w w') : FramesAt w' base v fs := ⟨own_ext h.1 E, fun f hf => ⟨(h.2 f hf).1.ext E, (h.2 f hf).2⟩⟩
end
theorem FramesAt.push {W2 W3 : World} {base : Nat} {v v' : Value} {fs : List Fm} {f : Fm} (h : FramesAt W2 base v fs) (hf : f.good W2 base) (hap : 0 < f.n → ∀ b o, f.A = some ⟨b, o, none⟩ → v.ownBlock ≠ some b) (o : Obj)
    (own3 : W3.ownsRow base 48 3 v' (fs.length + 1) (fs.flatMap Fm.cells ++ f.cells)) (hg3 : (W2.alloc o).grownBy W3 v.ownBlock) (hat3 : v'.ownBlock = v.ownBlock ∨ v'.ownBlock = some (W2.alloc o).heap.size) : FramesAt W3 base v' (fs ++ [f]) := by
  have E : Ext W2 (W2.alloc o) := (Ext.refl W2).goA o
  have M : Mod (fun i => v.ownBlock = some i) (W2.alloc o) W3 := (Mod.refl (fun i => v.ownBlock = some i) (W2.alloc o)).grown hg3 (fun k hk => .inl hk)
  have hk : ∀ x : Fm, x.good W2 base → (0 < x.n → ∀ b o, x.A = some ⟨b, o, none⟩ → v.ownBlock ≠ some b) → x.good W3 base ∧ (0 < x.n → ∀ b o, x.A = some ⟨b, o, none⟩ → v'.ownBlock ≠ some b) := fun x hx ha =>
    ⟨⟨hx.id, hx.u, (hx.rd.ext E).modS (fun hn b o e hs => ha hn b o e hs) M, hx.by_, hx.nc, hx.cm, hx.up⟩, fun hn b o' e e2 => by
      rcases hat3 with h1 | h1
      · exact ha hn b o' e (h1.symm.trans e2)
      · have := hx.rd.lt_of hn e
        rw [h1] at e2
        simp only [alloc_size, Option.some.injEq] at e2
        omega⟩
  refine ⟨by rw [List.length_append, List.flatMap_append]; simpa using own3, fun x hx => ?_⟩
  rcases List.mem_append.1 hx with hx | hx
  · exact hk x (h.2 x hx).1 (h.2 x hx).2
  · obtain rfl := List.mem_singleton.1 hx
    exact hk x hf hap
def Fm.p (f : Fm) : Int × Int × List Int := (f.id, f.u, f.l)
/-- The frames that were told of bytes, up to a place. -/
inductive Cuts (xs : List Int) : Nat → List (Int × Int × List Int) → Prop
  | none : Cuts xs 0 []
  | more {m k : Nat} {id u : Int} {ys : List Int} {ps : List (Int × Int × List Int)} : Cuts xs m ps → firstR (xs.drop m) = (id, u, ys, k, 0) → 0 < k → Cuts xs (m + k) (ps ++ [(id, u, ys)])
/-- What holds between two frames: the boxes s .. s + 4, the deferred calls' block s + 5, the loop's record s + 6. -/
structure CutJ (s : Nat) (w0 : World) (A : Option Addr) (N c : Nat) (xs : List Int) (rec : Loop) (fs : List Fm) (v : Value) (m : Nat) (W : World) : Prop where
  all : W.heap[s]? = some (.cells #[v] 177 (0, 0))
  many : W.heap[s + 1]? = some (.cells #[.int .i64 (m : Int)] 3 (0, 0))
  end_ : ∃ q, W.heap[s + 2]? = some (.cells #[.int .i64 q] 49 (0, 0))
  bb : W.heap[s + 3]? = some (.cells #[.slice A N c] 34 (0, 0))
  be : W.heap[s + 4]? = some (.cells #[.pointer (some ⟨s + 2, 0, none⟩)] 195 (0, 0))
  df : W.heap[s + 5]? = some (.deferred (some []))
  lp : W.heap[s + 6]? = some (.loop rec)
  fr : FramesAt W (s + 7) v fs
  rd : RdI W W.heap.size .u8 A N xs
  old : OffB (fun i => s ≤ i) A N
  ext : Below s w0 W
  sz : s + 7 ≤ W.heap.size
  le : fs.length ≤ m
section
variable {s : Nat} {w0 W W' : World} {A : Option Addr} {N c : Nat} {xs : List Int} {rec rec' : Loop} {fs : List Fm} {v : Value} {m m' : Nat} {S : Nat → Prop}
theorem CutJ.extE (h : CutJ s w0 A N c xs rec fs v m W) (E : Ext W W') : CutJ s w0 A N c xs rec fs v m W' := by
  have hk : ∀ i o, W.heap[i]? = some o → W'.heap[i]? = some o := fun i o e => (E.block i (lt_of_block e)).trans e
  obtain ⟨q, hq⟩ := h.end_
  exact ⟨hk _ _ h.all, hk _ _ h.many, ⟨q, hk _ _ hq⟩, hk _ _ h.bb, hk _ _ h.be, hk _ _ h.df, hk _ _ h.lp, h.fr.ext E, h.rd.ext E, h.old, h.ext.trans (E.mono (by have := h.sz; omega)), Nat.le_trans h.sz E.size, h.le⟩
theorem CutJ.turn (h : CutJ s w0 A N c xs rec fs v m W) (M : Mod S W W') (hS : ∀ i, S i → i = s ∨ i = s + 1 ∨ i = s + 2 ∨ i = s + 6)
    (hall : W'.heap[s]? = some (.cells #[v] 177 (0, 0))) (hmany : W'.heap[s + 1]? = some (.cells #[.int .i64 (m' : Int)] 3 (0, 0))) (hend : ∃ q, W'.heap[s + 2]? = some (.cells #[.int .i64 q] 49 (0, 0))) (hlp : W'.heap[s + 6]? = some (.loop rec')) (hle : m ≤ m') :
    CutJ s w0 A N c xs rec' fs v m' W' := by
  have hsz := h.sz
  have hk : ∀ i, i < W.heap.size → i ≠ s → i ≠ s + 1 → i ≠ s + 2 → i ≠ s + 6 → W'.heap[i]? = W.heap[i]? := fun i hi h1 h2 h3 h4 => M.block i hi (fun hs => by have := hS i hs; omega)
  have hlt : ∀ i, S i → i < s + 7 := fun i hi => by have := hS i hi; omega
  exact ⟨hall, hmany, hend, (hk _ (by omega) (by omega) (by omega) (by omega) (by omega)).trans h.bb, (hk _ (by omega) (by omega) (by omega) (by omega) (by omega)).trans h.be, (hk _ (by omega) (by omega) (by omega) (by omega) (by omega)).trans h.df, hlp,
    h.fr.modS M hlt, h.rd.modS (h.old.weak (fun i hi => by have := hS i hi; omega)) M, h.old, h.ext.trans (M.below (by omega) (fun i hi => by have := hS i hi; omega)), Nat.le_trans hsz M.size, Nat.le_trans h.le hle⟩
end
theorem info_adu : ∃ i, Try.prog.info? 48 = some i ∧ i.zero = some (.agg #[.int .u16 0, .int .u8 0, .slice none 0 0]) ∧ i.size = 3 ∧ i.bytes = 32 := by
  have h : (Try.prog.info? 48).map (fun i => (i.zero, i.size, i.bytes)) = some (some (.agg #[.int .u16 0, .int .u8 0, .slice none 0 0]), 3, 32) := by kernel_rfl
  obtain ⟨i, hi, hb⟩ := Option.map_eq_some_iff.1 h
  simp only [Prod.mk.injEq] at hb
  exact ⟨i, hi, hb.1, hb.2.1, hb.2.2⟩
/-- One more frame is appended, within a fence. -/
theorem wpListIn_appF {F : Fence} {n : Nat} {ops : Array Oper} {rest : List Oper} {o : Oper} {a : Act} {w : World} {Q : Exit → Act → World → Prop} (hgd : o.guard = none) (s x : Operand) (t : TypeId)
    (ho : o.op = .call { callee := .builtin .append, args := #[s, x], argTypes := #[t, t] }) (ht : Try.prog.underlying t = some (.slice 48)) (base : Nat) (v : Value) (k : Nat) (xs : List Value) (hs : a.eval s = v) (hown : w.ownsRow base 48 3 v k xs)
    (g : Nat) (id u : Int) (A : Option Addr) (m c : Nat) (hx : a.eval x = .slice (some ⟨g, 0, none⟩) 1 1) (hg : w.heap[g]? = some (.cells #[.int .u16 id, .int .u8 u, .slice A m c] 48 (0, 0))) (hn : k + 1 ≤ 1000000000) (hbase : base ≤ w.heap.size)
    (h : ∀ v' w', w'.ownsRow base 48 3 v' (k + 1) (xs ++ [.int .u16 id, .int .u8 u, .slice A m c]) → w.grownBy w' v.ownBlock → (v'.ownBlock = v.ownBlock ∨ v'.ownBlock = some w.heap.size) → wpListIn F n Try.prog ops Q rest (a.put o.dst v') w') :
    wpListIn F n Try.prog ops Q (o :: rest) a w := by
  obtain ⟨i, hi, hz, h4, hb⟩ := info_adu
  refine wpListIn_plain hgd fun K hK => ?_
  obtain ⟨v', w', hrun, r1, r2, _, r4⟩ := run_append_own_at (P := Try.prog) w base t o.type 48 i _ 3 32 ht hi hz h4 hb rfl (by decide) v k xs hown ⟨g, 0, none⟩ 1 1 [.int .u16 id, .int .u8 u, .slice A m c] rfl (by
    intro j y hj
    have hc := cellsAt hg
    have : (⟨g, 0, none⟩ : Addr).add j = ⟨g, j, none⟩ := by unfold Addr.add; split <;> simp_all
    rw [this, hc j, ← hj]
    simp) (by
    intro y hy
    simp at hy
    rcases hy with rfl | rfl | rfl <;> rfl) (by unfold maxLen; omega) (by omega) hbase
  unfold Oper.wpIn
  refine ⟨?_, ?_⟩
  · simp [Oper.about, ho, resolve, Target.leads, Sem.run_pure]
  · rw [Oper.semAt_plain F _ _ (by rw [ho]; intro c hc'; cases hc')]
    simp [execOp, ho, resolve, invoke, builtin, hs, hx, hrun, Result.andThen]
    exact hK _ _ (h v' w' r1 r2 r4)
/-- A range over a function that is a closure's: its record, its one call. -/
theorem rangeWide {P : Program} {n : Nat} {g : Operand} {ps : Array Tmp} {asg body : Code} {Q : Exit → Act → World → Prop} {a : Act} {w : World} {f : Nat} {lb : Array Value} (hg : a.eval g = .func (.func f) #[] lb) (eg : ∀ args w, (callFunc f args).run P w = .ok (.enter f args) w)
    (h : ∀ rec : Loop, rec.state = .ready → rec.pending = none → rec.tmps = a.tmps → rec.params = ps → rec.assign = asg → rec.body = body →
      CallsIn Fence.wide (n - 1) P f (#[.func (.yield (w.heap.size + 1)) #[] #[]] ++ lb) ((w.alloc (.deferred (some []))).alloc (.loop rec)) (rangePost Fence.wide n P (w.heap.size + 1) Q { a with defers := { target := .collected w.heap.size, args := #[] } :: a.defers })) :
    (Code.rangeFunc g ps asg body).wpIn Fence.wide n P Q a w := by
  refine wpIn_rangeFunc ?_
  intro fn _
  rw [show Fence.wide.round = none from rfl]
  have hh := h { state := .ready, pending := none, fn, tmps := a.tmps, params := ps, assign := asg, body, defers := w.heap.size } rfl rfl rfl rfl rfl rfl
  have he := run_enterLoop_outer (P := P) (w := w) fn a.tmps ps asg body
  generalize (w.alloc (.deferred (some []))).alloc (.loop { state := .ready, pending := none, fn, tmps := a.tmps, params := ps, assign := asg, body, defers := w.heap.size }) = W1 at hh he
  refine ⟨w.heap.size + 1, [{ target := .collected w.heap.size, args := #[] }], W1, { target := .fn (.func f) lb, args := #[.func (.yield (w.heap.size + 1)) #[] #[]] }, W1, f, #[.func (.yield (w.heap.size + 1)) #[] #[]] ++ lb, W1, ?_, ?_, ?_, ?_, ?_, ?_⟩
  · exact he
  · simp only [resolve, hg]
    simp [go_sem]
  · exact fun _ _ => trivial
  · simp [invoke, go_sem, eg]
  · exact fun h => Bool.noConfusion h
  · exact hh
end Go.Proofs.Ytgagpalffdgjnaa
namespace Go.Proofs.Ytgagpalffdgjnaa
open Go.RowKit Go.Shelf
attribute [local go_sem] Oper.semAt_some

def CutPost (N : Nat) (w : World) (e : Ending) (W : World) : Prop :=
  Ext w W ∧ ∃ (v : Value) (m : Nat) (err : Int) (fs : List Fm), e = .returned (.tuple #[v, .int .i64 (m : Int), .int .i64 err]) ∧ m ≤ N ∧ fs.length ≤ m ∧ FramesAt W (w.heap.size + 7) v fs
/-- The same, with what the frames are. -/
def CutTold (xs : List Int) (N : Nat) (w : World) (e : Ending) (W : World) : Prop :=
  Ext w W ∧ ∃ (v : Value) (m : Nat) (err : Int) (fs : List Fm), e = .returned (.tuple #[v, .int .i64 (m : Int), .int .i64 err]) ∧ m ≤ N ∧ fs.length ≤ m ∧ FramesAt W (w.heap.size + 7) v fs ∧
    Cuts xs m (fs.map Fm.p) ∧ ∃ id u ys k, firstR (xs.drop m) = (id, u, ys, k, err) ∧ (err ≠ 0 ∨ k = 0)
theorem CutTold.post {xs : List Int} {N : Nat} {w W : World} {e : Ending} (h : CutTold xs N w e W) : CutPost N w e W := by
  obtain ⟨E, v, m, err, fs, h1, h2, h3, h4, _⟩ := h
  exact ⟨E, v, m, err, fs, h1, h2, h3, h4⟩
theorem mod_putObj (W : World) (l : Nat) (o : Obj) : Mod (fun i => i = l) W (W.putObj l o) :=
  ⟨rfl, rfl, rfl, by simp, fun k _ hk => World.putObj_heap_other hk⟩
section
variable (n : Nat) (A : Option Addr) (N c : Nat) (xs : List Int) (w : World)
set_option maxRecDepth 100000 in
set_option maxHeartbeats 6400000 in
theorem cut_in (hx : RdI w w.heap.size .u8 A N xs) (hl : ByteL xs) (hnc : N ≤ c) (hcm : c ≤ maxLen) (hN : N ≤ 1000000) :
    CallsIn Fence.wide n Try.prog 92 #[.slice A N c] w (CutTold xs N w) := by
  have hx' := Lib.hid hx
  have hl' := Lib.hid hl
  have hfr := fun Bq w => callsIn_wide (n := n - 1).2 (frames_any A N c Bq w)
  clear hx hl
  refine callsIn_of_wp_marks Try.func92 rfl trivial ?_ rfl
  simp only [Try.ntmps92, List.size_toArray, List.length_cons, List.length_nil, Nat.reduceAdd, Nat.reduceSub, Array.replicate_succ, Array.replicate_zero, List.push_toArray, List.append_toArray, List.nil_append, List.cons_append]
  gi_wp2
  refine ⟨trivial, fun h => Bool.noConfusion h, ?_⟩
  refine (hfr _ _).mono ?_
  rintro _ _ ⟨rfl, rfl⟩
  dsimp only
  gi_wp2
  simp only [alloc_size, Nat.add_assoc, Nat.reduceAdd]
  have E5 : Ext w (((((w.alloc (.cells #[.slice none 0 0] 177)).alloc (.cells #[.int .i64 0] 3)).alloc (.cells #[.int .i64 0] 49)).alloc (.cells #[.slice A N c] 34)).alloc (.cells #[.pointer (some ⟨w.heap.size + 2, 0, none⟩)] 195)) := ((((((Ext.refl w).goA _).goA _).goA _).goA _).goA _)
  have s5 : (((((w.alloc (.cells #[.slice none 0 0] 177)).alloc (.cells #[.int .i64 0] 3)).alloc (.cells #[.int .i64 0] 49)).alloc (.cells #[.slice A N c] 34)).alloc (.cells #[.pointer (some ⟨w.heap.size + 2, 0, none⟩)] 195)).heap.size = w.heap.size + 5 := by simp only [alloc_size]
  have p0 : (((((w.alloc (.cells #[.slice none 0 0] 177)).alloc (.cells #[.int .i64 0] 3)).alloc (.cells #[.int .i64 0] 49)).alloc (.cells #[.slice A N c] 34)).alloc (.cells #[.pointer (some ⟨w.heap.size + 2, 0, none⟩)] 195)).heap[w.heap.size]? = some (.cells #[.slice none 0 0] 177 (0, 0)) := by rw [alloc_get, if_neg (by simp only [alloc_size]; omega), alloc_get, if_neg (by simp only [alloc_size]; omega), alloc_get, if_neg (by simp only [alloc_size]; omega), alloc_get, if_neg (by simp only [alloc_size]; omega), alloc_get, if_pos (by simp only)]
  have p1 : (((((w.alloc (.cells #[.slice none 0 0] 177)).alloc (.cells #[.int .i64 0] 3)).alloc (.cells #[.int .i64 0] 49)).alloc (.cells #[.slice A N c] 34)).alloc (.cells #[.pointer (some ⟨w.heap.size + 2, 0, none⟩)] 195)).heap[w.heap.size + 1]? = some (.cells #[.int .i64 0] 3 (0, 0)) := by rw [alloc_get, if_neg (by simp only [alloc_size]; omega), alloc_get, if_neg (by simp only [alloc_size]; omega), alloc_get, if_neg (by simp only [alloc_size]; omega), alloc_get, if_pos (by simp only [alloc_size])]
  have p2 : (((((w.alloc (.cells #[.slice none 0 0] 177)).alloc (.cells #[.int .i64 0] 3)).alloc (.cells #[.int .i64 0] 49)).alloc (.cells #[.slice A N c] 34)).alloc (.cells #[.pointer (some ⟨w.heap.size + 2, 0, none⟩)] 195)).heap[w.heap.size + 2]? = some (.cells #[.int .i64 0] 49 (0, 0)) := by rw [alloc_get, if_neg (by simp only [alloc_size]; omega), alloc_get, if_neg (by simp only [alloc_size]; omega), alloc_get, if_pos (by simp only [alloc_size])]
  have p3 : (((((w.alloc (.cells #[.slice none 0 0] 177)).alloc (.cells #[.int .i64 0] 3)).alloc (.cells #[.int .i64 0] 49)).alloc (.cells #[.slice A N c] 34)).alloc (.cells #[.pointer (some ⟨w.heap.size + 2, 0, none⟩)] 195)).heap[w.heap.size + 3]? = some (.cells #[.slice A N c] 34 (0, 0)) := by rw [alloc_get, if_neg (by simp only [alloc_size]; omega), alloc_get, if_pos (by simp only [alloc_size])]
  have p4 : (((((w.alloc (.cells #[.slice none 0 0] 177)).alloc (.cells #[.int .i64 0] 3)).alloc (.cells #[.int .i64 0] 49)).alloc (.cells #[.slice A N c] 34)).alloc (.cells #[.pointer (some ⟨w.heap.size + 2, 0, none⟩)] 195)).heap[w.heap.size + 4]? = some (.cells #[.pointer (some ⟨w.heap.size + 2, 0, none⟩)] 195 (0, 0)) := by rw [alloc_get, if_pos (by simp only [alloc_size])]
  generalize (((((w.alloc (.cells #[.slice none 0 0] 177)).alloc (.cells #[.int .i64 0] 3)).alloc (.cells #[.int .i64 0] 49)).alloc (.cells #[.slice A N c] 34)).alloc (.cells #[.pointer (some ⟨w.heap.size + 2, 0, none⟩)] 195)) = w5 at *
  refine rangeWide (f := 126) (lb := #[.pointer (some ⟨w.heap.size + 3, 0, none⟩), .pointer (some ⟨w.heap.size + 4, 0, none⟩)]) rfl (enters_of (P := Try.prog) Try.func126 (by kernel_rfl) rfl) ?_
  intro rec hst hpe htm hps has hbo
  have hJ0 : ∀ rec : Loop, CutJ w.heap.size w A N c xs rec [] (.slice none 0 0) 0 ((w5.alloc (.deferred (some []))).alloc (.loop rec)) := fun rec => by
    have E7 : Ext w5 ((w5.alloc (.deferred (some []))).alloc (.loop rec)) := ((Ext.refl w5).goA _).goA _
    have hk : ∀ i o, w5.heap[i]? = some o → ((w5.alloc (.deferred (some []))).alloc (.loop rec)).heap[i]? = some o := fun i o e => (E7.block i (lt_of_block e)).trans e
    refine ⟨hk _ _ p0, hk _ _ p1, ⟨0, hk _ _ p2⟩, hk _ _ p3, hk _ _ p4, ?_, ?_, ⟨World.ownsRow_nil _ _ _ _, fun f hf => by simp at hf⟩, (hx'.out.ext E5).ext E7, fun hn b o e hb => ?_, E5.go E7, by simp only [alloc_size]; omega, Nat.zero_le _⟩
    · rw [alloc_get, if_neg (by simp only [alloc_size]; omega), alloc_get, if_pos (by omega)]
    · rw [alloc_get, if_pos (by simp only [alloc_size]; omega)]
    · have := hx'.out.lt_of hn e
      omega
  rw [s5]
  have h0 := hJ0 rec
  have hsx : N ≤ maxLen := Nat.le_trans hnc hcm
  clear hJ0 p0 p1 p2 p3 p4 hfr
  refine (frames1_in (n - 1) (w.heap.size + 6) (w.heap.size + 3) (w.heap.size + 4) (w.heap.size + 2) A N c xs (fun m W => ∃ fs v, CutJ w.heap.size w A N c xs rec fs v m W ∧ Cuts xs m (fs.map Fm.p)) (fun m q W => ∃ fs v, CutJ w.heap.size w A N c xs rec fs v m W ∧ Cuts xs m (fs.map Fm.p) ∧ W.heap[w.heap.size + 2]? = some (.cells #[.int .i64 q] 49 (0, 0))) hl'.out hnc hcm ?hin ?hext ?hq ?hy _ ⟨[], _, h0, .none⟩).mono ?hdone
  case hin =>
    rintro m W ⟨fs, v, h, _⟩
    obtain ⟨q, hq⟩ := h.end_
    exact ⟨cellsAt h.bb 0, cellsAt h.be 0, ⟨q, cellsAt hq 0⟩, frozen_block hq 0, h.rd⟩
  case hext =>
    rintro m W W' ⟨fs, v, h, hc⟩ E
    exact ⟨fs, v, h.extE E, hc⟩
  case hq =>
    rintro m W v' ⟨fs, v, h, hc⟩
    obtain ⟨q, hq⟩ := h.end_
    have M : Mod (fun i => i = w.heap.size + 2) W (W.setCell ⟨w.heap.size + 2, 0, none⟩ (.int .i64 v')) := (Mod.refl (fun i => i = w.heap.size + 2) W).setCell (.inl rfl) _
    have hsz := h.sz
    exact ⟨fs, v, h.turn M (fun i hi => .inr (.inr (.inl hi))) ((M.block _ (by omega) (by omega)).trans h.all) ((M.block _ (by omega) (by omega)).trans h.many) ⟨v', sets_block hq 0 _⟩ ((M.block _ (by omega) (by omega)).trans h.lp) (Nat.le_refl _), hc, sets_block hq 0 _⟩
  case hy =>
    rintro m W0 W id u A' n' c' ys k ⟨fs, v, h0', hcut⟩ E0 hk1 hmk hid hu hr hys hn' hc' hup hfst
    have hcut' := Lib.hid (Cuts.more hcut hfst hk1)
    clear hcut hfst
    have h := h0'.extE E0
    have hap : ∀ b o, A' = some ⟨b, o, none⟩ → v.ownBlock ≠ some b := fun b o e e2 => by
      have := (h0'.fr.1.lt b e2).2
      have := hup b o e
      omega
    have hup7 : ∀ b o, A' = some ⟨b, o, none⟩ → w.heap.size + 7 ≤ b := fun b o e => Nat.le_trans h0'.sz (hup b o e)
    clear h0' hup
    refine ⟨_, _, _, _, run_yield h.lp (by rw [hps]; rfl), roundIn_of_wpIn trivial ?_⟩
    rw [htm, hps, has]
    have h' := Lib.hid h
    have E1 : Ext W (W.alloc (.cells #[.int .u16 id, .int .u8 u, .slice A' n' c'] 48)) := (Ext.refl W).goA _
    have b1 := heap_alloc_new W (.cells #[.int .u16 id, .int .u8 u, .slice A' n' c'] 48)
    have h1 := Lib.hid (h.extE E1)
    have hbody := Lib.hid hbo
    have hst' := Lib.hid hst
    have hpe' := Lib.hid hpe
    have hr1 := Lib.hid (hr.ext E1)
    have hWs := h.sz
    clear h hbo hst hpe hr has hps htm h0
    gi_wp2
    generalize W.alloc (.cells #[.int .u16 id, .int .u8 u, .slice A' n' c'] 48) = W1 at *
    have hap' := Lib.hid hap
    have hup' := Lib.hid hup7
    have hW7 : w.heap.size + 7 ≤ W.heap.size := hWs
    clear hap hup7
    refine ⟨_, run_beginRound h1.out.lp hst'.out, ?_⟩
    have M2 := mod_putObj W1 (w.heap.size + 6) (.loop { rec with state := .busy })
    have lp2 : (W1.putObj (w.heap.size + 6) (.loop { rec with state := .busy })).heap[w.heap.size + 6]? = some (.loop { rec with state := .busy }) := World.putObj_heap_same (lt_of_block h1.out.lp)
    generalize W1.putObj (w.heap.size + 6) (.loop { rec with state := .busy }) = W2 at *
    rw [hbody.out]
    have hs1 := h1.out.sz
    have g2 : CutJ w.heap.size w A N c xs { rec with state := .busy } fs v m W2 := by
      obtain ⟨q, hq⟩ := h1.out.end_
      exact h1.out.turn M2 (fun i hi => .inr (.inr (.inr hi))) ((M2.block _ (by omega) (by omega)).trans h1.out.all) ((M2.block _ (by omega) (by omega)).trans h1.out.many) ⟨q, (M2.block _ (by omega) (by omega)).trans hq⟩ lp2 (Nat.le_refl _)
    have c0 : W2.cell? ⟨w.heap.size, 0, none⟩ = some v := cellsAt g2.all 0
    have c1 : W2.cell? ⟨w.heap.size + 1, 0, none⟩ = some (.int .i64 (m : Int)) := cellsAt g2.many 0
    have b2 := (M2.block _ (lt_of_block b1) (by omega)).trans b1
    have d0 : W2.cell? ⟨W.heap.size, 0, none⟩ = some (.int .u16 id) := cellsAt b2 0
    have d1 : W2.cell? ⟨W.heap.size, 1, none⟩ = some (.int .u8 u) := cellsAt b2 1
    have d2 : W2.cell? ⟨W.heap.size, 2, none⟩ = some (.slice A' n' c') := cellsAt b2 2
    have g2' := Lib.hid g2
    have hs2 := g2.sz
    have hr2 := Lib.hid (hr1.out.modS (fun _ b o e hb => by have := hup'.out b o e; omega) M2)
    have hle := g2.le
    have f0 : W2.frozen? ⟨w.heap.size, 0, none⟩ = false := frozen_block g2.all 0
    have f1 : W2.frozen? ⟨w.heap.size + 1, 0, none⟩ = false := frozen_block g2.many 0
    have hlt0 : w.heap.size < W2.heap.size := lt_of_block g2.all
    have hlt1 : w.heap.size + 1 < W2.heap.size := lt_of_block g2.many
    have hwk : IntKind.i64.wrap ((m : Int) + (k : Int)) = (m : Int) + (k : Int) := by rw [IntKind.wrap_i64]; omega
    clear g2 b2 b1 lp2 h1 hr1
    gi_wp2_with (gi_at_builtin; refine wpListIn_appF rfl (.tmp 14) (.tmp 16) _ rfl Try.underlying177 (w.heap.size + 7) _ fs.length _ rfl (g2'.out.fr.1.alloc _) W2.heap.size id u A' n' c' rfl (heap_alloc_new W2 _) (by omega) (by simp; omega) ?_; intro v' W3 own3 hg3 hat3; obtain ⟨g', cap', rfl⟩ := ownsRow_succ own3; have M3 : Mod (fun i => w.heap.size + 7 ≤ i) W2 W3 := (((Mod.refl (fun i => w.heap.size + 7 ≤ i) W2).alloc _).grown hg3 (fun i hi => .inl (g2'.out.fr.1.lt i hi).1)); have c03 := (M3.cell 0 hlt0 (by omega)).trans c0; have f03 := (M3.frozen 0 hlt0 (by omega)).trans f0; have c13 := (M3.cell 0 hlt1 (by omega)).trans c1; have f13 := (M3.frozen 0 hlt1 (by omega)).trans f1)
    have hF := g2'.out.fr.push (f := ⟨id, u, ys, A', n', c'⟩) ⟨hid, hu, hr2.out, hys, hn', hc', hup'.out⟩ (fun _ => hap'.out) _ own3 hg3 hat3
    have P0 := sets_block ((M3.block _ hlt0 (by omega)).trans g2'.out.all) 0 (.slice (some ⟨g', 0, none⟩) (fs.length + 1) cap')
    have D0 : Mod (fun i => i = w.heap.size ∨ i = w.heap.size + 1) W3 ((W3.setCell ⟨w.heap.size, 0, none⟩ (.slice (some ⟨g', 0, none⟩) (fs.length + 1) cap')).setCell ⟨w.heap.size + 1, 0, none⟩ (.int .i64 ((m : Int) + (k : Int)))) :=
      ((Mod.refl (fun i => i = w.heap.size ∨ i = w.heap.size + 1) W3).setCell (p := ⟨w.heap.size, 0, none⟩) (.inl (.inl rfl)) _).setCell (p := ⟨w.heap.size + 1, 0, none⟩) (.inl (.inr rfl)) _
    have P1 : ((W3.setCell ⟨w.heap.size, 0, none⟩ (.slice (some ⟨g', 0, none⟩) (fs.length + 1) cap')).setCell ⟨w.heap.size + 1, 0, none⟩ (.int .i64 ((m : Int) + (k : Int)))).heap[w.heap.size + 1]? = some (.cells #[.int .i64 ((m : Int) + (k : Int))] 3 (0, 0)) :=
      sets_block ((Below.heap_setCell W3 _ _ _ (by simp)).trans ((M3.block _ hlt1 (by omega)).trans g2'.out.many)) 0 _
    have P2 : ((W3.setCell ⟨w.heap.size, 0, none⟩ (.slice (some ⟨g', 0, none⟩) (fs.length + 1) cap')).setCell ⟨w.heap.size + 1, 0, none⟩ (.int .i64 ((m : Int) + (k : Int)))).heap[w.heap.size]? = some (.cells #[.slice (some ⟨g', 0, none⟩) (fs.length + 1) cap'] 177 (0, 0)) :=
      (Below.heap_setCell _ _ _ _ (by simp)).trans P0
    generalize (W3.setCell ⟨w.heap.size, 0, none⟩ (.slice (some ⟨g', 0, none⟩) (fs.length + 1) cap')).setCell ⟨w.heap.size + 1, 0, none⟩ (.int .i64 ((m : Int) + (k : Int))) = W5 at *
    have hkeep : ∀ i o, W2.heap[i]? = some o → i < w.heap.size + 7 → i ≠ w.heap.size → i ≠ w.heap.size + 1 → W5.heap[i]? = some o := fun i o e h1 h2 h3 =>
      (D0.block i (Nat.lt_of_lt_of_le (lt_of_block e) M3.size) (by omega)).trans ((M3.block i (lt_of_block e) (by omega)).trans e)
    obtain ⟨q, hq⟩ := g2'.out.end_
    have g5 : CutJ w.heap.size w A N c xs { rec with state := .busy } (fs ++ [⟨id, u, ys, A', n', c'⟩]) (.slice (some ⟨g', 0, none⟩) (fs.length + 1) cap') (m + k) W5 := by
      refine ⟨P2, by rw [P1]; simp, ⟨q, hkeep _ _ hq (by omega) (by omega) (by omega)⟩, hkeep _ _ g2'.out.bb (by omega) (by omega) (by omega), hkeep _ _ g2'.out.be (by omega) (by omega) (by omega), hkeep _ _ g2'.out.df (by omega) (by omega) (by omega), hkeep _ _ g2'.out.lp (by omega) (by omega) (by omega),
        hF.modS D0 (fun i hi => by omega), ?_, g2'.out.old, (g2'.out.ext.trans (M3.below (by omega) (fun i hi => by omega))).trans (D0.below (by have := M3.size; omega) (fun i hi => by omega)), by have := M3.size; have := D0.size; omega, by simp; omega⟩
      exact (g2'.out.rd.modS (g2'.out.old.weak (fun i hi => by omega)) M3).modS (g2'.out.old.weak (fun i hi => by omega)) D0
    have hrec : ({ { rec with state := .busy } with state := .ready, pending := none } : Loop) = rec := by
      have h1 := hst'.out
      have h2 := hpe'.out
      cases rec
      simp_all
    have he := run_endRound (P := Try.prog) none g5.lp
    simp only [Option.isNone_none, if_true] at he
    have hre : ({ state := .ready, pending := none, fn := rec.fn, tmps := rec.tmps, params := rec.params, assign := rec.assign, body := rec.body, defers := rec.defers } : Loop) = rec := hrec
    rw [hre] at he
    refine ⟨.bool true, _, he, rfl, fs ++ [⟨id, u, ys, A', n', c'⟩], .slice (some ⟨g', 0, none⟩) (fs.length + 1) cap', ?_, by rw [List.map_append]; exact hcut'.out⟩
    have M6 := mod_putObj W5 (w.heap.size + 6) (.loop rec)
    obtain ⟨q5, hq5⟩ := g5.end_
    exact g5.turn M6 (fun i hi => .inr (.inr (.inr hi))) ((M6.block _ (lt_of_block g5.all) (by omega)).trans g5.all) ((M6.block _ (lt_of_block g5.many) (by omega)).trans g5.many) ⟨q5, (M6.block _ (lt_of_block hq5) (by omega)).trans hq5⟩ (World.putObj_heap_same (lt_of_block g5.lp)) (Nat.le_refl _)
  case hdone =>
    rintro e W2 ⟨⟨rv, rfl⟩, m, err, hm, ⟨fs, v, h, hcut, hq2⟩, hlast⟩
    have hcut' := Lib.hid hcut
    have hlast' := Lib.hid hlast
    clear hcut hlast
    have he := run_endLoop (P := Try.prog) h.lp (by rw [hst]; simp)
    rw [hpe] at he
    refine ⟨none, _, he, ?_⟩
    dsimp only
    have M3 := mod_putObj W2 (w.heap.size + 6) (.loop { rec with state := .exhausted })
    rw [hpe] at M3
    have hs2 := h.sz
    have lp3 : (W2.putObj (w.heap.size + 6) (.loop { rec with state := .exhausted, pending := none })).heap[w.heap.size + 6]? = _ := World.putObj_heap_same (lt_of_block h.lp)
    have hq := hq2
    have g3 := h.turn M3 (fun i hi => .inr (.inr (.inr hi))) ((M3.block _ (by omega) (by omega)).trans h.all) ((M3.block _ (by omega) (by omega)).trans h.many) ⟨err, (M3.block _ (by omega) (by omega)).trans hq⟩ lp3 (Nat.le_refl _)
    have hq3 := (M3.block _ (by omega) (by omega)).trans hq
    generalize W2.putObj (w.heap.size + 6) (.loop { state := .exhausted, pending := none, fn := rec.fn, tmps := rec.tmps, params := rec.params, assign := rec.assign, body := rec.body, defers := rec.defers }) = W3 at *
    have c0 : W3.cell? ⟨w.heap.size, 0, none⟩ = some v := cellsAt g3.all 0
    have c1 : W3.cell? ⟨w.heap.size + 1, 0, none⟩ = some (.int .i64 (m : Int)) := cellsAt g3.many 0
    have c2 : W3.cell? ⟨w.heap.size + 2, 0, none⟩ = some (.int .i64 err) := cellsAt hq3 0
    have g3' := Lib.hid g3
    clear he M3 lp3 h hq hq2 hq3 g3 h0 hst hpe htm hps has hbo
    gi_wp2
    gi_region
    all_goals gi_wp2
    all_goals
      have hK : W3.drew.heap[w.heap.size + 5]? = some (.deferred (some [])) := g3'.out.df
      refine ⟨by simp, .inl ⟨_, _, rfl, run_takeDeferred hK, ?_⟩⟩
      have MD := mod_putObj W3.drew (w.heap.size + 5) (.deferred none)
      have hfr := (g3'.out.fr.ext ((Ext.refl W3).god)).modS MD (fun i hi => by omega)
      have hE : Ext w W3.drew := Ext.god g3'.out.ext
      refine ⟨.tuple #[v, .int .i64 (m : Int), .int .i64 err], by simp [results, Try.results92, go_sem], ?_⟩
      exact ⟨hE.goM MD (fun i hi => by omega), v, m, err, fs, rfl, hm, g3'.out.le, hfr, hcut'.out, hlast'.out⟩
theorem cut_told (hx : RdI w w.heap.size .u8 A N xs) (hl : ByteL xs) (hnc : N ≤ c) (hcm : c ≤ maxLen) (hN : N ≤ 1000000) : Calls Try.prog 92 #[.slice A N c] w (CutTold xs N w) :=
  callsIn_wide.1 (cut_in 0 A N c xs w hx hl hnc hcm hN)
theorem cut_any (hx : RdI w w.heap.size .u8 A N xs) (hl : ByteL xs) (hnc : N ≤ c) (hcm : c ≤ maxLen) (hN : N ≤ 1000000) : Calls Try.prog 92 #[.slice A N c] w (CutPost N w) :=
  (cut_told A N c xs w hx hl hnc hcm hN).mono fun _ _ h => h.post
end
end Go.Proofs.Ytgagpalffdgjnaa
