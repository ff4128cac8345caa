
/- Layer 4, the walks: coded. -/
import Derived.Test.YtgeahfkhfpdlhaaPduBits
namespace Go.Proofs.Ytgeahfkhfpdlhaa
open Go.RowKit

/-- Two boxes lie at g. -/
def Box2 (w : World) (g : Nat) (S : Array Value) (t : TypeId) (Q : Array Value) (u : TypeId) : Prop := w.heap[g]? = some (.cells S t (0, 0)) ∧ w.heap[g + 1]? = some (.cells Q u (0, 0))
section
variable {w w' : World} {g : Nat} {S Q : Array Value} {t u : TypeId}
theorem Box2.new (w : World) (S : Array Value) (t : TypeId) (Q : Array Value) (u : TypeId) : Box2 ((w.alloc (.cells S t)).alloc (.cells Q u)) w.heap.size S t Q u :=
  ⟨by rw [alloc_get, if_neg (by simp), alloc_get, if_pos rfl], by rw [alloc_get, if_pos (by simp)]⟩
theorem Box2.lt (h : Box2 w g S t Q u) : g + 1 < w.heap.size := (Array.getElem?_eq_some_iff.1 h.2).1
theorem Box2.keep (h : Box2 w g S t Q u) (hk : ∀ b, b < g + 2 → w'.heap[b]? = w.heap[b]?) : Box2 w' g S t Q u := ⟨(hk g (by omega)).trans h.1, (hk (g + 1) (by omega)).trans h.2⟩
theorem Box2.alloc (h : Box2 w g S t Q u) (o : Obj) : Box2 (w.alloc o) g S t Q u := h.keep fun b hb => Below.heap_alloc w o b (by have := h.lt; omega)
theorem Box2.ext (h : Box2 w g S t Q u) (e : Ext w w') : Box2 w' g S t Q u := h.keep fun b hb => e.block b (by have := h.lt; omega)
theorem Box2.own (h : Box2 w g S t Q u) {v : Value} {base n : Nat} {e : TypeId} {size : Nat} {xs : List Value} (hm : Mod (fun i => v.ownBlock = some i) w w') (ho : w.ownsRow base e size v n xs) (hb : g + 2 ≤ base) : Box2 w' g S t Q u :=
  h.keep fun b hb' => hm.block b (by have := h.lt; omega) (own_far ho (by omega))
theorem Box2.c0 (h : Box2 w g S t Q u) : ∀ o, w.cell? ⟨g, o, none⟩ = S[o]? := cellsAt h.1
theorem Box2.c1 (h : Box2 w g S t Q u) : ∀ o, w.cell? ⟨g + 1, o, none⟩ = Q[o]? := cellsAt h.2
end

/-- words at integers that were just laid. -/
theorem wordsNew_any (v : Value) (n base m g : Nat) (bs ys : List Int) (cs : Array Value) (w : World) (hown : w.ownsRow base 5 1 v n (bs.map (Value.int .u8))) (hbase : base ≤ w.heap.size) (hg : g = w.heap.size) (hcs : cs = row .i64 ys) (hm : ys.length = m)
    (hys : ∀ y ∈ ys, 0 ≤ y ∧ y ≤ 65535) (hn : n + 2 * m ≤ 1048576) :
    Calls Try.prog 134 #[v, .slice (some ⟨g, 0, none⟩) m m] (w.alloc (.cells cs 3)) (WordsPost (w.alloc (.cells cs 3)) base v (n + 2 * m) (bs ++ wordsL ys)) := by
  refine wordsInt_any v n base (g + 1) m m bs ys _ _ (hown.alloc _) (by simp; omega) (RdI.new ys hg hcs hm) (rng_of (by omega) (by omega) hys) (fun _ b o e => ?_) hn
  injection e with e; injection e with e
  subst e
  exact own_far' hown (by omega)

set_option maxRecDepth 100000 in
set_option maxHeartbeats 1600000 in
theorem coded_reads (q v : Int) (fc ad qt to : Int) (A : Option Addr) (n c : Nat) (xs : List Int) (w : World) (_hx : RdI w w.heap.size .u16 A n xs) (h0 : 0 ≤ ad) (h1 : ad ≤ 65535) (h2 : 0 ≤ qt) (h3 : qt ≤ 65535) (b : Bool) :
    Calls Try.prog 115 #[.agg #[.int .i64 0, .int .i64 q, .int .i64 v, .bool b], .agg #[.int .i64 fc, .int .i64 ad, .int .i64 qt, .slice A n c, .int .i64 to]] w (RetI .u8 (headL fc ad ++ wordsL [qt]) w) := by
  go_enter Try.func115, Try.ntmps115
  go_wp2_with fail
  have X0 := Box2.new w #[.int .i64 0, .int .i64 q, .int .i64 v, .bool b] 144 #[.int .i64 fc, .int .i64 ad, .int .i64 qt, .slice A n c, .int .i64 to] 32
  have o0 := own_new (base := w.heap.size + 2) (w := (w.alloc (.cells #[.int .i64 0, .int .i64 q, .int .i64 v, .bool b] 144)).alloc (.cells #[.int .i64 fc, .int .i64 ad, .int .i64 qt, .slice A n c, .int .i64 to] 32)) (g := w.heap.size + 1 + 1) 5 .u8 (fc % 256) (by simp) (by omega)
  refine (wordsNew_any _ 1 _ 1 _ [fc % 256] [ad] _ _ o0 (by simp) (by simp) rfl rfl (by simp; omega) (by omega)).mono ?_
  rintro e w1 ⟨v1, rfl, own1, mod1, at1⟩
  have X1 := ((X0.alloc _).alloc _).own mod1 (o0.alloc _) (by omega)
  have E1 : Ext w w1 := (((((Ext.refl w).goA _).goA _).goA _).goA _).goM mod1 (fun i hi => by have := (o0.lt i hi).1; omega)
  clear X0 o0 mod1 at1
  have s1 := X1.c0
  have q1 := X1.c1
  have l1 := own1.lt
  have z1 := X1.lt
  go_wp2_with fail
  refine (wordsNew_any _ _ _ 1 _ _ [qt] _ _ own1 (by omega) rfl rfl rfl (by simp; omega) (by omega)).mono ?_
  rintro e w2 ⟨v2, rfl, own2, mod2, at2⟩
  have E2 : Ext w w2 := (E1.goA _).goM mod2 (fun i hi => by have := (l1 i hi).1; omega)
  go_wp2_with fail
  go_ret
  obtain ⟨A', c', rfl, ⟨hc1, hc2⟩, r⟩ := own_rd own2
  exact ⟨A', _, c', rfl, hc1, hc2, r, E2⟩

set_option maxRecDepth 100000 in
set_option maxHeartbeats 1600000 in
theorem coded_bit (q v : Int) (fc ad qt to : Int) (A : Option Addr) (n c : Nat) (xs : List Int) (w : World) (hx : RdI w w.heap.size .u16 A n xs) (h0 : 0 ≤ ad) (h1 : ad ≤ 65535) (_h2 : 0 ≤ qt) (_h3 : qt ≤ 65535) (hn : 1 ≤ n) (hb : 0 ≤ xs.getD 0 0 ∧ xs.getD 0 0 ≤ 1) :
    Calls Try.prog 115 #[.agg #[.int .i64 1, .int .i64 q, .int .i64 v, .bool true], .agg #[.int .i64 fc, .int .i64 ad, .int .i64 qt, .slice A n c, .int .i64 to]] w (RetI .u8 (headL fc ad ++ wordsL [65280 * xs.getD 0 0]) w) := by
  obtain ⟨b, o, rfl, hbb, hc0⟩ := hx.at_ (j := 0) (by omega)
  obtain ⟨d, hd⟩ : ∃ d, d = xs.getD 0 0 := ⟨_, rfl⟩
  rw [← hd] at hb hc0 ⊢
  clear hd
  obtain ⟨hb0, hb1⟩ := hb
  go_enter Try.func115, Try.ntmps115
  go_wp2_with fail
  have X0 := Box2.new w #[.int .i64 1, .int .i64 q, .int .i64 v, .bool true] 144 #[.int .i64 fc, .int .i64 ad, .int .i64 qt, .slice (some ⟨b, o, none⟩) n c, .int .i64 to] 32
  have o0 := own_new (base := w.heap.size + 2) (w := (w.alloc (.cells #[.int .i64 1, .int .i64 q, .int .i64 v, .bool true] 144)).alloc (.cells #[.int .i64 fc, .int .i64 ad, .int .i64 qt, .slice (some ⟨b, o, none⟩) n c, .int .i64 to] 32)) (g := w.heap.size + 1 + 1) 5 .u8 (fc % 256) (by simp) (by omega)
  refine (wordsNew_any _ 1 _ 1 _ [fc % 256] [ad] _ _ o0 (by simp) (by simp) rfl rfl (by simp; omega) (by omega)).mono ?_
  rintro e w1 ⟨v1, rfl, own1, mod1, at1⟩
  have X1 := ((X0.alloc _).alloc _).own mod1 (o0.alloc _) (by omega)
  have E1 : Ext w w1 := (((((Ext.refl w).goA _).goA _).goA _).goA _).goM mod1 (fun i hi => by have := (o0.lt i hi).1; omega)
  clear X0 o0 mod1 at1
  have s1 := X1.c0
  have q1 := X1.c1
  have l1 := own1.lt
  have z1 := X1.lt
  have cx := (E1.cell (o + 0) hbb).trans hc0
  rw [Nat.add_zero] at cx
  go_wp2_with fail
  refine (wordsNew_any _ _ _ 1 _ _ [65280 * d] _ _ own1 (by omega) rfl rfl rfl (by simp; omega) (by omega)).mono ?_
  rintro e w2 ⟨v2, rfl, own2, mod2, at2⟩
  have E2 : Ext w w2 := (E1.goA _).goM mod2 (fun i hi => by have := (l1 i hi).1; omega)
  go_wp2_with fail
  go_ret
  obtain ⟨A', c', rfl, ⟨hc1, hc2⟩, r⟩ := own_rd own2
  exact ⟨A', _, c', rfl, hc1, hc2, r, E2⟩

set_option maxRecDepth 100000 in
set_option maxHeartbeats 1600000 in
theorem coded_regs (q v : Int) (fc ad qt to : Int) (A : Option Addr) (n c : Nat) (xs : List Int) (w : World) (hx : RdI w w.heap.size .u16 A n xs) (h0 : 0 ≤ ad) (h1 : ad ≤ 65535) (_h2 : 0 ≤ qt) (_h3 : qt ≤ 65535) (hn : n ≤ 2) :
    Calls Try.prog 115 #[.agg #[.int .i64 1, .int .i64 q, .int .i64 v, .bool false], .agg #[.int .i64 fc, .int .i64 ad, .int .i64 qt, .slice A n c, .int .i64 to]] w (RetI .u8 (headL fc ad ++ wordsL xs) w) := by
  go_enter Try.func115, Try.ntmps115
  go_wp2_with fail
  have X0 := Box2.new w #[.int .i64 1, .int .i64 q, .int .i64 v, .bool false] 144 #[.int .i64 fc, .int .i64 ad, .int .i64 qt, .slice A n c, .int .i64 to] 32
  have o0 := own_new (base := w.heap.size + 2) (w := (w.alloc (.cells #[.int .i64 1, .int .i64 q, .int .i64 v, .bool false] 144)).alloc (.cells #[.int .i64 fc, .int .i64 ad, .int .i64 qt, .slice A n c, .int .i64 to] 32)) (g := w.heap.size + 1 + 1) 5 .u8 (fc % 256) (by simp) (by omega)
  refine (wordsNew_any _ 1 _ 1 _ [fc % 256] [ad] _ _ o0 (by simp) (by simp) rfl rfl (by simp; omega) (by omega)).mono ?_
  rintro e w1 ⟨v1, rfl, own1, mod1, at1⟩
  have X1 := ((X0.alloc _).alloc _).own mod1 (o0.alloc _) (by omega)
  have E1 : Ext w w1 := (((((Ext.refl w).goA _).goA _).goA _).goA _).goM mod1 (fun i hi => by have := (o0.lt i hi).1; omega)
  clear X0 o0 mod1 at1
  have s1 := X1.c0
  have q1 := X1.c1
  have l1 := own1.lt
  have z1 := X1.lt
  go_wp2_with fail
  refine (words16_any _ _ _ _ n c _ xs A _ own1 (by omega) (hx.ext E1) (fun h b o e => own_far own1 (by have := hx.lt_of h e; omega)) (by omega)).mono ?_
  rintro e w2 ⟨v2, rfl, own2, mod2, at2⟩
  have E2 : Ext w w2 := E1.goM mod2 (fun i hi => by have := (l1 i hi).1; omega)
  go_wp2_with fail
  go_ret
  obtain ⟨A', c', rfl, ⟨hc1, hc2⟩, r⟩ := own_rd own2
  exact ⟨A', _, c', rfl, hc1, hc2, r, E2⟩

end Go.Proofs.Ytgeahfkhfpdlhaa
