/- Layer 4, the walks: Bits, Unbits. · Layer 4, the walks: coded. · Layer 4, the walks: coded, what is written. · Layer 4, the walks: coded, registers that are written. · Layer 4, the walks: coded, of any request that has what it should have. -/
import Derived.Test.YtgagpalffdgjnaaG02
import Derived.Deep.RegionHeld3
namespace Go.Proofs.Ytgagpalffdgjnaa
open Go.RowKit

set_option maxRecDepth 100000 in
set_option maxHeartbeats 1000000 in
theorem bits_any (A : Option Addr) (n c : Nat) (xs : List Int) (w : World) (hx : RdI w w.heap.size .u16 A n xs) (hn : n ≤ 1048576) :
    Calls Try.prog 124 #[.slice A n c] w fun e w' => e = .returned (.slice (some ⟨w.heap.size, 0, none⟩) ((n + 7) / 8) ((n + 7) / 8)) ∧ Blk w' w.heap.size 5 .u8 (bitsL xs) ∧ Ext w w' := by
  have hl := hx.len
  have hmk := fun w => run_mkI Try.underlying34 info_u8 ((n : Int) / 8 + ((n : Int) % 8 + 7) / 8) ((n + 7) / 8) (by omega) (by omega) (by omega) w
  have hl' := Lib.hid hl
  clear hl
  go_enter Try.func124, Try.ntmps124
  go_wp2
  go_loopw [18] (fun i wr => ∃ k : Nat, k ≤ n ∧ i = .int .i64 k ∧ Blk wr w.heap.size 5 .u8 (bitsTo xs k) ∧ Ext w wr) (fun i _ => n - (intOf i).toNat)
  case atStart => exact ⟨0, by omega, rfl, by rw [bitsTo_zero, hl'.out]; exact Blk.new _ _ _ _, (Ext.refl _).goA _⟩
  case round =>
    obtain ⟨k, hk, rfl, hb, hw⟩ := hrel
    by_cases hlt : k < n
    · obtain ⟨b, o, rfl, hbb, hc0⟩ := hx.at_ hlt
      have hc := (hw.cell (o + k) hbb).trans hc0
      have hc0' := Lib.hid hc0
      clear hc0
      have hkl : k < xs.length := by rw [hl'.out]; exact hlt
      have c1 := hb.cell (k / 8) (by rw [bitsTo_length]; omega)
      have c2 := hb.frozen (k / 8)
      have hset := Lib.hid (bitsTo_set xs k hkl)
      have hsame := Lib.hid (bitsTo_same xs k hkl)
      have hold := bitN_range (bitAt xs (k / 8)) (k % 8)
      have hg := bitsTo_getD xs k (k / 8) (by omega)
      rw [show min 8 (k - 8 * (k / 8)) = k % 8 by omega] at hg
      rw [← hg] at hold
      clear hg
      have hb' := hb
      obtain ⟨d, hd⟩ : ∃ d, d = (bitsTo xs k).getD (k / 8) 0 := ⟨_, rfl⟩
      rw [← hd] at c1 hold
      have hset2 := hb.set_ (k / 8) (d + 2 ^ (k % 8))
      have hd' := Lib.hid hd
      clear hd hkl
      cases hz : (xs[k]?.getD 0 != 0)
      · have hz' := Lib.hid hz
        go_wp2
        go_roundw
        case rel => exact ⟨k + 1, by omega, by go_num, by rw [← hsame.out (by rw [List.getD_eq_getElem?_getD]; simpa using hz'.out)]; exact hb', hw⟩
        case measure => simp [intOf]; omega
      · have hz' := Lib.hid hz
        go_wp2
        go_region
        go_wp2
        go_roundw
        case rel =>
          refine ⟨k + 1, by omega, by go_num, ?_, (hw.goS (Nat.le_refl _) _).god⟩
          rw [bit_or' d (k % 8) hold.1 hold.2 (by omega)]
          have hs := hset.out (by have := hz'.out; rw [List.getD_eq_getElem?_getD]; simpa using this)
          rw [← hd'.out] at hs
          rw [← hs]; exact hset2
        case measure => simp [intOf]; omega
    · obtain rfl : k = n := by omega
      go_wp2
      go_ret
      refine ⟨rfl, ?_, hw⟩
      unfold bitsL
      rw [hl'.out]; exact hb

set_option maxRecDepth 100000 in
set_option maxHeartbeats 1000000 in
theorem unbits_no (A : Option Addr) (m c : Nat) (n : Int) (w : World) (h : n < 0 ∨ 65536 < n) :
    Calls Try.prog 114 #[.slice A m c, .int .i64 n] w fun e w' => e = .returned (.slice none 0 0) ∧ w = w' := by
  rcases h with h | h
  all_goals
    go_enter Try.func114, Try.ntmps114
    go_wp2
    go_ret
    exact ⟨rfl, rfl⟩

set_option maxRecDepth 100000 in
set_option maxHeartbeats 1000000 in
theorem unbits_any (A : Option Addr) (m c n : Nat) (bs : List Int) (w : World) (hx : RdI w w.heap.size .u8 A m bs) (hm : m ≤ maxLen) (hn : n ≤ 65536) (hr : ∀ j : Nat, 0 ≤ bs[j]?.getD 0 ∧ bs[j]?.getD 0 ≤ 255) :
    Calls Try.prog 114 #[.slice A m c, .int .i64 n] w fun e w' => e = .returned (.slice (some ⟨w.heap.size, 0, none⟩) n n) ∧ Blk w' w.heap.size 43 .u16 (unbitsL bs n) ∧ Ext w w' := by
  unfold maxLen at hm
  have hl' := Lib.hid hx.len
  have hmk := fun w => run_mkI Try.underlying28 info_u16 (n : Int) n rfl (by omega) (by omega) w
  have hr' := Lib.hid hr
  clear hr
  go_enter Try.func114, Try.ntmps114
  go_wp2
  go_loopw [17] (fun i wr => ∃ k : Nat, k ≤ n ∧ k ≤ 8 * m ∧ i = .int .i64 k ∧ Blk wr w.heap.size 43 .u16 (unbitsTo bs n k) ∧ Ext w wr) (fun i _ => n - (intOf i).toNat)
  case atStart => exact ⟨0, by omega, by omega, rfl, by rw [unbitsTo_zero]; exact Blk.new _ _ _ _, (Ext.refl _).goA _⟩
  case round =>
    obtain ⟨k, hk, hk8, rfl, hb, hw⟩ := hrel
    by_cases hlt : k < n
    · rcases (show k / 8 < m ∨ k = 8 * m by omega) with h8 | h8
      · obtain ⟨b, o, rfl, hbb, hc0⟩ := hx.at_ h8
        have hc := (hw.cell (o + k / 8) hbb).trans hc0
        have hc0' := Lib.hid hc0
        clear hc0
        have c1 := hb.cell k (by rw [unbitsTo_length]; omega)
        have c2 := hb.frozen k
        have hset := Lib.hid (unbitsTo_set bs n k hlt (by rw [hl'.out]; exact h8))
        have hset2 := hb.set_ k (bs.getD (k / 8) 0 / 2 ^ (k % 8) % 2)
        obtain ⟨r0, r1⟩ := hr'.out (k / 8)
        have hz : (((k : Int) / 8) == (m : Int)) = false := by simp; omega
        go_wp2
        go_roundw
        case rel =>
          refine ⟨k + 1, by omega, by omega, by go_num, ?_, hw.goS (Nat.le_refl _) _⟩
          rw [unbit_val _ (k % 8) r0 r1, ← List.getD_eq_getElem?_getD, ← hset.out]; exact hset2
        case measure => simp [intOf]; omega
      · have hz : (((k : Int) / 8) == (m : Int)) = true := by simp; omega
        have h8' := Lib.hid h8
        clear h8
        go_wp2
        go_ret
        refine ⟨rfl, ?_, hw⟩
        rw [unbitsTo_all bs n k (.inr (by rw [hl'.out]; have := h8'.out; omega))] at hb
        exact hb
    · obtain rfl : k = n := by omega
      go_wp2
      go_ret
      refine ⟨rfl, ?_, hw⟩
      rw [unbitsTo_all bs k k (.inl (Nat.le_refl _))] at hb
      exact hb
end Go.Proofs.Ytgagpalffdgjnaa
namespace Go.Proofs.Ytgagpalffdgjnaa
open Go.RowKit

/-- Two boxes lie at g. -/
def Box2 (w : World) (g : Nat) (S : Array Value) (t : TypeId) (Q : Array Value) (u : TypeId) : Prop := w.heap[g]? = some (.cells S t (0, 0)) ∧ w.heap[g + 1]? = some (.cells Q u (0, 0))
section
variable {w w' : World} {g : Nat} {S Q : Array Value} {t u : TypeId}
theorem Box2.new (w : World) (S : Array Value) (t : TypeId) (Q : Array Value) (u : TypeId) : Box2 ((w.alloc (.cells S t)).alloc (.cells Q u)) w.heap.size S t Q u :=
  ⟨by rw [alloc_get, if_neg (by simp), alloc_get, if_pos rfl], by rw [alloc_get, if_pos (by simp)]⟩
theorem Box2.lt (h : Box2 w g S t Q u) : g + 1 < w.heap.size := (Array.getElem?_eq_some_iff.1 h.2).1
theorem Box2.keep (h : Box2 w g S t Q u) (hk : ∀ b, b < g + 2 → w'.heap[b]? = w.heap[b]?) : Box2 w' g S t Q u := ⟨(hk g (by omega)).trans h.1, (hk (g + 1) (by omega)).trans h.2⟩
theorem Box2.alloc (h : Box2 w g S t Q u) (o : Obj) : Box2 (w.alloc o) g S t Q u := h.keep fun b hb => Below.heap_alloc w o b (by have := h.lt; omega)
theorem Box2.ext (h : Box2 w g S t Q u) (e : Ext w w') : Box2 w' g S t Q u := h.keep fun b hb => e.block b (by have := h.lt; omega)
theorem Box2.own (h : Box2 w g S t Q u) {v : Value} {base n : Nat} {e : TypeId} {size : Nat} {xs : List Value} (hm : Mod (fun i => v.ownBlock = some i) w w') (ho : w.ownsRow base e size v n xs) (hb : g + 2 ≤ base) : Box2 w' g S t Q u :=
  h.keep fun b hb' => hm.block b (by have := h.lt; omega) (own_far ho (by omega))
theorem Box2.c0 (h : Box2 w g S t Q u) : ∀ o, w.cell? ⟨g, o, none⟩ = S[o]? := cellsAt h.1
theorem Box2.c1 (h : Box2 w g S t Q u) : ∀ o, w.cell? ⟨g + 1, o, none⟩ = Q[o]? := cellsAt h.2
end

/-- words at integers that were just laid. -/
theorem wordsNew_any (v : Value) (n base m g : Nat) (bs ys : List Int) (cs : Array Value) (w : World) (hown : w.ownsRow base 5 1 v n (bs.map (Value.int .u8))) (hbase : base ≤ w.heap.size) (hg : g = w.heap.size) (hcs : cs = row .i64 ys) (hm : ys.length = m)
    (hys : ∀ y ∈ ys, 0 ≤ y ∧ y ≤ 65535) (hn : n + 2 * m ≤ 1048576) :
    Calls Try.prog 122 #[v, .slice (some ⟨g, 0, none⟩) m m] (w.alloc (.cells cs 3)) (WordsPost (w.alloc (.cells cs 3)) base v (n + 2 * m) (bs ++ wordsL ys)) := by
  refine wordsInt_any v n base (g + 1) m m bs ys _ _ (hown.alloc _) (by simp; omega) (RdI.new ys hg hcs hm) (rng_of (by omega) (by omega) hys) (fun _ b o e => ?_) hn
  injection e with e; injection e with e
  subst e
  exact own_far' hown (by omega)

set_option maxRecDepth 100000 in
set_option maxHeartbeats 1600000 in
theorem coded_reads (q v : Int) (fc ad qt to : Int) (A : Option Addr) (n c : Nat) (xs : List Int) (w : World) (_hx : RdI w w.heap.size .u16 A n xs) (h0 : 0 ≤ ad) (h1 : ad ≤ 65535) (h2 : 0 ≤ qt) (h3 : qt ≤ 65535) (b : Bool) :
    Calls Try.prog 109 #[.agg #[.int .i64 0, .int .i64 q, .int .i64 v, .bool b], .agg #[.int .i64 fc, .int .i64 ad, .int .i64 qt, .slice A n c, .int .i64 to]] w (RetI .u8 (headL fc ad ++ wordsL [qt]) w) := by
  go_enter Try.func109, Try.ntmps109
  go_wp2_with fail
  have X0 := Box2.new w #[.int .i64 0, .int .i64 q, .int .i64 v, .bool b] 162 #[.int .i64 fc, .int .i64 ad, .int .i64 qt, .slice A n c, .int .i64 to] 30
  have o0 := own_new (base := w.heap.size + 2) (w := (w.alloc (.cells #[.int .i64 0, .int .i64 q, .int .i64 v, .bool b] 162)).alloc (.cells #[.int .i64 fc, .int .i64 ad, .int .i64 qt, .slice A n c, .int .i64 to] 30)) (g := w.heap.size + 1 + 1) 5 .u8 (fc % 256) (by simp) (by omega)
  refine (wordsNew_any _ 1 _ 1 _ [fc % 256] [ad] _ _ o0 (by simp) (by simp) rfl rfl (by simp; omega) (by omega)).mono ?_
  rintro e w1 ⟨v1, rfl, own1, mod1, at1⟩
  have X1 := ((X0.alloc _).alloc _).own mod1 (o0.alloc _) (by omega)
  have E1 : Ext w w1 := (((((Ext.refl w).goA _).goA _).goA _).goA _).goM mod1 (fun i hi => by have := (o0.lt i hi).1; omega)
  clear X0 o0 mod1 at1
  have s1 := X1.c0
  have q1 := X1.c1
  have l1 := own1.lt
  have z1 := X1.lt
  go_wp2_with fail
  refine (wordsNew_any _ _ _ 1 _ _ [qt] _ _ own1 (by omega) rfl rfl rfl (by simp; omega) (by omega)).mono ?_
  rintro e w2 ⟨v2, rfl, own2, mod2, at2⟩
  have E2 : Ext w w2 := (E1.goA _).goM mod2 (fun i hi => by have := (l1 i hi).1; omega)
  go_wp2_with fail
  go_ret
  obtain ⟨A', c', rfl, ⟨hc1, hc2⟩, r⟩ := own_rd own2
  exact ⟨A', _, c', rfl, hc1, hc2, r, E2⟩

set_option maxRecDepth 100000 in
set_option maxHeartbeats 1600000 in
theorem coded_bit (q v : Int) (fc ad qt to : Int) (A : Option Addr) (n c : Nat) (xs : List Int) (w : World) (hx : RdI w w.heap.size .u16 A n xs) (h0 : 0 ≤ ad) (h1 : ad ≤ 65535) (_h2 : 0 ≤ qt) (_h3 : qt ≤ 65535) (hn : 1 ≤ n) (hb : 0 ≤ xs.getD 0 0 ∧ xs.getD 0 0 ≤ 1) :
    Calls Try.prog 109 #[.agg #[.int .i64 1, .int .i64 q, .int .i64 v, .bool true], .agg #[.int .i64 fc, .int .i64 ad, .int .i64 qt, .slice A n c, .int .i64 to]] w (RetI .u8 (headL fc ad ++ wordsL [65280 * xs.getD 0 0]) w) := by
  obtain ⟨b, o, rfl, hbb, hc0⟩ := hx.at_ (j := 0) (by omega)
  obtain ⟨d, hd⟩ : ∃ d, d = xs.getD 0 0 := ⟨_, rfl⟩
  rw [← hd] at hb hc0 ⊢
  clear hd
  obtain ⟨hb0, hb1⟩ := hb
  go_enter Try.func109, Try.ntmps109
  go_wp2_with fail
  have X0 := Box2.new w #[.int .i64 1, .int .i64 q, .int .i64 v, .bool true] 162 #[.int .i64 fc, .int .i64 ad, .int .i64 qt, .slice (some ⟨b, o, none⟩) n c, .int .i64 to] 30
  have o0 := own_new (base := w.heap.size + 2) (w := (w.alloc (.cells #[.int .i64 1, .int .i64 q, .int .i64 v, .bool true] 162)).alloc (.cells #[.int .i64 fc, .int .i64 ad, .int .i64 qt, .slice (some ⟨b, o, none⟩) n c, .int .i64 to] 30)) (g := w.heap.size + 1 + 1) 5 .u8 (fc % 256) (by simp) (by omega)
  refine (wordsNew_any _ 1 _ 1 _ [fc % 256] [ad] _ _ o0 (by simp) (by simp) rfl rfl (by simp; omega) (by omega)).mono ?_
  rintro e w1 ⟨v1, rfl, own1, mod1, at1⟩
  have X1 := ((X0.alloc _).alloc _).own mod1 (o0.alloc _) (by omega)
  have E1 : Ext w w1 := (((((Ext.refl w).goA _).goA _).goA _).goA _).goM mod1 (fun i hi => by have := (o0.lt i hi).1; omega)
  clear X0 o0 mod1 at1
  have s1 := X1.c0
  have q1 := X1.c1
  have l1 := own1.lt
  have z1 := X1.lt
  have cx := (E1.cell (o + 0) hbb).trans hc0
  rw [Nat.add_zero] at cx
  go_wp2_with fail
  refine (wordsNew_any _ _ _ 1 _ _ [65280 * d] _ _ own1 (by omega) rfl rfl rfl (by simp; omega) (by omega)).mono ?_
  rintro e w2 ⟨v2, rfl, own2, mod2, at2⟩
  have E2 : Ext w w2 := (E1.goA _).goM mod2 (fun i hi => by have := (l1 i hi).1; omega)
  go_wp2_with fail
  go_ret
  obtain ⟨A', c', rfl, ⟨hc1, hc2⟩, r⟩ := own_rd own2
  exact ⟨A', _, c', rfl, hc1, hc2, r, E2⟩

set_option maxRecDepth 100000 in
set_option maxHeartbeats 1600000 in
theorem coded_regs (q v : Int) (fc ad qt to : Int) (A : Option Addr) (n c : Nat) (xs : List Int) (w : World) (hx : RdI w w.heap.size .u16 A n xs) (h0 : 0 ≤ ad) (h1 : ad ≤ 65535) (_h2 : 0 ≤ qt) (_h3 : qt ≤ 65535) (hn : n ≤ 2) :
    Calls Try.prog 109 #[.agg #[.int .i64 1, .int .i64 q, .int .i64 v, .bool false], .agg #[.int .i64 fc, .int .i64 ad, .int .i64 qt, .slice A n c, .int .i64 to]] w (RetI .u8 (headL fc ad ++ wordsL xs) w) := by
  go_enter Try.func109, Try.ntmps109
  go_wp2_with fail
  have X0 := Box2.new w #[.int .i64 1, .int .i64 q, .int .i64 v, .bool false] 162 #[.int .i64 fc, .int .i64 ad, .int .i64 qt, .slice A n c, .int .i64 to] 30
  have o0 := own_new (base := w.heap.size + 2) (w := (w.alloc (.cells #[.int .i64 1, .int .i64 q, .int .i64 v, .bool false] 162)).alloc (.cells #[.int .i64 fc, .int .i64 ad, .int .i64 qt, .slice A n c, .int .i64 to] 30)) (g := w.heap.size + 1 + 1) 5 .u8 (fc % 256) (by simp) (by omega)
  refine (wordsNew_any _ 1 _ 1 _ [fc % 256] [ad] _ _ o0 (by simp) (by simp) rfl rfl (by simp; omega) (by omega)).mono ?_
  rintro e w1 ⟨v1, rfl, own1, mod1, at1⟩
  have X1 := ((X0.alloc _).alloc _).own mod1 (o0.alloc _) (by omega)
  have E1 : Ext w w1 := (((((Ext.refl w).goA _).goA _).goA _).goA _).goM mod1 (fun i hi => by have := (o0.lt i hi).1; omega)
  clear X0 o0 mod1 at1
  have s1 := X1.c0
  have q1 := X1.c1
  have l1 := own1.lt
  have z1 := X1.lt
  go_wp2_with fail
  refine (words16_any _ _ _ _ n c _ xs A _ own1 (by omega) (hx.ext E1) (fun h b o e => own_far own1 (by have := hx.lt_of h e; omega)) (by omega)).mono ?_
  rintro e w2 ⟨v2, rfl, own2, mod2, at2⟩
  have E2 : Ext w w2 := E1.goM mod2 (fun i hi => by have := (l1 i hi).1; omega)
  go_wp2_with fail
  go_ret
  obtain ⟨A', c', rfl, ⟨hc1, hc2⟩, r⟩ := own_rd own2
  exact ⟨A', _, c', rfl, hc1, hc2, r, E2⟩

end Go.Proofs.Ytgagpalffdgjnaa
namespace Go.Proofs.Ytgagpalffdgjnaa
open Go.RowKit

set_option maxRecDepth 100000 in
set_option maxHeartbeats 1600000 in
theorem coded_bits (q v : Int) (fc ad qt to : Int) (A : Option Addr) (n c : Nat) (xs : List Int) (w : World) (hx : RdI w w.heap.size .u16 A n xs) (h0 : 0 ≤ ad) (h1 : ad ≤ 65535) (h2 : 0 ≤ qt) (h3 : qt ≤ 65535) (hn : n ≤ 1968) :
    Calls Try.prog 109 #[.agg #[.int .i64 2, .int .i64 q, .int .i64 v, .bool true], .agg #[.int .i64 fc, .int .i64 ad, .int .i64 qt, .slice A n c, .int .i64 to]] w (RetI .u8 (headL fc ad ++ wordsL [qt] ++ [((xs.length : Int) + 7) / 8] ++ bitsL xs) w) := by
  have hl := Lib.hid hx.len
  go_enter Try.func109, Try.ntmps109
  go_wp2_with fail
  have X0 := Box2.new w #[.int .i64 2, .int .i64 q, .int .i64 v, .bool true] 162 #[.int .i64 fc, .int .i64 ad, .int .i64 qt, .slice A n c, .int .i64 to] 30
  have o0 := own_new (base := w.heap.size + 2) (w := (w.alloc (.cells #[.int .i64 2, .int .i64 q, .int .i64 v, .bool true] 162)).alloc (.cells #[.int .i64 fc, .int .i64 ad, .int .i64 qt, .slice A n c, .int .i64 to] 30)) (g := w.heap.size + 1 + 1) 5 .u8 (fc % 256) (by simp) (by omega)
  refine (wordsNew_any _ 1 _ 1 _ [fc % 256] [ad] _ _ o0 (by simp) (by simp) rfl rfl (by simp; omega) (by omega)).mono ?_
  rintro e w1 ⟨v1, rfl, own1, mod1, at1⟩
  have X1 := ((X0.alloc _).alloc _).own mod1 (o0.alloc _) (by omega)
  have E1 : Ext w w1 := (((((Ext.refl w).goA _).goA _).goA _).goA _).goM mod1 (fun i hi => by have := (o0.lt i hi).1; omega)
  clear X0 o0 mod1 at1
  have s1 := X1.c0
  have q1 := X1.c1
  have l1 := own1.lt
  have z1 := X1.lt
  go_wp2_with fail
  refine (wordsNew_any _ _ _ 1 _ _ [qt] _ _ own1 (by omega) rfl rfl rfl (by simp; omega) (by omega)).mono ?_
  rintro e w2 ⟨v2, rfl, own2, mod2, at2⟩
  have E2 : Ext w w2 := (E1.goA _).goM mod2 (fun i hi => by have := (l1 i hi).1; omega)
  have X2 := (X1.alloc _).own mod2 (own1.alloc _) (by omega)
  clear own1 mod2 at2 s1 q1 l1
  have s2 := X2.c0
  have q2 := X2.c1
  have l2 := own2.lt
  have z2 := X2.lt
  go_wp2_with fail
  refine (bits_any A n c xs _ (hx.ext E2) (by omega)).mono ?_
  rintro e w3 ⟨rfl, b3, E3⟩
  have own3 := own_ext own2 E3
  have b3' := Lib.hid b3
  clear b3
  have hb3 : (bitsL xs).length = (n + 7) / 8 := by rw [← hl.out]; exact bitsTo_length _ _
  have g3 := E3.size
  have el : ((n : Int) + 7) / 8 % 256 = ((n : Int) + 7) / 8 := by omega
  have E4 := E2.go E3
  go_wp2_with (at_builtin; refine wpList_appI rfl (.tmp 65) (.tmp 69) _ rfl Try.underlying34 info_u8 (own3.alloc _) rfl (RdI.one _ _ _ _) rfl (by omega) (by omega) (by simp; omega) ?_)
  intro v4 w4 own4 hg4 hat4
  have e4 : Ext w w4 := (E4.goA _).goG hg4 (fun k hk => by have := (own3.lt k hk).1; omega)
  have b4 : Blk w4 w2.heap.size 5 .u8 (bitsL xs) := (hg4.block _ (b3'.out.alloc _).lt (fun h => by have := (l2 _ h.symm).2; omega)).trans (b3'.out.alloc _)
  have z4 := hg4.size
  replace z4 : w3.heap.size ≤ w4.heap.size := by simp at z4; omega
  replace own4 : w4.ownsRow (w.heap.size + 2) 5 1 v4 6 ((headL fc ad ++ wordsL [qt] ++ [((n : Int) + 7) / 8]).map (Value.int .u8)) := by simpa [headL] using own4
  clear hg4 hat4 own3
  have r4 := (b4.rd (B := w4.heap.size) b4.lt)
  rw [hb3] at r4
  clear b4
  go_wp2_with (at_builtin; refine wpList_appI rfl (.tmp 70) (.tmp 71) _ rfl Try.underlying34 info_u8 own4 rfl r4 rfl (by omega) (by omega) (by omega) ?_)
  intro v5 w5 own5 hg5 hat5
  have e5 : Ext w w5 := e4.goG hg5 (fun k hk => by have := (own4.lt k hk).1; omega)
  replace own5 : w5.ownsRow (w.heap.size + 2) 5 1 v5 (6 + (n + 7) / 8) ((headL fc ad ++ wordsL [qt] ++ [((n : Int) + 7) / 8] ++ bitsL xs).map (Value.int .u8)) := by simpa using own5
  go_wp2_with fail
  go_ret
  obtain ⟨A', c', rfl, ⟨hc1, hc2⟩, r⟩ := own_rd own5
  rw [hl.out]
  exact ⟨A', _, c', rfl, hc1, hc2, r, e5⟩
end Go.Proofs.Ytgagpalffdgjnaa
namespace Go.Proofs.Ytgagpalffdgjnaa
open Go.RowKit

set_option maxRecDepth 100000 in
set_option maxHeartbeats 1600000 in
theorem coded_wregs (q v : Int) (fc ad qt to : Int) (A : Option Addr) (n c : Nat) (xs : List Int) (w : World) (hx : RdI w w.heap.size .u16 A n xs) (h0 : 0 ≤ ad) (h1 : ad ≤ 65535) (h2 : 0 ≤ qt) (h3 : qt ≤ 65535) (hn : n ≤ 123) :
    Calls Try.prog 109 #[.agg #[.int .i64 2, .int .i64 q, .int .i64 v, .bool false], .agg #[.int .i64 fc, .int .i64 ad, .int .i64 qt, .slice A n c, .int .i64 to]] w (RetI .u8 (headL fc ad ++ wordsL [qt] ++ [2 * (xs.length : Int)] ++ wordsL xs) w) := by
  have hl := Lib.hid hx.len
  go_enter Try.func109, Try.ntmps109
  go_wp2_with fail
  have X0 := Box2.new w #[.int .i64 2, .int .i64 q, .int .i64 v, .bool false] 162 #[.int .i64 fc, .int .i64 ad, .int .i64 qt, .slice A n c, .int .i64 to] 30
  have o0 := own_new (base := w.heap.size + 2) (w := (w.alloc (.cells #[.int .i64 2, .int .i64 q, .int .i64 v, .bool false] 162)).alloc (.cells #[.int .i64 fc, .int .i64 ad, .int .i64 qt, .slice A n c, .int .i64 to] 30)) (g := w.heap.size + 1 + 1) 5 .u8 (fc % 256) (by simp) (by omega)
  refine (wordsNew_any _ 1 _ 1 _ [fc % 256] [ad] _ _ o0 (by simp) (by simp) rfl rfl (by simp; omega) (by omega)).mono ?_
  rintro e w1 ⟨v1, rfl, own1, mod1, at1⟩
  have X1 := ((X0.alloc _).alloc _).own mod1 (o0.alloc _) (by omega)
  have E1 : Ext w w1 := (((((Ext.refl w).goA _).goA _).goA _).goA _).goM mod1 (fun i hi => by have := (o0.lt i hi).1; omega)
  clear X0 o0 mod1 at1
  have s1 := X1.c0
  have q1 := X1.c1
  have l1 := own1.lt
  have z1 := X1.lt
  go_wp2_with fail
  refine (wordsNew_any _ _ _ 1 _ _ [qt] _ _ own1 (by omega) rfl rfl rfl (by simp; omega) (by omega)).mono ?_
  rintro e w2 ⟨v2, rfl, own2, mod2, at2⟩
  have E2 : Ext w w2 := (E1.goA _).goM mod2 (fun i hi => by have := (l1 i hi).1; omega)
  have X2 := (X1.alloc _).own mod2 (own1.alloc _) (by omega)
  clear own1 mod2 at2 s1 q1 l1
  have s2 := X2.c0
  have q2 := X2.c1
  have l2 := own2.lt
  have z2 := X2.lt
  have own2' : w2.drew.ownsRow (w.heap.size + 2) 5 1 v2 _ _ := own2
  have D0 : Box2 w2.drew w.heap.size #[Value.int IntKind.i64 2, Value.int IntKind.i64 q, Value.int IntKind.i64 v, Value.bool false] 162 #[Value.int IntKind.i64 fc, Value.int IntKind.i64 ad, Value.int IntKind.i64 qt, Value.slice A n c, Value.int IntKind.i64 to] 30 := X2
  have hq : ∀ w', Box2 w' w.heap.size #[Value.int IntKind.i64 2, Value.int IntKind.i64 q, Value.int IntKind.i64 v, Value.bool false] 162 #[Value.int IntKind.i64 fc, Value.int IntKind.i64 ad, Value.int IntKind.i64 qt, Value.slice A n c, Value.int IntKind.i64 to] 30 → w'.cell? ⟨w.heap.size + 1, 3, none⟩ = some (.slice A n c) := fun w' h => h.c1 3
  have ew : IntKind.u8.wrap (IntKind.i64.wrap (2 * (n : Int))) = 2 * n := by rw [IntKind.wrap_i64, IntKind.wrap_u8]; omega
  have el : 2 * (n : Int) % 256 = 2 * (n : Int) := by omega
  go_wp2_with fail
  go_region_held3 (fun w' => Box2 w' w.heap.size #[Value.int IntKind.i64 2, Value.int IntKind.i64 q, Value.int IntKind.i64 v, Value.bool false] 162 #[Value.int IntKind.i64 fc, Value.int IntKind.i64 ad, Value.int IntKind.i64 qt, Value.slice A n c, Value.int IntKind.i64 to] 30) (first | assumption | exact Box2.alloc (by assumption) _)
    (first
      | (refine step_appI rfl (.tmp 73) (.tmp 79) _ rfl Try.underlying34 info_u8 (own2'.alloc _) rfl (RdI.one _ _ _ _) rfl (by omega) (by omega) (by simp; omega) ?_
         intro v4 w4 own4 hg4 hat4
         have M4 : Ext w w4 := ((E2.goA _).goD 1).goG hg4 (fun k hk => by have := (l2 k hk).1; omega)
         have X4 := X2.keep (w' := w4) (fun b hb => (hg4.block b (by simp; omega) (fun h => by have := (l2 b h.symm).1; omega)).trans (Below.heap_alloc _ _ b (by omega))))
      | (go_at_call 123
         refine (words16_any v4 _ _ _ n c _ xs A _ own4 (by have := X4.lt; omega) (hx.ext M4) (fun h b o e => own_far own4 (by have := hx.lt_of h e; omega)) (by omega)).mono ?_
         rintro e w5 ⟨v5, rfl, own5, mod5, at5⟩
         have X5 := X4.own mod5 own4 (by omega)))
  go_wp2_with fail
  go_ret
  obtain ⟨A', c', rfl, ⟨hc1, hc2⟩, r⟩ := own_rd own5
  rw [hl.out]
  exact ⟨A', _, c', rfl, hc1, hc2, r, M4.goM mod5 (fun i hi => by have := (own4.lt i hi).1; omega)⟩

set_option maxRecDepth 100000 in
set_option maxHeartbeats 1600000 in
theorem coded_swaps (q v : Int) (fc ad qt to : Int) (A : Option Addr) (n c : Nat) (xs : List Int) (w : World) (hx : RdI w w.heap.size .u16 A n xs) (h0 : 0 ≤ ad) (h1 : ad ≤ 65535) (h2 : 0 ≤ qt) (h3 : qt ≤ 65535) (h4 : 0 ≤ to) (h5 : to ≤ 65535) (hn : n ≤ 123) :
    Calls Try.prog 109 #[.agg #[.int .i64 3, .int .i64 q, .int .i64 v, .bool false], .agg #[.int .i64 fc, .int .i64 ad, .int .i64 qt, .slice A n c, .int .i64 to]] w (RetI .u8 (headL fc ad ++ wordsL [qt, to, (xs.length : Int)] ++ [2 * (xs.length : Int)] ++ wordsL xs) w) := by
  have hl := Lib.hid hx.len
  go_enter Try.func109, Try.ntmps109
  go_wp2_with fail
  have X0 := Box2.new w #[.int .i64 3, .int .i64 q, .int .i64 v, .bool false] 162 #[.int .i64 fc, .int .i64 ad, .int .i64 qt, .slice A n c, .int .i64 to] 30
  have o0 := own_new (base := w.heap.size + 2) (w := (w.alloc (.cells #[.int .i64 3, .int .i64 q, .int .i64 v, .bool false] 162)).alloc (.cells #[.int .i64 fc, .int .i64 ad, .int .i64 qt, .slice A n c, .int .i64 to] 30)) (g := w.heap.size + 1 + 1) 5 .u8 (fc % 256) (by simp) (by omega)
  refine (wordsNew_any _ 1 _ 1 _ [fc % 256] [ad] _ _ o0 (by simp) (by simp) rfl rfl (by simp; omega) (by omega)).mono ?_
  rintro e w1 ⟨v1, rfl, own1, mod1, at1⟩
  have X1 := ((X0.alloc _).alloc _).own mod1 (o0.alloc _) (by omega)
  have E1 : Ext w w1 := (((((Ext.refl w).goA _).goA _).goA _).goA _).goM mod1 (fun i hi => by have := (o0.lt i hi).1; omega)
  clear X0 o0 mod1 at1
  have s1 := X1.c0
  have q1 := X1.c1
  have l1 := own1.lt
  have z1 := X1.lt
  go_wp2_with fail
  refine (wordsNew_any _ _ _ 3 _ _ [qt, to, (n : Int)] _ _ own1 (by omega) rfl rfl rfl (by simp; omega) (by omega)).mono ?_
  rintro e w2 ⟨v2, rfl, own2, mod2, at2⟩
  have E2 : Ext w w2 := (E1.goA _).goM mod2 (fun i hi => by have := (l1 i hi).1; omega)
  have X2 := (X1.alloc _).own mod2 (own1.alloc _) (by omega)
  clear own1 mod2 at2 s1 q1 l1
  have s2 := X2.c0
  have q2 := X2.c1
  have l2 := own2.lt
  have z2 := X2.lt
  have own2' : w2.drew.ownsRow (w.heap.size + 2) 5 1 v2 _ _ := own2
  have D0 : Box2 w2.drew w.heap.size #[Value.int IntKind.i64 3, Value.int IntKind.i64 q, Value.int IntKind.i64 v, Value.bool false] 162 #[Value.int IntKind.i64 fc, Value.int IntKind.i64 ad, Value.int IntKind.i64 qt, Value.slice A n c, Value.int IntKind.i64 to] 30 := X2
  have hq : ∀ w', Box2 w' w.heap.size #[Value.int IntKind.i64 3, Value.int IntKind.i64 q, Value.int IntKind.i64 v, Value.bool false] 162 #[Value.int IntKind.i64 fc, Value.int IntKind.i64 ad, Value.int IntKind.i64 qt, Value.slice A n c, Value.int IntKind.i64 to] 30 → w'.cell? ⟨w.heap.size + 1, 3, none⟩ = some (.slice A n c) := fun w' h => h.c1 3
  have ew : IntKind.u8.wrap (IntKind.i64.wrap (2 * (n : Int))) = 2 * n := by rw [IntKind.wrap_i64, IntKind.wrap_u8]; omega
  have el : 2 * (n : Int) % 256 = 2 * (n : Int) := by omega
  go_wp2_with fail
  go_region_held3 (fun w' => Box2 w' w.heap.size #[Value.int IntKind.i64 3, Value.int IntKind.i64 q, Value.int IntKind.i64 v, Value.bool false] 162 #[Value.int IntKind.i64 fc, Value.int IntKind.i64 ad, Value.int IntKind.i64 qt, Value.slice A n c, Value.int IntKind.i64 to] 30) (first | assumption | exact Box2.alloc (by assumption) _)
    (first
      | (refine step_appI rfl (.tmp 73) (.tmp 79) _ rfl Try.underlying34 info_u8 (own2'.alloc _) rfl (RdI.one _ _ _ _) rfl (by omega) (by omega) (by simp; omega) ?_
         intro v4 w4 own4 hg4 hat4
         have M4 : Ext w w4 := ((E2.goA _).goD 1).goG hg4 (fun k hk => by have := (l2 k hk).1; omega)
         have X4 := X2.keep (w' := w4) (fun b hb => (hg4.block b (by simp; omega) (fun h => by have := (l2 b h.symm).1; omega)).trans (Below.heap_alloc _ _ b (by omega))))
      | (go_at_call 123
         refine (words16_any v4 _ _ _ n c _ xs A _ own4 (by have := X4.lt; omega) (hx.ext M4) (fun h b o e => own_far own4 (by have := hx.lt_of h e; omega)) (by omega)).mono ?_
         rintro e w5 ⟨v5, rfl, own5, mod5, at5⟩
         have X5 := X4.own mod5 own4 (by omega)))
  go_wp2_with fail
  go_ret
  obtain ⟨A', c', rfl, ⟨hc1, hc2⟩, r⟩ := own_rd own5
  rw [hl.out]
  exact ⟨A', _, c', rfl, hc1, hc2, r, M4.goM mod5 (fun i hi => by have := (own4.lt i hi).1; omega)⟩
end Go.Proofs.Ytgagpalffdgjnaa
namespace Go.Proofs.Ytgagpalffdgjnaa
open Go.RowKit

theorem shape_cases {fc : Int} {s : Shape} (h : shapeOf fc = some s) : ((fc = 1 ∨ fc = 2) ∧ s = ⟨0, 2000, 0, true⟩) ∨ ((fc = 3 ∨ fc = 4) ∧ s = ⟨0, 125, 0, false⟩) ∨ (fc = 5 ∧ s = ⟨1, 0, 1, true⟩) ∨ (fc = 6 ∧ s = ⟨1, 0, 1, false⟩) ∨ (fc = 15 ∧ s = ⟨2, 1968, 0, true⟩)
    ∨ (fc = 16 ∧ s = ⟨2, 123, 0, false⟩) ∨ (fc = 22 ∧ s = ⟨1, 0, 2, false⟩) ∨ (fc = 23 ∧ s = ⟨3, 125, 121, false⟩) := by
  unfold shapeOf at h
  split at h
  · injection h with h; subst h; exact .inl ⟨.inl ‹_›, rfl⟩
  split at h
  · injection h with h; subst h; exact .inl ⟨.inr ‹_›, rfl⟩
  split at h
  · injection h with h; subst h; exact .inr (.inl ⟨.inl ‹_›, rfl⟩)
  split at h
  · injection h with h; subst h; exact .inr (.inl ⟨.inr ‹_›, rfl⟩)
  split at h
  · injection h with h; subst h; exact .inr (.inr (.inl ⟨‹_›, rfl⟩))
  split at h
  · injection h with h; subst h; exact .inr (.inr (.inr (.inl ⟨‹_›, rfl⟩)))
  split at h
  · injection h with h; subst h; exact .inr (.inr (.inr (.inr (.inl ⟨‹_›, rfl⟩))))
  split at h
  · injection h with h; subst h; exact .inr (.inr (.inr (.inr (.inr (.inl ⟨‹_›, rfl⟩)))))
  split at h
  · injection h with h; subst h; exact .inr (.inr (.inr (.inr (.inr (.inr (.inl ⟨‹_›, rfl⟩))))))
  split at h
  · injection h with h; subst h; exact .inr (.inr (.inr (.inr (.inr (.inr (.inr ⟨‹_›, rfl⟩))))))
  · cases h

/-- What a request that has what it should have has. -/
theorem holds_parts {s : Shape} {ad qt to : Int} {xs : List Int} (h : holdsB s ad qt to xs = true) : (0 ≤ ad ∧ ad ≤ 65535) ∧ (0 ≤ to ∧ to ≤ 65535) ∧ (0 ≤ qt ∧ qt ≤ s.qty) ∧ (qt = 0 ↔ s.form = 1) ∧ (s.form ≠ 3 → to = 0)
    ∧ (s.form = 0 → xs = []) ∧ (s.form = 1 → (xs.length : Int) = s.vals ∧ valuesB s.bits xs = true) ∧ (s.form = 2 → (xs.length : Int) = qt ∧ valuesB s.bits xs = true)
    ∧ (s.form ≠ 0 → s.form ≠ 1 → s.form ≠ 2 → 1 ≤ (xs.length : Int) ∧ (xs.length : Int) ≤ s.vals) := by
  unfold holdsB at h
  split at h
  · cases h
  split at h
  · cases h
  rename_i h1 h2
  have h3 : ¬ ((qt == 0) != (s.form == 1)) = true := fun e => h2 (.inl e)
  have h4 : (qt = 0 ↔ s.form = 1) := by
    by_cases a : qt = 0 <;> by_cases b : s.form = 1 <;> simp_all
  have h5 : s.form ≠ 3 → to = 0 := fun e => Classical.byContradiction fun f => h2 (.inr ⟨e, f⟩)
  refine ⟨by omega, by omega, by omega, h4, h5, ?_, ?_, ?_, ?_⟩
  · intro e; rw [if_pos e] at h; simpa using h
  · intro e; rw [if_neg (by omega), if_pos e] at h; simpa using h
  · intro e; rw [if_neg (by omega), if_neg (by omega), if_pos e] at h; simpa using h
  · intro e0 e1 e2; rw [if_neg e0, if_neg e1, if_neg e2] at h; simpa using h

theorem coded_any (s : Shape) (k fc ad qt to : Int) (hs : shapeOf k = some s) (A : Option Addr) (n c : Nat) (xs : List Int) (w : World) (hx : RdI w w.heap.size .u16 A n xs) (hr : ∀ j : Nat, 0 ≤ xs[j]?.getD 0 ∧ xs[j]?.getD 0 ≤ 65535) (h : holdsB s ad qt to xs = true) :
    Calls Try.prog 109 #[s.val, .agg #[.int .i64 fc, .int .i64 ad, .int .i64 qt, .slice A n c, .int .i64 to]] w (RetI .u8 (codedL s fc ad qt to xs) w) := by
  obtain ⟨⟨a0, a1⟩, ⟨t0, t1⟩, ⟨q0, q1⟩, hq, ht, f0, f1, f2, f3⟩ := holds_parts h
  have hl := hx.len
  rcases shape_cases hs with ⟨_, rfl⟩ | ⟨_, rfl⟩ | ⟨_, rfl⟩ | ⟨_, rfl⟩ | ⟨_, rfl⟩ | ⟨_, rfl⟩ | ⟨_, rfl⟩ | ⟨_, rfl⟩
  · exact coded_reads _ _ fc ad qt to A n c xs w hx a0 a1 q0 (by simp at q1; omega) _
  · exact coded_reads _ _ fc ad qt to A n c xs w hx a0 a1 q0 (by simp at q1; omega) _
  · have hv := f1 rfl
    have h0 := hr 0
    refine coded_bit _ _ fc ad qt to A n c xs w hx a0 a1 q0 (by simp at q1; omega) (by have := hv.1; simp at this; omega) ?_
    have h1 := hv.2
    simp [valuesB] at h1
    obtain ⟨x, l, rfl⟩ : ∃ x l, xs = x :: l := by
      cases xs with
      | nil => have := hv.1; simp at this
      | cons x l => exact ⟨x, l, rfl⟩
    simp at h0 h1 ⊢
    omega
  · exact coded_regs _ _ fc ad qt to A n c xs w hx a0 a1 q0 (by simp at q1; omega) (by have := (f1 rfl).1; simp at this; omega)
  · exact coded_bits _ _ fc ad qt to A n c xs w hx a0 a1 q0 (by simp at q1; omega) (by have := (f2 rfl).1; simp at q1; omega)
  · exact coded_wregs _ _ fc ad qt to A n c xs w hx a0 a1 q0 (by simp at q1; omega) (by have := (f2 rfl).1; simp at q1; omega)
  · exact coded_regs _ _ fc ad qt to A n c xs w hx a0 a1 q0 (by simp at q1; omega) (by have := (f1 rfl).1; simp at this; omega)
  · exact coded_swaps _ _ fc ad qt to A n c xs w hx a0 a1 q0 (by simp at q1; omega) t0 t1 (by have := (f3 (by simp) (by simp) (by simp)).2; simp at this; omega)
end Go.Proofs.Ytgagpalffdgjnaa
