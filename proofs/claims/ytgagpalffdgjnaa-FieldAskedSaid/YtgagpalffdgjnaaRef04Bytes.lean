/- The reference of layer 4: word, Words, Bits, bytes. (Printed by wip/gen/bytes04.py.) -/
import Derived.Test.YtgagpalffdgjnaaG02
import Derived.Test.YtgagpalffdgjnaaG61
import Derived.Test.YtgagpalffdgjnaaRef04Reads
namespace Go.Proofs.Ytgagpalffdgjnaa
open Go.RowKit

set_option maxRecDepth 100000 in
set_option maxHeartbeats 1000000 in
theorem refWord_any (v : Value) (n base : Nat) (bs : List Int) (x : Int) (w : World) (hown : w.ownsRow base 5 1 v n (bs.map (Value.int .u8))) (hbase : base ≤ w.heap.size) (h0 : 0 ≤ x) (h1 : x ≤ 65535) (hn : n ≤ 1048576) :
    Calls Try.prog 85 #[v, .int .i64 x] w (WordsPost w base v (n + 2) (bs ++ hiLo x)) := by
  go_enter Try.func85, Try.ntmps85
  go_wp2_with (at_builtin; refine wpList_appI rfl (.tmp 5) (.tmp 11) _ rfl Try.underlying34 info_u8 (hown.alloc _) rfl (RdI.pair _ _ _ _ _) rfl (by omega) (by omega) (by simp; omega) ?_; intro v' w1 hown1 hg1 hat1)
  go_ret
  refine ⟨_, rfl, by rw [hiLo_small x h0 h1]; exact hown1, (Mod.refl _ _ |>.alloc _).grown hg1 (fun k hk => .inl hk), ?_⟩
  rcases hat1 with h | h
  · exact .inl h
  · exact .inr ⟨_, h, by simp⟩

/-- As RetI, and what is handed back lies in new memory. -/
def RetN (k : IntKind) (xs : List Int) (w : World) (e : Ending) (w' : World) : Prop :=
  ∃ A n c, e = .returned (.slice A n c) ∧ n ≤ c ∧ c ≤ maxLen ∧ RdI w' w'.heap.size k A n xs ∧ Ext w w' ∧ ∀ b o, A = some ⟨b, o, none⟩ → w.heap.size ≤ b
theorem RdI.grown {w w' : World} {k : IntKind} {A : Option Addr} {n : Nat} {xs : List Int} {row : Option Nat} (h : RdI w w.heap.size k A n xs) (hg : w.grownBy w' row) (hne : ∀ b o, A = some ⟨b, o, none⟩ → row ≠ some b) : RdI w' w'.heap.size k A n xs :=
  ⟨h.1, fun hn => by
    obtain ⟨b, o, e, hb, hc⟩ := h.2 hn
    exact ⟨b, o, e, Nat.lt_of_lt_of_le hb hg.size, fun j hj => (World.cell?_of_block (a := ⟨b, o + j, none⟩) (hg.block b hb (fun e' => hne b o e e'.symm))).trans (hc j hj)⟩⟩
theorem own_rdN {w : World} {base n : Nat} {e : TypeId} {k : IntKind} {v : Value} {xs : List Int} (h : w.ownsRow base e 1 v n (xs.map (Value.int k))) :
    ∃ A c, v = .slice A n c ∧ (n ≤ c ∧ c ≤ maxLen) ∧ RdI w w.heap.size k A n xs ∧ ∀ b o, A = some ⟨b, o, none⟩ → base ≤ b := by
  obtain ⟨A, c, rfl, h1, h2⟩ := own_rd h
  exact ⟨A, c, rfl, h1, h2, fun b o e => by subst e; exact (h.lt b rfl).1⟩
set_option maxRecDepth 100000 in
set_option maxHeartbeats 1000000 in
theorem refWords_any (A : Option Addr) (m c B : Nat) (ys : List Int) (w : World) (hy : RdI w B .u16 A m ys) (hB : B ≤ w.heap.size) (hyr : ∀ j : Nat, 0 ≤ ys[j]?.getD 0 ∧ ys[j]?.getD 0 ≤ 65535) (hm : m ≤ 3000) :
    Calls Try.prog 70 #[.slice A m c] w (RetN .u8 (wordsL ys) w) := by
  have hl := Lib.hid hy.len
  have hy' := Lib.hid hy
  have hyr' := Lib.hid hyr
  clear hy hyr
  go_enter Try.func70, Try.ntmps70
  go_wp2
  go_loopw [3, 4] (fun u i wr => ∃ k : Nat, k ≤ m ∧ i = .int .i64 k ∧ wr.ownsRow w.heap.size 5 1 u (2 * k) ((wordsL (ys.take k)).map (Value.int .u8)) ∧ Ext w wr) (fun _ i _ => m - (intOf i).toNat)
  case atStart => exact ⟨0, by omega, rfl, by simpa [wordsL] using World.ownsRow_nil w w.heap.size 5 1, Ext.refl _⟩
  case round =>
    obtain ⟨k, hk, rfl, hown, hw⟩ := hrel
    by_cases hlt : k < m
    · obtain ⟨b, o, rfl, hb, hc0⟩ := hy'.out.at_ hlt
      have hc := (hw.cell (o + k) (Nat.lt_of_lt_of_le hb hB)).trans hc0
      have hc0' := Lib.hid hc0
      have hr0 := hyr'.out k
      clear hc0
      go_wp2_with fail
      refine (refWord_any _ (2 * k) _ _ _ _ hown hw.size ?_ ?_ (by omega)).mono ?_
      · omega
      · omega
      rintro e w1 ⟨v1, rfl, own1, mod1, at1⟩
      go_wp2_with fail
      go_roundw
      case rel =>
        refine ⟨k + 1, by omega, by go_num, ?_, hw.goM mod1 (fun i hi => (hown.lt i hi).1)⟩
        rw [wordsL_take ys k (by rw [hl.out]; exact hlt), List.getD_eq_getElem?_getD, show 2 * (k + 1) = 2 * k + 2 by omega]
        simpa using own1
      case measure => simp [intOf]; omega
    · obtain rfl : k = m := by omega
      go_wp2
      go_ret
      obtain ⟨A', c', rfl, ⟨hc1, hc2⟩, r', hf⟩ := own_rdN hown
      rw [List.take_of_length_le (by rw [hl.out]; exact Nat.le_refl _)] at r'
      exact ⟨A', _, c', rfl, hc1, hc2, r', hw, hf⟩

set_option maxRecDepth 100000 in
set_option maxHeartbeats 1000000 in
theorem refBits_any (A : Option Addr) (n c B : Nat) (xs : List Int) (w : World) (hx : RdI w B .u16 A n xs) (hB : B ≤ w.heap.size) (hn : n ≤ 1048576) :
    Calls Try.prog 71 #[.slice A n c] w fun e w' => e = .returned (.slice (some ⟨w.heap.size, 0, none⟩) ((n + 7) / 8) ((n + 7) / 8)) ∧ Blk w' w.heap.size 5 .u8 (bitsL xs) ∧ Ext w w' := by
  have hl := hx.len
  have hmk := fun w => run_mkI Try.underlying34 info_u8 (((n : Int) + 7) / 8) ((n + 7) / 8) (by omega) (by omega) (by omega) w
  have hl' := Lib.hid hl
  clear hl
  go_enter Try.func71, Try.ntmps71
  go_wp2
  go_loopw [4] (fun i wr => ∃ k : Nat, k ≤ n ∧ i = .int .i64 k ∧ Blk wr w.heap.size 5 .u8 (bitsTo xs k) ∧ Ext w wr) (fun i _ => n - (intOf i).toNat)
  case atStart => exact ⟨0, by omega, rfl, by rw [bitsTo_zero, hl'.out]; exact Blk.new _ _ _ _, (Ext.refl _).goA _⟩
  case round =>
    obtain ⟨k, hk, rfl, hb, hw⟩ := hrel
    by_cases hlt : k < n
    · obtain ⟨b, o, rfl, hbb, hc0⟩ := hx.at_ hlt
      have hc := (hw.cell (o + k) (Nat.lt_of_lt_of_le hbb hB)).trans hc0
      have hc0' := Lib.hid hc0
      clear hc0
      have hkl : k < xs.length := by rw [hl'.out]; exact hlt
      have c1 := hb.cell (k / 8) (by rw [bitsTo_length]; omega)
      have c2 := hb.frozen (k / 8)
      have hset := Lib.hid (bitsTo_set xs k hkl)
      have hsame := Lib.hid (bitsTo_same xs k hkl)
      have hold := bitN_range (bitAt xs (k / 8)) (k % 8)
      have hg := bitsTo_getD xs k (k / 8) (by omega)
      rw [show min 8 (k - 8 * (k / 8)) = k % 8 by omega] at hg
      rw [← hg] at hold
      clear hg
      have hb' := hb
      obtain ⟨d, hd⟩ : ∃ d, d = (bitsTo xs k).getD (k / 8) 0 := ⟨_, rfl⟩
      rw [← hd] at c1 hold
      have hset2 := hb.set_ (k / 8) (d + 2 ^ (k % 8))
      have hd' := Lib.hid hd
      clear hd hkl
      cases hz : (xs[k]?.getD 0 != 0)
      · have hz' := Lib.hid hz
        go_wp2
        go_roundw
        case rel => exact ⟨k + 1, by omega, by go_num, by rw [← hsame.out (by rw [List.getD_eq_getElem?_getD]; simpa using hz'.out)]; exact hb', hw⟩
        case measure => simp [intOf]; omega
      · have hz' := Lib.hid hz
        go_wp2
        go_region
        go_wp2
        go_roundw
        case rel =>
          refine ⟨k + 1, by omega, by go_num, ?_, (hw.goS (Nat.le_refl _) _).god⟩
          rw [bit_or' d (k % 8) hold.1 hold.2 (by omega)]
          have hs := hset.out (by have := hz'.out; rw [List.getD_eq_getElem?_getD]; simpa using this)
          rw [← hd'.out] at hs
          rw [← hs]; exact hset2
        case measure => simp [intOf]; omega
    · obtain rfl : k = n := by omega
      go_wp2
      go_ret
      refine ⟨rfl, ?_, hw⟩
      unfold bitsL
      rw [hl'.out]; exact hb

set_option maxRecDepth 100000 in
set_option maxHeartbeats 3200000 in
theorem refBytes_reads (fc ad qt to : Int) (A : Option Addr) (n c : Nat) (xs : List Int) (w : World) (hx : RdI w w.heap.size .u16 A n xs) (hr : ∀ j : Nat, 0 ≤ xs[j]?.getD 0 ∧ xs[j]?.getD 0 ≤ 65535) (h0 : 0 ≤ ad) (h1 : ad ≤ 65535) (h2 : 0 ≤ qt) (h3 : qt ≤ 65535) (hf : fc = 1 ∨ fc = 2 ∨ fc = 3 ∨ fc = 4) :
    Calls Try.prog 51 #[.agg #[.int .i64 fc, .int .i64 ad, .int .i64 qt, .slice A n c, .int .i64 to]] w (RetI .u8 (headL fc ad ++ wordsL [qt]) w) := by
  have e5 : (fc == 5) = false := by simp; omega
  have e6 : (fc == 6) = false := by simp; omega
  have e22 : (fc == 22) = false := by simp; omega
  have e15 : (fc == 15) = false := by simp; omega
  have e16 : (fc == 16) = false := by simp; omega
  have e23 : (fc == 23) = false := by simp; omega
  clear hf
  have W0 := heap_alloc_new w (.cells #[.int .i64 fc, .int .i64 ad, .int .i64 qt, .slice A n c, .int .i64 to] 30)
  have hl := Lib.hid hx.len
  have hr' := Lib.hid hr
  have hx' := Lib.hid hx
  clear hr hx
  go_enter Try.func51, Try.ntmps51
  go_wp2_with fail
  have o0 := own_new (base := w.heap.size + 1) (w := w.alloc (.cells #[.int .i64 fc, .int .i64 ad, .int .i64 qt, .slice A n c, .int .i64 to] 30)) (g := w.heap.size + 1) 5 .u8 (fc % 256) (by simp) (by omega)
  refine (refWord_any _ 1 _ [fc % 256] ad _ o0 (by simp) h0 h1 (by omega)).mono ?_
  rintro e w1 ⟨v1, rfl, own1, mod1, at1⟩
  have D1 : Ext (w.alloc (.cells #[.int .i64 fc, .int .i64 ad, .int .i64 qt, .slice A n c, .int .i64 to] 30)) w1 := ((Ext.refl _).goA _).goM mod1 (fun i hi => by have := (o0.lt i hi).1; simp; omega)
  have E0 : Ext w (w.alloc (.cells #[.int .i64 fc, .int .i64 ad, .int .i64 qt, .slice A n c, .int .i64 to] 30)) := (Ext.refl w).goA _
  clear o0 mod1 at1
  have q1 := cellsAt ((D1.block w.heap.size (by simp)).trans W0)
  have l1 := own1.lt
  have z1 := D1.size
  rw [alloc_size] at z1
  go_wp2_with fail
  refine (refWord_any _ _ _ _ qt _ own1 (by omega) (by omega) (by omega) (by omega)).mono ?_
  rintro e w2 ⟨v2, rfl, own2, mod2, at2⟩
  have D2 := D1.goM mod2 (fun i hi => by have := (l1 i hi).1; simp; omega)
  have q2 := cellsAt ((D2.block w.heap.size (by simp)).trans W0)
  have l2 := own2.lt
  have z2 := D2.size
  rw [alloc_size] at z2
  clear own1 mod2 at2 q1 l1
  go_wp2_with fail
  go_ret
  obtain ⟨A', c', rfl, ⟨hc1, hc2⟩, r⟩ := own_rd own2
  exact ⟨A', _, c', rfl, hc1, hc2, by simpa [headL, wordsL] using r, E0.go D2⟩

set_option maxRecDepth 100000 in
set_option maxHeartbeats 3200000 in
theorem refBytes_coil (ad qt to : Int) (A : Option Addr) (n c : Nat) (xs : List Int) (w : World) (hx : RdI w w.heap.size .u16 A n xs) (hr : ∀ j : Nat, 0 ≤ xs[j]?.getD 0 ∧ xs[j]?.getD 0 ≤ 65535) (h0 : 0 ≤ ad) (h1 : ad ≤ 65535) (hn : 1 ≤ n) (hv : xs.getD 0 0 ≤ 1) :
    Calls Try.prog 51 #[.agg #[.int .i64 5, .int .i64 ad, .int .i64 qt, .slice A n c, .int .i64 to]] w (RetI .u8 (headL 5 ad ++ wordsL [65280 * xs.getD 0 0]) w) := by
  obtain ⟨bb, oo, rfl, hbb, hc0⟩ := hx.at_ (j := 0) (by omega)
  have hd0 := hr 0
  rw [← List.getD_eq_getElem?_getD] at hd0
  obtain ⟨d, hd⟩ : ∃ d, d = xs.getD 0 0 := ⟨_, rfl⟩
  rw [← hd] at hv hc0 hd0 ⊢
  clear hd
  have W0 := heap_alloc_new w (.cells #[.int .i64 5, .int .i64 ad, .int .i64 qt, .slice (some ⟨bb, oo, none⟩) n c, .int .i64 to] 30)
  have hl := Lib.hid hx.len
  have hr' := Lib.hid hr
  have hx' := Lib.hid hx
  clear hr hx
  go_enter Try.func51, Try.ntmps51
  go_wp2_with fail
  have o0 := own_new (base := w.heap.size + 1) (w := w.alloc (.cells #[.int .i64 5, .int .i64 ad, .int .i64 qt, .slice (some ⟨bb, oo, none⟩) n c, .int .i64 to] 30)) (g := w.heap.size + 1) 5 .u8 (5 % 256) (by simp) (by omega)
  refine (refWord_any _ 1 _ [5 % 256] ad _ o0 (by simp) h0 h1 (by omega)).mono ?_
  rintro e w1 ⟨v1, rfl, own1, mod1, at1⟩
  have D1 : Ext (w.alloc (.cells #[.int .i64 5, .int .i64 ad, .int .i64 qt, .slice (some ⟨bb, oo, none⟩) n c, .int .i64 to] 30)) w1 := ((Ext.refl _).goA _).goM mod1 (fun i hi => by have := (o0.lt i hi).1; simp; omega)
  have E0 : Ext w (w.alloc (.cells #[.int .i64 5, .int .i64 ad, .int .i64 qt, .slice (some ⟨bb, oo, none⟩) n c, .int .i64 to] 30)) := (Ext.refl w).goA _
  clear o0 mod1 at1
  have q1 := cellsAt ((D1.block w.heap.size (by simp)).trans W0)
  have l1 := own1.lt
  have z1 := D1.size
  rw [alloc_size] at z1
  have cx := ((E0.go D1).cell (oo + 0) hbb).trans hc0
  rw [Nat.add_zero] at cx
  clear hc0
  go_wp2_with fail
  refine (refWord_any _ _ _ _ (65280 * d) _ own1 (by omega) (by omega) (by omega) (by omega)).mono ?_
  rintro e w2 ⟨v2, rfl, own2, mod2, at2⟩
  have D2 := D1.goM mod2 (fun i hi => by have := (l1 i hi).1; simp; omega)
  go_wp2_with fail
  go_ret
  obtain ⟨A', c', rfl, ⟨hc1, hc2⟩, r⟩ := own_rd own2
  exact ⟨A', _, c', rfl, hc1, hc2, by simpa [headL, wordsL] using r, E0.go D2⟩

set_option maxRecDepth 100000 in
set_option maxHeartbeats 3200000 in
theorem refBytes_regs (fc ad qt to : Int) (A : Option Addr) (n c : Nat) (xs : List Int) (w : World) (hx : RdI w w.heap.size .u16 A n xs) (hr : ∀ j : Nat, 0 ≤ xs[j]?.getD 0 ∧ xs[j]?.getD 0 ≤ 65535) (h0 : 0 ≤ ad) (h1 : ad ≤ 65535) (hf : fc = 6 ∨ fc = 22) (hn : n ≤ 2) :
    Calls Try.prog 51 #[.agg #[.int .i64 fc, .int .i64 ad, .int .i64 qt, .slice A n c, .int .i64 to]] w (RetI .u8 (headL fc ad ++ wordsL xs) w) := by
  have e5 : (fc == 5) = false := by simp; omega
  rcases hf with rfl | rfl
  · have W0 := heap_alloc_new w (.cells #[.int .i64 6, .int .i64 ad, .int .i64 qt, .slice A n c, .int .i64 to] 30)
    have hl := Lib.hid hx.len
    have hr' := Lib.hid hr
    have hx' := Lib.hid hx
    clear hr hx
    go_enter Try.func51, Try.ntmps51
    go_wp2_with fail
    have o0 := own_new (base := w.heap.size + 1) (w := w.alloc (.cells #[.int .i64 6, .int .i64 ad, .int .i64 qt, .slice A n c, .int .i64 to] 30)) (g := w.heap.size + 1) 5 .u8 (6 % 256) (by simp) (by omega)
    refine (refWord_any _ 1 _ [6 % 256] ad _ o0 (by simp) h0 h1 (by omega)).mono ?_
    rintro e w1 ⟨v1, rfl, own1, mod1, at1⟩
    have D1 : Ext (w.alloc (.cells #[.int .i64 6, .int .i64 ad, .int .i64 qt, .slice A n c, .int .i64 to] 30)) w1 := ((Ext.refl _).goA _).goM mod1 (fun i hi => by have := (o0.lt i hi).1; simp; omega)
    have E0 : Ext w (w.alloc (.cells #[.int .i64 6, .int .i64 ad, .int .i64 qt, .slice A n c, .int .i64 to] 30)) := (Ext.refl w).goA _
    clear o0 mod1 at1
    have q1 := cellsAt ((D1.block w.heap.size (by simp)).trans W0)
    have l1 := own1.lt
    have z1 := D1.size
    rw [alloc_size] at z1
    go_wp2_with fail
    refine (refWords_any A n c _ xs _ (hx'.out.ext (E0.go D1)) (Nat.le_refl _) hr'.out (by omega)).mono ?_
    rintro e w2 ⟨A2, n2, c2, rfl, g2, g2', r2, E2, -⟩
    have l2 := r2.len
    rw [wordsL_length, hl.out] at l2
    have own2 := own_ext own1 E2
    have D2 := D1.go E2
    have z2 := D2.size
    rw [alloc_size] at z2
    go_wp2_with (at_builtin; refine wpList_appI rfl (.tmp 27) (.tmp 30) _ rfl Try.underlying34 info_u8 own2 rfl r2 rfl (by omega) (by omega) (by first | omega | (simp; omega)) ?_)
    intro v3 w3 own3 hg3 hat3
    have D3 := D2.goG hg3 (fun k hk => by have := (own2.lt k hk).1; simp; omega)
    replace own3 : w3.ownsRow (w.heap.size + 1) 5 1 v3 (1 + 2 + n2) ((headL 6 ad ++ wordsL xs).map (Value.int .u8)) := by simpa [headL, wordsL] using own3
    clear l2
    go_wp2_with fail
    go_ret
    obtain ⟨A', c', rfl, ⟨hc1, hc2⟩, r⟩ := own_rd own3
    exact ⟨A', _, c', rfl, hc1, hc2, r, E0.go D3⟩
  · have W0 := heap_alloc_new w (.cells #[.int .i64 22, .int .i64 ad, .int .i64 qt, .slice A n c, .int .i64 to] 30)
    have hl := Lib.hid hx.len
    have hr' := Lib.hid hr
    have hx' := Lib.hid hx
    clear hr hx
    go_enter Try.func51, Try.ntmps51
    go_wp2_with fail
    have o0 := own_new (base := w.heap.size + 1) (w := w.alloc (.cells #[.int .i64 22, .int .i64 ad, .int .i64 qt, .slice A n c, .int .i64 to] 30)) (g := w.heap.size + 1) 5 .u8 (22 % 256) (by simp) (by omega)
    refine (refWord_any _ 1 _ [22 % 256] ad _ o0 (by simp) h0 h1 (by omega)).mono ?_
    rintro e w1 ⟨v1, rfl, own1, mod1, at1⟩
    have D1 : Ext (w.alloc (.cells #[.int .i64 22, .int .i64 ad, .int .i64 qt, .slice A n c, .int .i64 to] 30)) w1 := ((Ext.refl _).goA _).goM mod1 (fun i hi => by have := (o0.lt i hi).1; simp; omega)
    have E0 : Ext w (w.alloc (.cells #[.int .i64 22, .int .i64 ad, .int .i64 qt, .slice A n c, .int .i64 to] 30)) := (Ext.refl w).goA _
    clear o0 mod1 at1
    have q1 := cellsAt ((D1.block w.heap.size (by simp)).trans W0)
    have l1 := own1.lt
    have z1 := D1.size
    rw [alloc_size] at z1
    go_wp2_with fail
    refine (refWords_any A n c _ xs _ (hx'.out.ext (E0.go D1)) (Nat.le_refl _) hr'.out (by omega)).mono ?_
    rintro e w2 ⟨A2, n2, c2, rfl, g2, g2', r2, E2, -⟩
    have l2 := r2.len
    rw [wordsL_length, hl.out] at l2
    have own2 := own_ext own1 E2
    have D2 := D1.go E2
    have z2 := D2.size
    rw [alloc_size] at z2
    go_wp2_with (at_builtin; refine wpList_appI rfl (.tmp 27) (.tmp 30) _ rfl Try.underlying34 info_u8 own2 rfl r2 rfl (by omega) (by omega) (by first | omega | (simp; omega)) ?_)
    intro v3 w3 own3 hg3 hat3
    have D3 := D2.goG hg3 (fun k hk => by have := (own2.lt k hk).1; simp; omega)
    replace own3 : w3.ownsRow (w.heap.size + 1) 5 1 v3 (1 + 2 + n2) ((headL 22 ad ++ wordsL xs).map (Value.int .u8)) := by simpa [headL, wordsL] using own3
    clear l2
    go_wp2_with fail
    go_ret
    obtain ⟨A', c', rfl, ⟨hc1, hc2⟩, r⟩ := own_rd own3
    exact ⟨A', _, c', rfl, hc1, hc2, r, E0.go D3⟩

set_option maxRecDepth 100000 in
set_option maxHeartbeats 3200000 in
theorem refBytes_coils (ad qt to : Int) (A : Option Addr) (n c : Nat) (xs : List Int) (w : World) (hx : RdI w w.heap.size .u16 A n xs) (hr : ∀ j : Nat, 0 ≤ xs[j]?.getD 0 ∧ xs[j]?.getD 0 ≤ 65535) (h0 : 0 ≤ ad) (h1 : ad ≤ 65535) (h2 : 0 ≤ qt) (h3 : qt ≤ 65535) (hn : n ≤ 1968) :
    Calls Try.prog 51 #[.agg #[.int .i64 15, .int .i64 ad, .int .i64 qt, .slice A n c, .int .i64 to]] w (RetI .u8 (headL 15 ad ++ wordsL [qt] ++ [((xs.length : Int) + 7) / 8] ++ bitsL xs) w) := by
  have W0 := heap_alloc_new w (.cells #[.int .i64 15, .int .i64 ad, .int .i64 qt, .slice A n c, .int .i64 to] 30)
  have hl := Lib.hid hx.len
  have hr' := Lib.hid hr
  have hx' := Lib.hid hx
  clear hr hx
  go_enter Try.func51, Try.ntmps51
  go_wp2_with fail
  have o0 := own_new (base := w.heap.size + 1) (w := w.alloc (.cells #[.int .i64 15, .int .i64 ad, .int .i64 qt, .slice A n c, .int .i64 to] 30)) (g := w.heap.size + 1) 5 .u8 (15 % 256) (by simp) (by omega)
  refine (refWord_any _ 1 _ [15 % 256] ad _ o0 (by simp) h0 h1 (by omega)).mono ?_
  rintro e w1 ⟨v1, rfl, own1, mod1, at1⟩
  have D1 : Ext (w.alloc (.cells #[.int .i64 15, .int .i64 ad, .int .i64 qt, .slice A n c, .int .i64 to] 30)) w1 := ((Ext.refl _).goA _).goM mod1 (fun i hi => by have := (o0.lt i hi).1; simp; omega)
  have E0 : Ext w (w.alloc (.cells #[.int .i64 15, .int .i64 ad, .int .i64 qt, .slice A n c, .int .i64 to] 30)) := (Ext.refl w).goA _
  clear o0 mod1 at1
  have q1 := cellsAt ((D1.block w.heap.size (by simp)).trans W0)
  have l1 := own1.lt
  have z1 := D1.size
  rw [alloc_size] at z1
  go_wp2_with fail
  refine (refWord_any _ _ _ _ qt _ own1 (by omega) (by omega) (by omega) (by omega)).mono ?_
  rintro e w2 ⟨v2, rfl, own2, mod2, at2⟩
  have D2 := D1.goM mod2 (fun i hi => by have := (l1 i hi).1; simp; omega)
  have q2 := cellsAt ((D2.block w.heap.size (by simp)).trans W0)
  have l2 := own2.lt
  have z2 := D2.size
  rw [alloc_size] at z2
  clear own1 mod2 at2 q1 l1
  go_wp2_with fail
  refine (refBits_any A n c _ xs _ (hx'.out.ext (E0.go D2)) (Nat.le_refl _) (by omega)).mono ?_
  rintro e w3 ⟨rfl, b3, E3⟩
  have own3 := own_ext own2 E3
  have b3' := Lib.hid b3
  clear b3
  have hb3 : (bitsL xs).length = (n + 7) / 8 := by rw [← hl.out]; exact bitsTo_length _ _
  have D3 := D2.go E3
  have g3 := E3.size
  have el : ((n : Int) + 7) / 8 % 256 = ((n : Int) + 7) / 8 := by omega
  go_wp2_with (at_builtin; refine wpList_appI rfl (.tmp 43) (.tmp 47) _ rfl Try.underlying34 info_u8 (own3.alloc _) rfl (RdI.one _ _ _ _) rfl (by omega) (by omega) (by first | omega | (simp; omega)) ?_)
  intro v4 w4 own4 hg4 hat4
  have D4 := (D3.goA _).goG hg4 (fun k hk => by have := (own3.lt k hk).1; simp; omega)
  have b4 : Blk w4 w2.heap.size 5 .u8 (bitsL xs) := (hg4.block _ (b3'.out.alloc _).lt (fun h => by have := (l2 _ h.symm).2; omega)).trans (b3'.out.alloc _)
  have z4 := hg4.size
  replace z4 : w3.heap.size ≤ w4.heap.size := by simp at z4; omega
  replace own4 : w4.ownsRow (w.heap.size + 1) 5 1 v4 6 ((headL 15 ad ++ wordsL [qt] ++ [((n : Int) + 7) / 8]).map (Value.int .u8)) := by simpa [headL, wordsL] using own4
  clear hg4 hat4 own3
  have r4 := (b4.rd (B := w4.heap.size) b4.lt)
  rw [hb3] at r4
  clear b4
  go_wp2_with (at_builtin; refine wpList_appI rfl (.tmp 48) (.tmp 49) _ rfl Try.underlying34 info_u8 own4 rfl r4 rfl (by omega) (by omega) (by first | omega | (simp; omega)) ?_)
  intro v5 w5 own5 hg5 hat5
  have D5 := D4.goG hg5 (fun k hk => by have := (own4.lt k hk).1; simp; omega)
  replace own5 : w5.ownsRow (w.heap.size + 1) 5 1 v5 (6 + (n + 7) / 8) ((headL 15 ad ++ wordsL [qt] ++ [((n : Int) + 7) / 8] ++ bitsL xs).map (Value.int .u8)) := by simpa using own5
  go_wp2_with fail
  go_ret
  obtain ⟨A', c', rfl, ⟨hc1, hc2⟩, r⟩ := own_rd own5
  rw [hl.out]
  exact ⟨A', _, c', rfl, hc1, hc2, r, E0.go D5⟩

set_option maxRecDepth 100000 in
set_option maxHeartbeats 3200000 in
theorem refBytes_wregs (ad qt to : Int) (A : Option Addr) (n c : Nat) (xs : List Int) (w : World) (hx : RdI w w.heap.size .u16 A n xs) (hr : ∀ j : Nat, 0 ≤ xs[j]?.getD 0 ∧ xs[j]?.getD 0 ≤ 65535) (h0 : 0 ≤ ad) (h1 : ad ≤ 65535) (h2 : 0 ≤ qt) (h3 : qt ≤ 65535) (hn : n ≤ 123) :
    Calls Try.prog 51 #[.agg #[.int .i64 16, .int .i64 ad, .int .i64 qt, .slice A n c, .int .i64 to]] w (RetI .u8 (headL 16 ad ++ wordsL [qt] ++ [2 * (xs.length : Int)] ++ wordsL xs) w) := by
  have W0 := heap_alloc_new w (.cells #[.int .i64 16, .int .i64 ad, .int .i64 qt, .slice A n c, .int .i64 to] 30)
  have hl := Lib.hid hx.len
  have hr' := Lib.hid hr
  have hx' := Lib.hid hx
  clear hr hx
  go_enter Try.func51, Try.ntmps51
  go_wp2_with fail
  have o0 := own_new (base := w.heap.size + 1) (w := w.alloc (.cells #[.int .i64 16, .int .i64 ad, .int .i64 qt, .slice A n c, .int .i64 to] 30)) (g := w.heap.size + 1) 5 .u8 (16 % 256) (by simp) (by omega)
  refine (refWord_any _ 1 _ [16 % 256] ad _ o0 (by simp) h0 h1 (by omega)).mono ?_
  rintro e w1 ⟨v1, rfl, own1, mod1, at1⟩
  have D1 : Ext (w.alloc (.cells #[.int .i64 16, .int .i64 ad, .int .i64 qt, .slice A n c, .int .i64 to] 30)) w1 := ((Ext.refl _).goA _).goM mod1 (fun i hi => by have := (o0.lt i hi).1; simp; omega)
  have E0 : Ext w (w.alloc (.cells #[.int .i64 16, .int .i64 ad, .int .i64 qt, .slice A n c, .int .i64 to] 30)) := (Ext.refl w).goA _
  clear o0 mod1 at1
  have q1 := cellsAt ((D1.block w.heap.size (by simp)).trans W0)
  have l1 := own1.lt
  have z1 := D1.size
  rw [alloc_size] at z1
  go_wp2_with fail
  refine (refWord_any _ _ _ _ qt _ own1 (by omega) (by omega) (by omega) (by omega)).mono ?_
  rintro e w2 ⟨v2, rfl, own2, mod2, at2⟩
  have D2 := D1.goM mod2 (fun i hi => by have := (l1 i hi).1; simp; omega)
  have q2 := cellsAt ((D2.block w.heap.size (by simp)).trans W0)
  have l2 := own2.lt
  have z2 := D2.size
  rw [alloc_size] at z2
  clear own1 mod2 at2 q1 l1
  have ew : IntKind.u8.wrap (IntKind.i64.wrap (2 * (n : Int))) = 2 * n := by rw [IntKind.wrap_i64, IntKind.wrap_u8]; omega
  have ew2 : IntKind.u8.wrap (2 * (n : Int)) = 2 * n := by rw [IntKind.wrap_u8]; omega
  have el : 2 * (n : Int) % 256 = 2 * (n : Int) := by omega
  have e2 : IntKind.i64.wrap (2 * (n : Int)) = 2 * n := by rw [IntKind.wrap_i64]; omega
  go_wp2_with fail
  have d0 := D2.god
  have ownD : w2.drew.ownsRow (w.heap.size + 1) 5 1 v2 5 ((headL 16 ad ++ wordsL [qt]).map (Value.int .u8)) := by
    have h : w2.ownsRow (w.heap.size + 1) 5 1 v2 5 ((headL 16 ad ++ wordsL [qt]).map (Value.int .u8)) := by simpa [headL, wordsL] using own2
    exact h
  have bq : ∀ w', Ext (w.alloc (.cells #[.int .i64 16, .int .i64 ad, .int .i64 qt, .slice A n c, .int .i64 to] 30)) w' → ∀ o, w'.cell? ⟨w.heap.size, o, none⟩ = _ := fun w' D => cellsAt ((D.block w.heap.size (by simp)).trans W0)
  have lD := ownD.lt
  clear own2 D2 z2 q2 l2
  refine wp_region_held_drew (S := fun w' => Ext (w.alloc (.cells #[.int .i64 16, .int .i64 ad, .int .i64 qt, .slice A n c, .int .i64 to] 30)) w') (by kernel_rfl) d0 (fun hHeld => ?_)
  refine tk 0 ?_
  try simp only [Act.put, gA, gC, List.setIfInBounds_toArray, gE, gF]
  refine tk 1 ?_
  try simp only [Act.put, gA, gB, gC, List.setIfInBounds_toArray, gE, gF]
  refine tk 2 ?_
  try simp only [Act.put, gA, gB, gC, List.setIfInBounds_toArray, gE, gF]
  refine tk 3 ?_
  try simp only [Act.put, gA, gB, gC, List.setIfInBounds_toArray, gE, gF]
  refine tk 4 ?_
  try simp only [Act.put, gA, gB, gC, List.setIfInBounds_toArray, gE, gF]
  refine tk 8 ?_
  try simp only [Act.put, gA, gB, gC, List.setIfInBounds_toArray, gE, gF]
  refine tk 9 ?_
  try simp only [Act.put, gA, gB, gC, List.setIfInBounds_toArray, gE, gF]
  refine tk 5 ?_
  try simp only [Act.put, gA, gB, gC, List.setIfInBounds_toArray, gE, gF]
  refine wpAnyH_ready (rs := [6]) (by kernel_rfl) (by simp) ?_
  refine AllReadyH.cons rfl (fun K hK => ?_) ?_
  rotate_left
  · exact AllReadyH.nil
  go_simp
  refine hK.out _ _ ?_ (fun hHeld => ?_)
  · exact d0.goA _
  clear hK K
  try simp only [Act.put, gA, gB, gC, List.setIfInBounds_toArray, gE, gF]
  refine wpAnyH_ready (rs := [7]) (by kernel_rfl) (by simp) ?_
  refine AllReadyH.cons rfl (fun K hK => ?_) ?_
  rotate_left
  · exact AllReadyH.nil
  refine step_appI rfl (.tmp 53) (.tmp 59) _ rfl Try.underlying34 info_u8 (ownD.alloc _) rfl (RdI.one _ _ _ _) rfl (by omega) (by omega) (by have := d0.size; simp at this; simp; omega) ?_
  intro v4 w4 own4 hg4 hat4
  have d4 := (d0.goA _).goG hg4 (fun k hk => by have := (lD k hk).1; simp; omega)
  try dsimp only
  refine hK.out _ _ ?_ (fun hHeld => ?_)
  · first | assumption | (dsimp only; assumption)
  clear hK K
  try simp only [Act.put, gA, gB, gC, List.setIfInBounds_toArray, gE, gF]
  refine wpAnyH_ready (rs := [10]) (by kernel_rfl) (by simp) ?_
  refine AllReadyH.cons rfl (fun K hK => ?_) ?_
  rotate_left
  · exact AllReadyH.nil
  go_simp
  go_at_call 70
  refine (refWords_any A n c _ xs _ (hx'.out.ext (E0.go d4)) (Nat.le_refl _) hr'.out (by omega)).mono ?_
  rintro e w5 ⟨A5, n5, c5, rfl, g5, g5', r5, E5, f5⟩
  have own6 := own_ext own4 E5
  have d6 := d4.go E5
  have r6 := r5
  try dsimp only
  refine hK.out _ _ ?_ (fun hHeld => ?_)
  · first | assumption | (dsimp only; assumption)
  clear hK K
  try simp only [Act.put, gA, gB, gC, List.setIfInBounds_toArray, gE, gF]
  refine wpAnyH_ready (rs := [11]) (by kernel_rfl) (by simp) ?_
  refine AllReadyH.cons rfl (fun K hK => ?_) ?_
  rotate_left
  · exact AllReadyH.nil
  refine step_appI rfl (.tmp 60) (.tmp 63) _ rfl Try.underlying34 info_u8 own6 rfl r6 rfl (by have := r6.len; rw [wordsL_length, hl.out] at this; omega) (by have := r6.len; rw [wordsL_length, hl.out] at this; omega) (by have := d6.size; rw [alloc_size] at this; omega) ?_
  intro v7 w7 own7 hg7 hat7
  have d7 := d6.goG hg7 (fun k hk => by have := (own6.lt k hk).1; simp; omega)
  try dsimp only
  refine hK.out _ _ ?_ (fun hHeld => ?_)
  · first | assumption | (dsimp only; assumption)
  clear hK K
  try simp only [Act.put, gA, gB, gC, List.setIfInBounds_toArray, gE, gF]
  refine tk 12 ?_
  try simp only [Act.put, gA, gB, gC, List.setIfInBounds_toArray, gE, gF]
  refine wpAnyH_done (by kernel_rfl) ?_ _
  go_wp2_with fail
  go_ret
  obtain ⟨A', c', rfl, ⟨hc1, hc2⟩, r⟩ := own_rd own7
  rw [hl.out]
  exact ⟨A', _, c', rfl, hc1, hc2, by simpa [headL, wordsL, ew2] using r, E0.go d7⟩

set_option maxRecDepth 100000 in
set_option maxHeartbeats 3200000 in
theorem refBytes_swaps (ad qt to : Int) (A : Option Addr) (n c : Nat) (xs : List Int) (w : World) (hx : RdI w w.heap.size .u16 A n xs) (hr : ∀ j : Nat, 0 ≤ xs[j]?.getD 0 ∧ xs[j]?.getD 0 ≤ 65535) (h0 : 0 ≤ ad) (h1 : ad ≤ 65535) (h2 : 0 ≤ qt) (h3 : qt ≤ 65535) (h4 : 0 ≤ to) (h5 : to ≤ 65535) (hn : n ≤ 121) :
    Calls Try.prog 51 #[.agg #[.int .i64 23, .int .i64 ad, .int .i64 qt, .slice A n c, .int .i64 to]] w (RetI .u8 (headL 23 ad ++ wordsL [qt, to, (xs.length : Int)] ++ [2 * (xs.length : Int)] ++ wordsL xs) w) := by
  have W0 := heap_alloc_new w (.cells #[.int .i64 23, .int .i64 ad, .int .i64 qt, .slice A n c, .int .i64 to] 30)
  have hl := Lib.hid hx.len
  have hr' := Lib.hid hr
  have hx' := Lib.hid hx
  clear hr hx
  go_enter Try.func51, Try.ntmps51
  go_wp2_with fail
  have o0 := own_new (base := w.heap.size + 1) (w := w.alloc (.cells #[.int .i64 23, .int .i64 ad, .int .i64 qt, .slice A n c, .int .i64 to] 30)) (g := w.heap.size + 1) 5 .u8 (23 % 256) (by simp) (by omega)
  refine (refWord_any _ 1 _ [23 % 256] ad _ o0 (by simp) h0 h1 (by omega)).mono ?_
  rintro e w1 ⟨v1, rfl, own1, mod1, at1⟩
  have D1 : Ext (w.alloc (.cells #[.int .i64 23, .int .i64 ad, .int .i64 qt, .slice A n c, .int .i64 to] 30)) w1 := ((Ext.refl _).goA _).goM mod1 (fun i hi => by have := (o0.lt i hi).1; simp; omega)
  have E0 : Ext w (w.alloc (.cells #[.int .i64 23, .int .i64 ad, .int .i64 qt, .slice A n c, .int .i64 to] 30)) := (Ext.refl w).goA _
  clear o0 mod1 at1
  have q1 := cellsAt ((D1.block w.heap.size (by simp)).trans W0)
  have l1 := own1.lt
  have z1 := D1.size
  rw [alloc_size] at z1
  go_wp2_with fail
  refine (refWord_any _ _ _ _ qt _ own1 (by omega) (by omega) (by omega) (by omega)).mono ?_
  rintro e w2 ⟨v2, rfl, own2, mod2, at2⟩
  have D2 := D1.goM mod2 (fun i hi => by have := (l1 i hi).1; simp; omega)
  have q2 := cellsAt ((D2.block w.heap.size (by simp)).trans W0)
  have l2 := own2.lt
  have z2 := D2.size
  rw [alloc_size] at z2
  clear own1 mod2 at2 q1 l1
  have bq : ∀ w', Ext (w.alloc (.cells #[.int .i64 23, .int .i64 ad, .int .i64 qt, .slice A n c, .int .i64 to] 30)) w' → ∀ o, w'.cell? ⟨w.heap.size, o, none⟩ = _ := fun w' D => cellsAt ((D.block w.heap.size (by simp)).trans W0)
  go_wp2_with fail
  have d0 := D2.god
  have ownD : w2.drew.ownsRow (w.heap.size + 1) 5 1 v2 _ _ := own2
  clear own2 D2 z2 q2 l2
  refine wp_region_held_drew (S := fun w' => Ext (w.alloc (.cells #[.int .i64 23, .int .i64 ad, .int .i64 qt, .slice A n c, .int .i64 to] 30)) w') (by kernel_rfl) d0 (fun hHeld => ?_)
  refine tk 0 ?_
  try simp only [Act.put, gA, gC, List.setIfInBounds_toArray, gE, gF]
  refine tk 1 ?_
  try simp only [Act.put, gA, gB, gC, List.setIfInBounds_toArray, gE, gF]
  refine tk 2 ?_
  try simp only [Act.put, gA, gB, gC, List.setIfInBounds_toArray, gE, gF]
  refine tk 4 ?_
  try simp only [Act.put, gA, gB, gC, List.setIfInBounds_toArray, gE, gF]
  refine tk 5 ?_
  try simp only [Act.put, gA, gB, gC, List.setIfInBounds_toArray, gE, gF]
  refine tk 6 ?_
  try simp only [Act.put, gA, gB, gC, List.setIfInBounds_toArray, gE, gF]
  refine wpAnyH_ready (rs := [3]) (by kernel_rfl) (by simp) ?_
  refine AllReadyH.cons rfl (fun K hK => ?_) ?_
  rotate_left
  · exact AllReadyH.nil
  go_simp
  go_at_call 85
  refine (refWord_any _ _ _ _ to _ ownD (by have := d0.size; rwa [alloc_size] at this) h4 h5 (by omega)).mono ?_
  rintro e w3 ⟨v3, rfl, own3, mod3, at3⟩
  have D3 := d0.goM mod3 (fun i hi => by have := (ownD.lt i hi).1; simp; omega)
  try dsimp only
  refine hK.out _ _ ?_ (fun hHeld => ?_)
  · first | assumption | (dsimp only; assumption)
  clear hK K
  try simp only [Act.put, gA, gB, gC, List.setIfInBounds_toArray, gE, gF]
  refine wpAnyH_ready (rs := [7]) (by kernel_rfl) (by simp) ?_
  refine AllReadyH.cons rfl (fun K hK => ?_) ?_
  rotate_left
  · exact AllReadyH.nil
  go_simp
  go_at_call 85
  refine (refWord_any _ _ _ _ (n : Int) _ own3 (by have := D3.size; rwa [alloc_size] at this) (by omega) (by omega) (by omega)).mono ?_
  rintro e w4 ⟨v4, rfl, own4, mod4, at4⟩
  have D4 := D3.goM mod4 (fun i hi => by have := (own3.lt i hi).1; simp; omega)
  try dsimp only
  refine hK.out _ _ ?_ (fun hHeld => ?_)
  · first | assumption | (dsimp only; assumption)
  clear hK K
  try simp only [Act.put, gA, gB, gC, List.setIfInBounds_toArray, gE, gF]
  refine tk 8 ?_
  try simp only [Act.put, gA, gB, gC, List.setIfInBounds_toArray, gE, gF]
  refine wpAnyH_done (by kernel_rfl) ?_ _
  have q4 := bq _ D4
  have l4 := own4.lt
  have z4 := D4.size
  rw [alloc_size] at z4
  clear ownD own3 mod3 at3 mod4 at4
  have ew : IntKind.u8.wrap (IntKind.i64.wrap (2 * (n : Int))) = 2 * n := by rw [IntKind.wrap_i64, IntKind.wrap_u8]; omega
  have ew2 : IntKind.u8.wrap (2 * (n : Int)) = 2 * n := by rw [IntKind.wrap_u8]; omega
  have el : 2 * (n : Int) % 256 = 2 * (n : Int) := by omega
  have e2 : IntKind.i64.wrap (2 * (n : Int)) = 2 * n := by rw [IntKind.wrap_i64]; omega
  go_wp2_with fail
  have d0 := D4.god
  have ownD : w4.drew.ownsRow (w.heap.size + 1) 5 1 v4 9 ((headL 23 ad ++ wordsL [qt, to, (n : Int)]).map (Value.int .u8)) := by
    have h : w4.ownsRow (w.heap.size + 1) 5 1 v4 9 ((headL 23 ad ++ wordsL [qt, to, (n : Int)]).map (Value.int .u8)) := by simpa [headL, wordsL] using own4
    exact h
  have lD := ownD.lt
  clear own4 D4 z4 q4 l4
  refine wp_region_held_drew (S := fun w' => Ext (w.alloc (.cells #[.int .i64 23, .int .i64 ad, .int .i64 qt, .slice A n c, .int .i64 to] 30)) w') (by kernel_rfl) d0 (fun hHeld => ?_)
  refine tk 0 ?_
  try simp only [Act.put, gA, gC, List.setIfInBounds_toArray, gE, gF]
  refine tk 1 ?_
  try simp only [Act.put, gA, gB, gC, List.setIfInBounds_toArray, gE, gF]
  refine tk 2 ?_
  try simp only [Act.put, gA, gB, gC, List.setIfInBounds_toArray, gE, gF]
  refine tk 3 ?_
  try simp only [Act.put, gA, gB, gC, List.setIfInBounds_toArray, gE, gF]
  refine tk 4 ?_
  try simp only [Act.put, gA, gB, gC, List.setIfInBounds_toArray, gE, gF]
  refine tk 8 ?_
  try simp only [Act.put, gA, gB, gC, List.setIfInBounds_toArray, gE, gF]
  refine tk 9 ?_
  try simp only [Act.put, gA, gB, gC, List.setIfInBounds_toArray, gE, gF]
  refine tk 5 ?_
  try simp only [Act.put, gA, gB, gC, List.setIfInBounds_toArray, gE, gF]
  refine wpAnyH_ready (rs := [6]) (by kernel_rfl) (by simp) ?_
  refine AllReadyH.cons rfl (fun K hK => ?_) ?_
  rotate_left
  · exact AllReadyH.nil
  go_simp
  refine hK.out _ _ ?_ (fun hHeld => ?_)
  · exact d0.goA _
  clear hK K
  try simp only [Act.put, gA, gB, gC, List.setIfInBounds_toArray, gE, gF]
  refine wpAnyH_ready (rs := [7]) (by kernel_rfl) (by simp) ?_
  refine AllReadyH.cons rfl (fun K hK => ?_) ?_
  rotate_left
  · exact AllReadyH.nil
  refine step_appI rfl (.tmp 75) (.tmp 81) _ rfl Try.underlying34 info_u8 (ownD.alloc _) rfl (RdI.one _ _ _ _) rfl (by omega) (by omega) (by have := d0.size; simp at this; simp; omega) ?_
  intro v4 w4 own4 hg4 hat4
  have d4 := (d0.goA _).goG hg4 (fun k hk => by have := (lD k hk).1; simp; omega)
  try dsimp only
  refine hK.out _ _ ?_ (fun hHeld => ?_)
  · first | assumption | (dsimp only; assumption)
  clear hK K
  try simp only [Act.put, gA, gB, gC, List.setIfInBounds_toArray, gE, gF]
  refine wpAnyH_ready (rs := [10]) (by kernel_rfl) (by simp) ?_
  refine AllReadyH.cons rfl (fun K hK => ?_) ?_
  rotate_left
  · exact AllReadyH.nil
  go_simp
  go_at_call 70
  refine (refWords_any A n c _ xs _ (hx'.out.ext (E0.go d4)) (Nat.le_refl _) hr'.out (by omega)).mono ?_
  rintro e w5 ⟨A5, n5, c5, rfl, g5, g5', r5, E5, f5⟩
  have own6 := own_ext own4 E5
  have d6 := d4.go E5
  have r6 := r5
  try dsimp only
  refine hK.out _ _ ?_ (fun hHeld => ?_)
  · first | assumption | (dsimp only; assumption)
  clear hK K
  try simp only [Act.put, gA, gB, gC, List.setIfInBounds_toArray, gE, gF]
  refine wpAnyH_ready (rs := [11]) (by kernel_rfl) (by simp) ?_
  refine AllReadyH.cons rfl (fun K hK => ?_) ?_
  rotate_left
  · exact AllReadyH.nil
  refine step_appI rfl (.tmp 82) (.tmp 85) _ rfl Try.underlying34 info_u8 own6 rfl r6 rfl (by have := r6.len; rw [wordsL_length, hl.out] at this; omega) (by have := r6.len; rw [wordsL_length, hl.out] at this; omega) (by have := d6.size; rw [alloc_size] at this; omega) ?_
  intro v7 w7 own7 hg7 hat7
  have d7 := d6.goG hg7 (fun k hk => by have := (own6.lt k hk).1; simp; omega)
  try dsimp only
  refine hK.out _ _ ?_ (fun hHeld => ?_)
  · first | assumption | (dsimp only; assumption)
  clear hK K
  try simp only [Act.put, gA, gB, gC, List.setIfInBounds_toArray, gE, gF]
  refine tk 12 ?_
  try simp only [Act.put, gA, gB, gC, List.setIfInBounds_toArray, gE, gF]
  refine wpAnyH_done (by kernel_rfl) ?_ _
  go_wp2_with fail
  go_ret
  obtain ⟨A', c', rfl, ⟨hc1, hc2⟩, r⟩ := own_rd own7
  rw [hl.out]
  exact ⟨A', _, c', rfl, hc1, hc2, by simpa [headL, wordsL, ew2] using r, E0.go d7⟩

theorem refBytes_any (s : Shape) (fc ad qt to : Int) (hs : shapeOf fc = some s) (A : Option Addr) (n c : Nat) (xs : List Int) (w : World) (hx : RdI w w.heap.size .u16 A n xs) (hr : ∀ j : Nat, 0 ≤ xs[j]?.getD 0 ∧ xs[j]?.getD 0 ≤ 65535) (h : holdsB s ad qt to xs = true) :
    Calls Try.prog 51 #[.agg #[.int .i64 fc, .int .i64 ad, .int .i64 qt, .slice A n c, .int .i64 to]] w (RetI .u8 (codedL s fc ad qt to xs) w) := by
  obtain ⟨⟨a0, a1⟩, ⟨t0, t1⟩, ⟨q0, q1⟩, hq, ht, f0, f1, f2, f3⟩ := holds_parts h
  have hl := hx.len
  rcases shape_cases hs with ⟨e, rfl⟩ | ⟨e, rfl⟩ | ⟨e, rfl⟩ | ⟨e, rfl⟩ | ⟨e, rfl⟩ | ⟨e, rfl⟩ | ⟨e, rfl⟩ | ⟨e, rfl⟩
  · exact refBytes_reads fc ad qt to A n c xs w hx hr a0 a1 q0 (by simp at q1; omega) (by omega)
  · exact refBytes_reads fc ad qt to A n c xs w hx hr a0 a1 q0 (by simp at q1; omega) (by omega)
  · have hv := f1 rfl
    subst e
    refine refBytes_coil ad qt to A n c xs w hx hr a0 a1 (by have := hv.1; simp at this; omega) ?_
    have h1 := hv.2
    simp [valuesB] at h1
    obtain ⟨x, l, rfl⟩ : ∃ x l, xs = x :: l := by
      cases xs with
      | nil => have := hv.1; simp at this
      | cons x l => exact ⟨x, l, rfl⟩
    simp at h1 ⊢
    omega
  · exact refBytes_regs fc ad qt to A n c xs w hx hr a0 a1 (.inl e) (by have := (f1 rfl).1; simp at this; omega)
  · subst e
    exact refBytes_coils ad qt to A n c xs w hx hr a0 a1 q0 (by simp at q1; omega) (by have := (f2 rfl).1; simp at q1; omega)
  · subst e
    exact refBytes_wregs ad qt to A n c xs w hx hr a0 a1 q0 (by simp at q1; omega) (by have := (f2 rfl).1; simp at q1; omega)
  · exact refBytes_regs fc ad qt to A n c xs w hx hr a0 a1 (.inr e) (by have := (f1 rfl).1; simp at this; omega)
  · subst e
    exact refBytes_swaps ad qt to A n c xs w hx hr a0 a1 q0 (by simp at q1; omega) t0 t1 (by have := (f3 (by simp) (by simp) (by simp)).2; simp at this; omega)
end Go.Proofs.Ytgagpalffdgjnaa
