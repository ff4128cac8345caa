/- Layer 4: the law PduWrong, walked. -/
import Derived.Test.YtkkbjchoilcjlaaPduHead
import Derived.Test.YtkkbjchoilcjlaaPduLaw
namespace Go.Proofs.Ytkkbjchoilcjlaa
open Go.RowKit

theorem RdI.take {w : World} {B n m : Nat} {k : IntKind} {A : Option Addr} {xs : List Int} (h : RdI w B k A n xs) (hm : m ≤ n) : RdI w B k A m (xs.take m) :=
  ⟨by rw [List.length_take, h.len]; omega, fun h0 => by
    obtain ⟨b, o, e, hb, hc⟩ := h.2 (by omega)
    exact ⟨b, o, e, hb, fun j hj => by rw [List.getD_eq_getElem?_getD, List.getElem?_take, if_pos hj, ← List.getD_eq_getElem?_getD]; exact hc j (by omega)⟩⟩
theorem ByteL.take {l : List Int} (h : ByteL l) (k : Nat) : ByteL (l.take k) := fun j => by
  rw [List.getElem?_take]
  split
  · exact h j
  · simp
theorem ByteL.snoc {l : List Int} (h : ByteL l) {m : Int} (h0 : 0 ≤ m) (h1 : m ≤ 255) : ByteL (l ++ [m]) := fun j => by
  by_cases hj : j < l.length
  · rw [List.getElem?_append_left hj]; exact h j
  · rw [List.getElem?_append_right (by omega)]
    rcases Nat.lt_or_ge (j - l.length) 1 with e | e
    · rw [show j - l.length = 0 by omega]; exact ⟨h0, h1⟩
    · rw [List.getElem?_eq_none (by simp; omega)]; simp

set_option maxHeartbeats 3200000 in
theorem pduWrong_off (fc ad qt to : Int) (A : Option Addr) (n c u : Nat) (more : Int) (xs : List Int) (w : World) (hx : RdI w w.heap.size .u16 A n xs) (hr : ∀ j : Nat, 0 ≤ xs[j]?.getD 0 ∧ xs[j]?.getD 0 ≤ 65535) (nm : n ≤ maxLen) (h : 3000 < n ∨ (putL fc ad qt to xs).length = 0) :
    Calls Try.prog 7 #[.agg #[.int .i64 fc, .int .i64 ad, .int .i64 qt, .slice A n c, .int .i64 to], .int .u16 u, .int .u8 more] w fun e w' => e = .returned (.bool true) ∧ Ext w w' := by
  have bx := fun w' (D : Ext (w.alloc (.cells #[.int .i64 fc, .int .i64 ad, .int .i64 qt, .slice A n c, .int .i64 to] 34)) w') => cellsAt ((D.block w.heap.size (by simp)).trans (heap_alloc_new w _))
  have bx' := Lib.hid bx
  have E0 := (Ext.refl w).goA (.cells #[.int .i64 fc, .int .i64 ad, .int .i64 qt, .slice A n c, .int .i64 to] 34)
  have hx' := Lib.hid hx
  have hr' := Lib.hid hr
  clear bx hx hr
  go_enter Try.func7, Try.ntmps7
  go_wp2_with fail
  refine (pduHead_any _).mono ?_
  rintro e w1 ⟨rfl, D1⟩
  have b1 := bx'.out w1 D1
  have E1 := E0.go D1
  go_wp2_with fail
  refine (pduPut_any fc ad qt to A n c xs w1 (hx'.out.ext E1) hr'.out nm).mono ?_
  rintro e w2 ⟨A2, n2, c2, rfl, g2, g2', r2, D2⟩
  have b2 := bx'.out w2 (D1.go D2)
  have E2 := E1.go D2
  have l2 := r2.len
  clear b1 r2
  cases t1 : decide (3000 < (n : Int))
  · have n0 : n2 = 0 := by simp at t1; omega
    subst n0
    clear h l2
    go_wp2_with fail
    go_ret
    exact ⟨rfl, E2⟩
  · clear h l2
    go_wp2_with fail
    go_ret
    exact ⟨rfl, E2⟩

set_option maxHeartbeats 3200000 in
theorem pduWrong_on (fc ad qt to : Int) (A : Option Addr) (n c u : Nat) (more : Int) (xs : List Int) (w : World) (hx : RdI w w.heap.size .u16 A n xs) (hr : ∀ j : Nat, 0 ≤ xs[j]?.getD 0 ∧ xs[j]?.getD 0 ≤ 65535) (h1 : n ≤ 3000) (h2 : 0 < (putL fc ad qt to xs).length) (hu : u ≤ 65535) (m0 : 0 ≤ more) (m1 : more ≤ 255) :
    Calls Try.prog 7 #[.agg #[.int .i64 fc, .int .i64 ad, .int .i64 qt, .slice A n c, .int .i64 to], .int .u16 u, .int .u8 more] w fun e w' => e = .returned (.bool true) ∧ Ext w w' := by
  have bx := fun w' (D : Ext (w.alloc (.cells #[.int .i64 fc, .int .i64 ad, .int .i64 qt, .slice A n c, .int .i64 to] 34)) w') => cellsAt ((D.block w.heap.size (by simp)).trans (heap_alloc_new w _))
  have bx' := Lib.hid bx
  have E0 := (Ext.refl w).goA (.cells #[.int .i64 fc, .int .i64 ad, .int .i64 qt, .slice A n c, .int .i64 to] 34)
  have t1 : decide (3000 < (n : Int)) = false := by simp; omega
  have nm : n ≤ maxLen := by unfold maxLen; omega
  have hx' := Lib.hid hx
  have hr' := Lib.hid hr
  have hpl := Lib.hid (put_length fc ad qt to xs)
  have hpb := Lib.hid (putL_bytes fc ad qt to xs)
  have hpg := Lib.hid (put_get fc ad qt to xs ((put_length fc ad qt to xs).1.2 h2) hr)
  have h2' := Lib.hid h2
  have hmm := Lib.hid (And.intro m0 m1)
  clear bx hx hr h1 h2 m0 m1
  go_enter Try.func7, Try.ntmps7
  go_wp2_with fail
  refine (pduHead_any _).mono ?_
  rintro e w1 ⟨rfl, D1⟩
  have b1 := bx'.out w1 D1
  have E1 := E0.go D1
  go_wp2_with fail
  refine (pduPut_any fc ad qt to A n c xs w1 (hx'.out.ext E1) hr'.out nm).mono ?_
  rintro e w2 ⟨A2, n2, c2, rfl, g2, g2', r2, D2⟩
  have b2 := bx'.out w2 (D1.go D2)
  have E2 := E1.go D2
  have l2 := Lib.hid r2.len
  have p0 : 0 < n2 := by have := l2.out; have := h2'.out; omega
  have p253 := Lib.hid (show n2 ≤ 253 by have := l2.out; have := hpl.out.2; omega)
  obtain ⟨bb, o, rfl, hbb, _⟩ := r2.at_ p0
  have r2' := Lib.hid r2
  have z1 : ((n2 : Int) == 0) = false := by simp; omega
  have hk := Nat.mod_lt u p0
  have u1 : IntKind.i64.wrap (u : Int) = u := by rw [IntKind.wrap_i64]; omega
  have u2 : ((u : Int)).tmod n2 = ((u % n2 : Nat) : Int) := by rw [Int.tmod_eq_emod_of_nonneg (by omega)]; rfl
  have u3 : (u : Int) % n2 = ((u % n2 : Nat) : Int) := rfl
  generalize u % n2 = k at hk u2 u3
  have u4 : IntKind.i64.wrap (k : Int) = k := by rw [IntKind.wrap_i64]; have := p253.out; omega
  have k1 : (k : Int) ≤ c2 := by omega
  have k2 : k ≤ c2 := by omega
  have k3 : (0 : Int) ≤ k := by omega
  have hk' := Lib.hid hk
  clear b1 r2 hbb hk
  go_wp2_with fail
  have hcut := hpg.out.2.1 k (by have := l2.out; have := hk'.out; omega)
  have hmore := Lib.hid (hpg.out.2.2 more)
  refine (pduGet_any _ k c2 ((putL fc ad qt to xs).take k) w2 (r2'.out.take (by have := hk'.out; omega)) (hpb.out.take k) k2 g2').mono ?_
  rw [hcut]
  clear hcut
  generalize (getR ((putL fc ad qt to xs).take k)).1 = R
  obtain ⟨f3, a3, q3, t3, l3⟩ := R
  rintro e w3 ⟨A3, n3, c3, rfl, _, _, _, D3⟩
  dsimp only
  obtain ⟨Y, hY⟩ : ∃ Y, Obj.cells #[.int .i64 f3, .int .i64 a3, .int .i64 q3, .slice A3 n3 c3, .int .i64 t3] 34 = Y := ⟨_, rfl⟩
  have E3 := (E2.go D3).goA Y
  have s3 : (w3.alloc Y).heap.size = w3.heap.size + 1 := alloc_size _ _
  have own4 := own_empty (w := w3.alloc Y) (base := (w3.alloc Y).heap.size) (g := w3.heap.size + 1) 5 .u8 s3.symm (Nat.le_refl _)
  have x4 := r2'.out.ext (D3.goA Y)
  have own4' := Lib.hid own4
  have x4' := Lib.hid x4
  subst hY
  clear own4 x4
  have hp2 := p253.out
  by_cases k0 : k = 0
  · subst k0
    rw [if_pos rfl]
    go_wp2_with (first
      | (at_builtin; refine wpList_appI rfl (.tmp 40) (.tmp 41) _ rfl Try.underlying30 info_u8 own4'.out rfl (x4'.out.alloc (Nat.le_refl _) _) rfl (by omega) (by omega) (by simp) ?_; intro v5 w5 own5 hg5 _; have e5 : Ext (w3.alloc (.cells #[.int .i64 f3, .int .i64 a3, .int .i64 q3, .slice A3 n3 c3, .int .i64 t3] 34)) w5 := ((Ext.refl _).goA _).goG hg5 (fun k hk => (own4'.out.lt k hk).1); rw [List.nil_append, Nat.zero_add] at own5; clear hg5)
      | (at_builtin; refine wpList_appI rfl (.tmp 42) (.tmp 44) _ rfl Try.underlying30 info_u8 (own5.alloc _) rfl (RdI.one _ _ _ _) rfl (by omega) (by omega) (by have := e5.size; simp at this ⊢; omega) ?_; intro v6 w6 own6 hg6 _; have e6 : Ext (w3.alloc (.cells #[.int .i64 f3, .int .i64 a3, .int .i64 q3, .slice A3 n3 c3, .int .i64 t3] 34)) w6 := (e5.goA _).goG hg6 (fun k hk => (own5.lt k hk).1); obtain ⟨A6, c6, rfl, ⟨h61, h62⟩, r6⟩ := own_rd own6; clear hg6 own5 own6)
      | (at_builtin; fail))
    refine (pduGet_any A6 (n2 + 1) c6 (putL fc ad qt to xs ++ [more]) w6 r6 (hpb.out.snoc hmm.out.1 hmm.out.2) h61 h62).mono ?_
    rw [hmore.out]
    generalize (getR (putL fc ad qt to xs ++ [more])).1 = R
    obtain ⟨f7, a7, q7, t7, l7⟩ := R
    rintro e w7 ⟨A7, n7, c7, rfl, _, _, _, D7⟩
    dsimp only
    have E7 := ((E3.go e6).go D7).goA (.cells #[.int .i64 f7, .int .i64 a7, .int .i64 q7, .slice A7 n7 c7, .int .i64 t7] 34)
    clear hpl hpb hpg own4' x4' r2' D7 e6 e5 r6
    go_wp2_with fail
    go_ret
    exact ⟨rfl, E7⟩
  · rw [if_neg k0]
    have y1 : ((k : Int) == 0) = false := by simp; omega
    have y2 : decide (0 < k) = true := by simp; omega
    go_wp2_with (first
      | (at_builtin; refine wpList_appI rfl (.tmp 40) (.tmp 41) _ rfl Try.underlying30 info_u8 own4'.out rfl (x4'.out.alloc (Nat.le_refl _) _) rfl (by omega) (by omega) (by simp) ?_; intro v5 w5 own5 hg5 _; have e5 : Ext (w3.alloc (.cells #[.int .i64 f3, .int .i64 a3, .int .i64 q3, .slice A3 n3 c3, .int .i64 t3] 34)) w5 := ((Ext.refl _).goA _).goG hg5 (fun k hk => (own4'.out.lt k hk).1); rw [List.nil_append, Nat.zero_add] at own5; clear hg5)
      | (at_builtin; refine wpList_appI rfl (.tmp 42) (.tmp 44) _ rfl Try.underlying30 info_u8 (own5.alloc _) rfl (RdI.one _ _ _ _) rfl (by omega) (by omega) (by have := e5.size; simp at this ⊢; omega) ?_; intro v6 w6 own6 hg6 _; have e6 : Ext (w3.alloc (.cells #[.int .i64 f3, .int .i64 a3, .int .i64 q3, .slice A3 n3 c3, .int .i64 t3] 34)) w6 := (e5.goA _).goG hg6 (fun k hk => (own5.lt k hk).1); obtain ⟨A6, c6, rfl, ⟨h61, h62⟩, r6⟩ := own_rd own6; clear hg6 own5 own6)
      | (at_builtin; fail))
    refine (pduGet_any A6 (n2 + 1) c6 (putL fc ad qt to xs ++ [more]) w6 r6 (hpb.out.snoc hmm.out.1 hmm.out.2) h61 h62).mono ?_
    rw [hmore.out]
    generalize (getR (putL fc ad qt to xs ++ [more])).1 = R
    obtain ⟨f7, a7, q7, t7, l7⟩ := R
    rintro e w7 ⟨A7, n7, c7, rfl, _, _, _, D7⟩
    dsimp only
    have E7 := ((E3.go e6).go D7).goA (.cells #[.int .i64 f7, .int .i64 a7, .int .i64 q7, .slice A7 n7 c7, .int .i64 t7] 34)
    clear hpl hpb hpg own4' x4' r2' D7 e6 e5 r6
    go_wp2_with fail
    go_ret
    exact ⟨rfl, E7⟩
theorem pduWrong_any (fc ad qt to : Int) (A : Option Addr) (n c : Nat) (cut more : Int) (xs : List Int) (w : World) (hx : RdI w w.heap.size .u16 A n xs) (hr : ∀ j : Nat, 0 ≤ xs[j]?.getD 0 ∧ xs[j]?.getD 0 ≤ 65535) (nm : n ≤ maxLen) (hu : 0 ≤ cut ∧ cut ≤ 65535) (hm : 0 ≤ more ∧ more ≤ 255) :
    Calls Try.prog 7 #[.agg #[.int .i64 fc, .int .i64 ad, .int .i64 qt, .slice A n c, .int .i64 to], .int .u16 cut, .int .u8 more] w fun e w' => e = .returned (.bool true) ∧ Ext w w' := by
  obtain ⟨u, rfl⟩ := Int.eq_ofNat_of_zero_le hu.1
  by_cases h : 3000 < n ∨ (putL fc ad qt to xs).length = 0
  · exact pduWrong_off fc ad qt to A n c u more xs w hx hr nm h
  · exact pduWrong_on fc ad qt to A n c u more xs w hx hr (by omega) (by omega) (by omega) hm.1 hm.2
end Go.Proofs.Ytkkbjchoilcjlaa
