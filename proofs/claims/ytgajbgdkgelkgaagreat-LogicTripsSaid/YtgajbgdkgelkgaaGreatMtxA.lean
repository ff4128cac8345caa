/- Layer 8, the walks: within, same, twins. (Printed by wip/gen/twins.py.) -/
import Derived.Test.YtgajbgdkgelkgaaGreatMxPlain
import Derived.Test.YtgajbgdkgelkgaaGreatG01
import Derived.Test.YtgajbgdkgelkgaaGreatG04
namespace Go.Proofs.YtgajbgdkgelkgaaGreat
open Go.RowKit

def strCells (s : ByteArray) : List Value := [.string s]
def intCells (i : Int) : List Value := [.int .i64 i]
theorem RdI.rdC {w : World} {B n : Nat} {A : Option Addr} {xs : List Int} (h : RdI w B .i64 A n xs) : RdC intCells 1 w B A n xs :=
  ⟨h.1, fun hn => by
    obtain ⟨b, o, e, hb, hc⟩ := h.2 hn
    refine ⟨b, o, e, hb, fun j x hx i hi => ?_⟩
    obtain rfl : i = 0 := by omega
    have hj : j < xs.length := by
      rcases Nat.lt_or_ge j xs.length with h | h
      · exact h
      · rw [List.getElem?_eq_none h] at hx; cases hx
    rw [Nat.mul_one, Nat.add_zero, hc j (by have := h.1; omega), List.getD_eq_getElem?_getD, hx]
    rfl⟩
theorem twinsTo_succ {α : Type} (one : α → α → Bool) (l : List α) (i : Nat) : twinsTo one l (i + 1) = (twinsTo one l i || (List.range i).any (oneAt one l i)) := by
  unfold twinsTo
  rw [List.range_succ, List.any_append]
  simp
theorem any_range_succ (f : Nat → Bool) (n : Nat) : (List.range (n + 1)).any f = ((List.range n).any f || f n) := by
  rw [List.range_succ, List.any_append]; simp
theorem twinsTo_mono {α : Type} {one : α → α → Bool} {l : List α} {i : Nat} (h : twinsTo one l i = true) : ∀ k, twinsTo one l (i + k) = true
  | 0 => h
  | k + 1 => by rw [← Nat.add_assoc, twinsTo_succ, twinsTo_mono h k]; rfl
theorem twins_hit {α : Type} {one : α → α → Bool} {l : List α} {i j : Nat} {x y : α} (hj : j < i) (hx : l[j]? = some x) (hy : l[i]? = some y) (h : one x y = true) : twinsB one l = true := by
  have hi : i < l.length := by
    rcases Nat.lt_or_ge i l.length with h | h
    · exact h
    · rw [List.getElem?_eq_none h] at hy; cases hy
  have h1 : twinsTo one l (i + 1) = true := by
    rw [twinsTo_succ, Bool.or_eq_true]
    right
    rw [List.any_eq_true]
    exact ⟨j, List.mem_range.2 hj, by unfold oneAt; rw [hx, hy]; exact h⟩
  have := twinsTo_mono h1 (l.length - (i + 1))
  rw [show i + 1 + (l.length - (i + 1)) = l.length by omega] at this
  exact this
set_option maxRecDepth 100000 in
set_option maxHeartbeats 800000 in
theorem within64_any (v a b : Int) (w : World) : Calls Tryz.prog 82 #[.int .i64 v, .int .i64 a, .int .i64 b] w fun e w' => e = .returned (.bool (wiB v a b)) ∧ w = w' := by
  unfold wiB
  by_cases h : a ≤ v
  · rw [show decide (a ≤ v) = true by simpa using h, Bool.true_and]
    go_enter Tryz.func82, Tryz.ntmps82
    go_wp2_with fail
    go_ret
    exact ⟨rfl, rfl⟩
  · rw [show decide (a ≤ v) = false by simpa using h, Bool.false_and]
    go_enter Tryz.func82, Tryz.ntmps82
    go_wp2_with fail
    go_ret
    exact ⟨rfl, rfl⟩
set_option maxRecDepth 100000 in
set_option maxHeartbeats 800000 in
theorem withinI_any (v a b : Int) (w : World) : Calls Tryz.prog 86 #[.int .i64 v, .int .i64 a, .int .i64 b] w fun e w' => e = .returned (.bool (wiB v a b)) ∧ w = w' := by
  unfold wiB
  by_cases h : a ≤ v
  · rw [show decide (a ≤ v) = true by simpa using h, Bool.true_and]
    go_enter Tryz.func86, Tryz.ntmps86
    go_wp2_with fail
    go_ret
    exact ⟨rfl, rfl⟩
  · rw [show decide (a ≤ v) = false by simpa using h, Bool.false_and]
    go_enter Tryz.func86, Tryz.ntmps86
    go_wp2_with fail
    go_ret
    exact ⟨rfl, rfl⟩
set_option maxRecDepth 100000 in
theorem sameStr_any (a b : ByteArray) (w : World) : Calls Tryz.prog 85 #[.string a, .string b] w fun e w' => e = .returned (.bool (strEq a b)) ∧ Ext w w' := by
  go_enter Tryz.func85, Tryz.ntmps85
  go_wp2_with fail
  go_ret
  exact ⟨rfl, Ext.refl _⟩
set_option maxRecDepth 100000 in
theorem sameInt_any (a b : Int) (w : World) : Calls Tryz.prog 114 #[.int .i64 a, .int .i64 b] w fun e w' => e = .returned (.bool (a == b)) ∧ Ext w w' := by
  go_enter Tryz.func114, Tryz.ntmps114
  go_wp2_with fail
  go_ret
  exact ⟨rfl, Ext.refl _⟩
set_option maxRecDepth 100000 in
set_option maxHeartbeats 800000 in
theorem devOne_any (a b : Dv) (w : World) : Calls Tryz.prog 88 #[.agg #[.string a.nm, .int .i64 a.ln, .int .i64 a.un], .agg #[.string b.nm, .int .i64 b.ln, .int .i64 b.un]] w fun e w' => e = .returned (.bool (a.ln == b.ln && a.un == b.un)) ∧ Ext w w' := by
  obtain ⟨a0, a1, a2⟩ := a
  obtain ⟨b0, b1, b2⟩ := b
  dsimp only
  cases h : (a1 == b1)
  · rw [Bool.false_and]
    go_enter Tryz.func88, Tryz.ntmps88
    go_wp2_with fail
    go_ret
    exact ⟨rfl, ((Ext.refl w).goA _).goA _⟩
  · rw [Bool.true_and]
    go_enter Tryz.func88, Tryz.ntmps88
    go_wp2_with fail
    go_ret
    exact ⟨rfl, ((Ext.refl w).goA _).goA _⟩
set_option maxRecDepth 100000 in
set_option maxHeartbeats 800000 in
theorem ptOne_any (a b : Pt) (w : World) : Calls Tryz.prog 90 #[.agg #[.string a.nm, .int .i64 a.dv, .int .i64 a.pl, .int .i64 a.tr, .int .i64 a.on_, .int .i64 a.off], .agg #[.string b.nm, .int .i64 b.dv, .int .i64 b.pl, .int .i64 b.tr, .int .i64 b.on_, .int .i64 b.off]] w fun e w' => e = .returned (.bool (a.dv == b.dv && a.pl == b.pl)) ∧ Ext w w' := by
  obtain ⟨a0, a1, a2, a3, a4, a5⟩ := a
  obtain ⟨b0, b1, b2, b3, b4, b5⟩ := b
  dsimp only
  cases h : (a1 == b1)
  · rw [Bool.false_and]
    go_enter Tryz.func90, Tryz.ntmps90
    go_wp2_with fail
    go_ret
    exact ⟨rfl, ((Ext.refl w).goA _).goA _⟩
  · rw [Bool.true_and]
    go_enter Tryz.func90, Tryz.ntmps90
    go_wp2_with fail
    go_ret
    exact ⟨rfl, ((Ext.refl w).goA _).goA _⟩
set_option maxRecDepth 100000 in
set_option maxHeartbeats 800000 in
theorem efOne_any (a b : Ef) (w : World) : Calls Tryz.prog 93 #[.agg #[.string a.nm, .int .i64 a.dv, .int .i64 a.pl, .int .i64 a.sf, .slice a.A a.n a.c], .agg #[.string b.nm, .int .i64 b.dv, .int .i64 b.pl, .int .i64 b.sf, .slice b.A b.n b.c]] w fun e w' => e = .returned (.bool (a.dv == b.dv && a.pl == b.pl)) ∧ Ext w w' := by
  obtain ⟨a0, a1, a2, a3, a4, a5, a6, a7⟩ := a
  obtain ⟨b0, b1, b2, b3, b4, b5, b6, b7⟩ := b
  dsimp only
  cases h : (a1 == b1)
  · rw [Bool.false_and]
    go_enter Tryz.func93, Tryz.ntmps93
    go_wp2_with fail
    go_ret
    exact ⟨rfl, ((Ext.refl w).goA _).goA _⟩
  · rw [Bool.true_and]
    go_enter Tryz.func93, Tryz.ntmps93
    go_wp2_with fail
    go_ret
    exact ⟨rfl, ((Ext.refl w).goA _).goA _⟩
set_option maxRecDepth 100000 in
set_option maxHeartbeats 3200000 in
theorem twinsDv_any (A : Option Addr) (n c : Nat) (xs : List Dv) (w : World) (hx : RdC Dv.cells 3 w w.heap.size A n xs) (hcm : n ≤ c ∧ c ≤ maxLen) :
    Calls Tryz.prog 87 #[.slice A n c, .func (.func 88) #[] #[]] w fun e w' => e = .returned (.bool (twinsB (fun a b : Dv => a.ln == b.ln && a.un == b.un) xs)) ∧ Ext w w' := by
  have hx' := Lib.hid hx
  have hnm : n ≤ 9223372036854775807 := by have := hcm; unfold maxLen at this; omega
  clear hx hcm
  go_enter Tryz.func87, Tryz.ntmps87
  go_wp2_with fail
  go_loopw [9] (fun i wr => ∃ k : Nat, k ≤ n ∧ i = .int .i64 k ∧ twinsTo (fun a b : Dv => a.ln == b.ln && a.un == b.un) xs k = false ∧ Ext w wr) (fun i _ => n - (intOf i).toNat)
  case atStart => exact ⟨0, by omega, rfl, rfl, Ext.refl _⟩
  case round =>
    obtain ⟨k, hk, rfl, h0, E⟩ := hrel
    by_cases hkn : k < n
    · have d1 : decide ((k : Int) < (n : Int)) = true := by simp; omega
      have d3 : (k : Int) < (n : Int) := by omega
      have h0' := Lib.hid h0
      clear h0
      go_wp2_with fail
      go_loopw [13] (fun i wq => ∃ j : Nat, j ≤ k ∧ i = .int .i64 j ∧ (List.range j).any (oneAt (fun a b : Dv => a.ln == b.ln && a.un == b.un) xs k) = false ∧ Ext w wq) (fun i _ => k - (intOf i).toNat)
      case atStart => exact ⟨0, by omega, rfl, rfl, E⟩
      case round =>
        clear E
        obtain ⟨j, hj, rfl, hn, E⟩ := hrel
        have hn' := Lib.hid hn
        clear hn
        by_cases hjk : j < k
        · have e1 : decide ((j : Int) < (k : Int)) = true := by simp; omega
          have e3 : (j : Int) < (n : Int) := by omega
          have e4 : (j : Int) < (k : Int) := by omega
          obtain ⟨x, hxj⟩ := hx'.out.get (j := j) (by omega)
          obtain ⟨y, hyk⟩ := hx'.out.get (j := k) hkn
          obtain ⟨b, o, rfl, hb, hcx⟩ := hx'.out.at_ hxj
          obtain ⟨b2, o2, e2, _, hcy⟩ := hx'.out.at_ hyk
          simp only [Option.some.injEq, Addr.mk.injEq, and_true] at e2
          obtain ⟨rfl, rfl⟩ := e2
          have hxj' := Lib.hid hxj
          have hyk' := Lib.hid hyk
          clear hxj hyk
          obtain ⟨x0, x1, x2⟩ := x
          obtain ⟨y0, y1, y2⟩ := y
          have cx0 : ∀ w', Ext wr w' → w'.cell? ⟨b, o + j * 3, none⟩ = some (.string x0) := fun w' hw => ((E.go hw).cell _ hb).trans (hcx 0 (by decide))
          have cx1 : ∀ w', Ext wr w' → w'.cell? ⟨b, o + j * 3 + 1, none⟩ = some (.int .i64 x1) := fun w' hw => ((E.go hw).cell _ hb).trans (hcx 1 (by decide))
          have cx2 : ∀ w', Ext wr w' → w'.cell? ⟨b, o + j * 3 + 2, none⟩ = some (.int .i64 x2) := fun w' hw => ((E.go hw).cell _ hb).trans (hcx 2 (by decide))
          have cy0 : ∀ w', Ext wr w' → w'.cell? ⟨b, o + k * 3, none⟩ = some (.string y0) := fun w' hw => ((E.go hw).cell _ hb).trans (hcy 0 (by decide))
          have cy1 : ∀ w', Ext wr w' → w'.cell? ⟨b, o + k * 3 + 1, none⟩ = some (.int .i64 y1) := fun w' hw => ((E.go hw).cell _ hb).trans (hcy 1 (by decide))
          have cy2 : ∀ w', Ext wr w' → w'.cell? ⟨b, o + k * 3 + 2, none⟩ = some (.int .i64 y2) := fun w' hw => ((E.go hw).cell _ hb).trans (hcy 2 (by decide))
          clear hcx hcy
          go_wp2_with fail
          refine wp_region_held_drew (S := fun w' => Ext wr w') (by kernel_rfl) ((Ext.refl _).god) (fun hHeld => ?_)
          refine tk 0 ?_
          try simp only [Act.put, gA, gC, List.setIfInBounds_toArray, gE, gF]
          refine tk 1 ?_
          try simp only [Act.put, gA, gB, gC, List.setIfInBounds_toArray, gE, gF]
          refine tk 2 ?_
          try simp only [Act.put, gA, gB, gC, List.setIfInBounds_toArray, gE, gF]
          refine tk 3 ?_
          try simp only [Act.put, gA, gB, gC, List.setIfInBounds_toArray, gE, gF]
          refine tk 4 ?_
          try simp only [Act.put, gA, gB, gC, List.setIfInBounds_toArray, gE, gF]
          refine tk 5 ?_
          try simp only [Act.put, gA, gB, gC, List.setIfInBounds_toArray, gE, gF]
          refine tk 6 ?_
          try simp only [Act.put, gA, gB, gC, List.setIfInBounds_toArray, gE, gF]
          refine tk 7 ?_
          try simp only [Act.put, gA, gB, gC, List.setIfInBounds_toArray, gE, gF]
          refine tk 8 ?_
          try simp only [Act.put, gA, gB, gC, List.setIfInBounds_toArray, gE, gF]
          refine wpAnyH_ready (rs := [9]) (by kernel_rfl) (by simp) ?_
          refine AllReadyH.cons rfl (fun Kz hKz => ?_) ?_
          rotate_left
          · exact AllReadyH.nil
          go_simp
          go_at_call 88
          refine (devOne_any ⟨x0, x1, x2⟩ ⟨y0, y1, y2⟩ _).mono ?_
          rintro e w3 ⟨rfl, E3⟩
          have X3 : Ext wr w3 := hHeld.go E3
          try dsimp only
          refine hKz.out _ _ ?_ (fun hHeld => ?_)
          · first | assumption | (dsimp only; assumption)
          clear hKz Kz
          try simp only [Act.put, gA, gB, gC, List.setIfInBounds_toArray, gE, gF]
          refine wpAnyH_done (by kernel_rfl) ?_ _
          have X4 := X3
          clear hHeld X3
          cases hone : (x1 == y1 && x2 == y2)
          · go_wp2_with fail
            go_roundw
            case rel =>
              have hnx := hn'.out
              refine ⟨j + 1, by omega, by go_num, ?_, E.go X4⟩
              rw [any_range_succ, hnx, Bool.false_or]
              unfold oneAt
              rw [hxj'.out, hyk'.out]
              exact hone
            case measure => simp [intOf]; omega
          · go_wp2_with fail
            go_ret
            exact ⟨by rw [twins_hit (one := (fun a b : Dv => a.ln == b.ln && a.un == b.un)) hjk hxj'.out hyk'.out hone]; rfl, E.go X4⟩
        · obtain rfl : j = k := by omega
          have hnx := hn'.out
          have h0x := h0'.out
          clear hn' h0'
          go_wp2_with fail
          go_roundw
          case rel => exact ⟨j + 1, by omega, by go_num, by rw [twinsTo_succ, h0x, hnx]; rfl, E⟩
          case measure => simp [intOf]; omega
    · obtain rfl : k = n := by omega
      have hl := hx'.out.len
      go_wp2_with fail
      go_ret
      exact ⟨by unfold twinsB; rw [hl, h0]; rfl, E⟩
set_option maxRecDepth 100000 in
set_option maxHeartbeats 3200000 in
theorem twinsPt_any (A : Option Addr) (n c : Nat) (xs : List Pt) (w : World) (hx : RdC Pt.cells 6 w w.heap.size A n xs) (hcm : n ≤ c ∧ c ≤ maxLen) :
    Calls Tryz.prog 89 #[.slice A n c, .func (.func 90) #[] #[]] w fun e w' => e = .returned (.bool (twinsB (fun a b : Pt => a.dv == b.dv && a.pl == b.pl) xs)) ∧ Ext w w' := by
  have hx' := Lib.hid hx
  have hnm : n ≤ 9223372036854775807 := by have := hcm; unfold maxLen at this; omega
  clear hx hcm
  go_enter Tryz.func89, Tryz.ntmps89
  go_wp2_with fail
  go_loopw [9] (fun i wr => ∃ k : Nat, k ≤ n ∧ i = .int .i64 k ∧ twinsTo (fun a b : Pt => a.dv == b.dv && a.pl == b.pl) xs k = false ∧ Ext w wr) (fun i _ => n - (intOf i).toNat)
  case atStart => exact ⟨0, by omega, rfl, rfl, Ext.refl _⟩
  case round =>
    obtain ⟨k, hk, rfl, h0, E⟩ := hrel
    by_cases hkn : k < n
    · have d1 : decide ((k : Int) < (n : Int)) = true := by simp; omega
      have d3 : (k : Int) < (n : Int) := by omega
      have h0' := Lib.hid h0
      clear h0
      go_wp2_with fail
      go_loopw [13] (fun i wq => ∃ j : Nat, j ≤ k ∧ i = .int .i64 j ∧ (List.range j).any (oneAt (fun a b : Pt => a.dv == b.dv && a.pl == b.pl) xs k) = false ∧ Ext w wq) (fun i _ => k - (intOf i).toNat)
      case atStart => exact ⟨0, by omega, rfl, rfl, E⟩
      case round =>
        clear E
        obtain ⟨j, hj, rfl, hn, E⟩ := hrel
        have hn' := Lib.hid hn
        clear hn
        by_cases hjk : j < k
        · have e1 : decide ((j : Int) < (k : Int)) = true := by simp; omega
          have e3 : (j : Int) < (n : Int) := by omega
          have e4 : (j : Int) < (k : Int) := by omega
          obtain ⟨x, hxj⟩ := hx'.out.get (j := j) (by omega)
          obtain ⟨y, hyk⟩ := hx'.out.get (j := k) hkn
          obtain ⟨b, o, rfl, hb, hcx⟩ := hx'.out.at_ hxj
          obtain ⟨b2, o2, e2, _, hcy⟩ := hx'.out.at_ hyk
          simp only [Option.some.injEq, Addr.mk.injEq, and_true] at e2
          obtain ⟨rfl, rfl⟩ := e2
          have hxj' := Lib.hid hxj
          have hyk' := Lib.hid hyk
          clear hxj hyk
          obtain ⟨x0, x1, x2, x3, x4, x5⟩ := x
          obtain ⟨y0, y1, y2, y3, y4, y5⟩ := y
          have cx0 : ∀ w', Ext wr w' → w'.cell? ⟨b, o + j * 6, none⟩ = some (.string x0) := fun w' hw => ((E.go hw).cell _ hb).trans (hcx 0 (by decide))
          have cx1 : ∀ w', Ext wr w' → w'.cell? ⟨b, o + j * 6 + 1, none⟩ = some (.int .i64 x1) := fun w' hw => ((E.go hw).cell _ hb).trans (hcx 1 (by decide))
          have cx2 : ∀ w', Ext wr w' → w'.cell? ⟨b, o + j * 6 + 2, none⟩ = some (.int .i64 x2) := fun w' hw => ((E.go hw).cell _ hb).trans (hcx 2 (by decide))
          have cx3 : ∀ w', Ext wr w' → w'.cell? ⟨b, o + j * 6 + 3, none⟩ = some (.int .i64 x3) := fun w' hw => ((E.go hw).cell _ hb).trans (hcx 3 (by decide))
          have cx4 : ∀ w', Ext wr w' → w'.cell? ⟨b, o + j * 6 + 4, none⟩ = some (.int .i64 x4) := fun w' hw => ((E.go hw).cell _ hb).trans (hcx 4 (by decide))
          have cx5 : ∀ w', Ext wr w' → w'.cell? ⟨b, o + j * 6 + 5, none⟩ = some (.int .i64 x5) := fun w' hw => ((E.go hw).cell _ hb).trans (hcx 5 (by decide))
          have cy0 : ∀ w', Ext wr w' → w'.cell? ⟨b, o + k * 6, none⟩ = some (.string y0) := fun w' hw => ((E.go hw).cell _ hb).trans (hcy 0 (by decide))
          have cy1 : ∀ w', Ext wr w' → w'.cell? ⟨b, o + k * 6 + 1, none⟩ = some (.int .i64 y1) := fun w' hw => ((E.go hw).cell _ hb).trans (hcy 1 (by decide))
          have cy2 : ∀ w', Ext wr w' → w'.cell? ⟨b, o + k * 6 + 2, none⟩ = some (.int .i64 y2) := fun w' hw => ((E.go hw).cell _ hb).trans (hcy 2 (by decide))
          have cy3 : ∀ w', Ext wr w' → w'.cell? ⟨b, o + k * 6 + 3, none⟩ = some (.int .i64 y3) := fun w' hw => ((E.go hw).cell _ hb).trans (hcy 3 (by decide))
          have cy4 : ∀ w', Ext wr w' → w'.cell? ⟨b, o + k * 6 + 4, none⟩ = some (.int .i64 y4) := fun w' hw => ((E.go hw).cell _ hb).trans (hcy 4 (by decide))
          have cy5 : ∀ w', Ext wr w' → w'.cell? ⟨b, o + k * 6 + 5, none⟩ = some (.int .i64 y5) := fun w' hw => ((E.go hw).cell _ hb).trans (hcy 5 (by decide))
          clear hcx hcy
          go_wp2_with fail
          refine wp_region_held_drew (S := fun w' => Ext wr w') (by kernel_rfl) ((Ext.refl _).god) (fun hHeld => ?_)
          refine tk 0 ?_
          try simp only [Act.put, gA, gC, List.setIfInBounds_toArray, gE, gF]
          refine tk 1 ?_
          try simp only [Act.put, gA, gB, gC, List.setIfInBounds_toArray, gE, gF]
          refine tk 2 ?_
          try simp only [Act.put, gA, gB, gC, List.setIfInBounds_toArray, gE, gF]
          refine tk 3 ?_
          try simp only [Act.put, gA, gB, gC, List.setIfInBounds_toArray, gE, gF]
          refine tk 4 ?_
          try simp only [Act.put, gA, gB, gC, List.setIfInBounds_toArray, gE, gF]
          refine tk 5 ?_
          try simp only [Act.put, gA, gB, gC, List.setIfInBounds_toArray, gE, gF]
          refine tk 6 ?_
          try simp only [Act.put, gA, gB, gC, List.setIfInBounds_toArray, gE, gF]
          refine tk 7 ?_
          try simp only [Act.put, gA, gB, gC, List.setIfInBounds_toArray, gE, gF]
          refine tk 8 ?_
          try simp only [Act.put, gA, gB, gC, List.setIfInBounds_toArray, gE, gF]
          refine wpAnyH_ready (rs := [9]) (by kernel_rfl) (by simp) ?_
          refine AllReadyH.cons rfl (fun Kz hKz => ?_) ?_
          rotate_left
          · exact AllReadyH.nil
          go_simp
          go_at_call 90
          refine (ptOne_any ⟨x0, x1, x2, x3, x4, x5⟩ ⟨y0, y1, y2, y3, y4, y5⟩ _).mono ?_
          rintro e w3 ⟨rfl, E3⟩
          have X3 : Ext wr w3 := hHeld.go E3
          try dsimp only
          refine hKz.out _ _ ?_ (fun hHeld => ?_)
          · first | assumption | (dsimp only; assumption)
          clear hKz Kz
          try simp only [Act.put, gA, gB, gC, List.setIfInBounds_toArray, gE, gF]
          refine wpAnyH_done (by kernel_rfl) ?_ _
          have X4 := X3
          clear hHeld X3
          cases hone : (x1 == y1 && x2 == y2)
          · go_wp2_with fail
            go_roundw
            case rel =>
              have hnx := hn'.out
              refine ⟨j + 1, by omega, by go_num, ?_, E.go X4⟩
              rw [any_range_succ, hnx, Bool.false_or]
              unfold oneAt
              rw [hxj'.out, hyk'.out]
              exact hone
            case measure => simp [intOf]; omega
          · go_wp2_with fail
            go_ret
            exact ⟨by rw [twins_hit (one := (fun a b : Pt => a.dv == b.dv && a.pl == b.pl)) hjk hxj'.out hyk'.out hone]; rfl, E.go X4⟩
        · obtain rfl : j = k := by omega
          have hnx := hn'.out
          have h0x := h0'.out
          clear hn' h0'
          go_wp2_with fail
          go_roundw
          case rel => exact ⟨j + 1, by omega, by go_num, by rw [twinsTo_succ, h0x, hnx]; rfl, E⟩
          case measure => simp [intOf]; omega
    · obtain rfl : k = n := by omega
      have hl := hx'.out.len
      go_wp2_with fail
      go_ret
      exact ⟨by unfold twinsB; rw [hl, h0]; rfl, E⟩
set_option maxRecDepth 100000 in
set_option maxHeartbeats 3200000 in
theorem twinsEf_any (A : Option Addr) (n c : Nat) (xs : List Ef) (w : World) (hx : RdC Ef.cells 5 w w.heap.size A n xs) (hcm : n ≤ c ∧ c ≤ maxLen) :
    Calls Tryz.prog 92 #[.slice A n c, .func (.func 93) #[] #[]] w fun e w' => e = .returned (.bool (twinsB (fun a b : Ef => a.dv == b.dv && a.pl == b.pl) xs)) ∧ Ext w w' := by
  have hx' := Lib.hid hx
  have hnm : n ≤ 9223372036854775807 := by have := hcm; unfold maxLen at this; omega
  clear hx hcm
  go_enter Tryz.func92, Tryz.ntmps92
  go_wp2_with fail
  go_loopw [9] (fun i wr => ∃ k : Nat, k ≤ n ∧ i = .int .i64 k ∧ twinsTo (fun a b : Ef => a.dv == b.dv && a.pl == b.pl) xs k = false ∧ Ext w wr) (fun i _ => n - (intOf i).toNat)
  case atStart => exact ⟨0, by omega, rfl, rfl, Ext.refl _⟩
  case round =>
    obtain ⟨k, hk, rfl, h0, E⟩ := hrel
    by_cases hkn : k < n
    · have d1 : decide ((k : Int) < (n : Int)) = true := by simp; omega
      have d3 : (k : Int) < (n : Int) := by omega
      have h0' := Lib.hid h0
      clear h0
      go_wp2_with fail
      go_loopw [13] (fun i wq => ∃ j : Nat, j ≤ k ∧ i = .int .i64 j ∧ (List.range j).any (oneAt (fun a b : Ef => a.dv == b.dv && a.pl == b.pl) xs k) = false ∧ Ext w wq) (fun i _ => k - (intOf i).toNat)
      case atStart => exact ⟨0, by omega, rfl, rfl, E⟩
      case round =>
        clear E
        obtain ⟨j, hj, rfl, hn, E⟩ := hrel
        have hn' := Lib.hid hn
        clear hn
        by_cases hjk : j < k
        · have e1 : decide ((j : Int) < (k : Int)) = true := by simp; omega
          have e3 : (j : Int) < (n : Int) := by omega
          have e4 : (j : Int) < (k : Int) := by omega
          obtain ⟨x, hxj⟩ := hx'.out.get (j := j) (by omega)
          obtain ⟨y, hyk⟩ := hx'.out.get (j := k) hkn
          obtain ⟨b, o, rfl, hb, hcx⟩ := hx'.out.at_ hxj
          obtain ⟨b2, o2, e2, _, hcy⟩ := hx'.out.at_ hyk
          simp only [Option.some.injEq, Addr.mk.injEq, and_true] at e2
          obtain ⟨rfl, rfl⟩ := e2
          have hxj' := Lib.hid hxj
          have hyk' := Lib.hid hyk
          clear hxj hyk
          obtain ⟨x0, x1, x2, x3, x4, x5, x6, x7⟩ := x
          obtain ⟨y0, y1, y2, y3, y4, y5, y6, y7⟩ := y
          have cx0 : ∀ w', Ext wr w' → w'.cell? ⟨b, o + j * 5, none⟩ = some (.string x0) := fun w' hw => ((E.go hw).cell _ hb).trans (hcx 0 (by decide))
          have cx1 : ∀ w', Ext wr w' → w'.cell? ⟨b, o + j * 5 + 1, none⟩ = some (.int .i64 x1) := fun w' hw => ((E.go hw).cell _ hb).trans (hcx 1 (by decide))
          have cx2 : ∀ w', Ext wr w' → w'.cell? ⟨b, o + j * 5 + 2, none⟩ = some (.int .i64 x2) := fun w' hw => ((E.go hw).cell _ hb).trans (hcx 2 (by decide))
          have cx3 : ∀ w', Ext wr w' → w'.cell? ⟨b, o + j * 5 + 3, none⟩ = some (.int .i64 x3) := fun w' hw => ((E.go hw).cell _ hb).trans (hcx 3 (by decide))
          have cx4 : ∀ w', Ext wr w' → w'.cell? ⟨b, o + j * 5 + 4, none⟩ = some (.slice x4 x5 x6) := fun w' hw => ((E.go hw).cell _ hb).trans (hcx 4 (by decide))
          have cy0 : ∀ w', Ext wr w' → w'.cell? ⟨b, o + k * 5, none⟩ = some (.string y0) := fun w' hw => ((E.go hw).cell _ hb).trans (hcy 0 (by decide))
          have cy1 : ∀ w', Ext wr w' → w'.cell? ⟨b, o + k * 5 + 1, none⟩ = some (.int .i64 y1) := fun w' hw => ((E.go hw).cell _ hb).trans (hcy 1 (by decide))
          have cy2 : ∀ w', Ext wr w' → w'.cell? ⟨b, o + k * 5 + 2, none⟩ = some (.int .i64 y2) := fun w' hw => ((E.go hw).cell _ hb).trans (hcy 2 (by decide))
          have cy3 : ∀ w', Ext wr w' → w'.cell? ⟨b, o + k * 5 + 3, none⟩ = some (.int .i64 y3) := fun w' hw => ((E.go hw).cell _ hb).trans (hcy 3 (by decide))
          have cy4 : ∀ w', Ext wr w' → w'.cell? ⟨b, o + k * 5 + 4, none⟩ = some (.slice y4 y5 y6) := fun w' hw => ((E.go hw).cell _ hb).trans (hcy 4 (by decide))
          clear hcx hcy
          go_wp2_with fail
          refine wp_region_held_drew (S := fun w' => Ext wr w') (by kernel_rfl) ((Ext.refl _).god) (fun hHeld => ?_)
          refine tk 0 ?_
          try simp only [Act.put, gA, gC, List.setIfInBounds_toArray, gE, gF]
          refine tk 1 ?_
          try simp only [Act.put, gA, gB, gC, List.setIfInBounds_toArray, gE, gF]
          refine tk 2 ?_
          try simp only [Act.put, gA, gB, gC, List.setIfInBounds_toArray, gE, gF]
          refine tk 3 ?_
          try simp only [Act.put, gA, gB, gC, List.setIfInBounds_toArray, gE, gF]
          refine tk 4 ?_
          try simp only [Act.put, gA, gB, gC, List.setIfInBounds_toArray, gE, gF]
          refine tk 5 ?_
          try simp only [Act.put, gA, gB, gC, List.setIfInBounds_toArray, gE, gF]
          refine tk 6 ?_
          try simp only [Act.put, gA, gB, gC, List.setIfInBounds_toArray, gE, gF]
          refine tk 7 ?_
          try simp only [Act.put, gA, gB, gC, List.setIfInBounds_toArray, gE, gF]
          refine tk 8 ?_
          try simp only [Act.put, gA, gB, gC, List.setIfInBounds_toArray, gE, gF]
          refine wpAnyH_ready (rs := [9]) (by kernel_rfl) (by simp) ?_
          refine AllReadyH.cons rfl (fun Kz hKz => ?_) ?_
          rotate_left
          · exact AllReadyH.nil
          go_simp
          go_at_call 93
          refine (efOne_any ⟨x0, x1, x2, x3, x4, x5, x6, x7⟩ ⟨y0, y1, y2, y3, y4, y5, y6, y7⟩ _).mono ?_
          rintro e w3 ⟨rfl, E3⟩
          have X3 : Ext wr w3 := hHeld.go E3
          try dsimp only
          refine hKz.out _ _ ?_ (fun hHeld => ?_)
          · first | assumption | (dsimp only; assumption)
          clear hKz Kz
          try simp only [Act.put, gA, gB, gC, List.setIfInBounds_toArray, gE, gF]
          refine wpAnyH_done (by kernel_rfl) ?_ _
          have X4 := X3
          clear hHeld X3
          cases hone : (x1 == y1 && x2 == y2)
          · go_wp2_with fail
            go_roundw
            case rel =>
              have hnx := hn'.out
              refine ⟨j + 1, by omega, by go_num, ?_, E.go X4⟩
              rw [any_range_succ, hnx, Bool.false_or]
              unfold oneAt
              rw [hxj'.out, hyk'.out]
              exact hone
            case measure => simp [intOf]; omega
          · go_wp2_with fail
            go_ret
            exact ⟨by rw [twins_hit (one := (fun a b : Ef => a.dv == b.dv && a.pl == b.pl)) hjk hxj'.out hyk'.out hone]; rfl, E.go X4⟩
        · obtain rfl : j = k := by omega
          have hnx := hn'.out
          have h0x := h0'.out
          clear hn' h0'
          go_wp2_with fail
          go_roundw
          case rel => exact ⟨j + 1, by omega, by go_num, by rw [twinsTo_succ, h0x, hnx]; rfl, E⟩
          case measure => simp [intOf]; omega
    · obtain rfl : k = n := by omega
      have hl := hx'.out.len
      go_wp2_with fail
      go_ret
      exact ⟨by unfold twinsB; rw [hl, h0]; rfl, E⟩
set_option maxRecDepth 100000 in
set_option maxHeartbeats 3200000 in
theorem twinsStr_any (A : Option Addr) (n c : Nat) (xs : List ByteArray) (w : World) (hx : RdC strCells 1 w w.heap.size A n xs) (hcm : n ≤ c ∧ c ≤ maxLen) :
    Calls Tryz.prog 84 #[.slice A n c, .func (.func 85) #[] #[]] w fun e w' => e = .returned (.bool (twinsB strEq xs)) ∧ Ext w w' := by
  have hx' := Lib.hid hx
  have hnm : n ≤ 9223372036854775807 := by have := hcm; unfold maxLen at this; omega
  clear hx hcm
  go_enter Tryz.func84, Tryz.ntmps84
  go_wp2_with fail
  go_loopw [9] (fun i wr => ∃ k : Nat, k ≤ n ∧ i = .int .i64 k ∧ twinsTo strEq xs k = false ∧ Ext w wr) (fun i _ => n - (intOf i).toNat)
  case atStart => exact ⟨0, by omega, rfl, rfl, Ext.refl _⟩
  case round =>
    obtain ⟨k, hk, rfl, h0, E⟩ := hrel
    by_cases hkn : k < n
    · have d1 : decide ((k : Int) < (n : Int)) = true := by simp; omega
      have d3 : (k : Int) < (n : Int) := by omega
      have h0' := Lib.hid h0
      clear h0
      go_wp2_with fail
      go_loopw [13] (fun i wq => ∃ j : Nat, j ≤ k ∧ i = .int .i64 j ∧ (List.range j).any (oneAt strEq xs k) = false ∧ Ext w wq) (fun i _ => k - (intOf i).toNat)
      case atStart => exact ⟨0, by omega, rfl, rfl, E⟩
      case round =>
        clear E
        obtain ⟨j, hj, rfl, hn, E⟩ := hrel
        have hn' := Lib.hid hn
        clear hn
        by_cases hjk : j < k
        · have e1 : decide ((j : Int) < (k : Int)) = true := by simp; omega
          have e3 : (j : Int) < (n : Int) := by omega
          have e4 : (j : Int) < (k : Int) := by omega
          obtain ⟨x, hxj⟩ := hx'.out.get (j := j) (by omega)
          obtain ⟨y, hyk⟩ := hx'.out.get (j := k) hkn
          obtain ⟨b, o, rfl, hb, hcx⟩ := hx'.out.at_ hxj
          obtain ⟨b2, o2, e2, _, hcy⟩ := hx'.out.at_ hyk
          simp only [Option.some.injEq, Addr.mk.injEq, and_true] at e2
          obtain ⟨rfl, rfl⟩ := e2
          have hxj' := Lib.hid hxj
          have hyk' := Lib.hid hyk
          clear hxj hyk
          have cx0 : ∀ w', Ext wr w' → w'.cell? ⟨b, o + j, none⟩ = some (.string x) := fun w' hw => by
            have := ((E.go hw).cell _ hb).trans (hcx 0 (by decide))
            rwa [Nat.mul_one, Nat.add_zero] at this
          have cy0 : ∀ w', Ext wr w' → w'.cell? ⟨b, o + k, none⟩ = some (.string y) := fun w' hw => by
            have := ((E.go hw).cell _ hb).trans (hcy 0 (by decide))
            rwa [Nat.mul_one, Nat.add_zero] at this
          clear hcx hcy
          go_wp2_with fail
          refine wp_region_held_drew (S := fun w' => Ext wr w') (by kernel_rfl) ((Ext.refl _).god) (fun hHeld => ?_)
          refine tk 0 ?_
          try simp only [Act.put, gA, gC, List.setIfInBounds_toArray, gE, gF]
          refine tk 1 ?_
          try simp only [Act.put, gA, gB, gC, List.setIfInBounds_toArray, gE, gF]
          refine tk 2 ?_
          try simp only [Act.put, gA, gB, gC, List.setIfInBounds_toArray, gE, gF]
          refine tk 3 ?_
          try simp only [Act.put, gA, gB, gC, List.setIfInBounds_toArray, gE, gF]
          refine tk 4 ?_
          try simp only [Act.put, gA, gB, gC, List.setIfInBounds_toArray, gE, gF]
          refine tk 5 ?_
          try simp only [Act.put, gA, gB, gC, List.setIfInBounds_toArray, gE, gF]
          refine tk 6 ?_
          try simp only [Act.put, gA, gB, gC, List.setIfInBounds_toArray, gE, gF]
          refine tk 7 ?_
          try simp only [Act.put, gA, gB, gC, List.setIfInBounds_toArray, gE, gF]
          refine tk 8 ?_
          try simp only [Act.put, gA, gB, gC, List.setIfInBounds_toArray, gE, gF]
          refine wpAnyH_ready (rs := [9]) (by kernel_rfl) (by simp) ?_
          refine AllReadyH.cons rfl (fun Kz hKz => ?_) ?_
          rotate_left
          · exact AllReadyH.nil
          go_simp
          go_at_call 85
          refine (sameStr_any x y _).mono ?_
          rintro e w3 ⟨rfl, E3⟩
          have X3 : Ext wr w3 := hHeld.go E3
          try dsimp only
          refine hKz.out _ _ ?_ (fun hHeld => ?_)
          · first | assumption | (dsimp only; assumption)
          clear hKz Kz
          try simp only [Act.put, gA, gB, gC, List.setIfInBounds_toArray, gE, gF]
          refine wpAnyH_done (by kernel_rfl) ?_ _
          have X4 := X3
          clear hHeld X3
          cases hone : (strEq x y)
          · go_wp2_with fail
            go_roundw
            case rel =>
              have hnx := hn'.out
              refine ⟨j + 1, by omega, by go_num, ?_, E.go X4⟩
              rw [any_range_succ, hnx, Bool.false_or]
              unfold oneAt
              rw [hxj'.out, hyk'.out]
              exact hone
            case measure => simp [intOf]; omega
          · go_wp2_with fail
            go_ret
            exact ⟨by rw [twins_hit (one := strEq) hjk hxj'.out hyk'.out hone]; rfl, E.go X4⟩
        · obtain rfl : j = k := by omega
          have hnx := hn'.out
          have h0x := h0'.out
          clear hn' h0'
          go_wp2_with fail
          go_roundw
          case rel => exact ⟨j + 1, by omega, by go_num, by rw [twinsTo_succ, h0x, hnx]; rfl, E⟩
          case measure => simp [intOf]; omega
    · obtain rfl : k = n := by omega
      have hl := hx'.out.len
      go_wp2_with fail
      go_ret
      exact ⟨by unfold twinsB; rw [hl, h0]; rfl, E⟩
set_option maxRecDepth 100000 in
set_option maxHeartbeats 3200000 in
theorem twinsInt_any (A : Option Addr) (n c : Nat) (xs : List Int) (w : World) (hx : RdC intCells 1 w w.heap.size A n xs) (hcm : n ≤ c ∧ c ≤ maxLen) :
    Calls Tryz.prog 113 #[.slice A n c, .func (.func 114) #[] #[]] w fun e w' => e = .returned (.bool (twinsB (fun a b : Int => a == b) xs)) ∧ Ext w w' := by
  have hx' := Lib.hid hx
  have hnm : n ≤ 9223372036854775807 := by have := hcm; unfold maxLen at this; omega
  clear hx hcm
  go_enter Tryz.func113, Tryz.ntmps113
  go_wp2_with fail
  go_loopw [9] (fun i wr => ∃ k : Nat, k ≤ n ∧ i = .int .i64 k ∧ twinsTo (fun a b : Int => a == b) xs k = false ∧ Ext w wr) (fun i _ => n - (intOf i).toNat)
  case atStart => exact ⟨0, by omega, rfl, rfl, Ext.refl _⟩
  case round =>
    obtain ⟨k, hk, rfl, h0, E⟩ := hrel
    by_cases hkn : k < n
    · have d1 : decide ((k : Int) < (n : Int)) = true := by simp; omega
      have d3 : (k : Int) < (n : Int) := by omega
      have h0' := Lib.hid h0
      clear h0
      go_wp2_with fail
      go_loopw [13] (fun i wq => ∃ j : Nat, j ≤ k ∧ i = .int .i64 j ∧ (List.range j).any (oneAt (fun a b : Int => a == b) xs k) = false ∧ Ext w wq) (fun i _ => k - (intOf i).toNat)
      case atStart => exact ⟨0, by omega, rfl, rfl, E⟩
      case round =>
        clear E
        obtain ⟨j, hj, rfl, hn, E⟩ := hrel
        have hn' := Lib.hid hn
        clear hn
        by_cases hjk : j < k
        · have e1 : decide ((j : Int) < (k : Int)) = true := by simp; omega
          have e3 : (j : Int) < (n : Int) := by omega
          have e4 : (j : Int) < (k : Int) := by omega
          obtain ⟨x, hxj⟩ := hx'.out.get (j := j) (by omega)
          obtain ⟨y, hyk⟩ := hx'.out.get (j := k) hkn
          obtain ⟨b, o, rfl, hb, hcx⟩ := hx'.out.at_ hxj
          obtain ⟨b2, o2, e2, _, hcy⟩ := hx'.out.at_ hyk
          simp only [Option.some.injEq, Addr.mk.injEq, and_true] at e2
          obtain ⟨rfl, rfl⟩ := e2
          have hxj' := Lib.hid hxj
          have hyk' := Lib.hid hyk
          clear hxj hyk
          have cx0 : ∀ w', Ext wr w' → w'.cell? ⟨b, o + j, none⟩ = some (.int .i64 x) := fun w' hw => by
            have := ((E.go hw).cell _ hb).trans (hcx 0 (by decide))
            rwa [Nat.mul_one, Nat.add_zero] at this
          have cy0 : ∀ w', Ext wr w' → w'.cell? ⟨b, o + k, none⟩ = some (.int .i64 y) := fun w' hw => by
            have := ((E.go hw).cell _ hb).trans (hcy 0 (by decide))
            rwa [Nat.mul_one, Nat.add_zero] at this
          clear hcx hcy
          go_wp2_with fail
          refine wp_region_held_drew (S := fun w' => Ext wr w') (by kernel_rfl) ((Ext.refl _).god) (fun hHeld => ?_)
          refine tk 0 ?_
          try simp only [Act.put, gA, gC, List.setIfInBounds_toArray, gE, gF]
          refine tk 1 ?_
          try simp only [Act.put, gA, gB, gC, List.setIfInBounds_toArray, gE, gF]
          refine tk 2 ?_
          try simp only [Act.put, gA, gB, gC, List.setIfInBounds_toArray, gE, gF]
          refine tk 3 ?_
          try simp only [Act.put, gA, gB, gC, List.setIfInBounds_toArray, gE, gF]
          refine tk 4 ?_
          try simp only [Act.put, gA, gB, gC, List.setIfInBounds_toArray, gE, gF]
          refine tk 5 ?_
          try simp only [Act.put, gA, gB, gC, List.setIfInBounds_toArray, gE, gF]
          refine tk 6 ?_
          try simp only [Act.put, gA, gB, gC, List.setIfInBounds_toArray, gE, gF]
          refine tk 7 ?_
          try simp only [Act.put, gA, gB, gC, List.setIfInBounds_toArray, gE, gF]
          refine tk 8 ?_
          try simp only [Act.put, gA, gB, gC, List.setIfInBounds_toArray, gE, gF]
          refine wpAnyH_ready (rs := [9]) (by kernel_rfl) (by simp) ?_
          refine AllReadyH.cons rfl (fun Kz hKz => ?_) ?_
          rotate_left
          · exact AllReadyH.nil
          go_simp
          go_at_call 114
          refine (sameInt_any x y _).mono ?_
          rintro e w3 ⟨rfl, E3⟩
          have X3 : Ext wr w3 := hHeld.go E3
          try dsimp only
          refine hKz.out _ _ ?_ (fun hHeld => ?_)
          · first | assumption | (dsimp only; assumption)
          clear hKz Kz
          try simp only [Act.put, gA, gB, gC, List.setIfInBounds_toArray, gE, gF]
          refine wpAnyH_done (by kernel_rfl) ?_ _
          have X4 := X3
          clear hHeld X3
          cases hone : (x == y)
          · go_wp2_with fail
            go_roundw
            case rel =>
              have hnx := hn'.out
              refine ⟨j + 1, by omega, by go_num, ?_, E.go X4⟩
              rw [any_range_succ, hnx, Bool.false_or]
              unfold oneAt
              rw [hxj'.out, hyk'.out]
              exact hone
            case measure => simp [intOf]; omega
          · go_wp2_with fail
            go_ret
            exact ⟨by rw [twins_hit (one := (fun a b : Int => a == b)) hjk hxj'.out hyk'.out hone]; rfl, E.go X4⟩
        · obtain rfl : j = k := by omega
          have hnx := hn'.out
          have h0x := h0'.out
          clear hn' h0'
          go_wp2_with fail
          go_roundw
          case rel => exact ⟨j + 1, by omega, by go_num, by rw [twinsTo_succ, h0x, hnx]; rfl, E⟩
          case measure => simp [intOf]; omega
    · obtain rfl : k = n := by omega
      have hl := hx'.out.len
      go_wp2_with fail
      go_ret
      exact ⟨by unfold twinsB; rw [hl, h0]; rfl, E⟩
end Go.Proofs.YtgajbgdkgelkgaaGreat
