/- The steps of a drawn region, said shortly. · Numbers off what may be written. · Layer 12, the walks: a delay. · Layer 13, the walks: a vote. -/
import Derived.Test.YtgajbgdkgelkgaaGreatWords
import Derived.Deep.RegionHeld3
import Derived.Test.YtgajbgdkgelkgaaGreatG03
import Derived.Test.YtgajbgdkgelkgaaGreatG01
namespace Go.Proofs.YtgajbgdkgelkgaaGreat
open Go

theorem gA {α : Type} (xs : List α) (i : Nat) (h : i < xs.toArray.size) : xs.toArray[i] = xs[i]'(by simpa using h) := rfl
theorem gB {α : Type} (x : α) (xs : List α) (i : Nat) (h : i + 1 < (x :: xs).length) : (x :: xs)[i + 1] = xs[i]'(Nat.lt_of_succ_lt_succ h) := rfl
theorem gC {α : Type} (x : α) (xs : List α) (h : 0 < (x :: xs).length) : (x :: xs)[0] = x := rfl
theorem gE {α : Type} (x y : α) (xs : List α) : (x :: xs).set 0 y = y :: xs := rfl
theorem gF {α : Type} (x y : α) (xs : List α) (i : Nat) : (x :: xs).set (i + 1) y = x :: xs.set i y := rfl
section
variable {P : Program} {ops : Array Oper} {Q : Exit → Act → World → Prop} {md : Region.Mode} {S : World → Prop}
theorem tkH (i : Nat) {oi : Oper} {v : Value} {fuel : Nat} {listed : Array Bool} {a : Act} {w : World} (hv : ∀ w, S w → (execOp a.eval oi).run P w = .ok (.value v) w) (h : wpAnyH P md ops Q S fuel (listed.setIfInBounds i true) (a.put oi.dst v) w)
    (hi : ops[i]? = some oi := by exact rfl) (hs : Region.noSelect ops = true := by kernel_rfl) (hf : Region.free md ops listed i = true := by kernel_rfl) (hr : (Region.ready md ops listed).contains i = true := by kernel_rfl)
    (hQ : ∀ c a w, Q (.panic c) (a.put oi.dst v) w → Q (.panic c) a w := by exact fun _ _ _ h => h) (hw : Region.wanted oi (yielded ops a.tmps) = true := by rfl) (hS : S w := by assumption) : wpAnyH P md ops Q S (fuel + 1) listed a w :=
  wpAnyH_take hi hs hf hr hQ (.inl ⟨hw, hv⟩) hS h
theorem tk (i : Nat) {oi : Oper} {v : Value} {fuel : Nat} {listed : Array Bool} {a : Act} {w : World} (h : wpAnyH P md ops Q S fuel (listed.setIfInBounds i true) (a.put oi.dst v) w)
    (hi : ops[i]? = some oi := by exact rfl) (hs : Region.noSelect ops = true := by kernel_rfl) (hf : Region.free md ops listed i = true := by kernel_rfl) (hr : (Region.ready md ops listed).contains i = true := by kernel_rfl)
    (hw : Region.wanted oi (yielded ops a.tmps) = true := by rfl) (hS : S w := by assumption)
    (hv : ∀ w, S w → (execOp a.eval oi).run P w = .ok (.value v) w := by intro w hSw; (try dsimp only at hSw); go_simp; try (with_reducible rfl))
    (hQ : ∀ c a w, Q (.panic c) (a.put oi.dst v) w → Q (.panic c) a w := by exact fun _ _ _ h => h) : wpAnyH P md ops Q S (fuel + 1) listed a w :=
  wpAnyH_take hi hs hf hr hQ (.inl ⟨hw, hv⟩) hS h
theorem gS {α : Type} (xs : List α) (i : Nat) (x : α) : xs.toArray.setIfInBounds i x = (xs.set i x).toArray := by simp
theorem skH (i : Nat) {oi : Oper} {fuel : Nat} {listed : Array Bool} {a : Act} {w : World} (h : wpAnyH P md ops Q S fuel (listed.setIfInBounds i true) (a.put oi.dst undef) w)
    (hi : ops[i]? = some oi := by exact rfl) (hs : Region.noSelect ops = true := by kernel_rfl) (hf : Region.free md ops listed i = true := by kernel_rfl) (hr : (Region.ready md ops listed).contains i = true := by kernel_rfl)
    (hQ : ∀ c a w, Q (.panic c) (a.put oi.dst undef) w → Q (.panic c) a w := by exact fun _ _ _ h => h) (hw : Region.wanted oi (yielded ops a.tmps) = false := by rfl) (hS : S w := by assumption) : wpAnyH P md ops Q S (fuel + 1) listed a w :=
  wpAnyH_take hi hs hf hr hQ (.inr ⟨hw, rfl⟩) hS h
end
end Go.Proofs.YtgajbgdkgelkgaaGreat
namespace Go.Proofs.YtgajbgdkgelkgaaGreat
open Go.RowKit

/-- A slice that lies in none of these blocks. -/
def OffB (S : Nat → Prop) (A : Option Addr) (n : Nat) : Prop := 0 < n → ∀ b o, A = some ⟨b, o, none⟩ → ¬ S b
section
variable {w w' : World} {n : Nat} {S : Nat → Prop} {kd : IntKind} {A : Option Addr} {xs : List Int}
theorem RdI.modS (h : RdI w w.heap.size kd A n xs) (ho : OffB S A n) (m : Mod S w w') : RdI w' w'.heap.size kd A n xs :=
  ⟨h.1, fun hn => by
    obtain ⟨b, o, e, hb, hc⟩ := h.2 hn
    exact ⟨b, o, e, Nat.lt_of_lt_of_le hb m.size, fun i hi => (m.cell (o + i) hb (ho hn b o e)).trans (hc i hi)⟩⟩
theorem OffB.weak {S' : Nat → Prop} (ho : OffB S A n) (h : ∀ i, S' i → S i) : OffB S' A n := fun hn b o e hs => ho hn b o e (h b hs)
end
theorem cell_lt {w : World} {b o : Nat} {v : Value} (h : w.cell? ⟨b, o, none⟩ = some v) : b < w.heap.size := by
  rcases Nat.lt_or_ge b w.heap.size with h1 | h1
  · exact h1
  · have h2 : w.heap[b]? = none := by simp; omega
    simp [World.cell?, h2] at h
theorem sets_block {w : World} {i : Nat} {Q : Array Value} {t : TypeId} (h : w.heap[i]? = some (.cells Q t (0, 0))) (j : Nat) (v : Value) : (w.setCell ⟨i, j, none⟩ v).heap[i]? = some (.cells (Q.setIfInBounds j v) t (0, 0)) := by
  simp [World.setCell, Array.getElem?_modify, h]
theorem frozenIn {w : World} {i : Nat} {Q : Array Value} {t : TypeId} (h : w.heap[i]? = some (.cells Q t (0, 0))) (j : Nat) : w.frozen? ⟨i, j, none⟩ = false := by simp [World.frozen?, h]
end Go.Proofs.YtgajbgdkgelkgaaGreat
namespace Go.Proofs.YtgajbgdkgelkgaaGreat
open Go.RowKit

abbrev Dl.arr (d : Dl) : Array Value := #[.bool d.cnt, .int .i64 d.tf, .int .i64 d.tt, .bool d.oth, .int .i64 d.since, .int .i64 d.last]
def HasDl (w : World) (g : Nat) (d : Dl) : Prop := w.heap[g]? = some (.cells d.arr 119 (0, 0))
theorem HasDl.lt {w : World} {g : Nat} {d : Dl} (h : HasDl w g d) : g < w.heap.size := lt_of_block h
theorem HasDl.keep {w w' : World} {g : Nat} {d : Dl} (h : HasDl w g d) (hk : w'.heap[g]? = w.heap[g]?) : HasDl w' g d := hk.trans h
set_option maxRecDepth 100000 in
theorem place_any (b : Bool) (w : World) : Calls Tryz.prog 62 #[.bool b] w fun e w' => e = .returned (.int .i64 (if b then 1 else 0)) ∧ w = w' := by
  cases b
  · go_enter Tryz.func62, Tryz.ntmps62
    go_wp2_with fail
    go_ret
    exact ⟨rfl, rfl⟩
  · go_enter Tryz.func62, Tryz.ntmps62
    go_wp2_with fail
    go_ret
    exact ⟨rfl, rfl⟩
set_option maxRecDepth 100000 in
set_option maxHeartbeats 800000 in
theorem delayNew_any (a b : Int) (w : World) : Calls Tryz.prog 26 #[.int .i64 a, .int .i64 b] w fun e w' => ∃ g, e = .returned (.pointer (some ⟨g, 0, none⟩)) ∧ w.heap.size ≤ g ∧ HasDl w' g (newD a b) ∧ Ext w w' := by
  go_enter Tryz.func26, Tryz.ntmps26
  go_wp2_with fail
  refine wp_region_held_drew (S := fun w' => Ext w w') (by kernel_rfl) ((Ext.refl w).goA _).god (fun hHeld => ?_)
  refine tk 0 ?_
  try simp only [Act.put, gA, gC, List.setIfInBounds_toArray, gE, gF]
  refine tk 2 ?_
  try simp only [Act.put, gA, gB, gC, List.setIfInBounds_toArray, gE, gF]
  refine tk 3 ?_
  try simp only [Act.put, gA, gB, gC, List.setIfInBounds_toArray, gE, gF]
  refine tk 4 ?_
  try simp only [Act.put, gA, gB, gC, List.setIfInBounds_toArray, gE, gF]
  refine tk 5 ?_
  try simp only [Act.put, gA, gB, gC, List.setIfInBounds_toArray, gE, gF]
  refine tk 6 ?_
  try simp only [Act.put, gA, gB, gC, List.setIfInBounds_toArray, gE, gF]
  refine wpAnyH_ready (rs := [1]) (by kernel_rfl) (by simp) ?_
  refine AllReadyH.cons rfl (fun Kz hKz => ?_) ?_
  rotate_left
  · exact AllReadyH.nil
  go_simp
  go_at_call 62
  refine (place_any true _).mono ?_
  rintro e w' ⟨rfl, rfl⟩
  try dsimp only
  refine hKz.out _ _ ?_ (fun hHeld => ?_)
  · first | assumption | (dsimp only; assumption)
  clear hKz Kz
  refine tk 7 ?_
  try simp only [Act.put, gA, gB, gC, List.setIfInBounds_toArray, gE, gF]
  refine wpAnyH_ready (rs := [8]) (by kernel_rfl) (by simp) ?_
  refine AllReadyH.cons rfl (fun Kz hKz => ?_) ?_
  rotate_left
  · exact AllReadyH.nil
  go_simp
  refine hKz.out _ _ ?_ (fun hHeld => ?_)
  · exact ((Ext.refl w).goA _).god
  clear hKz Kz
  try simp only [Act.put, gA, gB, gC, List.setIfInBounds_toArray, gE, gF]
  refine wpAnyH_done (by kernel_rfl) ?_ _
  clear hHeld
  go_wp2_with fail
  refine wp_region_held_drew (S := fun w' => Ext w w') (by kernel_rfl) (((Ext.refl w).goA _).god).god (fun hHeld => ?_)
  refine tk 0 ?_
  try simp only [Act.put, gA, gC, List.setIfInBounds_toArray, gE, gF]
  refine tk 2 ?_
  try simp only [Act.put, gA, gB, gC, List.setIfInBounds_toArray, gE, gF]
  refine tk 3 ?_
  try simp only [Act.put, gA, gB, gC, List.setIfInBounds_toArray, gE, gF]
  refine tk 4 ?_
  try simp only [Act.put, gA, gB, gC, List.setIfInBounds_toArray, gE, gF]
  refine tk 5 ?_
  try simp only [Act.put, gA, gB, gC, List.setIfInBounds_toArray, gE, gF]
  refine tk 6 ?_
  try simp only [Act.put, gA, gB, gC, List.setIfInBounds_toArray, gE, gF]
  refine wpAnyH_ready (rs := [1]) (by kernel_rfl) (by simp) ?_
  refine AllReadyH.cons rfl (fun Kz hKz => ?_) ?_
  rotate_left
  · exact AllReadyH.nil
  go_simp
  go_at_call 62
  refine (place_any false _).mono ?_
  rintro e w' ⟨rfl, rfl⟩
  try dsimp only
  refine hKz.out _ _ ?_ (fun hHeld => ?_)
  · first | assumption | (dsimp only; assumption)
  clear hKz Kz
  try simp only [Act.put, gA, gB, gC, List.setIfInBounds_toArray, gE, gF]
  refine tk 7 ?_
  try simp only [Act.put, gA, gB, gC, List.setIfInBounds_toArray, gE, gF]
  refine wpAnyH_ready (rs := [8]) (by kernel_rfl) (by simp) ?_
  refine AllReadyH.cons rfl (fun Kz hKz => ?_) ?_
  rotate_left
  · exact AllReadyH.nil
  go_simp
  refine hKz.out _ _ ?_ (fun hHeld => ?_)
  · exact (((Ext.refl w).goA _).god).god
  clear hKz Kz
  try simp only [Act.put, gA, gB, gC, List.setIfInBounds_toArray, gE, gF]
  refine wpAnyH_done (by kernel_rfl) ?_ _
  clear hHeld
  go_wp2_with fail
  go_ret
  exact ⟨_, rfl, Nat.le_refl _, heap_alloc_new w _, (((Ext.refl w).goA _).god).god⟩
/-- What a delay sees. -/
def SeePost (g : Nat) (d : Dl) (v : Bool) (now : Int) (w : World) (e : Ending) (w' : World) : Prop :=
  e = .returned (.bool (seeD d v now).cnt) ∧ HasDl w' g (seeD d v now) ∧ Mod (fun i => i = g) w w'
/-- Times of a delay are in bounds. -/
structure OkDl (d : Dl) : Prop where
  tf : 0 ≤ d.tf ∧ d.tf ≤ 1099511627776
  tt : 0 ≤ d.tt ∧ d.tt ≤ 1099511627776
  si : 0 ≤ d.since ∧ d.since ≤ 1099511627776
  la : 0 ≤ d.last ∧ d.last ≤ 1099511627776
theorem OkDl.new (a b : Int) : OkDl (newD a b) := ⟨by simp only [newD, clampI]; omega, by simp only [newD, clampI]; omega, by simp [newD], by simp [newD]⟩
theorem OkDl.see {d : Dl} (h : OkDl d) (v : Bool) (now : Int) : OkDl (seeD d v now) := by
  obtain ⟨h1, h2, h3, h4⟩ := h
  have h5 : 0 ≤ clampI now d.last 1099511627776 ∧ clampI now d.last 1099511627776 ≤ 1099511627776 := by unfold clampI; omega
  unfold seeD
  by_cases e1 : v = d.cnt
  · rw [if_pos e1]; exact ⟨h1, h2, by simp, h5⟩
  · rw [if_neg e1]
    by_cases e2 : (if v then d.tt else d.tf) ≤ clampI now d.last 1099511627776 - (if d.oth then d.since else clampI now d.last 1099511627776)
    · rw [if_pos e2]; exact ⟨h1, h2, by simp, h5⟩
    · rw [if_neg e2]
      refine ⟨h1, h2, ?_, h5⟩
      by_cases e3 : d.oth = true
      · rw [if_pos e3]; exact h3
      · rw [if_neg e3]; exact h5
set_option maxRecDepth 100000 in
set_option maxHeartbeats 3200000 in
theorem delaySee_any (g : Nat) (d : Dl) (v : Bool) (now : Int) (w : World) (h : HasDl w g d) (ok : OkDl d) (n0 : 0 ≤ now) (n1 : now ≤ 1099511627776) : Calls Tryz.prog 30 #[.pointer (some ⟨g, 0, none⟩), .bool v, .int .i64 now] w (SeePost g d v now w) := by
  obtain ⟨c, tf, tt, oth, si, la⟩ := d
  have ok' := ok
  obtain ⟨h1, h2, h3, h4⟩ := ok
  dsimp only at h1 h2 h3 h4
  have hN : 0 ≤ min (max now la) 1099511627776 ∧ min (max now la) 1099511627776 ≤ 1099511627776 := by omega
  unfold HasDl at h
  have hg := lt_of_block h
  have hc := cellsAt h
  have c0 : w.cell? ⟨g, 0, none⟩ = some (.bool c) := hc 0
  have c1 : w.cell? ⟨g, 1, none⟩ = some (.int .i64 tf) := hc 1
  have c2 : w.cell? ⟨g, 2, none⟩ = some (.int .i64 tt) := hc 2
  have c3 : w.cell? ⟨g, 3, none⟩ = some (.bool oth) := hc 3
  have c4 : w.cell? ⟨g, 4, none⟩ = some (.int .i64 si) := hc 4
  have c5 : w.cell? ⟨g, 5, none⟩ = some (.int .i64 la) := hc 5
  have f0 := frozenIn h 0
  have f3 := frozenIn h 3
  have f4 := frozenIn h 4
  have f5 := frozenIn h 5
  have h' := Lib.hid h
  clear h hc
  unfold SeePost seeD clampI
  dsimp only
  by_cases hv : v = c
  · subst hv
    rw [if_pos rfl]
    go_enter Tryz.func30, Tryz.ntmps30
    go_wp2_with fail
    go_ret
    exact ⟨rfl, by have := sets_block (sets_block (sets_block h'.out 5 (.int .i64 (min (max now la) 1099511627776))) 3 (.bool false)) 4 (.int .i64 0); unfold HasDl; simpa using this, (((Mod.refl (fun i => i = g) w).setCell (p := ⟨g, 5, none⟩) (.inl rfl) _).setCell (p := ⟨g, 3, none⟩) (.inl rfl) _).setCell (p := ⟨g, 4, none⟩) (.inl rfl) _⟩
  · rw [if_neg hv]
    have hv' : (v == c) = false := by cases v <;> cases c <;> simp_all
    have hvt : (if v then tt else tf) = (if v = true then tt else tf) := rfl
    obtain ⟨p, hp, hpl, hT⟩ : ∃ p : Nat, (if v then (1 : Int) else 0) = (p : Int) ∧ p < 2 ∧ (∀ W : World, (∃ a b c' e : Value, W.heap[g]? = some (.cells #[a, .int .i64 tf, .int .i64 tt, b, c', e] 119 (0, 0))) → W.cell? ⟨g, 1 + p, none⟩ = some (.int .i64 (if v = true then tt else tf))) := by
      cases v
      · exact ⟨0, rfl, by omega, fun W ⟨a, b, c', e, hW⟩ => cellsAt hW 1⟩
      · exact ⟨1, rfl, by omega, fun W ⟨a, b, c', e, hW⟩ => cellsAt hW 2⟩
    have hTb : 0 ≤ (if v = true then tt else tf) ∧ (if v = true then tt else tf) ≤ 1099511627776 := by split <;> assumption
    generalize (if v = true then tt else tf) = T at *
    have hpi : (p : Int) < 2 := by omega
    have hp' := Lib.hid hp
    have hT' := Lib.hid hT
    clear hvt hp hT
    cases oth
    · simp only [Bool.false_eq_true, if_false]
      go_enter Tryz.func30, Tryz.ntmps30
      go_wp2_with fail
      have HW := sets_block (sets_block (sets_block h'.out 5 (.int .i64 (min (max now la) 1099511627776))) 3 (.bool true)) 4 (.int .i64 (min (max now la) 1099511627776))
      have MW := (((Mod.refl (fun i => i = g) w).setCell (p := ⟨g, 5, none⟩) (.inl rfl) (.int .i64 (min (max now la) 1099511627776))).setCell (p := ⟨g, 3, none⟩) (.inl rfl) (.bool true)).setCell (p := ⟨g, 4, none⟩) (.inl rfl) (.int .i64 (min (max now la) 1099511627776))
      generalize ((w.setCell ⟨g, 5, none⟩ (.int .i64 (min (max now la) 1099511627776))).setCell ⟨g, 3, none⟩ (.bool true)).setCell ⟨g, 4, none⟩ (.int .i64 (min (max now la) 1099511627776)) = W at *
      have HW : W.heap[g]? = some (.cells #[.bool c, .int .i64 tf, .int .i64 tt, .bool true, .int .i64 (min (max now la) 1099511627776), .int .i64 (min (max now la) 1099511627776)] 119 (0, 0)) := by simpa using HW
      have k0 := cellsAt HW
      have HT := hT'.out W ⟨_, _, _, _, HW⟩
      clear c0 c1 c2 c3 c4 c5 f0 f3 f4 f5
      have c0 : W.cell? ⟨g, 0, none⟩ = some (.bool c) := k0 0
      have c4 : W.cell? ⟨g, 4, none⟩ = some (.int .i64 (min (max now la) 1099511627776)) := k0 4
      have c3 : W.cell? ⟨g, 3, none⟩ = some (.bool true) := k0 3
      have w0 : IntKind.i64.wrap 0 = 0 := by decide
      have f0 := frozenIn HW 0
      have f3 := frozenIn HW 3
      have f4 := frozenIn HW 4
      have HW' := Lib.hid HW
      have MW' := Lib.hid MW
      have gW := lt_of_block HW
      clear k0 HW MW h'
      have d0 : ∀ w', w' = W.drew → w'.cell? ⟨g, 4, none⟩ = some (.int .i64 (min (max now la) 1099511627776)) := fun w' e => by subst e; exact c4
      have d1 : ∀ w', w' = W.drew → w'.cell? ⟨g, 1 + p, none⟩ = some (.int .i64 T) := fun w' e => by subst e; exact HT
      refine wp_region_held_drew (S := fun w' => w' = W.drew) (by kernel_rfl) rfl (fun hHeld => ?_)
      refine tk 0 ?_
      try simp only [Act.put, gA, gC, List.setIfInBounds_toArray, gE, gF]
      refine tk 1 ?_
      try simp only [Act.put, gA, gB, gC, List.setIfInBounds_toArray, gE, gF]
      refine tk 2 ?_
      try simp only [Act.put, gA, gB, gC, List.setIfInBounds_toArray, gE, gF]
      refine tk 3 ?_
      try simp only [Act.put, gA, gB, gC, List.setIfInBounds_toArray, gE, gF]
      refine tk 4 ?_
      try simp only [Act.put, gA, gB, gC, List.setIfInBounds_toArray, gE, gF]
      refine tk 5 ?_
      try simp only [Act.put, gA, gB, gC, List.setIfInBounds_toArray, gE, gF]
      refine tk 6 ?_
      try simp only [Act.put, gA, gB, gC, List.setIfInBounds_toArray, gE, gF]
      refine tk 7 ?_
      try simp only [Act.put, gA, gB, gC, List.setIfInBounds_toArray, gE, gF]
      refine tk 9 ?_
      try simp only [Act.put, gA, gB, gC, List.setIfInBounds_toArray, gE, gF]
      refine tk 10 ?_
      try simp only [Act.put, gA, gB, gC, List.setIfInBounds_toArray, gE, gF]
      refine wpAnyH_ready (rs := [8]) (by kernel_rfl) (by simp) ?_
      refine AllReadyH.cons rfl (fun Kz hKz => ?_) ?_
      rotate_left
      · exact AllReadyH.nil
      go_simp
      go_at_call 62
      refine (place_any v _).mono ?_
      rintro e w' ⟨rfl, rfl⟩
      rw [hp'.out]
      try dsimp only
      refine hKz.out _ _ ?_ (fun hHeld => ?_)
      · first | assumption | (dsimp only; assumption)
      clear hKz Kz
      try simp only [Act.put, gA, gB, gC, List.setIfInBounds_toArray, gE, gF]
      refine tk 11 ?_
      try simp only [Act.put, gA, gB, gC, List.setIfInBounds_toArray, gE, gF]
      refine tk 12 ?_
      try simp only [Act.put, gA, gB, gC, List.setIfInBounds_toArray, gE, gF]
      refine tk 13 ?_
      try simp only [Act.put, gA, gB, gC, List.setIfInBounds_toArray, gE, gF]
      refine wpAnyH_done (by kernel_rfl) ?_ _
      clear d0 d1 hHeld
      by_cases ht : T ≤ 0
      · have ht1 : decide (T ≤ 0) = true := decide_eq_true ht
        go_wp2_with fail
        go_ret
        exact ⟨rfl, by have := sets_block (sets_block (sets_block HW'.out 0 (.bool v)) 3 (.bool false)) 4 (.int .i64 0); simp at this; exact this, (((MW'.out.setCell (p := ⟨g, 0, none⟩) (.inl rfl) _).setCell (p := ⟨g, 3, none⟩) (.inl rfl) _).setCell (p := ⟨g, 4, none⟩) (.inl rfl) _).drew⟩
      · have ht1 : decide (T ≤ 0) = false := decide_eq_false ht
        go_wp2_with fail
        go_ret
        exact ⟨rfl, HW'.out, MW'.out.drew⟩
    · simp only [if_true]
      go_enter Tryz.func30, Tryz.ntmps30
      go_wp2_with fail
      have HW := sets_block h'.out 5 (.int .i64 (min (max now la) 1099511627776))
      have MW := (Mod.refl (fun i => i = g) w).setCell (p := ⟨g, 5, none⟩) (.inl rfl) (.int .i64 (min (max now la) 1099511627776))
      generalize w.setCell ⟨g, 5, none⟩ (.int .i64 (min (max now la) 1099511627776)) = W at *
      have HW : W.heap[g]? = some (.cells #[.bool c, .int .i64 tf, .int .i64 tt, .bool true, .int .i64 si, .int .i64 (min (max now la) 1099511627776)] 119 (0, 0)) := by simpa using HW
      have k0 := cellsAt HW
      have HT := hT'.out W ⟨_, _, _, _, HW⟩
      clear c0 c1 c2 c3 c4 c5 f0 f3 f4 f5
      have c0 : W.cell? ⟨g, 0, none⟩ = some (.bool c) := k0 0
      have c4 : W.cell? ⟨g, 4, none⟩ = some (.int .i64 si) := k0 4
      have c3 : W.cell? ⟨g, 3, none⟩ = some (.bool true) := k0 3
      have w0 : IntKind.i64.wrap ((min (max now la) 1099511627776) - si) = (min (max now la) 1099511627776) - si := Go.IntWalk.i64_in _ ⟨by omega, by omega⟩
      have f0 := frozenIn HW 0
      have f3 := frozenIn HW 3
      have f4 := frozenIn HW 4
      have HW' := Lib.hid HW
      have MW' := Lib.hid MW
      have gW := lt_of_block HW
      clear k0 HW MW h'
      have d0 : ∀ w', w' = W.drew → w'.cell? ⟨g, 4, none⟩ = some (.int .i64 si) := fun w' e => by subst e; exact c4
      have d1 : ∀ w', w' = W.drew → w'.cell? ⟨g, 1 + p, none⟩ = some (.int .i64 T) := fun w' e => by subst e; exact HT
      refine wp_region_held_drew (S := fun w' => w' = W.drew) (by kernel_rfl) rfl (fun hHeld => ?_)
      refine tk 0 ?_
      try simp only [Act.put, gA, gC, List.setIfInBounds_toArray, gE, gF]
      refine tk 1 ?_
      try simp only [Act.put, gA, gB, gC, List.setIfInBounds_toArray, gE, gF]
      refine tk 2 ?_
      try simp only [Act.put, gA, gB, gC, List.setIfInBounds_toArray, gE, gF]
      refine tk 3 ?_
      try simp only [Act.put, gA, gB, gC, List.setIfInBounds_toArray, gE, gF]
      refine tk 4 ?_
      try simp only [Act.put, gA, gB, gC, List.setIfInBounds_toArray, gE, gF]
      refine tk 5 ?_
      try simp only [Act.put, gA, gB, gC, List.setIfInBounds_toArray, gE, gF]
      refine tk 6 ?_
      try simp only [Act.put, gA, gB, gC, List.setIfInBounds_toArray, gE, gF]
      refine tk 7 ?_
      try simp only [Act.put, gA, gB, gC, List.setIfInBounds_toArray, gE, gF]
      refine tk 9 ?_
      try simp only [Act.put, gA, gB, gC, List.setIfInBounds_toArray, gE, gF]
      refine tk 10 ?_
      try simp only [Act.put, gA, gB, gC, List.setIfInBounds_toArray, gE, gF]
      refine wpAnyH_ready (rs := [8]) (by kernel_rfl) (by simp) ?_
      refine AllReadyH.cons rfl (fun Kz hKz => ?_) ?_
      rotate_left
      · exact AllReadyH.nil
      go_simp
      go_at_call 62
      refine (place_any v _).mono ?_
      rintro e w' ⟨rfl, rfl⟩
      rw [hp'.out]
      try dsimp only
      refine hKz.out _ _ ?_ (fun hHeld => ?_)
      · first | assumption | (dsimp only; assumption)
      clear hKz Kz
      try simp only [Act.put, gA, gB, gC, List.setIfInBounds_toArray, gE, gF]
      refine tk 11 ?_
      try simp only [Act.put, gA, gB, gC, List.setIfInBounds_toArray, gE, gF]
      refine tk 12 ?_
      try simp only [Act.put, gA, gB, gC, List.setIfInBounds_toArray, gE, gF]
      refine tk 13 ?_
      try simp only [Act.put, gA, gB, gC, List.setIfInBounds_toArray, gE, gF]
      refine wpAnyH_done (by kernel_rfl) ?_ _
      clear d0 d1 hHeld
      by_cases ht : T ≤ (min (max now la) 1099511627776) - si
      · have ht1 : decide (T ≤ (min (max now la) 1099511627776) - si) = true := decide_eq_true ht
        go_wp2_with fail
        go_ret
        exact ⟨rfl, by have := sets_block (sets_block (sets_block HW'.out 0 (.bool v)) 3 (.bool false)) 4 (.int .i64 0); simp at this; exact this, (((MW'.out.setCell (p := ⟨g, 0, none⟩) (.inl rfl) _).setCell (p := ⟨g, 3, none⟩) (.inl rfl) _).setCell (p := ⟨g, 4, none⟩) (.inl rfl) _).drew⟩
      · have ht1 : decide (T ≤ (min (max now la) 1099511627776) - si) = false := decide_eq_false ht
        go_wp2_with fail
        go_ret
        exact ⟨rfl, HW'.out, MW'.out.drew⟩
set_option maxRecDepth 100000 in
theorem delayValue_any (g : Nat) (d : Dl) (w : World) (h : HasDl w g d) : Calls Tryz.prog 67 #[.pointer (some ⟨g, 0, none⟩)] w fun e w' => e = .returned (.bool d.cnt) ∧ w = w' := by
  have hg := lt_of_block h
  have c0 : w.cell? ⟨g, 0, none⟩ = some (.bool d.cnt) := cellsAt h 0
  clear h
  go_enter Tryz.func67, Tryz.ntmps67
  go_wp2_with fail
  go_ret
  exact ⟨rfl, rfl⟩
end Go.Proofs.YtgajbgdkgelkgaaGreat
namespace Go.Proofs.YtgajbgdkgelkgaaGreat
open Go.RowKit

abbrev Vin := Bool × Bool × Bool
def inCells (x : Vin) : List Value := [.bool x.1, .bool x.2.1, .bool x.2.2]
def inVal (x : Vin) : Value := .agg #[.bool x.1, .bool x.2.1, .bool x.2.2]
def votesB (x : Vin) : Bool := !x.2.2
def yesB (x : Vin) : Bool := !x.2.2 && (x.1 || x.2.1)
set_option maxRecDepth 100000 in
theorem votes_any (x : Vin) (w : World) : Calls Tryz.prog 97 #[.agg #[.bool x.1, .bool x.2.1, .bool x.2.2]] w fun e w' => e = .returned (.bool (votesB x)) ∧ Ext w w' := by
  obtain ⟨a, b, c⟩ := x
  unfold votesB
  cases c
  all_goals
    go_enter Tryz.func97, Tryz.ntmps97
    go_wp2_with fail
    go_ret
    exact ⟨rfl, (Ext.refl w).goA _⟩
set_option maxRecDepth 100000 in
set_option maxHeartbeats 800000 in
theorem yes_any (x : Vin) (w : World) : Calls Tryz.prog 98 #[.agg #[.bool x.1, .bool x.2.1, .bool x.2.2]] w fun e w' => e = .returned (.bool (yesB x)) ∧ Ext w w' := by
  obtain ⟨a, b, c⟩ := x
  unfold yesB
  cases a <;> cases b <;> cases c
  all_goals
    go_enter Tryz.func98, Tryz.ntmps98
    go_wp2_with (go_at_call 97; refine (votes_any (_, _, _) _).mono ?_; unfold votesB; rintro e w1 ⟨rfl, E1⟩; have k := cellsAt ((E1.block w.heap.size (by simp)).trans (heap_alloc_new w _)); have k0 := k 0; have k1 := k 1; simp at k0 k1; clear k)
    go_ret
    exact ⟨rfl, ((Ext.refl w).goA _).go E1⟩
set_option maxRecDepth 100000 in
theorem need_any (a b : Int) (w : World) : Calls Tryz.prog 99 #[.int .i64 a, .int .i64 b] w fun e w' => e = .returned (.int .i64 (min (max a 1) b)) ∧ w = w' := by
  go_enter Tryz.func99, Tryz.ntmps99
  go_wp2_with fail
  go_ret
  exact ⟨rfl, rfl⟩
set_option maxRecDepth 100000 in
set_option maxHeartbeats 1600000 in
theorem many_votes (A : Option Addr) (n c : Nat) (xs : List Vin) (w : World) (hx : RdC inCells 3 w w.heap.size A n xs) (hn : n ≤ 100000) :
    Calls Tryz.prog 96 #[.slice A n c, .func (.func 97) #[] #[]] w fun e w' => e = .returned (.int .i64 (xs.countP votesB : Nat)) ∧ Ext w w' := by
  have hx' := Lib.hid hx
  have hl := Lib.hid hx.len
  clear hx
  go_enter Tryz.func96, Tryz.ntmps96
  go_wp2_with fail
  go_loopw [5, 10] (fun u i wr => ∃ k q : Nat, k ≤ n ∧ i = .int .i64 k ∧ u = .int .i64 q ∧ q ≤ k ∧ q = (xs.take k).countP votesB ∧ Ext w wr) (fun _ i _ => n - (intOf i).toNat)
  case atStart => exact ⟨0, 0, by omega, rfl, rfl, by omega, by simp, Ext.refl _⟩
  case round =>
    obtain ⟨k, q, hk, rfl, rfl, hqk, hq, E⟩ := hrel
    have hq' := Lib.hid hq
    have E' := Lib.hid E
    clear hq E
    by_cases hlt : k < n
    · have e3 : (k : Int) < (n : Int) := by omega
      obtain ⟨x, hx⟩ := hx'.out.get hlt
      obtain ⟨b, o, rfl, hb, hc⟩ := hx'.out.at_ hx
      obtain ⟨x0, x1, x2⟩ := x
      have cx0 : wr.cell? ⟨b, o + k * 3, none⟩ = some (.bool x0) := (E'.out.cell _ hb).trans (hc 0 (by decide))
      have cx1 : wr.cell? ⟨b, o + k * 3 + 1, none⟩ = some (.bool x1) := (E'.out.cell _ hb).trans (hc 1 (by decide))
      have cx2 : wr.cell? ⟨b, o + k * 3 + 2, none⟩ = some (.bool x2) := (E'.out.cell _ hb).trans (hc 2 (by decide))
      have hcnt : (xs.take (k + 1)).countP votesB = q + if votesB (x0, x1, x2) = true then 1 else 0 := by
        rw [List.take_add_one, hx, List.countP_append, hq'.out]
        simp [List.countP_cons]
      have hcnt' := Lib.hid hcnt
      clear hx hb hc hcnt
      cases hp : votesB (x0, x1, x2)
      · rw [hp] at hcnt'
        go_wp2_with (go_at_call 97; refine (votes_any (x0, x1, x2) _).mono ?_; rw [hp]; rintro e w1 ⟨rfl, E1⟩)
        go_roundw
        case rel => exact ⟨k + 1, q, by omega, by go_num, rfl, by omega, hcnt'.out.symm, (E'.out.goA _).go E1⟩
        case measure => simp [intOf]; omega
      · rw [hp] at hcnt'
        go_wp2_with (go_at_call 97; refine (votes_any (x0, x1, x2) _).mono ?_; rw [hp]; rintro e w1 ⟨rfl, E1⟩)
        go_roundw
        case rel => exact ⟨k + 1, q + 1, by omega, by go_num, by go_num, by omega, hcnt'.out.symm, (E'.out.goA _).go E1⟩
        case measure => simp [intOf]; omega
    · obtain rfl : k = n := by omega
      go_wp2_with fail
      go_ret
      exact ⟨by rw [hq'.out, List.take_of_length_le (by rw [hl.out]; exact Nat.le_refl _)]; rfl, E'.out⟩
set_option maxRecDepth 100000 in
set_option maxHeartbeats 1600000 in
theorem many_yes (A : Option Addr) (n c : Nat) (xs : List Vin) (w : World) (hx : RdC inCells 3 w w.heap.size A n xs) (hn : n ≤ 100000) :
    Calls Tryz.prog 96 #[.slice A n c, .func (.func 98) #[] #[]] w fun e w' => e = .returned (.int .i64 (xs.countP yesB : Nat)) ∧ Ext w w' := by
  have hx' := Lib.hid hx
  have hl := Lib.hid hx.len
  clear hx
  go_enter Tryz.func96, Tryz.ntmps96
  go_wp2_with fail
  go_loopw [5, 10] (fun u i wr => ∃ k q : Nat, k ≤ n ∧ i = .int .i64 k ∧ u = .int .i64 q ∧ q ≤ k ∧ q = (xs.take k).countP yesB ∧ Ext w wr) (fun _ i _ => n - (intOf i).toNat)
  case atStart => exact ⟨0, 0, by omega, rfl, rfl, by omega, by simp, Ext.refl _⟩
  case round =>
    obtain ⟨k, q, hk, rfl, rfl, hqk, hq, E⟩ := hrel
    have hq' := Lib.hid hq
    have E' := Lib.hid E
    clear hq E
    by_cases hlt : k < n
    · have e3 : (k : Int) < (n : Int) := by omega
      obtain ⟨x, hx⟩ := hx'.out.get hlt
      obtain ⟨b, o, rfl, hb, hc⟩ := hx'.out.at_ hx
      obtain ⟨x0, x1, x2⟩ := x
      have cx0 : wr.cell? ⟨b, o + k * 3, none⟩ = some (.bool x0) := (E'.out.cell _ hb).trans (hc 0 (by decide))
      have cx1 : wr.cell? ⟨b, o + k * 3 + 1, none⟩ = some (.bool x1) := (E'.out.cell _ hb).trans (hc 1 (by decide))
      have cx2 : wr.cell? ⟨b, o + k * 3 + 2, none⟩ = some (.bool x2) := (E'.out.cell _ hb).trans (hc 2 (by decide))
      have hcnt : (xs.take (k + 1)).countP yesB = q + if yesB (x0, x1, x2) = true then 1 else 0 := by
        rw [List.take_add_one, hx, List.countP_append, hq'.out]
        simp [List.countP_cons]
      have hcnt' := Lib.hid hcnt
      clear hx hb hc hcnt
      cases hp : yesB (x0, x1, x2)
      · rw [hp] at hcnt'
        go_wp2_with (go_at_call 98; refine (yes_any (x0, x1, x2) _).mono ?_; rw [hp]; rintro e w1 ⟨rfl, E1⟩)
        go_roundw
        case rel => exact ⟨k + 1, q, by omega, by go_num, rfl, by omega, hcnt'.out.symm, (E'.out.goA _).go E1⟩
        case measure => simp [intOf]; omega
      · rw [hp] at hcnt'
        go_wp2_with (go_at_call 98; refine (yes_any (x0, x1, x2) _).mono ?_; rw [hp]; rintro e w1 ⟨rfl, E1⟩)
        go_roundw
        case rel => exact ⟨k + 1, q + 1, by omega, by go_num, by go_num, by omega, hcnt'.out.symm, (E'.out.goA _).go E1⟩
        case measure => simp [intOf]; omega
    · obtain rfl : k = n := by omega
      go_wp2_with fail
      go_ret
      exact ⟨by rw [hq'.out, List.take_of_length_le (by rw [hl.out]; exact Nat.le_refl _)]; rfl, E'.out⟩
set_option maxRecDepth 100000 in
set_option maxHeartbeats 1600000 in
theorem voteTrips_any (wanted : Int) (A : Option Addr) (n c : Nat) (xs : List Vin) (w : World) (hx : RdC inCells 3 w w.heap.size A n xs) (hn : n ≤ 100000) :
    Calls Tryz.prog 68 #[.int .i64 wanted, .slice A n c] w fun e w' => e = .returned (.bool (voteB wanted xs)) ∧ Ext w w' := by
  have hv : voteB wanted xs = (decide ((0 : Int) < (xs.countP votesB : Nat)) && decide (min (max wanted 1) (xs.countP votesB : Nat) ≤ ((xs.countP yesB : Nat) : Int))) := by
    unfold voteB clampI
    congr 1
    · apply decide_eq_decide.2
      show 0 < xs.countP votesB ↔ _
      omega
  rw [hv]
  have hx' := Lib.hid hx
  have hq : xs.countP votesB ≤ n := by rw [← hx.len]; exact List.countP_le_length
  clear hx hv
  generalize hcv : xs.countP votesB = cv at *
  generalize hcy : xs.countP yesB = cy at *
  have hcv' := Lib.hid hcv
  have hcy' := Lib.hid hcy
  clear hcv hcy
  by_cases h0 : (0 : Int) < (cv : Int)
  · rw [show decide ((0 : Int) < (cv : Int)) = true from decide_eq_true h0, Bool.true_and]
    have d0 : decide ((0 : Int) < (cv : Int)) = true := decide_eq_true h0
    go_enter Tryz.func68, Tryz.ntmps68
    go_wp2_with fail
    refine (many_votes A n c xs w hx'.out hn).mono ?_
    rw [hcv'.out]
    rintro e w1 ⟨rfl, E1⟩
    dsimp only
    go_wp2_with fail
    refine (many_yes A n c xs w1 (hx'.out.ext E1) hn).mono ?_
    rw [hcy'.out]
    rintro e w2 ⟨rfl, E2⟩
    dsimp only
    by_cases h1 : min (max wanted 1) (cv : Int) ≤ (cy : Int)
    · have d1 : decide (min (max wanted 1) (cv : Int) ≤ (cy : Int)) = true := decide_eq_true h1
      go_wp2_with (go_at_call 99; refine (need_any _ _ _).mono ?_; rintro e w' ⟨rfl, rfl⟩)
      go_ret
      exact ⟨by rw [d1]; rfl, E1.go E2⟩
    · have d1 : decide (min (max wanted 1) (cv : Int) ≤ (cy : Int)) = false := decide_eq_false h1
      go_wp2_with (go_at_call 99; refine (need_any _ _ _).mono ?_; rintro e w' ⟨rfl, rfl⟩)
      go_ret
      exact ⟨by rw [d1]; rfl, E1.go E2⟩
  · rw [show decide ((0 : Int) < (cv : Int)) = false from decide_eq_false h0, Bool.false_and]
    have d0 : decide ((0 : Int) < (cv : Int)) = false := decide_eq_false h0
    go_enter Tryz.func68, Tryz.ntmps68
    go_wp2_with fail
    refine (many_votes A n c xs w hx'.out hn).mono ?_
    rw [hcv'.out]
    rintro e w1 ⟨rfl, E1⟩
    dsimp only
    go_wp2_with fail
    go_ret
    exact ⟨rfl, E1⟩
end Go.Proofs.YtgajbgdkgelkgaaGreat
