/- The reference of layer 6: its bank, walked: kind, Kind, New, Size, At, Put. · The reference of layer 6: its bank, walked: Put, New. -/
import Derived.Test.YtgagpalffdgjnaaBankDo
import Derived.Test.YtgagpalffdgjnaaG45f
import Derived.Test.YtgagpalffdgjnaaG61
import Derived.Deep.Cut
namespace Go.Proofs.Ytgagpalffdgjnaa
open Go.RowKit

theorem own_base {w : World} {b1 b2 n size : Nat} {e : TypeId} {v : Value} {xs : List Value} (h : w.ownsRow b1 e size v n xs) (hb : b2 ≤ b1) : w.ownsRow b2 e size v n xs := by
  refine ⟨h.1, ?_⟩
  rcases h.2 with h0 | ⟨g, cap, cur, rfl, h1, hg, h2⟩
  · exact .inl h0
  · exact .inr ⟨g, cap, cur, rfl, Nat.le_trans hb h1, hg, h2⟩
theorem own_keep6 {w w' : World} {base n size : Nat} {e : TypeId} {v : Value} {xs : List Value} (h : w.ownsRow base e size v n xs) (hk : ∀ b, v.ownBlock = some b → w'.heap[b]? = w.heap[b]?) : w'.ownsRow base e size v n xs := by
  refine ⟨h.1, ?_⟩
  rcases h.2 with h0 | ⟨g, cap, cur, rfl, hb, hg, h1⟩
  · exact .inl h0
  · exact .inr ⟨g, cap, cur, rfl, hb, (hk g rfl).trans hg, h1⟩
theorem own_put6 {w : World} {base n : Nat} {e : TypeId} {k : IntKind} {A : Option Addr} {c : Nat} {xs : List Int} (h : w.ownsRow base e 1 (.slice A n c) n (xs.map (Value.int k))) {j : Nat} (hj : j < n) :
    ∃ b, A = some ⟨b, 0, none⟩ ∧ base ≤ b ∧ b < w.heap.size ∧ w.cell? ⟨b, j, none⟩ = some (.int k (xs.getD j 0)) ∧ w.frozen? ⟨b, j, none⟩ = false ∧ ∀ v, (w.setCell ⟨b, j, none⟩ (.int k v)).ownsRow base e 1 (.slice A n c) n ((xs.set j v).map (Value.int k)) := by
  have hl : xs.length = n := by have := h.1; simpa using this
  rcases h.2 with ⟨h1, _⟩ | ⟨g, cap, cur, h1, hb, hg, _⟩
  · injection h1 with _ h1 _; omega
  · injection h1 with h1 h2 h3
    subst h1 h3
    refine ⟨g, rfl, hb, (Array.getElem?_eq_some_iff.1 hg).1, ?_, by simp [World.frozen?, hg], fun v => ?_⟩
    · rw [h.cellAt j (by omega), List.getElem?_map, List.getElem?_eq_getElem (by omega), List.getD_eq_getElem?_getD, List.getElem?_eq_getElem (by omega)]
      rfl
    · have := h.stored j (.int k v)
      rw [List.map_set]
      exact this.1
theorem own_type {w : World} {base n r : Nat} {e t : TypeId} {v : Value} {xs : List Value} {cs : Array Value} (h : w.ownsRow base e 1 v n xs) (hr : w.heap[r]? = some (.cells cs t (0, 0))) (ht : e ≠ t) : v.ownBlock ≠ some r := by
  intro hv
  rcases h.2 with ⟨rfl, _⟩ | ⟨g, cap, cur, rfl, _, hg, _⟩
  · cases hv
  · injection hv with hv
    subst hv
    rw [hg] at hr
    injection hr with hr
    injection hr with _ hr
    exact ht hr
/-- The reference's bank lies in block r; of each row the address and the capacity; all of it from block 'base' on. -/
structure Rk (w : World) (base r : Nat) (L : Nat → List Int) (A : Nat → Option Addr) (c : Nat → Nat) : Prop where
  head : w.heap[r]? = some (.cells #[.slice (A 0) (L 0).length (c 0), .slice (A 1) (L 1).length (c 1), .slice (A 2) (L 2).length (c 2), .slice (A 3) (L 3).length (c 3)] 138 (0, 0))
  own : ∀ k, k < 4 → w.ownsRow base 43 1 (.slice (A k) (L k).length (c k)) (L k).length ((L k).map (Value.int .u16))
  hb : base ≤ r
  len : ∀ k, (L k).length ≤ 256
  rng : ∀ (k j : Nat), 0 ≤ (L k)[j]?.getD 0 ∧ (L k)[j]?.getD 0 ≤ 65535
def HasRf (w : World) (base r : Nat) (L : Nat → List Int) : Prop := ∃ A c, Rk w base r L A c
section
variable {w w' : World} {base r : Nat} {L : Nat → List Int} {A : Nat → Option Addr} {c : Nat → Nat}
theorem Rk.lt (h : Rk w base r L A c) : r < w.heap.size := lt_of_block h.head
theorem Rk.keep (h : Rk w base r L A c) (hk : ∀ b, base ≤ b → b < w.heap.size → w'.heap[b]? = w.heap[b]?) : Rk w' base r L A c :=
  ⟨(hk r h.hb h.lt).trans h.head, fun k hk4 => own_keep6 (h.own k hk4) (fun b hb => hk b ((h.own k hk4).lt b hb).1 ((h.own k hk4).lt b hb).2), h.hb, h.len, h.rng⟩
theorem HasRf.ext (h : HasRf w base r L) (E : Ext w w') : HasRf w' base r L := by
  obtain ⟨A, c, h⟩ := h
  exact ⟨A, c, h.keep fun b _ hb => E.block b hb⟩
theorem HasRf.mod (h : HasRf w base r L) {S : Nat → Prop} (M : Mod S w w') (hs : ∀ b, S b → b < base) : HasRf w' base r L := by
  obtain ⟨A, c, h⟩ := h
  exact ⟨A, c, h.keep fun b h0 hb => M.block b hb (fun h => by have := hs b h; omega)⟩
theorem Rk.slot (h : Rk w base r L A c) {k : Nat} (hk : k < 4) : w.cell? ⟨r, k, none⟩ = some (.slice (A k) (L k).length (c k)) := by
  rw [cellsAt h.head]
  match k, hk with
  | 0, _ => rfl
  | 1, _ => rfl
  | 2, _ => rfl
  | 3, _ => rfl
/-- A row is written anew, in memory of its own. -/
theorem Rk.turn (h : Rk w base r L A c) {k : Nat} (hk : k < 4) {l : List Int} {A' : Option Addr} {c' : Nat} (hl : l.length = (L k).length) (hr : ∀ j : Nat, 0 ≤ l[j]?.getD 0 ∧ l[j]?.getD 0 ≤ 65535) {w3 : World} (h3 : ∀ b, b < w.heap.size → w3.heap[b]? = w.heap[b]?)
    (ho : w3.ownsRow w.heap.size 43 1 (.slice A' (L k).length c') (L k).length (l.map (Value.int .u16))) : HasRf (w3.setCell ⟨r, k, none⟩ (.slice A' (L k).length c')) base r (upd L k l) := by
  have hlt := h.lt
  have hkeep : ∀ b, b ≠ r → (w3.setCell ⟨r, k, none⟩ (.slice A' (L k).length c')).heap[b]? = w3.heap[b]? := fun b hb => Below.heap_setCell _ _ _ _ (by simpa using hb)
  have hr3 := (h3 r hlt).trans h.head
  have hul : ∀ j, (upd L k l j).length = (L j).length := fun j => by
    by_cases e : j = k
    · subst e; rw [upd_same, hl]
    · rw [upd_other _ _ e]
  refine ⟨fun j => if j = k then A' else A j, fun j => if j = k then c' else c j, ?_, fun j hj => ?_, h.hb, fun j => by rw [hul]; exact h.len j, fun j => ?_⟩
  · simp only [World.setCell, Array.getElem?_modify, hr3, if_true, Option.map_some, hul]
    rcases (show k = 0 ∨ k = 1 ∨ k = 2 ∨ k = 3 by omega) with rfl | rfl | rfl | rfl
    all_goals simp
  · rw [hul]
    by_cases e : j = k
    · subst e
      simp only [if_true, upd_same]
      exact own_base (own_keep6 ho (fun b hb => hkeep b (fun e => by subst e; have := (ho.lt b hb).1; omega))) (by have := h.hb; omega)
    · simp only [if_neg e, upd_other _ _ e]
      refine own_keep6 (h.own j hj) (fun b hb => ?_)
      have hbl := ((h.own j hj).lt b hb).2
      exact (hkeep b (fun e => by subst e; exact own_type (h.own j hj) h.head (by decide) hb)).trans (h3 b hbl)
  · by_cases e : j = k
    · subst e; rw [upd_same]; exact hr
    · rw [upd_other _ _ e]; exact h.rng j
end
set_option maxRecDepth 100000 in
theorem rfkind_any (k : Int) (w : World) : Calls Try.prog 57 #[.int .i64 k] w fun e w' => e = .returned (.bool (decide (0 ≤ k) && decide (k < 4))) ∧ w = w' := by
  by_cases h0 : 0 ≤ k
  · have f0 : decide (0 ≤ k) = true := by simp; exact h0
    rw [f0, Bool.true_and]
    go_enter Try.func57, Try.ntmps57
    go_wp2_with fail
    go_ret
    exact ⟨rfl, rfl⟩
  · have f0 : decide (0 ≤ k) = false := by simp; omega
    rw [f0, Bool.false_and]
    go_enter Try.func57, Try.ntmps57
    go_wp2_with fail
    go_ret
    exact ⟨rfl, rfl⟩
set_option maxRecDepth 100000 in
set_option maxHeartbeats 800000 in
theorem rfKind_any (fc : Int) (w : World) : Calls Try.prog 104 #[.int .i64 fc] w fun e w' => e = .returned (.int .i64 (kindN fc)) ∧ w = w' := by
  unfold kindN
  by_cases h1 : fc = 1
  · subst h1
    go_enter Try.func104, Try.ntmps104
    go_wp2_with fail
    go_ret
    exact ⟨rfl, rfl⟩
  by_cases h5 : fc = 5
  · subst h5
    go_enter Try.func104, Try.ntmps104
    go_wp2_with fail
    go_ret
    exact ⟨rfl, rfl⟩
  by_cases h15 : fc = 15
  · subst h15
    go_enter Try.func104, Try.ntmps104
    go_wp2_with fail
    go_ret
    exact ⟨rfl, rfl⟩
  by_cases h2 : fc = 2
  · subst h2
    go_enter Try.func104, Try.ntmps104
    go_wp2_with fail
    go_ret
    exact ⟨rfl, rfl⟩
  by_cases h4 : fc = 4
  · subst h4
    go_enter Try.func104, Try.ntmps104
    go_wp2_with fail
    go_ret
    exact ⟨rfl, rfl⟩
  · have f1 : (fc == 1) = false := by simpa using h1
    have f5 : (fc == 5) = false := by simpa using h5
    have f15 : (fc == 15) = false := by simpa using h15
    have f2 : (fc == 2) = false := by simpa using h2
    have f4 : (fc == 4) = false := by simpa using h4
    rw [if_neg (by omega), if_neg h2, if_neg h4]
    clear h1 h5 h15 h2 h4
    go_enter Try.func104, Try.ntmps104
    go_wp2_with fail
    go_ret
    exact ⟨rfl, rfl⟩
section
variable (base r : Nat) (L : Nat → List Int) (w : World)
/-- Where no place is. -/
theorem span_ways {L : Nat → List Int} {kd i : Int} (h : spanB L kd i 1 = false) : (decide (0 ≤ kd) && decide (kd < 4)) = false ∨ ((decide (0 ≤ kd) && decide (kd < 4)) = true ∧ decide (i < 0) = true) ∨ ∃ k f : Nat, kd = k ∧ i = f ∧ k < 4 ∧ (L k).length ≤ f := by
  by_cases hk : 0 ≤ kd ∧ kd < 4
  · right
    by_cases hi : i < 0
    · left; simp; omega
    · right
      obtain ⟨k, rfl⟩ := Int.eq_ofNat_of_zero_le hk.1
      obtain ⟨f, rfl⟩ := Int.eq_ofNat_of_zero_le (show 0 ≤ i by omega)
      refine ⟨k, f, rfl, rfl, by omega, ?_⟩
      unfold spanB at h
      rw [sizeB_of L k (by omega)] at h
      simp at h
      omega
  · left; simp; omega
set_option maxRecDepth 100000 in
set_option maxHeartbeats 1600000 in
theorem rfAt_any (kd i : Int) (hb : HasRf w base r L) :
    Calls Try.prog 36 #[.pointer (some ⟨r, 0, none⟩), .int .i64 kd, .int .i64 i] w fun e w' => e = .returned (.tuple #[.int .u16 (atB L kd i), .bool (spanB L kd i 1)]) ∧ w = w' := by
  obtain ⟨A, c, hb⟩ := hb
  have hk := rfkind_any kd w
  unfold atB
  cases h : spanB L kd i 1
  · rw [if_neg (by decide)]
    rcases span_ways h with h1 | ⟨h1, h2⟩ | ⟨k, f, rfl, rfl, hk4, hf⟩
    · rw [h1] at hk
      have hk' := Lib.hid hk
      clear hk hb h h1
      go_enter Try.func36, Try.ntmps36
      go_wp2_with fail
      refine hk'.out.mono ?_
      rintro e w1 ⟨rfl, rfl⟩
      go_wp2_with fail
      go_ret2
      exact ⟨rfl, rfl⟩
    · rw [h1] at hk
      have hk' := Lib.hid hk
      clear hk hb h h1
      go_enter Try.func36, Try.ntmps36
      go_wp2_with fail
      refine hk'.out.mono ?_
      rintro e w1 ⟨rfl, rfl⟩
      go_wp2_with fail
      go_ret2
      exact ⟨rfl, rfl⟩
    · rw [show (decide (0 ≤ (k : Int)) && decide ((k : Int) < 4)) = true by simp; omega] at hk
      have hc := hb.slot hk4
      have f1 : decide ((f : Int) < 0) = false := by simp
      have f2 : decide (((L k).length : Int) ≤ (f : Int)) = true := by simp; omega
      have f3 : decide ((L k).length ≤ f) = true := by simp; omega
      have hk' := Lib.hid hk
      clear hk hb h
      generalize (L k).length = n at *
      go_enter Try.func36, Try.ntmps36
      go_wp2_with fail
      refine hk'.out.mono ?_
      rintro e w1 ⟨rfl, rfl⟩
      go_wp2_with fail
      go_ret2
      exact ⟨rfl, rfl⟩
  · rw [if_pos rfl]
    obtain ⟨k, f, n, rfl, rfl, hn, hk4, hf, _⟩ := spanB_kind h (by omega)
    obtain rfl : n = 1 := by omega
    rw [show (decide (0 ≤ (k : Int)) && decide ((k : Int) < 4)) = true by simp; omega] at hk
    have hc := hb.slot hk4
    obtain ⟨b, hA, -, -, hcell, -, -⟩ := own_put6 (hb.own k hk4) (j := f) (by omega)
    rw [hA] at hc
    have f1 : decide ((f : Int) < 0) = false := by simp
    have f2 : decide (((L k).length : Int) ≤ (f : Int)) = false := by simp; omega
    have f3 : decide ((L k).length ≤ f) = false := by simp; omega
    have hk' := Lib.hid hk
    rw [Int.toNat_natCast, Int.toNat_natCast]
    generalize (L k).getD f 0 = v at *
    clear h hn hb hk hA
    generalize (L k).length = n at *
    go_enter Try.func36, Try.ntmps36
    go_wp2_with fail
    refine hk'.out.mono ?_
    rintro e w1 ⟨rfl, rfl⟩
    go_wp2_with fail
    go_ret2
    exact ⟨rfl, rfl⟩
end
end Go.Proofs.Ytgagpalffdgjnaa
namespace Go.Proofs.Ytgagpalffdgjnaa
open Go.RowKit

theorem putV_ways {k : Nat} {v : Int} (h0 : 0 ≤ v) (hk : k < 4) : (decide ((k : Int) < 2) = true ∧ decide (k < 2) = true ∧ (v != 0) = true ∧ putV k v = 1) ∨ (decide ((k : Int) < 2) = true ∧ decide (k < 2) = true ∧ (v != 0) = false ∧ putV k v = v) ∨ (decide ((k : Int) < 2) = false ∧ decide (k < 2) = false ∧ putV k v = v) := by
  unfold putV
  by_cases h2 : k < 2
  · rw [if_pos (by omega)]
    by_cases hv : v = 0
    · subst hv
      exact .inr (.inl ⟨by simp; omega, by simp; omega, by decide, by omega⟩)
    · exact .inl ⟨by simp; omega, by simp; omega, by simpa using hv, by omega⟩
  · rw [if_neg (by omega)]
    exact .inr (.inr ⟨by simp; omega, by simp; omega, rfl⟩)
theorem putV_range {kd v : Int} (h0 : 0 ≤ v) (h1 : v ≤ 65535) : 0 ≤ putV kd v ∧ putV kd v ≤ 65535 := by
  unfold putV
  split <;> omega
def RfPutPost (base r : Nat) (L : Nat → List Int) (kd i v : Int) (w : World) (e : Ending) (w' : World) : Prop :=
  e = .returned (.bool (spanB L kd i 1)) ∧ HasRf w' base r (putB L kd i v) ∧ Mod (fun b => b = r) w w'
section
variable (base r : Nat) (L : Nat → List Int) (w : World)
set_option maxRecDepth 100000 in
set_option maxHeartbeats 3200000 in
theorem rfPut_any (kd i v : Int) (hb : HasRf w base r L) (h0 : 0 ≤ v) (h1 : v ≤ 65535) :
    Calls Try.prog 25 #[.pointer (some ⟨r, 0, none⟩), .int .i64 kd, .int .i64 i, .int .u16 v] w (RfPutPost base r L kd i v w) := by
  have hb0 := hb
  obtain ⟨A, c, hb⟩ := hb
  have hk := rfkind_any kd w
  unfold RfPutPost putB
  cases h : spanB L kd i 1
  · rw [if_neg (by decide)]
    have hb0' := Lib.hid hb0
    clear hb0
    rcases span_ways h with g1 | ⟨g1, g2⟩ | ⟨k, f, rfl, rfl, hk4, hf⟩
    · rw [g1] at hk
      have hk' := Lib.hid hk
      clear hk hb h g1
      go_enter Try.func25, Try.ntmps25
      go_wp2_with fail
      refine hk'.out.mono ?_
      rintro e w1 ⟨rfl, rfl⟩
      go_wp2_with fail
      go_ret
      exact ⟨rfl, hb0'.out, Mod.refl _ _⟩
    · rw [g1] at hk
      have hk' := Lib.hid hk
      clear hk hb h g1
      go_enter Try.func25, Try.ntmps25
      go_wp2_with fail
      refine hk'.out.mono ?_
      rintro e w1 ⟨rfl, rfl⟩
      go_wp2_with fail
      go_ret
      exact ⟨rfl, hb0'.out, Mod.refl _ _⟩
    · rw [show (decide (0 ≤ (k : Int)) && decide ((k : Int) < 4)) = true by simp; omega] at hk
      have hc := hb.slot hk4
      have f1 : decide ((f : Int) < 0) = false := by simp
      have f2 : decide (((L k).length : Int) ≤ (f : Int)) = true := by simp; omega
      have f3 : decide ((L k).length ≤ f) = true := by simp; omega
      have hk' := Lib.hid hk
      clear hk hb h
      generalize (L k).length = n at *
      go_enter Try.func25, Try.ntmps25
      go_wp2_with fail
      refine hk'.out.mono ?_
      rintro e w1 ⟨rfl, rfl⟩
      go_wp2_with fail
      go_ret
      exact ⟨rfl, hb0'.out, Mod.refl _ _⟩
  · rw [if_pos rfl]
    obtain ⟨k, f, n1, rfl, rfl, hn, hk4, hf, _⟩ := spanB_kind h (by omega)
    obtain rfl : n1 = 1 := by omega
    rw [Int.toNat_natCast, Int.toNat_natCast]
    rw [show (decide (0 ≤ (k : Int)) && decide ((k : Int) < 4)) = true by simp; omega] at hk
    have hc := hb.slot hk4
    have hu := putV_ways h0 hk4
    have hur := putV_range (kd := k) h0 h1
    obtain ⟨Ar, cr, he, -, hr⟩ := own_rd (hb.own k hk4)
    injection he with e1 _ e3
    have hl256 := hb.len k
    have E1 := (Ext.refl w).goA (.cells #[] 43)
    have hc1 := (E1.cell k hb.lt).trans hc
    have hr1 := hr.ext E1
    rw [← e1] at hr1
    have hown := own_empty (w := w) (base := w.heap.size) 43 .u16 rfl (Nat.le_refl _)
    have hrl := hb.lt
    have hturn := fun (l : List Int) (A' : Option Addr) (c' : Nat) (w3 : World) => hb.turn hk4 (l := l) (A' := A') (c' := c') (w3 := w3)
    have hhead := hb.head
    have f1 : decide ((f : Int) < 0) = false := by simp
    have f2 : decide (((L k).length : Int) ≤ (f : Int)) = false := by simp; omega
    have f3 : decide ((L k).length ≤ f) = false := by simp; omega
    have hrange := hb.rng k
    have hk' := Lib.hid hk
    have hturn' := Lib.hid hturn
    have hhead' := Lib.hid hhead
    have hrange' := Lib.hid hrange
    have hu' := Lib.hid hu
    clear hk hb h hn hb0 hr e1 e3 hturn hhead hrange hu
    generalize hnl : (L k).length = n at *
    have hnl' := Lib.hid hnl
    clear hnl
    generalize L k = l0 at *
    generalize A k = Ak at *
    generalize c k = ck at *
    go_enter Try.func25, Try.ntmps25
    go_wp2_with fail
    refine hk'.out.mono ?_
    rintro e w1 ⟨rfl, rfl⟩
    go_upto_region 3 with fail
    clear f1 f2 f3 hk'
    have hg1 : ∀ w', Ext w w' → w'.heap[r]? = _ := fun w' E => (E.block r hrl).trans hhead'.out
    have hg1' := Lib.hid hg1
    have hfr : ∀ w' : World, w'.heap[r]? = some (.cells #[.slice (A 0) (L 0).length (c 0), .slice (A 1) (L 1).length (c 1), .slice (A 2) (L 2).length (c 2), .slice (A 3) (L 3).length (c 3)] 138 (0, 0)) → w'.frozen? ⟨r, k, none⟩ = false := fun w' h => by simp [World.frozen?, h]
    have hfr' := Lib.hid hfr
    clear hg1 hfr
    rcases hu'.out with ⟨d1, d2, d3, hue⟩ | ⟨d1, d2, d3, hue⟩ | ⟨d1, d2, hue⟩
    all_goals
      rw [hue] at hur
      have hue' := Lib.hid hue
      clear hue hu'
      go_wp2_with (at_builtin; refine wpList_appI rfl (.tmp 34) (.tmp 40) _ rfl Try.underlying28 info_u16 hown rfl hr1 rfl (by omega) (by omega) (by simp) ?_; intro v2 w2 own2 hg2 hat2)
      rw [List.nil_append, Nat.zero_add] at own2
      have E2 : Ext w w2 := E1.goG hg2 (fun i hi => by have hi' : some w.heap.size = some i := hi; injection hi' with hi'; omega)
      obtain ⟨A2, c2, rfl, ⟨g1, g2⟩, r2⟩ := own_rd own2
      obtain ⟨b2, rfl, hb2, hbl2, hcell2, hfr2, hset⟩ := own_put6 own2 (j := f) (by omega)
      have hfr4 := fun u => hfr'.out (w2.setCell ⟨b2, f, none⟩ u) ((Below.heap_setCell _ _ _ _ (by simp; omega)).trans (hg1'.out w2 E2))
      have hcl4 : ∀ u, (w2.setCell ⟨b2, f, none⟩ u).cell? ⟨r, k, none⟩ = some (.slice Ak n ck) := fun u => (World.cell?_of_block (a := ⟨r, k, none⟩) (Below.heap_setCell _ _ _ _ (by simp; omega))).trans ((E2.cell k hrl).trans hc)
      have hset' := Lib.hid hset
      have hfn : f < n := by omega
      have hfi : (f : Int) < (n : Int) := by omega
      have E2' := Lib.hid E2
      have hbn : b2 ≠ r := by omega
      clear hset r2 hg2 hat2 hc hc1 hr1 hown own2 E2
      go_wp2_with fail
      go_simp
      go_wp2_with fail
      go_ret
      rw [hue'.out]
      refine ⟨rfl, hturn'.out _ _ _ _ (by rw [List.length_set]; exact hnl'.out) (set_range hrange'.out f hur.1 hur.2) (fun b hb => (Below.heap_setCell _ _ _ _ (by simp; omega)).trans (E2'.out.block b hb)) (hset'.out _), ?_⟩
      exact Mod.setCell (S := fun b => b = r) (Mod.setCell (S := fun b => b = r) (Mod.ofBelow E2'.out) (p := ⟨b2, f, none⟩) (.inr hb2) _) (p := ⟨r, k, none⟩) (.inl rfl) _
end
def RfNewPost (a0 a1 a2 a3 : Int) (w : World) (e : Ending) (w' : World) : Prop := ∃ r, e = .returned (.pointer (some ⟨r, 0, none⟩)) ∧ HasRf w' w.heap.size r (newL a0 a1 a2 a3) ∧ Ext w w'
/-- The reference's bank of which the first k rows were made. -/
structure RfPart (w : World) (g : Nat) (L : Nat → List Int) (G : Nat → Nat) (k : Nat) : Prop where
  head : w.heap[g]? = some (.cells #[partV L G k 0, partV L G k 1, partV L G k 2, partV L G k 3] 138 (0, 0))
  rowAt : ∀ j, j < k → Blk w (G j) 43 .u16 (L j)
  up0 : ∀ j, j < k → g < G j
theorem RfPart.lt {w : World} {g : Nat} {L : Nat → List Int} {G : Nat → Nat} {k : Nat} (h : RfPart w g L G k) : g < w.heap.size := lt_of_block h.head
theorem RfPart.step {w w1 : World} {g : Nat} {L : Nat → List Int} {G : Nat → Nat} {k m : Nat} (h : RfPart w g L G k) (hk : k < 4) (hL : L k = zs m)
    (hw : w1.heap = ((w.setCell ⟨g, k, none⟩ (.slice (some ⟨w.heap.size, 0, none⟩) m m)).alloc (.cells (row .u16 (zs m)) 43)).heap) : RfPart w1 g L (fun j => if j = k then w.heap.size else G j) (k + 1) := by
  have hg := h.lt
  have hold : ∀ b, b < w.heap.size → b ≠ g → w1.heap[b]? = w.heap[b]? := fun b hb hn => by
    rw [hw, alloc_get, setCell_sizeB, if_neg (by omega), Below.heap_setCell _ _ _ _ (by simpa using hn)]
  refine ⟨?_, fun j hj => ?_, fun j hj => ?_⟩
  · have h0 := h.head
    rw [hw, alloc_get, setCell_sizeB, if_neg (by omega)]
    simp only [World.setCell, Array.getElem?_modify, h0, if_true, Option.map_some]
    congr 2
    unfold partV slotV
    rcases (show k = 0 ∨ k = 1 ∨ k = 2 ∨ k = 3 by omega) with rfl | rfl | rfl | rfl
    all_goals simp [hL, zs_length]
  · by_cases e : j = k
    · subst e
      simp only [if_true]
      rw [hL]
      unfold Blk
      rw [hw, alloc_get, setCell_sizeB, if_pos rfl]
    · simp only [if_neg e]
      have hj' : j < k := by omega
      have := h.rowAt j hj'
      exact (hold (G j) this.lt (by have := h.up0 j hj'; omega)).trans this
  · by_cases e : j = k
    · simp only [if_pos e]; exact hg
    · simp only [if_neg e]; exact h.up0 j (by omega)
theorem RfPart.whole {w : World} {g base : Nat} {a0 a1 a2 a3 : Int} {G : Nat → Nat} (h : RfPart w g (newL a0 a1 a2 a3) G 4) (hb : base ≤ g) : HasRf w base g (newL a0 a1 a2 a3) :=
  ⟨fun k => some ⟨G k, 0, none⟩, fun k => (newL a0 a1 a2 a3 k).length, by have := h.head; simpa [partV, slotV] using this, fun k hk => (h.rowAt k hk).own (by have := h.up0 k hk; omega) rfl (by unfold newL; rw [zs_length]; have := clampN_le (sz4 a0 a1 a2 a3 k); omega), hb, fun k => by unfold newL; rw [zs_length]; exact clampN_le _, fun k => zs_range _⟩
set_option maxRecDepth 100000 in
set_option maxHeartbeats 3200000 in
theorem rfNew_any (a0 a1 a2 a3 : Int) (w : World) :
    Calls Try.prog 24 #[.agg #[.int .i64 a0, .int .i64 a1, .int .i64 a2, .int .i64 a3]] w (RfNewPost a0 a1 a2 a3 w) := by
  have hb0 := heap_alloc_new w (.cells #[.int .i64 a0, .int .i64 a1, .int .i64 a2, .int .i64 a3] 69)
  have hb0' := Lib.hid hb0
  clear hb0
  go_enter Try.func24, Try.ntmps24
  go_wp2
  go_loopw [4] (fun i wr => ∃ k : Nat, k ≤ 4 ∧ i = .int .i64 k ∧ ∃ G, RfPart wr (w.heap.size + 1) (newL a0 a1 a2 a3) G k ∧ Ext (w.alloc (.cells #[.int .i64 a0, .int .i64 a1, .int .i64 a2, .int .i64 a3] 69)) wr) (fun i _ => 4 - (intOf i).toNat)
  case atStart => exact ⟨0, by omega, rfl, fun _ => 0, ⟨by rw [alloc_get, if_pos (by simp)]; rfl, fun j hj => absurd hj (by omega), fun j hj => absurd hj (by omega)⟩, (Ext.refl _).goA _⟩
  case round =>
    obtain ⟨k, hk, rfl, G, hp, hE⟩ := hrel
    have hE0 : Ext w wr := ((Ext.refl w).goA _).go hE
    by_cases hlt : k < 4
    · have hL : newL a0 a1 a2 a3 k = zs (clampN (sz4 a0 a1 a2 a3 k)) := rfl
      have hL' := Lib.hid hL
      have hq : ∀ w', Ext (w.alloc (.cells #[.int .i64 a0, .int .i64 a1, .int .i64 a2, .int .i64 a3] 69)) w' → w'.cell? ⟨w.heap.size, k, none⟩ = some (.int .i64 (sz4 a0 a1 a2 a3 k)) := fun w' D => by
        rw [cellsAt ((D.block w.heap.size (by simp)).trans hb0'.out)]
        rcases (show k = 0 ∨ k = 1 ∨ k = 2 ∨ k = 3 by omega) with rfl | rfl | rfl | rfl <;> rfl
      have hm := clampN_le (sz4 a0 a1 a2 a3 k)
      have hmk := fun w => run_mkI Try.underlying28 info_u16 (min (max (sz4 a0 a1 a2 a3 k) 0) 256) (clampN (sz4 a0 a1 a2 a3 k)) (by unfold clampN; omega) (by omega) (by omega) w
      clear hL
      generalize sz4 a0 a1 a2 a3 k = x at *
      generalize hc : clampN x = m at *
      go_wp2
      have d0 : Ext (w.alloc (.cells #[.int .i64 a0, .int .i64 a1, .int .i64 a2, .int .i64 a3] 69)) wr.drew := hE.god
      have hg := hp.lt
      have hp' := Lib.hid hp
      have hc1 : wr.frozen? ⟨w.heap.size + 1, k, none⟩ = false := by have := hp.head; simp [World.frozen?, this]
      have hc0 : ∃ v, wr.cell? ⟨w.heap.size + 1, k, none⟩ = some v := by
        rw [cellsAt hp.head]
        rcases (show k = 0 ∨ k = 1 ∨ k = 2 ∨ k = 3 by omega) with rfl | rfl | rfl | rfl <;> exact ⟨_, rfl⟩
      obtain ⟨v0, hc0⟩ := hc0
      clear hp
      refine wp_region_held_drew (S := fun w' => Ext (w.alloc (.cells #[.int .i64 a0, .int .i64 a1, .int .i64 a2, .int .i64 a3] 69)) w') (by kernel_rfl) d0 (fun hHeld => ?_)
      refine tk 0 ?_
      try simp only [Act.put, gA, gC, List.setIfInBounds_toArray, gE, gF]
      refine tk 1 ?_
      try simp only [Act.put, gA, gB, gC, List.setIfInBounds_toArray, gE, gF]
      refine tk 2 ?_
      try simp only [Act.put, gA, gB, gC, List.setIfInBounds_toArray, gE, gF]
      refine tk 3 ?_
      try simp only [Act.put, gA, gB, gC, List.setIfInBounds_toArray, gE, gF]
      refine tk 4 ?_
      try simp only [Act.put, gA, gB, gC, List.setIfInBounds_toArray, gE, gF]
      refine tk 5 ?_
      try simp only [Act.put, gA, gB, gC, List.setIfInBounds_toArray, gE, gF]
      refine tk 6 ?_
      try simp only [Act.put, gA, gB, gC, List.setIfInBounds_toArray, gE, gF]
      refine tk 8 ?_
      try simp only [Act.put, gA, gB, gC, List.setIfInBounds_toArray, gE, gF]
      refine tk 9 ?_
      try simp only [Act.put, gA, gB, gC, List.setIfInBounds_toArray, gE, gF]
      refine wpAnyH_ready (rs := [7]) (by kernel_rfl) (by simp) ?_
      refine AllReadyH.cons rfl (fun K hK => ?_) ?_
      rotate_left
      · exact AllReadyH.nil
      go_simp
      refine hK.out _ _ ?_ (fun hHeld => ?_)
      · exact d0.goA _
      clear hK K
      try simp only [Act.put, gA, gB, gC, List.setIfInBounds_toArray, gE, gF]
      refine tk 10 ?_
      try simp only [Act.put, gA, gB, gC, List.setIfInBounds_toArray, gE, gF]
      refine wpAnyH_ready (rs := [11]) (by kernel_rfl) (by simp) ?_
      refine AllReadyH.cons rfl (fun K hK => ?_) ?_
      rotate_left
      · exact AllReadyH.nil
      go_simp
      refine hK.out _ _ ?_ (fun hHeld => ?_)
      · exact ((hE.goS (by simp) _).goA _).god
      clear hK K
      try simp only [Act.put, gA, gB, gC, List.setIfInBounds_toArray, gE, gF]
      refine wpAnyH_done (by kernel_rfl) ?_ _
      go_wp2_with fail
      go_roundw
      case rel =>
        refine ⟨k + 1, by omega, by go_num, _, hp'.out.step hlt hL'.out rfl, ?_⟩
        exact ((hE.goS (by simp) _).goA _).god
      case measure => simp [intOf]; omega
    · obtain rfl : k = 4 := by omega
      go_wp2
      go_ret
      exact ⟨_, rfl, hp.whole (by omega), hE0⟩
end Go.Proofs.Ytgagpalffdgjnaa
