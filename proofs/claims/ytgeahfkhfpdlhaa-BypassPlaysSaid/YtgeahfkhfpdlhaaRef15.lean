/- The reference of layer 15: its table, walked. (Printed by wip/gen/ref15.py.) -/
import Derived.Test.YtgeahfkhfpdlhaaBypE
import Derived.Laws.OwnMore
namespace Go.Proofs.Ytgeahfkhfpdlhaa
open Go.RowKit

theorem own_keep {w w' : World} {base n size : Nat} {e : TypeId} {v : Value} {xs : List Value} (h : w.ownsRow base e size v n xs) (hk : ∀ b, base ≤ b → b < w.heap.size → w'.heap[b]? = w.heap[b]?) : w'.ownsRow base e size v n xs := by
  refine ⟨h.1, ?_⟩
  rcases h.2 with h0 | ⟨g, cap, cur, rfl, hb, hg, h1⟩
  · exact .inl h0
  · exact .inr ⟨g, cap, cur, rfl, hb, (hk g hb (Array.getElem?_eq_some_iff.1 hg).1).trans hg, h1⟩
theorem own_put {w : World} {base n : Nat} {e : TypeId} {k : IntKind} {A : Option Addr} {c : Nat} {xs : List Int} (h : w.ownsRow base e 1 (.slice A n c) n (xs.map (Value.int k))) {j : Nat} (hj : j < n) (v : Int) :
    ∃ b, A = some ⟨b, 0, none⟩ ∧ base ≤ b ∧ b < w.heap.size ∧ w.cell? ⟨b, j, none⟩ = some (.int k (xs.getD j 0)) ∧ w.frozen? ⟨b, j, none⟩ = false ∧ (w.setCell ⟨b, j, none⟩ (.int k v)).ownsRow base e 1 (.slice A n c) n ((xs.set j v).map (Value.int k)) := by
  have hl : xs.length = n := by have := h.1; simpa using this
  rcases h.2 with ⟨h1, _⟩ | ⟨g, cap, cur, h1, hb, hg, _⟩
  · injection h1 with _ h1 _; omega
  · injection h1 with h1 h2 h3
    subst h1 h3
    refine ⟨g, rfl, hb, (Array.getElem?_eq_some_iff.1 hg).1, ?_, by simp [World.frozen?, hg], ?_⟩
    · rw [h.cellAt j (by omega), List.getElem?_map, List.getElem?_eq_getElem (by omega), List.getD_eq_getElem?_getD, List.getElem?_eq_getElem (by omega)]
      rfl
    · have := h.stored j (.int k v)
      rw [List.map_set]
      exact this.1
/-- The reference's table lies in block h: its limits, its ends; all of it from block 'base' on. -/
structure Rt (w : World) (h base : Nat) (Al Ae : Option Addr) (cl ce : Nat) (lims E : List Int) : Prop where
  head : w.heap[h]? = some (.cells #[.slice Al lims.length cl, .slice Ae E.length ce] 125 (0, 0))
  row : RdI w w.heap.size .i64 Al lims.length lims
  ends : w.ownsRow base 2 1 (.slice Ae E.length ce) E.length (E.map (Value.int .i64))
  len : E.length = lims.length
  hb : base ≤ h
  lb : 0 < lims.length → ∀ b o, Al = some ⟨b, o, none⟩ → base ≤ b ∧ b ≠ h ∧ (Value.slice Ae E.length ce).ownBlock ≠ some b
  n1 : (Value.slice Ae E.length ce).ownBlock ≠ some h
  capl : lims.length ≤ cl ∧ cl ≤ maxLen
  cape : E.length ≤ ce ∧ ce ≤ maxLen
  rng : RngE E
section
variable {w w' : World} {h base cl ce : Nat} {Al Ae : Option Addr} {lims E : List Int}
theorem Rt.keep (t : Rt w h base Al Ae cl ce lims E) (hs : w.heap.size ≤ w'.heap.size) (hk : ∀ b, base ≤ b → b < w.heap.size → w'.heap[b]? = w.heap[b]?) : Rt w' h base Al Ae cl ce lims E :=
  ⟨(hk h t.hb (lt_of_block t.head)).trans t.head, ⟨t.row.1, fun hn => by
    obtain ⟨b, o, e, hb, hc⟩ := t.row.2 hn
    exact ⟨b, o, e, by omega, fun j hj => (World.cell?_of_block (a := ⟨b, o + j, none⟩) (hk b (t.lb hn b o e).1 hb)).trans (hc j hj)⟩⟩,
    own_keep t.ends hk, t.len, t.hb, t.lb, t.n1, t.capl, t.cape, t.rng⟩
theorem Rt.ext (t : Rt w h base Al Ae cl ce lims E) (D : Ext w w') : Rt w' h base Al Ae cl ce lims E := t.keep D.size fun b _ hb => D.block b hb
theorem Rt.mod (t : Rt w h base Al Ae cl ce lims E) {S : Nat → Prop} (M : Mod S w w') (hs : ∀ b, S b → b < base) : Rt w' h base Al Ae cl ce lims E := t.keep M.size fun b h0 hb => M.block b hb (fun h => by have := hs b h; omega)
/-- The blocks of a table. -/
def HasRt (h : Nat) (Al Ae : Option Addr) (nl n ce : Nat) (b : Nat) : Prop := b = h ∨ (0 < nl ∧ ∃ o, Al = some ⟨b, o, none⟩) ∨ (Value.slice Ae n ce).ownBlock = some b
theorem Rt.has (t : Rt w h base Al Ae cl ce lims E) {b : Nat} (hb : HasRt h Al Ae lims.length E.length ce b) : b < w.heap.size := by
  rcases hb with rfl | ⟨h0, o, e⟩ | hb
  · exact lt_of_block t.head
  · exact t.row.lt_of h0 e
  · exact (t.ends.lt b hb).2
theorem Rt.has_ge (t : Rt w h base Al Ae cl ce lims E) {b : Nat} (hb : HasRt h Al Ae lims.length E.length ce b) : base ≤ b := by
  rcases hb with rfl | ⟨h0, o, e⟩ | hb
  · exact t.hb
  · exact (t.lb h0 b o e).1
  · exact (t.ends.lt b hb).1
theorem Rt.keep2 (t : Rt w h base Al Ae cl ce lims E) (hs : w.heap.size ≤ w'.heap.size) (hk : ∀ b, HasRt h Al Ae lims.length E.length ce b → w'.heap[b]? = w.heap[b]?) : Rt w' h base Al Ae cl ce lims E := by
  refine ⟨(hk h (.inl rfl)).trans t.head, ⟨t.row.1, fun hn => ?_⟩, ⟨t.ends.1, ?_⟩, t.len, t.hb, t.lb, t.n1, t.capl, t.cape, t.rng⟩
  · obtain ⟨b, o, e, hb, hc⟩ := t.row.2 hn
    exact ⟨b, o, e, by omega, fun j hj => (World.cell?_of_block (a := ⟨b, o + j, none⟩) (hk b (.inr (.inl ⟨hn, o, e⟩)))).trans (hc j hj)⟩
  · rcases t.ends.2 with h0 | ⟨g, cap, cur, he, hb, hg, h1⟩
    · exact .inl h0
    · exact .inr ⟨g, cap, cur, he, hb, (hk g (.inr (.inr (by rw [he]; rfl)))).trans hg, h1⟩
theorem Rt.set_ (t : Rt w h base Al Ae cl ce lims E) {k : Nat} (hk : k < E.length) {v : Int} (h0 : 0 ≤ v) (h1 : v ≤ 2199023255552) :
    ∃ b, Ae = some ⟨b, 0, none⟩ ∧ base ≤ b ∧ w.cell? ⟨b, k, none⟩ = some (.int .i64 (E.getD k 0)) ∧ w.frozen? ⟨b, k, none⟩ = false ∧ Rt (w.setCell ⟨b, k, none⟩ (.int .i64 v)) h base Al Ae cl ce lims (E.set k v) := by
  obtain ⟨b, rfl, hb, hlt, hc, hf, ho⟩ := own_put t.ends hk v
  have hkb : ∀ g, g ≠ b → (w.setCell ⟨b, k, none⟩ (.int .i64 v)).heap[g]? = w.heap[g]? := fun g hg => Below.heap_setCell _ _ _ _ (by simpa using hg)
  have hsz : (w.setCell ⟨b, k, none⟩ (.int .i64 v)).heap.size = w.heap.size := by simp [World.setCell]
  have hob : (Value.slice (some ⟨b, 0, none⟩) E.length ce).ownBlock = some b := rfl
  have hn1 := t.n1
  rw [hob] at hn1
  refine ⟨b, rfl, hb, hc, hf, ?_, ⟨t.row.1, fun hn => ?_⟩, ?_, by rw [List.length_set]; exact t.len, t.hb, ?_, ?_, t.capl, by rw [List.length_set]; exact t.cape, ?_⟩
  · rw [List.length_set]; exact (hkb h (fun e => hn1 (by rw [e]))).trans t.head
  · obtain ⟨b', o, e, hb', hc'⟩ := t.row.2 hn
    have hl := (t.lb hn b' o e).2.2
    rw [hob] at hl
    exact ⟨b', o, e, by rw [hsz]; exact hb', fun j hj => (World.cell?_of_block (a := ⟨b', o + j, none⟩) (hkb b' (fun e => hl (by rw [e])))).trans (hc' j hj)⟩
  · rw [List.length_set]; exact ho
  · rw [List.length_set]; exact t.lb
  · rw [List.length_set]; exact t.n1
  · have := t.rng.set (k : Int) h0 h1
    unfold setE at this
    rwa [if_pos (by omega), Int.toNat_natCast] at this
end
section
variable (h base cl ce : Nat) (Al Ae : Option Addr) (lims E : List Int) (i ticks now : Int) (w : World)
set_option maxRecDepth 100000 in
set_option maxHeartbeats 1600000 in
theorem rtUntil_any (t : Rt w h base Al Ae cl ce lims E) :
    Calls Try.prog 48 #[.pointer (some ⟨h, 0, none⟩), .int .i64 i] w fun e w' => e = .returned (.int .i64 (untilE E i)) ∧ w = w' := by
  have hc := cellsAt t.head
  have hm : E.length ≤ 9223372036854775807 := by have := t.cape; unfold maxLen at this; omega
  by_cases i0 : i < 0
  · have hv : untilE E i = 0 := by unfold untilE; rw [if_neg (by omega)]
    have f1 : decide (i < 0) = true := by simp; omega
    rw [hv]
    clear hv t
    go_enter Try.func48, Try.ntmps48
    go_wp2_with fail
    go_ret
    exact ⟨rfl, rfl⟩
  · obtain ⟨k, rfl⟩ := Int.eq_ofNat_of_zero_le (show 0 ≤ i by omega)
    have f1 : decide ((k : Int) < 0) = false := by simp
    by_cases hk : k < E.length
    · have hv := untilE_of E k
      rw [hv]
      have f2 : decide ((E.length : Int) ≤ (k : Int)) = false := by simp; omega
      have f3 : decide (E.length ≤ k) = false := by simp; omega
      obtain ⟨b, rfl, -, hcell, -, -⟩ := t.set_ hk (v := 0) (by omega) (by omega)
      generalize E.getD k 0 = x at *
      clear hv t
      generalize E.length = n at *
      go_enter Try.func48, Try.ntmps48
      go_wp2_with fail
      go_ret
      exact ⟨rfl, rfl⟩
    · have hv : untilE E (k : Int) = 0 := by rw [untilE_of, List.getD_eq_getElem?_getD, List.getElem?_eq_none (by omega)]; rfl
      rw [hv]
      have f2 : decide ((E.length : Int) ≤ (k : Int)) = true := by simp; omega
      have f3 : decide (E.length ≤ k) = true := by simp; omega
      clear hv t
      generalize E.length = n at *
      go_enter Try.func48, Try.ntmps48
      go_wp2_with fail
      go_ret
      exact ⟨rfl, rfl⟩
set_option maxRecDepth 100000 in
set_option maxHeartbeats 1600000 in
theorem rtIs_any (t : Rt w h base Al Ae cl ce lims E) :
    Calls Try.prog 50 #[.pointer (some ⟨h, 0, none⟩), .int .i64 i, .int .i64 now] w fun e w' => e = .returned (.bool (isB E i now)) ∧ w = w' := by
  have hu := fun i => rtUntil_any h base cl ce Al Ae lims E i w t
  have hr := t.rng.until i
  have hu1 := hu i
  have hiv : isB E i now = ((untilE E i != 0) && decide (now < untilE E i)) := rfl
  generalize untilE E i = u at *
  have hu' := Lib.hid hu1
  rw [hiv]
  clear hu hu1 t hiv
  by_cases h0 : 0 < u
  · have f1 : decide (0 < u) = true := by simp; omega
    have f2 : (u != 0) = true := by simp; omega
    rw [f2, Bool.true_and]
    clear f2
    go_enter Try.func50, Try.ntmps50
    go_wp2_with fail
    refine hu'.out.mono ?_
    rintro e w1 ⟨rfl, rfl⟩
    go_wp2_with fail
    refine hu'.out.mono ?_
    rintro e w1 ⟨rfl, rfl⟩
    go_wp2_with fail
    go_ret
    exact ⟨rfl, rfl⟩
  · have f1 : decide (0 < u) = false := by simp; omega
    obtain rfl : u = 0 := by omega
    rw [show ((0 : Int) != 0) = false from rfl, Bool.false_and]
    go_enter Try.func50, Try.ntmps50
    go_wp2_with fail
    refine hu'.out.mono ?_
    rintro e w1 ⟨rfl, rfl⟩
    go_wp2_with fail
    go_ret
    exact ⟨rfl, rfl⟩
def RtPost (v : Value) (h base : Nat) (Al : Option Addr) (cl : Nat) (lims E : List Int) (Ao : Option Addr) (no co : Nat) (w : World) (e : Ending) (w' : World) : Prop := e = .returned v ∧ (∃ Ae ce, Rt w' h base Al Ae cl ce lims E) ∧ Mod (HasRt h Al Ao lims.length no co) w w'
theorem setE_zero {E : List Int} {i : Int} (h : untilE E i = 0) : setE E i 0 = E := by
  unfold setE
  split
  · rename_i h0
    obtain ⟨k, rfl⟩ := Int.eq_ofNat_of_zero_le h0
    rw [untilE_of] at h
    rw [Int.toNat_natCast]
    apply List.ext_getElem?
    intro j
    by_cases e : k = j
    · subst e
      by_cases hk : k < E.length
      · rw [List.getElem?_set_self hk, List.getElem?_eq_getElem hk]
        rw [List.getD_eq_getElem?_getD, List.getElem?_eq_getElem hk] at h
        exact congrArg some h.symm
      · rw [List.getElem?_eq_none (by simp; omega), List.getElem?_eq_none (by omega)]
    · rw [List.getElem?_set_ne e]
  · rfl
set_option maxRecDepth 100000 in
set_option maxHeartbeats 1600000 in
theorem rtDrop_any (t : Rt w h base Al Ae cl ce lims E) :
    Calls Try.prog 39 #[.pointer (some ⟨h, 0, none⟩), .int .i64 i] w (RtPost (.bool (untilE E i != 0)) h base Al cl lims (setE E i 0) Ae E.length ce w) := by
  have hu := rtUntil_any h base cl ce Al Ae lims E i w t
  by_cases h0 : untilE E i = 0
  · rw [h0, setE_zero h0]
    rw [h0] at hu
    have hu' := Lib.hid hu
    have t' := Lib.hid t
    have f1 : ((0 : Int) != 0) = false := rfl
    rw [f1]
    clear hu t f1 h0
    go_enter Try.func39, Try.ntmps39
    go_wp2_with fail
    refine hu'.out.mono ?_
    rintro e w1 ⟨rfl, rfl⟩
    go_wp2_with fail
    go_ret
    exact ⟨rfl, ⟨Ae, ce, t'.out⟩, Mod.refl _ _⟩
  · obtain ⟨k, rfl, hk⟩ := until_in h0
    have f0 : (untilE E (k : Int) != 0) = true := by simp; exact h0
    have f1 : (untilE E (k : Int) == 0) = false := by simp; exact h0
    have hse : setE E (k : Int) 0 = E.set k 0 := by unfold setE; rw [if_pos (by omega), Int.toNat_natCast]
    rw [f0, hse]
    obtain ⟨b, rfl, hb, hcell, hfr, t2⟩ := t.set_ hk (v := 0) (by omega) (by omega)
    have hc := cellsAt t.head
    have hm : E.length ≤ 9223372036854775807 := by have := t.cape; unfold maxLen at this; omega
    generalize untilE E (k : Int) = u at *
    generalize E.getD k 0 = x at *
    have hu' := Lib.hid hu
    have t2' := Lib.hid t2
    clear hu t t2 f0 hse h0
    generalize hn : E.length = n at *
    have hn' := Lib.hid hn
    clear hn
    go_enter Try.func39, Try.ntmps39
    go_wp2_with fail
    refine hu'.out.mono ?_
    rintro e w1 ⟨rfl, rfl⟩
    go_wp2_with fail
    go_ret
    exact ⟨rfl, ⟨_, ce, t2'.out⟩, (Mod.refl _ _).setCell (.inl (.inr (.inr rfl))) _⟩
set_option maxRecDepth 100000 in
set_option maxHeartbeats 3200000 in
theorem rtPut_any (t : Rt w h base Al Ae cl ce lims E) :
    Calls Try.prog 46 #[.pointer (some ⟨h, 0, none⟩), .int .i64 i, .int .i64 ticks, .int .i64 now] w (RtPost (.int .i64 (putC lims E i ticks now)) h base Al cl lims (putE lims E i ticks now) Ae E.length ce w) := by
  have hc := cellsAt t.head
  have hm : E.length ≤ 9223372036854775807 := by have := t.cape; unfold maxLen at this; omega
  have hv : putE lims E i ticks now = if putC lims E i ticks now = 0 then setE E i (now + ticks) else E := rfl
  have hpc : putC lims E i ticks now = if i < 0 ∨ (lims.length : Int) ≤ i then 3 else if ticks < 1 ∨ lims.getD i.toNat 0 < ticks ∨ 1099511627776 < ticks ∨ now < 0 ∨ 1099511627776 < now then 1 else if isB E i now = true then 4 else 0 := rfl
  rw [hv]
  clear hv
  generalize putC lims E i ticks now = pc at *
  have hlen := t.len
  rw [hlen] at hc hm
  have hlen' := Lib.hid hlen
  have t' := Lib.hid t
  clear t hlen
  by_cases i0 : i < 0
  · rw [if_pos (.inl i0)] at hpc
    subst hpc
    rw [if_neg (by decide)]
    have f1 : decide (i < 0) = true := by simp; omega
    go_enter Try.func46, Try.ntmps46
    go_wp2_with fail
    go_ret
    exact ⟨rfl, ⟨_, _, t'.out⟩, Mod.refl _ _⟩
  by_cases i1 : (lims.length : Int) ≤ i
  · rw [if_pos (.inr i1)] at hpc
    subst hpc
    rw [if_neg (by decide)]
    have f1 : decide (i < 0) = false := by simp; omega
    have f2 : decide ((lims.length : Int) ≤ i) = true := by simp; omega
    go_enter Try.func46, Try.ntmps46
    go_wp2_with fail
    go_ret
    exact ⟨rfl, ⟨_, _, t'.out⟩, Mod.refl _ _⟩
  obtain ⟨k, rfl⟩ := Int.eq_ofNat_of_zero_le (show 0 ≤ i by omega)
  rw [if_neg (by omega), Int.toNat_natCast] at hpc
  obtain ⟨bl, ol, hAl, hbl, hlim⟩ := t'.out.row.at_ (j := k) (by omega)
  subst hAl
  have his := fun w' (h : Rt w' h base (some ⟨bl, ol, none⟩) Ae cl ce lims E) => rtIs_any _ base cl ce (some ⟨bl, ol, none⟩) Ae lims E (k : Int) now w' h
  generalize lims.getD k 0 = lim at *
  generalize isB E (k : Int) now = bb at *
  have his' := Lib.hid his
  have hpc' := Lib.hid hpc
  clear his hpc
  have hkn : k < lims.length := by omega
  have hkn' := Lib.hid hkn
  generalize hL : lims.length = n at *
  have hL' := Lib.hid hL
  clear hL
  have g1 : decide ((k : Int) < 0) = false := by simp
  have g2 : decide ((n : Int) ≤ (k : Int)) = false := by simp; omega
  have g3 : decide (n ≤ k) = false := by simp; omega
  by_cases hbad : ticks < 1 ∨ lim < ticks ∨ 1099511627776 < ticks ∨ now < 0 ∨ 1099511627776 < now
  · have hpc := hpc'.out
    rw [if_pos hbad] at hpc
    subst hpc
    rw [if_neg (by decide)]
    rcases (show ticks < 1 ∨ (1 ≤ ticks ∧ lim < ticks) ∨ (1 ≤ ticks ∧ ticks ≤ lim ∧ 1099511627776 < ticks) ∨ (1 ≤ ticks ∧ ticks ≤ lim ∧ ticks ≤ 1099511627776 ∧ now < 0) ∨ (1 ≤ ticks ∧ ticks ≤ lim ∧ ticks ≤ 1099511627776 ∧ 0 ≤ now ∧ 1099511627776 < now) by omega) with h | h | h | h | h
    · have c0 : decide (ticks < 1) = true := by simp; omega
      clear hbad h
      go_enter Try.func46, Try.ntmps46
      go_wp2_with fail
      go_ret
      exact ⟨rfl, ⟨_, _, t'.out⟩, Mod.refl _ _⟩
    · have c0 : decide (ticks < 1) = false := by simp; omega
      have c1 : decide (lim < ticks) = true := by simp; omega
      clear hbad h
      go_enter Try.func46, Try.ntmps46
      go_wp2_with fail
      go_ret
      exact ⟨rfl, ⟨_, _, t'.out⟩, Mod.refl _ _⟩
    · have c0 : decide (ticks < 1) = false := by simp; omega
      have c1 : decide (lim < ticks) = false := by simp; omega
      have c2 : decide (1099511627776 < ticks) = true := by simp; omega
      clear hbad h
      go_enter Try.func46, Try.ntmps46
      go_wp2_with fail
      go_ret
      exact ⟨rfl, ⟨_, _, t'.out⟩, Mod.refl _ _⟩
    · have c0 : decide (ticks < 1) = false := by simp; omega
      have c1 : decide (lim < ticks) = false := by simp; omega
      have c2 : decide (1099511627776 < ticks) = false := by simp; omega
      have c3 : decide (now < 0) = true := by simp; omega
      clear hbad h
      go_enter Try.func46, Try.ntmps46
      go_wp2_with fail
      go_ret
      exact ⟨rfl, ⟨_, _, t'.out⟩, Mod.refl _ _⟩
    · have c0 : decide (ticks < 1) = false := by simp; omega
      have c1 : decide (lim < ticks) = false := by simp; omega
      have c2 : decide (1099511627776 < ticks) = false := by simp; omega
      have c3 : decide (now < 0) = false := by simp; omega
      have c4 : decide (1099511627776 < now) = true := by simp; omega
      clear hbad h
      go_enter Try.func46, Try.ntmps46
      go_wp2_with fail
      go_ret
      exact ⟨rfl, ⟨_, _, t'.out⟩, Mod.refl _ _⟩
  have hgood : 1 ≤ ticks ∧ ticks ≤ lim ∧ ticks ≤ 1099511627776 ∧ 0 ≤ now ∧ now ≤ 1099511627776 := by omega
  have c0 : decide (ticks < 1) = false := by simp; omega
  have c1 : decide (lim < ticks) = false := by simp; omega
  have c2 : decide (1099511627776 < ticks) = false := by simp; omega
  have c3 : decide (now < 0) = false := by simp; omega
  have c4 : decide (1099511627776 < now) = false := by simp; omega
  cases bb
  · have hpc := hpc'.out
    rw [if_neg hbad, if_neg (by decide)] at hpc
    subst hpc
    rw [if_pos rfl]
    have u1 : IntKind.i64.wrap (now + ticks) = now + ticks := by rw [IntKind.wrap_i64]; omega
    obtain ⟨b, hAe, hb, hcell, hfr, t2⟩ := t'.out.set_ (k := k) (v := now + ticks) (by have := hlen'.out; have := hL'.out; omega) (by omega) (by omega)
    subst hAe
    have hse : setE E (k : Int) (now + ticks) = E.set k (now + ticks) := by unfold setE; rw [if_pos (by omega), Int.toNat_natCast]
    rw [hse]
    have t2' := Lib.hid t2
    clear hbad t2 hse
    go_enter Try.func46, Try.ntmps46
    go_wp2_with fail
    refine (his'.out _ t'.out).mono ?_
    rintro e w1 ⟨rfl, rfl⟩
    go_wp2_with fail
    go_ret
    exact ⟨rfl, ⟨_, _, t2'.out⟩, (Mod.refl _ _).setCell (.inl (.inr (.inr rfl))) _⟩
  · have hpc := hpc'.out
    rw [if_neg hbad, if_pos rfl] at hpc
    subst hpc
    rw [if_neg (by decide)]
    clear hbad hgood
    go_enter Try.func46, Try.ntmps46
    go_wp2_with fail
    refine (his'.out _ t'.out).mono ?_
    rintro e w1 ⟨rfl, rfl⟩
    go_wp2_with fail
    go_ret
    exact ⟨rfl, ⟨_, _, t'.out⟩, Mod.refl _ _⟩
set_option maxRecDepth 100000 in
set_option maxHeartbeats 1600000 in
theorem rtAll_any (t : Rt w h base Al Ae cl ce lims E) (hf : E.length * 8 ≤ 140737488351232) :
    Calls Try.prog 53 #[.pointer (some ⟨h, 0, none⟩)] w (RetF .i64 E w) := by
  have E1 := (Ext.refl w).goA (.cells #[] 2)
  have hc1 := cellsAt ((E1.block h (lt_of_block t.head)).trans t.head)
  obtain ⟨A', c', he, -, hr⟩ := own_rd t.ends
  injection he with e1 _ e3
  subst e1 e3
  have hown := own_empty (w := w) (base := w.heap.size) 2 .i64 rfl (Nat.le_refl _)
  have hr1 := hr.ext E1
  clear t hr
  generalize hn : E.length = n at *
  have hn' := Lib.hid hn
  clear hn
  go_enter Try.func53, Try.ntmps53
  go_wp2_with (at_builtin; refine wpList_appI rfl (.tmp 3) (.tmp 7) _ rfl Try.underlying61 info_i64 hown rfl hr1 rfl (by omega) (by omega) (by simp) ?_; intro v' w3 hown3 hg3 hat3)
  go_ret
  have hl3 : 0 + n = n := by omega
  rw [List.nil_append, hl3] at hown3
  obtain ⟨A3, c3, rfl, ⟨g1, g2⟩, r3⟩ := own_rd hown3
  exact ⟨A3, _, c3, rfl, g1, g2, r3, E1.goG hg3 (fun i hi => by have hi' : some w.heap.size = some i := hi; injection hi' with hi'; omega), fun b o e => by subst e; exact (hown3.lt b rfl).1⟩
end
end Go.Proofs.Ytgeahfkhfpdlhaa
