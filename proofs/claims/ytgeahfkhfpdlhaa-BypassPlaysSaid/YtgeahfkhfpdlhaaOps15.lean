/- Layer 15: calls that are read: opened; how much they are; one of some. -/
import Derived.Test.YtgeahfkhfpdlhaaG17
import Derived.Test.YtgeahfkhfpdlhaaBypHead
namespace Go.Proofs.Ytgeahfkhfpdlhaa
open Go.ChangeShapes Go.WideShapes Go.ChangeAt Go.RowKit Go.Deep

structure Op15 where
  what : Int
  i : Int
  n : Int
  now : Int
  a : Option Addr
  m : Nat
  c : Nat
  xs : List Int
/-- The slice value '.slice A n c' reads as those calls, in cells below block B. -/
def RdOp15 (w : World) (B : Nat) (A : Option Addr) (n : Nat) (ps : List Op15) : Prop :=
  ps.length = n ∧ ∀ j, j < n → ∃ b o, A = some ⟨b, o, none⟩ ∧ b < B ∧ ∃ p ∈ ps, ps[j]? = some p ∧ w.cell? ⟨b, o + j * 5, none⟩ = some (.int .i64 p.what) ∧ w.cell? ⟨b, o + j * 5 + 1, none⟩ = some (.int .i64 p.i) ∧ w.cell? ⟨b, o + j * 5 + 2, none⟩ = some (.int .i64 p.n) ∧
    w.cell? ⟨b, o + j * 5 + 3, none⟩ = some (.int .i64 p.now) ∧ w.cell? ⟨b, o + j * 5 + 4, none⟩ = some (.slice p.a p.m p.c) ∧ ((Lit.int .i64 p.what).wf = true ∧ (Lit.int .i64 p.i).wf = true ∧ (Lit.int .i64 p.n).wf = true ∧ (Lit.int .i64 p.now).wf = true) ∧ (p.m ≤ p.c ∧ p.c ≤ maxLen) ∧ RdI w B .i64 p.a p.m p.xs
section
variable {H : Type} {enc : TypeId × Value → H} {W : World} {base : Nat} {sp : Nat → Bool} {hd : Bool}
theorem five_list {α : Type} {cs : List α} (h : cs.length = 5) : ∃ a b c d e, cs = [a, b, c, d, e] := by
  match cs, h with
  | [a, b, c, d, e], _ => exact ⟨a, b, c, d, e, rfl⟩
theorem openOp15 {fuel : Nat} {cs : List Value} {x : DataW H × List MemPlace} (h : DataW.trod enc Try.prog W base sp hd fuel 69 cs = some x) :
    ∃ p : Op15, cs = [.int .i64 p.what, .int .i64 p.i, .int .i64 p.n, .int .i64 p.now, .slice p.a p.m p.c] ∧ ((Lit.int .i64 p.what).wf = true ∧ (Lit.int .i64 p.i).wf = true ∧ (Lit.int .i64 p.n).wf = true ∧ (Lit.int .i64 p.now).wf = true) ∧ (p.m ≤ p.c ∧ p.c ≤ maxLen) ∧ RdI W W.heap.size .i64 p.a p.m p.xs := by
  have c1 : Try.prog.cellsOf 3 = 1 := by kernel_rfl
  have c2 : Try.prog.cellsOf 2 = 1 := by kernel_rfl
  have c3 : Try.prog.cellsOf 61 = 1 := by kernel_rfl
  have c4 : Try.prog.cellsOf 69 = 5 := by kernel_rfl
  obtain ⟨ys, m, rfl, rfl, hlen, hl, hf⟩ := DataW.trod_struct Try.underlying69 h
  rw [c4] at hlen
  obtain ⟨v0, v1, v2, v3, v4, rfl⟩ := five_list hlen
  obtain ⟨y0, y1, y2, y3, y4, rfl⟩ := five_list hl
  have h0 := hf 0 _ rfl
  have h1 := hf 1 _ rfl
  have h2 := hf 2 _ rfl
  have h3 := hf 3 _ rfl
  have h4 := hf 4 _ rfl
  simp [c1, c2, c3] at h0 h1 h2 h3 h4
  obtain ⟨x0, e0, rfl, w0⟩ := DataW.trod_int Try.underlying3 h0
  obtain ⟨x1, e1, rfl, w1⟩ := DataW.trod_int Try.underlying3 h1
  obtain ⟨x2, e2, rfl, w2⟩ := DataW.trod_int Try.underlying2 h2
  obtain ⟨x3, e3, rfl, w3⟩ := DataW.trod_int Try.underlying2 h3
  obtain ⟨A, n, c, xs, e4, hc, hm, hr, _, _⟩ := openSl Try.underlying61 Try.underlying2 (by kernel_rfl) h4
  simp at e0 e1 e2 e3 e4
  subst e0 e1 e2 e3 e4
  exact ⟨⟨x0, x1, x2, x3, A, n, c, xs⟩, rfl, ⟨w0, w1, w2, w3⟩, ⟨hc, hm⟩, hr⟩
theorem openOps15 {fuel : Nat} {cs : List Value} {x : DataW H × List MemPlace} (h : DataW.trod enc Try.prog W base sp hd fuel 62 cs = some x) :
    ∃ (A : Option Addr) (n c : Nat) (ps : List Op15), cs = [.slice A n c] ∧ n ≤ c ∧ c ≤ maxLen ∧ RdOp15 W W.heap.size A n ps := by
  obtain ⟨A, n, c, rfl, hnc, hcm, hel, _⟩ := openElems (fun cs => ∃ p : Op15, cs = [.int .i64 p.what, .int .i64 p.i, .int .i64 p.n, .int .i64 p.now, .slice p.a p.m p.c] ∧ ((Lit.int .i64 p.what).wf = true ∧ (Lit.int .i64 p.i).wf = true ∧ (Lit.int .i64 p.n).wf = true ∧ (Lit.int .i64 p.now).wf = true) ∧ (p.m ≤ p.c ∧ p.c ≤ maxLen) ∧ RdI W W.heap.size .i64 p.a p.m p.xs) 5 Try.underlying62 (by kernel_rfl) (by omega)
    (fun fuel cs x h => openOp15 h) h
  have hch : ∀ j, j < n → ∃ p : Op15, ∃ b o, A = some ⟨b, o, none⟩ ∧ b < W.heap.size ∧ W.cell? ⟨b, o + j * 5, none⟩ = some (.int .i64 p.what) ∧ W.cell? ⟨b, o + j * 5 + 1, none⟩ = some (.int .i64 p.i) ∧ W.cell? ⟨b, o + j * 5 + 2, none⟩ = some (.int .i64 p.n) ∧
      W.cell? ⟨b, o + j * 5 + 3, none⟩ = some (.int .i64 p.now) ∧ W.cell? ⟨b, o + j * 5 + 4, none⟩ = some (.slice p.a p.m p.c) ∧ ((Lit.int .i64 p.what).wf = true ∧ (Lit.int .i64 p.i).wf = true ∧ (Lit.int .i64 p.n).wf = true ∧ (Lit.int .i64 p.now).wf = true) ∧ (p.m ≤ p.c ∧ p.c ≤ maxLen) ∧ RdI W W.heap.size .i64 p.a p.m p.xs := fun j hj => by
    obtain ⟨b, o, e, hb, vs, _, ⟨p, e1, h1, h2, h3⟩, hcell⟩ := hel j hj
    subst e1
    exact ⟨p, b, o, e, hb, hcell 0 (by omega), hcell 1 (by omega), hcell 2 (by omega), hcell 3 (by omega), hcell 4 (by omega), h1, h2, h3⟩
  have : Inhabited Op15 := ⟨⟨0, 0, 0, 0, none, 0, 0, []⟩⟩
  obtain ⟨f, hf⟩ := choose_lt hch
  refine ⟨A, n, c, (List.range n).map f, rfl, hnc, hcm, by simp, fun j hj => ?_⟩
  obtain ⟨b, o, e, hb, h⟩ := hf j hj
  exact ⟨b, o, e, hb, f j, List.mem_map.2 ⟨j, List.mem_range.2 hj, rfl⟩, by simp [hj], h⟩
end
section
variable {w : World} {B n : Nat} {A : Option Addr} {ps : List Op15}
theorem RdOp15.len (h : RdOp15 w B A n ps) : ps.length = n := h.1
theorem RdOp15.ext {w' : World} (h : RdOp15 w w.heap.size A n ps) (E : Ext w w') : RdOp15 w' w'.heap.size A n ps :=
  ⟨h.1, fun j hj => by
    obtain ⟨b, o, e, hb, p, hp, h1, c0, c1, c2, c3, c4, hw, hm, hr⟩ := h.2 j hj
    exact ⟨b, o, e, Nat.lt_of_lt_of_le hb E.size, p, hp, h1, (E.cell _ hb).trans c0, (E.cell _ hb).trans c1, (E.cell _ hb).trans c2, (E.cell _ hb).trans c3, (E.cell _ hb).trans c4, hw, hm, hr.ext E⟩⟩
end
def GreatPost (n n2 : Nat) (ps : List Op15) (w : World) (e : Ending) (w' : World) : Prop := ∃ v, e = .returned (.bool v) ∧ (v = false → n ≤ 60 ∧ n2 ≤ 300 ∧ ∀ p ∈ ps, p.m < 9000) ∧ w = w'
set_option maxRecDepth 100000 in
set_option maxHeartbeats 3200000 in
theorem great15_any (A A2 : Option Addr) (n c n2 c2 : Nat) (ps : List Op15) (w : World) (hx : RdOp15 w w.heap.size A2 n2 ps) (hn : n * 8 ≤ 140737488351232) (hn2 : n2 ≤ maxLen) :
    Calls Try.prog 37 #[.slice A n c, .slice A2 n2 c2] w (GreatPost n n2 ps w) := by
  unfold maxLen at hn2
  have hx' := Lib.hid hx
  clear hx
  go_enter Try.func37, Try.ntmps37
  go_wp2_with fail
  go_loop [5, 6] (fun s i => ∃ (k : Nat) (z : Int), k ≤ n2 ∧ i = .int .i64 k ∧ s = .int .i64 z ∧ 0 ≤ z ∧ z ≤ 140737488360232 ∧ (z < 9000 → ∀ p ∈ ps.take k, p.m < 9000)) (fun _ i => n2 - (intOf i).toNat)
  case atStart => exact ⟨0, (n : Int), by omega, rfl, rfl, by omega, by omega, fun _ p hp => by simp at hp⟩
  case round =>
    obtain ⟨k, z, hk, rfl, rfl, hz0, hz1, hm⟩ := hrel
    have hm' := Lib.hid hm
    clear hm
    by_cases hlt : k < n2
    · by_cases hz : z < 9000
      · obtain ⟨b, o, rfl, hb, p, hp, hpk, c0, c1', c2', c3, c4, hwf, hmc, hri⟩ := hx'.out.2 k hlt
        have f1 : decide (z < 9000) = true := by simp; omega
        have hmp : (p.m : Int) ≤ maxLen := by have := hmc.1; have := hmc.2; omega
        have htk : ps.take (k + 1) = ps.take k ++ [p] := by
          have hkl : k < ps.length := by rw [hx'.out.len]; exact hlt
          rw [List.take_succ_eq_append_getElem hkl]
          congr 1
          rw [List.getElem?_eq_getElem hkl] at hpk
          injection hpk with hpk
          rw [hpk]
        have htk' := Lib.hid htk
        clear htk hp hpk c0 c1' c2' c3 hwf hri hmc
        unfold maxLen at hmp
        go_wp2_with fail
        go_round
        case rel =>
          refine ⟨k + 1, z + min (p.m : Int) 9000, by omega, by go_num, rfl, by omega, by omega, fun h q hq => ?_⟩
          rw [htk'.out, List.mem_append, List.mem_singleton] at hq
          rcases hq with hq | rfl
          · exact hm'.out hz q hq
          · omega
        case measure => simp [intOf]; omega
      · have f1 : decide (z < 9000) = false := by simp; omega
        have f2 : decide (9000 ≤ z) = true := by simp; omega
        go_wp2_with fail
        go_ret
        exact ⟨_, rfl, fun h => absurd h (by decide), rfl⟩
    · obtain rfl : k = n2 := by omega
      by_cases hz : z < 9000
      · have f2 : decide (9000 ≤ z) = false := by simp; omega
        have hall := hm'.out hz
        rw [List.take_of_length_le (by rw [hx'.out.len]; exact Nat.le_refl _)] at hall
        have hall' := Lib.hid hall
        clear hall
        by_cases h3 : 300 < k
        · have f3 : decide (300 < (k : Int)) = true := by simp; omega
          go_wp2_with fail
          go_ret
          exact ⟨_, rfl, fun h => absurd h (by decide), rfl⟩
        · have f3 : decide (300 < (k : Int)) = false := by simp; omega
          by_cases h6 : 60 < n
          · have f4 : decide (60 < (n : Int)) = true := by simp; omega
            go_wp2_with fail
            go_ret
            exact ⟨_, rfl, fun h => absurd h (by decide), rfl⟩
          · have f4 : decide (60 < (n : Int)) = false := by simp; omega
            go_wp2_with fail
            go_ret
            exact ⟨_, rfl, fun _ => ⟨by omega, by omega, hall'.out⟩, rfl⟩
      · have f2 : decide (9000 ≤ z) = true := by simp; omega
        go_wp2_with fail
        go_ret
        exact ⟨_, rfl, fun h => absurd h (by decide), rfl⟩
def HasPost (xs : List Int) (x : Int) (w : World) (e : Ending) (w' : World) : Prop := ∃ A n c, e = .returned (.slice A n c) ∧ n = (if x ∈ xs then 1 else 0) ∧ Ext w w'
set_option maxRecDepth 100000 in
set_option maxHeartbeats 1600000 in
theorem has15_any (A : Option Addr) (n c B : Nat) (xs : List Int) (x : Int) (w : World) (hx : RdI w B .i64 A n xs) (hn : n ≤ maxLen) :
    Calls Try.prog 54 #[.slice A n c, .int .i64 x] w (HasPost xs x w) := by
  unfold maxLen at hn
  have hx' := Lib.hid hx
  have hl' := Lib.hid hx.len
  clear hx
  go_enter Try.func54, Try.ntmps54
  go_wp2_with fail
  go_loop [5] (fun i => ∃ k : Nat, k ≤ n ∧ i = .int .i64 k ∧ x ∉ xs.take k) (fun i => n - (intOf i).toNat)
  case atStart => exact ⟨0, by omega, rfl, by simp⟩
  case round =>
    obtain ⟨k, hk, rfl, hno⟩ := hrel
    have hno' := Lib.hid hno
    clear hno
    by_cases hlt : k < n
    · obtain ⟨b, o, rfl, hb, hc⟩ := hx'.out.at_ hlt
      have hkl : k < xs.length := by rw [hl'.out]; exact hlt
      have htk : xs.take (k + 1) = xs.take k ++ [xs.getD k 0] := by
        rw [List.take_succ_eq_append_getElem hkl, List.getD_eq_getElem?_getD, List.getElem?_eq_getElem hkl]; rfl
      have hmem : xs.getD k 0 ∈ xs := by rw [List.getD_eq_getElem?_getD, List.getElem?_eq_getElem hkl]; exact List.getElem_mem hkl
      generalize xs.getD k 0 = y at *
      have htk' := Lib.hid htk
      have hmem' := Lib.hid hmem
      clear htk hmem
      by_cases hy : y = x
      · subst hy
        have f1 : (y == y) = true := by simp
        go_wp2_with fail
        go_ret
        exact ⟨_, _, _, rfl, by rw [if_pos hmem'.out], (Ext.refl w).goA _⟩
      · have f1 : (y == x) = false := by simp; exact hy
        have hy' := Lib.hid hy
        clear hy
        go_wp2_with fail
        go_round
        case rel => exact ⟨k + 1, by omega, by go_num, by rw [htk'.out, List.mem_append, List.mem_singleton]; rintro (h | h); exact hno'.out h; exact hy'.out h.symm⟩
        case measure => simp [intOf]; omega
    · obtain rfl : k = n := by omega
      have hall := hno'.out
      rw [List.take_of_length_le (by rw [hl'.out]; exact Nat.le_refl _)] at hall
      have hall' := Lib.hid hall
      clear hall
      go_wp2_with fail
      go_ret
      exact ⟨_, _, _, rfl, by rw [if_neg hall'.out], Ext.refl w⟩
end Go.Proofs.Ytgeahfkhfpdlhaa
