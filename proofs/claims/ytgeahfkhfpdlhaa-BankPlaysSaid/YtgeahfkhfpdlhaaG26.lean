/- Layer 6: calls that are read: opened; how much they are. · Layer 6, the walks: great. · Layer 6, the law BankPlays: walked. -/
import Derived.Test.YtgeahfkhfpdlhaaG23
import Derived.Test.YtgeahfkhfpdlhaaOpenReq
import Derived.Test.YtgeahfkhfpdlhaaG01
import Derived.BigQuiet
import Derived.Deep.Cut
import Derived.Test.YtgeahfkhfpdlhaaRef06E
import Derived.Test.YtgeahfkhfpdlhaaG12
namespace Go.Proofs.Ytgeahfkhfpdlhaa
open Go.ChangeShapes Go.WideShapes Go.ChangeAt Go.RowKit Go.Deep

structure Op06 where
  what : Int
  fc : Int
  ad : Int
  qt : Int
  qa : Option Addr
  qn : Nat
  qc : Nat
  vs : List Int
  tw : Int
  a : Option Addr
  m : Nat
  c : Nat
  xs : List Int
  kd : Int
  pl : Int
  v : Int
def Op06.cells (p : Op06) : List Value := [.int .i64 p.what, .int .i64 p.fc, .int .i64 p.ad, .int .i64 p.qt, .slice p.qa p.qn p.qc, .int .i64 p.tw, .slice p.a p.m p.c, .int .i64 p.kd, .int .i64 p.pl, .int .u16 p.v]
/-- What is true of a call, and stays so while its memory stands. -/
structure OkOp06 (w : World) (R : Nat) (p : Op06) : Prop where
  mc : p.m ≤ p.c ∧ p.c ≤ maxLen
  qc : p.qn ≤ p.qc ∧ p.qc ≤ maxLen
  rd : RdI w w.heap.size .u8 p.a p.m p.xs
  rq : RdI w w.heap.size .u16 p.qa p.qn p.vs
  wx : ∀ y ∈ p.xs, (Lit.int .u8 y).wf = true
  wq : ∀ y ∈ p.vs, (Lit.int .u16 y).wf = true
  wv : (Lit.int .u16 p.v).wf = true
  sm : p.m ≤ R ∧ p.qn ≤ R
def RdOp06 (w : World) (R : Nat) (A : Option Addr) (n : Nat) (ps : List Op06) : Prop :=
  ps.length = n ∧ ∀ j, j < n → ∃ b o, A = some ⟨b, o, none⟩ ∧ b < w.heap.size ∧ ∃ p ∈ ps, ps[j]? = some p ∧ (∀ i, i < 10 → w.cell? ⟨b, o + j * 10 + i, none⟩ = p.cells[i]?) ∧ OkOp06 w R p
theorem RdOp06.len {w : World} {R n : Nat} {A : Option Addr} {ps : List Op06} (h : RdOp06 w R A n ps) : ps.length = n := h.1
theorem OkOp06.ext {w w' : World} {R : Nat} {p : Op06} (h : OkOp06 w R p) (E : Ext w w') : OkOp06 w' R p := ⟨h.mc, h.qc, h.rd.ext E, h.rq.ext E, h.wx, h.wq, h.wv, h.sm⟩
theorem RdOp06.ext {w w' : World} {R n : Nat} {A : Option Addr} {ps : List Op06} (h : RdOp06 w R A n ps) (E : Ext w w') : RdOp06 w' R A n ps :=
  ⟨h.1, fun j hj => by
    obtain ⟨b, o, e, hb, p, hp, h1, hc, ho⟩ := h.2 j hj
    exact ⟨b, o, e, Nat.lt_of_lt_of_le hb E.size, p, hp, h1, fun i hi => (E.cell _ hb).trans (hc i hi), ho.ext E⟩⟩
section
variable {H : Type} {enc : TypeId × Value → H} {W : World} {base : Nat} {sp : Nat → Bool} {hd : Bool}
theorem split_ten {α : Type} {cs : List α} (h : cs.length = 10) : ∃ a b c d e f g i j k, cs = [a, b, c, d, e, f, g, i, j, k] := by
  match cs, h with
  | [a, b, c, d, e, f, g, i, j, k], _ => exact ⟨a, b, c, d, e, f, g, i, j, k, rfl⟩
theorem split_six {α : Type} {cs : List α} (h : cs.length = 6) : ∃ a b c d e f, cs = [a, b, c, d, e, f] := by
  match cs, h with
  | [a, b, c, d, e, f], _ => exact ⟨a, b, c, d, e, f, rfl⟩
theorem openReqW {fuel : Nat} {cs : List Value} {x : DataW H × List MemPlace} (h : DataW.trod enc Try.prog W base sp hd fuel 32 cs = some x) :
    ∃ (fc ad qt tw : Int) (A : Option Addr) (n c : Nat) (xs : List Int), cs = [.int .i64 fc, .int .i64 ad, .int .i64 qt, .slice A n c, .int .i64 tw] ∧ n ≤ c ∧ c ≤ maxLen ∧ RdI W W.heap.size .u16 A n xs ∧ (∀ y ∈ xs, (Lit.int .u16 y).wf = true)
      ∧ ∀ R, (∀ m ∈ x.1.weights Try.prog 32, m ≤ R) → n ≤ R := by
  have c1 : Try.prog.cellsOf 3 = 1 := by kernel_rfl
  have c2 : Try.prog.cellsOf 30 = 1 := by kernel_rfl
  have c3 : Try.prog.cellsOf 32 = 5 := by kernel_rfl
  have hby : Try.prog.bytesOf 34 = 2 := by kernel_rfl
  obtain ⟨ys, m, rfl, rfl, hlen, hl, hf⟩ := DataW.trod_struct Try.underlying32 h
  rw [c3] at hlen
  obtain ⟨v0, v1, v2, v3, v4, rfl⟩ := five_of hlen
  obtain ⟨y0, y1, y2, y3, y4, rfl⟩ := five_of hl
  have h0 := hf 0 _ rfl
  have h1 := hf 1 _ rfl
  have h2 := hf 2 _ rfl
  have h3 := hf 3 _ rfl
  have h4 := hf 4 _ rfl
  simp [c1, c2] at h0 h1 h2 h3 h4
  obtain ⟨fc, e0, rfl, w0⟩ := DataW.trod_int Try.underlying3 h0
  obtain ⟨ad, e1, rfl, w1⟩ := DataW.trod_int Try.underlying3 h1
  obtain ⟨qt, e2, rfl, w2⟩ := DataW.trod_int Try.underlying3 h2
  obtain ⟨A, n, c, xs, e3, hc, hm, hr, hw, hR⟩ := openSl Try.underlying30 Try.underlying34 (by kernel_rfl) h3
  obtain ⟨tw, e4, rfl, w4⟩ := DataW.trod_int Try.underlying3 h4
  simp at e0 e1 e2 e3 e4
  subst e0 e1 e2 e3 e4
  refine ⟨fc, ad, qt, tw, A, n, c, xs, rfl, hc, hm, hr, hw, fun R hRw => ?_⟩
  have := hR R (fun m hm => hRw m (by
    simp only [DataW.weights, Try.underlying32]
    exact DataW.weights_mem_each (j := 3) rfl rfl m hm))
  rw [hby] at this
  omega
theorem openOp06 {fuel : Nat} {cs : List Value} {x : DataW H × List MemPlace} (h : DataW.trod enc Try.prog W base sp hd fuel 36 cs = some x) :
    ∃ p : Op06, cs = p.cells ∧ ∀ R, (∀ m ∈ x.1.weights Try.prog 36, m ≤ R) → OkOp06 W R p := by
  have c1 : Try.prog.cellsOf 3 = 1 := by kernel_rfl
  have c2 : Try.prog.cellsOf 33 = 1 := by kernel_rfl
  have c3 : Try.prog.cellsOf 32 = 5 := by kernel_rfl
  have c5 : Try.prog.cellsOf 34 = 1 := by kernel_rfl
  have c4 : Try.prog.cellsOf 36 = 10 := by kernel_rfl
  obtain ⟨ys, m, rfl, rfl, hlen, hl, hf⟩ := DataW.trod_struct Try.underlying36 h
  rw [c4] at hlen
  obtain ⟨v0, v1, v2, v3, v4, v5, v6, v7, v8, v9, rfl⟩ := split_ten hlen
  obtain ⟨y0, y1, y2, y3, y4, y5, rfl⟩ := split_six hl
  have h0 := hf 0 _ rfl
  have h1 := hf 1 _ rfl
  have h2 := hf 2 _ rfl
  have h3 := hf 3 _ rfl
  have h4 := hf 4 _ rfl
  have h5 := hf 5 _ rfl
  simp [c1, c2, c3, c5] at h0 h1 h2 h3 h4 h5
  obtain ⟨x0, e0, rfl, w0⟩ := DataW.trod_int Try.underlying3 h0
  obtain ⟨fc, ad, qt, tw, qa, qn, qc, vs, e1, qc1, qc2, rq, wq, R1⟩ := openReqW h1
  obtain ⟨A, n, c, xs, e2, hc, hm, hr, hw, R2⟩ := openSl Try.underlying33 Try.underlying5 (by kernel_rfl) h2
  have hb1 : Try.prog.bytesOf 5 = 1 := by kernel_rfl
  obtain ⟨x3, e3, rfl, w3⟩ := DataW.trod_int Try.underlying3 h3
  obtain ⟨x4, e4, rfl, w4⟩ := DataW.trod_int Try.underlying3 h4
  obtain ⟨x5, e5, rfl, w5⟩ := DataW.trod_int Try.underlying34 h5
  simp at e0 e1 e2 e3 e4 e5
  obtain ⟨e1a, e1b, e1c, e1d, e1e⟩ := e1
  subst e0 e1a e1b e1c e1d e1e e2 e3 e4 e5
  refine ⟨⟨x0, fc, ad, qt, qa, qn, qc, vs, tw, A, n, c, xs, x3, x4, x5⟩, rfl, fun R hRw => ⟨⟨hc, hm⟩, ⟨qc1, qc2⟩, hr, rq, hw, wq, w5, ?_, ?_⟩⟩
  · have := R2 R (fun m hm => hRw m (by
      simp only [DataW.weights, Try.underlying36]
      exact DataW.weights_mem_each (j := 2) rfl rfl m hm))
    rw [hb1] at this
    show n ≤ R
    omega
  · exact R1 R (fun m hm => hRw m (by
      simp only [DataW.weights, Try.underlying36]
      exact DataW.weights_mem_each (j := 1) rfl rfl m hm))
theorem openOps06 {fuel : Nat} {cs : List Value} {x : DataW H × List MemPlace} (h : DataW.trod enc Try.prog W base sp hd fuel 23 cs = some x) :
    ∃ (A : Option Addr) (n c : Nat) (ps : List Op06), cs = [.slice A n c] ∧ n ≤ c ∧ c ≤ maxLen ∧ ∀ R, (∀ m ∈ x.1.weights Try.prog 23, m ≤ R) → RdOp06 W R A n ps ∧ n * 96 ≤ R := by
  have hby : 96 ≤ Try.prog.bytesOf 36 := by
    have : Try.prog.bytesOf 36 = 112 := by kernel_rfl
    omega
  obtain ⟨A, n, c, rfl, hnc, hcm, hel, hR⟩ := openElemsW (fun cs y => ∃ p : Op06, cs = p.cells ∧ ∀ R, (∀ m ∈ y.weights Try.prog 36, m ≤ R) → OkOp06 W R p) 10 Try.underlying23 (by kernel_rfl) (by omega)
    (fun fuel cs x h => openOp06 h) h
  have hch : ∀ j, j < n → ∃ p : Op06, ∃ b o, A = some ⟨b, o, none⟩ ∧ b < W.heap.size ∧ (∀ i, i < 10 → W.cell? ⟨b, o + j * 10 + i, none⟩ = p.cells[i]?) ∧ ∀ R, (∀ m ∈ x.1.weights Try.prog 23, m ≤ R) → OkOp06 W R p := fun j hj => by
    obtain ⟨b, o, e, hb, vs, y, _, ⟨p, e1, h1⟩, hsub, hcell⟩ := hel j hj
    subst e1
    exact ⟨p, b, o, e, hb, hcell, fun R hR => h1 R fun m hm => hR m (hsub m hm)⟩
  have : Inhabited Op06 := ⟨⟨0, 0, 0, 0, none, 0, 0, [], 0, none, 0, 0, [], 0, 0, 0⟩⟩
  obtain ⟨f, hf⟩ := choose_lt hch
  refine ⟨A, n, c, (List.range n).map f, rfl, hnc, hcm, fun R hRw => ⟨⟨by simp, fun j hj => ?_⟩, Nat.le_trans (Nat.mul_le_mul_left n hby) (hR R hRw)⟩⟩
  obtain ⟨b, o, e, hb, hc, hok⟩ := hf j hj
  exact ⟨b, o, e, hb, f j, List.mem_map.2 ⟨j, List.mem_range.2 hj, rfl⟩, by simp [hj], hc, hok R hRw⟩
end
end Go.Proofs.Ytgeahfkhfpdlhaa
namespace Go.Proofs.Ytgeahfkhfpdlhaa
open Go.RowKit

def GrPost06 (n : Nat) (ps : List Op06) (w : World) (e : Ending) (w' : World) : Prop := ∃ x, e = .returned (.bool x) ∧ (x = false → n ≤ 100 ∧ ∀ p ∈ ps, p.m < 9000 ∧ p.qn < 9000) ∧ Ext w w'
set_option maxRecDepth 100000 in
set_option maxHeartbeats 3200000 in
theorem great06_any (A : Option Addr) (n c R : Nat) (ps : List Op06) (w : World) (hx : RdOp06 w R A n ps) (hR : R ≤ 1000000000000000) (hn : n * 96 ≤ 140737488351232) :
    Calls Try.prog 19 #[.slice A n c] w (GrPost06 n ps w) := by
  have hx' := Lib.hid hx
  have hR' := Lib.hid hR
  clear hx hR
  go_enter Try.func19, Try.ntmps19
  go_wp2_with fail
  go_loopw [3, 4] (fun s i wr => ∃ (k : Nat) (z : Int), k ≤ n ∧ i = .int .i64 k ∧ s = .int .i64 z ∧ 0 ≤ z ∧ z ≤ 1466015503659 + 9000 ∧ (z < 9000 → ∀ p ∈ ps.take k, p.m < 9000 ∧ p.qn < 9000) ∧ Ext w wr) (fun _ i _ => n - (intOf i).toNat)
  case atStart => exact ⟨0, (n : Int), by omega, rfl, rfl, by omega, by omega, fun _ p hp => by simp at hp, Ext.refl w⟩
  case round =>
    obtain ⟨k, z, hk, rfl, rfl, hz0, hz1, hm, hE⟩ := hrel
    have hm' := Lib.hid hm
    clear hm
    by_cases hlt : k < n
    · by_cases hz : z < 9000
      · obtain ⟨b, o, rfl, hb, p, hp, hpk, hc, hok⟩ := hx'.out.2 k hlt
        have f1 : decide (z < 9000) = true := by simp; omega
        have hRR := hR'.out
        have hm1 : p.m ≤ 1000000000000000 := by have := hok.sm.1; omega
        have hm2 : p.qn ≤ 1000000000000000 := by have := hok.sm.2; omega
        have htk : ps.take (k + 1) = ps.take k ++ [p] := by
          have hkl : k < ps.length := by rw [hx'.out.len]; exact hlt
          rw [List.take_succ_eq_append_getElem hkl]
          congr 1
          rw [List.getElem?_eq_getElem hkl] at hpk
          injection hpk with hpk
          rw [hpk]
        have htk' := Lib.hid htk
        have c6 : wr.cell? ⟨b, o + k * 10 + 6, none⟩ = some (.slice p.a p.m p.c) := (hE.cell _ hb).trans (hc 6 (by omega))
        have c4 : wr.cell? ⟨b, o + k * 10 + 4, none⟩ = some (.slice p.qa p.qn p.qc) := (hE.cell _ hb).trans (hc 4 (by omega))
        clear htk hp hpk hok hc hRR
        go_upto_region 5 with fail
        go_quiet (fail)
        go_wp2_with fail
        go_roundw
        case rel =>
          refine ⟨k + 1, z + min ((p.m : Int) + (p.qn : Int)) 9000, by omega, by go_num, rfl, by omega, by omega, fun h q hq => ?_, hE.goD _⟩
          rw [htk'.out, List.mem_append, List.mem_singleton] at hq
          rcases hq with hq | rfl
          · exact hm'.out hz q hq
          · omega
        case measure => simp [intOf]; omega
      · have f1 : decide (z < 9000) = false := by simp; omega
        have f2 : decide (9000 ≤ z) = true := by simp; omega
        go_wp2_with fail
        go_ret
        exact ⟨_, rfl, fun h => absurd h (by decide), hE⟩
    · obtain rfl : k = n := by omega
      by_cases hz : z < 9000
      · have f2 : decide (9000 ≤ z) = false := by simp; omega
        have hall := hm'.out hz
        rw [List.take_of_length_le (by rw [hx'.out.len]; exact Nat.le_refl _)] at hall
        have hall' := Lib.hid hall
        clear hall
        by_cases h3 : 100 < k
        · have f3 : decide (100 < (k : Int)) = true := by simp; omega
          go_wp2_with fail
          go_ret
          exact ⟨_, rfl, fun h => absurd h (by decide), hE⟩
        · have f3 : decide (100 < (k : Int)) = false := by simp; omega
          go_wp2_with fail
          go_ret
          exact ⟨_, rfl, fun _ => ⟨by omega, hall'.out⟩, hE⟩
      · have f2 : decide (9000 ≤ z) = true := by simp; omega
        go_wp2_with fail
        go_ret
        exact ⟨_, rfl, fun h => absurd h (by decide), hE⟩
end Go.Proofs.Ytgeahfkhfpdlhaa
namespace Go.Proofs.Ytgeahfkhfpdlhaa
open Go.RowKit

set_option maxRecDepth 100000 in
set_option maxHeartbeats 12800000 in
theorem bankPlays_any (a0 a1 a2 a3 : Int) (A : Option Addr) (n c R : Nat) (ps : List Op06) (w : World) (hx : RdOp06 w R A n ps) (hR : R ≤ 1000000000000000) (hn : n * 96 ≤ 140737488351232) :
    Calls Try.prog 3 #[.agg #[.int .i64 a0, .int .i64 a1, .int .i64 a2, .int .i64 a3], .slice A n c] w fun e w' => e = .returned (.bool true) ∧ Ext w w' := by
  have hgr := fun w' (E : Ext w w') => great06_any A n c R ps w' (hx.ext E) hR hn
  have EB := (Ext.refl w).goA (.cells #[.int .i64 a0, .int .i64 a1, .int .i64 a2, .int .i64 a3] 22)
  have hB := heap_alloc_new w (.cells #[.int .i64 a0, .int .i64 a1, .int .i64 a2, .int .i64 a3] 22)
  have bq : ∀ w', Ext (w.alloc (.cells #[.int .i64 a0, .int .i64 a1, .int .i64 a2, .int .i64 a3] 22)) w' → ∀ o, w'.cell? ⟨w.heap.size, o, none⟩ = _ := fun w' D => cellsAt ((D.block w.heap.size (by simp)).trans hB)
  have bq' := Lib.hid bq
  have hgr' := Lib.hid hgr
  have hx' := Lib.hid hx
  have hn' : n ≤ 1466015503659 := by omega
  clear hgr hx hB bq hR hn
  go_enter Try.func3, Try.ntmps3
  go_wp2_with fail
  generalize w.alloc (.cells #[.int .i64 a0, .int .i64 a1, .int .i64 a2, .int .i64 a3] 22) = W0 at *
  refine (bankHead_any W0).mono ?_
  rintro e W1 ⟨rfl, D1⟩
  have q1 := bq'.out W1 D1
  go_wp2_with fail
  refine (bankNew_any a0 a1 a2 a3 W1).mono ?_
  rintro e W2 ⟨g, G, rfl, B2, D2, hg⟩
  have E2 := D1.go D2
  have q2 := bq'.out W2 E2
  have hrow : ∀ i, RowsOf G i → W0.heap.size ≤ i ∧ i < W2.heap.size := fun i h => ⟨by obtain ⟨k, hk, rfl⟩ := h; have := B2.gt hk; have := D1.size; omega, B2.old (.inr h)⟩
  have hrow' := Lib.hid hrow
  have hg2 := B2.lt
  have s02 := E2.size
  have B2' := Lib.hid B2
  clear B2 hrow q1
  go_wp2_with fail
  refine (rfNew_any a0 a1 a2 a3 W2).mono ?_
  rintro e W3 ⟨r, rfl, F3, D3⟩
  have hr3 : W2.heap.size ≤ r := by obtain ⟨Af, cf, h⟩ := F3; exact h.hb
  have hr3' : r < W3.heap.size := by obtain ⟨Af, cf, h⟩ := F3; exact h.lt
  have E3 := E2.go D3
  have B3' := Lib.hid (B2'.out.ext D3)
  have F3' := Lib.hid F3
  have s23 := D3.size
  generalize newL a0 a1 a2 a3 = L0 at *
  clear F3 B2' q2 D3 E2 D1 D2
  go_wp2_with fail
  refine (hgr'.out W3 (EB.go E3)).mono ?_
  rintro e W4 ⟨x4, rfl, hx4, D4⟩
  have E4 := E3.go D4
  have s4 := D4.size
  have B4' := Lib.hid (B3'.out.ext D4)
  have F4' := Lib.hid (F3'.out.ext D4)
  clear B3' F3' D4 E3 hgr'
  cases x4
  case true =>
    go_wp2_with fail
    go_ret
    exact ⟨rfl, EB.go E4⟩
  case false =>
  obtain ⟨n100, hsm⟩ := hx4 rfl
  have hsm' := Lib.hid hsm
  clear hx4 hsm
  have hmb : ∀ w' w'', Mod (fun b => b = r) w' w'' → ∀ L, Bk w' g L G → Bk w'' g L G := fun w' w'' M L h => h.mod M (fun e => by have e : g = r := e; omega) (fun k hk e => by have e : G k = r := e; have := (hrow'.out (G k) ⟨k, hk, rfl⟩).2; omega)
  have hmf : ∀ w' w'', Mod (RowsOf G) w' w'' → ∀ L, HasRf w' W2.heap.size r L → HasRf w'' W2.heap.size r L := fun w' w'' M L h => h.mod M (fun b hb => (hrow'.out b hb).2)
  have hmb' := Lib.hid hmb
  have hmf' := Lib.hid hmf
  have heb : ∀ w' w'', Ext W0 w' → Mod (RowsOf G) w' w'' → Ext W0 w'' := fun w' w'' E M => E.goM M (fun i hi => (hrow'.out i hi).1)
  have her : ∀ w' w'', Ext W0 w' → Mod (fun b => b = r) w' w'' → Ext W0 w'' := fun w' w'' E M => E.goM M (fun i hi => by rw [hi]; omega)
  have heb' := Lib.hid heb
  have her' := Lib.hid her
  clear hmb hmf heb her
  go_wp2_with fail
  go_loopw [8] (fun i wr => ∃ k : Nat, k ≤ n ∧ i = .int .i64 k ∧ ∃ L, Bk wr g L G ∧ HasRf wr W2.heap.size r L ∧ Ext W0 wr ∧ W3.heap.size ≤ wr.heap.size) (fun i _ => n - (intOf i).toNat)
  case atStart => exact ⟨0, by omega, rfl, L0, B4'.out, F4'.out, E4, s4⟩
  case round =>
    obtain ⟨k, hk, rfl, L, hB, hF, hE, hS⟩ := hrel
    have hB' := Lib.hid hB
    have hF' := Lib.hid hF
    clear hB hF
    by_cases hlt : k < n
    · obtain ⟨b, o, rfl, hb, p, hp, hpk, hc, hok⟩ := hx'.out.2 k hlt
      have hc' := fun i hi => ((EB.go hE).cell (o + k * 10 + i) hb).trans (hc i hi)
      have hok0 := Lib.hid hok
      have hok' := Lib.hid (hok.ext (EB.go hE))
      obtain ⟨hm9, hq9⟩ := hsm'.out p hp
      have c0 : wr.cell? ⟨b, o + k * 10, none⟩ = some (.int .i64 p.what) := hc' 0 (by omega)
      have c1 : wr.cell? ⟨b, o + k * 10 + 1, none⟩ = some (.int .i64 p.fc) := hc' 1 (by omega)
      have c2 : wr.cell? ⟨b, o + k * 10 + 2, none⟩ = some (.int .i64 p.ad) := hc' 2 (by omega)
      have c3 : wr.cell? ⟨b, o + k * 10 + 3, none⟩ = some (.int .i64 p.qt) := hc' 3 (by omega)
      have c4 : wr.cell? ⟨b, o + k * 10 + 4, none⟩ = some (.slice p.qa p.qn p.qc) := hc' 4 (by omega)
      have c5 : wr.cell? ⟨b, o + k * 10 + 5, none⟩ = some (.int .i64 p.tw) := hc' 5 (by omega)
      have c6 : wr.cell? ⟨b, o + k * 10 + 6, none⟩ = some (.slice p.a p.m p.c) := hc' 6 (by omega)
      have c7 : wr.cell? ⟨b, o + k * 10 + 7, none⟩ = some (.int .i64 p.kd) := hc' 7 (by omega)
      have c8 : wr.cell? ⟨b, o + k * 10 + 8, none⟩ = some (.int .i64 p.pl) := hc' 8 (by omega)
      have c9 : wr.cell? ⟨b, o + k * 10 + 9, none⟩ = some (.int .u16 p.v) := hc' 9 (by omega)
      have XA := (Ext.refl wr).goA (.cells #[.int .i64 p.what, .int .i64 p.fc, .int .i64 p.ad, .int .i64 p.qt, .slice p.qa p.qn p.qc, .int .i64 p.tw, .slice p.a p.m p.c, .int .i64 p.kd, .int .i64 p.pl, .int .u16 p.v] 36)
      have QA := Lib.hid (heap_alloc_new wr (.cells #[.int .i64 p.what, .int .i64 p.fc, .int .i64 p.ad, .int .i64 p.qt, .slice p.qa p.qn p.qc, .int .i64 p.tw, .slice p.a p.m p.c, .int .i64 p.kd, .int .i64 p.pl, .int .u16 p.v] 36))
      have BA := Lib.hid (hB'.out.ext XA)
      have FA := Lib.hid (hF'.out.ext XA)
      have okA := Lib.hid (hok'.out.ext XA)
      have EA := hE.go XA
      have qA := cellsAt QA.out
      clear hc hc' hp hpk hok hok' hB' hF'
      have hways : ((p.what == 2) = true) ∨ ((p.what == 2) = false ∧ (p.what == 3) = true) ∨ ((p.what == 2) = false ∧ (p.what == 3) = false) := by
        cases (p.what == 2) <;> cases (p.what == 3) <;> simp
      obtain ⟨hmc, hqc, hrd, hrq, hwx, hwq, hwv, -⟩ := okA.out
      have hrd' := Lib.hid hrd
      have hrq' := Lib.hid hrq
      have hbx := Lib.hid (range_u8 hwx)
      have hbq := Lib.hid (range_u16 hwq)
      clear hrd hrq hwx hwq okA
      obtain ⟨what, fc, ad, qt, qa, qn, qc, vs, tw, pa, pm, pc, xs, kd, pl, v⟩ := p
      dsimp only at *
      have vr := bounds_u16 hwv
      have sW2 : W2.heap.size ≤ wr.heap.size := by omega
      go_upto_region 10 with fail
      clear c0 c1 c2 c3 c4 c5 c6 c7 c8 c9
      have sA : wr.heap.size < (wr.alloc (.cells #[.int .i64 what, .int .i64 fc, .int .i64 ad, .int .i64 qt, .slice qa qn qc, .int .i64 tw, .slice pa pm pc, .int .i64 kd, .int .i64 pl, .int .u16 v] 36)).heap.size := by simp
      generalize wr.alloc (.cells #[.int .i64 what, .int .i64 fc, .int .i64 ad, .int .i64 qt, .slice qa qn qc, .int .i64 tw, .slice pa pm pc, .int .i64 kd, .int .i64 pl, .int .u16 v] 36) = W at *
      have hrk := Lib.hid (fun i (h : RowsOf G i) => (show i ≠ wr.heap.size by have := (hrow'.out i h).2; omega))
      rcases hways with h2 | ⟨h2, h3⟩ | ⟨h2, h3⟩
      · have cv := fun (w' : World) (A' : Option Addr) (n' c' : Nat) (h : RdI w' w'.heap.size .u8 A' n' (serveY L xs)) => h.convert Try.underlying33 Try.underlying5 Try.underlying9 c'
        have cv' := Lib.hid cv
        clear cv
        have hs1 := Lib.hid (bankServe_any g pa pm pc xs L G W BA.out hrd'.out hbx.out hmc.1 hmc.2)
        have hs2 := Lib.hid (fun w' h1 h2 => rfServe_any W2.heap.size r L w' pa pm pc xs h1 h2 hbx.out (by omega) hmc.1 hmc.2)
        generalize serveY L xs = Y at *
        generalize serveL L xs = L' at *
        go_wp2_with fail
        refine hs1.out.mono ?_
        rintro e W5 ⟨A5, n5, c5, rfl, g5, g5', r5, B5, M5⟩
        have F5 := hmf'.out W W5 M5 _ FA.out
        have d5 := hrd'.out.past BA.out M5
        have Q5 := Lib.hid ((M5.block _ (lt_of_block QA.out) (fun h => hrk.out _ h rfl)).trans QA.out)
        have q5 := cellsAt Q5.out
        have E5 := heb'.out W W5 EA M5
        have s5 := M5.size
        have r5' := Lib.hid r5
        have B5' := Lib.hid B5
        have F5' := Lib.hid F5
        have d5' := Lib.hid d5
        clear r5 B5 F5 d5 M5 qA
        go_wp2_with fail
        refine (hs2.out W5 F5'.out d5'.out).mono ?_
        rintro e W6 ⟨A6, n6, c6, rfl, g6, g6', r6, F6, M6⟩
        have B6 := hmb'.out W5 W6 M6 _ B5'.out
        have cv1 := cv'.out W6 A5 n5 c5 (r5'.out.past_rf F5'.out M6)
        have cv2 := cv'.out W6 A6 n6 c6 r6
        have E6 := her'.out W5 W6 E5 M6
        have s6 := M6.size
        have B6' := Lib.hid B6
        have F6' := Lib.hid F6
        clear B6 F6 r6 M6 q5
        go_wp2_with fail
        go_roundw
        case rel => exact ⟨k + 1, by omega, by go_num, L', B6'.out, F6'.out, E6, by omega⟩
        case measure => simp [intOf]; omega
      · have hp1 := bankPut_any g kd pl v L G W BA.out vr.1 vr.2
        have hp2 := fun w' h => rfPut_any W2.heap.size r L w' kd pl v h vr.1 vr.2
        unfold PutPost at hp1
        unfold RfPutPost at hp2
        generalize spanB L kd pl 1 = y at *
        generalize putB L kd pl v = L' at *
        have hp1' := Lib.hid hp1
        have hp2' := Lib.hid hp2
        clear hp1 hp2
        go_wp2_with fail
        refine hp1'.out.mono ?_
        rintro e W5 ⟨rfl, B5, M5⟩
        have F5 := hmf'.out W W5 M5 _ FA.out
        have Q5 := Lib.hid ((M5.block _ (lt_of_block QA.out) (fun h => hrk.out _ h rfl)).trans QA.out)
        have q5 := cellsAt Q5.out
        have E5 := heb'.out W W5 EA M5
        have s5 := M5.size
        have B5' := Lib.hid B5
        have F5' := Lib.hid F5
        clear B5 F5 M5 qA
        go_wp2_with fail
        refine (hp2'.out W5 F5'.out).mono ?_
        rintro e W6 ⟨rfl, F6, M6⟩
        have B6' := Lib.hid (hmb'.out W5 W6 M6 _ B5'.out)
        have E6 := her'.out W5 W6 E5 M6
        have s6 := M6.size
        have F6' := Lib.hid F6
        clear F6 M6 q5
        go_wp2_with fail
        go_roundw
        case rel => exact ⟨k + 1, by omega, by go_num, L', B6'.out, F6'.out, E6, by omega⟩
        case measure => simp [intOf]; omega
      · have hd1 := Lib.hid (bankDo_any g fc ad qt tw qa qn qc vs L G W BA.out hrq'.out hbq.out (Nat.le_trans hqc.1 hqc.2))
        have hd2 := Lib.hid (fun w' h1 h2 => rfDo_any W2.heap.size r L fc ad qt tw qa qn qc vs w' h1 h2 hbq.out hqc)
        generalize doC L fc ad qt tw vs = dc at *
        generalize doY L fc ad qt tw vs = dy at *
        generalize doL L fc ad qt tw vs = L' at *
        go_wp2_with fail
        refine hd1.out.mono ?_
        rintro e W5 ⟨A5, n5, c5, rfl, g5, g5', r5, fr5, B5, M5⟩
        have X5 := (Ext.refl W5).goA (.cells #[.int .i64 dc, .slice A5 n5 c5] 40)
        have P5 := heap_alloc_new W5 (.cells #[.int .i64 dc, .slice A5 n5 c5] 40)
        have P5' := Lib.hid P5
        have F5 := (hmf'.out W W5 M5 _ FA.out).ext X5
        have E5a := heb'.out W W5 EA M5
        have E5 := E5a.go X5
        have d5 := hok0.out.rq.ext (EB.go E5)
        have Q5 := Lib.hid ((X5.block _ (by have := M5.size; omega)).trans ((M5.block _ (lt_of_block QA.out) (fun h => hrk.out _ h rfl)).trans QA.out))
        have q5 := cellsAt Q5.out
        have s5 := M5.size
        have r5' := Lib.hid (r5.ext X5)
        have B5' := Lib.hid (B5.ext X5)
        have F5' := Lib.hid F5
        have d5' := Lib.hid d5
        have sX : W5.heap.size < (W5.alloc (.cells #[.int .i64 dc, .slice A5 n5 c5] 40)).heap.size := by simp
        clear r5 B5 F5 d5 M5 qA P5 fr5 X5
        go_wp2_with fail
        generalize W5.alloc (.cells #[.int .i64 dc, .slice A5 n5 c5] 40) = V5 at *
        refine (hd2.out V5 F5'.out d5'.out).mono ?_
        rintro e W6 ⟨A6, n6, c6, rfl, g6, g6', r6, fr6, F6, M6⟩
        have X6 := (Ext.refl W6).goA (.cells #[.int .i64 dc, .slice A6 n6 c6] 40)
        have P6 := heap_alloc_new W6 (.cells #[.int .i64 dc, .slice A6 n6 c6] 40)
        have p6 := cellsAt P6
        have p5 := cellsAt ((X6.block _ (by have := M6.size; omega)).trans ((M6.block _ (lt_of_block P5'.out) (by omega)).trans P5'.out))
        have B6' := Lib.hid ((hmb'.out V5 W6 M6 _ B5'.out).ext X6)
        have F6' := Lib.hid (F6.ext X6)
        have rr5 := Lib.hid ((r5'.out.past_rf F5'.out M6).ext X6)
        have rr6 := Lib.hid (r6.ext X6)
        have E6 := (her'.out V5 W6 E5 M6).go X6
        have s6 := M6.size
        have s6x := X6.size
        clear F6 r6 M6 q5 fr6 P6 X6
        go_wp2_with fail
        refine (ref05Same_eq dc A5 A6 n5 c5 n6 c6 dy _ rr5.out rr6.out (Nat.le_trans g5 g5') (Nat.le_trans g6 g6')).mono ?_
        rintro e W7 ⟨rfl, D7⟩
        have s7 := D7.size
        clear p5 p6
        go_wp2_with fail
        go_roundw
        case rel => exact ⟨k + 1, by omega, by go_num, L', B6'.out.ext D7, F6'.out.ext D7, E6.go D7, by omega⟩
        case measure => simp [intOf]; omega
    · obtain rfl : k = n := by omega
      go_wp2_with fail
      refine (same06_any _ r g L G wr hB'.out hF'.out).mono ?_
      rintro e w5 ⟨rfl, rfl⟩
      go_wp2_with fail
      go_ret
      exact ⟨rfl, EB.go hE⟩
end Go.Proofs.Ytgeahfkhfpdlhaa
