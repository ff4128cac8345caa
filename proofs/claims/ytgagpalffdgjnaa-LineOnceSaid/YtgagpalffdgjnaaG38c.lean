/- Layer 6: calls that are read: opened; how much they are. · Layer 21: calls that are read: opened; how much they are. · Layer 21, the walks: great. -/
import Derived.Test.YtgagpalffdgjnaaG23c
import Derived.Test.YtgagpalffdgjnaaOpenReq
import Derived.Test.YtgagpalffdgjnaaG01
import Derived.BigQuiet
import Derived.Deep.Cut
namespace Go.Proofs.Ytgagpalffdgjnaa
open Go.ChangeShapes Go.WideShapes Go.ChangeAt Go.RowKit Go.Deep

structure Op06 where
  what : Int
  fc : Int
  ad : Int
  qt : Int
  qa : Option Addr
  qn : Nat
  qc : Nat
  vs : List Int
  tw : Int
  a : Option Addr
  m : Nat
  c : Nat
  xs : List Int
  kd : Int
  pl : Int
  v : Int
def Op06.cells (p : Op06) : List Value := [.int .i64 p.what, .int .i64 p.fc, .int .i64 p.ad, .int .i64 p.qt, .slice p.qa p.qn p.qc, .int .i64 p.tw, .slice p.a p.m p.c, .int .i64 p.kd, .int .i64 p.pl, .int .u16 p.v]
/-- What is true of a call, and stays so while its memory stands. -/
structure OkOp06 (w : World) (R : Nat) (p : Op06) : Prop where
  mc : p.m ≤ p.c ∧ p.c ≤ maxLen
  qc : p.qn ≤ p.qc ∧ p.qc ≤ maxLen
  rd : RdI w w.heap.size .u8 p.a p.m p.xs
  rq : RdI w w.heap.size .u16 p.qa p.qn p.vs
  wx : ∀ y ∈ p.xs, (Lit.int .u8 y).wf = true
  wq : ∀ y ∈ p.vs, (Lit.int .u16 y).wf = true
  wv : (Lit.int .u16 p.v).wf = true
  sm : p.m ≤ R ∧ p.qn ≤ R
def RdOp06 (w : World) (R : Nat) (A : Option Addr) (n : Nat) (ps : List Op06) : Prop :=
  ps.length = n ∧ ∀ j, j < n → ∃ b o, A = some ⟨b, o, none⟩ ∧ b < w.heap.size ∧ ∃ p ∈ ps, ps[j]? = some p ∧ (∀ i, i < 10 → w.cell? ⟨b, o + j * 10 + i, none⟩ = p.cells[i]?) ∧ OkOp06 w R p
theorem RdOp06.len {w : World} {R n : Nat} {A : Option Addr} {ps : List Op06} (h : RdOp06 w R A n ps) : ps.length = n := h.1
theorem OkOp06.ext {w w' : World} {R : Nat} {p : Op06} (h : OkOp06 w R p) (E : Ext w w') : OkOp06 w' R p := ⟨h.mc, h.qc, h.rd.ext E, h.rq.ext E, h.wx, h.wq, h.wv, h.sm⟩
theorem RdOp06.ext {w w' : World} {R n : Nat} {A : Option Addr} {ps : List Op06} (h : RdOp06 w R A n ps) (E : Ext w w') : RdOp06 w' R A n ps :=
  ⟨h.1, fun j hj => by
    obtain ⟨b, o, e, hb, p, hp, h1, hc, ho⟩ := h.2 j hj
    exact ⟨b, o, e, Nat.lt_of_lt_of_le hb E.size, p, hp, h1, fun i hi => (E.cell _ hb).trans (hc i hi), ho.ext E⟩⟩
section
variable {H : Type} {enc : TypeId × Value → H} {W : World} {base : Nat} {sp : Nat → Bool} {hd : Bool}
theorem split_ten {α : Type} {cs : List α} (h : cs.length = 10) : ∃ a b c d e f g i j k, cs = [a, b, c, d, e, f, g, i, j, k] := by
  match cs, h with
  | [a, b, c, d, e, f, g, i, j, k], _ => exact ⟨a, b, c, d, e, f, g, i, j, k, rfl⟩
theorem split_six {α : Type} {cs : List α} (h : cs.length = 6) : ∃ a b c d e f, cs = [a, b, c, d, e, f] := by
  match cs, h with
  | [a, b, c, d, e, f], _ => exact ⟨a, b, c, d, e, f, rfl⟩
theorem openReqW {fuel : Nat} {cs : List Value} {x : DataW H × List MemPlace} (h : DataW.trod enc Try.prog W base sp hd fuel 30 cs = some x) :
    ∃ (fc ad qt tw : Int) (A : Option Addr) (n c : Nat) (xs : List Int), cs = [.int .i64 fc, .int .i64 ad, .int .i64 qt, .slice A n c, .int .i64 tw] ∧ n ≤ c ∧ c ≤ maxLen ∧ RdI W W.heap.size .u16 A n xs ∧ (∀ y ∈ xs, (Lit.int .u16 y).wf = true)
      ∧ ∀ R, (∀ m ∈ x.1.weights Try.prog 30, m ≤ R) → n ≤ R := by
  have c1 : Try.prog.cellsOf 3 = 1 := by kernel_rfl
  have c2 : Try.prog.cellsOf 28 = 1 := by kernel_rfl
  have c3 : Try.prog.cellsOf 30 = 5 := by kernel_rfl
  have hby : Try.prog.bytesOf 43 = 2 := by kernel_rfl
  obtain ⟨ys, m, rfl, rfl, hlen, hl, hf⟩ := DataW.trod_struct Try.underlying30 h
  rw [c3] at hlen
  obtain ⟨v0, v1, v2, v3, v4, rfl⟩ := five_of hlen
  obtain ⟨y0, y1, y2, y3, y4, rfl⟩ := five_of hl
  have h0 := hf 0 _ rfl
  have h1 := hf 1 _ rfl
  have h2 := hf 2 _ rfl
  have h3 := hf 3 _ rfl
  have h4 := hf 4 _ rfl
  simp [c1, c2] at h0 h1 h2 h3 h4
  obtain ⟨fc, e0, rfl, w0⟩ := DataW.trod_int Try.underlying3 h0
  obtain ⟨ad, e1, rfl, w1⟩ := DataW.trod_int Try.underlying3 h1
  obtain ⟨qt, e2, rfl, w2⟩ := DataW.trod_int Try.underlying3 h2
  obtain ⟨A, n, c, xs, e3, hc, hm, hr, hw, hR⟩ := openSl Try.underlying28 Try.underlying43 (by kernel_rfl) h3
  obtain ⟨tw, e4, rfl, w4⟩ := DataW.trod_int Try.underlying3 h4
  simp at e0 e1 e2 e3 e4
  subst e0 e1 e2 e3 e4
  refine ⟨fc, ad, qt, tw, A, n, c, xs, rfl, hc, hm, hr, hw, fun R hRw => ?_⟩
  have := hR R (fun m hm => hRw m (by
    simp only [DataW.weights, Try.underlying30]
    exact DataW.weights_mem_each (j := 3) rfl rfl m hm))
  rw [hby] at this
  omega
end
end Go.Proofs.Ytgagpalffdgjnaa
namespace Go.Proofs.Ytgagpalffdgjnaa
open Go.ChangeShapes Go.WideShapes Go.ChangeAt Go.RowKit Go.Deep

structure Op21 where
  what : Int
  id : Int
  un : Int
  fc : Int
  ad : Int
  qt : Int
  qa : Option Addr
  qn : Nat
  qc : Nat
  vs : List Int
  tw : Int
  ur : Bool
  now : Int
  a : Option Addr
  m : Nat
  c : Nat
  xs : List Int
def Op21.cells (p : Op21) : List Value := [.int .i64 p.what, .int .i64 p.id, .int .i64 p.un, .int .i64 p.fc, .int .i64 p.ad, .int .i64 p.qt, .slice p.qa p.qn p.qc, .int .i64 p.tw, .bool p.ur, .int .i64 p.now, .slice p.a p.m p.c]
/-- What is true of a call, and stays so while its memory stands. -/
structure OkOp21 (w : World) (R : Nat) (p : Op21) : Prop where
  mc : p.m ≤ p.c ∧ p.c ≤ maxLen
  qc : p.qn ≤ p.qc ∧ p.qc ≤ maxLen
  rd : RdI w w.heap.size .u8 p.a p.m p.xs
  rq : RdI w w.heap.size .u16 p.qa p.qn p.vs
  wx : ∀ y ∈ p.xs, (Lit.int .u8 y).wf = true
  wq : ∀ y ∈ p.vs, (Lit.int .u16 y).wf = true
  sm : p.m ≤ R ∧ p.qn ≤ R
def RdOp21 (w : World) (R : Nat) (A : Option Addr) (n : Nat) (ps : List Op21) : Prop :=
  ps.length = n ∧ ∀ j, j < n → ∃ b o, A = some ⟨b, o, none⟩ ∧ b < w.heap.size ∧ ∃ p ∈ ps, ps[j]? = some p ∧ (∀ i, i < 11 → w.cell? ⟨b, o + j * 11 + i, none⟩ = p.cells[i]?) ∧ OkOp21 w R p
theorem RdOp21.len {w : World} {R n : Nat} {A : Option Addr} {ps : List Op21} (h : RdOp21 w R A n ps) : ps.length = n := h.1
theorem OkOp21.ext {w w' : World} {R : Nat} {p : Op21} (h : OkOp21 w R p) (E : Ext w w') : OkOp21 w' R p := ⟨h.mc, h.qc, h.rd.ext E, h.rq.ext E, h.wx, h.wq, h.sm⟩
theorem RdOp21.ext {w w' : World} {R n : Nat} {A : Option Addr} {ps : List Op21} (h : RdOp21 w R A n ps) (E : Ext w w') : RdOp21 w' R A n ps :=
  ⟨h.1, fun j hj => by
    obtain ⟨b, o, e, hb, p, hp, h1, hc, ho⟩ := h.2 j hj
    exact ⟨b, o, e, Nat.lt_of_lt_of_le hb E.size, p, hp, h1, fun i hi => (E.cell _ hb).trans (hc i hi), ho.ext E⟩⟩
section
variable {H : Type} {enc : TypeId × Value → H} {W : World} {base : Nat} {sp : Nat → Bool} {hd : Bool}
theorem split_eleven {α : Type} {cs : List α} (h : cs.length = 11) : ∃ a b c d e f g i j k l, cs = [a, b, c, d, e, f, g, i, j, k, l] := by
  match cs, h with
  | [a, b, c, d, e, f, g, i, j, k, l], _ => exact ⟨a, b, c, d, e, f, g, i, j, k, l, rfl⟩
theorem split_eight {α : Type} {cs : List α} (h : cs.length = 8) : ∃ a b c d e f g i, cs = [a, b, c, d, e, f, g, i] := by
  match cs, h with
  | [a, b, c, d, e, f, g, i], _ => exact ⟨a, b, c, d, e, f, g, i, rfl⟩
theorem split_four {α : Type} {cs : List α} (h : cs.length = 4) : ∃ a b c d, cs = [a, b, c, d] := by
  match cs, h with
  | [a, b, c, d], _ => exact ⟨a, b, c, d, rfl⟩
theorem openJobW {fuel : Nat} {cs : List Value} {x : DataW H × List MemPlace} (h : DataW.trod enc Try.prog W base sp hd fuel 32 cs = some x) :
    ∃ (id un fc ad qt tw : Int) (A : Option Addr) (n c : Nat) (xs : List Int) (u : Bool), cs = [.int .i64 id, .int .i64 un, .int .i64 fc, .int .i64 ad, .int .i64 qt, .slice A n c, .int .i64 tw, .bool u] ∧ n ≤ c ∧ c ≤ maxLen ∧ RdI W W.heap.size .u16 A n xs ∧ (∀ y ∈ xs, (Lit.int .u16 y).wf = true)
      ∧ ∀ R, (∀ m ∈ x.1.weights Try.prog 32, m ≤ R) → n ≤ R := by
  have c1 : Try.prog.cellsOf 3 = 1 := by kernel_rfl
  have c2 : Try.prog.cellsOf 30 = 5 := by kernel_rfl
  have c3 : Try.prog.cellsOf 32 = 8 := by kernel_rfl
  have c5 : Try.prog.cellsOf 4 = 1 := by kernel_rfl
  obtain ⟨ys, m, rfl, rfl, hlen, hl, hf⟩ := DataW.trod_struct Try.underlying32 h
  rw [c3] at hlen
  obtain ⟨v0, v1, v2, v3, v4, v5, v6, v7, rfl⟩ := split_eight hlen
  obtain ⟨y0, y1, y2, y3, rfl⟩ := split_four hl
  have h0 := hf 0 _ rfl
  have h1 := hf 1 _ rfl
  have h2 := hf 2 _ rfl
  have h3 := hf 3 _ rfl
  simp [c1, c2, c5] at h0 h1 h2 h3
  obtain ⟨x0, e0, rfl, w0⟩ := DataW.trod_int Try.underlying3 h0
  obtain ⟨x1, e1, rfl, w1⟩ := DataW.trod_int Try.underlying3 h1
  obtain ⟨fc, ad, qt, tw, qa, qn, qc, vs, e2, qc1, qc2, rq, wq, R1⟩ := openReqW h2
  obtain ⟨u, e3, _⟩ := DataW.trod_bool Try.underlying4 h3
  simp at e0 e1 e2 e3
  obtain ⟨e2a, e2b, e2c, e2d, e2e⟩ := e2
  subst e0 e1 e2a e2b e2c e2d e2e e3
  exact ⟨x0, x1, fc, ad, qt, tw, qa, qn, qc, vs, u, rfl, qc1, qc2, rq, wq, fun R hRw => R1 R (fun m hm => hRw m (by
      simp only [DataW.weights, Try.underlying32]
      exact DataW.weights_mem_each (j := 2) rfl rfl m hm))⟩
theorem openOp21 {fuel : Nat} {cs : List Value} {x : DataW H × List MemPlace} (h : DataW.trod enc Try.prog W base sp hd fuel 45 cs = some x) :
    ∃ p : Op21, cs = p.cells ∧ ∀ R, (∀ m ∈ x.1.weights Try.prog 45, m ≤ R) → OkOp21 W R p := by
  have c1 : Try.prog.cellsOf 3 = 1 := by kernel_rfl
  have c2 : Try.prog.cellsOf 34 = 1 := by kernel_rfl
  have c3 : Try.prog.cellsOf 32 = 8 := by kernel_rfl
  have c5 : Try.prog.cellsOf 2 = 1 := by kernel_rfl
  have c4 : Try.prog.cellsOf 45 = 11 := by kernel_rfl
  obtain ⟨ys, m, rfl, rfl, hlen, hl, hf⟩ := DataW.trod_struct Try.underlying45 h
  rw [c4] at hlen
  obtain ⟨v0, v1, v2, v3, v4, v5, v6, v7, v8, v9, v10, rfl⟩ := split_eleven hlen
  obtain ⟨y0, y1, y2, y3, rfl⟩ := split_four hl
  have h0 := hf 0 _ rfl
  have h1 := hf 1 _ rfl
  have h2 := hf 2 _ rfl
  have h3 := hf 3 _ rfl
  simp [c1, c2, c3, c5] at h0 h1 h2 h3
  obtain ⟨x0, e0, rfl, w0⟩ := DataW.trod_int Try.underlying3 h0
  obtain ⟨id, un, fc, ad, qt, tw, qa, qn, qc, vs, u, e1, qc1, qc2, rq, wq, R1⟩ := openJobW h1
  obtain ⟨x2, e2, rfl, w2⟩ := DataW.trod_int Try.underlying2 h2
  obtain ⟨A, n, c, xs, e3, hc, hm, hr, hw, R2⟩ := openSl Try.underlying34 Try.underlying5 (by kernel_rfl) h3
  have hb1 : Try.prog.bytesOf 5 = 1 := by kernel_rfl
  simp at e0 e1 e2 e3
  obtain ⟨e1a, e1b, e1c, e1d, e1e, e1f, e1g, e1h⟩ := e1
  subst e0 e1a e1b e1c e1d e1e e1f e1g e1h e2 e3
  refine ⟨⟨x0, id, un, fc, ad, qt, qa, qn, qc, vs, tw, u, x2, A, n, c, xs⟩, rfl, fun R hRw => ⟨⟨hc, hm⟩, ⟨qc1, qc2⟩, hr, rq, hw, wq, ?_, ?_⟩⟩
  · have := R2 R (fun m hm => hRw m (by
      simp only [DataW.weights, Try.underlying45]
      exact DataW.weights_mem_each (j := 3) rfl rfl m hm))
    rw [hb1] at this
    show n ≤ R
    omega
  · exact R1 R (fun m hm => hRw m (by
      simp only [DataW.weights, Try.underlying45]
      exact DataW.weights_mem_each (j := 1) rfl rfl m hm))
theorem openOps21 {fuel : Nat} {cs : List Value} {x : DataW H × List MemPlace} (h : DataW.trod enc Try.prog W base sp hd fuel 41 cs = some x) :
    ∃ (A : Option Addr) (n c : Nat) (ps : List Op21), cs = [.slice A n c] ∧ n ≤ c ∧ c ≤ maxLen ∧ ∀ R, (∀ m ∈ x.1.weights Try.prog 41, m ≤ R) → RdOp21 W R A n ps ∧ n * 96 ≤ R := by
  have hby : 96 ≤ Try.prog.bytesOf 45 := by
    have : Try.prog.bytesOf 45 = 120 := by kernel_rfl
    omega
  obtain ⟨A, n, c, rfl, hnc, hcm, hel, hR⟩ := openElemsW (fun cs y => ∃ p : Op21, cs = p.cells ∧ ∀ R, (∀ m ∈ y.weights Try.prog 45, m ≤ R) → OkOp21 W R p) 11 Try.underlying41 (by kernel_rfl) (by omega)
    (fun fuel cs x h => openOp21 h) h
  have hch : ∀ j, j < n → ∃ p : Op21, ∃ b o, A = some ⟨b, o, none⟩ ∧ b < W.heap.size ∧ (∀ i, i < 11 → W.cell? ⟨b, o + j * 11 + i, none⟩ = p.cells[i]?) ∧ ∀ R, (∀ m ∈ x.1.weights Try.prog 41, m ≤ R) → OkOp21 W R p := fun j hj => by
    obtain ⟨b, o, e, hb, vs, y, _, ⟨p, e1, h1⟩, hsub, hcell⟩ := hel j hj
    subst e1
    exact ⟨p, b, o, e, hb, hcell, fun R hR => h1 R fun m hm => hR m (hsub m hm)⟩
  have : Inhabited Op21 := ⟨⟨0, 0, 0, 0, 0, 0, none, 0, 0, [], 0, false, 0, none, 0, 0, []⟩⟩
  obtain ⟨f, hf⟩ := choose_lt hch
  refine ⟨A, n, c, (List.range n).map f, rfl, hnc, hcm, fun R hRw => ⟨⟨by simp, fun j hj => ?_⟩, Nat.le_trans (Nat.mul_le_mul_left n hby) (hR R hRw)⟩⟩
  obtain ⟨b, o, e, hb, hc, hok⟩ := hf j hj
  exact ⟨b, o, e, hb, f j, List.mem_map.2 ⟨j, List.mem_range.2 hj, rfl⟩, by simp [hj], hc, hok R hRw⟩
end
end Go.Proofs.Ytgagpalffdgjnaa
namespace Go.Proofs.Ytgagpalffdgjnaa
open Go.RowKit

def GrPost21 (n : Nat) (ps : List Op21) (w : World) (e : Ending) (w' : World) : Prop := ∃ x, e = .returned (.bool x) ∧ (x = false → n ≤ 300 ∧ (ps.map Op21.m).sum < 20000 ∧ ∀ p ∈ ps, p.m < 20000 ∧ p.qn < 20000) ∧ Ext w w'
set_option maxRecDepth 100000 in
set_option maxHeartbeats 3200000 in
theorem great21_any (A : Option Addr) (n c R : Nat) (ps : List Op21) (w : World) (hx : RdOp21 w R A n ps) (hR : R ≤ 1000000000000000) (hn : n * 96 ≤ 140737488351232) :
    Calls Try.prog 16 #[.slice A n c] w (GrPost21 n ps w) := by
  have hx' := Lib.hid hx
  have hR' := Lib.hid hR
  clear hx hR
  go_enter Try.func16, Try.ntmps16
  go_wp2_with fail
  go_loopw [3, 4] (fun s i wr => ∃ (k : Nat) (z : Int), k ≤ n ∧ i = .int .i64 k ∧ s = .int .i64 z ∧ 0 ≤ z ∧ z ≤ 1466015503659 + 20000 ∧ (z < 20000 → ((((ps.take k).map Op21.m).sum : Nat) : Int) ≤ z ∧ ∀ p ∈ ps.take k, p.m < 20000 ∧ p.qn < 20000) ∧ Ext w wr) (fun _ i _ => n - (intOf i).toNat)
  case atStart => exact ⟨0, (n : Int), by omega, rfl, rfl, by omega, by omega, fun _ => ⟨by simp, fun p hp => by simp at hp⟩, Ext.refl w⟩
  case round =>
    obtain ⟨k, z, hk, rfl, rfl, hz0, hz1, hm, hE⟩ := hrel
    have hm' := Lib.hid hm
    clear hm
    by_cases hlt : k < n
    · by_cases hz : z < 20000
      · obtain ⟨b, o, rfl, hb, p, hp, hpk, hc, hok⟩ := hx'.out.2 k hlt
        have f1 : decide (z < 20000) = true := by simp; omega
        have hRR := hR'.out
        have hm1 : p.m ≤ 1000000000000000 := by have := hok.sm.1; omega
        have hm2 : p.qn ≤ 1000000000000000 := by have := hok.sm.2; omega
        have htk : ps.take (k + 1) = ps.take k ++ [p] := by
          have hkl : k < ps.length := by rw [hx'.out.len]; exact hlt
          rw [List.take_succ_eq_append_getElem hkl]
          congr 1
          rw [List.getElem?_eq_getElem hkl] at hpk
          injection hpk with hpk
          rw [hpk]
        have htk' := Lib.hid htk
        have c6 : wr.cell? ⟨b, o + k * 11 + 10, none⟩ = some (.slice p.a p.m p.c) := (hE.cell _ hb).trans (hc 10 (by omega))
        have c4 : wr.cell? ⟨b, o + k * 11 + 6, none⟩ = some (.slice p.qa p.qn p.qc) := (hE.cell _ hb).trans (hc 6 (by omega))
        clear htk hp hpk hok hc hRR
        go_upto_region 5 with fail
        go_quiet (fail)
        go_wp2_with fail
        go_roundw
        case rel =>
          refine ⟨k + 1, z + min ((p.m : Int) + (p.qn : Int)) 20000, by omega, by go_num, rfl, by omega, by omega, fun h => ⟨?_, fun q hq => ?_⟩, hE.goD _⟩
          · rw [htk'.out, List.map_append, List.sum_append]
            have := (hm'.out hz).1
            simp only [List.map_cons, List.map_nil, List.sum_cons, List.sum_nil]
            omega
          · rw [htk'.out, List.mem_append, List.mem_singleton] at hq
            rcases hq with hq | rfl
            · exact (hm'.out hz).2 q hq
            · omega
        case measure => simp [intOf]; omega
      · have f1 : decide (z < 20000) = false := by simp; omega
        have f2 : decide (20000 ≤ z) = true := by simp; omega
        go_wp2_with fail
        go_ret
        exact ⟨_, rfl, fun h => absurd h (by decide), hE⟩
    · obtain rfl : k = n := by omega
      by_cases hz : z < 20000
      · have f2 : decide (20000 ≤ z) = false := by simp; omega
        have hall := hm'.out hz
        rw [List.take_of_length_le (by rw [hx'.out.len]; exact Nat.le_refl _)] at hall
        have hall' := Lib.hid hall
        clear hall
        by_cases h3 : 300 < k
        · have f3 : decide (300 < (k : Int)) = true := by simp; omega
          go_wp2_with fail
          go_ret
          exact ⟨_, rfl, fun h => absurd h (by decide), hE⟩
        · have f3 : decide (300 < (k : Int)) = false := by simp; omega
          go_wp2_with fail
          go_ret
          exact ⟨_, rfl, fun _ => ⟨by omega, by have := hall'.out.1; omega, hall'.out.2⟩, hE⟩
      · have f2 : decide (20000 ≤ z) = true := by simp; omega
        go_wp2_with fail
        go_ret
        exact ⟨_, rfl, fun h => absurd h (by decide), hE⟩
end Go.Proofs.Ytgagpalffdgjnaa
