/- Layer 24, the walks: what a line's functions do: opening frames, making them, spoiling one. · Layer 24, the walks: an answer is spoilt. · Layer 24: what a bank answers is bytes, never one alone. -/
import Derived.Test.YtgagpalffdgjnaaG42f
import Derived.Test.YtgagpalffdgjnaaG31
import Derived.Deep.QuietTactic
import Derived.Test.YtgagpalffdgjnaaG11
import Derived.Test.YtgagpalffdgjnaaG15
namespace Go.Proofs.Ytgagpalffdgjnaa
open Go.RowKit

/-- What is framed in bytes of a line. -/
def openR (j : Nat) (l : List Int) : Option (Int × Int × List Int) :=
  if j < 2 then (if rtuOk l = true then some (0, l.getD 0 0, (l.take (l.length - 2)).drop 1) else none)
  else (match firstR l with | (id, u, ys, k, err) => if err = 0 ∧ k = l.length ∧ 0 < k then some (id, u, ys) else none)
/-- A frame of a line. -/
def frameL (j : Nat) (id u : Int) (ys : List Int) : List Int := if j < 2 then rtuL u ys else mbapL id u ys
def flipL (ys : List Int) (k : Nat) : List Int := ys.set k (bits .xor .u8 (ys.getD k 0) 1)
/-- One spoilt. -/
def spoilL (j : Nat) (ys : List Int) : List Int := if j < 2 then (if 0 < ys.length then flipL ys (ys.length - 1) else ys) else (if 2 < ys.length then flipL ys 2 else ys)
def WOpen (j : Nat) (l : List Int) (w : World) (e : Ending) (w' : World) : Prop :=
  Ext w w' ∧ ((∃ id u ys A n c, openR j l = some (id, u, ys) ∧ e = .returned (.tuple #[.agg #[.int .u16 id, .int .u8 u, .slice A n c], .bool true]) ∧ n ≤ c ∧ c ≤ maxLen ∧ RdI w' w'.heap.size .u8 A n ys ∧ ByteL ys ∧ (0 ≤ id ∧ id ≤ 65535) ∧ (0 ≤ u ∧ u ≤ 255) ∧ ∀ b o, A = some ⟨b, o, none⟩ → w.heap.size ≤ b) ∨
    (openR j l = none ∧ ∃ id u A n c, e = .returned (.tuple #[.agg #[.int .u16 id, .int .u8 u, .slice A n c], .bool false])))
section
variable {w : World} {A : Option Addr} {n c : Nat} {l : List Int} {j : Nat} {u : Int}
set_option maxRecDepth 100000 in
set_option maxHeartbeats 1600000 in
theorem serialOpen_any (hj : j < 2) (hx : RdI w w.heap.size .u8 A n l) (hl : ByteL l) (hnc : n ≤ c) (hcm : c ≤ maxLen) :
    Calls Try.prog 86 #[.slice A n c] w (WOpen j l w) := by
  have E0 : Ext w (w.alloc (.cells #[.int .u16 0, .int .u8 0, .slice none 0 0] 48)) := (Ext.refl w).goA _
  have P0 := heap_alloc_new w (.cells #[.int .u16 0, .int .u8 0, .slice none 0 0] 48)
  have hget := rtuGet_to A n c l _ (hx.ext E0) hl hnc hcm _ (fun _ _ h => h)
  have hO : openR j l = if rtuOk l = true then some (0, l.getD 0 0, (l.take (l.length - 2)).drop 1) else none := by unfold openR; rw [if_pos hj]
  have hO' := Lib.hid hO
  have hl' := Lib.hid hl
  have P0' := Lib.hid P0
  have E0' := Lib.hid E0
  clear hO hl P0 E0 hx
  go_enter Try.func86, Try.ntmps86
  go_wp2_with fail
  refine hget.mono ?_
  rintro e w1 (⟨hok, A1, n1, c1, rfl, g1, g2, r1, E1, f1⟩ | ⟨hno, code, h0, rfl, E1⟩)
  · have P1 := (E1.block _ (lt_of_block P0'.out)).trans P0'.out
    have a0 : w1.cell? ⟨w.heap.size, 0, none⟩ = some (.int .u16 0) := cellsAt P1 0
    have a1 : w1.cell? ⟨w.heap.size, 1, none⟩ = some (.int .u8 0) := cellsAt P1 1
    have a2 : w1.cell? ⟨w.heap.size, 2, none⟩ = some (.slice none 0 0) := cellsAt P1 2
    have ff := fun o => frozen_block P1 o
    have hu := hl'.out 0
    rw [← List.getD_eq_getElem?_getD] at hu
    have hys : ByteL ((l.take (l.length - 2)).drop 1) := fun k => by
      rw [List.getElem?_drop, List.getElem?_take]
      split
      · exact hl'.out _
      · simp
    have hO2 : openR j l = some (0, l.getD 0 0, (l.take (l.length - 2)).drop 1) := by rw [hO'.out, if_pos hok]
    generalize (l.take (l.length - 2)).drop 1 = ys at *
    generalize l.getD 0 0 = u at *
    have hb0 := crc_block P1 0 (.int .u16 0)
    have hb1 := crc_block hb0 1 (.int .u8 u)
    have hb2 := crc_block hb1 2 (.slice A1 n1 c1)
    have M3 := three_mod w1 w.heap.size (.int .u16 0) (.int .u8 u) (.slice A1 n1 c1)
    have hb2' := Lib.hid hb2
    have hO3 := Lib.hid hO2
    have r1' := Lib.hid r1
    have f1' := Lib.hid f1
    clear hb0 hb1 hb2 hO2 hO' P1 r1 f1 hok
    go_wp2_with fail
    generalize ((w1.setCell ⟨w.heap.size, 0, none⟩ (.int .u16 0)).setCell ⟨w.heap.size, 1, none⟩ (.int .u8 u)).setCell ⟨w.heap.size, 2, none⟩ (.slice A1 n1 c1) = w2 at *
    refine bodyPost_ret (v := .tuple #[.agg #[.int .u16 0, .int .u8 u, .slice A1 n1 c1], .bool true]) (by simp [results, Try.results86, go_sem, cellsAt hb2'.out 0, cellsAt hb2'.out 1, cellsAt hb2'.out 2]) rfl ?_
    refine ⟨(E0'.out.go E1).goM M3 (fun i hi => by omega), .inl ⟨0, u, ys, A1, n1, c1, hO3.out, rfl, g1, g2, r1'.out.modS (fun _ b o e hb => ?_) M3, hys, by omega, hu, fun b o e => ?_⟩⟩
    · have := f1'.out b o e
      simp at this; omega
    · have := f1'.out b o e
      simp at this; omega
  · have P1 := (E1.block _ (lt_of_block P0'.out)).trans P0'.out
    have a0 : w1.cell? ⟨w.heap.size, 0, none⟩ = some (.int .u16 0) := cellsAt P1 0
    have a1 : w1.cell? ⟨w.heap.size, 1, none⟩ = some (.int .u8 0) := cellsAt P1 1
    have a2 : w1.cell? ⟨w.heap.size, 2, none⟩ = some (.slice none 0 0) := cellsAt P1 2
    have ff := fun o => frozen_block P1 o
    have hO2 : openR j l = none := by rw [hO'.out, if_neg (by rw [hno]; decide)]
    have hb0 := crc_block P1 0 (.int .u16 0)
    have hb1 := crc_block hb0 1 (.int .u8 0)
    have hb2 := crc_block hb1 2 (.slice none 0 0)
    have M3 := three_mod w1 w.heap.size (.int .u16 0) (.int .u8 0) (.slice none 0 0)
    have hb2' := Lib.hid hb2
    have hO3 := Lib.hid hO2
    have hcode : (code == 0) = false := by simpa using h0
    clear hb0 hb1 hb2 hO2 hO' P1 hno
    go_wp2_with fail
    generalize ((w1.setCell ⟨w.heap.size, 0, none⟩ (.int .u16 0)).setCell ⟨w.heap.size, 1, none⟩ (.int .u8 0)).setCell ⟨w.heap.size, 2, none⟩ (.slice none 0 0) = w2 at *
    refine bodyPost_ret (v := .tuple #[.agg #[.int .u16 0, .int .u8 0, .slice none 0 0], .bool false]) (by simp [results, Try.results86, go_sem, cellsAt hb2'.out 0, cellsAt hb2'.out 1, cellsAt hb2'.out 2]) rfl ?_
    exact ⟨(E0'.out.go E1).goM M3 (fun i hi => by omega), .inr ⟨hO3.out, 0, 0, none, 0, 0, rfl⟩⟩
/-- What cutting whole bytes comes to. -/
theorem cuts_whole {xs : List Int} {m : Nat} {ps : List (Int × Int × List Int)} (h : Cuts xs m ps) {id u : Int} {ys : List Int} (h1 : firstR xs = (id, u, ys, xs.length, 0)) : (m = 0 ∧ ps = []) ∨ (m = xs.length ∧ ps = [(id, u, ys)]) := by
  induction h with
  | none => exact .inl ⟨rfl, rfl⟩
  | more h2 h3 h4 ih =>
    rcases ih with ⟨rfl, rfl⟩ | ⟨rfl, rfl⟩
    · rw [List.drop_zero, h1] at h3
      simp only [Prod.mk.injEq] at h3
      obtain ⟨rfl, rfl, rfl, rfl, _⟩ := h3
      exact .inr ⟨by omega, rfl⟩
    · rw [List.drop_length] at h3
      have : firstR [] = (0, 0, [], 0, 0) := firstR_short (by simp) (by simp) (by simp)
      rw [this] at h3
      simp only [Prod.mk.injEq] at h3
      omega
theorem cuts_one {xs : List Int} {m : Nat} {p : Int × Int × List Int} (h : Cuts xs m [p]) : firstR xs = (p.1, p.2.1, p.2.2, m, 0) ∧ 0 < m := by
  generalize hq : [p] = q at h
  cases h with
  | none => cases hq
  | more h2 h3 h4 =>
    rename_i m' k id u ys ps
    have hps : ps = [] := by
      have := congrArg List.length hq
      simp at this
      exact this
    subst hps
    simp only [List.nil_append, List.cons.injEq, and_true] at hq
    subst hq
    have hm : m' = 0 := by
      generalize hr : ([] : List (Int × Int × List Int)) = r at h2
      cases h2 with
      | none => rfl
      | more _ _ _ => rename_i ps' _ _ _; simp at hr
    subst hm
    rw [List.drop_zero] at h3
    rw [Nat.zero_add]
    exact ⟨h3, h4⟩
theorem openR_stream {j : Nat} (hj : ¬ j < 2) (l : List Int) : openR j l = match firstR l with | (id, u, ys, k, err) => if err = 0 ∧ k = l.length ∧ 0 < k then some (id, u, ys) else none := by
  unfold openR; rw [if_neg hj]
/-- Just one frame, of all bytes. -/
theorem cut_open {j : Nat} (hj : ¬ j < 2) {l : List Int} {m : Nat} {err : Int} {ps : List (Int × Int × List Int)} (h : Cuts l m ps) (hlast : ∃ id u ys k, firstR (l.drop m) = (id, u, ys, k, err) ∧ (err ≠ 0 ∨ k = 0)) :
    (∃ p, err = 0 ∧ ps = [p] ∧ m = l.length ∧ openR j l = some p) ∨ ((err ≠ 0 ∨ ps.length ≠ 1 ∨ m ≠ l.length) ∧ openR j l = none) := by
  rw [openR_stream hj]
  obtain ⟨id, u, ys, k, hf, hk⟩ := hlast
  by_cases hw : err = 0 ∧ ps.length = 1 ∧ m = l.length
  · obtain ⟨h1, h2, h3⟩ := hw
    obtain ⟨p, rfl⟩ := List.length_eq_one_iff.1 h2
    obtain ⟨g1, g2⟩ := cuts_one h
    refine .inl ⟨p, h1, rfl, h3, ?_⟩
    rw [g1]
    simp only
    rw [if_pos ⟨trivial, h3, g2⟩]
  · refine .inr ⟨by omega, ?_⟩
    rcases hx : firstR l with ⟨id', u', ys', k', err'⟩
    simp only
    rw [if_neg]
    rintro ⟨rfl, rfl, g3⟩
    rcases cuts_whole h hx with ⟨rfl, rfl⟩ | ⟨rfl, rfl⟩
    · rw [List.drop_zero, hx] at hf
      simp only [Prod.mk.injEq] at hf
      obtain ⟨_, _, _, h4, h5⟩ := hf
      omega
    · rw [List.drop_length] at hf
      have : firstR [] = (0, 0, [], 0, 0) := firstR_short (by simp) (by simp) (by simp)
      rw [this] at hf
      simp only [Prod.mk.injEq] at hf
      exact hw ⟨hf.2.2.2.2.symm, rfl, rfl⟩
set_option maxRecDepth 100000 in
set_option maxHeartbeats 1600000 in
theorem streamOpen_any (hj : ¬ j < 2) (hx : RdI w w.heap.size .u8 A n l) (hl : ByteL l) (hnc : n ≤ c) (hcm : c ≤ maxLen) (hn : n ≤ 1000000) :
    Calls Try.prog 91 #[.slice A n c] w (WOpen j l w) := by
  have hln := hx.len
  have E0 : Ext w (w.alloc (.cells #[.int .u16 0, .int .u8 0, .slice none 0 0] 48)) := (Ext.refl w).goA _
  have P0 := heap_alloc_new w (.cells #[.int .u16 0, .int .u8 0, .slice none 0 0] 48)
  have hget := cut_told A n c l _ (hx.ext E0) hl hnc hcm hn
  have P0' := Lib.hid P0
  have E0' := Lib.hid E0
  clear hl P0 E0 hx
  go_enter Try.func91, Try.ntmps91
  go_wp2_with fail
  refine hget.mono ?_
  rintro e w1 ⟨E1, v, m, err, fs, rfl, hmn, hfm, hfr, hcut, hlast⟩
  have P1 := (E1.block _ (lt_of_block P0'.out)).trans P0'.out
  have a0 : w1.cell? ⟨w.heap.size, 0, none⟩ = some (.int .u16 0) := cellsAt P1 0
  have a1 : w1.cell? ⟨w.heap.size, 1, none⟩ = some (.int .u8 0) := cellsAt P1 1
  have a2 : w1.cell? ⟨w.heap.size, 2, none⟩ = some (.slice none 0 0) := cellsAt P1 2
  have ff := fun o => frozen_block P1 o
  have hrow := RowAt.of_own hfr.1
  obtain ⟨A1, c1, rfl, g1, g2⟩ := hrow.shape
  rcases cut_open hj hcut hlast with ⟨p, rfl, hp, hm, hO⟩ | ⟨hway, hO⟩
  · obtain ⟨f, rfl⟩ : ∃ f, fs = [f] := by
      have := congrArg List.length hp
      rw [List.length_map, List.length_singleton] at this
      exact List.length_eq_one_iff.1 this
    obtain ⟨b, o, cap, hv, _, _, _, _, hc⟩ := hrow.at_ (by simp)
    simp only [List.length_singleton] at *
    simp only [Value.slice.injEq, true_and] at hv
    obtain ⟨rfl, rfl⟩ := hv
    have y0 : w1.cell? ⟨b, o, none⟩ = some (.int .u16 f.id) := hc 0 (by omega)
    have y1 : w1.cell? ⟨b, o + 1, none⟩ = some (.int .u8 f.u) := hc 1 (by omega)
    have y2 : w1.cell? ⟨b, o + 2, none⟩ = some (.slice f.A f.n f.c) := hc 2 (by omega)
    have hgood := (hfr.2 f (by simp)).1
    have hp' : p = (f.id, f.u, f.l) := by simpa [Fm.p] using hp.symm
    subst hp'
    have hnm : ((m : Int) != (n : Int)) = false := by simp; omega
    have hgid := hgood.id
    have hgu := hgood.u
    have hgn := hgood.nc
    have hgc := hgood.cm
    have hrd := Lib.hid hgood.rd
    have hby := Lib.hid hgood.by_
    have hup := Lib.hid hgood.up
    have hO' := Lib.hid hO
    have hb0 := crc_block P1 0 (.int .u16 f.id)
    have hb1 := crc_block hb0 1 (.int .u8 f.u)
    have hb2 := Lib.hid (crc_block hb1 2 (.slice f.A f.n f.c))
    have M3 := three_mod w1 w.heap.size (.int .u16 f.id) (.int .u8 f.u) (.slice f.A f.n f.c)
    have hE := E0'.out.go E1
    clear hgood hO hb0 hb1 hc hfr hrow hp hcut hlast P1 hm hget
    go_wp2_with fail
    refine bodyPost_ret (v := .tuple #[.agg #[.int .u16 f.id, .int .u8 f.u, .slice f.A f.n f.c], .bool true]) (by simp [results, Try.results91, go_sem, cellsAt hb2.out 0, cellsAt hb2.out 1, cellsAt hb2.out 2]) rfl ?_
    refine ⟨hE.goM M3 (fun i hi => by omega), .inl ⟨f.id, f.u, f.l, f.A, f.n, f.c, hO'.out, rfl, hgn, hgc, hrd.out.modS (fun _ b o e hb => ?_) M3, hby.out, hgid, hgu, fun b o e => ?_⟩⟩
    · have := hup.out b o e
      simp at this; omega
    · have := hup.out b o e
      simp at this; omega
  · have hO' := Lib.hid hO
    have hE := E0'.out.go E1
    have hb0 := crc_block P1 0 (.int .u16 0)
    have hb1 := crc_block hb0 1 (.int .u8 0)
    have hb2 := Lib.hid (crc_block hb1 2 (.slice none 0 0))
    have M3 := three_mod w1 w.heap.size (.int .u16 0) (.int .u8 0) (.slice none 0 0)
    rw [List.length_map, hln] at hway
    generalize fs.length = k at *
    have hw3 : err ≠ 0 ∨ (err = 0 ∧ k ≠ 1) ∨ (err = 0 ∧ k = 1 ∧ m ≠ n) := by omega
    clear hway hO hb0 hb1 hrow hfr hcut hlast P1 hget
    rcases hw3 with h1 | ⟨rfl, h2⟩ | ⟨rfl, rfl, h3⟩
    · have d1 : (err != 0) = true := by simpa using h1
      go_wp2_with fail
      refine bodyPost_ret (v := .tuple #[.agg #[.int .u16 0, .int .u8 0, .slice none 0 0], .bool false]) (by simp [results, Try.results91, go_sem, cellsAt hb2.out 0, cellsAt hb2.out 1, cellsAt hb2.out 2]) rfl ?_
      exact ⟨hE.goM M3 (fun i hi => by omega), .inr ⟨hO'.out, 0, 0, none, 0, 0, rfl⟩⟩
    · have d2 : ((k : Int) != 1) = true := by simp; omega
      have d2' : (k != 1) = true := by simpa using h2
      go_wp2_with fail
      refine bodyPost_ret (v := .tuple #[.agg #[.int .u16 0, .int .u8 0, .slice none 0 0], .bool false]) (by simp [results, Try.results91, go_sem, cellsAt hb2.out 0, cellsAt hb2.out 1, cellsAt hb2.out 2]) rfl ?_
      exact ⟨hE.goM M3 (fun i hi => by omega), .inr ⟨hO'.out, 0, 0, none, 0, 0, rfl⟩⟩
    · have d3 : ((m : Int) != (n : Int)) = true := by simp; omega
      have d3' : (m != n) = true := by simpa using h3
      go_wp2_with fail
      refine bodyPost_ret (v := .tuple #[.agg #[.int .u16 0, .int .u8 0, .slice none 0 0], .bool false]) (by simp [results, Try.results91, go_sem, cellsAt hb2.out 0, cellsAt hb2.out 1, cellsAt hb2.out 2]) rfl ?_
      exact ⟨hE.goM M3 (fun i hi => by omega), .inr ⟨hO'.out, 0, 0, none, 0, 0, rfl⟩⟩
set_option maxRecDepth 100000 in
theorem serialFrame_any {id : Int} (hj : j < 2) (u0 : 0 ≤ u) (u1 : u ≤ 255) (hx : RdI w w.heap.size .u8 A n l) (hl : ByteL l) (hn : n ≤ maxLen) :
    Calls Try.prog 88 #[.agg #[.int .u16 id, .int .u8 u, .slice A n c]] w (FreshO (frameL j id u l) w) := by
  have E0 : Ext w (w.alloc (.cells #[.int .u16 id, .int .u8 u, .slice A n c] 48)) := (Ext.refl w).goA _
  have P0 := heap_alloc_new w (.cells #[.int .u16 id, .int .u8 u, .slice A n c] 48)
  have a1 : (w.alloc (.cells #[.int .u16 id, .int .u8 u, .slice A n c] 48)).cell? ⟨w.heap.size, 1, none⟩ = some (.int .u8 u) := cellsAt P0 1
  have a2 : (w.alloc (.cells #[.int .u16 id, .int .u8 u, .slice A n c] 48)).cell? ⟨w.heap.size, 2, none⟩ = some (.slice A n c) := cellsAt P0 2
  have hput := rtuPut_own u A n c l _ u0 u1 (hx.ext E0) hl hn
  have hf : frameL j id u l = rtuL u l := if_pos hj
  rw [hf]
  have E0' := Lib.hid E0
  clear E0 P0 hx hl hf
  go_enter Try.func88, Try.ntmps88
  go_wp2_with fail
  refine hput.mono ?_
  intro e w1 h
  have h' := h.from_ E0'.out
  obtain ⟨A1, n1, c1, rfl, own, E1⟩ := h'
  clear h
  go_wp2_with fail
  go_ret
  exact ⟨A1, n1, c1, rfl, own, E1⟩
theorem streamFrame_any {id : Int} (hj : ¬ j < 2) (i0 : 0 ≤ id) (i1 : id ≤ 65535) (hx : RdI w w.heap.size .u8 A n l) (hn : n ≤ maxLen) :
    Calls Try.prog 93 #[.agg #[.int .u16 id, .int .u8 u, .slice A n c]] w (FreshO (frameL j id u l) w) := by
  have hf : frameL j id u l = mbapL id u l := if_neg hj
  rw [hf]
  exact mbapPut_own id u A n c l w i0 i1 hx hn
end
end Go.Proofs.Ytgagpalffdgjnaa
namespace Go.Proofs.Ytgagpalffdgjnaa
open Go.RowKit

theorem own_put24 {w : World} {base n : Nat} {e : TypeId} {k : IntKind} {A : Option Addr} {c : Nat} {xs : List Int} (h : w.ownsRow base e 1 (.slice A n c) n (xs.map (Value.int k))) {j : Nat} (hj : j < n) :
    ∃ b, A = some ⟨b, 0, none⟩ ∧ w.cell? ⟨b, j, none⟩ = some (.int k (xs.getD j 0)) ∧ w.frozen? ⟨b, j, none⟩ = false ∧ ∀ v, (w.setCell ⟨b, j, none⟩ (.int k v)).ownsRow base e 1 (.slice A n c) n ((xs.set j v).map (Value.int k)) := by
  have hl : xs.length = n := by have := h.1; simpa using this
  rcases h.2 with ⟨h1, _⟩ | ⟨g, cap, cur, h1, hb, hg, _⟩
  · injection h1 with _ h1 _; omega
  · injection h1 with h1 h2 h3
    subst h1 h3
    refine ⟨g, rfl, ?_, by simp [World.frozen?, hg], fun v => ?_⟩
    · rw [h.cellAt j (by omega), List.getElem?_map, List.getElem?_eq_getElem (by omega), List.getD_eq_getElem?_getD, List.getElem?_eq_getElem (by omega)]
      rfl
    · have := h.stored j (.int k v)
      rw [List.map_set]
      exact this.1
section
variable {w : World} {A : Option Addr} {n c : Nat} {ys : List Int} {j base t : Nat}
set_option maxRecDepth 100000 in
set_option maxHeartbeats 1600000 in
theorem turn_any (own : w.ownsRow base 5 1 (.slice A n c) n (ys.map (Value.int .u8))) (hn : n ≤ 1000000) (ht : w.heap[t]? = some (.cells #[.int .i64 (placeJ j)] 3 (0, 0))) :
    Calls Try.prog 117 #[.slice A n c, .pointer (some ⟨t, 0, none⟩)] w fun e w' => e = .returned (.tuple #[]) ∧ w'.ownsRow base 5 1 (.slice A n c) n ((spoilL j ys).map (Value.int .u8)) ∧ Mod (fun b => (Value.slice A n c).ownBlock = some b) w w' := by
  have hl : ys.length = n := by have := own.1; simpa using this
  have c0 := cellsAt ht 0
  have own' := Lib.hid own
  by_cases hj : j < 2
  · have hs : spoilL j ys = if 0 < ys.length then flipL ys (ys.length - 1) else ys := if_pos hj
    rw [hs, hl]
    rw [show placeJ j = -1 from if_pos hj] at c0
    have c0' : w.cell? ⟨t, 0, none⟩ = some (.int .i64 (-1)) := c0
    clear own ht hs c0 hj
    have hw : IntKind.i64.wrap (-1 + (n : Int)) = (n : Int) - 1 := by rw [IntKind.wrap_i64]; omega
    by_cases h0 : 0 < n
    · rw [if_pos h0]
      obtain ⟨b, rfl, k1, k2, k3⟩ := own_put24 own'.out (j := n - 1) (by omega)
      have hfin := Lib.hid (k3 (bits .xor .u8 (ys.getD (n - 1) 0) 1))
      have d1 : decide ((0 : Int) ≤ (n : Int) - 1) = true := by simp; omega
      have d2 : decide ((n : Int) - 1 < (n : Int)) = true := by simp; omega
      have e1 : ((n : Int) - 1).toNat = n - 1 := by omega
      unfold flipL
      generalize ys.getD (n - 1) 0 = y at *
      clear k3 own'
      go_enter Try.func117, Try.ntmps117
      go_wp2_with fail
      go_end0
      exact ⟨rfl, hfin.out, (Mod.refl (fun b_1 => (Value.slice (some ⟨b, 0, none⟩) n c).ownBlock = some b_1) w).setCell (p := ⟨b, n - 1, none⟩) (.inl rfl) _⟩
    · rw [if_neg h0]
      obtain rfl : n = 0 := by omega
      have hw0 : IntKind.i64.wrap (-1) = -1 := by rw [IntKind.wrap_i64]; omega
      clear hw
      go_enter Try.func117, Try.ntmps117
      go_wp2_with fail
      go_end0
      exact ⟨rfl, own'.out, Mod.refl _ w⟩
  · have hs : spoilL j ys = if 2 < ys.length then flipL ys 2 else ys := if_neg hj
    rw [hs, hl]
    rw [show placeJ j = 2 from if_neg hj] at c0
    have c0' : w.cell? ⟨t, 0, none⟩ = some (.int .i64 2) := c0
    clear own ht hs c0 hj
    by_cases h0 : 2 < n
    · rw [if_pos h0]
      obtain ⟨b, rfl, k1, k2, k3⟩ := own_put24 own'.out (j := 2) (by omega)
      have hfin := Lib.hid (k3 (bits .xor .u8 (ys.getD 2 0) 1))
      have d2 : decide ((2 : Int) < (n : Int)) = true := by simp; omega
      have d3 : (2 : Int) < (n : Int) := by omega
      unfold flipL
      generalize ys.getD 2 0 = y at *
      clear k3 own'
      go_enter Try.func117, Try.ntmps117
      go_wp2_with fail
      go_end0
      exact ⟨rfl, hfin.out, (Mod.refl (fun b_1 => (Value.slice (some ⟨b, 0, none⟩) n c).ownBlock = some b_1) w).setCell (p := ⟨b, 2, none⟩) (.inl rfl) _⟩
    · rw [if_neg h0]
      have d2 : decide ((2 : Int) < (n : Int)) = false := by simp; omega
      go_enter Try.func117, Try.ntmps117
      go_wp2_with fail
      go_end0
      exact ⟨rfl, own'.out, Mod.refl _ w⟩
end
end Go.Proofs.Ytgagpalffdgjnaa
namespace Go.Proofs.Ytgagpalffdgjnaa
open Go.RowKit

theorem orHi_byte {x : Int} (h0 : 0 ≤ x) (h1 : x ≤ 255) : 0 ≤ orHi x ∧ orHi x ≤ 255 := by
  have h : ∀ k : Fin 256, 0 ≤ orHi (k.val : Int) ∧ orHi (k.val : Int) ≤ 255 := by decide +kernel
  have := h ⟨x.toNat, by omega⟩
  rwa [show ((⟨x.toNat, by omega⟩ : Fin 256).val : Int) = x from by simp; omega] at this
theorem alarmL_bytes {bs : List Int} (hb : ByteL bs) (code : Int) : ByteL (alarmL bs code) := by
  refine rng_of (by omega) (by omega) fun y hy => ?_
  unfold alarmL at hy
  split at hy
  · simp only [List.mem_cons, List.not_mem_nil, or_false] at hy
    rcases hy with rfl | rfl
    · have := hb 0
      rw [← List.getD_eq_getElem?_getD] at this
      exact orHi_byte this.1 this.2
    · omega
  · simp at hy
theorem serveY_bytes (L : Nat → List Int) {l : List Int} (hl : ByteL l) : ByteL (serveY L l) := by
  unfold serveY
  split
  · exact alarmL_bytes hl _
  · exact rputL_bytes _ _ _ _ _ _ _
theorem serveY_len (L : Nat → List Int) (l : List Int) : (serveY L l).length ≠ 1 := by
  unfold serveY
  split
  · unfold alarmL
    split <;> simp
  · unfold rputL
    split
    · rename_i h
      obtain ⟨h1, h2, h3, _⟩ := rep_length h
      by_cases hc : doC L (getR l).1.fc (getR l).1.ad (getR l).1.qt (getR l).1.to (getR l).1.xs = 0
      · by_cases hr : readsB (getR l).1.fc = true
        · have h4 := h2 hc hr
          have hq : 0 ≤ (getR l).1.qt := (right_do (ans_parts h).1).2.1
          intro h5
          rw [h5] at h4
          split at h4 <;> omega
        · have h4 := h3 hc (by simpa using hr)
          omega
      · have h4 := h1 hc
        omega
    · simp
end Go.Proofs.Ytgagpalffdgjnaa
