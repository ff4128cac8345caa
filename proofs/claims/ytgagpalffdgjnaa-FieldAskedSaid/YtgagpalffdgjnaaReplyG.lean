/- Layer 5, the walks: the answer of bytes. (Printed by wip/gen/rget.py.) -/
import Derived.Test.YtgagpalffdgjnaaG10
import Derived.Laws.EntriesVeiled
namespace Go.Proofs.Ytgagpalffdgjnaa
open Go.RowKit

theorem two_reads {w : World} {i : Nat} {t : TypeId} {a0 a1 : Value} (h : w.heap[i]? = some (.cells #[a0, a1] t (0, 0))) (b0 b1 : Value) :
    (w.setCell ⟨i, 0, none⟩ b0).cell? ⟨i, 0, none⟩ = some b0 ∧ ((w.setCell ⟨i, 0, none⟩ b0).setCell ⟨i, 1, none⟩ b1).cell? ⟨i, 1, none⟩ = some b1 := by
  have h0 := set_block h 0 b0
  have h1 := set_block h0 1 b1
  exact ⟨cellsAt h0 0, cellsAt h1 1⟩
theorem Ext.two {v w : World} {i : Nat} (E : Ext v w) (hi : v.heap.size ≤ i) (b0 b1 : Value) : Ext v ((w.setCell ⟨i, 0, none⟩ b0).setCell ⟨i, 1, none⟩ b1) :=
  (E.goS (p := ⟨i, 0, none⟩) hi b0).goS (p := ⟨i, 1, none⟩) hi b1
theorem two_rd {w : World} {k : IntKind} {n : Nat} {A : Option Addr} {xs : List Int} {C : Nat} (h : RdI w C k A n xs) (hC : C ≤ w.heap.size) (i : Nat) (hA : 0 < n → ∀ b o, A = some ⟨b, o, none⟩ → b ≠ i) (b0 b1 : Value) :
    RdI ((w.setCell ⟨i, 0, none⟩ b0).setCell ⟨i, 1, none⟩ b1) ((w.setCell ⟨i, 0, none⟩ b0).setCell ⟨i, 1, none⟩ b1).heap.size k A n xs :=
  h.kept (by rw [setCell_size, setCell_size]; exact hC) (fun hn b o e => by
    have f : ∀ (w : World) (o : Nat) (v : Value), (w.setCell ⟨i, o, none⟩ v).heap[b]? = w.heap[b]? := fun w o v => Below.heap_setCell w ⟨i, o, none⟩ v b (hA hn b _ e)
    rw [f, f])
theorem rep_far {w : World} {g C n : Nat} {t : TypeId} {A : Option Addr} {L : List Int} (h : w.heap[g]? = some (.cells #[.int .i64 0, .slice none 0 0] t (0, 0))) (r : RdI w C .u16 A n L) : 0 < n → ∀ b o, A = some ⟨b, o, none⟩ → b ≠ g := by
  intro hn b o e hb
  obtain ⟨b', o', e', _, hc⟩ := r.2 hn
  rw [e] at e'; injection e' with e'; injection e' with e1 e2
  subst e1 e2 hb
  have h0 := hc 0 hn
  rw [Nat.add_zero, cellsAt h o] at h0
  rcases o with _ | _ | o <;> simp at h0
/-- What bytes are answered by: an answer, and an error or 0. -/
def RGetPost (code : Int) (ys : List Int) (err : Int) (w : World) (e : Ending) (w' : World) : Prop :=
  ∃ A n c, e = .returned (.tuple #[.agg #[.int .i64 code, .slice A n c], .int .i64 err]) ∧ n ≤ c ∧ c ≤ maxLen ∧ RdI w' w'.heap.size .u16 A n ys ∧ Ext w w'
/-- Do bytes tell that answer? -/
def tellsB (fc ad qt to : Int) (xs bs : List Int) (code : Int) (ys : List Int) : Bool := ansR fc ad qt to xs code ys && ((strOfNums (repR fc ad qt to xs code ys)).toList == (strOfNums bs).toList)
def hiB (x : Int) : Bool := bits .and .u8 x 128 != 0

set_option maxRecDepth 100000 in
set_option maxHeartbeats 1600000 in
theorem rget_no (fc ad qt to : Int) (A Ab : Option Addr) (n c m cb : Nat) (xs bs : List Int) (w : World) (hx : RdI w w.heap.size .u16 A n xs) (hr : ∀ j : Nat, 0 ≤ xs[j]?.getD 0 ∧ xs[j]?.getD 0 ≤ 65535) (nm : n ≤ maxLen) (hz : RdI w w.heap.size .u8 Ab m bs) (hb : ByteL bs) (h : rightB' fc ad qt to xs = false) :
    Calls Try.prog 50 #[.agg #[.int .i64 fc, .int .i64 ad, .int .i64 qt, .slice A n c, .int .i64 to], .slice Ab m cb] w (RGetPost 0 [] 51 w) := by
  have hmf : ∀ (fn : Fn) (first cap : Array Value) (w : World), (Instr.makeFunc fn first cap).run Try.prog w = .ok (.func fn first cap) w := fun _ _ _ _ => rfl
  have k2 : w.heap.size + 1 + 1 = w.heap.size + 2 := rfl
  have E0 := (((Ext.refl w).goA (.cells #[.int .i64 fc, .int .i64 ad, .int .i64 qt, .slice A n c, .int .i64 to] 30)).goA (.cells #[.slice Ab m cb] 34)).goA (.cells #[.int .i64 0, .slice none 0 0] 54)
  have bx : (((w.alloc (.cells #[.int .i64 fc, .int .i64 ad, .int .i64 qt, .slice A n c, .int .i64 to] 30)).alloc (.cells #[.slice Ab m cb] 34)).alloc (.cells #[.int .i64 0, .slice none 0 0] 54)).heap[w.heap.size]? = some (.cells #[.int .i64 fc, .int .i64 ad, .int .i64 qt, .slice A n c, .int .i64 to] 30 (0, 0)) := by rw [alloc_get, if_neg (by simp; omega), alloc_get, if_neg (by simp), alloc_get, if_pos rfl]
  have by_ : (((w.alloc (.cells #[.int .i64 fc, .int .i64 ad, .int .i64 qt, .slice A n c, .int .i64 to] 30)).alloc (.cells #[.slice Ab m cb] 34)).alloc (.cells #[.int .i64 0, .slice none 0 0] 54)).heap[w.heap.size + 1]? = some (.cells #[.slice Ab m cb] 34 (0, 0)) := by rw [alloc_get, if_neg (by simp), alloc_get, if_pos (by simp)]
  have bz : (((w.alloc (.cells #[.int .i64 fc, .int .i64 ad, .int .i64 qt, .slice A n c, .int .i64 to] 30)).alloc (.cells #[.slice Ab m cb] 34)).alloc (.cells #[.int .i64 0, .slice none 0 0] 54)).heap[w.heap.size + 2]? = some (.cells #[.int .i64 0, .slice none 0 0] 54 (0, 0)) := by rw [alloc_get, if_pos (by simp)]
  have bx' := Lib.hid bx
  have by' := Lib.hid by_
  have bz' := Lib.hid bz
  have hx' := Lib.hid hx
  have hz' := Lib.hid hz
  have hr' := Lib.hid hr
  have hb' := Lib.hid hb
  have h' := Lib.hid h
  clear bx by_ bz hx hz hr hb h
  go_enter Try.func50, Try.ntmps50
  go_wp2_with fail
  refine (pduRight_any fc ad qt to A n c xs _ (hx'.out.ext E0) nm).mono ?_
  rw [h'.out]
  rintro e w1 ⟨rfl, D1⟩
  have R1 := (D1.block _ (lt_of_block bz'.out)).trans bz'.out
  have f1 := frozen_block R1
  have c1 := cellsAt R1
  have R1' := Lib.hid R1
  have E1 := E0.go D1
  clear R1
  go_wp2_with fail
  obtain ⟨z0, z1⟩ := two_reads R1'.out (.int .i64 0) (.slice none 0 0)
  refine bodyPost_ret (v := .tuple #[.agg #[.int .i64 0, .slice none 0 0], .int .i64 51]) (by simp [results, Try.results50, go_sem, z0, z1]) rfl ?_
  exact ⟨_, _, _, rfl, Nat.le_refl _, by decide, RdI.nil _, E1.two (by simp) _ _⟩
set_option maxRecDepth 100000 in
set_option maxHeartbeats 3200000 in
theorem rget_alarm (fc ad qt to x0 x1 : Int) (A Ab : Option Addr) (n c cb : Nat) (xs bs : List Int) (w : World) (hx : RdI w w.heap.size .u16 A n xs) (hr : ∀ j : Nat, 0 ≤ xs[j]?.getD 0 ∧ xs[j]?.getD 0 ≤ 65535) (nm : n ≤ maxLen) (hz : RdI w w.heap.size .u8 Ab 2 bs) (hb : ByteL bs) (h : rightB' fc ad qt to xs = true) (hbs : bs = [x0, x1]) (hhi : hiB x0 = true) (P : Ending → World → Prop)
    (hP1 : tellsB fc ad qt to xs bs x1 [] = true → ∀ e w', RGetPost x1 [] 52 w e w' → P e w') (hP2 : tellsB fc ad qt to xs bs x1 [] = false → ∀ e w', RGetPost 0 [] 51 w e w' → P e w') :
    Calls Try.prog 50 #[.agg #[.int .i64 fc, .int .i64 ad, .int .i64 qt, .slice A n c, .int .i64 to], .slice Ab 2 cb] w P := by
  have hmf : ∀ (fn : Fn) (first cap : Array Value) (w : World), (Instr.makeFunc fn first cap).run Try.prog w = .ok (.func fn first cap) w := fun _ _ _ _ => rfl
  have k2 : w.heap.size + 1 + 1 = w.heap.size + 2 := rfl
  have E0 := (((Ext.refl w).goA (.cells #[.int .i64 fc, .int .i64 ad, .int .i64 qt, .slice A n c, .int .i64 to] 30)).goA (.cells #[.slice Ab 2 cb] 34)).goA (.cells #[.int .i64 0, .slice none 0 0] 54)
  have bx : (((w.alloc (.cells #[.int .i64 fc, .int .i64 ad, .int .i64 qt, .slice A n c, .int .i64 to] 30)).alloc (.cells #[.slice Ab 2 cb] 34)).alloc (.cells #[.int .i64 0, .slice none 0 0] 54)).heap[w.heap.size]? = some (.cells #[.int .i64 fc, .int .i64 ad, .int .i64 qt, .slice A n c, .int .i64 to] 30 (0, 0)) := by rw [alloc_get, if_neg (by simp; omega), alloc_get, if_neg (by simp), alloc_get, if_pos rfl]
  have by_ : (((w.alloc (.cells #[.int .i64 fc, .int .i64 ad, .int .i64 qt, .slice A n c, .int .i64 to] 30)).alloc (.cells #[.slice Ab 2 cb] 34)).alloc (.cells #[.int .i64 0, .slice none 0 0] 54)).heap[w.heap.size + 1]? = some (.cells #[.slice Ab 2 cb] 34 (0, 0)) := by rw [alloc_get, if_neg (by simp), alloc_get, if_pos (by simp)]
  have bz : (((w.alloc (.cells #[.int .i64 fc, .int .i64 ad, .int .i64 qt, .slice A n c, .int .i64 to] 30)).alloc (.cells #[.slice Ab 2 cb] 34)).alloc (.cells #[.int .i64 0, .slice none 0 0] 54)).heap[w.heap.size + 2]? = some (.cells #[.int .i64 0, .slice none 0 0] 54 (0, 0)) := by rw [alloc_get, if_pos (by simp)]
  have bx' := Lib.hid bx
  have by' := Lib.hid by_
  have bz' := Lib.hid bz
  have hx' := Lib.hid hx
  have hz' := Lib.hid hz
  have hr' := Lib.hid hr
  have hb' := Lib.hid hb
  have h' := Lib.hid h
  clear bx by_ bz hx hr
  obtain ⟨bb, o, rfl, hbb, hc0⟩ := hz.at_ (show 0 < 2 by omega)
  obtain ⟨bb', o', e', _, hc1⟩ := hz.at_ (show 1 < 2 by omega)
  injection e' with e'; injection e' with e1 e2
  subst e1 e2
  rw [Nat.add_zero] at hc0
  rw [hbs] at hc0 hc1
  rw [show ([x0, x1] : List Int).getD 0 0 = x0 from rfl] at hc0
  rw [show ([x0, x1] : List Int).getD 1 0 = x1 from rfl] at hc1
  have r1 : 0 ≤ x1 ∧ x1 ≤ 255 := by have := hb 1; rw [hbs] at this; exact this
  have u1 : IntKind.i64.wrap x1 = x1 := by rw [IntKind.wrap_i64]; omega
  have hi1 : (bits .and .u8 x0 128 != 0) = true := hhi
  have hi2 : (bits .and .u8 x0 128 == 0) = false := by rw [← Bool.not_eq_true', Bool.not_eq_true']; have := hi1; simpa using this
  have hT := Lib.hid (fun ga gb w' ha hb2 hx hz => tells_any ga gb fc ad qt to x1 A none (some ⟨bb, o, none⟩) n c 0 0 2 cb xs [] bs w' ha hb2 hx hr'.out nm (RdI.nil _) (by simp) (by decide) hz)
  clear hz hb h hbs hhi r1
  unfold tellsB at hP1 hP2
  generalize hv : (ansR fc ad qt to xs x1 [] && ((strOfNums (repR fc ad qt to xs x1 [])).toList == (strOfNums bs).toList)) = v at hT hP1 hP2
  have hP1' := Lib.hid hP1
  have hP2' := Lib.hid hP2
  clear hv hP1 hP2
  have hT' := hT
  clear hT
  go_enter Try.func50, Try.ntmps50
  go_wp2_with fail
  refine (pduRight_any fc ad qt to A n c xs _ (hx'.out.ext E0) nm).mono ?_
  rw [h'.out]
  rintro e w1 ⟨rfl, D1⟩
  have X1 := cellsAt ((D1.block _ (lt_of_block bx'.out)).trans bx'.out)
  have E1 := E0.go D1
  go_wp2_with fail
  refine (of_any fc ad qt to A n c w1).mono ?_
  rintro e w2 ⟨rfl, D2⟩
  have G3 := (Ext.refl w2).goA (.cells #[.int .i64 fc, .int .i64 ad, .int .i64 qt, .slice A n c, .int .i64 to, .bool (readsB fc), .bool (readsBits fc)] 167)
  have D13 := (D1.go D2).go G3
  have E3 := E0.go D13
  have hka := heap_alloc_new w2 (.cells #[.int .i64 fc, .int .i64 ad, .int .i64 qt, .slice A n c, .int .i64 to, .bool (readsB fc), .bool (readsBits fc)] 167)
  have Y3 := (D13.block _ (lt_of_block by'.out)).trans by'.out
  have Z3 := (D13.block _ (lt_of_block bz'.out)).trans bz'.out
  have y3 := cellsAt Y3
  have hka' := Lib.hid hka
  have Y3' := Lib.hid Y3
  have Z3' := Lib.hid Z3
  clear X1 hka Y3 Z3
  have c0 := (E3.cell o hbb).trans hc0
  have c1 := (E3.cell (o + 1) hbb).trans hc1
  have G4 := (Ext.refl (w2.alloc (.cells #[.int .i64 fc, .int .i64 ad, .int .i64 qt, .slice A n c, .int .i64 to, .bool (readsB fc), .bool (readsBits fc)] 167))).goA (.cells #[.int .i64 x1, .slice none 0 0] 54)
  have E4 := E3.go G4
  go_wp2_with fail
  have hP : ((w2.alloc (.cells #[.int .i64 fc, .int .i64 ad, .int .i64 qt, .slice A n c, .int .i64 to, .bool (readsB fc), .bool (readsBits fc)] 167)).alloc (.cells #[.int .i64 x1, .slice none 0 0] 54)).heap[w2.heap.size + 1]? = some (.cells #[.int .i64 x1, .slice none 0 0] 54 (0, 0)) := by rw [alloc_get, if_pos (by simp)]
  have R4 := Lib.hid ((G4.block _ (lt_of_block Z3'.out)).trans Z3'.out)
  refine (hT'.out w2.heap.size (w.heap.size + 1) _ ((G4.block _ (lt_of_block hka'.out)).trans hka'.out) ((G4.block _ (lt_of_block Y3'.out)).trans Y3'.out) (hx'.out.ext E4) (hz'.out.ext E4)).mono ?_
  rintro e w5 ⟨rfl, D5⟩
  have P5 := cellsAt ((D5.block _ (lt_of_block hP)).trans hP)
  have R5 := (D5.block _ (lt_of_block R4.out)).trans R4.out
  have f5 := frozen_block R5
  have p5 := cellsAt R5
  have R5' := Lib.hid R5
  have E5 := E4.go D5
  clear R5 c0 c1 hP
  cases v
  · go_wp2_with fail
    obtain ⟨z0, z1⟩ := two_reads R5'.out (.int .i64 0) (.slice none 0 0)
    refine bodyPost_ret (v := .tuple #[.agg #[.int .i64 0, .slice none 0 0], .int .i64 51]) (by simp [results, Try.results50, go_sem, z0, z1]) rfl ?_
    exact hP2'.out trivial _ _ ⟨_, _, _, rfl, Nat.le_refl _, by decide, RdI.nil _, E5.two (by simp) _ _⟩
  · go_wp2_with fail
    obtain ⟨z0, z1⟩ := two_reads R5'.out (.int .i64 x1) (.slice none 0 0)
    refine bodyPost_ret (v := .tuple #[.agg #[.int .i64 x1, .slice none 0 0], .int .i64 52]) (by simp [results, Try.results50, go_sem, z0, z1]) rfl ?_
    exact hP1'.out trivial _ _ ⟨_, _, _, rfl, Nat.le_refl _, by decide, RdI.nil _, E5.two (by simp) _ _⟩
theorem takenV_range (r b : Bool) (qt : Int) (bs : List Int) (hb : ByteL bs) : ∀ j : Nat, 0 ≤ (takenV r b qt bs)[j]?.getD 0 ∧ (takenV r b qt bs)[j]?.getD 0 ≤ 65535 := by
  have hw := wordAt_range bs hb
  unfold takenV
  by_cases h1 : (if r then qt else 0) = 0 ∨ bs.length < 2
  · rw [if_pos h1]; intro j; simp
  · rw [if_neg h1]
    cases b
    · rw [if_neg (by decide)]
      by_cases h2 : ((bs.length - 2 : Nat) : Int) ≠ 2 * qt
      · rw [if_pos h2]; intro j; simp
      · rw [if_neg h2]
        exact rng_map _ _ (by omega) (by omega) fun x => hw _
    · rw [if_pos rfl]
      refine rng_map _ _ (by omega) (by omega) fun x => ?_
      split <;> omega
set_option maxRecDepth 100000 in
set_option maxHeartbeats 3200000 in
theorem rget_vals (fc ad qt to : Int) (A Ab : Option Addr) (n c m cb : Nat) (xs bs : List Int) (w : World) (hx : RdI w w.heap.size .u16 A n xs) (hr : ∀ j : Nat, 0 ≤ xs[j]?.getD 0 ∧ xs[j]?.getD 0 ≤ 65535) (nm : n ≤ maxLen) (hz : RdI w w.heap.size .u8 Ab m bs) (hb : ByteL bs) (hmc : m ≤ cb) (hcm : cb ≤ maxLen) (h : rightB' fc ad qt to xs = true) (hno : m ≠ 2 ∨ m = 2 ∧ hiB (bs.getD 0 0) = false) (P : Ending → World → Prop)
    (hP1 : tellsB fc ad qt to xs bs 0 (takenV (readsB fc) (readsBits fc) qt bs) = true → ∀ e w', RGetPost 0 (takenV (readsB fc) (readsBits fc) qt bs) 0 w e w' → P e w') (hP2 : tellsB fc ad qt to xs bs 0 (takenV (readsB fc) (readsBits fc) qt bs) = false → ∀ e w', RGetPost 0 [] 51 w e w' → P e w') :
    Calls Try.prog 50 #[.agg #[.int .i64 fc, .int .i64 ad, .int .i64 qt, .slice A n c, .int .i64 to], .slice Ab m cb] w P := by
  have hmf : ∀ (fn : Fn) (first cap : Array Value) (w : World), (Instr.makeFunc fn first cap).run Try.prog w = .ok (.func fn first cap) w := fun _ _ _ _ => rfl
  have k2 : w.heap.size + 1 + 1 = w.heap.size + 2 := rfl
  have E0 := (((Ext.refl w).goA (.cells #[.int .i64 fc, .int .i64 ad, .int .i64 qt, .slice A n c, .int .i64 to] 30)).goA (.cells #[.slice Ab m cb] 34)).goA (.cells #[.int .i64 0, .slice none 0 0] 54)
  have bx : (((w.alloc (.cells #[.int .i64 fc, .int .i64 ad, .int .i64 qt, .slice A n c, .int .i64 to] 30)).alloc (.cells #[.slice Ab m cb] 34)).alloc (.cells #[.int .i64 0, .slice none 0 0] 54)).heap[w.heap.size]? = some (.cells #[.int .i64 fc, .int .i64 ad, .int .i64 qt, .slice A n c, .int .i64 to] 30 (0, 0)) := by rw [alloc_get, if_neg (by simp; omega), alloc_get, if_neg (by simp), alloc_get, if_pos rfl]
  have by_ : (((w.alloc (.cells #[.int .i64 fc, .int .i64 ad, .int .i64 qt, .slice A n c, .int .i64 to] 30)).alloc (.cells #[.slice Ab m cb] 34)).alloc (.cells #[.int .i64 0, .slice none 0 0] 54)).heap[w.heap.size + 1]? = some (.cells #[.slice Ab m cb] 34 (0, 0)) := by rw [alloc_get, if_neg (by simp), alloc_get, if_pos (by simp)]
  have bz : (((w.alloc (.cells #[.int .i64 fc, .int .i64 ad, .int .i64 qt, .slice A n c, .int .i64 to] 30)).alloc (.cells #[.slice Ab m cb] 34)).alloc (.cells #[.int .i64 0, .slice none 0 0] 54)).heap[w.heap.size + 2]? = some (.cells #[.int .i64 0, .slice none 0 0] 54 (0, 0)) := by rw [alloc_get, if_pos (by simp)]
  have bx' := Lib.hid bx
  have by' := Lib.hid by_
  have bz' := Lib.hid bz
  have hx' := Lib.hid hx
  have hz' := Lib.hid hz
  have hr' := Lib.hid hr
  have hb' := Lib.hid hb
  have h' := Lib.hid h
  have hq := right_qty h
  have hq1 := Lib.hid hq
  have htr := takenV_range (readsB fc) (readsBits fc) qt bs hb
  have hT := Lib.hid (fun ga gb A2 n2 c2 w' ha hb2 hx hy nm2 hz => tells_any ga gb fc ad qt to 0 A A2 Ab n c n2 c2 m cb xs (takenV (readsB fc) (readsBits fc) qt bs) bs w' ha hb2 hx hr'.out nm hy htr nm2 hz)
  have hK := Lib.hid (fun w' hz => taken05_any fc ad qt to A Ab n c m cb (readsB fc) (readsBits fc) bs w' hz hb hmc hcm hq.1 hq.2.1)
  clear bx by_ bz hx hr hb h htr hq
  unfold tellsB at hP1 hP2
  generalize hv : (ansR fc ad qt to xs 0 (takenV (readsB fc) (readsBits fc) qt bs) && ((strOfNums (repR fc ad qt to xs 0 (takenV (readsB fc) (readsBits fc) qt bs))).toList == (strOfNums bs).toList)) = v at hT hP1 hP2
  have hP1' := Lib.hid hP1
  have hP2' := Lib.hid hP2
  clear hv hP1 hP2
  generalize takenV (readsB fc) (readsBits fc) qt bs = Y at hT hK hP1' hP2'
  rcases hno with hno | ⟨rfl, hno⟩
  · have t1 : ((m : Int) == 2) = false := by simp; omega
    clear hz hno
    go_enter Try.func50, Try.ntmps50
    go_wp2_with fail
    refine (pduRight_any fc ad qt to A n c xs _ (hx'.out.ext E0) nm).mono ?_
    rw [h'.out]
    rintro e w1 ⟨rfl, D1⟩
    have X1 := cellsAt ((D1.block _ (lt_of_block bx'.out)).trans bx'.out)
    have E1 := E0.go D1
    go_wp2_with fail
    refine (of_any fc ad qt to A n c w1).mono ?_
    rintro e w2 ⟨rfl, D2⟩
    have G3 := (Ext.refl w2).goA (.cells #[.int .i64 fc, .int .i64 ad, .int .i64 qt, .slice A n c, .int .i64 to, .bool (readsB fc), .bool (readsBits fc)] 167)
    have D13 := (D1.go D2).go G3
    have E3 := E0.go D13
    have hka := heap_alloc_new w2 (.cells #[.int .i64 fc, .int .i64 ad, .int .i64 qt, .slice A n c, .int .i64 to, .bool (readsB fc), .bool (readsBits fc)] 167)
    have Y3 := (D13.block _ (lt_of_block by'.out)).trans by'.out
    have Z3 := (D13.block _ (lt_of_block bz'.out)).trans bz'.out
    have y3 := cellsAt Y3
    have hka' := Lib.hid hka
    have Y3' := Lib.hid Y3
    have Z3' := Lib.hid Z3
    clear X1 hka Y3 Z3
    have ka := cellsAt hka'.out
    go_wp2_with fail
    refine (hK.out _ (hz'.out.ext E3)).mono ?_
    rintro e w4 ⟨A4, n4, c4, rfl, g4, g4', r4, D4⟩
    have K4 := (D4.block _ (lt_of_block hka'.out)).trans hka'.out
    have Y4 := (D4.block _ (lt_of_block Y3'.out)).trans Y3'.out
    have Z4 := (D4.block _ (lt_of_block Z3'.out)).trans Z3'.out
    have G5 := (Ext.refl w4).goA (.cells #[.int .i64 0, .slice A4 n4 c4] 54)
    have E5 := (E3.go D4).go G5
    have hP := heap_alloc_new w4 (.cells #[.int .i64 0, .slice A4 n4 c4] 54)
    have K5 := Lib.hid ((G5.block _ (lt_of_block K4)).trans K4)
    have Y5 := Lib.hid ((G5.block _ (lt_of_block Y4)).trans Y4)
    have Z5 := Lib.hid ((G5.block _ (lt_of_block Z4)).trans Z4)
    have hP' := Lib.hid hP
    have r5 := Lib.hid (r4.ext G5)
    clear K4 Y4 Z4 hP r4
    go_wp2_with fail
    refine (hT.out w2.heap.size (w.heap.size + 1) A4 n4 c4 _ K5.out Y5.out (hx'.out.ext E5) r5.out (Nat.le_trans g4 g4') (hz'.out.ext E5)).mono ?_
    rintro e w6 ⟨rfl, D6⟩
    have P6 := cellsAt ((D6.block _ (lt_of_block hP'.out)).trans hP'.out)
    have R6 := (D6.block _ (lt_of_block Z5.out)).trans Z5.out
    have f6 := frozen_block R6
    have p6 := cellsAt R6
    have R6' := Lib.hid R6
    have E6 := E5.go D6
    have r6 := Lib.hid (r5.out.ext D6)
    clear R6
    cases v
    · go_wp2_with fail
      obtain ⟨z0, z1⟩ := two_reads R6'.out (.int .i64 0) (.slice none 0 0)
      refine bodyPost_ret (v := .tuple #[.agg #[.int .i64 0, .slice none 0 0], .int .i64 51]) (by simp [results, Try.results50, go_sem, z0, z1]) rfl ?_
      exact hP2'.out trivial _ _ ⟨_, _, _, rfl, Nat.le_refl _, by decide, RdI.nil _, E6.two (by simp) _ _⟩
    · go_wp2_with fail
      obtain ⟨z0, z1⟩ := two_reads R6'.out (.int .i64 0) (.slice A4 n4 c4)
      refine bodyPost_ret (v := .tuple #[.agg #[.int .i64 0, .slice A4 n4 c4], .int .i64 0]) (by simp [results, Try.results50, go_sem, z0, z1]) rfl ?_
      exact hP1'.out trivial _ _ ⟨_, _, _, rfl, g4, g4', two_rd r6.out (Nat.le_refl _) _ (rep_far R6'.out r6.out) _ _, E6.two (by simp) _ _⟩
  · obtain ⟨bb, o, rfl, hbb, hc0⟩ := hz.at_ (show 0 < 2 by omega)
    rw [Nat.add_zero] at hc0
    generalize bs.getD 0 0 = x0 at hc0 hno
    have hi1 : (bits .and .u8 x0 128 != 0) = false := hno
    have hi2 : (bits .and .u8 x0 128 == 0) = true := by simpa using hi1
    clear hz hno
    go_enter Try.func50, Try.ntmps50
    go_wp2_with fail
    refine (pduRight_any fc ad qt to A n c xs _ (hx'.out.ext E0) nm).mono ?_
    rw [h'.out]
    rintro e w1 ⟨rfl, D1⟩
    have X1 := cellsAt ((D1.block _ (lt_of_block bx'.out)).trans bx'.out)
    have E1 := E0.go D1
    go_wp2_with fail
    refine (of_any fc ad qt to A n c w1).mono ?_
    rintro e w2 ⟨rfl, D2⟩
    have G3 := (Ext.refl w2).goA (.cells #[.int .i64 fc, .int .i64 ad, .int .i64 qt, .slice A n c, .int .i64 to, .bool (readsB fc), .bool (readsBits fc)] 167)
    have D13 := (D1.go D2).go G3
    have E3 := E0.go D13
    have hka := heap_alloc_new w2 (.cells #[.int .i64 fc, .int .i64 ad, .int .i64 qt, .slice A n c, .int .i64 to, .bool (readsB fc), .bool (readsBits fc)] 167)
    have Y3 := (D13.block _ (lt_of_block by'.out)).trans by'.out
    have Z3 := (D13.block _ (lt_of_block bz'.out)).trans bz'.out
    have y3 := cellsAt Y3
    have hka' := Lib.hid hka
    have Y3' := Lib.hid Y3
    have Z3' := Lib.hid Z3
    clear X1 hka Y3 Z3
    have c0 := (E3.cell o hbb).trans hc0
    have ka := cellsAt hka'.out
    go_wp2_with fail
    refine (hK.out _ (hz'.out.ext E3)).mono ?_
    rintro e w4 ⟨A4, n4, c4, rfl, g4, g4', r4, D4⟩
    have K4 := (D4.block _ (lt_of_block hka'.out)).trans hka'.out
    have Y4 := (D4.block _ (lt_of_block Y3'.out)).trans Y3'.out
    have Z4 := (D4.block _ (lt_of_block Z3'.out)).trans Z3'.out
    have G5 := (Ext.refl w4).goA (.cells #[.int .i64 0, .slice A4 n4 c4] 54)
    have E5 := (E3.go D4).go G5
    have hP := heap_alloc_new w4 (.cells #[.int .i64 0, .slice A4 n4 c4] 54)
    have K5 := Lib.hid ((G5.block _ (lt_of_block K4)).trans K4)
    have Y5 := Lib.hid ((G5.block _ (lt_of_block Y4)).trans Y4)
    have Z5 := Lib.hid ((G5.block _ (lt_of_block Z4)).trans Z4)
    have hP' := Lib.hid hP
    have r5 := Lib.hid (r4.ext G5)
    clear K4 Y4 Z4 hP r4
    go_wp2_with fail
    refine (hT.out w2.heap.size (w.heap.size + 1) A4 n4 c4 _ K5.out Y5.out (hx'.out.ext E5) r5.out (Nat.le_trans g4 g4') (hz'.out.ext E5)).mono ?_
    rintro e w6 ⟨rfl, D6⟩
    have P6 := cellsAt ((D6.block _ (lt_of_block hP'.out)).trans hP'.out)
    have R6 := (D6.block _ (lt_of_block Z5.out)).trans Z5.out
    have f6 := frozen_block R6
    have p6 := cellsAt R6
    have R6' := Lib.hid R6
    have E6 := E5.go D6
    have r6 := Lib.hid (r5.out.ext D6)
    clear R6
    cases v
    · go_wp2_with fail
      obtain ⟨z0, z1⟩ := two_reads R6'.out (.int .i64 0) (.slice none 0 0)
      refine bodyPost_ret (v := .tuple #[.agg #[.int .i64 0, .slice none 0 0], .int .i64 51]) (by simp [results, Try.results50, go_sem, z0, z1]) rfl ?_
      exact hP2'.out trivial _ _ ⟨_, _, _, rfl, Nat.le_refl _, by decide, RdI.nil _, E6.two (by simp) _ _⟩
    · go_wp2_with fail
      obtain ⟨z0, z1⟩ := two_reads R6'.out (.int .i64 0) (.slice A4 n4 c4)
      refine bodyPost_ret (v := .tuple #[.agg #[.int .i64 0, .slice A4 n4 c4], .int .i64 0]) (by simp [results, Try.results50, go_sem, z0, z1]) rfl ?_
      exact hP1'.out trivial _ _ ⟨_, _, _, rfl, g4, g4', two_rd r6.out (Nat.le_refl _) _ (rep_far R6'.out r6.out) _ _, E6.two (by simp) _ _⟩
end Go.Proofs.Ytgagpalffdgjnaa
