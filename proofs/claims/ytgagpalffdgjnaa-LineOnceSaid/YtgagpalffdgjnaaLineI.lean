/- Layer 21, the walks: listen of a stream. -/
import Derived.Test.YtgagpalffdgjnaaLineG
import Derived.Test.YtgagpalffdgjnaaG36
import Derived.Test.YtgagpalffdgjnaaConcat
namespace Go.Proofs.Ytgagpalffdgjnaa
open Go.RowKit

theorem addr_at (b o j : Nat) : (⟨b, o, none⟩ : Addr).add j = ⟨b, o + j, none⟩ := by unfold Addr.add; split <;> simp_all
theorem flat3 (fs : List Fm) : ∀ (j : Nat) (hj : j < fs.length), (fs.flatMap Fm.cells)[j * 3]? = some (.int .u16 (fs[j]).id) ∧ (fs.flatMap Fm.cells)[j * 3 + 1]? = some (.int .u8 (fs[j]).u) ∧ (fs.flatMap Fm.cells)[j * 3 + 2]? = some (.slice (fs[j]).A (fs[j]).n (fs[j]).c) := by
  induction fs with
  | nil => intro j hj; simp at hj
  | cons f fs ih =>
    intro j hj
    rw [List.flatMap_cons]
    rcases j with _ | j
    · exact ⟨rfl, rfl, rfl⟩
    · have := ih j (by simpa using hj)
      have hl : f.cells.length = 3 := rfl
      refine ⟨?_, ?_, ?_⟩
      · rw [List.getElem?_append_right (by omega), hl, show (j + 1) * 3 - 3 = j * 3 by omega]; exact this.1
      · rw [List.getElem?_append_right (by omega), hl, show (j + 1) * 3 + 1 - 3 = j * 3 + 1 by omega]; exact this.2.1
      · rw [List.getElem?_append_right (by omega), hl, show (j + 1) * 3 + 2 - 3 = j * 3 + 2 by omega]; exact this.2.2
theorem FramesAt.rows {w : World} {base : Nat} {v : Value} {fs : List Fm} (h : FramesAt w base v fs) : ∃ A n c, v = .slice A n c ∧ fs.length = n ∧ n ≤ c ∧ c ≤ maxLen ∧
    (0 < n → ∃ b o, A = some ⟨b, o, none⟩ ∧ b < w.heap.size ∧ ∀ j, (hj : j < fs.length) → w.cell? ⟨b, o + j * 3, none⟩ = some (.int .u16 (fs[j]).id) ∧ w.cell? ⟨b, o + j * 3 + 1, none⟩ = some (.int .u8 (fs[j]).u) ∧ w.cell? ⟨b, o + j * 3 + 2, none⟩ = some (.slice (fs[j]).A (fs[j]).n (fs[j]).c)) := by
  obtain ⟨ho, _⟩ := h
  rcases ho.2 with ⟨hv, hn⟩ | ⟨g, cap, cur, hv, hb, hg, h1, h2, _⟩
  · exact ⟨none, 0, 0, hv, hn, Nat.le_refl _, by unfold maxLen; omega, fun h => absurd h (by omega)⟩
  · refine ⟨_, _, _, hv, rfl, h1, h2, fun _ => ⟨g, 0, rfl, (Array.getElem?_eq_some_iff.1 hg).1, fun j hj => ?_⟩⟩
    have hc : ∀ i u, (fs.flatMap Fm.cells)[i]? = some u → w.cell? ⟨g, 0 + i, none⟩ = some u := fun i u hi => by
      have h9 := ho.cells (g := g) (by rw [hv]; rfl) i u hi
      rwa [addr_at] at h9
    obtain ⟨f0, f1, f2⟩ := flat3 fs j hj
    exact ⟨hc _ _ f0, hc _ _ f1, hc _ _ f2⟩
def Am.cells (x : Am) : List Value := [.int .u8 x.u, .slice x.A x.n x.c]
theorem flat2 (fs : List Am) : ∀ (j : Nat) (hj : j < fs.length), (fs.flatMap Am.cells)[j * 2]? = some (.int .u8 (fs[j]).u) ∧ (fs.flatMap Am.cells)[j * 2 + 1]? = some (.slice (fs[j]).A (fs[j]).n (fs[j]).c) := by
  induction fs with
  | nil => intro j hj; simp at hj
  | cons f fs ih =>
    intro j hj
    rw [List.flatMap_cons]
    rcases j with _ | j
    · exact ⟨rfl, rfl⟩
    · have := ih j (by simpa using hj)
      have hl : f.cells.length = 2 := rfl
      refine ⟨?_, ?_⟩
      · rw [List.getElem?_append_right (by omega), hl, show (j + 1) * 2 - 2 = j * 2 by omega]; exact this.1
      · rw [List.getElem?_append_right (by omega), hl, show (j + 1) * 2 + 1 - 2 = j * 2 + 1 by omega]; exact this.2
/-- What may be an answer, of a frame that came. -/
def Am.fine (w : World) (base : Nat) (x : Am) : Prop := (0 ≤ x.u ∧ x.u ≤ 255) ∧ RdI w w.heap.size .u8 x.A x.n x.l ∧ ByteL x.l ∧ x.n ≤ x.c ∧ x.c ≤ maxLen ∧ (0 < x.n → ∀ b o, x.A = some ⟨b, o, none⟩ → base ≤ b)
theorem ans_of_own {w w3 : World} {base b3 : Nat} {v : Value} {ms : List Am} (h : w.ownsRow b3 116 2 v ms.length (ms.flatMap Am.cells)) (hb : base ≤ b3) (E : Ext w3 w) (hf : ∀ x, x ∈ ms → x.fine w3 base) : ∃ A n c, v = .slice A n c ∧ AnsAt w base A n c ms := by
  have he : ∀ x, x ∈ ms → (0 ≤ x.u ∧ x.u ≤ 255) ∧ RdI w w.heap.size .u8 x.A x.n x.l ∧ ByteL x.l ∧ x.n ≤ x.c ∧ x.c ≤ maxLen ∧ (0 < x.n → ∀ b o, x.A = some ⟨b, o, none⟩ → base ≤ b) := fun x hx => by
    obtain ⟨h1, h2, h3⟩ := hf x hx
    exact ⟨h1, h2.ext E, h3⟩
  rcases h.2 with ⟨hv, hn⟩ | ⟨g, cap, cur, hv, hb2, hg, h1, h2, _⟩
  · exact ⟨none, 0, 0, hv, hn, Nat.le_refl _, by unfold maxLen; omega, fun h => absurd h (by omega), he⟩
  · refine ⟨_, _, _, hv, rfl, h1, h2, fun _ => ⟨g, 0, rfl, by omega, (Array.getElem?_eq_some_iff.1 hg).1, fun j hj => ?_⟩, he⟩
    have hc : ∀ i u, (ms.flatMap Am.cells)[i]? = some u → w.cell? ⟨g, 0 + i, none⟩ = some u := fun i u hi => by
      have h9 := h.cells (g := g) (by rw [hv]; rfl) i u hi
      rwa [addr_at] at h9
    obtain ⟨f0, f1⟩ := flat2 ms j hj
    exact ⟨hc _ _ f0, hc _ _ f1⟩
theorem info_ans : ∃ i, Try.prog.info? 116 = some i ∧ i.zero = some (.agg #[.int .u8 0, .slice none 0 0]) ∧ i.size = 2 ∧ i.bytes = 32 := by
  have h : (Try.prog.info? 116).map (fun i => (i.zero, i.size, i.bytes)) = some (some (.agg #[.int .u8 0, .slice none 0 0]), 2, 32) := by kernel_rfl
  obtain ⟨i, hi, hb⟩ := Option.map_eq_some_iff.1 h
  simp only [Prod.mk.injEq] at hb
  exact ⟨i, hi, hb.1, hb.2.1, hb.2.2⟩
/-- One more that may be an answer is appended. -/
theorem wpList_appA {ops : Array Oper} {rest : List Oper} {o : Oper} {a : Act} {w : World} {Q : Exit → Act → World → Prop} (hgd : o.guard = none) (s x : Operand) (t : TypeId)
    (ho : o.op = .call { callee := .builtin .append, args := #[s, x], argTypes := #[t, t] }) (ht : Try.prog.underlying t = some (.slice 116)) (base : Nat) (v : Value) (n : Nat) (xs : List Value) (hs : a.eval s = v) (hown : w.ownsRow base 116 2 v n xs)
    (g : Nat) (u : Int) (A : Option Addr) (m c : Nat) (hx : a.eval x = .slice (some ⟨g, 0, none⟩) 1 1) (hg : w.heap[g]? = some (.cells #[.int .u8 u, .slice A m c] 116 (0, 0))) (hn : n ≤ 1000000000) (hbase : base ≤ w.heap.size)
    (h : ∀ v' w', w'.ownsRow base 116 2 v' (n + 1) (xs ++ [.int .u8 u, .slice A m c]) → w.grownBy w' v.ownBlock → wpList Try.prog ops Q rest (a.put o.dst v') w') :
    wpList Try.prog ops Q (o :: rest) a w := by
  obtain ⟨i, hi, hz, h4, hb⟩ := info_ans
  refine wpList_append_own_at w hgd s x t ho base 116 i _ 2 32 ht hi hz h4 hb rfl (by decide) v n xs hs hown ⟨g, 0, none⟩ 1 1 [.int .u8 u, .slice A m c] hx rfl ?_ ?_ (by unfold maxLen; omega) (by omega) hbase (fun v' w' h1 h2 _ _ => h v' w' h1 h2)
  · intro j y hj
    have hc := cellsAt hg
    have : (⟨g, 0, none⟩ : Addr).add j = ⟨g, j, none⟩ := by unfold Addr.add; split <;> simp_all
    rw [this, hc j, ← hj]
    simp
  · intro y hy
    simp at hy
    rcases hy with rfl | rfl <;> rfl
/-- What is heard on a stream: something that may be answers; the rest is kept. -/
def StrPost (s : Nat) (num : Int) (N : Nat) (w : World) (e : Ending) (w' : World) : Prop :=
  ∃ A n c ms cA cn cc cm, e = .returned (.slice A n c) ∧ AnsAt w' w.heap.size A n c ms ∧ Mod (fun i => i = s) w w' ∧ w'.heap[s]? = some (.cells #[.int .u16 num, .slice cA cn cc] 108 (0, 0)) ∧ RdI w' w'.heap.size .u8 cA cn cm ∧ ByteL cm ∧ cn ≤ cc ∧ cc ≤ maxLen ∧ (∀ b o, cA = some ⟨b, o, none⟩ → w.heap.size ≤ b) ∧ cm.length ≤ N ∧ ms.length ≤ N
set_option maxRecDepth 100000 in
set_option maxHeartbeats 6400000 in
theorem strListen_any (s : Nat) (num : Int) (A cA : Option Addr) (n c cn cc : Nat) (l cm : List Int) (w : World) (hs : w.heap[s]? = some (.cells #[.int .u16 num, .slice cA cn cc] 108 (0, 0))) (hc : RdI w w.heap.size .u8 cA cn cm) (hcb : ByteL cm) (hx : RdI w w.heap.size .u8 A n l) (hl : ByteL l) (hN : cn + n ≤ 1000000) :
    Calls Try.prog 152 #[.pointer (some ⟨s, 0, none⟩), .slice A n c] w (StrPost s num (cn + n) w) := by
  have k0 : w.cell? ⟨s, 0, none⟩ = some (.int .u16 num) := cellsAt hs 0
  have k1 : w.cell? ⟨s, 1, none⟩ = some (.slice cA cn cc) := cellsAt hs 1
  have E1 : Ext w (w.alloc (.cells #[.slice cA cn cc, .slice A n c] 34)) := (Ext.refl w).goA _
  have b1 := heap_alloc_new w (.cells #[.slice cA cn cc, .slice A n c] 34)
  have hcat := concat_any w.heap.size cA A cn cc n c cm l _ b1 (hc.ext E1) (hx.ext E1) hN
  have hs' := Lib.hid hs
  have hbb : Hid (ByteL (cm ++ l)) := Lib.hid (fun j => by
    rcases Nat.lt_or_ge j cm.length with hj | hj
    · rw [List.getElem?_append_left hj]; exact hcb j
    · rw [List.getElem?_append_right hj]; exact hl _)
  have hlen : (cm ++ l).length = cn + n := by rw [List.length_append, hc.len, hx.len]
  clear hs hc hcb hx hl b1
  go_enter Try.func152, Try.ntmps152
  go_wp2_with fail
  refine hcat.mono ?_
  rintro e w2 ⟨Aa, na, ca, rfl, ga1, ga2, ra, E2, fa, hsp⟩
  have hsp' := Lib.hid hsp
  clear hsp
  have E12 := E1.go E2
  have hna : na = cn + n := by have := ra.len; omega
  have hcut := cut_any Aa na ca _ w2 ra hbb.out ga1 ga2 (by omega)
  have ra' := Lib.hid ra
  have hna' := Lib.hid hna
  have hlen' := Lib.hid hlen
  clear hcat E1 E2 ra hna hlen
  go_wp2_with fail
  refine hcut.mono ?_
  rintro e w3 ⟨E3, v, m, err, fs, rfl, hm, hfsm, hF⟩
  have E13 := E12.go E3
  have hF' := Lib.hid hF
  have ra3 := Lib.hid (ra'.out.ext E3)
  have q1 := (E13.cell 1 (cell_lt k1)).trans k1
  have qf : w3.frozen? ⟨s, 1, none⟩ = false := frozen_block ((E13.block s (lt_of_block hs'.out)).trans hs'.out) 1
  have hs3 := Lib.hid ((E13.block s (lt_of_block hs'.out)).trans hs'.out)
  have hsl : s < w.heap.size := lt_of_block hs'.out
  have hfsm' := Lib.hid hfsm
  clear hF hcut hfsm
  have hbase : Hid (w.heap.size ≤ w2.heap.size + 7) := Lib.hid (by have := E12.size; omega)
  have hss : s < w2.heap.size + 7 := by have := E12.size; omega
  have hmn : Hid (m ≤ na) := Lib.hid hm
  have hfn : Hid (∀ A' n' c', v = .slice A' n' c' → n' ≤ 1000000000) := Lib.hid (fun A' n' c' e => by
    obtain ⟨Af, nf, cf, hv, hfl, _⟩ := hF'.out.rows
    rw [hv] at e
    injection e with _ e _
    have := hna'.out
    have := hfsm'.out
    omega)
  go_upto_region 4 with fail
  have M4 : Mod (fun i => i = s) w3 (w3.setCell ⟨s, 1, none⟩ (.slice none 0 0)) := (Mod.refl (fun i => i = s) w3).setCell (.inl rfl) _
  have hs4 := sets_block hs3.out 1 (.slice none 0 0)
  have F4 := hF'.out.modS M4 (fun i hi => by omega)
  have ra4 := ra3.out.modS (fun _ b o e hb => by have := fa b o e; rw [alloc_size] at this; omega) M4
  have Mw4 : Mod (fun i => i = s) w (w3.setCell ⟨s, 1, none⟩ (.slice none 0 0)) := (E13.mod _).trans M4
  generalize w3.setCell ⟨s, 1, none⟩ (.slice none 0 0) = w4 at *
  clear q1 qf M4
  by_cases herr : err = 0
  rotate_left
  · have f1 : (err == 0) = false := by simpa using herr
    obtain ⟨w5, hw5⟩ : ∃ w5, w5 = w4 := ⟨_, rfl⟩
    rw [← hw5] at hs4 F4 Mw4 ⊢
    have hs5 := hs4
    have F5 := F4
    have M5 := Mw4
    have rd5 : RdI w5 w5.heap.size .u8 none 0 [] := RdI.nil _
    clear hw5 hs4 F4 Mw4 ra4
    go_upto_region 6 with fail
    obtain ⟨Af, nf, cf, hv, hfl, hfc, hfm, hrows⟩ := F5.rows
    subst hv
    have hrows' := Lib.hid hrows
    have F5' := Lib.hid F5
    have hs5' := Lib.hid hs5
    have rd5' := Lib.hid rd5
    have M5' := Lib.hid M5
    have z5 : w5.cell? ⟨s, 0, none⟩ = some (.int .u16 num) := cellsAt hs5 0
    have hsl5 : s < w5.heap.size := lt_of_block hs5
    have hfl' := Lib.hid hfl
    have hnf : Hid (nf ≤ 1000000000) := Lib.hid (hfn.out _ _ _ rfl)
    have hnfv : nf ≤ 1000000000 := hnf.out
    clear hrows F5 hs5 rd5 M5 hfl
    go_wp2_with fail
    go_loopw [9, 39] (fun v9 i wr => ∃ j : Nat, j ≤ nf ∧ i = .int .i64 j ∧ ∃ ms : List Am, ms.length ≤ j ∧ (∀ x, x ∈ ms → x.fine w5 w.heap.size) ∧ wr.ownsRow w5.heap.size 116 2 v9 ms.length (ms.flatMap Am.cells) ∧ Ext w5 wr) (fun _ i _ => nf - (intOf i).toNat)
    case atStart => exact ⟨0, by omega, rfl, [], by simp, fun x hx => by simp at hx, World.ownsRow_nil _ _ _ _, Ext.refl _⟩
    case round =>
      obtain ⟨j, hj, rfl, ms, hms, hfine, own, E⟩ := hrel
      have hfine' := Lib.hid hfine
      have own' := Lib.hid own
      have E' := Lib.hid E
      clear hfine own E
      by_cases hjn : j < nf
      · have t1 : decide ((j : Int) < (nf : Int)) = true := by simp; exact hjn
        have t1' : decide (j < nf) = true := by simp; exact hjn
        obtain ⟨b, o, rfl, hbl, hro⟩ := hrows'.out (by omega)
        have hjf : j < fs.length := by rw [hfl'.out]; exact hjn
        obtain ⟨e0, e1, e2⟩ := hro j hjf
        have hgd := Lib.hid (F5'.out.2 _ (List.getElem_mem hjf)).1
        have e0 := (E'.out.cell _ hbl).trans e0
        have e1 := (E'.out.cell _ hbl).trans e1
        have e2 := (E'.out.cell _ hbl).trans e2
        generalize fs[j] = f at *
        clear hro
        go_upto_region 10 with fail
        have E7 : Ext wr (wr.alloc (.cells #[.int .u16 f.id, .int .u8 f.u, .slice f.A f.n f.c] 48)) := (Ext.refl wr).goA _
        have b7 := heap_alloc_new wr (.cells #[.int .u16 f.id, .int .u8 f.u, .slice f.A f.n f.c] 48)
        generalize wr.alloc (.cells #[.int .u16 f.id, .int .u8 f.u, .slice f.A f.n f.c] 48) = w7 at *
        have E57 := Lib.hid (E'.out.go E7)
        have own7 := Lib.hid (own_ext own'.out E7)
        have y0 : w7.cell? ⟨wr.heap.size, 0, none⟩ = some (.int .u16 f.id) := cellsAt b7 0
        have y1 : w7.cell? ⟨wr.heap.size, 1, none⟩ = some (.int .u8 f.u) := cellsAt b7 1
        have y2 : w7.cell? ⟨wr.heap.size, 2, none⟩ = some (.slice f.A f.n f.c) := cellsAt b7 2
        have yz : w7.cell? ⟨s, 0, none⟩ = some (.int .u16 num) := (E57.out.cell 0 hsl5).trans z5
        have hwl : wr.heap.size < w7.heap.size := lt_of_block b7
        clear e0 e1 e2 b7 E7
        cases hid : (f.id == num)
        · go_region
          all_goals
            have E8 : Ext w7 w7.drew := (Ext.refl w7).god
            generalize w7.drew = w8 at *
            go_wp2_with fail
            go_roundw
            case rel => exact ⟨j + 1, by omega, by go_num, ms, by omega, hfine'.out, own_ext own7.out E8, E57.out.go E8⟩
            case measure => simp [intOf]; omega
        · go_region
          all_goals
            have E8 : Ext w7 w7.drew := (Ext.refl w7).god
            generalize w7.drew = w8 at *
            have y1' := (E8.cell 1 hwl).trans y1
            have y2' := (E8.cell 2 hwl).trans y2
            have own8 := Lib.hid (own_ext own7.out E8)
            have E58 := Lib.hid (E57.out.go E8)
            have hs58 := E58.out.size
            have hms2 : Hid (ms.length ≤ 1000000000) := Lib.hid (by have := hnf.out; omega)
            go_wp2_with (at_builtin; refine wpList_appA rfl (.tmp 50) (.tmp 56) _ rfl Try.underlying113 w5.heap.size _ ms.length _ rfl (own8.out.alloc _) w8.heap.size f.u f.A f.n f.c rfl (heap_alloc_new w8 _) hms2.out (by simp; omega) ?_; intro v9 w9 own9 hg9)
            have E9 : Ext w5 w9 := (E58.out.goA _).goG hg9 (fun i hi => (own8.out.lt i hi).1)
            go_roundw
            case rel =>
              refine ⟨j + 1, by omega, by go_num, ms ++ [⟨f.u, f.l, f.A, f.n, f.c⟩], by simp; omega, fun x hx => ?_, by rw [List.length_append, List.flatMap_append]; simpa [Am.cells] using own9, E9⟩
              rcases List.mem_append.1 hx with hx | hx
              · exact hfine'.out x hx
              · obtain rfl := List.mem_singleton.1 hx
                exact ⟨hgd.out.u, hgd.out.rd, hgd.out.by_, hgd.out.nc, hgd.out.cm, fun _ b o e => by have := hgd.out.up b o e; have := hbase.out; omega⟩
            case measure => simp [intOf]; omega
      · obtain rfl : j = nf := by omega
        have t1 : decide ((j : Int) < (j : Int)) = false := by simp
        have t1' : decide (j < j) = false := by simp
        go_wp2_with fail
        go_ret
        obtain ⟨Ao, no, co, rfl, hAns⟩ := ans_of_own own'.out (base := w.heap.size) (by have := M5'.out.size; omega) E'.out hfine'.out
        refine ⟨Ao, no, co, ms, _, _, _, _, rfl, hAns, M5'.out.trans (E'.out.mod _), (E'.out.block s (lt_of_block hs5'.out)).trans hs5'.out, rd5'.out.ext E'.out, fun j => by simp, Nat.le_refl _, (by unfold maxLen; omega), (fun b o e => by cases e), (by simp), (by have := hfl'.out; have := hfsm'.out; have := hmn.out; have := hna'.out; omega)⟩
  · subst herr
    have hmna := hmn.out
    have hnaN : na ≤ 1000000 := by have := hna'.out; omega
    have hr6 : RdI w4 w4.heap.size .u8 Aa na (cm ++ l) := ra4
    rcases hsp'.out with ⟨rfl, hc0⟩ | ⟨b, o, rfl⟩
    · have hck : ca = m := by omega
      have s1 : (m : Int) ≤ (na : Int) := by omega
      have s2 : (na : Int) ≤ (ca : Int) := by omega
      have s3 : (0 : Int) ≤ (m : Int) := by omega
      have s5 : m ≤ ca := by omega
      clear hc0
      have r6 : RdI w4 w4.heap.size .u8 (none) (na - m) ((cm ++ l).drop m) := by
        have : na - m = 0 := by omega
        rw [this, List.drop_of_length_le (by rw [hlen'.out, ← hna'.out]; omega)]
        exact RdI.nil _
      clear hr6
      have hcl := clone8_any (none) (na - m) 0 ((cm ++ l).drop m) w4 r6 (by omega)
      have j1 : w4.cell? ⟨s, 1, none⟩ = some (.slice none 0 0) := cellsAt hs4 1
      have hs4' := Lib.hid hs4
      have F4' := Lib.hid F4
      have Mw4' := Lib.hid Mw4
      have hsl4 : s < w4.heap.size := lt_of_block hs4
      clear hs4 F4 Mw4 r6 ra4
      go_upto_region 6 with (go_at_call 154; refine hcl.mono ?_; rintro _ w6 ⟨Ax, nx, cx, rfl, gx1, gx2, rx, Ex, fx⟩; have j1x := (Ex.cell 1 hsl4).trans j1; have jfx : w6.frozen? ⟨s, 1, none⟩ = false := frozen_block ((Ex.block s hsl4).trans hs4'.out) 1; dsimp only)
      have M6 : Mod (fun i => i = s) w6 (w6.setCell ⟨s, 1, none⟩ (.slice Ax nx cx)) := (Mod.refl (fun i => i = s) w6).setCell (.inl rfl) _
      have hs5 := sets_block ((Ex.block s hsl4).trans hs4'.out) 1 (.slice Ax nx cx)
      have F5 := (F4'.out.ext Ex).modS M6 (fun i hi => by omega)
      have rd5 := rx.modS (fun _ b o e hb => by have := fx b o e; omega) M6
      have M5 : Mod (fun i => i = s) w (w6.setCell ⟨s, 1, none⟩ (.slice Ax nx cx)) := (Mw4'.out.trans (Ex.mod _)).trans M6
      have hdb : Hid (ByteL ((cm ++ l).drop m)) := Lib.hid (fun j => by rw [List.getElem?_drop]; exact hbb.out _)
      have hdl : Hid (((cm ++ l).drop m).length ≤ cn + n) := Lib.hid (by rw [List.length_drop, hlen'.out]; omega)
      generalize w6.setCell ⟨s, 1, none⟩ (.slice Ax nx cx) = w5 at *
      clear M6 j1x jfx j1 rx
      obtain ⟨Af, nf, cf, hv, hfl, hfc, hfm, hrows⟩ := F5.rows
      subst hv
      have hrows' := Lib.hid hrows
      have F5' := Lib.hid F5
      have hs5' := Lib.hid hs5
      have rd5' := Lib.hid rd5
      have M5' := Lib.hid M5
      have z5 : w5.cell? ⟨s, 0, none⟩ = some (.int .u16 num) := cellsAt hs5 0
      have hsl5 : s < w5.heap.size := lt_of_block hs5
      have hfl' := Lib.hid hfl
      have hnf : Hid (nf ≤ 1000000000) := Lib.hid (hfn.out _ _ _ rfl)
      have hnfv : nf ≤ 1000000000 := hnf.out
      clear hrows F5 hs5 rd5 M5 hfl
      go_wp2_with fail
      go_loopw [9, 39] (fun v9 i wr => ∃ j : Nat, j ≤ nf ∧ i = .int .i64 j ∧ ∃ ms : List Am, ms.length ≤ j ∧ (∀ x, x ∈ ms → x.fine w5 w.heap.size) ∧ wr.ownsRow w5.heap.size 116 2 v9 ms.length (ms.flatMap Am.cells) ∧ Ext w5 wr) (fun _ i _ => nf - (intOf i).toNat)
      case atStart => exact ⟨0, by omega, rfl, [], by simp, fun x hx => by simp at hx, World.ownsRow_nil _ _ _ _, Ext.refl _⟩
      case round =>
        obtain ⟨j, hj, rfl, ms, hms, hfine, own, E⟩ := hrel
        have hfine' := Lib.hid hfine
        have own' := Lib.hid own
        have E' := Lib.hid E
        clear hfine own E
        by_cases hjn : j < nf
        · have t1 : decide ((j : Int) < (nf : Int)) = true := by simp; exact hjn
          have t1' : decide (j < nf) = true := by simp; exact hjn
          obtain ⟨b, o, rfl, hbl, hro⟩ := hrows'.out (by omega)
          have hjf : j < fs.length := by rw [hfl'.out]; exact hjn
          obtain ⟨e0, e1, e2⟩ := hro j hjf
          have hgd := Lib.hid (F5'.out.2 _ (List.getElem_mem hjf)).1
          have e0 := (E'.out.cell _ hbl).trans e0
          have e1 := (E'.out.cell _ hbl).trans e1
          have e2 := (E'.out.cell _ hbl).trans e2
          generalize fs[j] = f at *
          clear hro
          go_upto_region 10 with fail
          have E7 : Ext wr (wr.alloc (.cells #[.int .u16 f.id, .int .u8 f.u, .slice f.A f.n f.c] 48)) := (Ext.refl wr).goA _
          have b7 := heap_alloc_new wr (.cells #[.int .u16 f.id, .int .u8 f.u, .slice f.A f.n f.c] 48)
          generalize wr.alloc (.cells #[.int .u16 f.id, .int .u8 f.u, .slice f.A f.n f.c] 48) = w7 at *
          have E57 := Lib.hid (E'.out.go E7)
          have own7 := Lib.hid (own_ext own'.out E7)
          have y0 : w7.cell? ⟨wr.heap.size, 0, none⟩ = some (.int .u16 f.id) := cellsAt b7 0
          have y1 : w7.cell? ⟨wr.heap.size, 1, none⟩ = some (.int .u8 f.u) := cellsAt b7 1
          have y2 : w7.cell? ⟨wr.heap.size, 2, none⟩ = some (.slice f.A f.n f.c) := cellsAt b7 2
          have yz : w7.cell? ⟨s, 0, none⟩ = some (.int .u16 num) := (E57.out.cell 0 hsl5).trans z5
          have hwl : wr.heap.size < w7.heap.size := lt_of_block b7
          clear e0 e1 e2 b7 E7
          cases hid : (f.id == num)
          · go_region
            all_goals
              have E8 : Ext w7 w7.drew := (Ext.refl w7).god
              generalize w7.drew = w8 at *
              go_wp2_with fail
              go_roundw
              case rel => exact ⟨j + 1, by omega, by go_num, ms, by omega, hfine'.out, own_ext own7.out E8, E57.out.go E8⟩
              case measure => simp [intOf]; omega
          · go_region
            all_goals
              have E8 : Ext w7 w7.drew := (Ext.refl w7).god
              generalize w7.drew = w8 at *
              have y1' := (E8.cell 1 hwl).trans y1
              have y2' := (E8.cell 2 hwl).trans y2
              have own8 := Lib.hid (own_ext own7.out E8)
              have E58 := Lib.hid (E57.out.go E8)
              have hs58 := E58.out.size
              have hms2 : Hid (ms.length ≤ 1000000000) := Lib.hid (by have := hnf.out; omega)
              go_wp2_with (at_builtin; refine wpList_appA rfl (.tmp 50) (.tmp 56) _ rfl Try.underlying113 w5.heap.size _ ms.length _ rfl (own8.out.alloc _) w8.heap.size f.u f.A f.n f.c rfl (heap_alloc_new w8 _) hms2.out (by simp; omega) ?_; intro v9 w9 own9 hg9)
              have E9 : Ext w5 w9 := (E58.out.goA _).goG hg9 (fun i hi => (own8.out.lt i hi).1)
              go_roundw
              case rel =>
                refine ⟨j + 1, by omega, by go_num, ms ++ [⟨f.u, f.l, f.A, f.n, f.c⟩], by simp; omega, fun x hx => ?_, by rw [List.length_append, List.flatMap_append]; simpa [Am.cells] using own9, E9⟩
                rcases List.mem_append.1 hx with hx | hx
                · exact hfine'.out x hx
                · obtain rfl := List.mem_singleton.1 hx
                  exact ⟨hgd.out.u, hgd.out.rd, hgd.out.by_, hgd.out.nc, hgd.out.cm, fun _ b o e => by have := hgd.out.up b o e; have := hbase.out; omega⟩
              case measure => simp [intOf]; omega
        · obtain rfl : j = nf := by omega
          have t1 : decide ((j : Int) < (j : Int)) = false := by simp
          have t1' : decide (j < j) = false := by simp
          go_wp2_with fail
          go_ret
          obtain ⟨Ao, no, co, rfl, hAns⟩ := ans_of_own own'.out (base := w.heap.size) (by have := M5'.out.size; omega) E'.out hfine'.out
          refine ⟨Ao, no, co, ms, _, _, _, _, rfl, hAns, M5'.out.trans (E'.out.mod _), (E'.out.block s (lt_of_block hs5'.out)).trans hs5'.out, rd5'.out.ext E'.out, hdb.out, gx1, gx2, (fun b o e => by have := fx b o e; have := Mw4'.out.size; omega), hdl.out, (by have := hfl'.out; have := hfsm'.out; have := hmn.out; have := hna'.out; omega)⟩
    · have s1 : (m : Int) ≤ (na : Int) := by omega
      have s2 : (na : Int) ≤ (ca : Int) := by omega
      have s3 : (0 : Int) ≤ (m : Int) := by omega
      have s5 : m ≤ ca := by omega
      by_cases hck : ca = m
      · have r6 : RdI w4 w4.heap.size .u8 (some ⟨b, o, none⟩) (na - m) ((cm ++ l).drop m) := by
          have : na - m = 0 := by omega
          rw [this, List.drop_of_length_le (by rw [hlen'.out, ← hna'.out]; omega)]
          exact RdI.nil _
        clear hr6
        have hcl := clone8_any (some ⟨b, o, none⟩) (na - m) 0 ((cm ++ l).drop m) w4 r6 (by omega)
        have j1 : w4.cell? ⟨s, 1, none⟩ = some (.slice none 0 0) := cellsAt hs4 1
        have hs4' := Lib.hid hs4
        have F4' := Lib.hid F4
        have Mw4' := Lib.hid Mw4
        have hsl4 : s < w4.heap.size := lt_of_block hs4
        clear hs4 F4 Mw4 r6 ra4
        go_upto_region 6 with (go_at_call 154; refine hcl.mono ?_; rintro _ w6 ⟨Ax, nx, cx, rfl, gx1, gx2, rx, Ex, fx⟩; have j1x := (Ex.cell 1 hsl4).trans j1; have jfx : w6.frozen? ⟨s, 1, none⟩ = false := frozen_block ((Ex.block s hsl4).trans hs4'.out) 1; dsimp only)
        clear hck
        have M6 : Mod (fun i => i = s) w6 (w6.setCell ⟨s, 1, none⟩ (.slice Ax nx cx)) := (Mod.refl (fun i => i = s) w6).setCell (.inl rfl) _
        have hs5 := sets_block ((Ex.block s hsl4).trans hs4'.out) 1 (.slice Ax nx cx)
        have F5 := (F4'.out.ext Ex).modS M6 (fun i hi => by omega)
        have rd5 := rx.modS (fun _ b o e hb => by have := fx b o e; omega) M6
        have M5 : Mod (fun i => i = s) w (w6.setCell ⟨s, 1, none⟩ (.slice Ax nx cx)) := (Mw4'.out.trans (Ex.mod _)).trans M6
        have hdb : Hid (ByteL ((cm ++ l).drop m)) := Lib.hid (fun j => by rw [List.getElem?_drop]; exact hbb.out _)
        have hdl : Hid (((cm ++ l).drop m).length ≤ cn + n) := Lib.hid (by rw [List.length_drop, hlen'.out]; omega)
        generalize w6.setCell ⟨s, 1, none⟩ (.slice Ax nx cx) = w5 at *
        clear M6 j1x jfx j1 rx
        obtain ⟨Af, nf, cf, hv, hfl, hfc, hfm, hrows⟩ := F5.rows
        subst hv
        have hrows' := Lib.hid hrows
        have F5' := Lib.hid F5
        have hs5' := Lib.hid hs5
        have rd5' := Lib.hid rd5
        have M5' := Lib.hid M5
        have z5 : w5.cell? ⟨s, 0, none⟩ = some (.int .u16 num) := cellsAt hs5 0
        have hsl5 : s < w5.heap.size := lt_of_block hs5
        have hfl' := Lib.hid hfl
        have hnf : Hid (nf ≤ 1000000000) := Lib.hid (hfn.out _ _ _ rfl)
        have hnfv : nf ≤ 1000000000 := hnf.out
        clear hrows F5 hs5 rd5 M5 hfl
        go_wp2_with fail
        go_loopw [9, 39] (fun v9 i wr => ∃ j : Nat, j ≤ nf ∧ i = .int .i64 j ∧ ∃ ms : List Am, ms.length ≤ j ∧ (∀ x, x ∈ ms → x.fine w5 w.heap.size) ∧ wr.ownsRow w5.heap.size 116 2 v9 ms.length (ms.flatMap Am.cells) ∧ Ext w5 wr) (fun _ i _ => nf - (intOf i).toNat)
        case atStart => exact ⟨0, by omega, rfl, [], by simp, fun x hx => by simp at hx, World.ownsRow_nil _ _ _ _, Ext.refl _⟩
        case round =>
          obtain ⟨j, hj, rfl, ms, hms, hfine, own, E⟩ := hrel
          have hfine' := Lib.hid hfine
          have own' := Lib.hid own
          have E' := Lib.hid E
          clear hfine own E
          by_cases hjn : j < nf
          · have t1 : decide ((j : Int) < (nf : Int)) = true := by simp; exact hjn
            have t1' : decide (j < nf) = true := by simp; exact hjn
            obtain ⟨b, o, rfl, hbl, hro⟩ := hrows'.out (by omega)
            have hjf : j < fs.length := by rw [hfl'.out]; exact hjn
            obtain ⟨e0, e1, e2⟩ := hro j hjf
            have hgd := Lib.hid (F5'.out.2 _ (List.getElem_mem hjf)).1
            have e0 := (E'.out.cell _ hbl).trans e0
            have e1 := (E'.out.cell _ hbl).trans e1
            have e2 := (E'.out.cell _ hbl).trans e2
            generalize fs[j] = f at *
            clear hro
            go_upto_region 10 with fail
            have E7 : Ext wr (wr.alloc (.cells #[.int .u16 f.id, .int .u8 f.u, .slice f.A f.n f.c] 48)) := (Ext.refl wr).goA _
            have b7 := heap_alloc_new wr (.cells #[.int .u16 f.id, .int .u8 f.u, .slice f.A f.n f.c] 48)
            generalize wr.alloc (.cells #[.int .u16 f.id, .int .u8 f.u, .slice f.A f.n f.c] 48) = w7 at *
            have E57 := Lib.hid (E'.out.go E7)
            have own7 := Lib.hid (own_ext own'.out E7)
            have y0 : w7.cell? ⟨wr.heap.size, 0, none⟩ = some (.int .u16 f.id) := cellsAt b7 0
            have y1 : w7.cell? ⟨wr.heap.size, 1, none⟩ = some (.int .u8 f.u) := cellsAt b7 1
            have y2 : w7.cell? ⟨wr.heap.size, 2, none⟩ = some (.slice f.A f.n f.c) := cellsAt b7 2
            have yz : w7.cell? ⟨s, 0, none⟩ = some (.int .u16 num) := (E57.out.cell 0 hsl5).trans z5
            have hwl : wr.heap.size < w7.heap.size := lt_of_block b7
            clear e0 e1 e2 b7 E7
            cases hid : (f.id == num)
            · go_region
              all_goals
                have E8 : Ext w7 w7.drew := (Ext.refl w7).god
                generalize w7.drew = w8 at *
                go_wp2_with fail
                go_roundw
                case rel => exact ⟨j + 1, by omega, by go_num, ms, by omega, hfine'.out, own_ext own7.out E8, E57.out.go E8⟩
                case measure => simp [intOf]; omega
            · go_region
              all_goals
                have E8 : Ext w7 w7.drew := (Ext.refl w7).god
                generalize w7.drew = w8 at *
                have y1' := (E8.cell 1 hwl).trans y1
                have y2' := (E8.cell 2 hwl).trans y2
                have own8 := Lib.hid (own_ext own7.out E8)
                have E58 := Lib.hid (E57.out.go E8)
                have hs58 := E58.out.size
                have hms2 : Hid (ms.length ≤ 1000000000) := Lib.hid (by have := hnf.out; omega)
                go_wp2_with (at_builtin; refine wpList_appA rfl (.tmp 50) (.tmp 56) _ rfl Try.underlying113 w5.heap.size _ ms.length _ rfl (own8.out.alloc _) w8.heap.size f.u f.A f.n f.c rfl (heap_alloc_new w8 _) hms2.out (by simp; omega) ?_; intro v9 w9 own9 hg9)
                have E9 : Ext w5 w9 := (E58.out.goA _).goG hg9 (fun i hi => (own8.out.lt i hi).1)
                go_roundw
                case rel =>
                  refine ⟨j + 1, by omega, by go_num, ms ++ [⟨f.u, f.l, f.A, f.n, f.c⟩], by simp; omega, fun x hx => ?_, by rw [List.length_append, List.flatMap_append]; simpa [Am.cells] using own9, E9⟩
                  rcases List.mem_append.1 hx with hx | hx
                  · exact hfine'.out x hx
                  · obtain rfl := List.mem_singleton.1 hx
                    exact ⟨hgd.out.u, hgd.out.rd, hgd.out.by_, hgd.out.nc, hgd.out.cm, fun _ b o e => by have := hgd.out.up b o e; have := hbase.out; omega⟩
                case measure => simp [intOf]; omega
          · obtain rfl : j = nf := by omega
            have t1 : decide ((j : Int) < (j : Int)) = false := by simp
            have t1' : decide (j < j) = false := by simp
            go_wp2_with fail
            go_ret
            obtain ⟨Ao, no, co, rfl, hAns⟩ := ans_of_own own'.out (base := w.heap.size) (by have := M5'.out.size; omega) E'.out hfine'.out
            refine ⟨Ao, no, co, ms, _, _, _, _, rfl, hAns, M5'.out.trans (E'.out.mod _), (E'.out.block s (lt_of_block hs5'.out)).trans hs5'.out, rd5'.out.ext E'.out, hdb.out, gx1, gx2, (fun b o e => by have := fx b o e; have := Mw4'.out.size; omega), hdl.out, (by have := hfl'.out; have := hfsm'.out; have := hmn.out; have := hna'.out; omega)⟩
      · have r6 := hr6.drop8 (lo := m) hmna
        clear hr6
        have hcl := clone8_any (some ⟨b, o + m, none⟩) (na - m) (ca - m) ((cm ++ l).drop m) w4 r6 (by omega)
        have j1 : w4.cell? ⟨s, 1, none⟩ = some (.slice none 0 0) := cellsAt hs4 1
        have hs4' := Lib.hid hs4
        have F4' := Lib.hid F4
        have Mw4' := Lib.hid Mw4
        have hsl4 : s < w4.heap.size := lt_of_block hs4
        clear hs4 F4 Mw4 r6 ra4
        go_upto_region 6 with (go_at_call 154; refine hcl.mono ?_; rintro _ w6 ⟨Ax, nx, cx, rfl, gx1, gx2, rx, Ex, fx⟩; have j1x := (Ex.cell 1 hsl4).trans j1; have jfx : w6.frozen? ⟨s, 1, none⟩ = false := frozen_block ((Ex.block s hsl4).trans hs4'.out) 1; dsimp only)
        have M6 : Mod (fun i => i = s) w6 (w6.setCell ⟨s, 1, none⟩ (.slice Ax nx cx)) := (Mod.refl (fun i => i = s) w6).setCell (.inl rfl) _
        have hs5 := sets_block ((Ex.block s hsl4).trans hs4'.out) 1 (.slice Ax nx cx)
        have F5 := (F4'.out.ext Ex).modS M6 (fun i hi => by omega)
        have rd5 := rx.modS (fun _ b o e hb => by have := fx b o e; omega) M6
        have M5 : Mod (fun i => i = s) w (w6.setCell ⟨s, 1, none⟩ (.slice Ax nx cx)) := (Mw4'.out.trans (Ex.mod _)).trans M6
        have hdb : Hid (ByteL ((cm ++ l).drop m)) := Lib.hid (fun j => by rw [List.getElem?_drop]; exact hbb.out _)
        have hdl : Hid (((cm ++ l).drop m).length ≤ cn + n) := Lib.hid (by rw [List.length_drop, hlen'.out]; omega)
        generalize w6.setCell ⟨s, 1, none⟩ (.slice Ax nx cx) = w5 at *
        clear M6 j1x jfx j1 rx
        obtain ⟨Af, nf, cf, hv, hfl, hfc, hfm, hrows⟩ := F5.rows
        subst hv
        have hrows' := Lib.hid hrows
        have F5' := Lib.hid F5
        have hs5' := Lib.hid hs5
        have rd5' := Lib.hid rd5
        have M5' := Lib.hid M5
        have z5 : w5.cell? ⟨s, 0, none⟩ = some (.int .u16 num) := cellsAt hs5 0
        have hsl5 : s < w5.heap.size := lt_of_block hs5
        have hfl' := Lib.hid hfl
        have hnf : Hid (nf ≤ 1000000000) := Lib.hid (hfn.out _ _ _ rfl)
        have hnfv : nf ≤ 1000000000 := hnf.out
        clear hrows F5 hs5 rd5 M5 hfl
        go_wp2_with fail
        go_loopw [9, 39] (fun v9 i wr => ∃ j : Nat, j ≤ nf ∧ i = .int .i64 j ∧ ∃ ms : List Am, ms.length ≤ j ∧ (∀ x, x ∈ ms → x.fine w5 w.heap.size) ∧ wr.ownsRow w5.heap.size 116 2 v9 ms.length (ms.flatMap Am.cells) ∧ Ext w5 wr) (fun _ i _ => nf - (intOf i).toNat)
        case atStart => exact ⟨0, by omega, rfl, [], by simp, fun x hx => by simp at hx, World.ownsRow_nil _ _ _ _, Ext.refl _⟩
        case round =>
          obtain ⟨j, hj, rfl, ms, hms, hfine, own, E⟩ := hrel
          have hfine' := Lib.hid hfine
          have own' := Lib.hid own
          have E' := Lib.hid E
          clear hfine own E
          by_cases hjn : j < nf
          · have t1 : decide ((j : Int) < (nf : Int)) = true := by simp; exact hjn
            have t1' : decide (j < nf) = true := by simp; exact hjn
            obtain ⟨b, o, rfl, hbl, hro⟩ := hrows'.out (by omega)
            have hjf : j < fs.length := by rw [hfl'.out]; exact hjn
            obtain ⟨e0, e1, e2⟩ := hro j hjf
            have hgd := Lib.hid (F5'.out.2 _ (List.getElem_mem hjf)).1
            have e0 := (E'.out.cell _ hbl).trans e0
            have e1 := (E'.out.cell _ hbl).trans e1
            have e2 := (E'.out.cell _ hbl).trans e2
            generalize fs[j] = f at *
            clear hro
            go_upto_region 10 with fail
            have E7 : Ext wr (wr.alloc (.cells #[.int .u16 f.id, .int .u8 f.u, .slice f.A f.n f.c] 48)) := (Ext.refl wr).goA _
            have b7 := heap_alloc_new wr (.cells #[.int .u16 f.id, .int .u8 f.u, .slice f.A f.n f.c] 48)
            generalize wr.alloc (.cells #[.int .u16 f.id, .int .u8 f.u, .slice f.A f.n f.c] 48) = w7 at *
            have E57 := Lib.hid (E'.out.go E7)
            have own7 := Lib.hid (own_ext own'.out E7)
            have y0 : w7.cell? ⟨wr.heap.size, 0, none⟩ = some (.int .u16 f.id) := cellsAt b7 0
            have y1 : w7.cell? ⟨wr.heap.size, 1, none⟩ = some (.int .u8 f.u) := cellsAt b7 1
            have y2 : w7.cell? ⟨wr.heap.size, 2, none⟩ = some (.slice f.A f.n f.c) := cellsAt b7 2
            have yz : w7.cell? ⟨s, 0, none⟩ = some (.int .u16 num) := (E57.out.cell 0 hsl5).trans z5
            have hwl : wr.heap.size < w7.heap.size := lt_of_block b7
            clear e0 e1 e2 b7 E7
            cases hid : (f.id == num)
            · go_region
              all_goals
                have E8 : Ext w7 w7.drew := (Ext.refl w7).god
                generalize w7.drew = w8 at *
                go_wp2_with fail
                go_roundw
                case rel => exact ⟨j + 1, by omega, by go_num, ms, by omega, hfine'.out, own_ext own7.out E8, E57.out.go E8⟩
                case measure => simp [intOf]; omega
            · go_region
              all_goals
                have E8 : Ext w7 w7.drew := (Ext.refl w7).god
                generalize w7.drew = w8 at *
                have y1' := (E8.cell 1 hwl).trans y1
                have y2' := (E8.cell 2 hwl).trans y2
                have own8 := Lib.hid (own_ext own7.out E8)
                have E58 := Lib.hid (E57.out.go E8)
                have hs58 := E58.out.size
                have hms2 : Hid (ms.length ≤ 1000000000) := Lib.hid (by have := hnf.out; omega)
                go_wp2_with (at_builtin; refine wpList_appA rfl (.tmp 50) (.tmp 56) _ rfl Try.underlying113 w5.heap.size _ ms.length _ rfl (own8.out.alloc _) w8.heap.size f.u f.A f.n f.c rfl (heap_alloc_new w8 _) hms2.out (by simp; omega) ?_; intro v9 w9 own9 hg9)
                have E9 : Ext w5 w9 := (E58.out.goA _).goG hg9 (fun i hi => (own8.out.lt i hi).1)
                go_roundw
                case rel =>
                  refine ⟨j + 1, by omega, by go_num, ms ++ [⟨f.u, f.l, f.A, f.n, f.c⟩], by simp; omega, fun x hx => ?_, by rw [List.length_append, List.flatMap_append]; simpa [Am.cells] using own9, E9⟩
                  rcases List.mem_append.1 hx with hx | hx
                  · exact hfine'.out x hx
                  · obtain rfl := List.mem_singleton.1 hx
                    exact ⟨hgd.out.u, hgd.out.rd, hgd.out.by_, hgd.out.nc, hgd.out.cm, fun _ b o e => by have := hgd.out.up b o e; have := hbase.out; omega⟩
                case measure => simp [intOf]; omega
          · obtain rfl : j = nf := by omega
            have t1 : decide ((j : Int) < (j : Int)) = false := by simp
            have t1' : decide (j < j) = false := by simp
            go_wp2_with fail
            go_ret
            obtain ⟨Ao, no, co, rfl, hAns⟩ := ans_of_own own'.out (base := w.heap.size) (by have := M5'.out.size; omega) E'.out hfine'.out
            refine ⟨Ao, no, co, ms, _, _, _, _, rfl, hAns, M5'.out.trans (E'.out.mod _), (E'.out.block s (lt_of_block hs5'.out)).trans hs5'.out, rd5'.out.ext E'.out, hdb.out, gx1, gx2, (fun b o e => by have := fx b o e; have := Mw4'.out.size; omega), hdl.out, (by have := hfl'.out; have := hfsm'.out; have := hmn.out; have := hna'.out; omega)⟩
end Go.Proofs.Ytgagpalffdgjnaa
