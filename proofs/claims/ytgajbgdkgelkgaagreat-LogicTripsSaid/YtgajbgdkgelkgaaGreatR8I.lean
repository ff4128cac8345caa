/- Layer 8, the reference: Parse. Printed by gen/r8i.py. -/
import Derived.Test.YtgajbgdkgelkgaaGreatR8H
import Derived.Test.YtgajbgdkgelkgaaGreatG05
namespace Go.Proofs.YtgajbgdkgelkgaaGreat
open Go.RowKit

theorem nine8 {w : World} {i : Nat} {t : TypeId} {a0 a1 a2 a3 a4 a5 a6 a7 a8 : Value} (h : w.heap[i]? = some (.cells #[a0, a1, a2, a3, a4, a5, a6, a7, a8] t (0, 0))) (b0 b1 b2 b3 b4 b5 b6 b7 b8 : Value) :
    (((((((((w.setCell ⟨i, 0, none⟩ b0).setCell ⟨i, 1, none⟩ b1).setCell ⟨i, 2, none⟩ b2).setCell ⟨i, 3, none⟩ b3).setCell ⟨i, 4, none⟩ b4).setCell ⟨i, 5, none⟩ b5).setCell ⟨i, 6, none⟩ b6).setCell ⟨i, 7, none⟩ b7).setCell ⟨i, 8, none⟩ b8).heap[i]? = some (.cells #[b0, b1, b2, b3, b4, b5, b6, b7, b8] t (0, 0)) := by
  have h0 := sets_block h 0 b0
  have h1 := sets_block h0 1 b1
  have h2 := sets_block h1 2 b2
  have h3 := sets_block h2 3 b3
  have h4 := sets_block h3 4 b4
  have h5 := sets_block h4 5 b5
  have h6 := sets_block h5 6 b6
  have h7 := sets_block h6 7 b7
  have h8 := sets_block h7 8 b8
  simpa using h8
theorem nine8_mod {w : World} {i : Nat} (b0 b1 b2 b3 b4 b5 b6 b7 b8 : Value) : Mod (fun b => b = i) w (((((((((w.setCell ⟨i, 0, none⟩ b0).setCell ⟨i, 1, none⟩ b1).setCell ⟨i, 2, none⟩ b2).setCell ⟨i, 3, none⟩ b3).setCell ⟨i, 4, none⟩ b4).setCell ⟨i, 5, none⟩ b5).setCell ⟨i, 6, none⟩ b6).setCell ⟨i, 7, none⟩ b7).setCell ⟨i, 8, none⟩ b8) := by
  have m0 := (Mod.refl (fun b => b = i) w).setCell (p := ⟨i, 0, none⟩) (.inl rfl) b0
  have m1 := m0.setCell (p := ⟨i, 1, none⟩) (.inl rfl) b1
  have m2 := m1.setCell (p := ⟨i, 2, none⟩) (.inl rfl) b2
  have m3 := m2.setCell (p := ⟨i, 3, none⟩) (.inl rfl) b3
  have m4 := m3.setCell (p := ⟨i, 4, none⟩) (.inl rfl) b4
  have m5 := m4.setCell (p := ⟨i, 5, none⟩) (.inl rfl) b5
  have m6 := m5.setCell (p := ⟨i, 6, none⟩) (.inl rfl) b6
  have m7 := m6.setCell (p := ⟨i, 7, none⟩) (.inl rfl) b7
  have m8 := m7.setCell (p := ⟨i, 8, none⟩) (.inl rfl) b8
  exact m8
theorem split_sz (s : ByteArray) (e : Nat) : ∀ (n f : Nat) (out : List ByteArray), foldN (splitStep s e) (some (0, [])) n = some (f, out) → ∀ x ∈ out, x.size ≤ s.size
  | 0, f, out, h, x, hx => by rw [foldN_zero] at h; cases h; simp at hx
  | n + 1, f, out, h, x, hx => by
    rw [foldN_succ] at h
    cases hp : foldN (splitStep s e) (some (0, [])) n with
    | none => rw [hp] at h; cases h
    | some p =>
      obtain ⟨f', out'⟩ := p
      rw [hp] at h
      have ih := split_sz s e n f' out' hp
      unfold splitStep at h
      dsimp only at h
      split at h
      · cases h; exact ih x hx
      · split at h
        · cases h
        · cases h
          split at hx
          · rw [List.mem_append, List.mem_singleton] at hx
            rcases hx with hx | rfl
            · exact ih x hx
            · rw [ByteArray.size_extract]; omega
          · exact ih x hx
theorem words_sz (s : ByteArray) : ∀ x ∈ (wordsR s).1, x.size ≤ s.size := by
  intro x hx
  unfold wordsR wordsOf at hx
  split at hx
  · cases hp : splitR s (endR s) with
    | none => rw [hp] at hx; simp at hx
    | some p =>
      obtain ⟨f, out⟩ := p
      rw [hp] at hx
      dsimp only at hx
      split at hx
      · simp at hx
      · exact split_sz s _ _ f out hp x hx
  · simp at hx
def LineOk (l : Int × List ByteArray) : Prop := 0 < l.2.length ∧ ∀ x ∈ l.2, x.size ≤ 4096
def LnsOk (k : Nat) : LSt → Prop
  | .inl _ => True
  | .inr (_, _, out) => (∀ l ∈ out, LineOk l) ∧ out.length ≤ k
theorem LnsOk.step (s : ByteArray) (hs : s.size ≤ 4096) (k : Nat) (st : LSt) (h : LnsOk k st) : LnsOk (k + 1) (linesStep s st k) := by
  match st, h with
  | .inl e, _ => trivial
  | .inr (no, f, out), h =>
    obtain ⟨h1, h2⟩ : (∀ l ∈ out, LineOk l) ∧ out.length ≤ k := h
    by_cases hg : k < s.size ∧ bAt s k ≠ 10
    · rw [show linesStep s (.inr (no, f, out)) k = .inr (no, f, out) from if_pos hg]
      exact ⟨h1, by omega⟩
    · by_cases he : (wordsR (s.extract f k)).2 ≠ 0
      · rw [show linesStep s (.inr (no, f, out)) k = .inl ((wordsR (s.extract f k)).2, (no : Int)) from (if_neg hg).trans (if_pos he)]
        trivial
      · rw [show linesStep s (.inr (no, f, out)) k = .inr (no + 1, k + 1, if (wordsR (s.extract f k)).1.length = 0 then out else out ++ [((no : Int), (wordsR (s.extract f k)).1)]) from (if_neg hg).trans (if_neg he)]
        by_cases h0 : (wordsR (s.extract f k)).1.length = 0
        · rw [if_pos h0]; exact ⟨h1, by omega⟩
        · rw [if_neg h0]
          refine ⟨fun l hl => ?_, by rw [List.length_append]; simp; omega⟩
          rw [List.mem_append, List.mem_singleton] at hl
          rcases hl with hl | rfl
          · exact h1 l hl
          · refine ⟨by show 0 < (wordsR (s.extract f k)).1.length; omega, fun x hx => ?_⟩
            have := words_sz _ x hx
            rw [ByteArray.size_extract] at this
            omega
theorem lines_ok (s : ByteArray) : (∀ l ∈ (linesR s).1, LineOk l) ∧ (linesR s).1.length ≤ 4097 := by
  by_cases hs : 4096 < s.size
  · rw [show linesR s = ([], 2, 0) from if_pos hs]
    exact ⟨fun l hl => by simp at hl, by simp⟩
  · rw [show linesR s = match foldN (linesStep s) (.inr (1, 0, [])) (s.size + 1) with
      | .inl (e, no) => ([], e, no)
      | .inr (_, _, out) => (out, 0, 0) from if_neg hs]
    have h := foldN_inv LnsOk (linesStep s) (.inr (1, 0, [])) (s.size + 1) ⟨fun l hl => by simp at hl, by simp⟩ (fun k hk st h => LnsOk.step s (by omega) k st h)
    generalize foldN (linesStep s) (.inr (1, 0, [])) (s.size + 1) = st at h
    match st, h with
    | .inl (e, no), _ => exact ⟨fun l hl => by simp at hl, by simp⟩
    | .inr (a, b, out), h => exact ⟨h.1, by have := h.2; dsimp only; omega⟩
def emptyM : Mx := ⟨0, 0, 0, 0, ⟨#[]⟩, none, 0, 0, [], none, 0, 0, [], none, 0, 0, [], none, 0, 0, []⟩
def parseGo : List (Int × List ByteArray) → PsT → Mx × Int × Int
  | [], p => if p.2.1 && p.2.2.1 then (p.1, 0, 0) else (emptyM, 81, 0)
  | l :: ls, p => if (lineR p.1 p.2.1 p.2.2.1 p.2.2.2 l.2).2.2.2 = 0 then parseGo ls (lineR p.1 p.2.1 p.2.2.1 p.2.2.2 l.2) else (emptyM, (lineR p.1 p.2.1 p.2.2.1 p.2.2.2 l.2).2.2.2, l.1)
def parseR (s : ByteArray) : Mx × Int × Int := if (linesR s).2.1 = 0 then parseGo (linesR s).1 (emptyM, false, false, 0) else (emptyM, (linesR s).2.1, (linesR s).2.2)
theorem parseGo_drop {l : List (Int × List ByteArray)} {p : PsT} {k : Nat} {x : Int × List ByteArray} (h : l[k]? = some x) : parseGo (l.drop k) p = if (lineR p.1 p.2.1 p.2.2.1 p.2.2.2 x.2).2.2.2 = 0 then parseGo (l.drop (k + 1)) (lineR p.1 p.2.1 p.2.2.1 p.2.2.2 x.2) else (emptyM, (lineR p.1 p.2.1 p.2.2.1 p.2.2.2 x.2).2.2.2, x.1) := by
  have hk : k < l.length := by
    rcases Nat.lt_or_ge k l.length with h1 | h1
    · exact h1
    · rw [List.getElem?_eq_none h1] at h; cases h
  rw [List.drop_eq_getElem_cons hk]
  rw [List.getElem?_eq_getElem hk] at h
  cases h
  rfl
/-- What is parsed: a matrix in memory; an error; a line. -/
def ParsePost (x : Mx × Int × Int) (w : World) (en : Ending) (w' : World) : Prop :=
  ∃ m', en = .returned (.tuple #[m'.val, .int .i64 x.2.1, .int .i64 x.2.2]) ∧ (∀ w2, Mod (fun b => b < w.heap.size) w' w2 → OkMx w2 w2.heap.size m') ∧ m'.bareR = x.1 ∧ m'.key.size ≤ maxLen ∧ (∀ s ∈ namesOf m', s.size ≤ maxLen) ∧ Ext w w'
theorem OkMx.empty (w : World) (B : Nat) : OkMx w B emptyM := ⟨RdC.nil _ _ _ _ _, RdC.nil _ _ _ _ _, RdC.nil _ _ _ _ _, RdC.nil _ _ _ _ _, (fun x hx => by cases hx), (fun x hx => by cases hx), by show ((0 : Nat) ≤ 0 ∧ 0 ≤ maxLen) ∧ ((0 : Nat) ≤ 0 ∧ 0 ≤ maxLen) ∧ ((0 : Nat) ≤ 0 ∧ 0 ≤ maxLen) ∧ ((0 : Nat) ≤ 0 ∧ 0 ≤ maxLen); unfold maxLen; omega⟩
theorem ParsePost.none_ {w w' : World} {x : Mx × Int × Int} {e a : Int} (hx : x = (emptyM, e, a)) (E : Ext w w') : ParsePost x w (.returned (.tuple #[.agg #[.int .i64 0, .int .i64 0, .int .i64 0, .int .i64 0, .string ⟨#[]⟩, .slice none 0 0, .slice none 0 0, .slice none 0 0, .slice none 0 0], .int .i64 e, .int .i64 a])) w' := by
  subst hx
  exact ⟨emptyM, rfl, (fun w2 _ => OkMx.empty _ _), rfl, by show (0 : Nat) ≤ maxLen; unfold maxLen; omega, (fun s hs => by cases hs), E⟩
theorem HasPs.new {w : World} {g : Nat} (h : w.heap[g]? = some (.cells #[.int .i64 0, .int .i64 0, .int .i64 0, .int .i64 0, .string ⟨#[]⟩, .slice none 0 0, .slice none 0 0, .slice none 0 0, .slice none 0 0, .bool false, .bool false, .int .i64 0] 152 (0, 0))) : HasPs w g emptyM false false 0 :=
  ⟨h, World.ownsRow_nil _ _ _ _, World.ownsRow_nil _ _ _ _, World.ownsRow_nil _ _ _ _, World.ownsRow_nil _ _ _ _, (fun x hx => by cases hx), (fun x hx => by cases hx), rfl, rfl, rfl, rfl, (fun s hs => by cases hs), by show (0 : Nat) ≤ maxLen; unfold maxLen; omega⟩
theorem bare_empty : emptyM.bareR = emptyM := rfl
set_option maxRecDepth 100000 in
set_option maxHeartbeats 12800000 in
theorem rParse_any (s : ByteArray) (w : World) (hs : s.size ≤ maxLen) : Calls Tryz.prog 46 #[.string s] w (ParsePost (parseR s) w) := by
  have hpr : Hid (parseR s = if (linesR s).2.1 = 0 then parseGo (linesR s).1 (emptyM, false, false, 0) else (emptyM, (linesR s).2.1, (linesR s).2.2)) := Lib.hid rfl
  have hok := Lib.hid (lines_ok s)
  have hld := Lib.hid (fun W => rLines_any s W hs)
  obtain ⟨t, ht⟩ : ∃ t, t = linesR s := ⟨_, rfl⟩
  rw [← ht] at hpr hok hld
  clear ht
  have R0 := heap_alloc_new w (.cells #[.int .i64 0, .int .i64 0, .int .i64 0, .int .i64 0, .string ⟨#[]⟩, .slice none 0 0, .slice none 0 0, .slice none 0 0, .slice none 0 0] 27)
  have E0 := (Ext.refl w).goA (.cells #[.int .i64 0, .int .i64 0, .int .i64 0, .int .i64 0, .string ⟨#[]⟩, .slice none 0 0, .slice none 0 0, .slice none 0 0, .slice none 0 0] 27)
  have S0 : (w.alloc (.cells #[.int .i64 0, .int .i64 0, .int .i64 0, .int .i64 0, .string ⟨#[]⟩, .slice none 0 0, .slice none 0 0, .slice none 0 0, .slice none 0 0] 27)).heap.size = w.heap.size + 1 := by simp
  go_enter Tryz.func46, Tryz.ntmps46
  go_upto_region 2 with (go_at_call 80; refine (hld.out _).mono ?_; rintro en V ⟨A, n, c, ls, rfl, hnc, hrd, hwd, hls, hfA, EV⟩)
  have EW := E0.go EV
  have RV : V.heap[w.heap.size]? = some (.cells #[.int .i64 0, .int .i64 0, .int .i64 0, .int .i64 0, .string ⟨#[]⟩, .slice none 0 0, .slice none 0 0, .slice none 0 0, .slice none 0 0] 27 (0, 0)) := (EV.block _ (by omega)).trans R0
  have gV := lt_of_block RV
  have hfA' := Lib.hid hfA
  clear hfA
  have hrd' := Lib.hid hrd
  have hwd' := Lib.hid hwd
  have hls' := Lib.hid hls
  have RV' := Lib.hid RV
  have EW' := Lib.hid EW
  clear hrd hwd hls RV EW E0 EV R0
  by_cases h0 : t.2.1 = 0
  · have d0 : (t.2.1 != 0) = false := by simp [h0]
    have hpr2 : Hid (parseR s = parseGo t.1 (emptyM, false, false, 0)) := Lib.hid (by rw [hpr.out, if_pos h0])
    clear h0
    go_upto_region 5 with fail
    have PB := heap_alloc_new V (.cells #[.int .i64 0, .int .i64 0, .int .i64 0, .int .i64 0, .string ⟨#[]⟩, .slice none 0 0, .slice none 0 0, .slice none 0 0, .slice none 0 0, .bool false, .bool false, .int .i64 0] 152)
    have EP := (Ext.refl V).goA (.cells #[.int .i64 0, .int .i64 0, .int .i64 0, .int .i64 0, .string ⟨#[]⟩, .slice none 0 0, .slice none 0 0, .slice none 0 0, .slice none 0 0, .bool false, .bool false, .int .i64 0] 152)
    have SP : (V.alloc (.cells #[.int .i64 0, .int .i64 0, .int .i64 0, .int .i64 0, .string ⟨#[]⟩, .slice none 0 0, .slice none 0 0, .slice none 0 0, .slice none 0 0, .bool false, .bool false, .int .i64 0] 152)).heap.size = V.heap.size + 1 := by simp
    generalize V.alloc (.cells #[.int .i64 0, .int .i64 0, .int .i64 0, .int .i64 0, .string ⟨#[]⟩, .slice none 0 0, .slice none 0 0, .slice none 0 0, .slice none 0 0, .bool false, .bool false, .int .i64 0] 152) = P at *
    obtain ⟨g, hg⟩ : ∃ g, g = V.heap.size := ⟨_, rfl⟩
    rw [← hg] at PB
    have hgw : w.heap.size < g := by omega
    have H0 := Lib.hid (HasPs.new PB)
    have rd0 := Lib.hid (hrd'.out.ext EP)
    have hlt9 : 0 < n → ∀ b o, A = some ⟨b, o, none⟩ → b < g := fun h0 b o e => by have := hrd'.out.lt_of h0 e; omega
    have hn4 : n ≤ 4097 := by have h1 := hok.out.2; have h2 := congrArg List.length hls'.out; rw [List.length_map, hrd'.out.len] at h2; omega
    have EP' := Lib.hid EP
    have hgP : g < P.heap.size := by omega
    have hg' := Lib.hid hg
    have hlt9' := Lib.hid hlt9
    rw [← hg]
    clear PB EP hg hlt9 SP
    go_wp2_with fail
    go_loopw [9] (fun i wr => ∃ (k : Nat) (m : Mx) (p : PsT), k ≤ n ∧ i = .int .i64 k ∧ m.bareR = p.1 ∧ p.2.2.2 = 0 ∧ HasPs wr g m p.2.1 p.2.2.1 0 ∧ (m.nd ≤ k ∧ m.np ≤ k ∧ m.nc ≤ k ∧ m.ne ≤ k) ∧ parseR s = parseGo (t.1.drop k) p ∧ Mod (fun b => g ≤ b) P wr) (fun i _ => n - (intOf i).toNat)
    case atStart => exact ⟨0, emptyM, (emptyM, false, false, 0), by omega, rfl, rfl, rfl, H0.out, ⟨Nat.le_refl _, Nat.le_refl _, Nat.le_refl _, Nat.le_refl _⟩, hpr2.out, Mod.refl _ _⟩
    case round =>
      obtain ⟨k, m, ⟨p1, wt, ky, e⟩, hk, rfl, hbm, he0, hH, hns, hpg, hM⟩ := hrel
      dsimp only at hbm he0 hH hpg
      subst he0
      subst hbm
      have hH' := Lib.hid hH
      have hpg' := Lib.hid hpg
      have hM' := Lib.hid hM
      have hsz := hM.size
      have hns' := Lib.hid hns
      have RW : wr.heap[w.heap.size]? = some (.cells #[.int .i64 0, .int .i64 0, .int .i64 0, .int .i64 0, .string ⟨#[]⟩, .slice none 0 0, .slice none 0 0, .slice none 0 0, .slice none 0 0] 27 (0, 0)) := (hM.block _ (by omega) (by omega)).trans ((EP'.out.block _ gV).trans RV'.out)
      have gR := lt_of_block RW
      have RW' := Lib.hid RW
      have EF : Hid (Ext w wr) := Lib.hid ((EW'.out.go EP'.out).goM hM (fun i hi => by omega))
      have hgr := hH.hd.lt
      clear hH hpg hM hns RW
      by_cases hlt : k < n
      · have e3 : (k : Int) < (n : Int) := by omega
        obtain ⟨x, hx⟩ := rd0.out.get hlt
        obtain ⟨b1, o1, hA, hb1, hcc⟩ := (rd0.out.mod hM'.out (fun h0 b o e hb => by have := hlt9'.out h0 b o e; omega)).at_ hx
        have c0 : wr.cell? ⟨b1, o1 + k * 2, none⟩ = some (.int .i64 x.no) := hcc 0 (by decide)
        have c1 : wr.cell? ⟨b1, o1 + k * 2 + 1, none⟩ = some (.slice x.A x.n x.c) := hcc 1 (by decide)
        have hxm := List.mem_of_getElem? hx
        obtain ⟨w1, w2⟩ := hwd'.out x hxm
        have hxt : Hid (t.1[k]? = some (x.no, x.ws)) := Lib.hid (by rw [← hls'.out, List.getElem?_map, hx]; rfl)
        have hlo := hok.out.1 _ (List.mem_of_getElem? hxt.out)
        have hxn : 0 < x.n := by rw [← w1.len]; exact hlo.1
        have hwds : Hid (Wds wr g x.A x.n x.ws) := Lib.hid ⟨((w1.ext EP'.out).mod hM'.out (fun h0 b o e hb => by have := w1.lt_of h0 e; have := hg'.out; omega)), (fun b o e => by have := w1.lt_of hxn e; have := hg'.out; omega), fun y hy => by have := hlo.2 y hy; unfold maxLen; omega⟩
        have hpd := Lib.hid (parseGo_drop (p := (m.bareR, wt, ky, 0)) hxt.out)
        have hln := Lib.hid (rLine_any g m wt ky 0 x.A x.n x.c x.ws wr hH'.out hwds.out w2 hxn (by have := hns'.out; omega))
        have hbf0 : w.heap.size + 1 ≤ b1 := by have := hfA'.out b1 o1 hA; omega
        have hbg1 : b1 < g := hlt9'.out (by omega) b1 o1 hA
        rw [hA]
        obtain ⟨q, hq⟩ : ∃ q, q = lineR m.bareR wt ky 0 x.ws := ⟨_, rfl⟩
        dsimp only at hpd
        rw [← hq] at hln hpd
        clear hq hcc hx hA hxm w1 w2 hlo
        by_cases hq0 : q.2.2.2 = 0
        · have hpd2 : Hid (parseR s = parseGo (t.1.drop (k + 1)) q) := Lib.hid (by rw [hpg'.out, hpd.out, if_pos hq0])
          have hq0' := Lib.hid hq0
          clear hq0
          go_wp2_with (go_at_call 81; refine hln.out.mono ?_; rintro en W1 ⟨rfl, m1, a1, a2, a3, a4⟩; have a11 : W1.cell? ⟨g, 11, none⟩ = some (.int .i64 0) := (by have := cellsAt a1.hd 11; rw [hq0'.out] at this; exact this); have a1l := a1.hd.lt; have a1' := Lib.hid a1; have a3' := Lib.hid a3; have a4' := Lib.hid a4; have a2' := Lib.hid a2; clear a1 a3 a4 a2)
          go_roundw
          case rel => exact ⟨k + 1, m1, q, by omega, by go_num, a2'.out, hq0'.out, by have := a1'.out; rw [hq0'.out] at this; exact this, by have := a4'.out; have := hns'.out; omega, hpd2.out, hM'.out.trans a3'.out⟩
          case measure => simp [intOf] <;> omega
        · have hpd2 : Hid (parseR s = (emptyM, q.2.2.2, x.no)) := Lib.hid (by rw [hpg'.out, hpd.out, if_neg hq0])
          have d1 : (q.2.2.2 != 0) = true := by simp [hq0]
          clear hq0
          go_upto_region 10 with (go_at_call 81; refine hln.out.mono ?_; rintro en W1 ⟨rfl, m1, a1, a2, a3, a4⟩; have a11 : W1.cell? ⟨g, 11, none⟩ = some (.int .i64 q.2.2.2) := cellsAt a1.hd 11; have a1l := a1.hd.lt)
          have hR1 := (a3.block w.heap.size gR (by omega)).trans RW'.out
          have gR1 := lt_of_block hR1
          have hbf : w.heap.size + 1 ≤ b1 := hbf0
          have t11 : ∀ w', Mod (fun b => b = w.heap.size) W1 w' → w'.cell? ⟨g, 11, none⟩ = some (.int .i64 q.2.2.2) := fun w' hh => (hh.cell 11 a1l (by omega)).trans a11
          have t0 : ∀ w', Mod (fun b => b = w.heap.size) W1 w' → w'.cell? ⟨b1, o1 + k * 2, none⟩ = some (.int .i64 x.no) := fun w' hh => (hh.cell _ (Nat.lt_of_lt_of_le hb1 a3.size) (by omega)).trans ((a3.cell _ hb1 (by omega)).trans c0)
          have bb1 : b1 < W1.heap.size := Nat.lt_of_lt_of_le hb1 a3.size
          have E1 : Ext w W1 := EF.out.goM a3 (fun i hi => by omega)
          have MD : Mod (fun b => b = w.heap.size) W1 W1.drew := (Mod.refl _ W1).drew
          refine wp_region_held_drew (S := fun w' => Mod (fun b => b = w.heap.size) W1 w') (by kernel_rfl) (Mod.refl _ W1).drew (fun hHeld => ?_)
          refine wpAnyH_take (i := 0) (oi := _) (v := ?_) rfl (by kernel_rfl) (by kernel_rfl) (by kernel_rfl) (fun _ _ _ h => h) (Or.inl ⟨by rfl, ?_⟩) (by assumption) ?_
          rotate_left
          · intro w hSw
            (try dsimp only at hSw)
            go_simp
            try (with_reducible rfl)
          try simp only [Act.put, List.getElem_toArray, List.getElem_cons_zero, List.setIfInBounds_toArray, List.set_cons_zero, List.set_cons_succ]
          refine wpAnyH_take (i := 1) (oi := _) (v := ?_) rfl (by kernel_rfl) (by kernel_rfl) (by kernel_rfl) (fun _ _ _ h => h) (Or.inl ⟨by rfl, ?_⟩) (by assumption) ?_
          rotate_left
          · intro w hSw
            (try dsimp only at hSw)
            go_simp
            try (with_reducible rfl)
          try simp only [Act.put, List.getElem_toArray, List.getElem_cons_succ, List.getElem_cons_zero, List.setIfInBounds_toArray, List.set_cons_zero, List.set_cons_succ]
          refine wpAnyH_take (i := 2) (oi := _) (v := ?_) rfl (by kernel_rfl) (by kernel_rfl) (by kernel_rfl) (fun _ _ _ h => h) (Or.inl ⟨by rfl, ?_⟩) (by assumption) ?_
          rotate_left
          · intro w hSw
            (try dsimp only at hSw)
            go_simp
            try (with_reducible rfl)
          try simp only [Act.put, List.getElem_toArray, List.getElem_cons_succ, List.getElem_cons_zero, List.setIfInBounds_toArray, List.set_cons_zero, List.set_cons_succ]
          refine wpAnyH_take (i := 3) (oi := _) (v := ?_) rfl (by kernel_rfl) (by kernel_rfl) (by kernel_rfl) (fun _ _ _ h => h) (Or.inl ⟨by rfl, ?_⟩) (by assumption) ?_
          rotate_left
          · intro w hSw
            (try dsimp only at hSw)
            go_simp
            try (with_reducible rfl)
          try simp only [Act.put, List.getElem_toArray, List.getElem_cons_succ, List.getElem_cons_zero, List.setIfInBounds_toArray, List.set_cons_zero, List.set_cons_succ]
          refine wpAnyH_take (i := 4) (oi := _) (v := ?_) rfl (by kernel_rfl) (by kernel_rfl) (by kernel_rfl) (fun _ _ _ h => h) (Or.inl ⟨by rfl, ?_⟩) (by assumption) ?_
          rotate_left
          · intro w hSw
            (try dsimp only at hSw)
            go_simp
            try (with_reducible rfl)
          try simp only [Act.put, List.getElem_toArray, List.getElem_cons_succ, List.getElem_cons_zero, List.setIfInBounds_toArray, List.set_cons_zero, List.set_cons_succ]
          refine wpAnyH_take (i := 5) (oi := _) (v := ?_) rfl (by kernel_rfl) (by kernel_rfl) (by kernel_rfl) (fun _ _ _ h => h) (Or.inl ⟨by rfl, ?_⟩) (by assumption) ?_
          rotate_left
          · intro w hSw
            (try dsimp only at hSw)
            go_simp
            try (with_reducible rfl)
          try simp only [Act.put, List.getElem_toArray, List.getElem_cons_succ, List.getElem_cons_zero, List.setIfInBounds_toArray, List.set_cons_zero, List.set_cons_succ]
          refine wpAnyH_take (i := 6) (oi := _) (v := ?_) rfl (by kernel_rfl) (by kernel_rfl) (by kernel_rfl) (fun _ _ _ h => h) (Or.inl ⟨by rfl, ?_⟩) (by assumption) ?_
          rotate_left
          · intro w hSw
            (try dsimp only at hSw)
            go_simp
            try (with_reducible rfl)
          try simp only [Act.put, List.getElem_toArray, List.getElem_cons_succ, List.getElem_cons_zero, List.setIfInBounds_toArray, List.set_cons_zero, List.set_cons_succ]
          refine wpAnyH_take (i := 7) (oi := _) (v := ?_) rfl (by kernel_rfl) (by kernel_rfl) (by kernel_rfl) (fun _ _ _ h => h) (Or.inl ⟨by rfl, ?_⟩) (by assumption) ?_
          rotate_left
          · intro w hSw
            (try dsimp only at hSw)
            go_simp
            try (with_reducible rfl)
          try simp only [Act.put, List.getElem_toArray, List.getElem_cons_succ, List.getElem_cons_zero, List.setIfInBounds_toArray, List.set_cons_zero, List.set_cons_succ]
          refine wpAnyH_take (i := 8) (oi := _) (v := ?_) rfl (by kernel_rfl) (by kernel_rfl) (by kernel_rfl) (fun _ _ _ h => h) (Or.inl ⟨by rfl, ?_⟩) (by assumption) ?_
          rotate_left
          · intro w hSw
            (try dsimp only at hSw)
            go_simp
            try (with_reducible rfl)
          try simp only [Act.put, List.getElem_toArray, List.getElem_cons_succ, List.getElem_cons_zero, List.setIfInBounds_toArray, List.set_cons_zero, List.set_cons_succ]
          refine wpAnyH_take (i := 9) (oi := _) (v := ?_) rfl (by kernel_rfl) (by kernel_rfl) (by kernel_rfl) (fun _ _ _ h => h) (Or.inl ⟨by rfl, ?_⟩) (by assumption) ?_
          rotate_left
          · intro w hSw
            (try dsimp only at hSw)
            go_simp
            try (with_reducible rfl)
          try simp only [Act.put, List.getElem_toArray, List.getElem_cons_succ, List.getElem_cons_zero, List.setIfInBounds_toArray, List.set_cons_zero, List.set_cons_succ]
          have hRD : W1.drew.heap[w.heap.size]? = _ := hR1
          have y0 : W1.drew.cell? ⟨w.heap.size, 0, none⟩ = some (.int .i64 0) := cellsAt hRD 0
          have f0 := frozenIn hRD 0
          have y1 : W1.drew.cell? ⟨w.heap.size, 1, none⟩ = some (.int .i64 0) := cellsAt hRD 1
          have f1 := frozenIn hRD 1
          have y2 : W1.drew.cell? ⟨w.heap.size, 2, none⟩ = some (.int .i64 0) := cellsAt hRD 2
          have f2 := frozenIn hRD 2
          have y3 : W1.drew.cell? ⟨w.heap.size, 3, none⟩ = some (.int .i64 0) := cellsAt hRD 3
          have f3 := frozenIn hRD 3
          have y4 : W1.drew.cell? ⟨w.heap.size, 4, none⟩ = some (.string ⟨#[]⟩) := cellsAt hRD 4
          have f4 := frozenIn hRD 4
          have y5 : W1.drew.cell? ⟨w.heap.size, 5, none⟩ = some (.slice none 0 0) := cellsAt hRD 5
          have f5 := frozenIn hRD 5
          have y6 : W1.drew.cell? ⟨w.heap.size, 6, none⟩ = some (.slice none 0 0) := cellsAt hRD 6
          have f6 := frozenIn hRD 6
          have y7 : W1.drew.cell? ⟨w.heap.size, 7, none⟩ = some (.slice none 0 0) := cellsAt hRD 7
          have f7 := frozenIn hRD 7
          have y8 : W1.drew.cell? ⟨w.heap.size, 8, none⟩ = some (.slice none 0 0) := cellsAt hRD 8
          have f8 := frozenIn hRD 8
          have gRD := lt_of_block hRD
          have ED : Ext W1 W1.drew := (Ext.refl W1).god
          clear hHeld
          generalize W1.drew = D at *
          have hz9 := nine8 (w := D) hRD (.int .i64 0) (.int .i64 0) (.int .i64 0) (.int .i64 0) (.string ⟨#[]⟩) (.slice none 0 0) (.slice none 0 0) (.slice none 0 0) (.slice none 0 0)
          have hm9 := nine8_mod (w := D) (i := w.heap.size) (.int .i64 0) (.int .i64 0) (.int .i64 0) (.int .i64 0) (.string ⟨#[]⟩) (.slice none 0 0) (.slice none 0 0) (.slice none 0 0) (.slice none 0 0)
          refine wpAnyH_ready (rs := [10]) (by kernel_rfl) (by simp) ?_
          refine AllReadyH.cons rfl (fun Kz hKz => ?_) ?_
          rotate_left
          · exact AllReadyH.nil
          go_simp
          refine hKz.out _ _ ?_ (fun hHeld => ?_)
          · exact MD.trans hm9
          clear hKz Kz
          try simp only [Act.put, List.getElem_toArray, List.getElem_cons_succ, List.getElem_cons_zero, List.setIfInBounds_toArray, List.set_cons_zero, List.set_cons_succ]
          refine wpAnyH_take (i := 11) (oi := _) (v := ?_) rfl (by kernel_rfl) (by kernel_rfl) (by kernel_rfl) (fun _ _ _ h => h) (Or.inl ⟨by rfl, ?_⟩) (by assumption) ?_
          rotate_left
          · intro w hSw
            (try dsimp only at hSw)
            go_simp
            try (with_reducible rfl)
          try simp only [Act.put, List.getElem_toArray, List.getElem_cons_succ, List.getElem_cons_zero, List.setIfInBounds_toArray, List.set_cons_zero, List.set_cons_succ]
          refine wpAnyH_take (i := 12) (oi := _) (v := ?_) rfl (by kernel_rfl) (by kernel_rfl) (by kernel_rfl) (fun _ _ _ h => h) (Or.inl ⟨by rfl, ?_⟩) (by assumption) ?_
          rotate_left
          · intro w hSw
            (try dsimp only at hSw)
            go_simp
            try (with_reducible rfl)
          try simp only [Act.put, List.getElem_toArray, List.getElem_cons_succ, List.getElem_cons_zero, List.setIfInBounds_toArray, List.set_cons_zero, List.set_cons_succ]
          refine wpAnyH_done (by kernel_rfl) ?_ _
          clear hHeld y0 f0 y1 f1 y2 f2 y3 f3 y4 f4 y5 f5 y6 f6 y7 f7 y8 f8
          generalize (((((((((D.setCell ⟨w.heap.size, 0, none⟩ (.int .i64 0)).setCell ⟨w.heap.size, 1, none⟩ (.int .i64 0)).setCell ⟨w.heap.size, 2, none⟩ (.int .i64 0)).setCell ⟨w.heap.size, 3, none⟩ (.int .i64 0)).setCell ⟨w.heap.size, 4, none⟩ (.string ⟨#[]⟩)).setCell ⟨w.heap.size, 5, none⟩ (.slice none 0 0)).setCell ⟨w.heap.size, 6, none⟩ (.slice none 0 0)).setCell ⟨w.heap.size, 7, none⟩ (.slice none 0 0)).setCell ⟨w.heap.size, 8, none⟩ (.slice none 0 0)) = Q at *
          go_wp2_with fail
          have u := cellsAt hz9
          have u0 := u 0
          have u1 := u 1
          have u2 := u 2
          have u3 := u 3
          have u4 := u 4
          have u5 := u 5
          have u6 := u 6
          have u7 := u 7
          have u8 := u 8
          simp at u0 u1 u2 u3 u4 u5 u6 u7 u8
          refine bodyPost_ret (v := .tuple #[.agg #[.int .i64 0, .int .i64 0, .int .i64 0, .int .i64 0, .string ⟨#[]⟩, .slice none 0 0, .slice none 0 0, .slice none 0 0, .slice none 0 0], .int .i64 q.2.2.2, .int .i64 x.no]) (by simp [results, Tryz.results46, go_sem, u0, u1, u2, u3, u4, u5, u6, u7, u8]) rfl ?_
          exact ParsePost.none_ hpd2.out ((E1.go ED).goM hm9 (fun i hi => by omega))
      · obtain rfl : k = n := by omega
        have hfin : Hid (parseR s = if wt && ky then (m.bareR, 0, 0) else (emptyM, 81, 0)) := Lib.hid (by
          rw [hpg'.out, List.drop_of_length_le (by rw [← hls'.out, List.length_map, rd0.out.len]; exact Nat.le_refl _)]; rfl)
        cases wt with
        | false =>
          have hcX := cellsAt hH'.out.hd
          have k0 : wr.cell? ⟨g, 0, none⟩ = some (.int .i64 m.rt) := hcX 0
          have k1 : wr.cell? ⟨g, 1, none⟩ = some (.int .i64 m.wt) := hcX 1
          have k2 : wr.cell? ⟨g, 2, none⟩ = some (.int .i64 m.bk) := hcX 2
          have k3 : wr.cell? ⟨g, 3, none⟩ = some (.int .i64 m.cy) := hcX 3
          have k4 : wr.cell? ⟨g, 4, none⟩ = some (.string m.key) := hcX 4
          have k5 : wr.cell? ⟨g, 5, none⟩ = some (.slice m.Ad m.nd m.cd) := hcX 5
          have k6 : wr.cell? ⟨g, 6, none⟩ = some (.slice m.Ap m.np m.cp) := hcX 6
          have k7 : wr.cell? ⟨g, 7, none⟩ = some (.slice m.Ac m.nc m.cc) := hcX 7
          have k8 : wr.cell? ⟨g, 8, none⟩ = some (.slice m.Ae m.ne m.ce) := hcX 8
          have k9 : wr.cell? ⟨g, 9, none⟩ = some (.bool false) := hcX 9
          have k10 : wr.cell? ⟨g, 10, none⟩ = some (.bool ky) := hcX 10
          have y0 : wr.cell? ⟨w.heap.size, 0, none⟩ = some (.int .i64 0) := cellsAt RW'.out 0
          have f0 := frozenIn RW'.out 0
          have y1 : wr.cell? ⟨w.heap.size, 1, none⟩ = some (.int .i64 0) := cellsAt RW'.out 1
          have f1 := frozenIn RW'.out 1
          have y2 : wr.cell? ⟨w.heap.size, 2, none⟩ = some (.int .i64 0) := cellsAt RW'.out 2
          have f2 := frozenIn RW'.out 2
          have y3 : wr.cell? ⟨w.heap.size, 3, none⟩ = some (.int .i64 0) := cellsAt RW'.out 3
          have f3 := frozenIn RW'.out 3
          have y4 : wr.cell? ⟨w.heap.size, 4, none⟩ = some (.string ⟨#[]⟩) := cellsAt RW'.out 4
          have f4 := frozenIn RW'.out 4
          have y5 : wr.cell? ⟨w.heap.size, 5, none⟩ = some (.slice none 0 0) := cellsAt RW'.out 5
          have f5 := frozenIn RW'.out 5
          have y6 : wr.cell? ⟨w.heap.size, 6, none⟩ = some (.slice none 0 0) := cellsAt RW'.out 6
          have f6 := frozenIn RW'.out 6
          have y7 : wr.cell? ⟨w.heap.size, 7, none⟩ = some (.slice none 0 0) := cellsAt RW'.out 7
          have f7 := frozenIn RW'.out 7
          have y8 : wr.cell? ⟨w.heap.size, 8, none⟩ = some (.slice none 0 0) := cellsAt RW'.out 8
          have f8 := frozenIn RW'.out 8
          clear hcX
          go_wp2_with fail
          have hz9 := nine8 RW'.out (.int .i64 0) (.int .i64 0) (.int .i64 0) (.int .i64 0) (.string ⟨#[]⟩) (.slice none 0 0) (.slice none 0 0) (.slice none 0 0) (.slice none 0 0)
          have hm9 := nine8_mod (w := wr) (i := w.heap.size) (.int .i64 0) (.int .i64 0) (.int .i64 0) (.int .i64 0) (.string ⟨#[]⟩) (.slice none 0 0) (.slice none 0 0) (.slice none 0 0) (.slice none 0 0)
          clear y0 f0 k0 y1 f1 k1 y2 f2 k2 y3 f3 k3 y4 f4 k4 y5 f5 k5 y6 f6 k6 y7 f7 k7 y8 f8 k8
          generalize (((((((((wr.setCell ⟨w.heap.size, 0, none⟩ (.int .i64 0)).setCell ⟨w.heap.size, 1, none⟩ (.int .i64 0)).setCell ⟨w.heap.size, 2, none⟩ (.int .i64 0)).setCell ⟨w.heap.size, 3, none⟩ (.int .i64 0)).setCell ⟨w.heap.size, 4, none⟩ (.string ⟨#[]⟩)).setCell ⟨w.heap.size, 5, none⟩ (.slice none 0 0)).setCell ⟨w.heap.size, 6, none⟩ (.slice none 0 0)).setCell ⟨w.heap.size, 7, none⟩ (.slice none 0 0)).setCell ⟨w.heap.size, 8, none⟩ (.slice none 0 0)) = Q at *
          have u := cellsAt hz9
          have u0 := u 0
          have u1 := u 1
          have u2 := u 2
          have u3 := u 3
          have u4 := u 4
          have u5 := u 5
          have u6 := u 6
          have u7 := u 7
          have u8 := u 8
          simp at u0 u1 u2 u3 u4 u5 u6 u7 u8
          refine bodyPost_ret (v := .tuple #[.agg #[.int .i64 0, .int .i64 0, .int .i64 0, .int .i64 0, .string ⟨#[]⟩, .slice none 0 0, .slice none 0 0, .slice none 0 0, .slice none 0 0], .int .i64 81, .int .i64 0]) (by simp [results, Tryz.results46, go_sem, u0, u1, u2, u3, u4, u5, u6, u7, u8]) rfl ?_
          exact ParsePost.none_ hfin.out (EF.out.goM hm9 (fun i hi => by omega))
        | true =>
          cases ky with
          | false =>
            have hcX := cellsAt hH'.out.hd
            have k0 : wr.cell? ⟨g, 0, none⟩ = some (.int .i64 m.rt) := hcX 0
            have k1 : wr.cell? ⟨g, 1, none⟩ = some (.int .i64 m.wt) := hcX 1
            have k2 : wr.cell? ⟨g, 2, none⟩ = some (.int .i64 m.bk) := hcX 2
            have k3 : wr.cell? ⟨g, 3, none⟩ = some (.int .i64 m.cy) := hcX 3
            have k4 : wr.cell? ⟨g, 4, none⟩ = some (.string m.key) := hcX 4
            have k5 : wr.cell? ⟨g, 5, none⟩ = some (.slice m.Ad m.nd m.cd) := hcX 5
            have k6 : wr.cell? ⟨g, 6, none⟩ = some (.slice m.Ap m.np m.cp) := hcX 6
            have k7 : wr.cell? ⟨g, 7, none⟩ = some (.slice m.Ac m.nc m.cc) := hcX 7
            have k8 : wr.cell? ⟨g, 8, none⟩ = some (.slice m.Ae m.ne m.ce) := hcX 8
            have k9 : wr.cell? ⟨g, 9, none⟩ = some (.bool true) := hcX 9
            have k10 : wr.cell? ⟨g, 10, none⟩ = some (.bool false) := hcX 10
            have y0 : wr.cell? ⟨w.heap.size, 0, none⟩ = some (.int .i64 0) := cellsAt RW'.out 0
            have f0 := frozenIn RW'.out 0
            have y1 : wr.cell? ⟨w.heap.size, 1, none⟩ = some (.int .i64 0) := cellsAt RW'.out 1
            have f1 := frozenIn RW'.out 1
            have y2 : wr.cell? ⟨w.heap.size, 2, none⟩ = some (.int .i64 0) := cellsAt RW'.out 2
            have f2 := frozenIn RW'.out 2
            have y3 : wr.cell? ⟨w.heap.size, 3, none⟩ = some (.int .i64 0) := cellsAt RW'.out 3
            have f3 := frozenIn RW'.out 3
            have y4 : wr.cell? ⟨w.heap.size, 4, none⟩ = some (.string ⟨#[]⟩) := cellsAt RW'.out 4
            have f4 := frozenIn RW'.out 4
            have y5 : wr.cell? ⟨w.heap.size, 5, none⟩ = some (.slice none 0 0) := cellsAt RW'.out 5
            have f5 := frozenIn RW'.out 5
            have y6 : wr.cell? ⟨w.heap.size, 6, none⟩ = some (.slice none 0 0) := cellsAt RW'.out 6
            have f6 := frozenIn RW'.out 6
            have y7 : wr.cell? ⟨w.heap.size, 7, none⟩ = some (.slice none 0 0) := cellsAt RW'.out 7
            have f7 := frozenIn RW'.out 7
            have y8 : wr.cell? ⟨w.heap.size, 8, none⟩ = some (.slice none 0 0) := cellsAt RW'.out 8
            have f8 := frozenIn RW'.out 8
            clear hcX
            go_wp2_with fail
            have hz9 := nine8 RW'.out (.int .i64 0) (.int .i64 0) (.int .i64 0) (.int .i64 0) (.string ⟨#[]⟩) (.slice none 0 0) (.slice none 0 0) (.slice none 0 0) (.slice none 0 0)
            have hm9 := nine8_mod (w := wr) (i := w.heap.size) (.int .i64 0) (.int .i64 0) (.int .i64 0) (.int .i64 0) (.string ⟨#[]⟩) (.slice none 0 0) (.slice none 0 0) (.slice none 0 0) (.slice none 0 0)
            clear y0 f0 k0 y1 f1 k1 y2 f2 k2 y3 f3 k3 y4 f4 k4 y5 f5 k5 y6 f6 k6 y7 f7 k7 y8 f8 k8
            generalize (((((((((wr.setCell ⟨w.heap.size, 0, none⟩ (.int .i64 0)).setCell ⟨w.heap.size, 1, none⟩ (.int .i64 0)).setCell ⟨w.heap.size, 2, none⟩ (.int .i64 0)).setCell ⟨w.heap.size, 3, none⟩ (.int .i64 0)).setCell ⟨w.heap.size, 4, none⟩ (.string ⟨#[]⟩)).setCell ⟨w.heap.size, 5, none⟩ (.slice none 0 0)).setCell ⟨w.heap.size, 6, none⟩ (.slice none 0 0)).setCell ⟨w.heap.size, 7, none⟩ (.slice none 0 0)).setCell ⟨w.heap.size, 8, none⟩ (.slice none 0 0)) = Q at *
            have u := cellsAt hz9
            have u0 := u 0
            have u1 := u 1
            have u2 := u 2
            have u3 := u 3
            have u4 := u 4
            have u5 := u 5
            have u6 := u 6
            have u7 := u 7
            have u8 := u 8
            simp at u0 u1 u2 u3 u4 u5 u6 u7 u8
            refine bodyPost_ret (v := .tuple #[.agg #[.int .i64 0, .int .i64 0, .int .i64 0, .int .i64 0, .string ⟨#[]⟩, .slice none 0 0, .slice none 0 0, .slice none 0 0, .slice none 0 0], .int .i64 81, .int .i64 0]) (by simp [results, Tryz.results46, go_sem, u0, u1, u2, u3, u4, u5, u6, u7, u8]) rfl ?_
            exact ParsePost.none_ hfin.out (EF.out.goM hm9 (fun i hi => by omega))
          | true =>
            have hcX := cellsAt hH'.out.hd
            have k0 : wr.cell? ⟨g, 0, none⟩ = some (.int .i64 m.rt) := hcX 0
            have k1 : wr.cell? ⟨g, 1, none⟩ = some (.int .i64 m.wt) := hcX 1
            have k2 : wr.cell? ⟨g, 2, none⟩ = some (.int .i64 m.bk) := hcX 2
            have k3 : wr.cell? ⟨g, 3, none⟩ = some (.int .i64 m.cy) := hcX 3
            have k4 : wr.cell? ⟨g, 4, none⟩ = some (.string m.key) := hcX 4
            have k5 : wr.cell? ⟨g, 5, none⟩ = some (.slice m.Ad m.nd m.cd) := hcX 5
            have k6 : wr.cell? ⟨g, 6, none⟩ = some (.slice m.Ap m.np m.cp) := hcX 6
            have k7 : wr.cell? ⟨g, 7, none⟩ = some (.slice m.Ac m.nc m.cc) := hcX 7
            have k8 : wr.cell? ⟨g, 8, none⟩ = some (.slice m.Ae m.ne m.ce) := hcX 8
            have k9 : wr.cell? ⟨g, 9, none⟩ = some (.bool true) := hcX 9
            have k10 : wr.cell? ⟨g, 10, none⟩ = some (.bool true) := hcX 10
            have y0 : wr.cell? ⟨w.heap.size, 0, none⟩ = some (.int .i64 0) := cellsAt RW'.out 0
            have f0 := frozenIn RW'.out 0
            have y1 : wr.cell? ⟨w.heap.size, 1, none⟩ = some (.int .i64 0) := cellsAt RW'.out 1
            have f1 := frozenIn RW'.out 1
            have y2 : wr.cell? ⟨w.heap.size, 2, none⟩ = some (.int .i64 0) := cellsAt RW'.out 2
            have f2 := frozenIn RW'.out 2
            have y3 : wr.cell? ⟨w.heap.size, 3, none⟩ = some (.int .i64 0) := cellsAt RW'.out 3
            have f3 := frozenIn RW'.out 3
            have y4 : wr.cell? ⟨w.heap.size, 4, none⟩ = some (.string ⟨#[]⟩) := cellsAt RW'.out 4
            have f4 := frozenIn RW'.out 4
            have y5 : wr.cell? ⟨w.heap.size, 5, none⟩ = some (.slice none 0 0) := cellsAt RW'.out 5
            have f5 := frozenIn RW'.out 5
            have y6 : wr.cell? ⟨w.heap.size, 6, none⟩ = some (.slice none 0 0) := cellsAt RW'.out 6
            have f6 := frozenIn RW'.out 6
            have y7 : wr.cell? ⟨w.heap.size, 7, none⟩ = some (.slice none 0 0) := cellsAt RW'.out 7
            have f7 := frozenIn RW'.out 7
            have y8 : wr.cell? ⟨w.heap.size, 8, none⟩ = some (.slice none 0 0) := cellsAt RW'.out 8
            have f8 := frozenIn RW'.out 8
            clear hcX
            go_wp2_with fail
            have hz9 := nine8 RW'.out (.int .i64 m.rt) (.int .i64 m.wt) (.int .i64 m.bk) (.int .i64 m.cy) (.string m.key) (.slice m.Ad m.nd m.cd) (.slice m.Ap m.np m.cp) (.slice m.Ac m.nc m.cc) (.slice m.Ae m.ne m.ce)
            have hm9 := nine8_mod (w := wr) (i := w.heap.size) (.int .i64 m.rt) (.int .i64 m.wt) (.int .i64 m.bk) (.int .i64 m.cy) (.string m.key) (.slice m.Ad m.nd m.cd) (.slice m.Ap m.np m.cp) (.slice m.Ac m.nc m.cc) (.slice m.Ae m.ne m.ce)
            clear y0 f0 k0 y1 f1 k1 y2 f2 k2 y3 f3 k3 y4 f4 k4 y5 f5 k5 y6 f6 k6 y7 f7 k7 y8 f8 k8
            generalize (((((((((wr.setCell ⟨w.heap.size, 0, none⟩ (.int .i64 m.rt)).setCell ⟨w.heap.size, 1, none⟩ (.int .i64 m.wt)).setCell ⟨w.heap.size, 2, none⟩ (.int .i64 m.bk)).setCell ⟨w.heap.size, 3, none⟩ (.int .i64 m.cy)).setCell ⟨w.heap.size, 4, none⟩ (.string m.key)).setCell ⟨w.heap.size, 5, none⟩ (.slice m.Ad m.nd m.cd)).setCell ⟨w.heap.size, 6, none⟩ (.slice m.Ap m.np m.cp)).setCell ⟨w.heap.size, 7, none⟩ (.slice m.Ac m.nc m.cc)).setCell ⟨w.heap.size, 8, none⟩ (.slice m.Ae m.ne m.ce)) = Q at *
            have H9 := Lib.hid (hH'.out.keep (w' := Q) hm9.size ((hm9.block g hgr (by omega)).trans hH'.out.hd) (fun b h1 hb => hm9.block b hb (by omega)))
            have u := cellsAt hz9
            have u0 := u 0
            have u1 := u 1
            have u2 := u 2
            have u3 := u 3
            have u4 := u 4
            have u5 := u 5
            have u6 := u 6
            have u7 := u 7
            have u8 := u 8
            simp at u0 u1 u2 u3 u4 u5 u6 u7 u8
            refine bodyPost_ret (v := .tuple #[.agg #[.int .i64 m.rt, .int .i64 m.wt, .int .i64 m.bk, .int .i64 m.cy, .string m.key, .slice m.Ad m.nd m.cd, .slice m.Ap m.np m.cp, .slice m.Ac m.nc m.cc, .slice m.Ae m.ne m.ce], .int .i64 0, .int .i64 0]) (by simp [results, Tryz.results46, go_sem, u0, u1, u2, u3, u4, u5, u6, u7, u8]) rfl ?_
            rw [hfin.out]
            exact ⟨m, rfl, (fun w2 M2 => (H9.out.keep (w' := w2) M2.size ((M2.block g H9.out.hd.lt (by omega)).trans H9.out.hd) (fun b h1 hb => M2.block b hb (by omega))).ok), rfl, H9.out.ksz, H9.out.nsz, EF.out.goM hm9 (fun i hi => by omega)⟩
  · have d0 : (t.2.1 != 0) = true := by simp [h0]
    have hpr2 : Hid (parseR s = (emptyM, t.2.1, t.2.2)) := Lib.hid (by rw [hpr.out, if_neg h0])
    clear h0
    have y0 : V.cell? ⟨w.heap.size, 0, none⟩ = some (.int .i64 0) := cellsAt RV'.out 0
    have f0 := frozenIn RV'.out 0
    have y1 : V.cell? ⟨w.heap.size, 1, none⟩ = some (.int .i64 0) := cellsAt RV'.out 1
    have f1 := frozenIn RV'.out 1
    have y2 : V.cell? ⟨w.heap.size, 2, none⟩ = some (.int .i64 0) := cellsAt RV'.out 2
    have f2 := frozenIn RV'.out 2
    have y3 : V.cell? ⟨w.heap.size, 3, none⟩ = some (.int .i64 0) := cellsAt RV'.out 3
    have f3 := frozenIn RV'.out 3
    have y4 : V.cell? ⟨w.heap.size, 4, none⟩ = some (.string ⟨#[]⟩) := cellsAt RV'.out 4
    have f4 := frozenIn RV'.out 4
    have y5 : V.cell? ⟨w.heap.size, 5, none⟩ = some (.slice none 0 0) := cellsAt RV'.out 5
    have f5 := frozenIn RV'.out 5
    have y6 : V.cell? ⟨w.heap.size, 6, none⟩ = some (.slice none 0 0) := cellsAt RV'.out 6
    have f6 := frozenIn RV'.out 6
    have y7 : V.cell? ⟨w.heap.size, 7, none⟩ = some (.slice none 0 0) := cellsAt RV'.out 7
    have f7 := frozenIn RV'.out 7
    have y8 : V.cell? ⟨w.heap.size, 8, none⟩ = some (.slice none 0 0) := cellsAt RV'.out 8
    have f8 := frozenIn RV'.out 8
    go_wp2_with fail
    have hz9 := nine8 RV'.out (.int .i64 0) (.int .i64 0) (.int .i64 0) (.int .i64 0) (.string ⟨#[]⟩) (.slice none 0 0) (.slice none 0 0) (.slice none 0 0) (.slice none 0 0)
    have hm9 := nine8_mod (w := V) (i := w.heap.size) (.int .i64 0) (.int .i64 0) (.int .i64 0) (.int .i64 0) (.string ⟨#[]⟩) (.slice none 0 0) (.slice none 0 0) (.slice none 0 0) (.slice none 0 0)
    clear y0 f0 y1 f1 y2 f2 y3 f3 y4 f4 y5 f5 y6 f6 y7 f7 y8 f8
    generalize (((((((((V.setCell ⟨w.heap.size, 0, none⟩ (.int .i64 0)).setCell ⟨w.heap.size, 1, none⟩ (.int .i64 0)).setCell ⟨w.heap.size, 2, none⟩ (.int .i64 0)).setCell ⟨w.heap.size, 3, none⟩ (.int .i64 0)).setCell ⟨w.heap.size, 4, none⟩ (.string ⟨#[]⟩)).setCell ⟨w.heap.size, 5, none⟩ (.slice none 0 0)).setCell ⟨w.heap.size, 6, none⟩ (.slice none 0 0)).setCell ⟨w.heap.size, 7, none⟩ (.slice none 0 0)).setCell ⟨w.heap.size, 8, none⟩ (.slice none 0 0)) = Q at *
    have u := cellsAt hz9
    have u0 := u 0
    have u1 := u 1
    have u2 := u 2
    have u3 := u 3
    have u4 := u 4
    have u5 := u 5
    have u6 := u 6
    have u7 := u 7
    have u8 := u 8
    simp at u0 u1 u2 u3 u4 u5 u6 u7 u8
    refine bodyPost_ret (v := .tuple #[.agg #[.int .i64 0, .int .i64 0, .int .i64 0, .int .i64 0, .string ⟨#[]⟩, .slice none 0 0, .slice none 0 0, .slice none 0 0, .slice none 0 0], .int .i64 t.2.1, .int .i64 t.2.2]) (by simp [results, Tryz.results46, go_sem, u0, u1, u2, u3, u4, u5, u6, u7, u8]) rfl ?_
    exact ParsePost.none_ hpr2.out (EW'.out.goM hm9 (fun i hi => by omega))
end Go.Proofs.YtgajbgdkgelkgaaGreat
