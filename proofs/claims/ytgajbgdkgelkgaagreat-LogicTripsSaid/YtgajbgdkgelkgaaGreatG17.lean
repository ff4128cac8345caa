/- Layer 7, the reference: the words of a line. · Layer 7, the reference: the lines of a text. -/
import Derived.Test.YtgajbgdkgelkgaaGreatR8A
import Derived.Test.YtgajbgdkgelkgaaGreatLgJ
namespace Go.Proofs.YtgajbgdkgelkgaaGreat
open Go.RowKit

def bAt (s : ByteArray) (i : Nat) : Nat := if h : i < s.size then (s[i]'h).toNat else 0
theorem bAt_of {s : ByteArray} {i : Nat} (h : i < s.size) : bAt s i = (s[i]'h).toNat := dif_pos h
/-- Where the words end: looked at from behind, n bytes. -/
def endStep (s : ByteArray) (e i : Nat) : Nat := if bAt s (s.size - 1 - i) = 35 then s.size - 1 - i else e
def endR (s : ByteArray) : Nat := foldN (endStep s) s.size s.size
def charOk (s : ByteArray) (i : Nat) : Bool := (bAt s i : Int) == 32 || letI8 (bAt s i : Int)
def splitStep (s : ByteArray) (e : Nat) (st : Option (Nat × List ByteArray)) (i : Nat) : Option (Nat × List ByteArray) :=
  match st with
  | none => none
  | some (f, out) => if i < e ∧ bAt s i ≠ 32 then some (f, out) else if 16 + f < i then none else some (i + 1, if f < i then out ++ [s.extract f i] else out)
def splitR (s : ByteArray) (e : Nat) : Option (Nat × List ByteArray) := foldN (splitStep s e) (some (0, [])) (e + 1)
def wordsOf (s : ByteArray) (e : Nat) : List ByteArray × Int :=
  if (List.range e).all (charOk s) then
    match splitR s e with
    | none => ([], 72)
    | some (_, out) => if 14 < out.length then ([], 2) else (out, 0)
  else ([], 71)
def wordsR (s : ByteArray) : List ByteArray × Int := wordsOf s (endR s)
theorem foldN_none {α : Type} (f : Option α → Nat → Option α) (h : ∀ i, f none i = none) (s : Option α) {k : Nat} (hk : foldN f s k = none) : ∀ d, foldN f s (k + d) = none
  | 0 => hk
  | d + 1 => by rw [← Nat.add_assoc, foldN_succ, foldN_none f h s hk d, h]
theorem range_not {p : Nat → Bool} {n k : Nat} (hk : k < n) (h : p k = false) : (List.range n).all p = false := by
  cases e : (List.range n).all p with
  | false => rfl
  | true => rw [List.all_eq_true.1 e k (List.mem_range.2 hk)] at h; cases h
theorem range_of {p : Nat → Bool} {n : Nat} (h : ∀ j, j < n → p j = true) : (List.range n).all p = true := List.all_eq_true.2 fun j hj => h j (List.mem_range.1 hj)
/-- Strings, in a row of the call's own, and a number. -/
def WordsPost (x : List ByteArray × Int) (w : World) (e : Ending) (w' : World) : Prop :=
  ∃ A n c, e = .returned (.tuple #[.slice A n c, .int .i64 x.2]) ∧ n ≤ c ∧ c ≤ maxLen ∧ RdC strCells 1 w' w'.heap.size A n x.1 ∧ (∀ b o, A = some ⟨b, o, none⟩ → w.heap.size ≤ b) ∧ Ext w w'
theorem WordsPost.none_ {w w' : World} {x : List ByteArray × Int} {e : Int} (hx : x = ([], e)) (E : Ext w w') : WordsPost x w (.returned (.tuple #[.slice none 0 0, .int .i64 e])) w' := by
  subst hx
  exact ⟨none, 0, 0, rfl, Nat.le_refl _, by unfold maxLen; omega, RdC.nil _ _ _ _ _, (fun b o e => by cases e), E⟩
theorem endStep_le (s : ByteArray) : ∀ n, foldN (endStep s) s.size n ≤ s.size
  | 0 => Nat.le_refl _
  | n + 1 => by
    rw [foldN_succ]
    unfold endStep
    split
    · omega
    · exact endStep_le s n
set_option maxRecDepth 100000 in
set_option maxHeartbeats 6400000 in
theorem rWords_any (s : ByteArray) (w : World) (hs : s.size ≤ 4096) : Calls Tryz.prog 106 #[.string s] w (WordsPost (wordsR s) w) := by
  have hwr : wordsR s = wordsOf s (endR s) := rfl
  have hle := endStep_le s s.size
  have hle' : endR s ≤ s.size := hle
  obtain ⟨e, he⟩ : ∃ e, e = endR s := ⟨_, rfl⟩
  rw [← he] at hwr hle'
  have he' := Lib.hid he
  rw [hwr]
  clear hwr hle he
  have hz1 : IntKind.i64.wrap ((s.size : Int) - 1) = (s.size : Int) - 1 := by rw [IntKind.wrap_i64]; omega
  go_enter Tryz.func106, Tryz.ntmps106
  go_wp2_with fail
  go_loopw [5, 6] (fun a i wr => ((∃ j : Nat, i = .int .i64 j ∧ j < s.size ∧ a = .int .i64 (foldN (endStep s) s.size (s.size - 1 - j) : Nat)) ∨ (i = .int .i64 (-1) ∧ a = .int .i64 (endR s : Nat))) ∧ w = wr) (fun _ i _ => (intOf i + 1).toNat)
  case atStart =>
    refine ⟨?_, rfl⟩
    rcases Nat.eq_zero_or_pos s.size with h0 | h0
    · exact .inr ⟨by rw [h0]; rfl, by unfold endR; rw [h0]; rfl⟩
    · exact .inl ⟨s.size - 1, by congr 1; omega, by omega, by rw [Nat.sub_self]; rfl⟩
  case round =>
    obtain ⟨hr, rfl⟩ := hrel
    rcases hr with ⟨j, rfl, hj, rfl⟩ | ⟨rfl, rfl⟩
    · have hst : foldN (endStep s) s.size (s.size - 1 - j + 1) = if (s[j]'hj).toNat = 35 then j else foldN (endStep s) s.size (s.size - 1 - j) := by
        rw [foldN_succ]
        unfold endStep
        rw [show s.size - 1 - (s.size - 1 - j) = j by omega, bAt_of hj]
      have hst' := Lib.hid hst
      have hfin : j = 0 → endR s = foldN (endStep s) s.size (s.size - 1 - j + 1) := fun h0 => by subst h0; unfold endR; congr 1; omega
      have hfin' := Lib.hid hfin
      clear hst hfin
      have e3 : (j : Int) < (s.size : Int) := by omega
      have hw1 : IntKind.i64.wrap ((j : Int) - 1) = (j : Int) - 1 := by rw [IntKind.wrap_i64]; omega
      generalize foldN (endStep s) s.size (s.size - 1 - j) = a0 at *
      cases hb : (((s[j]'hj).toNat : Int) == 35)
      · have hb' := Lib.hid (show ¬ (s[j]'hj).toNat = 35 from fun h => by rw [h] at hb; cases hb)
        go_wp2_with fail
        go_roundw
        case rel =>
          refine ⟨?_, trivial⟩
          rcases Nat.eq_zero_or_pos j with h0 | h0
          · refine .inr ⟨by subst h0 <;> rfl, ?_⟩
            rw [hfin'.out h0, hst'.out, if_neg hb'.out]
          · refine .inl ⟨j - 1, by congr 1; omega, by omega, ?_⟩
            rw [show s.size - 1 - (j - 1) = s.size - 1 - j + 1 by omega, hst'.out, if_neg hb'.out]
        case measure => simp [intOf] <;> omega
      · have hb' := Lib.hid (show (s[j]'hj).toNat = 35 by rw [beq_iff_eq] at hb; omega)
        go_wp2_with fail
        go_roundw
        case rel =>
          refine ⟨?_, trivial⟩
          rcases Nat.eq_zero_or_pos j with h0 | h0
          · refine .inr ⟨by subst h0 <;> rfl, ?_⟩
            rw [hfin'.out h0, hst'.out, if_pos hb'.out]
          · refine .inl ⟨j - 1, by congr 1; omega, by omega, ?_⟩
            rw [show s.size - 1 - (j - 1) = s.size - 1 - j + 1 by omega, hst'.out, if_pos hb'.out]
        case measure => simp [intOf] <;> omega
    · rw [← he'.out]
      go_wp2_with fail
      go_loopw [7] (fun i wr => ∃ k : Nat, k ≤ e ∧ i = .int .i64 k ∧ (∀ j, j < k → charOk s j = true) ∧ w = wr) (fun i _ => e - (intOf i).toNat)
      case atStart => exact ⟨0, by omega, rfl, fun j hj => absurd hj (by omega), rfl⟩
      case round =>
        obtain ⟨k, hk, rfl, hz, rfl⟩ := hrel
        have hz' := Lib.hid hz
        clear hz
        by_cases hlt : k < e
        · have e3 : (k : Int) < (e : Int) := by omega
          have hks : k < s.size := by omega
          have e4 : (k : Int) < (s.size : Int) := by omega
          have hco : Hid (charOk s k = ((((s[k]'hks).toNat : Int) == 32) || letI8 ((s[k]'hks).toNat : Int))) := Lib.hid (by unfold charOk; rw [bAt_of hks])
          cases h1 : (((s[k]'hks).toNat : Int) == 32)
          · have h1' : (((s[k]'hks).toNat : Int) != 32) = true := by rw [bne, h1]; rfl
            cases h2 : letI8 ((s[k]'hks).toNat : Int)
            · have hbad : Hid (wordsOf s e = ([], 71)) := Lib.hid (by unfold wordsOf; rw [range_not hlt (by rw [hco.out, h1, h2]; rfl)]; rfl)
              go_wp2_with (go_at_call 127; refine (rLetter_any _ _).mono ?_; rintro e w' ⟨rfl, rfl⟩)
              go_ret2
              exact WordsPost.none_ hbad.out (Ext.refl w)
            · have hok : Hid (charOk s k = true) := Lib.hid (by rw [hco.out, h1, h2]; rfl)
              go_wp2_with (go_at_call 127; refine (rLetter_any _ _).mono ?_; rintro e w' ⟨rfl, rfl⟩)
              go_roundw
              case rel =>
                refine ⟨k + 1, by omega, by go_num, fun j hj => ?_, trivial⟩
                rcases Nat.lt_succ_iff_lt_or_eq.1 hj with h | rfl
                · exact hz'.out j h
                · exact hok.out
              case measure => simp [intOf] <;> omega
          · have h1' : (((s[k]'hks).toNat : Int) != 32) = false := by rw [bne, h1]; rfl
            have hok : Hid (charOk s k = true) := Lib.hid (by rw [hco.out, h1]; rfl)
            go_wp2_with fail
            go_roundw
            case rel =>
              refine ⟨k + 1, by omega, by go_num, fun j hj => ?_, trivial⟩
              rcases Nat.lt_succ_iff_lt_or_eq.1 hj with h | rfl
              · exact hz'.out j h
              · exact hok.out
            case measure => simp [intOf] <;> omega
        · obtain rfl : k = e := by omega
          have hall : Hid ((List.range k).all (charOk s) = true) := Lib.hid (range_of hz'.out)
          go_wp2_with fail
          go_loopw [4, 8, 9] (fun v a i wr => ∃ (j f : Nat) (out : List ByteArray), j ≤ k + 1 ∧ i = .int .i64 j ∧ a = .int .i64 f ∧ f ≤ j ∧ out.length ≤ j ∧ foldN (splitStep s k) (some (0, [])) j = some (f, out) ∧ wr.ownsRow w.heap.size 9 1 v out.length (out.map Value.string) ∧ Ext w wr) (fun _ _ i _ => k + 1 - (intOf i).toNat)
          case atStart => exact ⟨0, 0, [], by omega, rfl, rfl, by omega, by simp, rfl, World.ownsRow_nil _ _ _ _, Ext.refl _⟩
          case round =>
            obtain ⟨j, f, out, hj, rfl, rfl, hf, hlo, hst, hown, hE⟩ := hrel
            have hst' := Lib.hid hst
            have hown' := Lib.hid hown
            have hE' := Lib.hid hE
            have hEz := hE.size
            clear hst hown hE
            by_cases hlt2 : j ≤ k
            · have e3 : (j : Int) ≤ (k : Int) := by omega
              have hnx : Hid (foldN (splitStep s k) (some (0, [])) (j + 1) = if j < k ∧ bAt s j ≠ 32 then some (f, out) else if 16 + f < j then none else some (j + 1, if f < j then out ++ [s.extract f j] else out)) := Lib.hid (by rw [foldN_succ, hst'.out]; rfl)
              by_cases hgo : j < k ∧ bAt s j ≠ 32
              · have hjs : j < s.size := by omega
                have e4 : (j : Int) < (s.size : Int) := by omega
                have e5 : decide ((j : Int) < (k : Int)) = true := by simp; omega
                have e5n : decide (j < k) = true := by simp; omega
                have h1' : (((s[j]'hjs).toNat : Int) != 32) = true := by
                  have := hgo.2; rw [bAt_of hjs] at this
                  rw [bne_iff_ne]; omega
                have hgo' := Lib.hid hgo
                clear hgo
                go_wp2_with fail
                go_roundw
                case rel => exact ⟨j + 1, f, out, by omega, by go_num, rfl, by omega, by omega, by rw [hnx.out, if_pos hgo'.out], hown'.out, hE'.out⟩
                case measure => simp [intOf] <;> omega
              · have hnx2 : Hid (foldN (splitStep s k) (some (0, [])) (j + 1) = if 16 + f < j then none else some (j + 1, if f < j then out ++ [s.extract f j] else out)) := Lib.hid (by rw [hnx.out, if_neg hgo])
                have hw1 : IntKind.i64.wrap ((j : Int) - (f : Int)) = (j : Int) - (f : Int) := by rw [IntKind.wrap_i64]; omega
                have hcs : (decide ((j : Int) < (k : Int)) = false ∧ decide (j < k) = false) ∨ (decide ((j : Int) < (k : Int)) = true ∧ decide (j < k) = true ∧ ∃ hjs : j < s.size, (((s[j]'hjs).toNat : Int) != 32) = false) := by
                  by_cases h : j < k
                  · refine .inr ⟨by simp; omega, by simp; omega, by omega, ?_⟩
                    have h2 : bAt s j = 32 := by
                      rcases Nat.decEq (bAt s j) 32 with h3 | h3
                      · exact absurd ⟨h, h3⟩ hgo
                      · exact h3
                    rw [bAt_of (by omega)] at h2
                    rw [bne_eq_false_iff_eq]; omega
                  · exact .inl ⟨by simp; omega, by simp; omega⟩
                clear hgo
                by_cases h16 : 16 + f < j
                · have d16 : decide ((16 : Int) < (j : Int) - (f : Int)) = true := by simp; omega
                  have hbad : Hid (wordsOf s k = ([], 72)) := Lib.hid (by
                    have h1 : foldN (splitStep s k) (some (0, [])) (j + 1) = none := by rw [hnx2.out, if_pos h16]
                    have h2 : splitR s k = none := by
                      unfold splitR
                      rw [show k + 1 = j + 1 + (k - j) by omega]
                      exact foldN_none (splitStep s k) (fun i => rfl) _ h1 _
                    unfold wordsOf
                    rw [hall.out, h2]; rfl)
                  rcases hcs with ⟨e5, e5n⟩ | ⟨e5, e5n, hjs, h1'⟩
                  · go_wp2_with fail
                    go_ret2
                    exact WordsPost.none_ hbad.out hE'.out
                  · have e4 : (j : Int) < (s.size : Int) := by omega
                    go_wp2_with fail
                    go_ret2
                    exact WordsPost.none_ hbad.out hE'.out
                · have d16 : decide ((16 : Int) < (j : Int) - (f : Int)) = false := by simp; omega
                  by_cases hfj : f < j
                  · have d17 : decide ((f : Int) < (j : Int)) = true := by simp; omega
                    have e9 : (f : Int) ≤ (j : Int) := by omega
                    have e10 : (j : Int) ≤ (s.size : Int) := by omega
                    have hnx3 : Hid (foldN (splitStep s k) (some (0, [])) (j + 1) = some (j + 1, out ++ [s.extract f j])) := Lib.hid (by rw [hnx2.out, if_neg h16, if_pos hfj])
                    obtain ⟨x, hx⟩ : ∃ x, x = s.extract f j := ⟨_, rfl⟩
                    have hx' := Lib.hid hx
                    rcases hcs with ⟨e5, e5n⟩ | ⟨e5, e5n, hjs, h1'⟩
                    · go_wp2_with (at_builtin; refine wpList_appS rfl (.tmp 61) (.tmp 66) _ rfl Tryz.underlying154 info_str rfl (by decide) (hown'.out.alloc _) rfl (new := [.string (s.extract f j)]) rfl (heap_new_at (by simp)) rfl (by intro u hu; simp at hu; subst hu; rfl) (by omega) (by unfold maxLen; omega) (by simp; omega) ?_; intro vz wz ownz hgz _)
                      go_roundw
                      case rel => exact ⟨j + 1, j + 1, out ++ [s.extract f j], by omega, by go_num, by go_num, by omega, by simp; omega, hnx3.out, by rw [List.length_append, List.map_append]; exact ownz, (hE'.out.goA _).goG hgz (fun i hi => (hown'.out.lt i hi).1)⟩
                      case measure => simp [intOf] <;> omega
                    · have e4 : (j : Int) < (s.size : Int) := by omega
                      go_wp2_with (at_builtin; refine wpList_appS rfl (.tmp 61) (.tmp 66) _ rfl Tryz.underlying154 info_str rfl (by decide) (hown'.out.alloc _) rfl (new := [.string (s.extract f j)]) rfl (heap_new_at (by simp)) rfl (by intro u hu; simp at hu; subst hu; rfl) (by omega) (by unfold maxLen; omega) (by simp; omega) ?_; intro vz wz ownz hgz _)
                      go_roundw
                      case rel => exact ⟨j + 1, j + 1, out ++ [s.extract f j], by omega, by go_num, by go_num, by omega, by simp; omega, hnx3.out, by rw [List.length_append, List.map_append]; exact ownz, (hE'.out.goA _).goG hgz (fun i hi => (hown'.out.lt i hi).1)⟩
                      case measure => simp [intOf] <;> omega
                  · have d17 : decide ((f : Int) < (j : Int)) = false := by simp; omega
                    have hnx3 : Hid (foldN (splitStep s k) (some (0, [])) (j + 1) = some (j + 1, out)) := Lib.hid (by rw [hnx2.out, if_neg h16, if_neg hfj])
                    rcases hcs with ⟨e5, e5n⟩ | ⟨e5, e5n, hjs, h1'⟩
                    · go_wp2_with fail
                      go_roundw
                      case rel => exact ⟨j + 1, j + 1, out, by omega, by go_num, by go_num, by omega, by omega, hnx3.out, hown'.out, hE'.out⟩
                      case measure => simp [intOf] <;> omega
                    · have e4 : (j : Int) < (s.size : Int) := by omega
                      go_wp2_with fail
                      go_roundw
                      case rel => exact ⟨j + 1, j + 1, out, by omega, by go_num, by go_num, by omega, by omega, hnx3.out, hown'.out, hE'.out⟩
                      case measure => simp [intOf] <;> omega
            · obtain rfl : j = k + 1 := by omega
              have e3 : decide (((k + 1 : Nat) : Int) ≤ (k : Int)) = false := by simp; omega
              have hsp : Hid (splitR s k = some (f, out)) := Lib.hid hst'.out
              obtain ⟨A, c, rfl, ⟨hc1, hc2⟩, hrd, hfr⟩ := own_rdC (cells := strCells) hown'.out rfl (strs_flat out) (fun _ => rfl)
              have hrd' := Lib.hid hrd
              have hfr' := Lib.hid hfr
              have hcm := Lib.hid (show out.length ≤ c ∧ c ≤ maxLen from ⟨hc1, hc2⟩)
              have hwo : Hid (wordsOf s k = if 14 < out.length then ([], 2) else (out, 0)) := Lib.hid (by unfold wordsOf; rw [hall.out, hsp.out]; rfl)
              clear hrd hfr hc1 hc2
              by_cases h14 : 14 < out.length
              · have d14 : decide ((14 : Int) < (out.length : Int)) = true := by simp; omega
                have hwo2 : Hid (wordsOf s k = ([], 2)) := Lib.hid (by rw [hwo.out, if_pos h14])
                go_wp2_with fail
                go_ret2
                exact WordsPost.none_ hwo2.out hE'.out
              · have d14 : decide ((14 : Int) < (out.length : Int)) = false := by simp; omega
                have hwo2 : Hid (wordsOf s k = (out, 0)) := Lib.hid (by rw [hwo.out, if_neg h14])
                go_wp2_with fail
                go_ret2
                rw [hwo2.out]
                exact ⟨A, _, c, rfl, hcm.out.1, hcm.out.2, hrd'.out, hfr'.out, hE'.out⟩
end Go.Proofs.YtgajbgdkgelkgaaGreat
namespace Go.Proofs.YtgajbgdkgelkgaaGreat
open Go.RowKit

structure Ln where
  no : Int
  A : Option Addr
  n : Nat
  c : Nat
  ws : List ByteArray
def lnCells (x : Ln) : List Value := [.int .i64 x.no, .slice x.A x.n x.c]
def Ln.told (x : Ln) : Int × List ByteArray := (x.no, x.ws)
abbrev LSt := (Int × Int) ⊕ (Nat × Nat × List (Int × List ByteArray))
def linesStep (s : ByteArray) (st : LSt) (i : Nat) : LSt :=
  match st with
  | .inl e => .inl e
  | .inr (no, f, out) =>
    if i < s.size ∧ bAt s i ≠ 10 then .inr (no, f, out)
    else if (wordsR (s.extract f i)).2 ≠ 0 then .inl ((wordsR (s.extract f i)).2, no)
    else .inr (no + 1, i + 1, if (wordsR (s.extract f i)).1.length = 0 then out else out ++ [((no : Int), (wordsR (s.extract f i)).1)])
def linesR (s : ByteArray) : List (Int × List ByteArray) × Int × Int :=
  if 4096 < s.size then ([], 2, 0)
  else match foldN (linesStep s) (.inr (1, 0, [])) (s.size + 1) with
    | .inl (e, no) => ([], e, no)
    | .inr (_, _, out) => (out, 0, 0)
theorem foldN_inl (s : ByteArray) (st : LSt) {k : Nat} {e : Int × Int} (hk : foldN (linesStep s) st k = .inl e) : ∀ d, foldN (linesStep s) st (k + d) = .inl e
  | 0 => hk
  | d + 1 => by rw [← Nat.add_assoc, foldN_succ, foldN_inl s st hk d]; rfl
structure LnRow (w0 w : World) (v : Value) (ls : List Ln) : Prop where
  own : w.ownsRow w0.heap.size 156 2 v ls.length (ls.flatMap lnCells)
  ext : Ext w0 w
  rd : ∀ l ∈ ls, RdC strCells 1 w w.heap.size l.A l.n l.ws ∧ (l.n ≤ l.c ∧ l.c ≤ maxLen) ∧ ∀ b o, l.A = some ⟨b, o, none⟩ → w0.heap.size ≤ b ∧ b < w.heap.size ∧ v.ownBlock ≠ some b
theorem LnRow.nil (w : World) : LnRow w w (.slice none 0 0) [] := ⟨World.ownsRow_nil _ _ _ _, Ext.refl _, fun l hl => by simp at hl⟩
theorem LnRow.go {w0 w w' : World} {v : Value} {ls : List Ln} (h : LnRow w0 w v ls) (E : Ext w w') : LnRow w0 w' v ls :=
  ⟨own_ext h.own E, h.ext.go E, fun l hl => by
    obtain ⟨h1, h2, h3⟩ := h.rd l hl
    exact ⟨h1.ext E, h2, fun b o e => by obtain ⟨k1, k2, k3⟩ := h3 b o e; exact ⟨k1, Nat.lt_of_lt_of_le k2 E.size, k3⟩⟩⟩
theorem LnRow.app {w0 W w2 : World} {v v2 : Value} {ls : List Ln} {l : Ln} (h : LnRow w0 W v ls) (hl : RdC strCells 1 W W.heap.size l.A l.n l.ws ∧ (l.n ≤ l.c ∧ l.c ≤ maxLen) ∧ ∀ b o, l.A = some ⟨b, o, none⟩ → w0.heap.size ≤ b ∧ b < W.heap.size ∧ v.ownBlock ≠ some b)
    (own2 : w2.ownsRow w0.heap.size 156 2 v2 (ls.length + 1) (ls.flatMap lnCells ++ lnCells l)) (hg : W.grownBy w2 v.ownBlock) (hat : v2.ownBlock = v.ownBlock ∨ v2.ownBlock = some W.heap.size) : LnRow w0 w2 v2 (ls ++ [l]) := by
  have M : Mod (fun b => v.ownBlock = some b) W w2 := (Mod.refl _ W).grown hg fun k hk => .inl hk
  have one : ∀ x : Ln, (RdC strCells 1 W W.heap.size x.A x.n x.ws ∧ (x.n ≤ x.c ∧ x.c ≤ maxLen) ∧ ∀ b o, x.A = some ⟨b, o, none⟩ → w0.heap.size ≤ b ∧ b < W.heap.size ∧ v.ownBlock ≠ some b) → RdC strCells 1 w2 w2.heap.size x.A x.n x.ws ∧ (x.n ≤ x.c ∧ x.c ≤ maxLen) ∧ ∀ b o, x.A = some ⟨b, o, none⟩ → w0.heap.size ≤ b ∧ b < w2.heap.size ∧ v2.ownBlock ≠ some b := fun x hx => by
    obtain ⟨h1, h2, h3⟩ := hx
    refine ⟨h1.mod M fun _ b o e hb => (h3 b o e).2.2 hb, h2, fun b o e => ?_⟩
    obtain ⟨k1, k2, k3⟩ := h3 b o e
    refine ⟨k1, Nat.lt_of_lt_of_le k2 M.size, fun hb => ?_⟩
    rcases hat with h4 | h4
    · exact k3 (h4 ▸ hb)
    · rw [h4] at hb; cases hb; omega
  refine ⟨?_, h.ext.goG hg fun i hi => (h.own.lt i hi).1, fun x hx => ?_⟩
  · rw [List.length_append, List.flatMap_append, List.flatMap_cons, List.flatMap_nil, List.append_nil]
    exact own2
  · rcases List.mem_append.1 hx with hx | hx
    · exact one x (h.rd x hx)
    · rw [List.mem_singleton] at hx; subst hx; exact one x hl
theorem info_line : (Tryz.prog.info? 156).map (fun i => (i.zero, i.size, i.bytes)) = some (some (.agg #[.int .i64 0, .slice none 0 0]), 2, 32) := by kernel_rfl
def LinesPost (x : List (Int × List ByteArray) × Int × Int) (w : World) (e : Ending) (w' : World) : Prop :=
  ∃ A n c ls, e = .returned (.tuple #[.slice A n c, .int .i64 x.2.1, .int .i64 x.2.2]) ∧ (n ≤ c ∧ c ≤ maxLen) ∧ RdC lnCells 2 w' w'.heap.size A n ls ∧ (∀ l ∈ ls, RdC strCells 1 w' w'.heap.size l.A l.n l.ws ∧ (l.n ≤ l.c ∧ l.c ≤ maxLen)) ∧ ls.map Ln.told = x.1 ∧ (∀ b o, A = some ⟨b, o, none⟩ → w.heap.size ≤ b) ∧ Ext w w'
theorem LinesPost.none_ {w w' : World} {x : List (Int × List ByteArray) × Int × Int} {e a : Int} (hx : x = ([], e, a)) (E : Ext w w') : LinesPost x w (.returned (.tuple #[.slice none 0 0, .int .i64 e, .int .i64 a])) w' := by
  subst hx
  exact ⟨none, 0, 0, [], rfl, ⟨Nat.le_refl _, by unfold maxLen; omega⟩, RdC.nil _ _ _ _ _, (fun l hl => by simp at hl), rfl, (fun b o e => by cases e), E⟩
set_option maxRecDepth 100000 in
set_option maxHeartbeats 6400000 in
theorem rLines_any (s : ByteArray) (w : World) (hs : s.size ≤ maxLen) : Calls Tryz.prog 80 #[.string s] w (LinesPost (linesR s) w) := by
  unfold maxLen at hs
  by_cases hbig : 4096 < s.size
  · have d0 : decide ((4096 : Int) < (s.size : Int)) = true := by simp; omega
    have hbad : Hid (linesR s = ([], 2, 0)) := Lib.hid (if_pos hbig)
    go_enter Tryz.func80, Tryz.ntmps80
    go_wp2_with fail
    go_ret3
    exact LinesPost.none_ hbad.out (Ext.refl w)
  have d0 : decide ((4096 : Int) < (s.size : Int)) = false := by simp; omega
  have hlr : Hid (linesR s = match foldN (linesStep s) (.inr (1, 0, [])) (s.size + 1) with
    | .inl (e, no) => ([], e, no)
    | .inr (_, _, out) => (out, 0, 0)) := Lib.hid (if_neg hbig)
  have hs4 : s.size ≤ 4096 := by omega
  clear hbig
  go_enter Tryz.func80, Tryz.ntmps80
  go_wp2_with fail
  go_loopw [5, 6, 7, 8] (fun v q a i wr => ∃ (j no f : Nat) (ls : List Ln), j ≤ s.size + 1 ∧ i = .int .i64 j ∧ q = .int .i64 no ∧ a = .int .i64 f ∧ f ≤ j ∧ no ≤ j + 1 ∧ ls.length ≤ j ∧ foldN (linesStep s) (.inr (1, 0, [])) j = .inr (no, f, ls.map Ln.told) ∧ LnRow w wr v ls) (fun _ _ _ i _ => s.size + 1 - (intOf i).toNat)
  case atStart => exact ⟨0, 1, 0, [], by omega, rfl, rfl, rfl, by omega, by omega, by simp, rfl, LnRow.nil w⟩
  case round =>
    obtain ⟨j, no, f, ls, hj, rfl, rfl, rfl, hf, hno, hll, hst, hR⟩ := hrel
    have hst' := Lib.hid hst
    have hR' := Lib.hid hR
    have hEz := hR.ext.size
    clear hst hR
    by_cases hlt2 : j ≤ s.size
    · have e3 : (j : Int) ≤ (s.size : Int) := by omega
      have hnx : Hid (foldN (linesStep s) (.inr (1, 0, [])) (j + 1) = if j < s.size ∧ bAt s j ≠ 10 then .inr (no, f, ls.map Ln.told) else if (wordsR (s.extract f j)).2 ≠ 0 then .inl ((wordsR (s.extract f j)).2, no) else .inr (no + 1, j + 1, if (wordsR (s.extract f j)).1.length = 0 then ls.map Ln.told else ls.map Ln.told ++ [((no : Int), (wordsR (s.extract f j)).1)])) := Lib.hid (by rw [foldN_succ, hst'.out]; rfl)
      by_cases hgo : j < s.size ∧ bAt s j ≠ 10
      · have hjs : j < s.size := hgo.1
        have e4 : (j : Int) < (s.size : Int) := by omega
        have h1' : (((s[j]'hjs).toNat : Int) != 10) = true := by
          have := hgo.2; rw [bAt_of hjs] at this
          rw [bne_iff_ne]; omega
        have hgo' := Lib.hid hgo
        clear hgo
        go_wp2_with fail
        go_roundw
        case rel => exact ⟨j + 1, no, f, ls, by omega, by go_num, rfl, rfl, by omega, by omega, by omega, by rw [hnx.out, if_pos hgo'.out], hR'.out⟩
        case measure => simp [intOf] <;> omega
      · have hnx2 : Hid (foldN (linesStep s) (.inr (1, 0, [])) (j + 1) = if (wordsR (s.extract f j)).2 ≠ 0 then .inl ((wordsR (s.extract f j)).2, no) else .inr (no + 1, j + 1, if (wordsR (s.extract f j)).1.length = 0 then ls.map Ln.told else ls.map Ln.told ++ [((no : Int), (wordsR (s.extract f j)).1)])) := Lib.hid (by rw [hnx.out, if_neg hgo])
        have hcs : (decide ((j : Int) < (s.size : Int)) = false ∧ decide (j < s.size) = false) ∨ (decide ((j : Int) < (s.size : Int)) = true ∧ decide (j < s.size) = true ∧ ∃ hjs : j < s.size, (((s[j]'hjs).toNat : Int) != 10) = false) := by
          by_cases h : j < s.size
          · refine .inr ⟨by simp; omega, by simp; omega, by omega, ?_⟩
            have h2 : bAt s j = 10 := by
              rcases Nat.decEq (bAt s j) 10 with h3 | h3
              · exact absurd ⟨h, h3⟩ hgo
              · exact h3
            rw [bAt_of (by omega)] at h2
            rw [bne_eq_false_iff_eq]; omega
          · exact .inl ⟨by simp; omega, by simp; omega⟩
        clear hgo hnx
        have e9 : (f : Int) ≤ (j : Int) := by omega
        have e10 : (j : Int) ≤ (s.size : Int) := by omega
        have hxs : (s.extract f j).size ≤ 4096 := by rw [ByteArray.size_extract]; omega
        have hwd := fun W => rWords_any (s.extract f j) W hxs
        have hwd := Lib.hid hwd
        obtain ⟨x, hx⟩ : ∃ x, x = wordsR (s.extract f j) := ⟨_, rfl⟩
        rw [← hx] at hwd hnx2
        clear hx
        by_cases h0 : x.2 = 0
        · have d2 : (x.2 != 0) = false := by simp [h0]
          by_cases hn0 : x.1.length = 0
          · have hnx3 : Hid (foldN (linesStep s) (.inr (1, 0, [])) (j + 1) = .inr (no + 1, j + 1, ls.map Ln.told)) := Lib.hid (by rw [hnx2.out, if_neg (by simp [h0]), if_pos hn0])
            clear h0
            rcases hcs with ⟨e5, e5n⟩ | ⟨e5, e5n, hjs, h1'⟩
            · go_wp2_with (go_at_call 106; refine (hwd.out _).mono ?_; rintro e W1 ⟨A1, n1, c1, rfl, r1, r2, r3, r4, E1⟩; have hn1 : n1 = 0 := r3.len.symm.trans hn0; subst hn1)
              go_roundw
              case rel => exact ⟨j + 1, no + 1, j + 1, ls, by omega, by go_num, by go_num, by go_num, by omega, by omega, by omega, hnx3.out, hR'.out.go E1⟩
              case measure => simp [intOf] <;> omega
            · have e4 : (j : Int) < (s.size : Int) := by omega
              go_wp2_with (go_at_call 106; refine (hwd.out _).mono ?_; rintro e W1 ⟨A1, n1, c1, rfl, r1, r2, r3, r4, E1⟩; have hn1 : n1 = 0 := r3.len.symm.trans hn0; subst hn1)
              go_roundw
              case rel => exact ⟨j + 1, no + 1, j + 1, ls, by omega, by go_num, by go_num, by go_num, by omega, by omega, by omega, hnx3.out, hR'.out.go E1⟩
              case measure => simp [intOf] <;> omega
          · have hnx3 : Hid (foldN (linesStep s) (.inr (1, 0, [])) (j + 1) = .inr (no + 1, j + 1, ls.map Ln.told ++ [((no : Int), x.1)])) := Lib.hid (by rw [hnx2.out, if_neg (by simp [h0]), if_neg hn0])
            clear h0
            rcases hcs with ⟨e5, e5n⟩ | ⟨e5, e5n, hjs, h1'⟩
            · go_wp2_with (first
                | (at_builtin; refine wpList_appS rfl (.tmp 45) (.tmp 49) _ rfl Tryz.underlying147 info_line rfl (by decide) (RA.out.own.alloc _) rfl (new := [.int .i64 no, .slice A1 n1 c1]) rfl (heap_new_at (by simp)) rfl (by intro u hu; simp at hu; rcases hu with rfl | rfl <;> rfl) (by omega) (by unfold maxLen; omega) (by have := RA.out.ext.size; simp; omega) ?_; intro vz wz ownz hgz hat)
                | (go_at_call 106; refine (hwd.out _).mono ?_; rintro e W1 ⟨A1, n1, c1, rfl, r1, r2, r3, r4, E1⟩; have hn1 : (0 : Int) < (n1 : Int) := (by have := r3.len; omega); have RA := Lib.hid (hR'.out.go E1); have r3' := Lib.hid r3; have r4' := Lib.hid r4; have E1z := E1.size; clear r3 r4))
              go_roundw
              case rel =>
                refine ⟨j + 1, no + 1, j + 1, ls ++ [⟨no, A1, n1, c1, x.1⟩], by omega, by go_num, by go_num, by go_num, by omega, by omega, by simp; omega, by rw [hnx3.out, List.map_append]; rfl, (RA.out.go ((Ext.refl W1).goA _)).app (l := ⟨no, A1, n1, c1, x.1⟩) ⟨r3'.out.ext ((Ext.refl W1).goA _), ⟨r1, r2⟩, fun b o e => ?_⟩ ownz hgz hat⟩
                have h1 := r4'.out b o e
                have h2 := r3'.out.lt_of (by omega) e
                exact ⟨by omega, by simp; omega, fun hb => by have := (hR'.out.own.lt b hb).2; omega⟩
              case measure => simp [intOf] <;> omega
            · have e4 : (j : Int) < (s.size : Int) := by omega
              go_wp2_with (first
                | (at_builtin; refine wpList_appS rfl (.tmp 45) (.tmp 49) _ rfl Tryz.underlying147 info_line rfl (by decide) (RA.out.own.alloc _) rfl (new := [.int .i64 no, .slice A1 n1 c1]) rfl (heap_new_at (by simp)) rfl (by intro u hu; simp at hu; rcases hu with rfl | rfl <;> rfl) (by omega) (by unfold maxLen; omega) (by have := RA.out.ext.size; simp; omega) ?_; intro vz wz ownz hgz hat)
                | (go_at_call 106; refine (hwd.out _).mono ?_; rintro e W1 ⟨A1, n1, c1, rfl, r1, r2, r3, r4, E1⟩; have hn1 : (0 : Int) < (n1 : Int) := (by have := r3.len; omega); have RA := Lib.hid (hR'.out.go E1); have r3' := Lib.hid r3; have r4' := Lib.hid r4; have E1z := E1.size; clear r3 r4))
              go_roundw
              case rel =>
                refine ⟨j + 1, no + 1, j + 1, ls ++ [⟨no, A1, n1, c1, x.1⟩], by omega, by go_num, by go_num, by go_num, by omega, by omega, by simp; omega, by rw [hnx3.out, List.map_append]; rfl, (RA.out.go ((Ext.refl W1).goA _)).app (l := ⟨no, A1, n1, c1, x.1⟩) ⟨r3'.out.ext ((Ext.refl W1).goA _), ⟨r1, r2⟩, fun b o e => ?_⟩ ownz hgz hat⟩
                have h1 := r4'.out b o e
                have h2 := r3'.out.lt_of (by omega) e
                exact ⟨by omega, by simp; omega, fun hb => by have := (hR'.out.own.lt b hb).2; omega⟩
              case measure => simp [intOf] <;> omega
        · have d2 : (x.2 != 0) = true := by simp [h0]
          have hbad : Hid (linesR s = ([], x.2, (no : Int))) := Lib.hid (by
            have h1 : foldN (linesStep s) (.inr (1, 0, [])) (j + 1) = .inl (x.2, (no : Int)) := by rw [hnx2.out, if_pos h0]
            rw [hlr.out, show s.size + 1 = j + 1 + (s.size - j) by omega, foldN_inl s _ h1])
          clear h0
          rcases hcs with ⟨e5, e5n⟩ | ⟨e5, e5n, hjs, h1'⟩
          · go_wp2_with (go_at_call 106; refine (hwd.out _).mono ?_; rintro e W1 ⟨A1, n1, c1, rfl, r1, r2, r3, r4, E1⟩)
            go_ret3
            exact LinesPost.none_ hbad.out (hR'.out.ext.go E1)
          · have e4 : (j : Int) < (s.size : Int) := by omega
            go_wp2_with (go_at_call 106; refine (hwd.out _).mono ?_; rintro e W1 ⟨A1, n1, c1, rfl, r1, r2, r3, r4, E1⟩)
            go_ret3
            exact LinesPost.none_ hbad.out (hR'.out.ext.go E1)
    · obtain rfl : j = s.size + 1 := by omega
      have e3 : decide (((s.size + 1 : Nat) : Int) ≤ (s.size : Int)) = false := by simp; omega
      obtain ⟨A, c, rfl, ⟨hc1, hc2⟩, hrd, hfr⟩ := own_rdC (cells := lnCells) hR'.out.own rfl rfl (fun _ => rfl)
      have hrd' := Lib.hid hrd
      have hfr' := Lib.hid hfr
      have hcm := Lib.hid (show ls.length ≤ c ∧ c ≤ maxLen from ⟨hc1, hc2⟩)
      have hwo : Hid (linesR s = (ls.map Ln.told, 0, 0)) := Lib.hid (by rw [hlr.out, hst'.out])
      clear hrd hfr hc1 hc2
      go_wp2_with fail
      go_ret3
      rw [hwo.out]
      exact ⟨A, _, c, ls, rfl, hcm.out, hrd'.out, fun l hl => ⟨(hR'.out.rd l hl).1, (hR'.out.rd l hl).2.1⟩, rfl, hfr'.out, hR'.out.ext⟩
end Go.Proofs.YtgajbgdkgelkgaaGreat
