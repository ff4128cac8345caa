/- Layer 5, plain: what may be answered is got of its bytes; what is got of any bytes may be answered. · The reference of layer 5: Right, Put. · The reference of layer 5: Put. -/
import Derived.Test.YtgagpalffdgjnaaG11
import Derived.Test.YtgagpalffdgjnaaG14
namespace Go.Proofs.Ytgagpalffdgjnaa
open Go.RowKit

theorem shape_hi {fc : Int} {s : Shape} (hs : shapeOf fc = some s) : fc % 256 = fc ∧ orHi (fc % 256) = fc + 128 ∧ hiB (orHi (fc % 256)) = true ∧ hiB (fc % 256) = false := by
  rcases shape_cases hs with ⟨rfl | rfl, _⟩ | ⟨rfl | rfl, _⟩ | ⟨rfl, _⟩ | ⟨rfl, _⟩ | ⟨rfl, _⟩ | ⟨rfl, _⟩ | ⟨rfl, _⟩ | ⟨rfl, _⟩ <;> exact ⟨rfl, by kernel_rfl, by kernel_rfl, by kernel_rfl⟩
theorem kinds_of {fc : Int} {s : Shape} (hs : shapeOf fc = some s) : readsB fc = (s.form == 0 || s.form == 3) ∧ readsBits fc = ((s.form == 0 || s.form == 3) && s.bits) := by
  unfold readsB readsBits; rw [hs]; exact ⟨rfl, rfl⟩
theorem body_length (b : Bool) (ys : List Int) : (bodyL b ys).length = if b then (ys.length + 7) / 8 else 2 * ys.length := by
  unfold bodyL
  cases b
  · exact wordsL_length ys
  · exact bitsTo_length _ _
theorem right_reads {fc ad qt to : Int} {xs : List Int} (h : rightB' fc ad qt to xs = true) (hr : readsB fc = true) : 1 ≤ qt ∧ qt ≤ (if readsBits fc then 2000 else 125) := by
  obtain ⟨s, hs, h1, h2⟩ := right_parts h
  obtain ⟨k1, k2⟩ := kinds_of hs
  obtain ⟨-, -, ⟨q0, q1⟩, hq, -, -, -, -, -⟩ := holds_parts h1
  rw [k1] at hr
  rw [k2]
  rcases shape_cases hs with ⟨_, rfl⟩ | ⟨_, rfl⟩ | ⟨_, rfl⟩ | ⟨_, rfl⟩ | ⟨_, rfl⟩ | ⟨_, rfl⟩ | ⟨_, rfl⟩ | ⟨_, rfl⟩
  all_goals
    first
      | (exact absurd hr (by decide))
      | (simp at hq q1 ⊢; omega)
/-- How long an answer's bytes are. -/
theorem rep_length {fc ad qt to code : Int} {xs ys : List Int} (h : ansR fc ad qt to xs code ys = true) :
    (code ≠ 0 → (repR fc ad qt to xs code ys).length = 2) ∧ (code = 0 → readsB fc = true → ((repR fc ad qt to xs code ys).length : Int) = 2 + if readsBits fc then (qt + 7) / 8 else 2 * qt) ∧ (code = 0 → readsB fc = false → 5 ≤ (repR fc ad qt to xs code ys).length) ∧ (repR fc ad qt to xs code ys).length ≤ 253 := by
  obtain ⟨h1, h2, h3⟩ := ans_parts h
  unfold repR repL
  by_cases hc : code = 0
  · subst hc
    have h3 := h3 rfl
    rw [if_neg (by simp)]
    cases hb : readsB fc
    · rw [if_neg (by decide)]
      have h5 := right_five h1
      have h6 := (put_length fc ad qt to xs).2
      refine ⟨(fun e => absurd rfl e), (fun _ e => by cases e), fun _ _ => ?_, ?_⟩
      · split
        · rw [List.length_take]; omega
        · exact h5
      · split
        · rw [List.length_take]; omega
        · exact h6
    · rw [if_pos rfl]
      rw [hb, if_pos rfl] at h3
      have q := right_reads h1 hb
      rw [List.length_append, body_length]
      cases hbb : readsBits fc
      · rw [hbb] at q
        simp at q ⊢
        omega
      · rw [hbb] at q
        simp at q ⊢
        omega
  · rw [if_pos hc]
    exact ⟨fun _ => rfl, fun e => absurd e hc, fun e => absurd e hc, by show 2 ≤ 253; omega⟩
theorem tells_self {fc ad qt to code : Int} {xs ys : List Int} (h : ansR fc ad qt to xs code ys = true) : tellsB fc ad qt to xs (repR fc ad qt to xs code ys) code ys = true := by
  unfold tellsB; rw [h, Bool.true_and, beq_self_eq_true]
/-- What may be answered is got of its bytes as it was. -/
theorem rget_rput {fc ad qt to code : Int} {xs ys : List Int} (h : ansR fc ad qt to xs code ys = true) (hyr : ∀ j : Nat, 0 ≤ ys[j]?.getD 0 ∧ ys[j]?.getD 0 ≤ 65535) :
    rgetR fc ad qt to xs (repR fc ad qt to xs code ys) = (code, ys, if code = 0 then 0 else 52) := by
  obtain ⟨h1, h2, h3⟩ := ans_parts h
  obtain ⟨s, hs, -, -⟩ := right_parts h1
  obtain ⟨f1, f2, f3, f4⟩ := shape_hi hs
  have ht := tells_self h
  have hlen := rep_length h
  unfold rgetR
  rw [if_pos h1]
  by_cases hc : code = 0
  · subst hc
    have h3 := h3 rfl
    have hno : ¬ ((repR fc ad qt to xs 0 ys).length = 2 ∧ hiB ((repR fc ad qt to xs 0 ys).getD 0 0) = true) := by
      cases hb : readsB fc
      · intro e; have := hlen.2.2.1 rfl hb; omega
      · intro e
        have : (repR fc ad qt to xs 0 ys).getD 0 0 = fc % 256 := by unfold repR repL; rw [if_neg (by simp), hb, if_pos rfl]; rfl
        rw [this, f4] at e
        cases e.2
    rw [if_neg hno]
    have hv : takenV (readsB fc) (readsBits fc) qt (repR fc ad qt to xs 0 ys) = ys := by
      unfold takenV
      cases hb : readsB fc
      · rw [hb, if_neg (by decide)] at h3
        rw [if_pos (Or.inl (if_neg (by decide)))]
        exact (List.length_eq_zero_iff.1 (by omega)).symm
      · rw [hb, if_pos rfl] at h3
        have q := right_reads h1 hb
        have hl := hlen.2.1 rfl hb
        rw [if_neg (by rw [if_pos rfl]; split at hl <;> omega)]
        have er : repR fc ad qt to xs 0 ys = [fc % 256, ((bodyL (readsBits fc) ys).length : Int) % 256] ++ bodyL (readsBits fc) ys := by unfold repR repL; rw [if_neg (by simp), hb, if_pos rfl]
        have hqn : qt.toNat = ys.length := by omega
        cases hbb : readsBits fc
        · rw [if_neg (by decide)]
          rw [hbb] at hl
          rw [if_neg (by simp at hl ⊢; omega), hqn, er, hbb]
          have := wordsAt_mid [fc % 256, ((bodyL false ys).length : Int) % 256] [] ys hyr
          rw [List.append_nil] at this
          exact this
        · rw [if_pos rfl, hqn, er, hbb]
          rw [hbb] at h3
          exact unbits_same ys h3.2 (fun j => (hyr j).1)
    rw [hv, if_pos ht]
    rfl
  · obtain ⟨hcr, rfl⟩ := h2 hc
    have er : repR fc ad qt to xs code [] = [orHi (fc % 256), code % 256] := by unfold repR repL; rw [if_pos hc]
    have e0 : (repR fc ad qt to xs code []).getD 0 0 = orHi (fc % 256) := by rw [er]; rfl
    have e1 : (repR fc ad qt to xs code []).getD 1 0 = code := by rw [er]; show code % 256 = code; omega
    rw [if_pos ⟨hlen.1 hc, by rw [e0]; exact f3⟩, e1, if_pos ht, if_neg hc]
/-- What is got of any bytes. -/
theorem rgot_any (fc ad qt to : Int) (xs bs : List Int) :
    ((rgetR fc ad qt to xs bs).2.2 = 51 ∧ (rgetR fc ad qt to xs bs).1 = 0 ∧ (rgetR fc ad qt to xs bs).2.1 = []) ∨
    (ansR fc ad qt to xs (rgetR fc ad qt to xs bs).1 (rgetR fc ad qt to xs bs).2.1 = true ∧ (strOfNums (repR fc ad qt to xs (rgetR fc ad qt to xs bs).1 (rgetR fc ad qt to xs bs).2.1)).toList = (strOfNums bs).toList
      ∧ ((rgetR fc ad qt to xs bs).2.2 = 52 ∧ (rgetR fc ad qt to xs bs).1 ≠ 0 ∨ (rgetR fc ad qt to xs bs).2.2 = 0 ∧ (rgetR fc ad qt to xs bs).1 = 0)) := by
  unfold rgetR
  by_cases h1 : rightB' fc ad qt to xs = true
  · rw [if_pos h1]
    by_cases h2 : bs.length = 2 ∧ hiB (bs.getD 0 0) = true
    · rw [if_pos h2]
      by_cases h3 : tellsB fc ad qt to xs bs (bs.getD 1 0) [] = true
      · rw [if_pos h3]
        unfold tellsB at h3
        rw [Bool.and_eq_true, beq_iff_eq] at h3
        refine .inr ⟨h3.1, h3.2, .inl ⟨rfl, fun hc => ?_⟩⟩
        replace hc : bs.getD 1 0 = 0 := hc
        rw [hc] at h3
        have hl := congrArg List.length h3.2
        rw [strNums_length, strNums_length, h2.1] at hl
        have r := rep_length h3.1
        cases hb : readsB fc
        · have := r.2.2.1 rfl hb; omega
        · have q := right_reads h1 hb
          have := (ans_parts h3.1).2.2 rfl
          rw [hb, if_pos rfl] at this
          have := this.1
          simp at this
          omega
      · rw [if_neg h3]; exact .inl ⟨rfl, rfl, rfl⟩
    · rw [if_neg h2]
      by_cases h3 : tellsB fc ad qt to xs bs 0 (takenV (readsB fc) (readsBits fc) qt bs) = true
      · rw [if_pos h3]
        unfold tellsB at h3
        rw [Bool.and_eq_true, beq_iff_eq] at h3
        exact .inr ⟨h3.1, h3.2, .inr ⟨rfl, rfl⟩⟩
      · rw [if_neg h3]; exact .inl ⟨rfl, rfl, rfl⟩
  · rw [if_neg h1]; exact .inl ⟨rfl, rfl, rfl⟩
theorem rget_range (fc ad qt to : Int) (xs bs : List Int) (hb : ByteL bs) : ∀ j : Nat, 0 ≤ (rgetR fc ad qt to xs bs).2.1[j]?.getD 0 ∧ (rgetR fc ad qt to xs bs).2.1[j]?.getD 0 ≤ 65535 := by
  have h0 : ∀ j : Nat, 0 ≤ ([] : List Int)[j]?.getD 0 ∧ ([] : List Int)[j]?.getD 0 ≤ 65535 := fun j => by simp
  unfold rgetR
  split
  · split
    · split
      · exact h0
      · exact h0
    · split
      · exact takenV_range _ _ _ _ hb
      · exact h0
  · exact h0
theorem rputL_bytes (fc ad qt to : Int) (xs : List Int) (code : Int) (ys : List Int) : ByteL (rputL fc ad qt to xs code ys) := by
  refine rng_of (by omega) (by omega) fun y hy => ?_
  unfold rputL at hy
  by_cases h : ansR fc ad qt to xs code ys = true
  · rw [if_pos h] at hy
    obtain ⟨h1, h2, h3⟩ := ans_parts h
    obtain ⟨s, hs, -, -⟩ := right_parts h1
    obtain ⟨f1, f2, -, -⟩ := shape_hi hs
    have hfc : 1 ≤ fc ∧ fc ≤ 23 := by rcases shape_cases hs with ⟨rfl | rfl, _⟩ | ⟨rfl | rfl, _⟩ | ⟨rfl, _⟩ | ⟨rfl, _⟩ | ⟨rfl, _⟩ | ⟨rfl, _⟩ | ⟨rfl, _⟩ | ⟨rfl, _⟩ <;> decide
    have hp := putL_bytes fc ad qt to xs
    have hpm : ∀ y ∈ putL fc ad qt to xs, 0 ≤ y ∧ y ≤ 255 := fun y hy => by
      obtain ⟨j, hj, rfl⟩ := List.getElem_of_mem hy
      have := hp j
      rw [List.getElem?_eq_getElem hj] at this
      exact this
    unfold repR repL at hy
    split at hy
    · rw [f2] at hy
      simp only [List.mem_cons, List.not_mem_nil, or_false] at hy
      rcases hy with rfl | rfl <;> omega
    split at hy
    · rcases List.mem_append.1 hy with hy | hy
      · simp only [List.mem_cons, List.not_mem_nil, or_false] at hy
        rcases hy with rfl | rfl <;> omega
      · unfold bodyL at hy
        split at hy
        · exact bitsL_bytes _ _ hy
        · exact wordsL_bytes _ _ hy
    split at hy
    · exact hpm y (List.mem_of_mem_take hy)
    · exact hpm y hy
  · rw [if_neg h] at hy; cases hy
/-- How long an answer's bytes are, that are of a request that writes; and with what each begins. -/
theorem rep_writes {fc ad qt to : Int} {xs ys : List Int} (h : ansR fc ad qt to xs 0 ys = true) (hb : readsB fc = false) : (repR fc ad qt to xs 0 ys).length = if fc = 22 then 7 else 5 := by
  obtain ⟨h1, h2, h3⟩ := ans_parts h
  obtain ⟨s, hs, g1, g2⟩ := right_parts h1
  obtain ⟨k1, k2⟩ := kinds_of hs
  have h5 := right_five h1
  unfold repR repL
  rw [if_neg (by simp), hb, if_neg (by decide)]
  have hput : putL fc ad qt to xs = codedL s fc ad qt to xs := by unfold putL; rw [hs]; dsimp only; rw [g1, g2, Bool.and_self, if_pos rfl]
  obtain ⟨-, -, ⟨q0, q1⟩, -, -, f0, f1, f2, f3⟩ := holds_parts g1
  have hl := codedL_length s fc ad qt to xs
  rw [← hput] at hl
  rw [k1] at hb
  rcases shape_cases hs with ⟨e, rfl⟩ | ⟨e, rfl⟩ | ⟨e, rfl⟩ | ⟨e, rfl⟩ | ⟨e, rfl⟩ | ⟨e, rfl⟩ | ⟨e, rfl⟩ | ⟨e, rfl⟩
  · exact absurd hb (by decide)
  · exact absurd hb (by decide)
  · subst e; simp [lenOf] at hl ⊢; omega
  · subst e; have := (f1 rfl).1; simp [lenOf] at hl this ⊢; omega
  · subst e; rw [if_pos (.inl rfl), List.length_take]; simp; omega
  · subst e; rw [if_pos (.inr rfl), List.length_take]; simp; omega
  · subst e; have := (f1 rfl).1; simp [lenOf] at hl this ⊢; omega
  · exact absurd hb (by decide)
theorem rep_first {fc ad qt to : Int} {xs ys : List Int} (h : ansR fc ad qt to xs 0 ys = true) : (repR fc ad qt to xs 0 ys).getD 0 0 = fc := by
  obtain ⟨h1, h2, h3⟩ := ans_parts h
  obtain ⟨s, hs, g1, g2⟩ := right_parts h1
  obtain ⟨f, -, -, -⟩ := shape_hi hs
  have hput : putL fc ad qt to xs = codedL s fc ad qt to xs := by unfold putL; rw [hs]; dsimp only; rw [g1, g2, Bool.and_self, if_pos rfl]
  have hp : ∀ T, (([fc % 256] ++ T) : List Int).getD 0 0 = fc := fun T => f
  unfold repR repL
  rw [if_neg (by simp)]
  split
  · exact f
  split
  · rw [hput, codedL_tail]; exact f
  · rw [hput, codedL_tail]; exact f
end Go.Proofs.Ytgagpalffdgjnaa
namespace Go.Proofs.Ytgagpalffdgjnaa
open Go.RowKit

set_option maxRecDepth 100000 in
set_option maxHeartbeats 3200000 in
theorem ref05Right_any (fc ad qt to code : Int) (A A2 : Option Addr) (n c n2 c2 : Nat) (xs ys : List Int) (w : World) (hx : RdI w w.heap.size .u16 A n xs) (hy : RdI w w.heap.size .u16 A2 n2 ys) (hn : n ≤ maxLen) (hn2 : n2 ≤ maxLen) :
    Calls Try.prog 20 #[.agg #[.int .i64 fc, .int .i64 ad, .int .i64 qt, .slice A n c, .int .i64 to], .agg #[.int .i64 code, .slice A2 n2 c2]] w fun e w' => e = .returned (.bool (ansR fc ad qt to xs code ys)) ∧ Ext w w' := by
  have E0 := ((Ext.refl w).goA (.cells #[.int .i64 fc, .int .i64 ad, .int .i64 qt, .slice A n c, .int .i64 to] 30)).goA (.cells #[.int .i64 code, .slice A2 n2 c2] 54)
  have bq : ∀ w', Ext ((w.alloc (.cells #[.int .i64 fc, .int .i64 ad, .int .i64 qt, .slice A n c, .int .i64 to] 30)).alloc (.cells #[.int .i64 code, .slice A2 n2 c2] 54)) w' → ∀ o, w'.cell? ⟨w.heap.size, o, none⟩ = _ := fun w' D => cellsAt ((D.block w.heap.size (by simp; omega)).trans (show ((w.alloc (.cells #[.int .i64 fc, .int .i64 ad, .int .i64 qt, .slice A n c, .int .i64 to] 30)).alloc (.cells #[.int .i64 code, .slice A2 n2 c2] 54)).heap[w.heap.size]? = some (.cells #[.int .i64 fc, .int .i64 ad, .int .i64 qt, .slice A n c, .int .i64 to] 30 (0, 0)) by rw [alloc_get, if_neg (by simp), alloc_get, if_pos rfl]))
  have bp : ∀ w', Ext ((w.alloc (.cells #[.int .i64 fc, .int .i64 ad, .int .i64 qt, .slice A n c, .int .i64 to] 30)).alloc (.cells #[.int .i64 code, .slice A2 n2 c2] 54)) w' → ∀ o, w'.cell? ⟨w.heap.size + 1, o, none⟩ = _ := fun w' D => cellsAt ((D.block (w.heap.size + 1) (by simp)).trans (show ((w.alloc (.cells #[.int .i64 fc, .int .i64 ad, .int .i64 qt, .slice A n c, .int .i64 to] 30)).alloc (.cells #[.int .i64 code, .slice A2 n2 c2] 54)).heap[w.heap.size + 1]? = some (.cells #[.int .i64 code, .slice A2 n2 c2] 54 (0, 0)) by rw [alloc_get, if_pos (by simp)]))
  have bq' := Lib.hid bq
  have bp' := Lib.hid bp
  have hx' := Lib.hid hx
  have hy' := Lib.hid hy
  have hl := hy.len
  have hl' := Lib.hid hl
  have nm2 : n2 ≤ 9223372036854775807 := by unfold maxLen at hn2; omega
  unfold ansR ansB
  clear bq bp hx hy hl
  cases hq : rightB' fc ad qt to xs
  · rw [Bool.false_and]
    have hq' := Lib.hid hq
    clear hq
    go_enter Try.func20, Try.ntmps20
    go_wp2_with fail
    refine (refRight_any fc ad qt to A n c xs _ (hx'.out.ext E0) hn).mono ?_
    rw [hq'.out]
    rintro e w1 ⟨rfl, D1⟩
    go_wp2_with fail
    go_ret
    exact ⟨rfl, E0.go D1⟩
  · rw [Bool.true_and]
    have hq' := Lib.hid hq
    clear hq
    by_cases hc : code = 0
    · have t1 : (code != 0) = false := by simp; exact hc
      rw [if_neg (by simpa using hc)]
      cases hrd : readsB fc
      · have hrd' := Lib.hid hrd
        have hz : (((ys.length : Int) == (if false = true then qt else 0)) && valuesB (readsBits fc) ys) = ((n2 : Int) == 0) := by
          rw [if_neg (by decide), hl'.out]
          rw [Bool.eq_iff_iff]
          simp only [Bool.and_eq_true, beq_iff_eq]
          constructor
          · exact fun h => h.1
          · intro h
            have : ys = [] := List.length_eq_zero_iff.1 (by have := hl'.out; omega)
            subst this
            exact ⟨h, by unfold valuesB; simp⟩
        rw [hz]
        clear hrd hz hc
        go_enter Try.func20, Try.ntmps20
        go_wp2_with fail
        refine (refRight_any fc ad qt to A n c xs _ (hx'.out.ext E0) hn).mono ?_
        rw [hq'.out]
        rintro e w1 ⟨rfl, D1⟩
        have q1 := bq'.out w1 D1
        have p1 := bp'.out w1 D1
        go_wp2_with fail
        refine (refReads_any fc _).mono ?_
        rw [hrd'.out]
        rintro e w2 ⟨rfl, rfl⟩
        go_wp2_with fail
        go_ret
        exact ⟨rfl, E0.go D1⟩
      · have hrd' := Lib.hid hrd
        rw [if_pos rfl]
        generalize hV : (((ys.length : Int) == qt) && valuesB (readsBits fc) ys) = V
        have hV' := Lib.hid hV
        clear hrd hc hV
        go_enter Try.func20, Try.ntmps20
        go_wp2_with fail
        refine (refRight_any fc ad qt to A n c xs _ (hx'.out.ext E0) hn).mono ?_
        rw [hq'.out]
        rintro e w1 ⟨rfl, D1⟩
        have q1 := bq'.out w1 D1
        have p1 := bp'.out w1 D1
        have y1 := Lib.hid (hy'.out.ext (E0.go D1))
        have E1 := E0.go D1
        go_wp2_with fail
        refine (refReads_any fc _).mono ?_
        rw [hrd'.out]
        rintro e w2 ⟨rfl, rfl⟩
        cases hbb : readsBits fc
        · rw [hbb] at hV'
          have hV2 : V = ((n2 : Int) == qt) := by rw [← hV'.out, hl'.out]; unfold valuesB; simp
          have hV2' := Lib.hid hV2
          clear hV2 hV' hbb
          go_wp2_with fail
          go_loop [7] (fun i => ∃ k : Nat, k ≤ n2 ∧ i = .int .i64 k) (fun i => n2 - (intOf i).toNat)
          case atStart => exact ⟨0, by omega, rfl⟩
          case round =>
            obtain ⟨k, hk, rfl⟩ := hrel
            by_cases hlt : k < n2
            · go_wp2_with fail
              go_round
              case rel => exact ⟨k + 1, by omega, by go_num⟩
              case measure => simp [intOf]; omega
            · obtain rfl : k = n2 := by omega
              go_wp2_with fail
              go_ret
              exact ⟨by rw [hV2'.out]; rfl, E1⟩
        · rw [hbb] at hV'
          clear hbb
          go_wp2_with fail
          go_loopw [7] (fun i wr => ∃ k m : Nat, k ≤ n2 ∧ i = .int .i64 k ∧ wr = w1.drewN m ∧ ∀ j, j < k → ys.getD j 0 ≤ 1) (fun i _ => n2 - (intOf i).toNat)
          case atStart => exact ⟨0, 0, by omega, rfl, rfl, fun j hj => absurd hj (by omega)⟩
          case round =>
            obtain ⟨k, m, hk, rfl, rfl, hz⟩ := hrel
            have hz' := Lib.hid hz
            clear hz
            by_cases hlt : k < n2
            · obtain ⟨b, o, rfl, hb, hc⟩ := y1.out.at_ hlt
              by_cases h1 : ys[k]?.getD 0 ≤ 1
              · have t5 : decide (1 < ys[k]?.getD 0) = false := by simp; omega
                go_wp2_with fail
                go_roundw
                case rel =>
                  refine ⟨k + 1, m, by omega, by go_num, rfl, fun j hj => ?_⟩
                  rcases Nat.lt_succ_iff_lt_or_eq.1 hj with h | rfl
                  · exact hz'.out j h
                  · rw [List.getD_eq_getElem?_getD]; exact h1
                case measure => simp [intOf]; omega
              · have hv : V = false := by
                  have hk' : k < ys.length := by rw [hl'.out]; exact hlt
                  rw [← hV'.out, Bool.and_eq_false_iff]
                  right
                  unfold valuesB
                  simp only [Bool.not_true, Bool.false_or]
                  rw [List.all_eq_false]
                  refine ⟨ys[k]'hk', List.getElem_mem _, ?_⟩
                  rw [List.getElem?_eq_getElem hk'] at h1
                  simpa using h1
                have hv' := Lib.hid hv
                have t5 : decide (1 < ys[k]?.getD 0) = true := by simp; omega
                clear hv
                go_wp2_with fail
                go_ret
                exact ⟨by rw [hv'.out]; rfl, E1.goD m⟩
            · obtain rfl : k = n2 := by omega
              have hv : V = ((k : Int) == qt) := by
                rw [← hV'.out, hl'.out]
                have : valuesB true ys = true := by
                  unfold valuesB
                  simp only [Bool.not_true, Bool.false_or, List.all_eq_true, decide_eq_true_eq]
                  intro x hx'
                  obtain ⟨j, hj, rfl⟩ := List.getElem_of_mem hx'
                  have := hz'.out j (by rw [← hl'.out]; exact hj)
                  rwa [List.getD_eq_getElem?_getD, List.getElem?_eq_getElem hj] at this
                rw [this, Bool.and_true]
              have hv' := Lib.hid hv
              clear hv
              go_wp2_with fail
              go_ret
              exact ⟨by rw [hv'.out]; rfl, E1.goD m⟩
    · have t1 : (code != 0) = true := by simp; exact hc
      rw [if_pos (by simpa using hc)]
      have hz : (excB code && (ys.length == 0)) = (decide (1 ≤ code) && (decide (code ≤ 4) && ((n2 : Int) == 0))) := by
        unfold excB
        rw [hl'.out, Bool.and_assoc]
        congr 2
        rw [Bool.eq_iff_iff]
        simp
      rw [hz]
      clear hz hc
      cases h1 : decide (1 ≤ code)
      all_goals
        cases h2 : decide (code ≤ 4)
        all_goals
          go_enter Try.func20, Try.ntmps20
          go_wp2_with fail
          refine (refRight_any fc ad qt to A n c xs _ (hx'.out.ext E0) hn).mono ?_
          rw [hq'.out]
          rintro e w1 ⟨rfl, D1⟩
          have p1 := bp'.out w1 D1
          go_wp2_with fail
          go_ret
          exact ⟨rfl, E0.go D1⟩
end Go.Proofs.Ytgagpalffdgjnaa
namespace Go.Proofs.Ytgagpalffdgjnaa
open Go.RowKit

theorem RdI.cutTo {w : World} {B n : Nat} {k : IntKind} {A : Option Addr} {xs : List Int} (h : RdI w B k A n xs) {m : Nat} (hm : m ≤ n) : RdI w B k A m (xs.take m) :=
  ⟨by rw [List.length_take, h.1]; omega, fun hn => by
    obtain ⟨b, o, e, hb, hc⟩ := h.2 (by omega)
    exact ⟨b, o, e, hb, fun j hj => by rw [hc j (by omega), List.getD_eq_getElem?_getD, List.getD_eq_getElem?_getD, List.getElem?_take_of_lt hj]⟩⟩
set_option maxRecDepth 100000 in
set_option maxHeartbeats 6400000 in
theorem ref05Put_any (fc ad qt to code : Int) (A A2 : Option Addr) (n c n2 c2 : Nat) (xs ys : List Int) (w : World) (hx : RdI w w.heap.size .u16 A n xs) (hr : ∀ j : Nat, 0 ≤ xs[j]?.getD 0 ∧ xs[j]?.getD 0 ≤ 65535) (hn : n ≤ maxLen)
    (hy : RdI w w.heap.size .u16 A2 n2 ys) (hyr : ∀ j : Nat, 0 ≤ ys[j]?.getD 0 ∧ ys[j]?.getD 0 ≤ 65535) (hn2 : n2 ≤ maxLen) :
    Calls Try.prog 40 #[.agg #[.int .i64 fc, .int .i64 ad, .int .i64 qt, .slice A n c, .int .i64 to], .agg #[.int .i64 code, .slice A2 n2 c2]] w (RetI .u8 (rputL fc ad qt to xs code ys) w) := by
  have E0 := ((Ext.refl w).goA (.cells #[.int .i64 fc, .int .i64 ad, .int .i64 qt, .slice A n c, .int .i64 to] 30)).goA (.cells #[.int .i64 code, .slice A2 n2 c2] 54)
  have bq : ∀ w', Ext ((w.alloc (.cells #[.int .i64 fc, .int .i64 ad, .int .i64 qt, .slice A n c, .int .i64 to] 30)).alloc (.cells #[.int .i64 code, .slice A2 n2 c2] 54)) w' → ∀ o, w'.cell? ⟨w.heap.size, o, none⟩ = _ := fun w' D => cellsAt ((D.block w.heap.size (by simp; omega)).trans (show ((w.alloc (.cells #[.int .i64 fc, .int .i64 ad, .int .i64 qt, .slice A n c, .int .i64 to] 30)).alloc (.cells #[.int .i64 code, .slice A2 n2 c2] 54)).heap[w.heap.size]? = some (.cells #[.int .i64 fc, .int .i64 ad, .int .i64 qt, .slice A n c, .int .i64 to] 30 (0, 0)) by rw [alloc_get, if_neg (by simp), alloc_get, if_pos rfl]))
  have bp : ∀ w', Ext ((w.alloc (.cells #[.int .i64 fc, .int .i64 ad, .int .i64 qt, .slice A n c, .int .i64 to] 30)).alloc (.cells #[.int .i64 code, .slice A2 n2 c2] 54)) w' → ∀ o, w'.cell? ⟨w.heap.size + 1, o, none⟩ = _ := fun w' D => cellsAt ((D.block (w.heap.size + 1) (by simp)).trans (show ((w.alloc (.cells #[.int .i64 fc, .int .i64 ad, .int .i64 qt, .slice A n c, .int .i64 to] 30)).alloc (.cells #[.int .i64 code, .slice A2 n2 c2] 54)).heap[w.heap.size + 1]? = some (.cells #[.int .i64 code, .slice A2 n2 c2] 54 (0, 0)) by rw [alloc_get, if_pos (by simp)]))
  have bq' := Lib.hid bq
  have bp' := Lib.hid bp
  have hx' := Lib.hid hx
  have hy' := Lib.hid hy
  have hr' := Lib.hid hr
  have hyr' := Lib.hid hyr
  have hl' := Lib.hid hy.len
  have hright := Lib.hid (fun w' (E : Ext w w') => ref05Right_any fc ad qt to code A A2 n c n2 c2 xs ys w' (hx.ext E) (hy.ext E) hn hn2)
  clear bq bp hx hy hr hyr
  cases ha : ansR fc ad qt to xs code ys
  · have hL : rputL fc ad qt to xs code ys = [] := if_neg (by rw [ha]; decide)
    rw [hL]
    have ha' := Lib.hid ha
    clear hL ha
    go_enter Try.func40, Try.ntmps40
    go_wp2_with fail
    refine (hright.out _ E0).mono ?_
    rw [ha'.out]
    rintro e w1 ⟨rfl, D1⟩
    go_wp2_with fail
    go_ret
    exact ⟨_, _, _, rfl, Nat.le_refl _, by decide, RdI.nil _, E0.go D1⟩
  · have hL : rputL fc ad qt to xs code ys = repR fc ad qt to xs code ys := if_pos ha
    rw [hL]
    obtain ⟨a1, a2, a3⟩ := ans_parts ha
    obtain ⟨s, hs, -, -⟩ := right_parts a1
    obtain ⟨f1, f2, -, -⟩ := shape_hi hs
    have hfc : 1 ≤ fc ∧ fc ≤ 23 := by rcases shape_cases hs with ⟨rfl | rfl, _⟩ | ⟨rfl | rfl, _⟩ | ⟨rfl, _⟩ | ⟨rfl, _⟩ | ⟨rfl, _⟩ | ⟨rfl, _⟩ | ⟨rfl, _⟩ | ⟨rfl, _⟩ <;> decide
    have hwr := fun hb => rep_writes (fc := fc) (ad := ad) (qt := qt) (to := to) (xs := xs) (ys := ys) hb
    have hrr := fun hb => right_reads a1 hb
    have h5 := right_five a1
    have hput := (put_length fc ad qt to xs).2
    have ha' := Lib.hid ha
    have u1 : IntKind.i64.wrap (fc + 128) = fc + 128 := by rw [IntKind.wrap_i64]; omega
    have u2 : IntKind.u8.wrap (fc + 128) = fc + 128 := by rw [IntKind.wrap_u8]; omega
    have u3 : IntKind.u8.wrap fc = fc := by rw [IntKind.wrap_u8]; omega
    clear hwr ha hs
    by_cases hc : code = 0
    · subst hc
      have a3 := a3 rfl
      have hrep : repR fc ad qt to xs 0 ys = if readsB fc = true then [fc, ((bodyL (readsBits fc) ys).length : Int) % 256] ++ bodyL (readsBits fc) ys else if fc = 15 ∨ fc = 16 then (putL fc ad qt to xs).take 5 else putL fc ad qt to xs := by
        unfold repR repL
        rw [if_neg (by simp), f1]
      rw [hrep]
      clear hrep a1 a2 hL
      cases hrd : readsB fc
      · rw [if_neg (by decide)]
        have hrd' := Lib.hid hrd
        clear a3 hrd hrr f1 f2
        generalize hP : (if fc = 15 ∨ fc = 16 then (putL fc ad qt to xs).take 5 else putL fc ad qt to xs) = P
        have hP' := Lib.hid hP
        clear hP
        go_enter Try.func40, Try.ntmps40
        go_wp2_with fail
        refine (hright.out _ E0).mono ?_
        rw [ha'.out]
        rintro e w1 ⟨rfl, D1⟩
        have q1 := bq'.out w1 D1
        have p1 := bp'.out w1 D1
        have E1 := E0.go D1
        go_wp2_with fail
        refine (refReads_any fc _).mono ?_
        rw [hrd'.out]
        rintro e w2 ⟨rfl, rfl⟩
        go_wp2_with fail
        refine (refPut_any fc ad qt to A n c xs _ (hx'.out.ext E1) hr'.out hn).mono ?_
        rintro e w3 ⟨A3, n3, c3, rfl, g3, g3', r3, D3⟩
        have q3 := bq'.out w3 (D1.go D3)
        have E3 := E1.go D3
        have l3 := r3.len
        have r3' := Lib.hid r3
        clear q1 p1 r3
        by_cases h15 : fc = 15 ∨ fc = 16
        · have hz : P = (putL fc ad qt to xs).take 5 := by rw [← hP'.out, if_pos h15]
          subst hz
          have hn5 : 5 ≤ n3 := by omega
          have hc5 : 5 ≤ c3 := by omega
          have hcut := Lib.hid (r3'.out.cutTo hn5)
          rcases h15 with rfl | rfl
          all_goals
            have hown := own_empty (w := w3) (base := w3.heap.size) (g := w3.heap.size) 5 .u8 rfl (Nat.le_refl _)
            have hown' := Lib.hid hown
            have hcut2 := Lib.hid (hcut.out.alloc (Nat.le_refl _) (.cells #[] 5))
            clear hown l3
            go_wp2_with (at_builtin; refine wpList_appI rfl (.tmp 57) (.tmp 59) _ rfl Try.underlying34 info_u8 hown'.out rfl hcut2.out rfl (by omega) (by omega) (by simp) ?_; intro v5 w5 own5 hg5 hat5)
            go_ret
            obtain ⟨A', c', rfl, ⟨hc1, hc2⟩, r⟩ := own_rd own5
            exact ⟨A', _, c', rfl, hc1, hc2, by simpa using r, (E3.goA _).goG hg5 (fun k hk => by have := (hown'.out.lt k hk).1; have := E3.size; omega)⟩
        · have hz : P = putL fc ad qt to xs := by rw [← hP'.out, if_neg h15]
          subst hz
          have e15 : (fc == 15) = false := by simp; omega
          have e16 : (fc == 16) = false := by simp; omega
          clear h15
          go_wp2_with fail
          go_ret
          exact ⟨_, _, _, rfl, g3, g3', r3'.out, E3⟩
      · rw [if_pos rfl]
        have hq := hrr hrd
        have hrd' := Lib.hid hrd
        have hql := a3.1
        rw [hrd, if_pos rfl] at hql
        have hys : n2 ≤ 2000 := by have := hl'.out; split at hq <;> omega
        clear a3 hrr f1 f2 hput h5
        go_enter Try.func40, Try.ntmps40
        go_wp2_with fail
        refine (hright.out _ E0).mono ?_
        rw [ha'.out]
        rintro e w1 ⟨rfl, D1⟩
        have q1 := bq'.out w1 D1
        have p1 := bp'.out w1 D1
        have E1 := E0.go D1
        clear hrd
        go_wp2_with fail
        refine (refReads_any fc _).mono ?_
        rw [hrd'.out]
        rintro e w2 ⟨rfl, rfl⟩
        go_wp2_with fail
        refine (refWords_any A2 n2 c2 _ ys _ (hy'.out.ext E1) (Nat.le_refl _) hyr'.out (by omega)).mono ?_
        rintro e w3 ⟨A3, n3, c3, rfl, g3, g3', r3, D3, -⟩
        have q3 := bq'.out w3 (D1.go D3)
        have p3 := bp'.out w3 (D1.go D3)
        have E3 := E1.go D3
        have l3 := r3.len
        rw [wordsL_length, hl'.out] at l3
        have r3' := Lib.hid r3
        clear q1 p1 r3
        cases hbb : readsBits fc
        · have hq2 : qt ≤ 125 := by rw [hbb, if_neg (by decide)] at hq; exact hq.2
          have hbody : bodyL (readsBits fc) ys = wordsL ys := by unfold bodyL; rw [hbb, if_neg (by decide)]
          have hblen : ((wordsL ys).length : Int) % 256 = (n3 : Int) := by have := r3'.out.len; have := hl'.out; omega
          clear hbb
          have own4 : (w3.alloc (.cells #[.int .u8 fc, .int .u8 (n3 : Int)] 5)).ownsRow w3.heap.size 5 1 (.slice (some ⟨w3.heap.size, 0, none⟩) 2 2) 2 (([fc, (n3 : Int)]).map (Value.int .u8)) := (Blk.new w3 5 .u8 [fc, (n3 : Int)]).own (Nat.le_refl _) rfl (by omega)
          have own4' := Lib.hid own4
          have r5' := Lib.hid (r3'.out.alloc (Nat.le_refl _) (.cells #[.int .u8 fc, .int .u8 (n3 : Int)] 5))
          have v1 : IntKind.u8.wrap (n3 : Int) = n3 := by rw [IntKind.wrap_u8]; omega
          have v2 : (n3 : Int) % 256 = n3 := by omega
          clear own4 l3
          go_wp2_with (at_builtin; refine wpList_appI rfl (.tmp 44) (.tmp 45) _ rfl Try.underlying34 info_u8 own4'.out rfl r5'.out rfl (by omega) (by omega) (by simp) ?_; intro v5 w5 own5 hg5 hat5)
          go_ret
          obtain ⟨A', c', rfl, ⟨hc1, hc2⟩, r⟩ := own_rd own5
          refine ⟨A', _, c', rfl, hc1, hc2, ?_, (E3.goA _).goG hg5 (fun k hk => by have := (own4'.out.lt k hk).1; have := E3.size; omega)⟩
          rw [hbody, hblen]
          exact r
        · have hq2 := hq.2
          have hbody : bodyL (readsBits fc) ys = bitsL ys := by unfold bodyL; rw [hbb, if_pos rfl]
          clear hbb
          go_wp2_with fail
          refine (refBits_any A2 n2 c2 _ ys _ (hy'.out.ext E3) (Nat.le_refl _) (by omega)).mono ?_
          rintro e w4 ⟨rfl, b4, D4⟩
          have q4 := bq'.out w4 ((D1.go D3).go D4)
          have E4 := E3.go D4
          have r4 := b4.rd b4.lt
          have lb : (bitsL ys).length = (n2 + 7) / 8 := by rw [← hl'.out]; exact bitsTo_length _ _
          rw [lb] at r4
          have r4' := Lib.hid r4
          have hblen : ((bitsL ys).length : Int) % 256 = (((n2 + 7) / 8 : Nat) : Int) := by omega
          have lb' := Lib.hid lb
          clear b4 r4 q3 p3 lb
          generalize hnb : (n2 + 7) / 8 = nb at *
          have hnb' : nb ≤ 250 := by omega
          clear hnb
          have own4 : (w4.alloc (.cells #[.int .u8 fc, .int .u8 (nb : Int)] 5)).ownsRow w4.heap.size 5 1 (.slice (some ⟨w4.heap.size, 0, none⟩) 2 2) 2 (([fc, (nb : Int)]).map (Value.int .u8)) := (Blk.new w4 5 .u8 [fc, (nb : Int)]).own (Nat.le_refl _) rfl (by omega)
          have own4' := Lib.hid own4
          have r5' := Lib.hid (r4'.out.alloc (Nat.le_refl _) (.cells #[.int .u8 fc, .int .u8 (nb : Int)] 5))
          have v1 : IntKind.u8.wrap (nb : Int) = nb := by rw [IntKind.wrap_u8]; omega
          have v2 : (nb : Int) % 256 = nb := by omega
          clear own4 l3
          go_wp2_with (at_builtin; refine wpList_appI rfl (.tmp 44) (.tmp 45) _ rfl Try.underlying34 info_u8 own4'.out rfl r5'.out rfl (by omega) (by omega) (by simp) ?_; intro v5 w5 own5 hg5 hat5)
          go_ret
          obtain ⟨A', c', rfl, ⟨hc1, hc2⟩, r⟩ := own_rd own5
          refine ⟨A', _, c', rfl, hc1, hc2, ?_, (E4.goA _).goG hg5 (fun k hk => by have := (own4'.out.lt k hk).1; have := E4.size; omega)⟩
          rw [hbody, hblen]
          exact r
    · obtain ⟨hcr, rfl⟩ := a2 hc
      have hrep : repR fc ad qt to xs code [] = [fc + 128, code] := by
        unfold repR repL
        rw [if_pos hc, f2, show code % 256 = code by omega]
      rw [hrep]
      have t1 : (code != 0) = true := by simp; exact hc
      have u4 : IntKind.u8.wrap code = code := by rw [IntKind.wrap_u8]; omega
      have u5 : (fc + 128) % 256 = fc + 128 := by omega
      have u6 : code % 256 = code := by omega
      clear hrep a1 a2 a3 hL f1 f2 hrr h5 hput hc
      go_enter Try.func40, Try.ntmps40
      go_wp2_with fail
      refine (hright.out _ E0).mono ?_
      rw [ha'.out]
      rintro e w1 ⟨rfl, D1⟩
      have q1 := bq'.out w1 D1
      have p1 := bp'.out w1 D1
      have E1 := E0.go D1
      go_wp2_with fail
      go_ret
      refine ⟨_, _, _, rfl, Nat.le_refl _, by decide, ?_, E1.goA _⟩
      rw [alloc_size]
      exact RdI.new [fc + 128, code] rfl rfl rfl
end Go.Proofs.Ytgagpalffdgjnaa
