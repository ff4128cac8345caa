
/- Layer 5, the walks: an answer's bytes. -/
import Derived.Test.YtgeahfkhfpdlhaaReplyC
import Derived.Test.YtgeahfkhfpdlhaaPduPut
namespace Go.Proofs.Ytgeahfkhfpdlhaa
open Go.RowKit

def orHi (x : Int) : Int := bits .or .u8 x 128
/-- The bytes of an answer that may be. -/
def repL (fc ad qt to : Int) (xs : List Int) (r b : Bool) (code : Int) (ys : List Int) : List Int :=
  if code ≠ 0 then [orHi (fc % 256), code % 256] else if r then [fc % 256, ((bodyL b ys).length : Int) % 256] ++ bodyL b ys
  else if fc = 15 ∨ fc = 16 then (putL fc ad qt to xs).take 5 else putL fc ad qt to xs

theorem RdI.take {w : World} {B n m : Nat} {k : IntKind} {A : Option Addr} {xs : List Int} (h : RdI w B k A n xs) (hm : m ≤ n) : RdI w B k A m (xs.take m) :=
  ⟨by rw [List.length_take, h.len]; omega, fun h0 => by
    obtain ⟨b, o, e, hb, hc⟩ := h.2 (by omega)
    exact ⟨b, o, e, hb, fun j hj => by rw [List.getD_eq_getElem?_getD, List.getElem?_take, if_pos hj, ← List.getD_eq_getElem?_getD]; exact hc j (by omega)⟩⟩
set_option maxRecDepth 100000 in
set_option maxHeartbeats 1600000 in
theorem coded05_exc (fc ad qt to code : Int) (A A2 : Option Addr) (n c n2 c2 : Nat) (r b : Bool) (w : World) (h : code ≠ 0) :
    Calls Try.prog 97 #[.agg #[.int .i64 fc, .int .i64 ad, .int .i64 qt, .slice A n c, .int .i64 to, .bool r, .bool b, .int .i64 code, .slice A2 n2 c2]] w (RetI .u8 [orHi (fc % 256), code % 256] w) := by
  have E0 := (Ext.refl w).goA (.cells #[.int .i64 fc, .int .i64 ad, .int .i64 qt, .slice A n c, .int .i64 to, .bool r, .bool b, .int .i64 code, .slice A2 n2 c2] 140)
  have t1 : (code != 0) = true := by simp; exact h
  have t2 : (code == 0) = false := by simp; exact h
  have e1 : ∀ x, bits .or .u8 x 128 = orHi x := fun _ => rfl
  clear h
  go_enter Try.func97, Try.ntmps97
  go_wp2_with fail
  go_ret
  refine ⟨_, _, _, rfl, Nat.le_refl _, by decide, ?_, E0.goA _⟩
  have := RdI.new (w := w.alloc (.cells #[.int .i64 fc, .int .i64 ad, .int .i64 qt, .slice A n c, .int .i64 to, .bool r, .bool b, .int .i64 code, .slice A2 n2 c2] 140)) (g := w.heap.size + 1) (e := 5) (k := .u8) [orHi (fc % 256), code % 256] (by simp) rfl rfl
  rw [alloc_size, alloc_size]
  exact this
set_option maxRecDepth 100000 in
set_option maxHeartbeats 3200000 in
theorem coded05_reads (fc ad qt to : Int) (A A2 : Option Addr) (n c n2 c2 : Nat) (b : Bool) (ys : List Int) (w : World) (hy : RdI w w.heap.size .u16 A2 n2 ys) (hyr : ∀ j : Nat, 0 ≤ ys[j]?.getD 0 ∧ ys[j]?.getD 0 ≤ 65535) (hn2 : n2 ≤ 3000) :
    Calls Try.prog 97 #[.agg #[.int .i64 fc, .int .i64 ad, .int .i64 qt, .slice A n c, .int .i64 to, .bool true, .bool b, .int .i64 0, .slice A2 n2 c2]] w (RetI .u8 ([fc % 256, ((bodyL b ys).length : Int) % 256] ++ bodyL b ys) w) := by
  have bx := fun w' (D : Ext (w.alloc (.cells #[.int .i64 fc, .int .i64 ad, .int .i64 qt, .slice A n c, .int .i64 to, .bool true, .bool b, .int .i64 0, .slice A2 n2 c2] 140)) w') => cellsAt ((D.block w.heap.size (by simp)).trans (heap_alloc_new w _))
  have bx' := Lib.hid bx
  have E0 := (Ext.refl w).goA (.cells #[.int .i64 fc, .int .i64 ad, .int .i64 qt, .slice A n c, .int .i64 to, .bool true, .bool b, .int .i64 0, .slice A2 n2 c2] 140)
  have hy' := Lib.hid hy
  have hyr' := Lib.hid hyr
  have hlb : (bodyL b ys).length ≤ 6000 := by
    have := hy.len
    unfold bodyL
    cases b
    · simp [wordsL_length]; omega
    · have e : (bitsL ys).length = (ys.length + 7) / 8 := bitsTo_length _ _
      simp [e]; omega
  clear bx hy hyr
  go_enter Try.func97, Try.ntmps97
  go_wp2_with fail
  refine (body_any fc ad qt to 0 A A2 n c n2 c2 true b ys _ (hy'.out.ext E0) hyr'.out hn2).mono ?_
  rintro e w1 ⟨A3, n3, c3, rfl, g1, g2, r1, D1⟩
  have b1 := bx'.out w1 D1
  have l1 := r1.len
  have l1' := Lib.hid l1
  rw [l1] at hlb
  have E1 := E0.go D1
  have r1' := Lib.hid r1
  clear r1 l1
  have bk := Blk.new w1 5 .u8 [fc % 256, (n3 : Int) % 256]
  have own := bk.own (n := 2) (base := w1.heap.size) (Nat.le_refl _) rfl (by decide)
  have own' := Lib.hid own
  clear own bk
  go_wp2_with (at_builtin; refine wpList_appI rfl (.tmp 33) (.tmp 34) _ rfl Try.underlying33 info_u8 own'.out rfl (r1'.out.alloc (Nat.le_refl _) _) rfl (by omega) (by omega) (by simp) ?_)
  intro v2 w2 own2 hg2 _
  have e2 : Ext w1 w2 := ((Ext.refl _).goA _).goG hg2 (fun k hk => (own'.out.lt k hk).1)
  replace own2 : w2.ownsRow w1.heap.size 5 1 v2 (2 + n3) (([fc % 256, (n3 : Int) % 256] ++ bodyL b ys).map (Value.int .u8)) := by simpa using own2
  obtain ⟨A4, c4, rfl, ⟨h61, h62⟩, r2⟩ := own_rd own2
  clear own2 hg2
  go_wp2_with fail
  go_ret
  rw [show (n3 : Int) = ((bodyL b ys).length : Int) by rw [l1'.out]] at r2
  exact ⟨_, _, _, rfl, h61, h62, r2, E1.go e2⟩
set_option maxRecDepth 100000 in
set_option maxHeartbeats 3200000 in
theorem coded05_writes (fc ad qt to : Int) (A A2 : Option Addr) (n c n2 c2 : Nat) (b : Bool) (xs : List Int) (w : World) (hx : RdI w w.heap.size .u16 A n xs) (hr : ∀ j : Nat, 0 ≤ xs[j]?.getD 0 ∧ xs[j]?.getD 0 ≤ 65535) (nm : n ≤ maxLen) (hP : fc = 15 ∨ fc = 16 → 5 ≤ (putL fc ad qt to xs).length) :
    Calls Try.prog 97 #[.agg #[.int .i64 fc, .int .i64 ad, .int .i64 qt, .slice A n c, .int .i64 to, .bool false, .bool b, .int .i64 0, .slice A2 n2 c2]] w (RetI .u8 (if fc = 15 ∨ fc = 16 then (putL fc ad qt to xs).take 5 else putL fc ad qt to xs) w) := by
  have bx := fun w' (D : Ext (w.alloc (.cells #[.int .i64 fc, .int .i64 ad, .int .i64 qt, .slice A n c, .int .i64 to, .bool false, .bool b, .int .i64 0, .slice A2 n2 c2] 140)) w') => cellsAt ((D.block w.heap.size (by simp)).trans (heap_alloc_new w _))
  have bx' := Lib.hid bx
  have E0 := (Ext.refl w).goA (.cells #[.int .i64 fc, .int .i64 ad, .int .i64 qt, .slice A n c, .int .i64 to, .bool false, .bool b, .int .i64 0, .slice A2 n2 c2] 140)
  have hx' := Lib.hid hx
  have hr' := Lib.hid hr
  clear bx hx hr
  generalize hL : (if fc = 15 ∨ fc = 16 then (putL fc ad qt to xs).take 5 else putL fc ad qt to xs) = L
  have hL' := Lib.hid hL
  clear hL
  by_cases h : fc = 15 ∨ fc = 16
  · have hP' := Lib.hid (hP h)
    have hc : (fc == 15) = true ∨ (fc == 15) = false ∧ (fc == 16) = true := by
      rcases h with rfl | rfl
      · exact .inl rfl
      · exact .inr ⟨rfl, rfl⟩
    have h' := Lib.hid h
    clear h hP
    rcases hc with t1 | ⟨t1, t2⟩
    all_goals
      go_enter Try.func97, Try.ntmps97
      go_wp2_with fail
      refine (pduPut_any fc ad qt to A n c xs _ (hx'.out.ext E0) hr'.out nm).mono ?_
      rintro e w1 ⟨A3, n3, c3, rfl, g1, g2, r1, D1⟩
      have b1 := bx'.out w1 D1
      have l1 := r1.len
      have n5 : 5 ≤ n3 := by have := hP'.out; omega
      obtain ⟨bb, o, rfl, _, _⟩ := r1.at_ (show 0 < n3 by omega)
      have c5 : 5 ≤ c3 := by omega
      have c5' : (5 : Int) ≤ c3 := by omega
      have E1 := E0.go D1
      have r1' := Lib.hid (r1.take n5)
      have own' : Hid (w1.ownsRow w1.heap.size 5 1 (.slice none 0 0) 0 (([] : List Int).map (Value.int .u8))) := Lib.hid ⟨rfl, .inl ⟨rfl, rfl⟩⟩
      clear r1 l1
      go_wp2_with (at_builtin; refine wpList_appI rfl (.const (.slice none 0 0)) (.tmp 53) _ rfl Try.underlying33 info_u8 own'.out rfl r1'.out rfl (by omega) (by omega) (Nat.le_refl _) ?_)
      intro v2 w2 own2 hg2 _
      have e2 : Ext w1 w2 := (Ext.refl _).goG hg2 (fun k hk => (own'.out.lt k hk).1)
      replace own2 : w2.ownsRow w1.heap.size 5 1 v2 5 (((putL fc ad qt to xs).take 5).map (Value.int .u8)) := by simpa using own2
      obtain ⟨A4, c4, rfl, ⟨h61, h62⟩, r2⟩ := own_rd own2
      clear own2 hg2
      go_wp2_with fail
      go_ret
      have hL := hL'.out
      rw [if_pos h'.out] at hL
      rw [hL] at r2
      exact ⟨_, _, _, rfl, h61, h62, r2, E1.go e2⟩
  · have t1 : (fc == 15) = false := by simp; omega
    have t2 : (fc == 16) = false := by simp; omega
    have h' := Lib.hid h
    clear h hP
    go_enter Try.func97, Try.ntmps97
    go_wp2_with fail
    refine (pduPut_any fc ad qt to A n c xs _ (hx'.out.ext E0) hr'.out nm).mono ?_
    rintro e w1 ⟨A3, n3, c3, rfl, g1, g2, r1, D1⟩
    have b1 := bx'.out w1 D1
    go_wp2_with fail
    go_ret
    have hL := hL'.out
    rw [if_neg h'.out] at hL
    rw [hL] at r1
    exact ⟨_, _, _, rfl, g1, g2, r1, E0.go D1⟩
end Go.Proofs.Ytgeahfkhfpdlhaa
