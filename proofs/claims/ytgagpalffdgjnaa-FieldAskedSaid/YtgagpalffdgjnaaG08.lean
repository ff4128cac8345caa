/- Layer 5, the walks: an answer's bytes. · Layer 4, plain: bits and the bytes of bits are each other's inverse. · Layer 4, the walks: the request of bytes. -/
import Derived.Test.YtgagpalffdgjnaaG07
import Derived.Test.YtgagpalffdgjnaaG04
import Derived.Test.YtgagpalffdgjnaaG06
import Derived.Test.YtgagpalffdgjnaaG03
import Derived.Test.YtgagpalffdgjnaaG05
namespace Go.Proofs.Ytgagpalffdgjnaa
open Go.RowKit

def orHi (x : Int) : Int := bits .or .u8 x 128
/-- The bytes of an answer that may be. -/
def repL (fc ad qt to : Int) (xs : List Int) (r b : Bool) (code : Int) (ys : List Int) : List Int :=
  if code ≠ 0 then [orHi (fc % 256), code % 256] else if r then [fc % 256, ((bodyL b ys).length : Int) % 256] ++ bodyL b ys
  else if fc = 15 ∨ fc = 16 then (putL fc ad qt to xs).take 5 else putL fc ad qt to xs

theorem RdI.take {w : World} {B n m : Nat} {k : IntKind} {A : Option Addr} {xs : List Int} (h : RdI w B k A n xs) (hm : m ≤ n) : RdI w B k A m (xs.take m) :=
  ⟨by rw [List.length_take, h.len]; omega, fun h0 => by
    obtain ⟨b, o, e, hb, hc⟩ := h.2 (by omega)
    exact ⟨b, o, e, hb, fun j hj => by rw [List.getD_eq_getElem?_getD, List.getElem?_take, if_pos hj, ← List.getD_eq_getElem?_getD]; exact hc j (by omega)⟩⟩
set_option maxRecDepth 100000 in
set_option maxHeartbeats 1600000 in
theorem coded05_exc (fc ad qt to code : Int) (A A2 : Option Addr) (n c n2 c2 : Nat) (r b : Bool) (w : World) (h : code ≠ 0) :
    Calls Try.prog 83 #[.agg #[.int .i64 fc, .int .i64 ad, .int .i64 qt, .slice A n c, .int .i64 to, .bool r, .bool b, .int .i64 code, .slice A2 n2 c2]] w (RetI .u8 [orHi (fc % 256), code % 256] w) := by
  have E0 := (Ext.refl w).goA (.cells #[.int .i64 fc, .int .i64 ad, .int .i64 qt, .slice A n c, .int .i64 to, .bool r, .bool b, .int .i64 code, .slice A2 n2 c2] 170)
  have t1 : (code != 0) = true := by simp; exact h
  have t2 : (code == 0) = false := by simp; exact h
  have e1 : ∀ x, bits .or .u8 x 128 = orHi x := fun _ => rfl
  clear h
  go_enter Try.func83, Try.ntmps83
  go_wp2_with fail
  go_ret
  refine ⟨_, _, _, rfl, Nat.le_refl _, by decide, ?_, E0.goA _⟩
  have := RdI.new (w := w.alloc (.cells #[.int .i64 fc, .int .i64 ad, .int .i64 qt, .slice A n c, .int .i64 to, .bool r, .bool b, .int .i64 code, .slice A2 n2 c2] 170)) (g := w.heap.size + 1) (e := 5) (k := .u8) [orHi (fc % 256), code % 256] (by simp) rfl rfl
  rw [alloc_size, alloc_size]
  exact this
set_option maxRecDepth 100000 in
set_option maxHeartbeats 3200000 in
theorem coded05_reads (fc ad qt to : Int) (A A2 : Option Addr) (n c n2 c2 : Nat) (b : Bool) (ys : List Int) (w : World) (hy : RdI w w.heap.size .u16 A2 n2 ys) (hyr : ∀ j : Nat, 0 ≤ ys[j]?.getD 0 ∧ ys[j]?.getD 0 ≤ 65535) (hn2 : n2 ≤ 3000) :
    Calls Try.prog 83 #[.agg #[.int .i64 fc, .int .i64 ad, .int .i64 qt, .slice A n c, .int .i64 to, .bool true, .bool b, .int .i64 0, .slice A2 n2 c2]] w (RetI .u8 ([fc % 256, ((bodyL b ys).length : Int) % 256] ++ bodyL b ys) w) := by
  have bx := fun w' (D : Ext (w.alloc (.cells #[.int .i64 fc, .int .i64 ad, .int .i64 qt, .slice A n c, .int .i64 to, .bool true, .bool b, .int .i64 0, .slice A2 n2 c2] 170)) w') => cellsAt ((D.block w.heap.size (by simp)).trans (heap_alloc_new w _))
  have bx' := Lib.hid bx
  have E0 := (Ext.refl w).goA (.cells #[.int .i64 fc, .int .i64 ad, .int .i64 qt, .slice A n c, .int .i64 to, .bool true, .bool b, .int .i64 0, .slice A2 n2 c2] 170)
  have hy' := Lib.hid hy
  have hyr' := Lib.hid hyr
  have hlb : (bodyL b ys).length ≤ 6000 := by
    have := hy.len
    unfold bodyL
    cases b
    · simp [wordsL_length]; omega
    · have e : (bitsL ys).length = (ys.length + 7) / 8 := bitsTo_length _ _
      simp [e]; omega
  clear bx hy hyr
  go_enter Try.func83, Try.ntmps83
  go_wp2_with fail
  refine (body_any fc ad qt to 0 A A2 n c n2 c2 true b ys _ (hy'.out.ext E0) hyr'.out hn2).mono ?_
  rintro e w1 ⟨A3, n3, c3, rfl, g1, g2, r1, D1⟩
  have b1 := bx'.out w1 D1
  have l1 := r1.len
  have l1' := Lib.hid l1
  rw [l1] at hlb
  have E1 := E0.go D1
  have r1' := Lib.hid r1
  clear r1 l1
  have bk := Blk.new w1 5 .u8 [fc % 256, (n3 : Int) % 256]
  have own := bk.own (n := 2) (base := w1.heap.size) (Nat.le_refl _) rfl (by decide)
  have own' := Lib.hid own
  clear own bk
  go_wp2_with (at_builtin; refine wpList_appI rfl (.tmp 33) (.tmp 34) _ rfl Try.underlying34 info_u8 own'.out rfl (r1'.out.alloc (Nat.le_refl _) _) rfl (by omega) (by omega) (by simp) ?_)
  intro v2 w2 own2 hg2 _
  have e2 : Ext w1 w2 := ((Ext.refl _).goA _).goG hg2 (fun k hk => (own'.out.lt k hk).1)
  replace own2 : w2.ownsRow w1.heap.size 5 1 v2 (2 + n3) (([fc % 256, (n3 : Int) % 256] ++ bodyL b ys).map (Value.int .u8)) := by simpa using own2
  obtain ⟨A4, c4, rfl, ⟨h61, h62⟩, r2⟩ := own_rd own2
  clear own2 hg2
  go_wp2_with fail
  go_ret
  rw [show (n3 : Int) = ((bodyL b ys).length : Int) by rw [l1'.out]] at r2
  exact ⟨_, _, _, rfl, h61, h62, r2, E1.go e2⟩
set_option maxRecDepth 100000 in
set_option maxHeartbeats 3200000 in
theorem coded05_writes (fc ad qt to : Int) (A A2 : Option Addr) (n c n2 c2 : Nat) (b : Bool) (xs : List Int) (w : World) (hx : RdI w w.heap.size .u16 A n xs) (hr : ∀ j : Nat, 0 ≤ xs[j]?.getD 0 ∧ xs[j]?.getD 0 ≤ 65535) (nm : n ≤ maxLen) (hP : fc = 15 ∨ fc = 16 → 5 ≤ (putL fc ad qt to xs).length) :
    Calls Try.prog 83 #[.agg #[.int .i64 fc, .int .i64 ad, .int .i64 qt, .slice A n c, .int .i64 to, .bool false, .bool b, .int .i64 0, .slice A2 n2 c2]] w (RetI .u8 (if fc = 15 ∨ fc = 16 then (putL fc ad qt to xs).take 5 else putL fc ad qt to xs) w) := by
  have bx := fun w' (D : Ext (w.alloc (.cells #[.int .i64 fc, .int .i64 ad, .int .i64 qt, .slice A n c, .int .i64 to, .bool false, .bool b, .int .i64 0, .slice A2 n2 c2] 170)) w') => cellsAt ((D.block w.heap.size (by simp)).trans (heap_alloc_new w _))
  have bx' := Lib.hid bx
  have E0 := (Ext.refl w).goA (.cells #[.int .i64 fc, .int .i64 ad, .int .i64 qt, .slice A n c, .int .i64 to, .bool false, .bool b, .int .i64 0, .slice A2 n2 c2] 170)
  have hx' := Lib.hid hx
  have hr' := Lib.hid hr
  clear bx hx hr
  generalize hL : (if fc = 15 ∨ fc = 16 then (putL fc ad qt to xs).take 5 else putL fc ad qt to xs) = L
  have hL' := Lib.hid hL
  clear hL
  by_cases h : fc = 15 ∨ fc = 16
  · have hP' := Lib.hid (hP h)
    have hc : (fc == 15) = true ∨ (fc == 15) = false ∧ (fc == 16) = true := by
      rcases h with rfl | rfl
      · exact .inl rfl
      · exact .inr ⟨rfl, rfl⟩
    have h' := Lib.hid h
    clear h hP
    rcases hc with t1 | ⟨t1, t2⟩
    all_goals
      go_enter Try.func83, Try.ntmps83
      go_wp2_with fail
      refine (pduPut_any fc ad qt to A n c xs _ (hx'.out.ext E0) hr'.out nm).mono ?_
      rintro e w1 ⟨A3, n3, c3, rfl, g1, g2, r1, D1⟩
      have b1 := bx'.out w1 D1
      have l1 := r1.len
      have n5 : 5 ≤ n3 := by have := hP'.out; omega
      obtain ⟨bb, o, rfl, _, _⟩ := r1.at_ (show 0 < n3 by omega)
      have c5 : 5 ≤ c3 := by omega
      have c5' : (5 : Int) ≤ c3 := by omega
      have E1 := E0.go D1
      have r1' := Lib.hid (r1.take n5)
      have own' : Hid (w1.ownsRow w1.heap.size 5 1 (.slice none 0 0) 0 (([] : List Int).map (Value.int .u8))) := Lib.hid ⟨rfl, .inl ⟨rfl, rfl⟩⟩
      clear r1 l1
      go_wp2_with (at_builtin; refine wpList_appI rfl (.const (.slice none 0 0)) (.tmp 53) _ rfl Try.underlying34 info_u8 own'.out rfl r1'.out rfl (by omega) (by omega) (Nat.le_refl _) ?_)
      intro v2 w2 own2 hg2 _
      have e2 : Ext w1 w2 := (Ext.refl _).goG hg2 (fun k hk => (own'.out.lt k hk).1)
      replace own2 : w2.ownsRow w1.heap.size 5 1 v2 5 (((putL fc ad qt to xs).take 5).map (Value.int .u8)) := by simpa using own2
      obtain ⟨A4, c4, rfl, ⟨h61, h62⟩, r2⟩ := own_rd own2
      clear own2 hg2
      go_wp2_with fail
      go_ret
      have hL := hL'.out
      rw [if_pos h'.out] at hL
      rw [hL] at r2
      exact ⟨_, _, _, rfl, h61, h62, r2, E1.go e2⟩
  · have t1 : (fc == 15) = false := by simp; omega
    have t2 : (fc == 16) = false := by simp; omega
    have h' := Lib.hid h
    clear h hP
    go_enter Try.func83, Try.ntmps83
    go_wp2_with fail
    refine (pduPut_any fc ad qt to A n c xs _ (hx'.out.ext E0) hr'.out nm).mono ?_
    rintro e w1 ⟨A3, n3, c3, rfl, g1, g2, r1, D1⟩
    have b1 := bx'.out w1 D1
    go_wp2_with fail
    go_ret
    have hL := hL'.out
    rw [if_neg h'.out] at hL
    rw [hL] at r1
    exact ⟨_, _, _, rfl, g1, g2, r1, E0.go D1⟩
end Go.Proofs.Ytgagpalffdgjnaa
namespace Go.Proofs.Ytgagpalffdgjnaa
open Go.RowKit

theorem bitN_bit (f : Nat → Bool) (j : Nat) : ∀ m, j < m → bitN f m / 2 ^ j % 2 = if f j then 1 else 0 := by
  intro m
  induction m with
  | zero => intro h; omega
  | succ m ih =>
    intro h
    have hr := bitN_range f j
    have hp : (0 : Int) < 2 ^ j := Int.pow_pos (by omega)
    by_cases e : j = m
    · subst e
      show (bitN f j + (if f j then 2 ^ j else 0)) / 2 ^ j % 2 = _
      split
      · rw [Int.add_ediv_of_dvd_right (Int.dvd_refl _), Int.ediv_eq_zero_of_lt hr.1 hr.2, Int.ediv_self (by omega)]; rfl
      · rw [Int.add_zero, Int.ediv_eq_zero_of_lt hr.1 hr.2]; rfl
    · have ih := ih (by omega)
      show (bitN f m + (if f m then 2 ^ m else 0)) / 2 ^ j % 2 = _
      rw [← ih]
      split
      · have e2 : (2 : Int) ^ m = 2 ^ j * (2 * 2 ^ (m - j - 1)) := by
          rw [← Int.mul_assoc, Int.mul_comm (2 ^ j) 2, Int.mul_assoc, ← Int.pow_add]
          have : m = 1 + (j + (m - j - 1)) := by omega
          conv => lhs; rw [this, Int.pow_add]
          rfl
        rw [e2, Int.add_mul_ediv_left _ _ (by omega), Int.add_mul_emod_self_left]
      · rw [Int.add_zero]
theorem bitN_val (x : Int) (_h0 : 0 ≤ x) : ∀ m, bitN (fun j => x / 2 ^ j % 2 != 0) m = x % 2 ^ m := by
  intro m
  induction m with
  | zero => show (0 : Int) = x % 1; omega
  | succ m ih =>
    show bitN _ m + (if (x / 2 ^ m % 2 != 0) then 2 ^ m else 0) = _
    rw [ih]
    have hp : (0 : Int) < 2 ^ m := Int.pow_pos (by omega)
    have e : (2 : Int) ^ (m + 1) = 2 ^ m * 2 := Int.pow_succ ..
    have key : x % (2 ^ m * 2) = x % 2 ^ m + 2 ^ m * (x / 2 ^ m % 2) := by
      generalize hp2 : (2 : Int) ^ m = p at hp
      have a1 := Int.emod_add_mul_ediv x p
      have a2 := Int.emod_add_mul_ediv (x / p) 2
      have a3 := Int.emod_nonneg x (show p ≠ 0 by omega)
      have a4 := Int.emod_lt_of_pos x hp
      have e1 : x = (x % p + p * (x / p % 2)) + p * 2 * (x / p / 2) := by
        conv => lhs; rw [← a1, ← a2, Int.mul_add]
        rw [Int.mul_assoc, ← Int.add_assoc]
      conv => lhs; rw [e1]
      rw [Int.add_mul_emod_self_left]
      rcases Int.emod_two_eq (x / p) with h | h
      · rw [h]; apply Int.emod_eq_of_lt <;> omega
      · rw [h]; apply Int.emod_eq_of_lt <;> omega
    rw [e, key]
    rcases Int.emod_two_eq (x / 2 ^ m) with h | h
    · rw [h]; simp
    · rw [h]; simp
theorem bitN_congr (f g : Nat → Bool) : ∀ m, (∀ j, j < m → f j = g j) → bitN f m = bitN g m := by
  intro m
  induction m with
  | zero => intro _; rfl
  | succ m ih =>
    intro h
    show bitN f m + _ = bitN g m + _
    rw [ih (fun j hj => h j (by omega)), h m (by omega)]
/-- Bits are told of their bytes as they were. -/
theorem unbits_bits (xs : List Int) (k : Nat) (hk : k < xs.length) : (unbitsL (bitsL xs) xs.length).getD k 0 = if xs.getD k 0 = 0 then 0 else 1 := by
  unfold unbitsL
  have hlen : (bitsL xs).length = (xs.length + 7) / 8 := bitsTo_length _ _
  rw [List.getD_eq_getElem?_getD, List.getElem?_map, List.getElem?_range hk, Option.map_some, Option.getD_some, if_pos (by rw [hlen]; omega)]
  unfold bitsL
  rw [bitsTo_getD _ _ _ (by omega), bitN_bit _ _ _ (by omega)]
  unfold bitAt
  rw [show 8 * (k / 8) + k % 8 = k by omega]
  by_cases h : xs.getD k 0 = 0
  · rw [if_pos h, h]; rfl
  · rw [if_neg h, if_pos (by simpa using h)]
/-- The bytes of a byte's bits are the bytes. -/
theorem bits_unbits (bs : List Int) (hb : ByteL bs) : bitsL (unbitsL bs (8 * bs.length)) = bs := by
  have hl : (unbitsL bs (8 * bs.length)).length = 8 * bs.length := unbitsL_length _ _
  have e8 : (8 * bs.length + 7) / 8 = bs.length := by omega
  unfold bitsL
  rw [hl]
  apply List.ext_getElem?
  intro i
  by_cases hi : i < bs.length
  · have h1 : (bitsTo (unbitsL bs (8 * bs.length)) (8 * bs.length))[i]? = some ((bitsTo (unbitsL bs (8 * bs.length)) (8 * bs.length)).getD i 0) := by
      rw [List.getD_eq_getElem?_getD, List.getElem?_eq_getElem (by rw [bitsTo_length, hl]; omega)]; rfl
    have h2 : bs[i]? = some (bs.getD i 0) := by rw [List.getD_eq_getElem?_getD, List.getElem?_eq_getElem hi]; rfl
    rw [h1, h2, bitsTo_getD _ _ _ (by rw [hl]; omega)]
    have hx := hb i
    rw [← List.getD_eq_getElem?_getD] at hx
    rw [show min 8 (8 * bs.length - 8 * i) = 8 by omega, bitN_congr _ (fun j => bs.getD i 0 / 2 ^ j % 2 != 0) 8 ?_, bitN_val _ hx.1, Int.emod_eq_of_lt hx.1 (by omega)]
    intro j hj
    unfold bitAt unbitsL
    rw [List.getD_eq_getElem?_getD, List.getElem?_map, List.getElem?_range (by omega), Option.map_some, Option.getD_some, show (8 * i + j) / 8 = i by omega, show (8 * i + j) % 8 = j by omega, if_pos hi]
  · rw [List.getElem?_eq_none (by rw [bitsTo_length, hl]; omega), List.getElem?_eq_none (by omega)]
end Go.Proofs.Ytgagpalffdgjnaa
namespace Go.Proofs.Ytgagpalffdgjnaa
open Go.RowKit

/-- What bytes are answered by: a request, and an exception or 0. -/
def GetPost (fc ad qt to : Int) (xs : List Int) (code : Int) (w : World) (e : Ending) (w' : World) : Prop :=
  ∃ A n c, e = .returned (.tuple #[.agg #[.int .i64 fc, .int .i64 ad, .int .i64 qt, .slice A n c, .int .i64 to], .int .i64 code]) ∧ n ≤ c ∧ c ≤ maxLen ∧ RdI w' w'.heap.size .u16 A n xs ∧ Ext w w' ∧ ∀ b o, A = some ⟨b, o, none⟩ → w.heap.size ≤ b

theorem zero_far {w : World} {g C n : Nat} {t : TypeId} {A : Option Addr} {L : List Int} (h : w.heap[g]? = some (.cells #[.int .i64 0, .int .i64 0, .int .i64 0, .slice none 0 0, .int .i64 0] t (0, 0))) (r : RdI w C .u16 A n L) : 0 < n → ∀ b o, A = some ⟨b, o, none⟩ → b ≠ g := by
  intro hn b o e hb
  obtain ⟨b', o', e', _, hc⟩ := r.2 hn
  rw [e] at e'; injection e' with e'; injection e' with e1 e2
  subst e1 e2 hb
  have h0 := hc 0 hn
  rw [Nat.add_zero, cellsAt h o] at h0
  rcases o with _ | _ | _ | _ | _ | o <;> simp at h0
set_option maxRecDepth 100000 in
set_option maxHeartbeats 1600000 in
theorem get_empty (A : Option Addr) (c : Nat) (w : World) :
    Calls Try.prog 120 #[.slice A 0 c] w (GetPost 0 0 0 0 [] 1 w) := by
  have h0 : (w.alloc (.cells #[.int .i64 0, .int .i64 0, .int .i64 0, .slice none 0 0, .int .i64 0] 30)).heap[w.heap.size]? = some (.cells #[.int .i64 0, .int .i64 0, .int .i64 0, .slice none 0 0, .int .i64 0] 30 (0, 0)) := heap_alloc_new w _
  have E1 := (Ext.refl w).goA (.cells #[.int .i64 0, .int .i64 0, .int .i64 0, .slice none 0 0, .int .i64 0] 30)
  have h0' := Lib.hid h0
  clear h0
  go_enter Try.func120, Try.ntmps120
  go_wp2_with fail
  have z := cellsAt h0'.out
  refine bodyPost_ret (v := .tuple #[.agg #[.int .i64 0, .int .i64 0, .int .i64 0, .slice none 0 0, .int .i64 0], .int .i64 1]) (by simp [results, Try.results120, go_sem, z]) rfl ?_
  exact ⟨_, _, _, rfl, Nat.le_refl _, by decide, RdI.nil _, E1, fun b o e => (nomatch e)⟩
set_option maxRecDepth 100000 in
set_option maxHeartbeats 1600000 in
theorem get_none (A : Option Addr) (n c : Nat) (l : List Int) (w : World) (hx : RdI w w.heap.size .u8 A n l) (hl : ByteL l) (hn : 0 < n) (hs : shapeOf (l.getD 0 0) = none) :
    Calls Try.prog 120 #[.slice A n c] w (GetPost 0 0 0 0 [] 1 w) := by
  have hv : lookV (l.getD 0 0) = shapeZero := by unfold lookV; rw [hs]
  have lk1 := look_any (w := ((w.alloc (.cells #[.int .i64 0, .int .i64 0, .int .i64 0, .slice none 0 0, .int .i64 0] 30)).alloc (.map E10 10)).drew) (g := w.heap.size + 1) (by show (World.alloc _ _).heap[_]? = _; rw [alloc_get, if_pos (by simp)]) (l.getD 0 0)
  have lk2 := look_any (w := (((w.alloc (.cells #[.int .i64 0, .int .i64 0, .int .i64 0, .slice none 0 0, .int .i64 0] 30)).alloc (.map E10 10)).alloc (.cells #[.int .i64 0, .int .i64 0, .int .i64 0, .bool false] 162)).drew) (g := w.heap.size + 1) (by show (World.alloc _ _).heap[_]? = _; rw [alloc_get, if_neg (by simp), alloc_get, if_pos (by simp)]) (l.getD 0 0)
  have lk3 := look_any (w := (((w.alloc (.cells #[.int .i64 0, .int .i64 0, .int .i64 0, .slice none 0 0, .int .i64 0] 30)).alloc (.cells #[.int .i64 0, .int .i64 0, .int .i64 0, .bool false] 162)).alloc (.map E10 10)).drew) (g := w.heap.size + 1 + 1) (by show (World.alloc _ _).heap[_]? = _; rw [alloc_get, if_pos (by simp)]) (l.getD 0 0)
  rw [hv, hs] at lk1 lk2 lk3
  unfold shapeZero at lk1 lk2 lk3
  rw [show (none : Option Shape).isSome = false from rfl] at lk1 lk2 lk3
  have E1 := (Ext.refl w).goA (.cells #[.int .i64 0, .int .i64 0, .int .i64 0, .slice none 0 0, .int .i64 0] 30)
  have F1 := Ext.refl (w.alloc (.cells #[.int .i64 0, .int .i64 0, .int .i64 0, .slice none 0 0, .int .i64 0] 30))
  have zA := Lib.hid (cellsAt (((((F1.goA (.map E10 10)).goA (.cells #[.int .i64 0, .int .i64 0, .int .i64 0, .bool false] 162)).god).block w.heap.size (by simp)).trans (heap_alloc_new w _)))
  have zB := Lib.hid (cellsAt (((((F1.goA (.cells #[.int .i64 0, .int .i64 0, .int .i64 0, .bool false] 162)).goA (.map E10 10)).god).block w.heap.size (by simp)).trans (heap_alloc_new w _)))
  obtain ⟨bb, o, rfl, hb, hc⟩ := hx.at_ hn
  rw [Nat.add_zero] at hc
  have c0 := (E1.cell o hb).trans hc
  have c1 := ((E1.goA (.map E10 10)).cell o hb).trans hc
  have c2 := ((E1.goA (.cells #[.int .i64 0, .int .i64 0, .int .i64 0, .bool false] 162)).cell o hb).trans hc
  have c3 := (((E1.goA (.map E10 10)).goA (.cells #[.int .i64 0, .int .i64 0, .int .i64 0, .bool false] 162)).cell o hb).trans hc
  have c4 := (((E1.goA (.cells #[.int .i64 0, .int .i64 0, .int .i64 0, .bool false] 162)).goA (.map E10 10)).cell o hb).trans hc
  have x0 := hl 0
  rw [← List.getD_eq_getElem?_getD] at x0
  generalize l.getD 0 0 = x at lk1 lk2 lk3 hc x0 c0 c1 c2 c3 c4
  have x1 : IntKind.i64.wrap x = x := by rw [IntKind.wrap_i64]; omega
  have h1 : (0 : Int) < n := by omega
  have h2 : ((n : Int) == 0) = false := by simp; omega
  clear hv hs hx hl
  go_enter Try.func120, Try.ntmps120
  go_wp2_with fail
  go_region_law
    (first
      | (go_simp
         go_at_call 75
         refine (shapes_any _).mono ?_
         rintro e w1 ⟨rfl, rfl⟩
         dsimp only))
  all_goals
    go_wp2_with fail
    have z1 := zA.out
    have z2 := zB.out
    refine bodyPost_ret (v := .tuple #[.agg #[.int .i64 0, .int .i64 0, .int .i64 0, .slice none 0 0, .int .i64 0], .int .i64 1]) (by simp [results, Try.results120, go_sem, z1, z2]) rfl ?_
    exact ⟨_, _, _, rfl, Nat.le_refl _, by decide, RdI.nil _, ((E1.goA _).goA _).god, fun b o e => (nomatch e)⟩
set_option maxRecDepth 100000 in
set_option maxHeartbeats 3200000 in
theorem get_walk (f q v : Int) (b : Bool) (x ad qt to : Int) (L C : List Int) (vh ve vf : Bool) (A : Option Addr) (n c : Nat) (l : List Int) (w : World) (P : Ending → World → Prop) (hs : shapeOf x = some ⟨f, q, v, b⟩)
    (hx : RdI w w.heap.size .u8 A n l) (hn : 0 < n) (ex : l.getD 0 0 = x) (x0 : 0 ≤ x ∧ x ≤ 255)
    (ht : ∀ w', Ext w w' → Calls Try.prog 128 #[.agg #[.int .i64 f, .int .i64 q, .int .i64 v, .bool b], .slice A n c] w' (TakenPost x ad qt to L w'))
    (hh : ∀ (A' : Option Addr) (n' c' B : Nat) (w' : World), RdI w' B .u16 A' n' L → B ≤ w'.heap.size → n' ≤ maxLen → Calls Try.prog 76 #[.agg #[.int .i64 f, .int .i64 q, .int .i64 v, .bool b], .agg #[.int .i64 x, .int .i64 ad, .int .i64 qt, .slice A' n' c', .int .i64 to]] w' fun e w2 => e = .returned (.bool vh) ∧ Ext w' w2)
    (hd : vh = true → ∀ (A' : Option Addr) (n' c' : Nat) (w' : World), RdI w' w'.heap.size .u16 A' n' L → Calls Try.prog 109 #[.agg #[.int .i64 f, .int .i64 q, .int .i64 v, .bool b], .agg #[.int .i64 x, .int .i64 ad, .int .i64 qt, .slice A' n' c', .int .i64 to]] w' (RetI .u8 C w'))
    (he : vh = true → ∀ (A2 : Option Addr) (n2 c2 : Nat) (w' : World), Ext w w' → RdI w' w'.heap.size .u8 A2 n2 C → Calls Try.prog 82 #[.slice A2 n2 c2, .slice A n c] w' fun e w2 => e = .returned (.bool ve) ∧ Ext w' w2)
    (hf : vh = true → ∀ (A' : Option Addr) (n' c' : Nat) (w' : World), L.length = n' → Calls Try.prog 77 #[.agg #[.int .i64 x, .int .i64 ad, .int .i64 qt, .slice A' n' c', .int .i64 to]] w' fun e w2 => e = .returned (.bool vf) ∧ Ext w' w2)
    (hP1 : (vh && ve) = false → ∀ e w', GetPost 0 0 0 0 [] 3 w e w' → P e w')
    (hP2 : (vh && ve) = true → vf = false → ∀ e w', GetPost 0 0 0 0 [] 2 w e w' → P e w')
    (hP3 : (vh && ve) = true → vf = true → ∀ e w', GetPost x ad qt to L 0 w e w' → P e w') :
    Calls Try.prog 120 #[.slice A n c] w P := by
  have hv : lookV x = (Shape.mk f q v b).val := by unfold lookV; rw [hs]
  have lk1 := look_any (w := ((w.alloc (.cells #[.int .i64 0, .int .i64 0, .int .i64 0, .slice none 0 0, .int .i64 0] 30)).alloc (.map E10 10)).drew) (g := w.heap.size + 1) (by show (World.alloc _ _).heap[_]? = _; rw [alloc_get, if_pos (by simp)]) x
  have lk2 := look_any (w := (((w.alloc (.cells #[.int .i64 0, .int .i64 0, .int .i64 0, .slice none 0 0, .int .i64 0] 30)).alloc (.map E10 10)).alloc (.cells #[.int .i64 0, .int .i64 0, .int .i64 0, .bool false] 162)).drew) (g := w.heap.size + 1) (by show (World.alloc _ _).heap[_]? = _; rw [alloc_get, if_neg (by simp), alloc_get, if_pos (by simp)]) x
  have lk3 := look_any (w := (((w.alloc (.cells #[.int .i64 0, .int .i64 0, .int .i64 0, .slice none 0 0, .int .i64 0] 30)).alloc (.cells #[.int .i64 0, .int .i64 0, .int .i64 0, .bool false] 162)).alloc (.map E10 10)).drew) (g := w.heap.size + 1 + 1) (by show (World.alloc _ _).heap[_]? = _; rw [alloc_get, if_pos (by simp)]) x
  rw [hv, hs] at lk1 lk2 lk3
  rw [show (some (Shape.mk f q v b)).isSome = true from rfl] at lk1 lk2 lk3
  unfold Shape.val at lk1 lk2 lk3
  dsimp only at lk1 lk2 lk3
  have E1 := (Ext.refl w).goA (.cells #[.int .i64 0, .int .i64 0, .int .i64 0, .slice none 0 0, .int .i64 0] 30)
  have F1 := Ext.refl (w.alloc (.cells #[.int .i64 0, .int .i64 0, .int .i64 0, .slice none 0 0, .int .i64 0] 30))
  have hx' := Lib.hid hx
  obtain ⟨bb, o, rfl, hb, hc⟩ := hx.at_ hn
  rw [Nat.add_zero, ex] at hc
  have c0 := (E1.cell o hb).trans hc
  have c1 := ((E1.goA (.map E10 10)).cell o hb).trans hc
  have c2 := ((E1.goA (.cells #[.int .i64 0, .int .i64 0, .int .i64 0, .bool false] 162)).cell o hb).trans hc
  have c3 := (((E1.goA (.map E10 10)).goA (.cells #[.int .i64 0, .int .i64 0, .int .i64 0, .bool false] 162)).cell o hb).trans hc
  have c4 := (((E1.goA (.cells #[.int .i64 0, .int .i64 0, .int .i64 0, .bool false] 162)).goA (.map E10 10)).cell o hb).trans hc
  have x1 : IntKind.i64.wrap x = x := by rw [IntKind.wrap_i64]; omega
  have h1 : (0 : Int) < n := by omega
  have h2 : ((n : Int) == 0) = false := by simp; omega
  have ht' := Lib.hid ht
  have hh' := Lib.hid hh
  have hd' := Lib.hid hd
  have he' := Lib.hid he
  have hf' := Lib.hid hf
  have hP1' := Lib.hid hP1
  have hP2' := Lib.hid hP2
  have hP3' := Lib.hid hP3
  clear hv hs hx ex x0 ht hh hd he hf hP1 hP2 hP3
  go_enter Try.func120, Try.ntmps120
  go_wp2_with fail
  go_region_law
    (first
      | (go_simp
         go_at_call 75
         refine (shapes_any _).mono ?_
         rintro e w1 ⟨rfl, rfl⟩
         dsimp only))
  all_goals
    clear lk1 lk2 lk3 c0 c1 c2 c3 c4 hc
    go_wp2_with fail
    refine (ht'.out _ ((E1.goA _).goA _).god).mono ?_
    rintro e w1 ⟨A', n', c', rfl, g1, g2, r1, D1, fr1⟩
    have E3 := (((E1.goA _).goA _).god).go D1
    have F3 := (((F1.goA _).goA _).god).go D1
    have hR := (F3.block w.heap.size (by simp)).trans (heap_alloc_new w _)
    have hS := fun a cs (h : _ = some (Obj.cells cs 162 (0, 0))) ha => (D1.block a ha).trans h
    first
      | (refine have_then (hS (w.heap.size + 1) #[.int .i64 f, .int .i64 q, .int .i64 v, .bool b] ?_ ?_) (fun sx => ?_)
         · show (World.alloc _ _).heap[_]? = _
           rw [alloc_get, if_neg (by simp), alloc_get, if_pos (by simp)]
         · simp)
      | (refine have_then (hS (w.heap.size + 1 + 1) #[.int .i64 f, .int .i64 q, .int .i64 v, .bool b] ?_ ?_) (fun sx => ?_)
         · show (World.alloc _ _).heap[_]? = _
           rw [alloc_get, if_pos (by simp)]
         · simp)
    clear hS
    have nm : n' ≤ maxLen := Nat.le_trans g1 g2
    have G4 := (Ext.refl w1).goA (.cells #[.int .i64 x, .int .i64 ad, .int .i64 qt, .slice A' n' c', .int .i64 to] 30)
    have E4 := E3.goA (.cells #[.int .i64 x, .int .i64 ad, .int .i64 qt, .slice A' n' c', .int .i64 to] 30)
    have s4 := cellsAt ((G4.block _ (lt_of_block sx)).trans sx)
    have hQ := heap_alloc_new w1 (.cells #[.int .i64 x, .int .i64 ad, .int .i64 qt, .slice A' n' c', .int .i64 to] 30)
    have hR' := Lib.hid ((G4.block _ (lt_of_block hR)).trans hR)
    have sx' := Lib.hid ((G4.block _ (lt_of_block sx)).trans sx)
    have hQ' := Lib.hid hQ
    clear hR sx hQ
    go_wp2_with fail
    refine (hh'.out A' n' c' w1.heap.size _ (r1.alloc (Nat.le_refl _) _) (by simp) nm).mono ?_
    rintro e w2 ⟨rfl, D2⟩
    have r2 := (r1.ext G4).ext D2
    have R2 := (D2.block _ (lt_of_block hR'.out)).trans hR'.out
    have Q2 := (D2.block _ (lt_of_block hQ'.out)).trans hQ'.out
    have S2 := (D2.block _ (lt_of_block sx'.out)).trans sx'.out
    have E5 := E4.go D2
    have f2 := frozen_block R2
    have p2 := cellsAt R2
    have q2 := cellsAt Q2
    have s2 := cellsAt S2
    have R2' := Lib.hid R2
    have Q2' := Lib.hid Q2
    clear R2 Q2 S2
    cases hvh : vh
    · go_wp2_with fail
      obtain ⟨z0, z1, z2, z3, z4⟩ := five_reads R2'.out (.int .i64 0) (.int .i64 0) (.int .i64 0) (.slice none 0 0) (.int .i64 0)
      refine bodyPost_ret (v := .tuple #[.agg #[.int .i64 0, .int .i64 0, .int .i64 0, .slice none 0 0, .int .i64 0], .int .i64 3]) (by simp [results, Try.results120, go_sem, z0, z1, z2, z3, z4]) rfl ?_
      exact hP1'.out (by rw [hvh]; rfl) _ _ ⟨_, _, _, rfl, Nat.le_refl _, by decide, RdI.nil _, E5.five (by simp) _ _ _ _ _, fun b o e => (nomatch e)⟩
    · go_wp2_with fail
      refine (hd'.out hvh A' n' c' w2 r2).mono ?_
      rintro e w3 ⟨A3, n3, c3, rfl, g3, g4, r3, D3⟩
      have E6 := E5.go D3
      go_wp2_with fail
      refine (he'.out hvh A3 n3 c3 w3 E6 r3).mono ?_
      rintro e w4 ⟨rfl, D4⟩
      have D34 := D3.go D4
      have E7 := E6.go D4
      have R4 := (D34.block _ (lt_of_block R2'.out)).trans R2'.out
      have Q4 := (D34.block _ (lt_of_block Q2'.out)).trans Q2'.out
      have f4 := frozen_block R4
      have p4 := cellsAt R4
      have q4 := cellsAt Q4
      have R4' := Lib.hid R4
      have Q4' := Lib.hid Q4
      clear R4 Q4
      cases hve : ve
      · go_wp2_with fail
        obtain ⟨z0, z1, z2, z3, z4⟩ := five_reads R4'.out (.int .i64 0) (.int .i64 0) (.int .i64 0) (.slice none 0 0) (.int .i64 0)
        refine bodyPost_ret (v := .tuple #[.agg #[.int .i64 0, .int .i64 0, .int .i64 0, .slice none 0 0, .int .i64 0], .int .i64 3]) (by simp [results, Try.results120, go_sem, z0, z1, z2, z3, z4]) rfl ?_
        exact hP1'.out (by rw [hvh, hve]; rfl) _ _ ⟨_, _, _, rfl, Nat.le_refl _, by decide, RdI.nil _, E7.five (by simp) _ _ _ _ _, fun b o e => (nomatch e)⟩
      · go_wp2_with fail
        refine (hf'.out hvh A' n' c' w4 r1.len).mono ?_
        rintro e w5 ⟨rfl, D5⟩
        have E8 := E7.go D5
        have R5 := (D5.block _ (lt_of_block R4'.out)).trans R4'.out
        have Q5 := (D5.block _ (lt_of_block Q4'.out)).trans Q4'.out
        have f5 := frozen_block R5
        have p5 := cellsAt R5
        have q5 := cellsAt Q5
        have R5' := Lib.hid R5
        clear R5 Q5
        cases hvf : vf
        · go_wp2_with fail
          obtain ⟨z0, z1, z2, z3, z4⟩ := five_reads R5'.out (.int .i64 0) (.int .i64 0) (.int .i64 0) (.slice none 0 0) (.int .i64 0)
          refine bodyPost_ret (v := .tuple #[.agg #[.int .i64 0, .int .i64 0, .int .i64 0, .slice none 0 0, .int .i64 0], .int .i64 2]) (by simp [results, Try.results120, go_sem, z0, z1, z2, z3, z4]) rfl ?_
          exact hP2'.out (by rw [hvh, hve]; rfl) hvf _ _ ⟨_, _, _, rfl, Nat.le_refl _, by decide, RdI.nil _, E8.five (by simp) _ _ _ _ _, fun b o e => (nomatch e)⟩
        · go_wp2_with fail
          obtain ⟨z0, z1, z2, z3, z4⟩ := five_reads R5'.out (.int .i64 x) (.int .i64 ad) (.int .i64 qt) (.slice A' n' c') (.int .i64 to)
          refine bodyPost_ret (v := .tuple #[.agg #[.int .i64 x, .int .i64 ad, .int .i64 qt, .slice A' n' c', .int .i64 to], .int .i64 0]) (by simp [results, Try.results120, go_sem, z0, z1, z2, z3, z4]) rfl ?_
          have r5 := (r2.ext D34).ext D5
          exact hP3'.out (by rw [hvh, hve]; rfl) hvf _ _ ⟨_, _, _, rfl, g1, g2, five_rd r5 (Nat.le_refl _) _ (zero_far R5'.out r5) _ _ _ _ _, E8.five (by simp) _ _ _ _ _, fun b o e => by have := fr1 b o e; simp at this; omega⟩
end Go.Proofs.Ytgagpalffdgjnaa
