/- Layer 5, the walks: is an answer one that bytes tell? · Layer 5, the walks: the values that an answer's bytes may tell. -/
import Derived.Test.YtgagpalffdgjnaaG07
import Derived.Test.YtgagpalffdgjnaaG61
import Derived.Test.YtgagpalffdgjnaaG08
import Derived.Test.YtgagpalffdgjnaaG05
import Derived.Test.YtgagpalffdgjnaaG09
import Derived.Deep.RegionHeld
namespace Go.Proofs.Ytgagpalffdgjnaa
open Go.RowKit

theorem right_parts {fc ad qt to : Int} {xs : List Int} (h : rightB' fc ad qt to xs = true) : ∃ s, shapeOf fc = some s ∧ holdsB s ad qt to xs = true ∧ fitsB ad qt to xs.length = true := by
  unfold rightB' at h
  cases hs : shapeOf fc with
  | none => rw [hs] at h; cases h
  | some s => rw [hs] at h; dsimp only at h; rw [Bool.and_eq_true] at h; exact ⟨s, rfl, h.1, h.2⟩
theorem right_qty {fc ad qt to : Int} {xs : List Int} (h : rightB' fc ad qt to xs = true) : 0 ≤ qt ∧ qt ≤ 2000 ∧ xs.length ≤ 2000 := by
  obtain ⟨s, hs, h1, _⟩ := right_parts h
  have b := shape_bounds hs
  have p := holds_parts h1
  have l := holds_len b h1
  omega
theorem right_five {fc ad qt to : Int} {xs : List Int} (h : rightB' fc ad qt to xs = true) : 5 ≤ (putL fc ad qt to xs).length := by
  obtain ⟨s, hs, h1, h2⟩ := right_parts h
  unfold putL
  rw [hs]
  dsimp only
  rw [h1, h2, Bool.and_self, if_pos rfl]
  obtain ⟨-, -, ⟨q0, q1⟩, -, -, f0, f1, f2, f3⟩ := holds_parts h1
  have hl := codedL_length s fc ad qt to xs
  rcases shape_cases hs with ⟨_, rfl⟩ | ⟨_, rfl⟩ | ⟨_, rfl⟩ | ⟨_, rfl⟩ | ⟨_, rfl⟩ | ⟨_, rfl⟩ | ⟨_, rfl⟩ | ⟨_, rfl⟩
  all_goals
    simp [lenOf] at hl f0 f1 f2 f3 q1
    omega
/-- The answer of that, to a request. -/
def ansR (fc ad qt to : Int) (xs : List Int) (code : Int) (ys : List Int) : Bool := ansB (rightB' fc ad qt to xs) (readsB fc) (readsBits fc) qt code ys
def repR (fc ad qt to : Int) (xs : List Int) (code : Int) (ys : List Int) : List Int := repL fc ad qt to xs (readsB fc) (readsBits fc) code ys
theorem ans_parts {fc ad qt to code : Int} {xs ys : List Int} (h : ansR fc ad qt to xs code ys = true) : rightB' fc ad qt to xs = true ∧ (code ≠ 0 → (1 ≤ code ∧ code ≤ 4) ∧ ys = []) ∧ (code = 0 → (ys.length : Int) = (if readsB fc then qt else 0) ∧ valuesB (readsBits fc) ys = true) := by
  unfold ansR ansB at h
  rw [Bool.and_eq_true] at h
  refine ⟨h.1, fun hc => ?_, fun hc => ?_⟩
  · have := h.2
    rw [if_pos hc, Bool.and_eq_true] at this
    unfold excB at this
    exact ⟨by simpa using this.1, by simpa using this.2⟩
  · have := h.2
    rw [if_neg (by simp [hc]), Bool.and_eq_true] at this
    exact ⟨by simpa using this.1, this.2⟩
theorem coded05_any (fc ad qt to code : Int) (A A2 : Option Addr) (n c n2 c2 : Nat) (xs ys : List Int) (w : World) (hx : RdI w w.heap.size .u16 A n xs) (hr : ∀ j : Nat, 0 ≤ xs[j]?.getD 0 ∧ xs[j]?.getD 0 ≤ 65535) (nm : n ≤ maxLen)
    (hy : RdI w w.heap.size .u16 A2 n2 ys) (hyr : ∀ j : Nat, 0 ≤ ys[j]?.getD 0 ∧ ys[j]?.getD 0 ≤ 65535) (h : ansR fc ad qt to xs code ys = true) :
    Calls Try.prog 83 #[.agg #[.int .i64 fc, .int .i64 ad, .int .i64 qt, .slice A n c, .int .i64 to, .bool (readsB fc), .bool (readsBits fc), .int .i64 code, .slice A2 n2 c2]] w (RetI .u8 (repR fc ad qt to xs code ys) w) := by
  obtain ⟨h1, h2, h3⟩ := ans_parts h
  unfold repR repL
  by_cases hc : code = 0
  · subst hc
    rw [if_neg (by simp)]
    have q := right_qty h1
    have h3 := (h3 rfl).1
    have hl := hy.len
    cases hb : readsB fc
    · rw [if_neg (by decide)]
      exact coded05_writes fc ad qt to A A2 n c n2 c2 _ xs w hx hr nm (fun _ => right_five h1)
    · rw [if_pos rfl]
      rw [hb, if_pos rfl] at h3
      exact coded05_reads fc ad qt to A A2 n c n2 c2 _ ys w hy hyr (by omega)
  · rw [if_pos hc]
    exact coded05_exc fc ad qt to code A A2 n c n2 c2 _ _ w hc

set_option maxRecDepth 100000 in
set_option maxHeartbeats 3200000 in
theorem tells_any (ga gb : Nat) (fc ad qt to code : Int) (A A2 Ab : Option Addr) (n c n2 c2 m cb : Nat) (xs ys bs : List Int) (w : World) (ha : w.heap[ga]? = some (.cells #[.int .i64 fc, .int .i64 ad, .int .i64 qt, .slice A n c, .int .i64 to, .bool (readsB fc), .bool (readsBits fc)] 167 (0, 0))) (hb : w.heap[gb]? = some (.cells #[.slice Ab m cb] 34 (0, 0)))
    (hx : RdI w w.heap.size .u16 A n xs) (hr : ∀ j : Nat, 0 ≤ xs[j]?.getD 0 ∧ xs[j]?.getD 0 ≤ 65535) (nm : n ≤ maxLen)
    (hy : RdI w w.heap.size .u16 A2 n2 ys) (hyr : ∀ j : Nat, 0 ≤ ys[j]?.getD 0 ∧ ys[j]?.getD 0 ≤ 65535) (nm2 : n2 ≤ maxLen) (hz : RdI w w.heap.size .u8 Ab m bs) :
    Calls Try.prog 80 #[.agg #[.int .i64 code, .slice A2 n2 c2], .pointer (some ⟨ga, 0, none⟩), .pointer (some ⟨gb, 0, none⟩)] w
      fun e w' => e = .returned (.bool (ansR fc ad qt to xs code ys && ((strOfNums (repR fc ad qt to xs code ys)).toList == (strOfNums bs).toList))) ∧ Ext w w' := by
  have E1 := (Ext.refl w).goA (.cells #[.int .i64 code, .slice A2 n2 c2] 54)
  have a1 := cellsAt ((E1.block _ (lt_of_block ha)).trans ha)
  have E2 := E1.goA (.cells #[.int .i64 fc, .int .i64 ad, .int .i64 qt, .slice A n c, .int .i64 to, .bool (readsB fc), .bool (readsBits fc), .int .i64 code, .slice A2 n2 c2] 170)
  have bx := fun w' (D : Ext ((w.alloc (.cells #[.int .i64 code, .slice A2 n2 c2] 54)).alloc (.cells #[.int .i64 fc, .int .i64 ad, .int .i64 qt, .slice A n c, .int .i64 to, .bool (readsB fc), .bool (readsBits fc), .int .i64 code, .slice A2 n2 c2] 170)) w') => cellsAt ((D.block (w.heap.size + 1) (by simp)).trans (by rw [alloc_get, if_pos (by simp)]))
  have by_ := fun w' (D : Ext ((w.alloc (.cells #[.int .i64 code, .slice A2 n2 c2] 54)).alloc (.cells #[.int .i64 fc, .int .i64 ad, .int .i64 qt, .slice A n c, .int .i64 to, .bool (readsB fc), .bool (readsBits fc), .int .i64 code, .slice A2 n2 c2] 170)) w') => cellsAt (((E2.go D).block gb (lt_of_block hb)).trans hb)
  have bx' := Lib.hid bx
  have by' := Lib.hid by_
  have hx' := Lib.hid hx
  have hy' := Lib.hid hy
  have hz' := Lib.hid hz
  have hr' := Lib.hid hr
  have hyr' := Lib.hid hyr
  have hca := Lib.hid (fun h A n c A2 n2 c2 w' hx nm hy => coded05_any fc ad qt to code A A2 n c n2 c2 xs ys w' hx hr nm hy hyr h)
  clear bx by_ hx hy hz hr hyr ha hb
  cases h : ansR fc ad qt to xs code ys
  · have h' := Lib.hid h
    clear h
    go_enter Try.func80, Try.ntmps80
    go_wp2_with fail
    generalize (w.alloc (.cells #[.int .i64 code, .slice A2 n2 c2] 54)).alloc (.cells #[.int .i64 fc, .int .i64 ad, .int .i64 qt, .slice A n c, .int .i64 to, .bool (readsB fc), .bool (readsBits fc), .int .i64 code, .slice A2 n2 c2] 170) = W at *
    have bx := bx'.out
    have by_ := by'.out
    have d0 : Ext W W.drew := (Ext.refl _).god
    have x0 := Lib.hid (hx'.out.ext E2)
    have y0 := Lib.hid (hy'.out.ext E2)
    have z0 := Lib.hid (hz'.out.ext E2)
    clear hx' hy' hz'
    refine wp_region_held_drew (S := fun w' => Ext W w') (by kernel_rfl) d0 (fun hHeld => ?_)
    refine tk 0 ?_
    try simp only [Act.put, gA, gC, List.setIfInBounds_toArray, gE, gF]
    refine wpAnyH_ready (rs := [1]) (by kernel_rfl) (by simp) ?_
    refine AllReadyH.cons rfl (fun K hK => ?_) ?_
    rotate_left
    · exact AllReadyH.nil
    go_simp
    go_at_call 81
    refine (right05_any fc ad qt to code A A2 n c n2 c2 (readsB fc) (readsBits fc) xs ys _ (x0.out.ext d0) (y0.out.ext d0) nm nm2).mono ?_
    rw [show ansB (rightB' fc ad qt to xs) (readsB fc) (readsBits fc) qt code ys = false from h'.out]
    rintro e w1 ⟨rfl, d1⟩
    have d1' := d0.go d1
    try dsimp only
    refine hK.out _ _ ?_ (fun hHeld => ?_)
    · first | assumption | (dsimp only; assumption)
    clear hK K
    try simp only [Act.put, gA, gB, gC, List.setIfInBounds_toArray, gE, gF]
    refine tk 2 ?_
    try simp only [Act.put, gA, gB, gC, List.setIfInBounds_toArray, gE, gF]
    refine skH 3 ?_
    try simp only [Act.put, gA, gB, gC, List.setIfInBounds_toArray, gE, gF]
    refine skH 4 ?_
    try simp only [Act.put, gA, gB, gC, List.setIfInBounds_toArray, gE, gF]
    refine skH 5 ?_
    try simp only [Act.put, gA, gB, gC, List.setIfInBounds_toArray, gE, gF]
    refine skH 6 ?_
    try simp only [Act.put, gA, gB, gC, List.setIfInBounds_toArray, gE, gF]
    refine tk 7 ?_
    try simp only [Act.put, gA, gB, gC, List.setIfInBounds_toArray, gE, gF]
    refine tk 8 ?_
    try simp only [Act.put, gA, gB, gC, List.setIfInBounds_toArray, gE, gF]
    refine wpAnyH_done (by kernel_rfl) ?_ _
    go_wp2_with fail
    go_ret
    exact ⟨rfl, E2.go d1'⟩
  · have h' := Lib.hid h
    clear h
    rw [Bool.true_and]
    generalize hve : ((strOfNums (repR fc ad qt to xs code ys)).toList == (strOfNums bs).toList) = ve
    have hve' := Lib.hid hve
    clear hve
    go_enter Try.func80, Try.ntmps80
    go_wp2_with fail
    generalize (w.alloc (.cells #[.int .i64 code, .slice A2 n2 c2] 54)).alloc (.cells #[.int .i64 fc, .int .i64 ad, .int .i64 qt, .slice A n c, .int .i64 to, .bool (readsB fc), .bool (readsBits fc), .int .i64 code, .slice A2 n2 c2] 170) = W at *
    have bx := bx'.out
    have by_ := by'.out
    have d0 : Ext W W.drew := (Ext.refl _).god
    have x0 := Lib.hid (hx'.out.ext E2)
    have y0 := Lib.hid (hy'.out.ext E2)
    have z0 := Lib.hid (hz'.out.ext E2)
    clear hx' hy' hz'
    refine wp_region_held_drew (S := fun w' => Ext W w') (by kernel_rfl) d0 (fun hHeld => ?_)
    refine tk 0 ?_
    try simp only [Act.put, gA, gC, List.setIfInBounds_toArray, gE, gF]
    refine wpAnyH_ready (rs := [1]) (by kernel_rfl) (by simp) ?_
    refine AllReadyH.cons rfl (fun K hK => ?_) ?_
    rotate_left
    · exact AllReadyH.nil
    go_simp
    go_at_call 81
    refine (right05_any fc ad qt to code A A2 n c n2 c2 (readsB fc) (readsBits fc) xs ys _ (x0.out.ext d0) (y0.out.ext d0) nm nm2).mono ?_
    rw [show ansB (rightB' fc ad qt to xs) (readsB fc) (readsBits fc) qt code ys = true from h'.out]
    rintro e w1 ⟨rfl, d1⟩
    have d1' := d0.go d1
    try dsimp only
    refine hK.out _ _ ?_ (fun hHeld => ?_)
    · first | assumption | (dsimp only; assumption)
    clear hK K
    try simp only [Act.put, gA, gB, gC, List.setIfInBounds_toArray, gE, gF]
    refine tk 2 ?_
    try simp only [Act.put, gA, gB, gC, List.setIfInBounds_toArray, gE, gF]
    refine tk 3 ?_
    try simp only [Act.put, gA, gB, gC, List.setIfInBounds_toArray, gE, gF]
    refine tk 5 ?_
    try simp only [Act.put, gA, gB, gC, List.setIfInBounds_toArray, gE, gF]
    refine wpAnyH_ready (rs := [4]) (by kernel_rfl) (by simp) ?_
    refine AllReadyH.cons rfl (fun K hK => ?_) ?_
    rotate_left
    · exact AllReadyH.nil
    go_simp
    go_at_call 83
    refine (hca.out h'.out A n c A2 n2 c2 w1 (x0.out.ext d1') nm (y0.out.ext d1')).mono ?_
    rintro e w2 ⟨A3, n3, c3, rfl, _, _, r3, d2⟩
    have d2' := d1'.go d2
    try dsimp only
    refine hK.out _ _ ?_ (fun hHeld => ?_)
    · first | assumption | (dsimp only; assumption)
    clear hK K
    try simp only [Act.put, gA, gB, gC, List.setIfInBounds_toArray, gE, gF]
    refine wpAnyH_ready (rs := [6]) (by kernel_rfl) (by simp) ?_
    refine AllReadyH.cons rfl (fun K hK => ?_) ?_
    rotate_left
    · exact AllReadyH.nil
    go_simp
    go_at_call 82
    refine (equal_any A3 Ab n3 c3 m cb w2.heap.size _ bs w2 r3 (z0.out.ext d2')).mono ?_
    rw [hve'.out]
    rintro e w3 ⟨rfl, d3⟩
    have d3' := d2'.go d3
    try dsimp only
    refine hK.out _ _ ?_ (fun hHeld => ?_)
    · first | assumption | (dsimp only; assumption)
    clear hK K
    try simp only [Act.put, gA, gB, gC, List.setIfInBounds_toArray, gE, gF]
    refine tk 7 ?_
    try simp only [Act.put, gA, gB, gC, List.setIfInBounds_toArray, gE, gF]
    refine tk 8 ?_
    try simp only [Act.put, gA, gB, gC, List.setIfInBounds_toArray, gE, gF]
    refine wpAnyH_done (by kernel_rfl) ?_ _
    go_wp2_with fail
    go_ret
    exact ⟨rfl, E2.go d3'⟩
end Go.Proofs.Ytgagpalffdgjnaa
namespace Go.Proofs.Ytgagpalffdgjnaa
open Go.RowKit

/-- The values that bytes may tell of q that were read. -/
def takenV (r b : Bool) (qt : Int) (bs : List Int) : List Int :=
  if (if r then qt else 0) = 0 ∨ bs.length < 2 then [] else if b then unbitsL (bs.drop 2) qt.toNat else if ((bs.length - 2 : Nat) : Int) ≠ 2 * qt then [] else wordsAt bs 2 qt.toNat
def fillW (bs : List Int) (q k : Nat) : List Int := (List.range q).map fun i => if i < k then wordAt bs (2 + 2 * i) else 0
theorem fillW_length (bs : List Int) (q k : Nat) : (fillW bs q k).length = q := by simp [fillW]
theorem fillW_zero (bs : List Int) (q : Nat) : fillW bs q 0 = zs q := by
  unfold fillW zs
  apply List.ext_getElem?
  intro i
  by_cases h : i < q <;> simp [h]
theorem fillW_all (bs : List Int) (q : Nat) : fillW bs q q = wordsAt bs 2 q := by
  unfold fillW wordsAt
  apply List.map_congr_left
  intro i hi
  rw [List.mem_range] at hi
  rw [if_pos hi]
theorem fillW_set (bs : List Int) (q k : Nat) (hk : k < q) : (fillW bs q k).set k (wordAt bs (2 + 2 * k)) = fillW bs q (k + 1) := by
  apply List.ext_getElem?
  intro i
  rw [List.getElem?_set, fillW_length]
  by_cases hi : i < q
  · by_cases e : k = i
    · subst e
      rw [if_pos rfl, if_pos hi]
      unfold fillW
      rw [List.getElem?_map, List.getElem?_range hi]
      simp
    · rw [if_neg e]
      unfold fillW
      rw [List.getElem?_map, List.getElem?_map, List.getElem?_range hi]
      simp only [Option.map_some]
      by_cases h2 : i < k
      · rw [if_pos h2, if_pos (by omega)]
      · rw [if_neg h2, if_neg (by omega)]
  · rw [if_neg (by omega), List.getElem?_eq_none (by rw [fillW_length]; omega), List.getElem?_eq_none (by rw [fillW_length]; omega)]
theorem u16_or (x y : Int) (h0 : 0 ≤ x) (h1 : x ≤ 255) (h2 : 0 ≤ y) (h3 : y ≤ 255) : bits .or .u16 (x * 256) y = 256 * x + y := by
  rw [bits_join .u16 16 (by decide) (fun n h0 h1 => by rw [IntKind.wrap_u16]; omega) 8 (x * 256) y (by omega) (by omega) (by omega) h2 (by omega) (by omega)]
  omega

set_option maxRecDepth 100000 in
set_option maxHeartbeats 1600000 in
theorem taken05_none (fc ad qt to : Int) (A A2 : Option Addr) (n c m c2 : Nat) (r b : Bool) (w : World) (h : (if r then qt else 0) = 0 ∨ m < 2) :
    Calls Try.prog 84 #[.agg #[.int .i64 fc, .int .i64 ad, .int .i64 qt, .slice A n c, .int .i64 to, .bool r, .bool b], .slice A2 m c2] w fun e w' => e = .returned (.slice none 0 0) ∧ Ext w w' := by
  have bx := fun w' (D : Ext (w.alloc (.cells #[.int .i64 fc, .int .i64 ad, .int .i64 qt, .slice A n c, .int .i64 to, .bool r, .bool b] 167)) w') => cellsAt ((D.block w.heap.size (by simp)).trans (heap_alloc_new w _))
  have bx' := Lib.hid bx
  have E0 := (Ext.refl w).goA (.cells #[.int .i64 fc, .int .i64 ad, .int .i64 qt, .slice A n c, .int .i64 to, .bool r, .bool b] 167)
  clear bx
  generalize hM : (if r = true then qt else 0) = M at h
  have hM' := Lib.hid hM
  clear hM
  by_cases h0 : M = 0
  · subst h0
    clear h
    go_enter Try.func84, Try.ntmps84
    go_wp2_with fail
    refine (many_any fc ad qt to A n c r b _).mono ?_
    rw [hM'.out]
    rintro e w1 ⟨rfl, D1⟩
    go_wp2_with fail
    go_ret
    exact ⟨rfl, E0.go D1⟩
  · have t1 : (M == 0) = false := by simp; exact h0
    have t2 : decide ((m : Int) < 2) = true := by simp; omega
    clear h h0
    go_enter Try.func84, Try.ntmps84
    go_wp2_with fail
    refine (many_any fc ad qt to A n c r b _).mono ?_
    rw [hM'.out]
    rintro e w1 ⟨rfl, D1⟩
    go_wp2_with fail
    go_ret
    exact ⟨rfl, E0.go D1⟩
set_option maxRecDepth 100000 in
set_option maxHeartbeats 3200000 in
theorem taken05_bits (fc ad qt to : Int) (A A2 : Option Addr) (n c m c2 : Nat) (bs : List Int) (w : World) (hz : RdI w w.heap.size .u8 A2 (m + 2) bs) (hb : ByteL bs) (hmc : m + 2 ≤ c2) (hcm : c2 ≤ maxLen) (q0 : 1 ≤ qt) (q1 : qt ≤ 2000) :
    Calls Try.prog 84 #[.agg #[.int .i64 fc, .int .i64 ad, .int .i64 qt, .slice A n c, .int .i64 to, .bool true, .bool true], .slice A2 (m + 2) c2] w (RetI .u16 (unbitsL (bs.drop 2) qt.toNat) w) := by
  have hb2 : ByteL (bs.drop 2) := fun j => by rw [List.getElem?_drop]; exact hb _
  obtain ⟨Q, rfl⟩ := Int.eq_ofNat_of_zero_le (show 0 ≤ qt by omega)
  have bx := fun w' (D : Ext (w.alloc (.cells #[.int .i64 fc, .int .i64 ad, .int .i64 Q, .slice A n c, .int .i64 to, .bool true, .bool true] 167)) w') => cellsAt ((D.block w.heap.size (by simp)).trans (heap_alloc_new w _))
  have bx' := Lib.hid bx
  have E0 := (Ext.refl w).goA (.cells #[.int .i64 fc, .int .i64 ad, .int .i64 Q, .slice A n c, .int .i64 to, .bool true, .bool true] 167)
  obtain ⟨bb, o, rfl, hbb, _⟩ := hz.at_ (show 0 < m + 2 by omega)
  have hz' := Lib.hid (hz.drop (show 2 ≤ m + 2 by omega))
  have t1 : ((Q : Int) == 0) = false := by simp; omega
  have t2 : decide (((m + 2 : Nat) : Int) < 2) = false := by simp; omega
  have t2' : decide ((m : Int) + 2 < 2) = false := by simp; omega
  have k1 : (2 : Int) ≤ (m : Int) + 2 := by omega
  have k2 : (2 : Int) ≤ ((m + 2 : Nat) : Int) := by omega
  have k3 : (m : Int) + 2 ≤ c2 := by omega
  have k4 : (2 : Int) ≤ c2 := by omega
  have k5 : 2 ≤ c2 := by omega
  clear bx hz hbb
  rcases (show c2 = 2 ∧ m = 0 ∨ ∃ c3, c2 = c3 + 3 by rcases Nat.lt_or_ge c2 3 with h | h; exact .inl (by omega); exact .inr ⟨c2 - 3, by omega⟩) with ⟨rfl, rfl⟩ | ⟨c3, rfl⟩
  · have r0 : RdI w w.heap.size .u8 (some ⟨bb, o, none⟩) 0 (bs.drop 2) := ⟨by have := hz'.out.1; omega, fun h => absurd h (by omega)⟩
    have r0' := Lib.hid r0
    clear r0
    go_enter Try.func84, Try.ntmps84
    go_wp2_with fail
    refine (many_any fc ad Q to A n c true _ _).mono ?_
    rw [if_pos rfl]
    rintro e w1 ⟨rfl, D1⟩
    have b1 := bx'.out w1 D1
    have E1 := E0.go D1
    go_wp2_with fail
    refine (unbits_any _ 0 0 Q (bs.drop 2) w1 (r0'.out.ext E1) (by decide) (by omega) hb2).mono ?_
    rintro e w2 ⟨rfl, b2, D2⟩
    have r2 := b2.rd b2.lt
    rw [unbitsL_length] at r2
    clear b2
    go_wp2_with fail
    go_ret
    exact ⟨_, _, _, rfl, Nat.le_refl _, by unfold maxLen; omega, r2, E1.go D2⟩
  · unfold maxLen at hcm
    go_enter Try.func84, Try.ntmps84
    go_wp2_with fail
    refine (many_any fc ad Q to A n c true _ _).mono ?_
    rw [if_pos rfl]
    rintro e w1 ⟨rfl, D1⟩
    have b1 := bx'.out w1 D1
    have E1 := E0.go D1
    go_wp2_with fail
    refine (unbits_any _ m _ Q (bs.drop 2) w1 (hz'.out.ext E1) (by unfold maxLen; omega) (by omega) hb2).mono ?_
    rintro e w2 ⟨rfl, b2, D2⟩
    have r2 := b2.rd b2.lt
    rw [unbitsL_length] at r2
    clear b2
    go_wp2_with fail
    go_ret
    exact ⟨_, _, _, rfl, Nat.le_refl _, by unfold maxLen; omega, r2, E1.go D2⟩
set_option maxRecDepth 100000 in
set_option maxHeartbeats 3200000 in
theorem taken05_bad (fc ad qt to : Int) (A A2 : Option Addr) (n c m c2 : Nat) (bs : List Int) (w : World) (hz : RdI w w.heap.size .u8 A2 (m + 2) bs) (hmc : m + 2 ≤ c2) (q0 : 1 ≤ qt) (q1 : qt ≤ 2000) (h : (m : Int) ≠ 2 * qt) :
    Calls Try.prog 84 #[.agg #[.int .i64 fc, .int .i64 ad, .int .i64 qt, .slice A n c, .int .i64 to, .bool true, .bool false], .slice A2 (m + 2) c2] w fun e w' => e = .returned (.slice none 0 0) ∧ Ext w w' := by
  have bx := fun w' (D : Ext (w.alloc (.cells #[.int .i64 fc, .int .i64 ad, .int .i64 qt, .slice A n c, .int .i64 to, .bool true, .bool false] 167)) w') => cellsAt ((D.block w.heap.size (by simp)).trans (heap_alloc_new w _))
  have bx' := Lib.hid bx
  have E0 := (Ext.refl w).goA (.cells #[.int .i64 fc, .int .i64 ad, .int .i64 qt, .slice A n c, .int .i64 to, .bool true, .bool false] 167)
  obtain ⟨bb, o, rfl, hbb, _⟩ := hz.at_ (show 0 < m + 2 by omega)
  have hz' := Lib.hid (hz.drop (show 2 ≤ m + 2 by omega))
  have t1 : (qt == 0) = false := by simp; omega
  have t2 : decide (((m + 2 : Nat) : Int) < 2) = false := by simp; omega
  have t2' : decide ((m : Int) + 2 < 2) = false := by simp; omega
  have k1 : (2 : Int) ≤ (m : Int) + 2 := by omega
  have k2 : (2 : Int) ≤ ((m + 2 : Nat) : Int) := by omega
  have k3 : (m : Int) + 2 ≤ c2 := by omega
  have k4 : (2 : Int) ≤ c2 := by omega
  have k5 : 2 ≤ c2 := by omega
  clear bx hz hbb
  have t3 : ((m : Int) == 2 * qt) = false := by simp; exact h
  have t4 : ((m : Int) != 2 * qt) = true := by simp; exact h
  have wm : IntKind.i64.wrap (2 * qt) = 2 * qt := by rw [IntKind.wrap_i64]; omega
  clear h
  rcases (show c2 = 2 ∧ m = 0 ∨ ∃ c3, c2 = c3 + 3 by rcases Nat.lt_or_ge c2 3 with h | h; exact .inl (by omega); exact .inr ⟨c2 - 3, by omega⟩) with ⟨rfl, rfl⟩ | ⟨c3, rfl⟩
  all_goals
    go_enter Try.func84, Try.ntmps84
    go_wp2_with fail
    refine (many_any fc ad qt to A n c true _ _).mono ?_
    rw [if_pos rfl]
    rintro e w1 ⟨rfl, D1⟩
    have b1 := bx'.out w1 D1
    have E1 := E0.go D1
    go_wp2_with fail
    go_ret
    exact ⟨rfl, E1⟩
theorem wordAt_in (l : List Int) (a : Nat) (h : a + 2 ≤ l.length) : wordAt l a = 256 * l.getD a 0 + l.getD (a + 1) 0 := by unfold wordAt; rw [if_neg (by omega)]
set_option maxRecDepth 100000 in
set_option maxHeartbeats 3200000 in
theorem taken05_words (fc ad to : Int) (Q : Nat) (A A2 : Option Addr) (n c c2 : Nat) (bs : List Int) (w : World) (hz : RdI w w.heap.size .u8 A2 (2 * Q + 2) bs) (hb : ByteL bs) (hmc : 2 * Q + 2 ≤ c2) (q0 : 1 ≤ Q) (q1 : Q ≤ 2000) :
    Calls Try.prog 84 #[.agg #[.int .i64 fc, .int .i64 ad, .int .i64 Q, .slice A n c, .int .i64 to, .bool true, .bool false], .slice A2 (2 * Q + 2) c2] w (RetI .u16 (wordsAt bs 2 Q) w) := by
  have bx := fun w' (D : Ext (w.alloc (.cells #[.int .i64 fc, .int .i64 ad, .int .i64 Q, .slice A n c, .int .i64 to, .bool true, .bool false] 167)) w') => cellsAt ((D.block w.heap.size (by simp)).trans (heap_alloc_new w _))
  have bx' := Lib.hid bx
  have E0 := (Ext.refl w).goA (.cells #[.int .i64 fc, .int .i64 ad, .int .i64 Q, .slice A n c, .int .i64 to, .bool true, .bool false] 167)
  obtain ⟨bb, o, rfl, hbb, _⟩ := hz.at_ (show 0 < 2 * Q + 2 by omega)
  have hl := hz.len
  have hcell : ∀ j, j < 2 * Q + 2 → w.cell? ⟨bb, o + j, none⟩ = some (.int .u8 (bs.getD j 0)) := by
    obtain ⟨b', o', e, _, hc⟩ := hz.2 (by omega)
    injection e with e; injection e with e1 e2
    subst e1 e2
    exact hc
  have hcell' := Lib.hid hcell
  have hb' := Lib.hid hb
  have t1 : ((Q : Int) == 0) = false := by simp; omega
  have t2 : decide ((2 * (Q : Int)) + 2 < 2) = false := by simp; omega
  have k1 : (2 : Int) ≤ 2 * (Q : Int) + 2 := by omega
  have k3 : 2 * (Q : Int) + 2 ≤ c2 := by omega
  have wm : IntKind.i64.wrap (2 * (Q : Int)) = 2 * (Q : Int) := by rw [IntKind.wrap_i64]; omega
  have hmk := fun w => run_mkI Try.underlying28 info_u16 (Q : Int) Q rfl (by omega) (by omega) w
  obtain ⟨c3, rfl⟩ : ∃ c3, c2 = c3 + 4 := ⟨c2 - 4, by omega⟩
  have hl' := Lib.hid hl
  clear bx hz hcell hb hl
  go_enter Try.func84, Try.ntmps84
  go_wp2_with fail
  refine (many_any fc ad Q to A n c true _ _).mono ?_
  rw [if_pos rfl]
  rintro e w1 ⟨rfl, D1⟩
  have b1 := bx'.out w1 D1
  have E1 := E0.go D1
  go_wp2_with fail
  go_loopw [38] (fun i wr => ∃ k : Nat, k ≤ Q ∧ i = .int .i64 k ∧ Blk wr w1.heap.size 43 .u16 (fillW bs Q k) ∧ Ext w wr) (fun i _ => Q - (intOf i).toNat)
  case atStart => exact ⟨0, by omega, rfl, by rw [fillW_zero]; exact Blk.new _ _ _ _, E1.goA _⟩
  case round =>
    obtain ⟨k, hk, rfl, hbl, hw⟩ := hrel
    by_cases hlt : k < Q
    · have z1 : ∀ w', Ext w w' → w'.cell? ⟨bb, o + 2 + 2 * k, none⟩ = some (.int .u8 (bs.getD (2 + 2 * k) 0)) := fun w' h => (h.cell _ hbb).trans (by rw [Nat.add_assoc]; exact hcell'.out _ (by omega))
      have z2 : ∀ w', Ext w w' → w'.cell? ⟨bb, o + 2 + (2 * k + 1), none⟩ = some (.int .u8 (bs.getD (2 + 2 * k + 1) 0)) := fun w' h => (h.cell _ hbb).trans (by rw [Nat.add_assoc, show 2 + (2 * k + 1) = 2 + 2 * k + 1 by omega]; exact hcell'.out _ (by omega))
      have c1 := hbl.cell k (by rw [fillW_length]; exact hlt)
      have c2 := hbl.frozen k
      have hset := hbl.set_ k (wordAt bs (2 + 2 * k))
      have hw1 : w.heap.size ≤ w1.heap.size := E1.size
      have y1 : IntKind.i64.wrap (2 * (k : Int)) = 2 * (k : Int) := by rw [IntKind.wrap_i64]; omega
      have y2 : IntKind.i64.wrap (2 * (k : Int) + 1) = 2 * (k : Int) + 1 := by rw [IntKind.wrap_i64]; omega
      have y3 : 2 * (k : Int) < 2 * (Q : Int) := by omega
      have y4 : 2 * (k : Int) + 1 < 2 * (Q : Int) := by omega
      have y5 : 0 ≤ 2 * (k : Int) := by omega
      have y6 : 0 ≤ 2 * (k : Int) + 1 := by omega
      have n1 : (2 * (k : Int)).toNat = 2 * k := by omega
      have n2 : (2 * (k : Int) + 1).toNat = 2 * k + 1 := by omega
      have eW : wordAt bs (2 + 2 * k) = 256 * bs.getD (2 + 2 * k) 0 + bs.getD (2 + 2 * k + 1) 0 := wordAt_in bs _ (by rw [hl'.out]; omega)
      have rX := hb'.out (2 + 2 * k)
      have rY := hb'.out (2 + 2 * k + 1)
      rw [← List.getD_eq_getElem?_getD] at rX rY
      rw [eW] at hset
      have eW' := Lib.hid eW
      clear eW
      generalize bs.getD (2 + 2 * k) 0 = X at *
      generalize bs.getD (2 + 2 * k + 1) 0 = Y at *
      have v1 : IntKind.u16.wrap X = X := by rw [IntKind.wrap_u16]; omega
      have v2 : IntKind.u16.wrap Y = Y := by rw [IntKind.wrap_u16]; omega
      have v3 : IntKind.u16.wrap (X * 256) = X * 256 := by rw [IntKind.wrap_u16]; omega
      have v4 : bits .or .u16 (X * 256) Y = 256 * X + Y := u16_or X Y rX.1 rX.2 rY.1 rY.2
      have rX' := Lib.hid rX
      have rY' := Lib.hid rY
      clear rX rY
      have d0 := hw.god
      go_wp2_with fail
      refine wp_region_held_drew (S := fun w' => Ext w w') (by kernel_rfl) d0 (fun hHeld => ?_)
      refine tk 0 ?_
      try simp only [Act.put, gA, gC, List.setIfInBounds_toArray, gE, gF]
      refine tk 1 ?_
      try simp only [Act.put, gA, gB, gC, List.setIfInBounds_toArray, gE, gF]
      refine tk 2 ?_
      try simp only [Act.put, gA, gB, gC, List.setIfInBounds_toArray, gE, gF]
      refine tk 3 ?_
      try simp only [Act.put, gA, gB, gC, List.setIfInBounds_toArray, gE, gF]
      refine tk 4 ?_
      try simp only [Act.put, gA, gB, gC, List.setIfInBounds_toArray, gE, gF]
      refine tk 5 ?_
      try simp only [Act.put, gA, gB, gC, List.setIfInBounds_toArray, gE, gF]
      refine tk 9 ?_
      try simp only [Act.put, gA, gB, gC, List.setIfInBounds_toArray, gE, gF]
      refine tk 10 ?_
      try simp only [Act.put, gA, gB, gC, List.setIfInBounds_toArray, gE, gF]
      refine tk 11 ?_
      try simp only [Act.put, gA, gB, gC, List.setIfInBounds_toArray, gE, gF]
      refine tk 12 ?_
      try simp only [Act.put, gA, gB, gC, List.setIfInBounds_toArray, gE, gF]
      refine tk 13 ?_
      try simp only [Act.put, gA, gB, gC, List.setIfInBounds_toArray, gE, gF]
      refine tk 6 ?_
      try simp only [Act.put, gA, gB, gC, List.setIfInBounds_toArray, gE, gF]
      refine tk 7 ?_
      try simp only [Act.put, gA, gB, gC, List.setIfInBounds_toArray, gE, gF]
      refine tk 8 ?_
      try simp only [Act.put, gA, gB, gC, List.setIfInBounds_toArray, gE, gF]
      refine tk 14 ?_
      try simp only [Act.put, gA, gB, gC, List.setIfInBounds_toArray, gE, gF]
      refine tk 15 ?_
      try simp only [Act.put, gA, gB, gC, List.setIfInBounds_toArray, gE, gF]
      refine tk 16 ?_
      try simp only [Act.put, gA, gB, gC, List.setIfInBounds_toArray, gE, gF]
      refine tk 17 ?_
      try simp only [Act.put, gA, gB, gC, List.setIfInBounds_toArray, gE, gF]
      have d1 : Ext w (wr.drew.setCell ⟨w1.heap.size, k, none⟩ (.int .u16 (256 * X + Y))) := d0.goS (p := ⟨w1.heap.size, k, none⟩) hw1 _
      refine wpAnyH_ready (rs := [18]) (by kernel_rfl) (by simp) ?_
      refine AllReadyH.cons rfl (fun K hK => ?_) ?_
      rotate_left
      · exact AllReadyH.nil
      go_simp
      refine hK.out _ _ ?_ (fun hHeld => ?_)
      · exact d1
      clear hK K
      try simp only [Act.put, gA, gB, gC, List.setIfInBounds_toArray, gE, gF]
      refine wpAnyH_done (by kernel_rfl) ?_ _
      go_wp2_with fail
      go_roundw
      case rel =>
        refine ⟨k + 1, by omega, by go_num, ?_, d1⟩
        have hs := fillW_set bs Q k hlt
        rw [eW'.out] at hs
        rw [← hs]
        exact hset
      case measure => simp [intOf]; omega
    · obtain rfl : k = Q := by omega
      go_wp2
      go_ret
      rw [fillW_all] at hbl
      have r2 := hbl.rd hbl.lt
      rw [wordsAt_length] at r2
      exact ⟨_, _, _, rfl, Nat.le_refl _, by unfold maxLen; omega, r2, hw⟩
theorem taken05_any (fc ad qt to : Int) (A A2 : Option Addr) (n c m c2 : Nat) (r b : Bool) (bs : List Int) (w : World) (hz : RdI w w.heap.size .u8 A2 m bs) (hb : ByteL bs) (hmc : m ≤ c2) (hcm : c2 ≤ maxLen) (q0 : 0 ≤ qt) (q1 : qt ≤ 2000) :
    Calls Try.prog 84 #[.agg #[.int .i64 fc, .int .i64 ad, .int .i64 qt, .slice A n c, .int .i64 to, .bool r, .bool b], .slice A2 m c2] w (RetI .u16 (takenV r b qt bs) w) := by
  have hl := hz.len
  have none_ : ∀ {e w'}, (e = .returned (.slice none 0 0) ∧ Ext w w') → RetI .u16 [] w e w' := fun {e w'} h => ⟨none, 0, 0, h.1, Nat.le_refl _, by decide, RdI.nil _, h.2⟩
  unfold takenV
  by_cases h : (if r then qt else 0) = 0 ∨ bs.length < 2
  · rw [if_pos h]
    rw [hl] at h
    exact (taken05_none fc ad qt to A A2 n c m c2 r b w h).mono fun e w' => none_
  · rw [if_neg h]
    have hr : r = true := by cases r; exact absurd (.inl rfl) h; rfl
    subst hr
    rw [if_pos rfl] at h
    obtain ⟨m', rfl⟩ : ∃ m', m = m' + 2 := ⟨m - 2, by omega⟩
    cases b
    · rw [if_neg (by decide)]
      by_cases h2 : ((bs.length - 2 : Nat) : Int) ≠ 2 * qt
      · rw [if_pos h2]
        exact (taken05_bad fc ad qt to A A2 n c m' c2 bs w hz hmc (by omega) q1 (by omega)).mono fun e w' => none_
      · rw [if_neg h2]
        obtain ⟨Q, rfl⟩ := Int.eq_ofNat_of_zero_le q0
        have hm : m' = 2 * Q := by omega
        subst hm
        exact taken05_words fc ad to Q A A2 n c c2 bs w hz hb hmc (by omega) (by omega)
    · rw [if_pos rfl]
      exact taken05_bits fc ad qt to A A2 n c m' c2 bs w hz hb hmc hcm (by omega) q1
end Go.Proofs.Ytgagpalffdgjnaa
