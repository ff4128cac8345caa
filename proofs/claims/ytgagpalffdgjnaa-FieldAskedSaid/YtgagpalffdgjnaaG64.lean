/- Layer 24, the law FieldAsked: what a request comes to. · The reference of layer 6: its bank, walked: Serve; two replies that are alike; two banks that are alike. · Layer 24: a field, a bank of the reference beside it, and bytes that are kept. -/
import Derived.Test.YtgagpalffdgjnaaFieldP
import Derived.Test.YtgagpalffdgjnaaG13
import Derived.Test.YtgagpalffdgjnaaG25
import Derived.Test.YtgagpalffdgjnaaG16
namespace Go.Proofs.Ytgagpalffdgjnaa
open Go.RowKit

theorem strOf_inj {a b : List Int} (ha : ByteL a) (hb : ByteL b) (h : strOfNums a = strOfNums b) : a = b := by
  have h1 : a.map (fun n => UInt8.ofNat n.toNat) = b.map (fun n => UInt8.ofNat n.toNat) := by
    have := congrArg (fun s : ByteArray => s.data.toList) h
    simpa [strOfNums] using this
  have hl : a.length = b.length := by have := congrArg List.length h1; simpa using this
  apply List.ext_getElem hl
  intro i h2 h3
  have h4 : (a.map (fun n => UInt8.ofNat n.toNat))[i]'(by simpa using h2) = (b.map (fun n => UInt8.ofNat n.toNat))[i]'(by simpa using h3) := by simp only [h1]
  simp only [List.getElem_map] at h4
  have h5 := congrArg UInt8.toNat h4
  have x1 := ha i
  have x2 := hb i
  rw [List.getElem?_eq_getElem h2] at x1
  rw [List.getElem?_eq_getElem h3] at x2
  simp only [Option.getD_some] at x1 x2
  simp only [UInt8.toNat_ofNat'] at h5
  omega
theorem strOf_ne {a b : List Int} (ha : ByteL a) (hb : ByteL b) (h : a ≠ b) : ((strOfNums a).toList == (strOfNums b).toList) = false := by
  rw [beq_eq_false_iff_ne]
  intro e
  have ea : (strOfNums a).toList = (strOfNums a).data.toList := ByteArray.toList_eq _
  have eb : (strOfNums b).toList = (strOfNums b).data.toList := ByteArray.toList_eq _
  rw [ea, eb, strOfNums_data, strOfNums_data] at e
  refine h (strOf_inj ha hb ?_)
  have e2 : a.map (fun n => UInt8.ofNat n.toNat) = b.map (fun n => UInt8.ofNat n.toNat) := e
  unfold strOfNums
  rw [e2]
theorem xor_one {y : Int} (h0 : 0 ≤ y) (h1 : y ≤ 255) : bits .xor .u8 y 1 ≠ y ∧ 0 ≤ bits .xor .u8 y 1 ∧ bits .xor .u8 y 1 ≤ 255 := by
  have h : ∀ k : Fin 256, bits .xor .u8 (k.val : Int) 1 ≠ (k.val : Int) ∧ 0 ≤ bits .xor .u8 (k.val : Int) 1 ∧ bits .xor .u8 (k.val : Int) 1 ≤ 255 := by decide +kernel
  have := h ⟨y.toNat, by omega⟩
  rwa [show ((⟨y.toNat, by omega⟩ : Fin 256).val : Int) = y from by simp; omega] at this
theorem byteL_set {l : List Int} (h : ByteL l) (k : Nat) {v : Int} (h0 : 0 ≤ v) (h1 : v ≤ 255) : ByteL (l.set k v) := by
  refine rng_of (by omega) (by omega) fun y hy => ?_
  rcases List.mem_or_eq_of_mem_set hy with hy | rfl
  · obtain ⟨j, hj, rfl⟩ := List.getElem_of_mem hy
    have := h j
    rw [List.getElem?_eq_getElem hj] at this
    exact this
  · exact ⟨h0, h1⟩
theorem flip_ne {l : List Int} (h : ByteL l) {k : Nat} (hk : k < l.length) : ((strOfNums (flipL l k)).toList == (strOfNums l).toList) = false ∧ (flipL l k).length = l.length := by
  have h1 := h k
  rw [← List.getD_eq_getElem?_getD] at h1
  have h2 := xor_one h1.1 h1.2
  refine ⟨strOf_ne (byteL_set h k h2.2.1 h2.2.2) h fun e2 => ?_, List.length_set⟩
  have e3 := congrArg (fun l : List Int => l.getD k 0) e2
  unfold flipL at e3
  rw [List.getD_eq_getElem?_getD, List.getElem?_set_self hk, Option.getD_some] at e3
  exact h2.1 e3
theorem spoil_ne {j : Nat} {l : List Int} (h : ByteL l) (hl : 2 < l.length) : ((strOfNums (spoilL j l)).toList == (strOfNums l).toList) = false ∧ (spoilL j l).length = l.length := by
  unfold spoilL
  split
  · rw [if_pos (by omega)]; exact flip_ne h (by omega)
  · exact flip_ne h hl
/-- What a bank answers to a right request is an answer. -/
theorem answer_len {L : Nat → List Int} (hL : BitsL L) {fc ad qt tz : Int} {xs : List Int} (hr : rightB' fc ad qt tz xs = true) :
    1 ≤ (rputL fc ad qt tz xs (doC L fc ad qt tz xs) (doY L fc ad qt tz xs)).length ∧ (rputL fc ad qt tz xs (doC L fc ad qt tz xs) (doY L fc ad qt tz xs)).length ≤ 253 := by
  have ha := do_answers hL hr
  obtain ⟨h1, h2, h3, h4⟩ := rep_length ha
  unfold rputL
  rw [if_pos ha]
  refine ⟨?_, h4⟩
  by_cases hc : doC L fc ad qt tz xs = 0
  · by_cases hb : readsB fc = true
    · have h5 := h2 hc hb
      have hq : 0 ≤ qt := (right_do hr).2.1
      split at h5 <;> omega
    · have := h3 hc (by simpa using hb)
      omega
  · have := h1 hc
    omega
theorem frame_len {j : Nat} {id u : Int} {p : List Int} (h1 : 1 ≤ p.length) (h2 : p.length ≤ 253) : 2 < (frameL j id u p).length ∧ (frameL j id u p).length ≤ 260 := by
  unfold frameL rtuL mbapL
  split
  · rw [if_pos ⟨h1, h2⟩]; simp [sealL]; omega
  · rw [if_pos ⟨h1, h2⟩]; simp [mbapHead]; omega
/-- As it is between requests. -/
def StA (F : Fp) (j : Nat) (L : Nat → List Int) : Prop := F.L 0 = L ∧ F.W j = ⟨[], []⟩ ∧ BitsL L
/-- The fault that is asked for. -/
def faultA (F : Fp) (j : Nat) (K : Int) : Fp := if 0 < K then faultF F (j : Int) K 6 else F
theorem StA.new (j : Nat) : StA newF j (newL 256 256 0 0) := ⟨rfl, rfl, bits_new _ _ _ _⟩
theorem bitOf_bit {v : Int} (h : v = 0 ∨ v = 1) : bitOf v = v := by rcases h with rfl | rfl <;> rfl
theorem bits_put {L : Nat → List Int} (hL : BitsL L) (i : Int) {v : Int} (_h : v = 0 ∨ v = 1) : BitsL (putB L 1 i v) := by
  unfold putB
  split
  · intro k hk y hy
    by_cases e : k = 1
    · subst e
      have hy : y ∈ upd L 1 ((L 1).set i.toNat (putV 1 v)) 1 := hy
      rw [upd_same] at hy
      rcases List.mem_or_eq_of_mem_set hy with hy | rfl
      · exact hL 1 hk y hy
      · unfold putV; rw [if_pos (.inr rfl)]; omega
    · have hy : y ∈ upd L 1 ((L 1).set i.toNat (putV 1 v)) k := hy
      rw [upd_other _ _ e] at hy
      exact hL k hk y hy
  · exact hL
section
variable {F : Fp} {j : Nat} {L : Nat → List Int} {u : Int}
theorem StA.put (h : StA F j L) (i : Int) {v : Int} (hv : v = 0 ∨ v = 1) : StA (setF [((j : Int), u)] F 0 i v) j (putB L 1 i v) := by
  obtain ⟨h1, h2, h3⟩ := h
  refine ⟨?_, ?_, bits_put h3 i hv⟩
  · unfold setF
    rw [if_pos (by simp)]
    show upf F.L 0 (putB (F.L 0) 1 i (bitOf v)) 0 = _
    rw [upf_same, h1, bitOf_bit hv]
  · unfold setF
    rw [if_pos (by simp)]
    exact h2
theorem devAtA (j : Nat) (u : Int) : devAt [((j : Int), u)] j u = some 0 := by
  unfold devAt
  simp [List.findIdx?_cons]
theorem StA.faultOk (hj : j < 4) (h : StA F j L) {K : Int} (k0 : 0 < K) (k1 : K ≤ 4) : faultOk F (j : Int) K 6 = true := by
  unfold Go.Proofs.Ytgagpalffdgjnaa.faultOk
  rw [decide_eq_true_iff, Int.toNat_natCast, h.2.1]
  exact ⟨by omega, by omega, by omega, by omega, by omega, by omega, by decide⟩
theorem StA.faulted (hj : j < 4) (h : StA F j L) {K : Int} (_k0 : 0 ≤ K) (k1 : K ≤ 4) : (faultA F j K).L 0 = L ∧ ((faultA F j K).W j).ws = [] ∧ (nextX ((faultA F j K).W j)) = (if 0 < K then (K, 6) else (0, 0)) ∧ nextW ((faultA F j K).W j) = ⟨[], []⟩ := by
  unfold faultA
  by_cases hk : 0 < K
  · rw [if_pos hk, if_pos hk]
    unfold faultF
    rw [if_pos (h.faultOk hj hk k1), Int.toNat_natCast, h.2.1]
    refine ⟨h.1, ?_, ?_, ?_⟩
    · show (upf F.W j ⟨[] ++ [(K, 6)], []⟩ j).ws = []
      rw [upf_same]
    · show nextX (upf F.W j ⟨[] ++ [(K, 6)], []⟩ j) = _
      rw [upf_same]; rfl
    · show nextW (upf F.W j ⟨[] ++ [(K, 6)], []⟩ j) = _
      rw [upf_same]; rfl
  · rw [if_neg hk, if_neg hk]
    refine ⟨h.1, ?_, ?_, ?_⟩ <;> rw [h.2.1] <;> rfl
theorem due_none (hj : j < 4) {F : Fp} (h : (F.W j) = ⟨[], []⟩) (now : Int) : dueB F (j : Int) now = [] ∧ (dueF F (j : Int) now).W j = ⟨[], []⟩ ∧ (dueF F (j : Int) now).L = F.L := by
  unfold dueB dueF
  rw [if_pos (by omega), if_pos (by omega), Int.toNat_natCast, h]
  refine ⟨rfl, ?_, rfl⟩
  show upf F.W j ⟨[], []⟩ j = _
  rw [upf_same]
theorem due_early (hj : j < 4) {F : Fp} {at_ now : Int} {y : List Int} (h : (F.W j) = ⟨[], [(at_, y)]⟩) (hn : now < at_) : dueB F (j : Int) now = [] ∧ (dueF F (j : Int) now).W j = ⟨[], [(at_, y)]⟩ ∧ (dueF F (j : Int) now).L = F.L := by
  have d : decide (at_ ≤ now) = false := by simp; omega
  unfold dueB dueF
  rw [if_pos (by omega), if_pos (by omega), Int.toNat_natCast, h]
  refine ⟨by simp [d], ?_, rfl⟩
  show upf F.W j ⟨[], List.filter _ [(at_, y)]⟩ j = _
  rw [upf_same]
  simp [d]
theorem due_got (hj : j < 4) {F : Fp} {at_ : Int} {y : List Int} (h : (F.W j) = ⟨[], [(at_, y)]⟩) : dueB F (j : Int) at_ = [y] ∧ (dueF F (j : Int) at_).W j = ⟨[], []⟩ ∧ (dueF F (j : Int) at_).L = F.L := by
  unfold dueB dueF
  rw [if_pos (by omega), if_pos (by omega), Int.toNat_natCast, h]
  refine ⟨by simp, ?_, rfl⟩
  show upf F.W j ⟨[], List.filter _ [(at_, y)]⟩ j = _
  rw [upf_same]
  simp
variable {id fc ad qt tz now K : Int} {xs : List Int}
/-- Asked, by its fault. -/
def askedA (F : Fp) (j : Nat) (u : Int) (K id fc ad qt tz now : Int) (xs : List Int) : Fp := askF [((j : Int), u)] (faultA F j K) (j : Int) (frameL j id u (putL fc ad qt tz xs)) now
theorem asked_core (hj : j < 4) (h : StA F j L) (k0 : 0 ≤ K) (k1 : K ≤ 4) (n0 : 0 ≤ now) (n1 : now ≤ 1000000) (hr : rightB' fc ad qt tz xs = true) (hx : ∀ j : Nat, 0 ≤ xs[j]?.getD 0 ∧ xs[j]?.getD 0 ≤ 65535) :
    (K = 1 → StA (askedA F j u K id fc ad qt tz now xs) j L) ∧ (K = 2 → StA (askedA F j u K id fc ad qt tz now xs) j (doL L fc ad qt tz xs)) ∧
    (K ≠ 1 → K ≠ 2 → (askedA F j u K id fc ad qt tz now xs).L 0 = doL L fc ad qt tz xs ∧ (askedA F j u K id fc ad qt tz now xs).W j = ⟨[], [(if K = 4 then now + 1 + 6 else now + 1,
      if K = 3 then spoilL j (frameL j id u (rputL fc ad qt tz xs (doC L fc ad qt tz xs) (doY L fc ad qt tz xs))) else frameL j id u (rputL fc ad qt tz xs (doC L fc ad qt tz xs) (doY L fc ad qt tz xs)))]⟩) := by
  obtain ⟨f1, f2, f3, f4⟩ := h.faulted hj k0 k1
  have hbits := bits_do h.2.2 fc ad qt tz xs
  unfold askedA askF
  rw [if_pos (by omega), Int.toNat_natCast]
  rw [ask_framed hr hx (devAtA j u), f1, f3]
  have hW : (tookF (faultA F j K) j).W j = ⟨[], []⟩ := by
    show upf (faultA F j K).W j (nextW ((faultA F j K).W j)) j = _
    rw [upf_same, f4]
  have hL : (tookF (faultA F j K) j).L 0 = L := f1
  have hX : (if 0 < K then (K, (6 : Int)) else (0, 0)).1 = K := by split <;> simp <;> omega
  rw [hX]
  refine ⟨fun e => ?_, fun e => ?_, fun e1 e2 => ?_⟩
  · rw [if_pos e]; exact ⟨hL, hW, h.2.2⟩
  · rw [if_neg (by omega), if_pos e]
    refine ⟨?_, hW, hbits⟩
    show upf (faultA F j K).L 0 (doL L fc ad qt tz xs) 0 = _
    rw [upf_same]
  · rw [if_neg e1, if_neg e2]
    generalize rputL fc ad qt tz xs (doC L fc ad qt tz xs) (doY L fc ad qt tz xs) = R
    refine ⟨?_, ?_⟩
    · show upf (faultA F j K).L 0 (doL L fc ad qt tz xs) 0 = _
      rw [upf_same]
    · show upf (tookF (faultA F j K) j).W j ⟨((tookF (faultA F j K) j).W j).fs, ((tookF (faultA F j K) j).W j).ws ++ [(if (if 0 < K then (K, (6 : Int)) else (0, 0)).1 = 4 then now + 1 + (if 0 < K then (K, (6 : Int)) else (0, 0)).2 else now + 1, if (if 0 < K then (K, (6 : Int)) else (0, 0)).1 = 3 then spoilL j (frameL j id u R) else frameL j id u R)]⟩ j = _
      rw [upf_same, hW, hX]
      by_cases h4 : K = 4
      · rw [if_pos h4, if_pos h4, if_pos (by omega)]
        rfl
      · rw [if_neg h4, if_neg h4]
        rfl
end
end Go.Proofs.Ytgagpalffdgjnaa
namespace Go.Proofs.Ytgagpalffdgjnaa
open Go.RowKit

def RfServePost (ys : List Int) (base r : Nat) (L' : Nat → List Int) (w : World) (e : Ending) (w' : World) : Prop :=
  ∃ A n c, e = .returned (.slice A n c) ∧ n ≤ c ∧ c ≤ maxLen ∧ RdI w' w'.heap.size .u8 A n ys ∧ HasRf w' base r L' ∧ Mod (fun b => b = r) w w'
section
variable (base r : Nat) (L : Nat → List Int) (w : World)
set_option maxRecDepth 100000 in
set_option maxHeartbeats 3200000 in
theorem rfServe_any (A : Option Addr) (n c : Nat) (l : List Int) (hb : HasRf w base r L) (hx : RdI w w.heap.size .u8 A n l) (hl : ByteL l) (hm : n ≤ 9000) (hnc : n ≤ c) (hcm : c ≤ maxLen) :
    Calls Try.prog 32 #[.pointer (some ⟨r, 0, none⟩), .slice A n c] w (RfServePost (serveY L l) base r (serveL L l) w) := by
  have hgr := getR_range l hl
  have hget := ref04Get_any A n c l w hx hl hm hnc hcm
  have hb' := Lib.hid hb
  have hx' := Lib.hid hx
  have hrl : r < w.heap.size := by obtain ⟨Af, cf, h⟩ := hb; exact h.lt
  have hdr : ∀ (fc ad qt tw : Int) (xs : List Int), (∀ j : Nat, 0 ≤ xs[j]?.getD 0 ∧ xs[j]?.getD 0 ≤ 65535) → ∀ j : Nat, 0 ≤ (doY L fc ad qt tw xs)[j]?.getD 0 ∧ (doY L fc ad qt tw xs)[j]?.getD 0 ≤ 65535 := fun fc ad qt tw xs hr => by
    obtain ⟨Af, cf, h⟩ := hb
    exact do_range h.rng h.len hr
  unfold serveY serveL
  clear hb hx hl hm
  generalize getR l = R at *
  obtain ⟨⟨fc, ad, qt, tw, xs⟩, code⟩ := R
  dsimp only at *
  have hgr' := Lib.hid hgr
  have hget' := Lib.hid hget
  have hyr := Lib.hid (hdr fc ad qt tw xs hgr)
  clear hget hdr hgr
  by_cases hc : code = 0
  · subst hc
    rw [if_neg (by simp), if_neg (by simp)]
    have hdo := fun (A1 : Option Addr) (n1 c1 : Nat) w' (hb : HasRf w' base r L) (hx : RdI w' w'.heap.size .u16 A1 n1 xs) n1m => rfDo_any base r L fc ad qt tw A1 n1 c1 xs w' hb hx hgr'.out n1m
    generalize doC L fc ad qt tw xs = dc at *
    generalize doY L fc ad qt tw xs = dy at *
    generalize doL L fc ad qt tw xs = dL at *
    have hdo' := Lib.hid hdo
    clear hdo
    go_enter Try.func32, Try.ntmps32
    go_wp2_with fail
    refine hget'.out.mono ?_
    rintro e w1 ⟨A1, n1, c1, rfl, g1, g1', r1, D1, fr1⟩
    have X1 := (Ext.refl w1).goA (.cells #[.int .i64 fc, .int .i64 ad, .int .i64 qt, .slice A1 n1 c1, .int .i64 tw] 30)
    have E1 := D1.go X1
    have Q1 := heap_alloc_new w1 (.cells #[.int .i64 fc, .int .i64 ad, .int .i64 qt, .slice A1 n1 c1, .int .i64 tw] 30)
    have q1 := cellsAt Q1
    have Q1' := Lib.hid Q1
    have r1' := Lib.hid (r1.ext X1)
    have b1' := Lib.hid (hb'.out.ext E1)
    have hs1 := D1.size
    clear r1 Q1 fr1
    go_wp2_with fail
    generalize w1.alloc (.cells #[.int .i64 fc, .int .i64 ad, .int .i64 qt, .slice A1 n1 c1, .int .i64 tw] 30) = W at *
    refine (hdo'.out A1 n1 c1 W b1'.out r1'.out ⟨g1, g1'⟩).mono ?_
    rintro e w2 ⟨A2, n2, c2, rfl, g2, g2', r2, fr2, B2, M2⟩
    have X2 := (Ext.refl w2).goA (.cells #[.int .i64 dc, .slice A2 n2 c2] 54)
    have P2 := heap_alloc_new w2 (.cells #[.int .i64 dc, .slice A2 n2 c2] 54)
    have p2 := cellsAt P2
    have q2 := cellsAt ((X2.block _ (by have := M2.size; have := lt_of_block Q1'.out; omega)).trans ((M2.block _ (lt_of_block Q1'.out) (by omega)).trans Q1'.out))
    have r12 := Lib.hid ((r1'.out.past_rf b1'.out M2).ext X2)
    have r2' := Lib.hid (r2.ext X2)
    have B2' := Lib.hid (B2.ext X2)
    have M2' := Lib.hid (((Mod.ofBelow (S := fun b => b = r) E1).trans M2).trans (Mod.ofBelow X2))
    clear q1 r2 B2 M2 P2 fr2
    go_wp2_with fail
    refine (ref05Put_any fc ad qt tw dc A1 A2 n1 c1 n2 c2 xs dy _ r12.out hgr'.out (Nat.le_trans g1 g1') r2'.out hyr.out (Nat.le_trans g2 g2')).mono ?_
    unfold RetI
    rintro e w3 ⟨A3, n3, c3, rfl, g3, g3', r3, D3⟩
    go_wp2_with fail
    go_ret
    exact ⟨A3, n3, c3, rfl, g3, g3', r3, B2'.out.ext D3, M2'.out.trans (Mod.ofBelow D3)⟩
  · rw [if_pos hc, if_pos hc]
    have f1 : (code != 0) = true := by simp; exact hc
    go_enter Try.func32, Try.ntmps32
    go_wp2_with fail
    refine hget'.out.mono ?_
    rintro e w1 ⟨A1, n1, c1, rfl, g1, g1', r1, D1, fr1⟩
    have X1 := (Ext.refl w1).goA (.cells #[.int .i64 fc, .int .i64 ad, .int .i64 qt, .slice A1 n1 c1, .int .i64 tw] 30)
    have E1 := D1.go X1
    clear r1 fr1
    go_wp2_with fail
    refine (refAlarm_any A n c l code _ (hx'.out.ext E1)).mono ?_
    unfold RetI
    rintro e w3 ⟨A3, n3, c3, rfl, g3, g3', r3, D3⟩
    go_wp2_with fail
    go_ret
    exact ⟨A3, n3, c3, rfl, g3, g3', r3, hb'.out.ext (E1.go D3), Mod.ofBelow (E1.go D3)⟩
end
set_option maxRecDepth 100000 in
set_option maxHeartbeats 1600000 in
theorem ref05Same_eq (code : Int) (A1 A2 : Option Addr) (n1 c1 n2 c2 : Nat) (xs : List Int) (w : World) (h1 : RdI w w.heap.size .u16 A1 n1 xs) (h2 : RdI w w.heap.size .u16 A2 n2 xs) (hn1 : n1 ≤ maxLen) (hn2 : n2 ≤ maxLen) :
    Calls Try.prog 74 #[.agg #[.int .i64 code, .slice A1 n1 c1], .agg #[.int .i64 code, .slice A2 n2 c2]] w fun e w' => e = .returned (.bool true) ∧ Ext w w' := by
  have E0 := ((Ext.refl w).goA (.cells #[.int .i64 code, .slice A1 n1 c1] 54)).goA (.cells #[.int .i64 code, .slice A2 n2 c2] 54)
  have Q1 : ((w.alloc (.cells #[.int .i64 code, .slice A1 n1 c1] 54)).alloc (.cells #[.int .i64 code, .slice A2 n2 c2] 54)).heap[w.heap.size]? = some (.cells #[.int .i64 code, .slice A1 n1 c1] 54 (0, 0)) := by rw [alloc_get, if_neg (by simp), alloc_get, if_pos rfl]
  have Q2 : ((w.alloc (.cells #[.int .i64 code, .slice A1 n1 c1] 54)).alloc (.cells #[.int .i64 code, .slice A2 n2 c2] 54)).heap[w.heap.size + 1]? = some (.cells #[.int .i64 code, .slice A2 n2 c2] 54 (0, 0)) := by rw [alloc_get, if_pos (by simp)]
  have q1 := cellsAt Q1
  have q2 := cellsAt Q2
  have hs : ∀ w', Ext w w' → Calls Try.prog 107 #[.slice A1 n1 c1, .slice A2 n2 c2] w' fun e w'' => e = .returned (.bool true) ∧ Ext w' w'' := fun w' E => by
    refine (sameVals_any A1 A2 n1 c1 n2 c2 _ xs xs w' (h1.ext E) (h2.ext E) hn1 hn2).mono ?_
    rintro e w'' ⟨rfl, m, hm⟩
    exact ⟨by rw [decide_eq_true (rfl : xs = xs)], by rw [← hm]; exact (Ext.refl _).goD _⟩
  have hs' := Lib.hid hs
  clear Q1 Q2 hs h1 h2
  go_enter Try.func74, Try.ntmps74
  go_wp2_with fail
  refine (hs'.out _ E0).mono ?_
  rintro e w1 ⟨rfl, D1⟩
  go_wp2_with fail
  go_ret
  exact ⟨rfl, E0.go D1⟩
end Go.Proofs.Ytgagpalffdgjnaa
namespace Go.Proofs.Ytgagpalffdgjnaa
open Go.RowKit

/-- A field, the reference's bank, and bytes (A, n, xs) off what the field's calls may write. -/
structure FBat (w0 w : World) (base f r : Nat) (dev : List (Int × Int)) (F : Fp) (L : Nat → List Int) (A : Option Addr) (n : Nat) (xs : List Int) (M : Fdm) : Prop where
  hf : FdM w f dev F M
  gb : ∀ i, i < dev.length → ∀ k, k < 4 → M.G i k < base
  hr : HasRf w base r L
  old : Ext w0 w
  uu : ∀ b, M.U f dev.length b → w0.heap.size ≤ b
  rd : RdI w w.heap.size .u8 A n xs
  off : OffB (M.T f dev.length) A n
def FB (w0 w : World) (base f r : Nat) (dev : List (Int × Int)) (F : Fp) (L : Nat → List Int) (A : Option Addr) (n : Nat) (xs : List Int) : Prop := ∃ M, FBat w0 w base f r dev F L A n xs M
section
variable {w0 w w' : World} {base f r : Nat} {dev : List (Int × Int)} {F F' : Fp} {L L' : Nat → List Int} {A A' : Option Addr} {n n' : Nat} {xs xs' : List Int} {M M' : Fdm}
theorem HasRf.is (h : HasRf w base r L) : Is w r 138 := let ⟨_, _, h⟩ := h; ⟨_, _, h.head⟩
theorem FdM.rfOff (h : FdM w f dev F M) (hr : HasRf w base r L) : ¬ M.U f dev.length r := by
  rintro (hU | rfl | hU | ⟨i, hi, rfl⟩ | ⟨j, hj, rfl | ⟨q, hq, hn, o, e⟩⟩)
  · exact h.offT hr.is (by decide) (by decide) (by decide) (by decide) hU
  · exact h.notMap hr.is rfl
  · exact (h.isB hU).ne hr.is (by decide) rfl
  · exact (h.isg hi).ne hr.is (by decide) rfl
  · exact (h.isT hj).ne hr.is (by decide) rfl
  · exact (h.an j hj q hq).rd.ne_rf hr hn e rfl
theorem FBat.keepRf (h : FBat w0 w base f r dev F L A n xs M) (m : Mod (M.T f dev.length) w w') : HasRf w' base r L := by
  have hm := h.hf
  have hoff := hm.rfOff h.hr
  obtain ⟨B, c, hk⟩ := h.hr
  refine ⟨B, c, (m.block r hk.lt (fun ht => hoff (.inl ht))).trans hk.head, fun k hk4 => own_keep6 (hk.own k hk4) (fun b hb => m.block b ((hk.own k hk4).lt b hb).2 ?_), hk.hb, hk.len, hk.rng⟩
  have hb0 := ((hk.own k hk4).lt b hb).1
  have hu := own_is (hk.own k hk4) hb
  rintro (rfl | ⟨i, hi, k2, hk2, rfl⟩ | ⟨j, hj, e | e⟩)
  · exact hu.ne hm.isF (by decide) rfl
  · have := h.gb i hi k2 hk2; omega
  · exact hu.ne (hm.isV hj e) (by decide) rfl
  · exact hu.ne (hm.isW hj e) (by decide) rfl
theorem FBat.turn (h : FBat w0 w base f r dev F L A n xs M) (k1 : FdM w' f dev F' M') (k2 : Mod (M.T f dev.length) w w') (k3 : Grew w (M.T f dev.length) (M'.T f dev.length)) (k4 : Grew w (M.U f dev.length) (M'.U f dev.length)) (e : M'.G = M.G) : FBat w0 w' base f r dev F' L A n xs M' := by
  refine ⟨k1, fun i hi k hk => by rw [e]; exact h.gb i hi k hk, h.keepRf k2, h.old.goM k2 (fun b hb => h.uu b (.inl hb)), fun b hb => ?_, h.rd.modS h.off k2, fun hn b o e ht => ?_⟩
  · rcases k4 b hb with h1 | h1
    · exact h.uu b h1
    · have := h.old.size; omega
  · rcases k3 b ht with h1 | h1
    · exact h.off hn b o e h1
    · have := h.rd.lt_of hn e; omega
theorem FBat.step (h : FBat w0 w base f r dev F L A n xs M) (s : FdStep w w' f dev M F') : FB w0 w' base f r dev F' L A n xs := by
  obtain ⟨M', h1, h2, h3, h4, h5⟩ := s
  exact ⟨M', h.turn h1 h2 h3 h4 h5⟩
theorem FBat.ext (h : FBat w0 w base f r dev F L A n xs M) (E : Ext w w') : FBat w0 w' base f r dev F L A n xs M := ⟨h.hf.ext E, h.gb, h.hr.ext E, h.old.go E, h.uu, h.rd.ext E, h.off⟩
theorem FB.ext (h : FB w0 w base f r dev F L A n xs) (E : Ext w w') : FB w0 w' base f r dev F L A n xs := let ⟨M, h⟩ := h; ⟨M, h.ext E⟩
theorem FB.world (h : FB w0 w base f r dev F L A n xs) : Ext w0 w := let ⟨_, h⟩ := h; h.old
theorem FB.rd (h : FB w0 w base f r dev F L A n xs) : RdI w w.heap.size .u8 A n xs := let ⟨_, h⟩ := h; h.rd
theorem FB.rf (h : FB w0 w base f r dev F L A n xs) : HasRf w base r L := let ⟨_, h⟩ := h; h.hr
/-- Other bytes are kept: what is new since. -/
theorem FB.fresh (h : FB w0 w base f r dev F L A n xs) (E : Ext w w') (rd : RdI w' w'.heap.size .u8 A' n' xs') (up : ∀ b o, A' = some ⟨b, o, none⟩ → w.heap.size ≤ b) : FB w0 w' base f r dev F L A' n' xs' := by
  obtain ⟨M, h⟩ := h
  refine ⟨M, h.hf.ext E, h.gb, h.hr.ext E, h.old.go E, h.uu, rd, fun hn b o e ht => ?_⟩
  have := up b o e
  have := h.hf.lt (.inl ht)
  omega
theorem FB.bank (h : FB w0 w base f r dev F L A n xs) (hr : HasRf w' base r L') (m : Mod (fun b => b = r) w w') (hb : w0.heap.size ≤ r) : FB w0 w' base f r dev F L' A n xs := by
  obtain ⟨M, h⟩ := h
  have hoff := h.hf.rfOff h.hr
  exact ⟨M, h.hf.keep (fun b hb => m.block b (h.hf.lt hb) (fun e => hoff (e ▸ hb))) m.size, h.gb, hr, h.old.goM m (fun b hb => by omega), h.uu, h.rd.past_rf h.hr m, h.off⟩
theorem FB.make {w1 : World} {M : Fdm} (h1 : FdM w1 f dev F M) (E1 : Ext w0 w1) (u1 : ∀ b, M.U f dev.length b → w0.heap.size ≤ b) (h2 : HasRf w w1.heap.size r L) (E2 : Ext w1 w) : FB w0 w w1.heap.size f r dev F L none 0 [] :=
  ⟨M, h1.ext E2, fun i hi k hk => (h1.isG hi hk).lt, h2, E1.go E2, u1, RdI.nil _, fun hn => absurd hn (by omega)⟩
theorem setFB (h : FB w0 w base f r dev F L A n xs) (i k v : Int) :
    Calls Try.prog 26 #[.pointer (some ⟨f, 0, none⟩), .int .i64 i, .int .i64 k, .int .i64 v] w fun e w' => e = .returned (.bool (setOk dev F i k)) ∧ FB w0 w' base f r dev (setF dev F i k v) L A n xs := by
  obtain ⟨M, h⟩ := h
  refine (fieldSet_m h.hf i k v).mono ?_
  rintro e w' ⟨rfl, k1, k2⟩
  exact ⟨rfl, M, h.turn k1 k2 (Grew.refl _ _) (Grew.refl _ _) rfl⟩
theorem faultFB (h : FB w0 w base f r dev F L A n xs) (l k v : Int) :
    Calls Try.prog 28 #[.pointer (some ⟨f, 0, none⟩), .int .i64 l, .int .i64 k, .int .i64 v] w fun e w' => e = .returned (.bool (faultOk F l k v)) ∧ FB w0 w' base f r dev (faultF F l k v) L A n xs := by
  obtain ⟨M, h⟩ := h
  refine (fieldFault_m h.hf l k v).mono ?_
  rintro e w' ⟨rfl, s⟩
  exact ⟨rfl, h.step s⟩
theorem askFB (h : FB w0 w base f r dev F L A n xs) {N : Nat} (hok : FOk F N) (hN : N ≤ 1000000) {c : Nat} (hl : ByteL xs) (hnc : n ≤ c) (hcm : c ≤ maxLen) (hn : n ≤ 1000000) (line now : Int) :
    Calls Try.prog 29 #[.pointer (some ⟨f, 0, none⟩), .int .i64 line, .slice A n c, .int .i64 now] w fun e w' => e = .returned (.tuple #[]) ∧ FB w0 w' base f r dev (askF dev F line xs now) L A n xs := by
  obtain ⟨M, h⟩ := h
  refine (ask_m h.hf h.rd h.off hl hnc hcm hn (fun j hj x hx => ((hok j hj).1 x hx).2) (fun j hj => Nat.le_trans (hok j hj).2 hN) line now).mono ?_
  rintro e w' ⟨rfl, s⟩
  exact ⟨rfl, h.step s⟩
theorem dueFB (h : FB w0 w base f r dev F L A n xs) {N : Nat} (hok : FOk F N) (hN : N ≤ 1000000) (l now : Int) :
    Calls Try.prog 31 #[.pointer (some ⟨f, 0, none⟩), .int .i64 l, .int .i64 now] w fun e w' => ∃ v T b, e = .returned v ∧ FB w0 w' base f r dev (dueF F l now) L A n xs ∧ OutAt w' T b v (dueB F l now) := by
  obtain ⟨M, h⟩ := h
  refine (due_m h.hf (fun j hj => Nat.le_trans (hok j hj).2 hN) l now).mono ?_
  rintro e w' ⟨v, M', rfl, h1, h2, h3, h4, h5, h6⟩
  exact ⟨v, _, _, rfl, ⟨M', h.turn h1 h2 h3 h4 h5⟩, h6⟩
theorem coilFB (h : FB w0 w base f r dev F L A n xs) (i k : Int) :
    Calls Try.prog 35 #[.pointer (some ⟨f, 0, none⟩), .int .i64 i, .int .i64 k] w fun e w' => e = .returned (.tuple #[.int .i64 (coilF dev F i k), .bool (coilOk dev F i k)]) ∧ w = w' := by
  obtain ⟨M, h⟩ := h
  exact fieldCoil_m h.hf i k
theorem atFB (h : FB w0 w base f r dev F L A n xs) (kd i : Int) :
    Calls Try.prog 36 #[.pointer (some ⟨r, 0, none⟩), .int .i64 kd, .int .i64 i] w fun e w' => e = .returned (.tuple #[.int .u16 (atB L kd i), .bool (spanB L kd i 1)]) ∧ w = w' := rfAt_any base r L w kd i h.rf
theorem putFB (h : FB w0 w base f r dev F L A n xs) (hb : w0.heap.size ≤ r) (kd i v : Int) (h0 : 0 ≤ v) (h1 : v ≤ 65535) :
    Calls Try.prog 25 #[.pointer (some ⟨r, 0, none⟩), .int .i64 kd, .int .i64 i, .int .u16 v] w fun e w' => e = .returned (.bool (spanB L kd i 1)) ∧ FB w0 w' base f r dev F (putB L kd i v) A n xs := by
  refine (rfPut_any base r L w kd i v h.rf h0 h1).mono ?_
  rintro e w' ⟨rfl, k1, k2⟩
  exact ⟨rfl, h.bank k1 k2 hb⟩
theorem serveFB (h : FB w0 w base f r dev F L A n xs) (hb : w0.heap.size ≤ r) {A1 : Option Addr} {n1 c1 : Nat} {l : List Int} (hx : RdI w w.heap.size .u8 A1 n1 l) (hl : ByteL l) (hm : n1 ≤ 9000) (hnc : n1 ≤ c1) (hcm : c1 ≤ maxLen) :
    Calls Try.prog 32 #[.pointer (some ⟨r, 0, none⟩), .slice A1 n1 c1] w fun e w' => ∃ A2 n2 c2, e = .returned (.slice A2 n2 c2) ∧ n2 ≤ c2 ∧ c2 ≤ maxLen ∧ RdI w' w'.heap.size .u8 A2 n2 (serveY L l) ∧ FB w0 w' base f r dev F (serveL L l) A n xs := by
  refine (rfServe_any base r L w A1 n1 c1 l h.rf hx hl hm hnc hcm).mono ?_
  rintro e w' ⟨A2, n2, c2, rfl, g1, g2, k1, k2, k3⟩
  exact ⟨A2, n2, c2, rfl, g1, g2, k1, h.bank k2 k3 hb⟩
end
end Go.Proofs.Ytgagpalffdgjnaa
