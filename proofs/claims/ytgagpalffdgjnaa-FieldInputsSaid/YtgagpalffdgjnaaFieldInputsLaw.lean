/- Layer 24, FieldInputs: inputs that were set, in plain words. -/
import Derived.Test.YtgagpalffdgjnaaG44f
import Derived.Test.YtgagpalffdgjnaaG13
namespace Go.Proofs.Ytgagpalffdgjnaa
open Go.RowKit

/-- The inputs of a device, of which the first k were set as they are told. -/
def inL (al : List Bool) (k : Nat) : List Int := (List.range 256).map fun j => if j < k ∧ al.getD j false = true then 1 else 0
theorem inL_len (al : List Bool) (k : Nat) : (inL al k).length = 256 := by simp [inL]
theorem inL_at {al : List Bool} {k j : Nat} (h : j < (inL al k).length) : (inL al k)[j] = if j < k ∧ al.getD j false = true then 1 else 0 := by simp [inL]
theorem inL_yes {al : List Bool} {k : Nat} (h : al.getD k false = true) : (inL al k).set k 1 = inL al (k + 1) := by
  apply List.ext_getElem
  · simp [inL]
  · intro i h1 h2
    rw [List.getElem_set, inL_at, inL_at]
    by_cases e : k = i
    · subst e; rw [if_pos rfl, if_pos ⟨by omega, h⟩]
    · rw [if_neg e]
      by_cases e2 : i < k ∧ al.getD i false = true
      · rw [if_pos e2, if_pos ⟨by omega, e2.2⟩]
      · rw [if_neg e2, if_neg (fun h => e2 ⟨by omega, h.2⟩)]
theorem inL_no {al : List Bool} {k : Nat} (h : al.getD k false = false) : inL al k = inL al (k + 1) := by
  apply List.ext_getElem
  · simp [inL]
  · intro i h1 h2
    rw [inL_at, inL_at]
    by_cases e2 : i < k ∧ al.getD i false = true
    · rw [if_pos e2, if_pos ⟨by omega, e2.2⟩]
    · rw [if_neg e2, if_neg (fun h3 => by
        by_cases e : i = k
        · subst e; rw [h] at h3; exact Bool.noConfusion h3.2
        · exact e2 ⟨by omega, h3.2⟩)]
set_option maxRecDepth 100000 in
theorem inL_zero (al : List Bool) : inL al 0 = zs 256 := by
  apply List.ext_getElem
  · rw [inL_len, zs_length]
  · intro i h1 h2
    rw [inL_at, if_neg (by omega)]
    exact (List.getElem_replicate (n := 256) (a := (0 : Int)) (i := i) (by rw [← zs_length 256]; exact h2)).symm
theorem inL_le (al : List Bool) (k : Nat) : ∀ y ∈ inL al k, 0 ≤ y ∧ y ≤ 1 := fun y hy => by
  unfold inL at hy
  obtain ⟨j, _, rfl⟩ := List.mem_map.1 hy
  split <;> omega
/-- The rows of a device so set. -/
def rowI (al : List Bool) (k : Nat) : Nat → List Int := upd (newL 256 256 0 0) 1 (inL al k)
theorem rowI_one (al : List Bool) (k : Nat) : rowI al k 1 = inL al k := upd_same _ _ _
theorem rowI_zero (al : List Bool) : rowI al 0 = newL 256 256 0 0 := by
  unfold rowI
  rw [inL_zero, show zs 256 = newL 256 256 0 0 1 from rfl, upd_self]
theorem rowI_bits (al : List Bool) (k : Nat) : BitsL (rowI al k) := fun i hi y hy => by
  unfold rowI at hy
  by_cases e : i = 1
  · subst e; rw [upd_same] at hy; exact (inL_le al k y hy).2
  · rw [upd_other _ _ e] at hy; exact bits_new _ _ _ _ i hi y hy
theorem rowI_put {al : List Bool} {k : Nat} (hk : k < 256) (h : al.getD k false = true) : putB (rowI al k) 1 (k : Int) 1 = rowI al (k + 1) := by
  have hs : spanB (rowI al k) 1 (k : Int) 1 = true := by
    unfold spanB sizeB
    simp [rowI_one, inL_len]
    omega
  unfold putB
  rw [if_pos hs]
  show upd (rowI al k) 1 ((rowI al k 1).set ((k : Int).toNat) (putV 1 1)) = _
  rw [Int.toNat_natCast, rowI_one, show putV 1 1 = 1 from by decide, inL_yes h]
  unfold rowI
  rw [upd_upd]
theorem rowI_no {al : List Bool} {k : Nat} (h : al.getD k false = false) : rowI al k = rowI al (k + 1) := by unfold rowI; rw [inL_no h]
/-- The line is still; the inputs are so. -/
def StI (F : Fp) (n : Nat) (al bl : List Bool) (k m : Nat) : Prop := F.W n = ⟨[], []⟩ ∧ F.L 0 = rowI al k ∧ F.L 1 = rowI bl m
theorem StI.new (n : Nat) (al bl : List Bool) : StI newF n al bl 0 0 := ⟨rfl, (rowI_zero al).symm, (rowI_zero bl).symm⟩
def inDev (n : Nat) : List (Int × Int) := [((n : Int), 1), ((n : Int), 2)]
theorem setF0 (F : Fp) (n : Nat) (k : Int) : setF (inDev n) F 0 k 1 = { F with L := upf F.L 0 (putB (F.L 0) 1 k 1) } := by
  unfold setF
  rw [if_pos (by simp [inDev])]
  rfl
theorem setF1 (F : Fp) (n : Nat) (k : Int) : setF (inDev n) F 1 k (-3) = { F with L := upf F.L 1 (putB (F.L 1) 1 k 1) } := by
  unfold setF
  rw [if_pos (by simp [inDev])]
  rfl
theorem StI.set0 {F : Fp} {n k m : Nat} {al bl : List Bool} (h : StI F n al bl k m) (hk : k < 256) (ha : al.getD k false = true) : StI (setF (inDev n) F 0 (k : Int) 1) n al bl (k + 1) m := by
  obtain ⟨h1, h2, h3⟩ := h
  rw [setF0, h2, rowI_put hk ha]
  exact ⟨h1, upf_same F.L 0 (rowI al (k + 1)), (upf_other F.L (rowI al (k + 1)) (show (1 : Nat) ≠ 0 by decide)).trans h3⟩
theorem StI.set1 {F : Fp} {n k m : Nat} {al bl : List Bool} (h : StI F n al bl k m) (hm : m < 256) (hb : bl.getD m false = true) : StI (setF (inDev n) F 1 (m : Int) (-3)) n al bl k (m + 1) := by
  obtain ⟨h1, h2, h3⟩ := h
  rw [setF1, h3, rowI_put hm hb]
  exact ⟨h1, (upf_other F.L (rowI bl (m + 1)) (show (0 : Nat) ≠ 1 by decide)).trans h2, upf_same F.L 1 (rowI bl (m + 1))⟩
theorem StI.no0 {F : Fp} {n k m : Nat} {al bl : List Bool} (h : StI F n al bl k m) (ha : al.getD k false = false) : StI F n al bl (k + 1) m := ⟨h.1, h.2.1.trans (rowI_no ha), h.2.2⟩
theorem StI.no1 {F : Fp} {n k m : Nat} {al bl : List Bool} (h : StI F n al bl k m) (hb : bl.getD m false = false) : StI F n al bl k (m + 1) := ⟨h.1, h.2.1, h.2.2.trans (rowI_no hb)⟩
/-- What is read: the first 200 inputs. -/
def readI (al : List Bool) : List Int := (inL al 200).take 200
theorem readI_len (al : List Bool) : (readI al).length = 200 := by simp [readI, inL_len]
theorem readI_at {al : List Bool} {j : Nat} (hj : j < 200) : (readI al).getD j 0 = if al.getD j false = true then 1 else 0 := by
  unfold readI
  rw [List.getD_eq_getElem?_getD, List.getElem?_take_of_lt hj, List.getElem?_eq_getElem (by rw [inL_len]; omega), inL_at]
  simp [hj]
theorem readI_range (al : List Bool) : ∀ j : Nat, 0 ≤ (readI al)[j]?.getD 0 ∧ (readI al)[j]?.getD 0 ≤ 65535 := rng_of (by omega) (by omega) fun y hy => by
  have := inL_le al 200 y (List.mem_of_mem_take hy); omega
def pduI (al : List Bool) : List Int := repR 2 0 200 0 [] 0 (readI al)
theorem right_in : rightB' 2 0 200 0 [] = true := by decide +kernel
theorem do_in (al : List Bool) : doC (rowI al 200) 2 0 200 0 [] = 0 ∧ doY (rowI al 200) 2 0 200 0 [] = readI al ∧ doL (rowI al 200) 2 0 200 0 [] = rowI al 200 := by
  have hf : doFits (rowI al 200) 2 0 200 0 ([] : List Int).length = true := by
    unfold doFits spanB sizeB
    simp [kindN, rowI_one, inL_len]
    omega
  have hg : doGoes (rowI al 200) 2 0 200 0 [] = true := by unfold doGoes; rw [right_in, hf]; rfl
  have hrow : doRow (rowI al 200) 2 0 0 [] = inL al 200 := by
    unfold doRow
    rw [if_neg (by decide), show kindN 2 = 1 from rfl, rowI_one]
    simp [splice]
  refine ⟨?_, ?_, ?_⟩
  · unfold doC; rw [if_pos right_in, if_pos hf]
  · unfold doY
    rw [if_pos hg, if_pos (by decide), hrow]
    rfl
  · unfold doL
    rw [if_pos hg, hrow, show kindN 2 = 1 from rfl]
    unfold rowI
    rw [upd_upd]
theorem ans_in (al : List Bool) : ansR 2 0 200 0 [] 0 (readI al) = true := by
  have h := do_answers (rowI_bits al 200) right_in
  obtain ⟨h1, h2, _⟩ := do_in al
  rw [h1, h2] at h
  exact h
theorem pduI_len (al : List Bool) : (pduI al).length = 27 := by
  have h := (rep_length (ans_in al)).2.1 rfl (by decide)
  rw [show readsBits 2 = true from by decide] at h
  simp only [if_true] at h
  unfold pduI
  omega
/-- What is asked and answered of the device d. -/
theorem in_step {F : Fp} {n d : Nat} {al bl : List Bool} (hn : n < 4) (hd : d < 2) (h : StI F n al bl 200 200) :
    dueB (askF (inDev n) F (n : Int) (frameL n 5 ((d : Int) + 1) (putL 2 0 200 0 [])) 0) (n : Int) 1 = [frameL n 5 ((d : Int) + 1) (pduI (if d = 0 then al else bl))] ∧
      StI (dueF (askF (inDev n) F (n : Int) (frameL n 5 ((d : Int) + 1) (putL 2 0 200 0 [])) 0) (n : Int) 1) n al bl 200 200 := by
  obtain ⟨h1, h2, h3⟩ := h
  have hdv : devAt (inDev n) (n : Int) ((d : Int) + 1) = some d := by
    unfold devAt inDev
    match d, hd with
    | 0, _ => simp [List.findIdx?_cons]
    | 1, _ => simp [List.findIdx?_cons]
  have hL : F.L d = rowI (if d = 0 then al else bl) 200 := by
    match d, hd with
    | 0, _ => exact h2
    | 1, _ => exact h3
  obtain ⟨c1, c2, c3⟩ := do_in (if d = 0 then al else bl)
  have hx : nextX (F.W n) = (0, 0) := by rw [h1]; rfl
  have ha : askF (inDev n) F (n : Int) (frameL n 5 ((d : Int) + 1) (putL 2 0 200 0 [])) 0 = answF { tookF F n with L := upf F.L d (F.L d) } n (0, 0) 5 ((d : Int) + 1) 0 (pduI (if d = 0 then al else bl)) := by
    unfold askF
    rw [if_pos (by omega), Int.toNat_natCast, ask_framed right_in (fun j => by simp) hdv, hx]
    simp only
    rw [if_neg (by omega), if_neg (by omega), hL, c1, c2, c3, ← hL]
    have hr : rputL 2 0 200 0 [] 0 (readI (if d = 0 then al else bl)) = pduI (if d = 0 then al else bl) := by unfold rputL pduI; rw [if_pos (ans_in _)]
    rw [hr]
  rw [ha, upf_self]
  have hW : (answF { tookF F n with L := F.L } n (0, 0) 5 ((d : Int) + 1) 0 (pduI (if d = 0 then al else bl))).W n = ⟨[], [(1, frameL n 5 ((d : Int) + 1) (pduI (if d = 0 then al else bl)))]⟩ := by
    unfold answF tookF
    show upf (upf F.W n (nextW (F.W n))) n _ n = _
    rw [upf_same]
    show (⟨(upf F.W n (nextW (F.W n)) n).fs, (upf F.W n (nextW (F.W n)) n).ws ++ _⟩ : Wi) = _
    rw [upf_same, h1]
    simp [nextW]
  have hl : 0 ≤ (n : Int) ∧ (n : Int) < 4 := by omega
  refine ⟨?_, ?_, ?_, ?_⟩
  · unfold dueB
    rw [if_pos hl, Int.toNat_natCast, hW]
    simp
  · unfold dueF
    rw [if_pos hl, Int.toNat_natCast]
    show upf _ n _ n = _
    rw [upf_same, hW]
    simp
  · unfold dueF
    rw [if_pos hl]
    exact h2
  · unfold dueF
    rw [if_pos hl]
    exact h3
end Go.Proofs.Ytgagpalffdgjnaa
