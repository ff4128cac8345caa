/- Layer 14, the walks: Load. -/
import Derived.Test.YtgajbgdkgelkgaaGreatG07
namespace Go.Proofs.YtgajbgdkgelkgaaGreat
open Go.RowKit

def sOf (xs : List Lt) : List (Bool × Int) := xs.map fun x => (x.1, x.2.1)
def cntP (g : List Int) (xs : List Lt) (k : Nat) (x : Int) : Option Int := if x = 0 ∨ cntG (g.take k) (sOf (xs.take k)) x = 0 then none else some (cntG (g.take k) (sOf (xs.take k)) x : Int)
theorem cntP_step {g : List Int} {xs : List Lt} {k : Nat} {st fi : Bool} {t : Int} (hl : xs.length = g.length) (hx : xs[k]? = some (st, t, fi)) (x : Int) :
    cntG (g.take (k + 1)) (sOf (xs.take (k + 1))) x = cntG (g.take k) (sOf (xs.take k)) x + (if g.getD k 0 = x ∧ st = true then 1 else 0) := by
  have hk : k < g.length := by
    rcases Nat.lt_or_ge k g.length with h | h
    · exact h
    · rw [List.getElem?_eq_none (by omega)] at hx; cases hx
  have hg : g[k]? = some (g.getD k 0) := by rw [List.getD_eq_getElem?_getD, List.getElem?_eq_getElem hk]; rfl
  unfold cntG sOf
  rw [List.take_add_one, List.take_add_one, hx, hg, List.map_append, List.zip_append (by simp; omega), List.countP_append]
  congr 1
  cases st
  · simp
  · simp
theorem cntP_stay {g : List Int} {xs : List Lt} {k : Nat} {st fi : Bool} {t : Int} (hl : xs.length = g.length) (hx : xs[k]? = some (st, t, fi)) (h : st = false ∨ g.getD k 0 = 0) (x : Int) : cntP g xs k x = cntP g xs (k + 1) x := by
  unfold cntP
  rw [cntP_step hl hx]
  rcases h with h | h
  · rw [show (if g.getD k 0 = x ∧ st = true then 1 else 0) = 0 by rw [h]; simp]; rfl
  · by_cases h0 : x = 0
    · rw [if_pos (.inl h0), if_pos (.inl h0)]
    · rw [show (if g.getD k 0 = x ∧ st = true then 1 else 0) = 0 by rw [h, if_neg (by rintro ⟨e, _⟩; exact h0 e.symm)]]; rfl
theorem cntP_more {g : List Int} {xs : List Lt} {k : Nat} {fi : Bool} {t : Int} (hl : xs.length = g.length) (hx : xs[k]? = some (true, t, fi)) (h : g.getD k 0 ≠ 0) (x : Int) : oup (cntP g xs k) (g.getD k 0) (some ((cntG (g.take k) (sOf (xs.take k)) (g.getD k 0) : Int) + 1)) x = cntP g xs (k + 1) x := by
  by_cases e : x = g.getD k 0
  · subst e
    rw [oup_same]
    unfold cntP
    rw [cntP_step hl hx, show (if g.getD k 0 = g.getD k 0 ∧ true = true then 1 else 0) = 1 from if_pos ⟨rfl, rfl⟩, if_neg (by rintro (e | e); exact h e; omega)]
    simp
  · rw [oup_other _ _ e]
    unfold cntP
    rw [cntP_step hl hx, show (if g.getD k 0 = x ∧ true = true then 1 else 0) = 0 from if_neg (by rintro ⟨e2, _⟩; exact e e2.symm)]; rfl
theorem cntP_getD {g : List Int} {xs : List Lt} {k : Nat} {x : Int} (h : x ≠ 0) : (cntP g xs k x).getD 0 = (cntG (g.take k) (sOf (xs.take k)) x : Int) := by
  unfold cntP
  by_cases h0 : cntG (g.take k) (sOf (xs.take k)) x = 0
  · rw [if_pos (.inr h0), h0]; rfl
  · rw [if_neg (by rintro (h1 | h1) <;> contradiction)]; rfl
theorem cntP_end {g : List Int} {xs : List Lt} {k : Nat} (hl : xs.length = g.length) (hk : k = g.length) (f : Int → Option Nat) (x : Int) : cntP g xs k x = cntO ⟨g, sOf xs, f⟩ x := by
  subst hk
  unfold cntP cntO
  rw [List.take_length, ← hl, List.take_length]
theorem sOf_set {xs : List Lt} {s : List (Bool × Int)} {n k : Nat} {st fi : Bool} {t : Int} (hl : xs.length = n) (hs : s.length = n) (hx : xs[k]? = some (st, t, fi)) : ((sOf xs).take k ++ s.drop k).set k (st, t) = (sOf xs).take (k + 1) ++ s.drop (k + 1) := by
  have hk : k < xs.length := by
    rcases Nat.lt_or_ge k xs.length with h | h
    · exact h
    · rw [List.getElem?_eq_none h] at hx; cases hx
  have hlk : ((sOf xs).take k).length = k := by simp [sOf]; omega
  rw [List.set_append, if_neg (by omega), hlk, Nat.sub_self, List.take_add_one, List.append_assoc]
  congr 1
  rw [List.drop_eq_getElem_cons (by omega), List.set_cons_zero]
  have : (sOf xs)[k]? = some (st, t) := by unfold sOf; rw [List.getElem?_map, hx]; rfl
  rw [this]; rfl
def firF (f : Int → Option Nat) (x : Int) : Option Int := match f x with | some n => some (n : Int) | none => none
theorem firO_eq (r : Lw) (x : Int) : firF r.f x = firO r x := by
  unfold firO firF
  cases r.f x <;> rfl
theorem firF_up (f : Int → Option Nat) (x : Int) (i : Nat) (y : Int) : oup (firF f) x (some (i : Int)) y = firF (fup f x (some i)) y := by
  unfold oup firF fup
  split <;> rfl
def LoadPost (g gl : Nat) (r : Lw) (xs : List Lt) (w : World) (e : Ending) (w' : World) : Prop :=
  (loadL r xs = none ∧ e = .returned (.bool false) ∧ Ext w w') ∨
  ∃ r' gf' gs', loadL r xs = some r' ∧ e = .returned (.bool true) ∧ Rw w' g gl gf' gs' 1000 r' ∧ Mod (fun b => b = g ∨ b = gl) w w' ∧ w.heap.size ≤ gf' ∧ w.heap.size ≤ gs'
theorem loadF_step_none {g : List Int} {xs : List Lt} {k : Nat} {f : Int → Option Nat} {st fi : Bool} {t : Int} (hx : xs[k]? = some (st, t, fi)) : loadF g (xs.drop k) k f =
    if st then (if fi then (if (f (g.getD k 0)).isSome || g.getD k 0 == 0 then none else loadF g (xs.drop (k + 1)) (k + 1) (fup f (g.getD k 0) (some k))) else loadF g (xs.drop (k + 1)) (k + 1) f) else if t == 0 && !fi then loadF g (xs.drop (k + 1)) (k + 1) f else none := by
  have : xs.drop k = (st, t, fi) :: xs.drop (k + 1) := by
    have hk : k < xs.length := by
      rcases Nat.lt_or_ge k xs.length with h | h
      · exact h
      · rw [List.getElem?_eq_none h] at hx; cases hx
    rw [List.drop_eq_getElem_cons hk]
    rw [List.getElem?_eq_getElem hk, Option.some.injEq] at hx
    rw [hx]
  rw [this]; rfl
set_option maxRecDepth 100000 in
set_option maxHeartbeats 6400000 in
theorem latchLoad_any (g gl gf gs N : Nat) (r : Lw) (w : World) (h : Rw w g gl gf gs N r) (A : Option Addr) (n c : Nat) (xs : List Lt) (hx : RdC ltCells 3 w w.heap.size A n xs) (hcm : n ≤ c ∧ c ≤ maxLen) (hoff : 0 < n → ∀ b o, A = some ⟨b, o, none⟩ → b ≠ g ∧ b ≠ gl) :
    Calls Tryz.prog 44 #[.pointer (some ⟨g, 0, none⟩), .slice A n c] w (LoadPost g gl r xs w) := by
  have hg := lt_of_block h.head
  have c0 : w.cell? ⟨g, 0, none⟩ = some (.slice (some ⟨gl, 0, none⟩) r.g.length r.g.length) := cellsAt h.head 0
  have hfit := h.fit
  have hlx := hx.len
  have hnm : n ≤ 9223372036854775807 := by unfold maxLen at hcm; omega
  by_cases hne : n = r.g.length
  · have dn : ((n : Int) != (r.g.length : Int)) = false := by simp; omega
    have hlen : xs.length = r.g.length := by omega
    have hmm := makeO
    have h' := Lib.hid h
    have hx' := Lib.hid hx
    have hoff' := Lib.hid hoff
    clear h hx hoff hcm
    subst hne
    go_enter Tryz.func44, Tryz.ntmps44
    go_upto_region 5 with fail
    have M1 := MapO.made w
    have M2 := MapO.made (w.alloc (.map #[] 0))
    rw [show (w.alloc (.map #[] 0)).heap.size = w.heap.size + 1 by simp] at M2
    have F0 := M1.ext ((Ext.refl _).goA (.map #[] 0))
    have EU : Ext w ((w.alloc (.map #[] 0)).alloc (.map #[] 0)) := ((Ext.refl w).goA _).goA _
    generalize (w.alloc (.map #[] 0)).alloc (.map #[] 0) = U at *
    clear M1 hmm
    go_loopw [26] (fun i wr => ∃ (k : Nat) (f : Int → Option Nat), k ≤ r.g.length ∧ i = .int .i64 k ∧ Ext w wr ∧ MapO wr w.heap.size k (firF f) ∧ MapO wr (w.heap.size + 1) k (cntP r.g xs k) ∧ loadF r.g (xs.drop k) k f = loadF r.g xs 0 (fun _ => none)) (fun i _ => r.g.length - (intOf i).toNat)
    case atStart => exact ⟨0, fun _ => none, by omega, rfl, EU, F0, M2.congr (fun x => by simp [cntP, cntG, sOf]), rfl⟩
    case round =>
      obtain ⟨k, f, hk, rfl, E, FM, SM, hload⟩ := hrel
      have E' := Lib.hid E
      have FM' := Lib.hid FM
      have SM' := Lib.hid SM
      have hload' := Lib.hid hload
      clear F0 M2 EU hload FM SM
      by_cases hlt : k < r.g.length
      · have e3 : (k : Int) < (r.g.length : Int) := by omega
        obtain ⟨x, hxk⟩ := hx'.out.get hlt
        obtain ⟨b, o, rfl, hb, hc⟩ := hx'.out.at_ hxk
        obtain ⟨st, t, fi⟩ := x
        have cx0 : wr.cell? ⟨b, o + k * 3, none⟩ = some (.bool st) := (E'.out.cell _ hb).trans (hc 0 (by decide))
        have cx1 : wr.cell? ⟨b, o + k * 3 + 1, none⟩ = some (.int .i64 t) := (E'.out.cell _ hb).trans (hc 1 (by decide))
        have cx2 : wr.cell? ⟨b, o + k * 3 + 2, none⟩ = some (.bool fi) := (E'.out.cell _ hb).trans (hc 2 (by decide))
        have hR := h'.out.ext E'.out
        have ch : ∀ o, (wr.alloc o).cell? ⟨g, 0, none⟩ = some (.slice (some ⟨gl, 0, none⟩) r.g.length r.g.length) := fun o => cellsAt ((Ext.refl wr).goA o |>.block g (lt_of_block hR.head) |>.trans hR.head) 0
        have cg : ∀ o, (wr.alloc o).cell? ⟨gl, k * 4 + 3, none⟩ = some (.int .i64 (gOf r k)) := fun o => ((hR.row.keep ((Ext.refl wr).goA o |>.block gl hR.row.lt)).cells hlt).2.2.2
        have hg2 := lt_of_block hR.head
        have hgl2 := hR.row.lt
        have hst := loadF_step_none (g := r.g) (f := f) hxk
        rw [hload'.out] at hst
        have hst' := Lib.hid hst
        have hxk' := Lib.hid hxk
        have hGr := h'.out.grp k
        have wG := Lib.hid (WalkArith.wf_i64 (n := gOf r k) ⟨by omega, by omega⟩)
        clear hst hxk hb hc hR c0
        have hno : loadF r.g xs 0 (fun _ => none) = none → loadL r xs = none := fun e => by
          unfold loadL
          rw [if_pos (by rw [h'.out.ok.len]; exact hlen), e]; rfl
        have hno' := Lib.hid hno
        clear hno
        have fal : ∀ w' : World, Ext w w' → loadF r.g xs 0 (fun _ => none) = none → LoadPost g gl r xs w (.returned (.bool false)) w' := fun w' E h => .inl ⟨hno'.out h, rfl, E⟩
        have fal' := Lib.hid fal
        clear fal
        cases st
        · go_upto_region 9 with fail
          by_cases ht : t = 0
          · subst ht
            cases fi
            · go_wp2_with fail
              have hs2 := hst'.out
              simp only [Bool.false_eq_true, if_false, beq_self_eq_true, Bool.not_false, Bool.and_self, if_true] at hs2
              go_roundw
              case rel => exact ⟨k + 1, f, by omega, by go_num, E'.out.goA _, (FM'.out.ext ((Ext.refl wr).goA _)).mono (by omega), ((SM'.out.ext ((Ext.refl wr).goA _)).congr (cntP_stay hlen hxk'.out (.inl rfl))).mono (by omega), hs2.symm⟩
              case measure => simp [intOf]; omega
            · go_wp2_with fail
              go_ret
              exact fal'.out _ (E'.out.goA _) (by rw [hst'.out]; rfl)
          · have htb : (t == 0) = false := by simpa using ht
            go_wp2_with fail
            go_ret
            exact fal'.out _ (E'.out.goA _) (by rw [hst'.out]; simp [ht])
        · have hs2 := hst'.out
          simp only [if_true] at hs2
          have hs2 := Lib.hid hs2
          by_cases hG : gOf r k = 0
          · rw [hG] at cg
            have hG' := Lib.hid hG
            cases fi
            · go_wp2_with fail
              have hs3 := hs2.out
              simp only [Bool.false_eq_true, if_false] at hs3
              go_roundw
              case rel => exact ⟨k + 1, f, by omega, by go_num, E'.out.goA _, (FM'.out.ext ((Ext.refl wr).goA _)).mono (by omega), ((SM'.out.ext ((Ext.refl wr).goA _)).congr (cntP_stay hlen hxk'.out (.inr hG'.out))).mono (by omega), hs3.symm⟩
              case measure => simp [intOf]; omega
            · have L1 := (FM'.out.ext ((Ext.refl wr).goA (.cells #[.bool true, .int .i64 t, .bool true] 56))).look_ok (i := 0) (by decide)
              cases hf : f 0 with
              | none =>
                have hfo : firF f 0 = none := by unfold firF; rw [hf]
                rw [hfo, Option.getD_none, Option.isSome_none] at L1
                go_wp2_with fail
                go_ret
                exact fal'.out _ (E'.out.goA _) (by rw [hst'.out, show r.g.getD k 0 = 0 from hG'.out]; simp)
              | some q =>
                have hfo : firF f 0 = some (q : Int) := by unfold firF; rw [hf]
                rw [hfo, Option.getD_some, Option.isSome_some] at L1
                go_wp2_with fail
                go_ret
                exact fal'.out _ (E'.out.goA _) (by rw [hst'.out, show r.g.getD k 0 = 0 from hG'.out]; simp)
          · have hGb : (gOf r k == 0) = false := by simpa using hG
            have hGn : (gOf r k != 0) = true := by simpa using hG
            have hcb := cntG_le (r.g.take k) (sOf (xs.take k)) (gOf r k)
            have hcb2 : (cntG (r.g.take k) (sOf (xs.take k)) (gOf r k) : Int) ≤ 1000 := by rw [List.length_take] at hcb; omega
            have hcb3 : (0 : Int) ≤ (cntG (r.g.take k) (sOf (xs.take k)) (gOf r k) : Int) := by omega
            have hmore := Lib.hid (cntP_more hlen hxk'.out (show r.g.getD k 0 ≠ 0 from hG))
            clear hcb
            have SMu := SM'.out.ext ((Ext.refl wr).goA (.cells #[.bool true, .int .i64 t, .bool fi] 56))
            have L2 := SMu.look wG.out
            rw [cntP_getD hG] at L2
            have SMu' := Lib.hid SMu
            have FMu' := Lib.hid (FM'.out.ext ((Ext.refl wr).goA (.cells #[.bool true, .int .i64 t, .bool fi] 56)))
            have cb0 := cellsAt (heap_alloc_new wr (.cells #[.bool true, .int .i64 t, .bool fi] 56))
            have gw1 : w.heap.size < wr.heap.size := FM'.out.lt
            have gw2 : w.heap.size + 1 < wr.heap.size := SM'.out.lt
            clear SMu
            go_upto_region 13 with ((with_reducible refine wpList_storeO rfl (.tmp 47) (.tmp 48) (.tmp 50) rfl rfl rfl rfl SMu'.out (by unfold maxLen; omega) wG.out (WalkArith.wf_i64 (n := (cntG (r.g.take k) (sOf (xs.take k)) (gOf r k) : Int) + 1) ⟨by omega, by omega⟩) ?_); intro Z SZ MZ)
            have bZ := (MZ.block wr.heap.size (by simp) (by omega)).trans (heap_alloc_new wr _)
            have kz2 : Z.cell? ⟨wr.heap.size, 2, none⟩ = some (.bool fi) := cellsAt bZ 2
            have gZ := lt_of_block bZ
            have EZ := Lib.hid ((E'.out.goA (.cells #[.bool true, .int .i64 t, .bool fi] 56)).goM MZ (fun i hi => by omega))
            have FZ' := Lib.hid (FMu'.out.keep (MZ.block _ FMu'.out.lt (by omega)))
            have SZ' := Lib.hid (SZ.congr hmore.out)
            clear cb0 L2 SZ MZ bZ
            cases fi
            · go_wp2_with fail
              have hs3 := hs2.out
              simp only [Bool.false_eq_true, if_false] at hs3
              go_roundw
              case rel => exact ⟨k + 1, f, by omega, by go_num, EZ.out, FZ'.out.mono (by omega), SZ'.out, hs3.symm⟩
              case measure => simp [intOf]; omega
            · have L3 := FZ'.out.look_ok wG.out
              have hs3 := hs2.out
              simp only [if_true] at hs3
              rw [show (r.g.getD k 0 == 0) = false from hGb, Bool.or_false] at hs3
              cases hf : f (gOf r k) with
              | none =>
                have hfo : firF f (gOf r k) = none := by unfold firF; rw [hf]
                rw [hfo, Option.getD_none, Option.isSome_none] at L3
                rw [show f (r.g.getD k 0) = none from hf] at hs3
                simp only [Option.isSome_none, Bool.false_eq_true, if_false] at hs3
                have hs3 := Lib.hid hs3
                go_wp2_with ((with_reducible refine wpList_storeO rfl (.tmp 65) (.tmp 66) (.tmp 67) rfl rfl rfl rfl FZ'.out (by unfold maxLen; omega) wG.out (WalkArith.wf_i64 (n := (k : Int)) ⟨by omega, by omega⟩) ?_); intro Y FY MY)
                go_roundw
                case rel => exact ⟨k + 1, fup f (gOf r k) (some k), by omega, by go_num, EZ.out.goM MY (fun i hi => by omega), FY.congr (firF_up f (gOf r k) k), SZ'.out.keep (MY.block _ SZ'.out.lt (by omega)), hs3.out.symm⟩
                case measure => simp [intOf]; omega
              | some q =>
                have hfo : firF f (gOf r k) = some (q : Int) := by unfold firF; rw [hf]
                rw [hfo, Option.getD_some, Option.isSome_some] at L3
                rw [show f (r.g.getD k 0) = some q from hf] at hs3
                simp only [Option.isSome_some, if_true] at hs3
                go_wp2_with fail
                go_ret
                exact fal'.out _ EZ.out hs3
      · obtain rfl : k = r.g.length := by omega
        have hsome : loadF r.g xs 0 (fun _ => none) = some f := by rw [← hload'.out, List.drop_of_length_le (by omega)]; rfl
        have hres : loadL r xs = some ⟨r.g, sOf xs, f⟩ := by
          unfold loadL
          rw [if_pos (by rw [h'.out.ok.len]; exact hlen), hsome]; rfl
        have hres' := Lib.hid hres
        clear hsome hres hload'
        obtain ⟨V, hV⟩ : ∃ V, V = wr := ⟨_, rfl⟩
        subst hV
        have hR := h'.out.ext E'.out
        have hR' := Lib.hid hR
        have gV := lt_of_block hR.head
        have glV := hR.row.lt
        have c0 : V.cell? ⟨g, 0, none⟩ = some (.slice (some ⟨gl, 0, none⟩) r.g.length r.g.length) := cellsAt hR.head 0
        have hap := h'.out.ap
        clear hR E c0
        go_upto_region 20 with fail
        go_loopw [71] (fun i wr => ∃ k : Nat, k ≤ r.g.length ∧ i = .int .i64 k ∧ Mod (fun b => b = gl) V wr ∧ RowL wr gl ⟨r.g, (sOf xs).take k ++ r.s.drop k, r.f⟩) (fun i _ => r.g.length - (intOf i).toNat)
        case atStart => exact ⟨0, by omega, rfl, Mod.refl _ _, hR'.out.row⟩
        case round =>
          obtain ⟨k, hk, rfl, hM, hRow⟩ := hrel
          have hM' := Lib.hid hM
          have hRow' := Lib.hid hRow
          have Hg := (hM.block g gV hap.1).trans hR'.out.head
          have gq := lt_of_block Hg
          have glq := hRow.lt
          by_cases hlt2 : k < r.g.length
          · have e3 : (k : Int) < (r.g.length : Int) := by omega
            obtain ⟨x, hxk⟩ := hx'.out.get hlt2
            obtain ⟨b, o, rfl, hb, hc⟩ := hx'.out.at_ hxk
            obtain ⟨st, t, fi⟩ := x
            have hbn := hoff'.out (by omega) b o rfl
            have hbw : b < V.heap.size := by have := E'.out.size; omega
            have cx0 : wr.cell? ⟨b, o + k * 3, none⟩ = some (.bool st) := ((hM.cell _ hbw hbn.2).trans (E'.out.cell _ hb)).trans (hc 0 (by decide))
            have cx1 : wr.cell? ⟨b, o + k * 3 + 1, none⟩ = some (.int .i64 t) := ((hM.cell _ hbw hbn.2).trans (E'.out.cell _ hb)).trans (hc 1 (by decide))
            have cx2 : wr.cell? ⟨b, o + k * 3 + 2, none⟩ = some (.bool fi) := ((hM.cell _ hbw hbn.2).trans (E'.out.cell _ hb)).trans (hc 2 (by decide))
            have hxk' := Lib.hid hxk
            clear hxk hc hM hRow
            go_upto_region 22 with fail
            have X0 := heap_alloc_new wr (.cells #[.bool st, .int .i64 t, .bool fi] 56)
            have EX := (Ext.refl wr).goA (.cells #[.bool st, .int .i64 t, .bool fi] 56)
            have gX : wr.heap.size < (wr.alloc (.cells #[.bool st, .int .i64 t, .bool fi] 56)).heap.size := by simp
            generalize wr.alloc (.cells #[.bool st, .int .i64 t, .bool fi] 56) = X at *
            have XR := hRow'.out.keep (EX.block gl glq)
            have XH := (EX.block g gq).trans Hg
            obtain ⟨y0, y1, -, -⟩ := XR.cells (i := k) hlt2
            have z0 := XR.frozen (k * 4)
            have z1 := XR.frozen (k * 4 + 1)
            have glX := XR.lt
            have gX2 := lt_of_block XH
            have q0 : ∀ w', Mod (fun b => b = gl) X w' → w'.cell? ⟨g, 0, none⟩ = some (.slice (some ⟨gl, 0, none⟩) r.g.length r.g.length) := fun w' m => cellsAt ((m.block g gX2 hap.1).trans XH) 0
            have q1 : ∀ w', Mod (fun b => b = gl) X w' → w'.cell? ⟨wr.heap.size, 0, none⟩ = some (.bool st) := fun w' m => cellsAt ((m.block _ gX (by omega)).trans X0) 0
            have q2 : ∀ w', Mod (fun b => b = gl) X w' → w'.cell? ⟨wr.heap.size, 1, none⟩ = some (.int .i64 t) := fun w' m => cellsAt ((m.block _ gX (by omega)).trans X0) 1
            have XR' := Lib.hid XR
            have EX' := Lib.hid EX
            clear X0 XR XH EX
            refine wp_region_held_drew (S := fun w' => Mod (fun b => b = gl) X w') (by kernel_rfl) (Mod.refl _ X).drew (fun hHeld => ?_)
            refine wpAnyH_take (i := 0) (oi := _) (v := ?_) rfl (by kernel_rfl) (by kernel_rfl) (by kernel_rfl) (fun _ _ _ h => h) (Or.inl ⟨by rfl, ?_⟩) (by assumption) ?_
            rotate_left
            · intro w hSw
              (try dsimp only at hSw)
              go_simp
              try (with_reducible rfl)
            try simp only [Act.put, List.getElem_toArray, List.getElem_cons_zero, List.setIfInBounds_toArray, List.set_cons_zero, List.set_cons_succ]
            refine wpAnyH_take (i := 1) (oi := _) (v := ?_) rfl (by kernel_rfl) (by kernel_rfl) (by kernel_rfl) (fun _ _ _ h => h) (Or.inl ⟨by rfl, ?_⟩) (by assumption) ?_
            rotate_left
            · intro w hSw
              (try dsimp only at hSw)
              go_simp
              try (with_reducible rfl)
            try simp only [Act.put, List.getElem_toArray, List.getElem_cons_succ, List.getElem_cons_zero, List.setIfInBounds_toArray, List.set_cons_zero, List.set_cons_succ]
            refine wpAnyH_take (i := 2) (oi := _) (v := ?_) rfl (by kernel_rfl) (by kernel_rfl) (by kernel_rfl) (fun _ _ _ h => h) (Or.inl ⟨by rfl, ?_⟩) (by assumption) ?_
            rotate_left
            · intro w hSw
              (try dsimp only at hSw)
              go_simp
              try (with_reducible rfl)
            try simp only [Act.put, List.getElem_toArray, List.getElem_cons_succ, List.getElem_cons_zero, List.setIfInBounds_toArray, List.set_cons_zero, List.set_cons_succ]
            refine wpAnyH_take (i := 3) (oi := _) (v := ?_) rfl (by kernel_rfl) (by kernel_rfl) (by kernel_rfl) (fun _ _ _ h => h) (Or.inl ⟨by rfl, ?_⟩) (by assumption) ?_
            rotate_left
            · intro w hSw
              (try dsimp only at hSw)
              go_simp
              try (with_reducible rfl)
            try simp only [Act.put, List.getElem_toArray, List.getElem_cons_succ, List.getElem_cons_zero, List.setIfInBounds_toArray, List.set_cons_zero, List.set_cons_succ]
            refine wpAnyH_take (i := 4) (oi := _) (v := ?_) rfl (by kernel_rfl) (by kernel_rfl) (by kernel_rfl) (fun _ _ _ h => h) (Or.inl ⟨by rfl, ?_⟩) (by assumption) ?_
            rotate_left
            · intro w hSw
              (try dsimp only at hSw)
              go_simp
              try (with_reducible rfl)
            try simp only [Act.put, List.getElem_toArray, List.getElem_cons_succ, List.getElem_cons_zero, List.setIfInBounds_toArray, List.set_cons_zero, List.set_cons_succ]
            refine wpAnyH_take (i := 5) (oi := _) (v := ?_) rfl (by kernel_rfl) (by kernel_rfl) (by kernel_rfl) (fun _ _ _ h => h) (Or.inl ⟨by rfl, ?_⟩) (by assumption) ?_
            rotate_left
            · intro w hSw
              (try dsimp only at hSw)
              go_simp
              try (with_reducible rfl)
            try simp only [Act.put, List.getElem_toArray, List.getElem_cons_succ, List.getElem_cons_zero, List.setIfInBounds_toArray, List.set_cons_zero, List.set_cons_succ]
            refine wpAnyH_take (i := 6) (oi := _) (v := ?_) rfl (by kernel_rfl) (by kernel_rfl) (by kernel_rfl) (fun _ _ _ h => h) (Or.inl ⟨by rfl, ?_⟩) (by assumption) ?_
            rotate_left
            · intro w hSw
              (try dsimp only at hSw)
              go_simp
              try (with_reducible rfl)
            try simp only [Act.put, List.getElem_toArray, List.getElem_cons_succ, List.getElem_cons_zero, List.setIfInBounds_toArray, List.set_cons_zero, List.set_cons_succ]
            refine wpAnyH_take (i := 7) (oi := _) (v := ?_) rfl (by kernel_rfl) (by kernel_rfl) (by kernel_rfl) (fun _ _ _ h => h) (Or.inl ⟨by rfl, ?_⟩) (by assumption) ?_
            rotate_left
            · intro w hSw
              (try dsimp only at hSw)
              go_simp
              try (with_reducible rfl)
            try simp only [Act.put, List.getElem_toArray, List.getElem_cons_succ, List.getElem_cons_zero, List.setIfInBounds_toArray, List.set_cons_zero, List.set_cons_succ]
            refine wpAnyH_take (i := 8) (oi := _) (v := ?_) rfl (by kernel_rfl) (by kernel_rfl) (by kernel_rfl) (fun _ _ _ h => h) (Or.inl ⟨by rfl, ?_⟩) (by assumption) ?_
            rotate_left
            · intro w hSw
              (try dsimp only at hSw)
              go_simp
              try (with_reducible rfl)
            try simp only [Act.put, List.getElem_toArray, List.getElem_cons_succ, List.getElem_cons_zero, List.setIfInBounds_toArray, List.set_cons_zero, List.set_cons_succ]
            refine wpAnyH_take (i := 9) (oi := _) (v := ?_) rfl (by kernel_rfl) (by kernel_rfl) (by kernel_rfl) (fun _ _ _ h => h) (Or.inl ⟨by rfl, ?_⟩) (by assumption) ?_
            rotate_left
            · intro w hSw
              (try dsimp only at hSw)
              go_simp
              try (with_reducible rfl)
            try simp only [Act.put, List.getElem_toArray, List.getElem_cons_succ, List.getElem_cons_zero, List.setIfInBounds_toArray, List.set_cons_zero, List.set_cons_succ]
            refine wpAnyH_take (i := 10) (oi := _) (v := ?_) rfl (by kernel_rfl) (by kernel_rfl) (by kernel_rfl) (fun _ _ _ h => h) (Or.inl ⟨by rfl, ?_⟩) (by assumption) ?_
            rotate_left
            · intro w hSw
              (try dsimp only at hSw)
              go_simp
              try (with_reducible rfl)
            try simp only [Act.put, List.getElem_toArray, List.getElem_cons_succ, List.getElem_cons_zero, List.setIfInBounds_toArray, List.set_cons_zero, List.set_cons_succ]
            refine wpAnyH_take (i := 11) (oi := _) (v := ?_) rfl (by kernel_rfl) (by kernel_rfl) (by kernel_rfl) (fun _ _ _ h => h) (Or.inl ⟨by rfl, ?_⟩) (by assumption) ?_
            rotate_left
            · intro w hSw
              (try dsimp only at hSw)
              go_simp
              try (with_reducible rfl)
            try simp only [Act.put, List.getElem_toArray, List.getElem_cons_succ, List.getElem_cons_zero, List.setIfInBounds_toArray, List.set_cons_zero, List.set_cons_succ]
            refine wpAnyH_take (i := 12) (oi := _) (v := ?_) rfl (by kernel_rfl) (by kernel_rfl) (by kernel_rfl) (fun _ _ _ h => h) (Or.inl ⟨by rfl, ?_⟩) (by assumption) ?_
            rotate_left
            · intro w hSw
              (try dsimp only at hSw)
              go_simp
              try (with_reducible rfl)
            try simp only [Act.put, List.getElem_toArray, List.getElem_cons_succ, List.getElem_cons_zero, List.setIfInBounds_toArray, List.set_cons_zero, List.set_cons_succ]
            refine wpAnyH_take (i := 13) (oi := _) (v := ?_) rfl (by kernel_rfl) (by kernel_rfl) (by kernel_rfl) (fun _ _ _ h => h) (Or.inl ⟨by rfl, ?_⟩) (by assumption) ?_
            rotate_left
            · intro w hSw
              (try dsimp only at hSw)
              go_simp
              try (with_reducible rfl)
            try simp only [Act.put, List.getElem_toArray, List.getElem_cons_succ, List.getElem_cons_zero, List.setIfInBounds_toArray, List.set_cons_zero, List.set_cons_succ]
            refine wpAnyH_take (i := 14) (oi := _) (v := ?_) rfl (by kernel_rfl) (by kernel_rfl) (by kernel_rfl) (fun _ _ _ h => h) (Or.inl ⟨by rfl, ?_⟩) (by assumption) ?_
            rotate_left
            · intro w hSw
              (try dsimp only at hSw)
              go_simp
              try (with_reducible rfl)
            try simp only [Act.put, List.getElem_toArray, List.getElem_cons_succ, List.getElem_cons_zero, List.setIfInBounds_toArray, List.set_cons_zero, List.set_cons_succ]
            refine wpAnyH_take (i := 15) (oi := _) (v := ?_) rfl (by kernel_rfl) (by kernel_rfl) (by kernel_rfl) (fun _ _ _ h => h) (Or.inl ⟨by rfl, ?_⟩) (by assumption) ?_
            rotate_left
            · intro w hSw
              (try dsimp only at hSw)
              go_simp
              try (with_reducible rfl)
            try simp only [Act.put, List.getElem_toArray, List.getElem_cons_succ, List.getElem_cons_zero, List.setIfInBounds_toArray, List.set_cons_zero, List.set_cons_succ]
            refine wpAnyH_take (i := 16) (oi := _) (v := ?_) rfl (by kernel_rfl) (by kernel_rfl) (by kernel_rfl) (fun _ _ _ h => h) (Or.inl ⟨by rfl, ?_⟩) (by assumption) ?_
            rotate_left
            · intro w hSw
              (try dsimp only at hSw)
              go_simp
              try (with_reducible rfl)
            try simp only [Act.put, List.getElem_toArray, List.getElem_cons_succ, List.getElem_cons_zero, List.setIfInBounds_toArray, List.set_cons_zero, List.set_cons_succ]
            refine wpAnyH_ready (rs := [17]) (by kernel_rfl) (by simp) ?_
            refine AllReadyH.cons rfl (fun Kz hKz => ?_) ?_
            rotate_left
            · exact AllReadyH.nil
            go_simp
            refine hKz.out _ _ ?_ (fun hHeld => ?_)
            · exact ((Mod.refl (fun b => b = gl) X).setCell (p := ⟨gl, k * 4, none⟩) (.inl rfl) _).drew
            clear hKz Kz
            try simp only [Act.put, List.getElem_toArray, List.getElem_cons_succ, List.getElem_cons_zero, List.setIfInBounds_toArray, List.set_cons_zero, List.set_cons_succ]
            refine wpAnyH_take (i := 18) (oi := _) (v := ?_) rfl (by kernel_rfl) (by kernel_rfl) (by kernel_rfl) (fun _ _ _ h => h) (Or.inl ⟨by rfl, ?_⟩) (by assumption) ?_
            rotate_left
            · intro w hSw
              (try dsimp only at hSw)
              go_simp
              try (with_reducible rfl)
            try simp only [Act.put, List.getElem_toArray, List.getElem_cons_succ, List.getElem_cons_zero, List.setIfInBounds_toArray, List.set_cons_zero, List.set_cons_succ]
            refine wpAnyH_take (i := 19) (oi := _) (v := ?_) rfl (by kernel_rfl) (by kernel_rfl) (by kernel_rfl) (fun _ _ _ h => h) (Or.inl ⟨by rfl, ?_⟩) (by assumption) ?_
            rotate_left
            · intro w hSw
              (try dsimp only at hSw)
              go_simp
              try (with_reducible rfl)
            try simp only [Act.put, List.getElem_toArray, List.getElem_cons_succ, List.getElem_cons_zero, List.setIfInBounds_toArray, List.set_cons_zero, List.set_cons_succ]
            refine wpAnyH_take (i := 20) (oi := _) (v := ?_) rfl (by kernel_rfl) (by kernel_rfl) (by kernel_rfl) (fun _ _ _ h => h) (Or.inl ⟨by rfl, ?_⟩) (by assumption) ?_
            rotate_left
            · intro w hSw
              (try dsimp only at hSw)
              go_simp
              try (with_reducible rfl)
            try simp only [Act.put, List.getElem_toArray, List.getElem_cons_succ, List.getElem_cons_zero, List.setIfInBounds_toArray, List.set_cons_zero, List.set_cons_succ]
            refine wpAnyH_ready (rs := [21]) (by kernel_rfl) (by simp) ?_
            refine AllReadyH.cons rfl (fun Kz hKz => ?_) ?_
            rotate_left
            · exact AllReadyH.nil
            go_simp
            refine hKz.out _ _ ?_ (fun hHeld => ?_)
            · exact (((Mod.refl (fun b => b = gl) X).setCell (p := ⟨gl, k * 4, none⟩) (.inl rfl) _).setCell (p := ⟨gl, k * 4 + 1, none⟩) (.inl rfl) _).drew
            clear hKz Kz
            try simp only [Act.put, List.getElem_toArray, List.getElem_cons_succ, List.getElem_cons_zero, List.setIfInBounds_toArray, List.set_cons_zero, List.set_cons_succ]
            refine wpAnyH_done (by kernel_rfl) ?_ _
            have HN := XR'.out.put (i := k) hlt2 (by simp [sOf, h'.out.ok.len]; omega) st t r.f
            dsimp only at HN
            rw [sOf_set hlen h'.out.ok.len hxk'.out] at HN
            have HN' := Lib.hid HN
            clear q0 q1 q2 hHeld HN
            go_wp2_with fail
            go_roundw
            case rel => exact ⟨k + 1, by omega, by go_num, (hM'.out.trans (EX'.out.mod _)).trans (((Mod.refl (fun b => b = gl) X).setCell (p := ⟨gl, k * 4, none⟩) (.inl rfl) _).setCell (p := ⟨gl, k * 4 + 1, none⟩) (.inl rfl) _).drew, HN'.out.keep rfl⟩
            case measure => simp [intOf]; omega
          · obtain rfl : k = r.g.length := by omega
            have hRow2 := hRow'.out
            rw [List.take_of_length_le (by simp [sOf]; omega), List.drop_of_length_le (by rw [h'.out.ok.len]; exact Nat.le_refl _), List.append_nil] at hRow2
            have gn1 : g < w.heap.size := hg
            have gn2 : gl < w.heap.size := h'.out.old (.inr (.inl rfl))
            have c1 : wr.cell? ⟨g, 1, none⟩ = some (.map (some gf)) := cellsAt Hg 1
            have c2 : wr.cell? ⟨g, 2, none⟩ = some (.map (some gs)) := cellsAt Hg 2
            have f1 := frozenIn Hg 1
            have f2 := frozenIn Hg 2
            have FW := FM'.out.keep (hM.block _ FM'.out.lt (by omega))
            have SW := SM'.out.keep (hM.block _ SM'.out.lt (by omega))
            obtain ⟨-, okr, -⟩ := loadL_shows h'.out.ok.len hres'.out
            go_wp2_with fail
            go_ret
            have MG : Mod (fun b => b = g) wr ((wr.setCell ⟨g, 1, none⟩ (.map (some w.heap.size))).setCell ⟨g, 2, none⟩ (.map (some (w.heap.size + 1)))) := ((Mod.refl (fun b => b = g) wr).setCell (p := ⟨g, 1, none⟩) (.inl rfl) _).setCell (p := ⟨g, 2, none⟩) (.inl rfl) _
            have HH := sets_block (sets_block Hg 1 (.map (some w.heap.size))) 2 (.map (some (w.heap.size + 1)))
            refine .inr ⟨_, w.heap.size, w.heap.size + 1, hres'.out, rfl, ⟨by simpa using HH, (hRow2.keep (MG.block _ hRow2.lt (Ne.symm hap.1))), ((FW.keep (MG.block _ FW.lt (by omega))).congr (fun x => firO_eq ⟨r.g, sOf xs, f⟩ x)).mono (by omega), ((SW.keep (MG.block _ SW.lt (by omega))).congr (cntP_end hlen rfl f)).mono (by omega), okr, h'.out.grp, ⟨hap.1, by omega, by omega, by omega, by omega, by omega⟩, hfit⟩, ?_, Nat.le_refl _, by omega⟩
            exact ((E'.out.mod _).trans (hM'.out.weak fun b hb => .inr hb)).trans (MG.weak fun b hb => .inl hb)
  · have dn : ((n : Int) != (r.g.length : Int)) = true := by simp; omega
    have hln : loadL r xs = none := by
      unfold loadL
      rw [if_neg (by rw [h.ok.len]; omega)]
    clear h
    go_enter Tryz.func44, Tryz.ntmps44
    go_wp2_with fail
    go_ret
    exact .inl ⟨hln, rfl, Ext.refl _⟩
end Go.Proofs.YtgajbgdkgelkgaaGreat
