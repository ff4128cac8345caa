/- Layer 8, the reference: devices, points, causes, effects. Printed by gen/r8b.py. -/
import Derived.Test.YtgajbgdkgelkgaaGreatR8A
namespace Go.Proofs.YtgajbgdkgelkgaaGreat
open Go.RowKit

theorem picks_one (x most size : Int) (h : 1 ≤ most) : picksB [x] most size = wiB x 0 (size - 1) := by
  have h1 : wiB (([x] : List Int).length : Int) 1 most = true := by unfold wiB; simp; omega
  have h2 : twinsB (fun a b : Int => a == b) [x] = false := rfl
  unfold picksB
  rw [h1, h2]
  simp
theorem RdC.cellsE {α : Type} {cells : α → List Value} {sz : Nat} {w w' : World} {n : Nat} {A : Option Addr} {xs : List α} (h : RdC cells sz w w.heap.size A n xs) (E : Ext w w') {j : Nat} {x : α} (hx : xs[j]? = some x) {b o : Nat} (e : A = some ⟨b, o, none⟩) (i : Nat) (hi : i < sz) : w'.cell? ⟨b, o + j * sz + i, none⟩ = (cells x)[i]? := by
  obtain ⟨b', o', e', hb, hc⟩ := h.at_ hx
  rw [e] at e'
  obtain ⟨rfl, rfl⟩ : b = b' ∧ o = o' := by simpa using e'
  exact (E.cell _ hb).trans (hc i hi)
def devicesR (l : List Dv) : Bool := l.all devB && !twinsB (fun a b : Dv => a.ln == b.ln && a.un == b.un) l && decide (l.length ≤ 4)
set_option maxRecDepth 100000 in
set_option maxHeartbeats 6400000 in
theorem rDevices_any (A : Option Addr) (n c : Nat) (l : List Dv) (w : World) (hx : RdC Dv.cells 3 w w.heap.size A n l) (hn : n ≤ maxLen) :
    Calls Tryz.prog 137 #[.slice A n c] w fun e w' => e = .returned (.bool (devicesR l)) ∧ Ext w w' := by
  unfold maxLen at hn
  have hp0 : devicesR l = (l.all (devB) && !twinsB (fun a b : Dv => a.ln == b.ln && a.un == b.un) l && decide (l.length ≤ 4)) := rfl
  have hpb := Lib.hid hp0
  have hl' := Lib.hid hx.len
  have hx' := Lib.hid hx
  clear hx hp0
  go_enter Tryz.func137, Tryz.ntmps137
  go_wp2_with fail
  go_loopw [3] (fun i wr => ∃ k : Nat, k ≤ n ∧ i = .int .i64 k ∧ (∀ (j : Nat) (x : Dv), l[j]? = some x → j < k → devB x = true) ∧ twinsTo (fun a b : Dv => a.ln == b.ln && a.un == b.un) l k = false ∧ Ext w wr) (fun i _ => n - (intOf i).toNat)
  case atStart => exact ⟨0, by omega, rfl, fun j _ _ hj => absurd hj (by omega), rfl, Ext.refl _⟩
  case round =>
    obtain ⟨k, hk, rfl, hz, ht, hE⟩ := hrel
    obtain ⟨V, hV⟩ : ∃ V, V = wr := ⟨_, rfl⟩
    subst hV
    have hz' := Lib.hid hz
    have ht' := Lib.hid ht
    have hE' := Lib.hid hE
    clear hz ht hE
    by_cases hlt : k < n
    · have e3 : (k : Int) < (n : Int) := by omega
      obtain ⟨x, hx⟩ := hx'.out.get hlt
      obtain ⟨b1, o1, hA, hb1, -⟩ := hx'.out.at_ hx
      have hgw : b1 < V.heap.size := Nat.lt_of_lt_of_le hb1 hE'.out.size
      have p1 : V.cell? ⟨b1, o1 + k * 3 + 1, none⟩ = some (.int .i64 x.ln) := hx'.out.cellsE hE'.out hx hA 1 (by decide)
      have p2 : V.cell? ⟨b1, o1 + k * 3 + 2, none⟩ = some (.int .i64 x.un) := hx'.out.cellsE hE'.out hx hA 2 (by decide)
      have hck : Hid (devB x = (wiB x.ln 0 3 && wiB x.un 1 247)) := Lib.hid (rfl)
      have hx2 := Lib.hid hx
      have hb9 := Lib.hid hb1
      subst hA
      clear hx hb1
      rcases bools2 (wiB x.ln 0 3) (wiB x.un 1 247) with c0 | ⟨c0, c1⟩ | ⟨c0, c1⟩
      · have hf : Hid (l.all (devB) = false) := Lib.hid (all_not hx2.out (by rw [hck.out, c0]; simp))
        go_wp2_with (first | (go_at_call 135; refine (rWithin_any _ _ _ _).mono ?_; rintro e w' ⟨rfl, rfl⟩))
        go_ret
        exact ⟨by rw [hpb.out, hf.out]; simp, hE'.out⟩
      · have hf : Hid (l.all (devB) = false) := Lib.hid (all_not hx2.out (by rw [hck.out, c0, c1]; simp))
        go_wp2_with (first | (go_at_call 135; refine (rWithin_any _ _ _ _).mono ?_; rintro e w' ⟨rfl, rfl⟩))
        go_ret
        exact ⟨by rw [hpb.out, hf.out]; simp, hE'.out⟩
      · have hf : Hid (devB x = true) := Lib.hid (by rw [hck.out, c0, c1]; rfl)
        go_wp2_with (first | (go_at_call 135; refine (rWithin_any _ _ _ _).mono ?_; rintro e w' ⟨rfl, rfl⟩))
        obtain ⟨Z, hZ⟩ : ∃ Z, Z = V := ⟨_, rfl⟩
        subst hZ
        have EZ := Lib.hid (hE'.out)
        go_loopw [4] (fun i wr => ∃ j : Nat, j ≤ k ∧ i = .int .i64 j ∧ (List.range j).any (oneAt (fun a b : Dv => a.ln == b.ln && a.un == b.un) l k) = false ∧ Ext Z wr) (fun i _ => k - (intOf i).toNat)
        case atStart => exact ⟨0, by omega, rfl, rfl, Ext.refl _⟩
        case round =>
          obtain ⟨j, hj, rfl, ha, hQ⟩ := hrel
          have ha' := Lib.hid ha
          have hQ' := Lib.hid hQ
          clear ha hQ
          by_cases hjk : j < k
          · have e4 : (j : Int) < (k : Int) := by omega
            have e5 : (j : Int) < (n : Int) := by omega
            obtain ⟨y, hy⟩ := hx'.out.get (show j < n by omega)
            have s1 : wr.cell? ⟨b1, o1 + k * 3 + 1, none⟩ = some (.int .i64 x.ln) := hx'.out.cellsE (EZ.out.go hQ'.out) hx2.out rfl 1 (by decide)
            have s2 : wr.cell? ⟨b1, o1 + k * 3 + 2, none⟩ = some (.int .i64 x.un) := hx'.out.cellsE (EZ.out.go hQ'.out) hx2.out rfl 2 (by decide)
            have q1 : wr.cell? ⟨b1, o1 + j * 3 + 1, none⟩ = some (.int .i64 y.ln) := hx'.out.cellsE (EZ.out.go hQ'.out) hy rfl 1 (by decide)
            have q2 : wr.cell? ⟨b1, o1 + j * 3 + 2, none⟩ = some (.int .i64 y.un) := hx'.out.cellsE (EZ.out.go hQ'.out) hy rfl 2 (by decide)
            have hy' := Lib.hid hy
            have hgq : b1 < wr.heap.size := by have := hb9.out; have := EZ.out.size; have := hQ'.out.size; omega
            clear hy
            rcases bools2 (y.ln == x.ln) (y.un == x.un) with d0 | ⟨d0, d1⟩ | ⟨d0, d1⟩
            · have hb' : Hid (((fun a b : Dv => a.ln == b.ln && a.un == b.un) y x) = false) := Lib.hid (by show (y.ln == x.ln && y.un == x.un) = false; rw [d0]; rfl)
              go_wp2_with fail
              go_quiet (fail)
              go_wp2_with fail
              go_roundw
              case rel => exact ⟨j + 1, by omega, by go_num, any_next ha'.out hy'.out hx2.out hb'.out, hQ'.out.goD _⟩
              case measure => simp [intOf]; omega
            · have hb' : Hid (((fun a b : Dv => a.ln == b.ln && a.un == b.un) y x) = false) := Lib.hid (by show (y.ln == x.ln && y.un == x.un) = false; rw [d0, d1]; rfl)
              go_wp2_with fail
              go_quiet (fail)
              go_wp2_with fail
              go_roundw
              case rel => exact ⟨j + 1, by omega, by go_num, any_next ha'.out hy'.out hx2.out hb'.out, hQ'.out.goD _⟩
              case measure => simp [intOf]; omega
            · have hb' : Hid (((fun a b : Dv => a.ln == b.ln && a.un == b.un) y x) = true) := Lib.hid (by show (y.ln == x.ln && y.un == x.un) = true; rw [d0, d1]; rfl)
              go_wp2_with fail
              go_quiet (fail)
              go_wp2_with fail
              go_ret
              exact ⟨by rw [hpb.out, twins_hit hjk hy'.out hx2.out hb'.out, Bool.not_true, Bool.and_false, Bool.false_and]; rfl, (EZ.out.go hQ'.out).goD _⟩
          · obtain rfl : j = k := by omega
            go_wp2_with fail
            go_roundw
            case rel => exact ⟨j + 1, by omega, by go_num, all_more hz'.out hx2.out hf.out, twins_next ht'.out ha'.out, EZ.out.go hQ'.out⟩
            case measure => simp [intOf]; omega
    · obtain rfl : k = n := by omega
      have hall : Hid (l.all (devB) = true) := Lib.hid (all_of hl'.out hz'.out)
      have htw : Hid (twinsB (fun a b : Dv => a.ln == b.ln && a.un == b.un) l = false) := Lib.hid (by unfold twinsB; rw [hl'.out]; exact ht'.out)
      have hf : Hid (devicesR l = decide ((k : Int) ≤ 4)) := Lib.hid (by
        rw [hpb.out, hall.out, htw.out, hl'.out, Bool.true_and, Bool.not_false, Bool.true_and]
        apply decide_eq_decide.2; omega)
      go_wp2_with fail
      go_ret
      exact ⟨by rw [hf.out]; rfl, hE'.out⟩
def pointsR (nd : Int) (l : List Pt) : Bool := l.all (ptB nd) && !twinsB (fun a b : Pt => a.dv == b.dv && a.pl == b.pl) l && decide (l.length ≤ 16)
set_option maxRecDepth 100000 in
set_option maxHeartbeats 6400000 in
theorem rPoints_any (nd : Int) (A : Option Addr) (n c : Nat) (l : List Pt) (w : World) (hx : RdC Pt.cells 6 w w.heap.size A n l) (hn : n ≤ maxLen) :
    Calls Tryz.prog 138 #[.slice A n c, .int .i64 nd] w fun e w' => e = .returned (.bool (pointsR nd l)) ∧ Ext w w' := by
  unfold maxLen at hn
  have hp0 : pointsR nd l = (l.all (ptB nd) && !twinsB (fun a b : Pt => a.dv == b.dv && a.pl == b.pl) l && decide (l.length ≤ 16)) := rfl
  have hpb := Lib.hid hp0
  have hl' := Lib.hid hx.len
  have hx' := Lib.hid hx
  clear hx hp0
  go_enter Tryz.func138, Tryz.ntmps138
  go_wp2_with fail
  go_loopw [5] (fun i wr => ∃ k : Nat, k ≤ n ∧ i = .int .i64 k ∧ (∀ (j : Nat) (x : Pt), l[j]? = some x → j < k → ptB nd x = true) ∧ twinsTo (fun a b : Pt => a.dv == b.dv && a.pl == b.pl) l k = false ∧ Ext w wr) (fun i _ => n - (intOf i).toNat)
  case atStart => exact ⟨0, by omega, rfl, fun j _ _ hj => absurd hj (by omega), rfl, Ext.refl _⟩
  case round =>
    obtain ⟨k, hk, rfl, hz, ht, hE⟩ := hrel
    obtain ⟨V, hV⟩ : ∃ V, V = wr := ⟨_, rfl⟩
    subst hV
    have hz' := Lib.hid hz
    have ht' := Lib.hid ht
    have hE' := Lib.hid hE
    clear hz ht hE
    by_cases hlt : k < n
    · have e3 : (k : Int) < (n : Int) := by omega
      obtain ⟨x, hx⟩ := hx'.out.get hlt
      obtain ⟨b1, o1, hA, hb1, -⟩ := hx'.out.at_ hx
      have hgw : b1 < V.heap.size := Nat.lt_of_lt_of_le hb1 hE'.out.size
      have p0 : V.cell? ⟨b1, o1 + k * 6, none⟩ = some (.string x.nm) := hx'.out.cellsE hE'.out hx hA 0 (by decide)
      have p1 : V.cell? ⟨b1, o1 + k * 6 + 1, none⟩ = some (.int .i64 x.dv) := hx'.out.cellsE hE'.out hx hA 1 (by decide)
      have p2 : V.cell? ⟨b1, o1 + k * 6 + 2, none⟩ = some (.int .i64 x.pl) := hx'.out.cellsE hE'.out hx hA 2 (by decide)
      have p3 : V.cell? ⟨b1, o1 + k * 6 + 3, none⟩ = some (.int .i64 x.tr) := hx'.out.cellsE hE'.out hx hA 3 (by decide)
      have p4 : V.cell? ⟨b1, o1 + k * 6 + 4, none⟩ = some (.int .i64 x.on_) := hx'.out.cellsE hE'.out hx hA 4 (by decide)
      have p5 : V.cell? ⟨b1, o1 + k * 6 + 5, none⟩ = some (.int .i64 x.off) := hx'.out.cellsE hE'.out hx hA 5 (by decide)
      have hck : Hid (ptB nd x = (picksB [x.dv] 1 nd && wiB x.pl 0 255 && wiB x.tr 0 1 && wiB x.on_ 0 1000 && wiB x.off 0 1000)) := Lib.hid (by rw [picks_one _ _ _ (by decide)]; rfl)
      have hx2 := Lib.hid hx
      have hb9 := Lib.hid hb1
      subst hA
      clear hx hb1
      go_upto_region 5 with fail
      have EU := (Ext.refl V).goA (.cells #[.string x.nm, .int .i64 x.dv, .int .i64 x.pl, .int .i64 x.tr, .int .i64 x.on_, .int .i64 x.off] 35)
      have B8 := heap_alloc_new V (.cells #[.string x.nm, .int .i64 x.dv, .int .i64 x.pl, .int .i64 x.tr, .int .i64 x.on_, .int .i64 x.off] 35)
      generalize V.alloc (.cells #[.string x.nm, .int .i64 x.dv, .int .i64 x.pl, .int .i64 x.tr, .int .i64 x.on_, .int .i64 x.off] 35) = U at *
      have gU := lt_of_block B8
      have ER := Ext.refl U
      have EU' := Lib.hid (hE'.out.go EU)
      have r0 : ∀ w', Ext U w' → w'.cell? ⟨V.heap.size, 0, none⟩ = some (.string x.nm) := fun w' M => cellsAt ((M.block V.heap.size gU).trans B8) 0
      have r1 : ∀ w', Ext U w' → w'.cell? ⟨V.heap.size, 1, none⟩ = some (.int .i64 x.dv) := fun w' M => cellsAt ((M.block V.heap.size gU).trans B8) 1
      have r2 : ∀ w', Ext U w' → w'.cell? ⟨V.heap.size, 2, none⟩ = some (.int .i64 x.pl) := fun w' M => cellsAt ((M.block V.heap.size gU).trans B8) 2
      have r3 : ∀ w', Ext U w' → w'.cell? ⟨V.heap.size, 3, none⟩ = some (.int .i64 x.tr) := fun w' M => cellsAt ((M.block V.heap.size gU).trans B8) 3
      have r4 : ∀ w', Ext U w' → w'.cell? ⟨V.heap.size, 4, none⟩ = some (.int .i64 x.on_) := fun w' M => cellsAt ((M.block V.heap.size gU).trans B8) 4
      have r5 : ∀ w', Ext U w' → w'.cell? ⟨V.heap.size, 5, none⟩ = some (.int .i64 x.off) := fun w' M => cellsAt ((M.block V.heap.size gU).trans B8) 5
      clear p0 p1 p2 p3 p4 p5 B8
      rcases bools5 (picksB [x.dv] 1 nd) (wiB x.pl 0 255) (wiB x.tr 0 1) (wiB x.on_ 0 1000) (wiB x.off 0 1000) with c0 | ⟨c0, c1⟩ | ⟨c0, c1, c2⟩ | ⟨c0, c1, c2, c3⟩ | ⟨c0, c1, c2, c3, c4⟩ | ⟨c0, c1, c2, c3, c4⟩
      · have hf : Hid (l.all (ptB nd) = false) := Lib.hid (all_not hx2.out (by rw [hck.out, c0]; simp))
        go_wp2_with (first | (go_at_call 135; refine (rWithin_any _ _ _ _).mono ?_; rintro e w' ⟨rfl, rfl⟩) | (go_at_call 153; refine (rSome_any _ 1 1 _ [x.dv] 1 nd _ (RdI.new [x.dv] (by simp) rfl rfl) (by decide)).mono ?_; rintro e W1 ⟨rfl, X1⟩; have X9 : Ext U W1 := (ER.goA _).go X1))
        go_ret
        exact ⟨by rw [hpb.out, hf.out]; simp, EU'.out.go X9⟩
      · have hf : Hid (l.all (ptB nd) = false) := Lib.hid (all_not hx2.out (by rw [hck.out, c0, c1]; simp))
        go_wp2_with (first | (go_at_call 135; refine (rWithin_any _ _ _ _).mono ?_; rintro e w' ⟨rfl, rfl⟩) | (go_at_call 153; refine (rSome_any _ 1 1 _ [x.dv] 1 nd _ (RdI.new [x.dv] (by simp) rfl rfl) (by decide)).mono ?_; rintro e W1 ⟨rfl, X1⟩; have X9 : Ext U W1 := (ER.goA _).go X1))
        go_ret
        exact ⟨by rw [hpb.out, hf.out]; simp, EU'.out.go X9⟩
      · have hf : Hid (l.all (ptB nd) = false) := Lib.hid (all_not hx2.out (by rw [hck.out, c0, c1, c2]; simp))
        go_wp2_with (first | (go_at_call 135; refine (rWithin_any _ _ _ _).mono ?_; rintro e w' ⟨rfl, rfl⟩) | (go_at_call 153; refine (rSome_any _ 1 1 _ [x.dv] 1 nd _ (RdI.new [x.dv] (by simp) rfl rfl) (by decide)).mono ?_; rintro e W1 ⟨rfl, X1⟩; have X9 : Ext U W1 := (ER.goA _).go X1))
        go_ret
        exact ⟨by rw [hpb.out, hf.out]; simp, EU'.out.go X9⟩
      · have hf : Hid (l.all (ptB nd) = false) := Lib.hid (all_not hx2.out (by rw [hck.out, c0, c1, c2, c3]; simp))
        go_wp2_with (first | (go_at_call 135; refine (rWithin_any _ _ _ _).mono ?_; rintro e w' ⟨rfl, rfl⟩) | (go_at_call 153; refine (rSome_any _ 1 1 _ [x.dv] 1 nd _ (RdI.new [x.dv] (by simp) rfl rfl) (by decide)).mono ?_; rintro e W1 ⟨rfl, X1⟩; have X9 : Ext U W1 := (ER.goA _).go X1))
        go_ret
        exact ⟨by rw [hpb.out, hf.out]; simp, EU'.out.go X9⟩
      · have hf : Hid (l.all (ptB nd) = false) := Lib.hid (all_not hx2.out (by rw [hck.out, c0, c1, c2, c3, c4]; simp))
        go_wp2_with (first | (go_at_call 135; refine (rWithin_any _ _ _ _).mono ?_; rintro e w' ⟨rfl, rfl⟩) | (go_at_call 153; refine (rSome_any _ 1 1 _ [x.dv] 1 nd _ (RdI.new [x.dv] (by simp) rfl rfl) (by decide)).mono ?_; rintro e W1 ⟨rfl, X1⟩; have X9 : Ext U W1 := (ER.goA _).go X1))
        go_ret
        exact ⟨by rw [hpb.out, hf.out]; simp, EU'.out.go X9⟩
      · have hf : Hid (ptB nd x = true) := Lib.hid (by rw [hck.out, c0, c1, c2, c3, c4]; rfl)
        go_wp2_with (first | (go_at_call 135; refine (rWithin_any _ _ _ _).mono ?_; rintro e w' ⟨rfl, rfl⟩) | (go_at_call 153; refine (rSome_any _ 1 1 _ [x.dv] 1 nd _ (RdI.new [x.dv] (by simp) rfl rfl) (by decide)).mono ?_; rintro e W1 ⟨rfl, X1⟩; have X9 : Ext U W1 := (ER.goA _).go X1))
        obtain ⟨Z, hZ⟩ : ∃ Z, Z = W1 := ⟨_, rfl⟩
        subst hZ
        have EZ := Lib.hid (EU'.out.go X9)
        go_loopw [7] (fun i wr => ∃ j : Nat, j ≤ k ∧ i = .int .i64 j ∧ (List.range j).any (oneAt (fun a b : Pt => a.dv == b.dv && a.pl == b.pl) l k) = false ∧ Ext Z wr) (fun i _ => k - (intOf i).toNat)
        case atStart => exact ⟨0, by omega, rfl, rfl, Ext.refl _⟩
        case round =>
          obtain ⟨j, hj, rfl, ha, hQ⟩ := hrel
          have ha' := Lib.hid ha
          have hQ' := Lib.hid hQ
          clear ha hQ
          by_cases hjk : j < k
          · have e4 : (j : Int) < (k : Int) := by omega
            have e5 : (j : Int) < (n : Int) := by omega
            obtain ⟨y, hy⟩ := hx'.out.get (show j < n by omega)
            have s1 : wr.cell? ⟨V.heap.size, 1, none⟩ = some (.int .i64 x.dv) := r1 wr (X9.go hQ'.out)
            have s2 : wr.cell? ⟨V.heap.size, 2, none⟩ = some (.int .i64 x.pl) := r2 wr (X9.go hQ'.out)
            have q1 : wr.cell? ⟨b1, o1 + j * 6 + 1, none⟩ = some (.int .i64 y.dv) := hx'.out.cellsE (EZ.out.go hQ'.out) hy rfl 1 (by decide)
            have q2 : wr.cell? ⟨b1, o1 + j * 6 + 2, none⟩ = some (.int .i64 y.pl) := hx'.out.cellsE (EZ.out.go hQ'.out) hy rfl 2 (by decide)
            have hy' := Lib.hid hy
            have hgq : b1 < wr.heap.size := by have := hb9.out; have := EZ.out.size; have := hQ'.out.size; omega
            clear hy
            rcases bools2 (y.dv == x.dv) (y.pl == x.pl) with d0 | ⟨d0, d1⟩ | ⟨d0, d1⟩
            · have hb' : Hid (((fun a b : Pt => a.dv == b.dv && a.pl == b.pl) y x) = false) := Lib.hid (by show (y.dv == x.dv && y.pl == x.pl) = false; rw [d0]; rfl)
              go_wp2_with fail
              go_quiet (fail)
              go_wp2_with fail
              go_roundw
              case rel => exact ⟨j + 1, by omega, by go_num, any_next ha'.out hy'.out hx2.out hb'.out, hQ'.out.goD _⟩
              case measure => simp [intOf]; omega
            · have hb' : Hid (((fun a b : Pt => a.dv == b.dv && a.pl == b.pl) y x) = false) := Lib.hid (by show (y.dv == x.dv && y.pl == x.pl) = false; rw [d0, d1]; rfl)
              go_wp2_with fail
              go_quiet (fail)
              go_wp2_with fail
              go_roundw
              case rel => exact ⟨j + 1, by omega, by go_num, any_next ha'.out hy'.out hx2.out hb'.out, hQ'.out.goD _⟩
              case measure => simp [intOf]; omega
            · have hb' : Hid (((fun a b : Pt => a.dv == b.dv && a.pl == b.pl) y x) = true) := Lib.hid (by show (y.dv == x.dv && y.pl == x.pl) = true; rw [d0, d1]; rfl)
              go_wp2_with fail
              go_quiet (fail)
              go_wp2_with fail
              go_ret
              exact ⟨by rw [hpb.out, twins_hit hjk hy'.out hx2.out hb'.out, Bool.not_true, Bool.and_false, Bool.false_and]; rfl, (EZ.out.go hQ'.out).goD _⟩
          · obtain rfl : j = k := by omega
            go_wp2_with fail
            go_roundw
            case rel => exact ⟨j + 1, by omega, by go_num, all_more hz'.out hx2.out hf.out, twins_next ht'.out ha'.out, EZ.out.go hQ'.out⟩
            case measure => simp [intOf]; omega
    · obtain rfl : k = n := by omega
      have hall : Hid (l.all (ptB nd) = true) := Lib.hid (all_of hl'.out hz'.out)
      have htw : Hid (twinsB (fun a b : Pt => a.dv == b.dv && a.pl == b.pl) l = false) := Lib.hid (by unfold twinsB; rw [hl'.out]; exact ht'.out)
      have hf : Hid (pointsR nd l = decide ((k : Int) ≤ 16)) := Lib.hid (by
        rw [hpb.out, hall.out, htw.out, hl'.out, Bool.true_and, Bool.not_false, Bool.true_and]
        apply decide_eq_decide.2; omega)
      go_wp2_with fail
      go_ret
      exact ⟨by rw [hf.out]; rfl, hE'.out⟩
def causesR (np : Int) (l : List Ca) : Bool := l.all (caB np) && decide (l.length ≤ 8)
set_option maxRecDepth 100000 in
set_option maxHeartbeats 6400000 in
theorem rCauses_any (np : Int) (A : Option Addr) (n c : Nat) (l : List Ca) (w : World) (hx : RdC Ca.cells 5 w w.heap.size A n l) (hn : n ≤ maxLen) (ho : ∀ x ∈ l, RdI w w.heap.size .i64 x.A x.n x.ps ∧ x.n ≤ x.c ∧ x.c ≤ maxLen) :
    Calls Tryz.prog 139 #[.slice A n c, .int .i64 np] w fun e w' => e = .returned (.bool (causesR np l)) ∧ Ext w w' := by
  unfold maxLen at hn
  have hp0 : causesR np l = (l.all (caB np) && decide (l.length ≤ 8)) := rfl
  have hpb := Lib.hid hp0
  have hl' := Lib.hid hx.len
  have hx' := Lib.hid hx
  have ho' := Lib.hid ho
  clear hx hp0 ho
  go_enter Tryz.func139, Tryz.ntmps139
  go_wp2_with fail
  go_loopw [5] (fun i wr => ∃ k : Nat, k ≤ n ∧ i = .int .i64 k ∧ (∀ (j : Nat) (x : Ca), l[j]? = some x → j < k → caB np x = true) ∧ Ext w wr) (fun i _ => n - (intOf i).toNat)
  case atStart => exact ⟨0, by omega, rfl, fun j _ _ hj => absurd hj (by omega), Ext.refl _⟩
  case round =>
    obtain ⟨k, hk, rfl, hz, hE⟩ := hrel
    obtain ⟨V, hV⟩ : ∃ V, V = wr := ⟨_, rfl⟩
    subst hV
    have hz' := Lib.hid hz
    have hE' := Lib.hid hE
    clear hz hE
    by_cases hlt : k < n
    · have e3 : (k : Int) < (n : Int) := by omega
      obtain ⟨x, hx⟩ := hx'.out.get hlt
      obtain ⟨b1, o1, hA, hb1, -⟩ := hx'.out.at_ hx
      have hgw : b1 < V.heap.size := Nat.lt_of_lt_of_le hb1 hE'.out.size
      have p0 : V.cell? ⟨b1, o1 + k * 5, none⟩ = some (.string x.nm) := hx'.out.cellsE hE'.out hx hA 0 (by decide)
      have p1 : V.cell? ⟨b1, o1 + k * 5 + 1, none⟩ = some (.int .i64 x.vt) := hx'.out.cellsE hE'.out hx hA 1 (by decide)
      have p2 : V.cell? ⟨b1, o1 + k * 5 + 2, none⟩ = some (.int .i64 x.lp) := hx'.out.cellsE hE'.out hx hA 2 (by decide)
      have p3 : V.cell? ⟨b1, o1 + k * 5 + 3, none⟩ = some (.int .i64 x.lm) := hx'.out.cellsE hE'.out hx hA 3 (by decide)
      have p4 : V.cell? ⟨b1, o1 + k * 5 + 4, none⟩ = some (.slice x.A x.n x.c) := hx'.out.cellsE hE'.out hx hA 4 (by decide)
      have hck : Hid (caB np x = (picksB x.ps 4 np && wiB x.vt 1 x.n && wiB x.lp 1 6 && wiB x.lm 0 100000)) := Lib.hid (by unfold caB; rw [(ho'.out x (List.mem_of_getElem? hx)).1.len])
      have hx2 := Lib.hid hx
      have hb9 := Lib.hid hb1
      subst hA
      clear hx hb1
      go_upto_region 5 with fail
      have EU := (Ext.refl V).goA (.cells #[.string x.nm, .int .i64 x.vt, .int .i64 x.lp, .int .i64 x.lm, .slice x.A x.n x.c] 87)
      have B8 := heap_alloc_new V (.cells #[.string x.nm, .int .i64 x.vt, .int .i64 x.lp, .int .i64 x.lm, .slice x.A x.n x.c] 87)
      generalize V.alloc (.cells #[.string x.nm, .int .i64 x.vt, .int .i64 x.lp, .int .i64 x.lm, .slice x.A x.n x.c] 87) = U at *
      have gU := lt_of_block B8
      have ER := Ext.refl U
      have EU' := Lib.hid (hE'.out.go EU)
      have r0 : ∀ w', Ext U w' → w'.cell? ⟨V.heap.size, 0, none⟩ = some (.string x.nm) := fun w' M => cellsAt ((M.block V.heap.size gU).trans B8) 0
      have r1 : ∀ w', Ext U w' → w'.cell? ⟨V.heap.size, 1, none⟩ = some (.int .i64 x.vt) := fun w' M => cellsAt ((M.block V.heap.size gU).trans B8) 1
      have r2 : ∀ w', Ext U w' → w'.cell? ⟨V.heap.size, 2, none⟩ = some (.int .i64 x.lp) := fun w' M => cellsAt ((M.block V.heap.size gU).trans B8) 2
      have r3 : ∀ w', Ext U w' → w'.cell? ⟨V.heap.size, 3, none⟩ = some (.int .i64 x.lm) := fun w' M => cellsAt ((M.block V.heap.size gU).trans B8) 3
      have r4 : ∀ w', Ext U w' → w'.cell? ⟨V.heap.size, 4, none⟩ = some (.slice x.A x.n x.c) := fun w' M => cellsAt ((M.block V.heap.size gU).trans B8) 4
      clear p0 p1 p2 p3 p4 B8
      rcases bools4 (picksB x.ps 4 np) (wiB x.vt 1 x.n) (wiB x.lp 1 6) (wiB x.lm 0 100000) with c0 | ⟨c0, c1⟩ | ⟨c0, c1, c2⟩ | ⟨c0, c1, c2, c3⟩ | ⟨c0, c1, c2, c3⟩
      · have hf : Hid (l.all (caB np) = false) := Lib.hid (all_not hx2.out (by rw [hck.out, c0]; simp))
        go_wp2_with (first | (go_at_call 135; refine (rWithin_any _ _ _ _).mono ?_; rintro e w' ⟨rfl, rfl⟩) | (go_at_call 153; refine (rSome_any _ _ _ _ x.ps 4 np _ ((ho'.out x (List.mem_of_getElem? hx2.out)).1.ext EU'.out) (Nat.le_trans (ho'.out x (List.mem_of_getElem? hx2.out)).2.1 (ho'.out x (List.mem_of_getElem? hx2.out)).2.2)).mono ?_; rintro e W1 ⟨rfl, X1⟩; have X9 : Ext U W1 := X1))
        go_ret
        exact ⟨by rw [hpb.out, hf.out]; simp, EU'.out.go X9⟩
      · have hf : Hid (l.all (caB np) = false) := Lib.hid (all_not hx2.out (by rw [hck.out, c0, c1]; simp))
        go_wp2_with (first | (go_at_call 135; refine (rWithin_any _ _ _ _).mono ?_; rintro e w' ⟨rfl, rfl⟩) | (go_at_call 153; refine (rSome_any _ _ _ _ x.ps 4 np _ ((ho'.out x (List.mem_of_getElem? hx2.out)).1.ext EU'.out) (Nat.le_trans (ho'.out x (List.mem_of_getElem? hx2.out)).2.1 (ho'.out x (List.mem_of_getElem? hx2.out)).2.2)).mono ?_; rintro e W1 ⟨rfl, X1⟩; have X9 : Ext U W1 := X1))
        go_ret
        exact ⟨by rw [hpb.out, hf.out]; simp, EU'.out.go X9⟩
      · have hf : Hid (l.all (caB np) = false) := Lib.hid (all_not hx2.out (by rw [hck.out, c0, c1, c2]; simp))
        go_wp2_with (first | (go_at_call 135; refine (rWithin_any _ _ _ _).mono ?_; rintro e w' ⟨rfl, rfl⟩) | (go_at_call 153; refine (rSome_any _ _ _ _ x.ps 4 np _ ((ho'.out x (List.mem_of_getElem? hx2.out)).1.ext EU'.out) (Nat.le_trans (ho'.out x (List.mem_of_getElem? hx2.out)).2.1 (ho'.out x (List.mem_of_getElem? hx2.out)).2.2)).mono ?_; rintro e W1 ⟨rfl, X1⟩; have X9 : Ext U W1 := X1))
        go_ret
        exact ⟨by rw [hpb.out, hf.out]; simp, EU'.out.go X9⟩
      · have hf : Hid (l.all (caB np) = false) := Lib.hid (all_not hx2.out (by rw [hck.out, c0, c1, c2, c3]; simp))
        go_wp2_with (first | (go_at_call 135; refine (rWithin_any _ _ _ _).mono ?_; rintro e w' ⟨rfl, rfl⟩) | (go_at_call 153; refine (rSome_any _ _ _ _ x.ps 4 np _ ((ho'.out x (List.mem_of_getElem? hx2.out)).1.ext EU'.out) (Nat.le_trans (ho'.out x (List.mem_of_getElem? hx2.out)).2.1 (ho'.out x (List.mem_of_getElem? hx2.out)).2.2)).mono ?_; rintro e W1 ⟨rfl, X1⟩; have X9 : Ext U W1 := X1))
        go_ret
        exact ⟨by rw [hpb.out, hf.out]; simp, EU'.out.go X9⟩
      · have hf : Hid (caB np x = true) := Lib.hid (by rw [hck.out, c0, c1, c2, c3]; rfl)
        go_wp2_with (first | (go_at_call 135; refine (rWithin_any _ _ _ _).mono ?_; rintro e w' ⟨rfl, rfl⟩) | (go_at_call 153; refine (rSome_any _ _ _ _ x.ps 4 np _ ((ho'.out x (List.mem_of_getElem? hx2.out)).1.ext EU'.out) (Nat.le_trans (ho'.out x (List.mem_of_getElem? hx2.out)).2.1 (ho'.out x (List.mem_of_getElem? hx2.out)).2.2)).mono ?_; rintro e W1 ⟨rfl, X1⟩; have X9 : Ext U W1 := X1))
        go_roundw
        case rel => exact ⟨k + 1, by omega, by go_num, all_more hz'.out hx2.out hf.out, EU'.out.go X9⟩
        case measure => simp [intOf]; omega
    · obtain rfl : k = n := by omega
      have hall : Hid (l.all (caB np) = true) := Lib.hid (all_of hl'.out hz'.out)
      have hf : Hid (causesR np l = decide ((k : Int) ≤ 8)) := Lib.hid (by
        rw [hpb.out, hall.out, hl'.out, Bool.true_and]
        apply decide_eq_decide.2; omega)
      go_wp2_with fail
      go_ret
      exact ⟨by rw [hf.out]; rfl, hE'.out⟩
def effectsR (nd nc : Int) (l : List Ef) : Bool := l.all (efB nd nc) && !twinsB (fun a b : Ef => a.dv == b.dv && a.pl == b.pl) l && decide (l.length ≤ 8)
set_option maxRecDepth 100000 in
set_option maxHeartbeats 6400000 in
theorem rEffects_any (nd nc : Int) (A : Option Addr) (n c : Nat) (l : List Ef) (w : World) (hx : RdC Ef.cells 5 w w.heap.size A n l) (hn : n ≤ maxLen) (ho : ∀ x ∈ l, RdI w w.heap.size .i64 x.A x.n x.ps ∧ x.n ≤ x.c ∧ x.c ≤ maxLen) :
    Calls Tryz.prog 140 #[.slice A n c, .int .i64 nd, .int .i64 nc] w fun e w' => e = .returned (.bool (effectsR nd nc l)) ∧ Ext w w' := by
  unfold maxLen at hn
  have hp0 : effectsR nd nc l = (l.all (efB nd nc) && !twinsB (fun a b : Ef => a.dv == b.dv && a.pl == b.pl) l && decide (l.length ≤ 8)) := rfl
  have hpb := Lib.hid hp0
  have hl' := Lib.hid hx.len
  have hx' := Lib.hid hx
  have ho' := Lib.hid ho
  clear hx hp0 ho
  go_enter Tryz.func140, Tryz.ntmps140
  go_wp2_with fail
  go_loopw [7] (fun i wr => ∃ k : Nat, k ≤ n ∧ i = .int .i64 k ∧ (∀ (j : Nat) (x : Ef), l[j]? = some x → j < k → efB nd nc x = true) ∧ twinsTo (fun a b : Ef => a.dv == b.dv && a.pl == b.pl) l k = false ∧ Ext w wr) (fun i _ => n - (intOf i).toNat)
  case atStart => exact ⟨0, by omega, rfl, fun j _ _ hj => absurd hj (by omega), rfl, Ext.refl _⟩
  case round =>
    obtain ⟨k, hk, rfl, hz, ht, hE⟩ := hrel
    obtain ⟨V, hV⟩ : ∃ V, V = wr := ⟨_, rfl⟩
    subst hV
    have hz' := Lib.hid hz
    have ht' := Lib.hid ht
    have hE' := Lib.hid hE
    clear hz ht hE
    by_cases hlt : k < n
    · have e3 : (k : Int) < (n : Int) := by omega
      obtain ⟨x, hx⟩ := hx'.out.get hlt
      obtain ⟨b1, o1, hA, hb1, -⟩ := hx'.out.at_ hx
      have hgw : b1 < V.heap.size := Nat.lt_of_lt_of_le hb1 hE'.out.size
      have p0 : V.cell? ⟨b1, o1 + k * 5, none⟩ = some (.string x.nm) := hx'.out.cellsE hE'.out hx hA 0 (by decide)
      have p1 : V.cell? ⟨b1, o1 + k * 5 + 1, none⟩ = some (.int .i64 x.dv) := hx'.out.cellsE hE'.out hx hA 1 (by decide)
      have p2 : V.cell? ⟨b1, o1 + k * 5 + 2, none⟩ = some (.int .i64 x.pl) := hx'.out.cellsE hE'.out hx hA 2 (by decide)
      have p3 : V.cell? ⟨b1, o1 + k * 5 + 3, none⟩ = some (.int .i64 x.sf) := hx'.out.cellsE hE'.out hx hA 3 (by decide)
      have p4 : V.cell? ⟨b1, o1 + k * 5 + 4, none⟩ = some (.slice x.A x.n x.c) := hx'.out.cellsE hE'.out hx hA 4 (by decide)
      have hck : Hid (efB nd nc x = (picksB [x.dv] 1 nd && wiB x.pl 0 255 && wiB x.sf 0 1 && picksB x.ps 8 nc)) := Lib.hid (by rw [picks_one _ _ _ (by decide)]; rfl)
      have hx2 := Lib.hid hx
      have hb9 := Lib.hid hb1
      subst hA
      clear hx hb1
      go_upto_region 5 with fail
      have EU := (Ext.refl V).goA (.cells #[.string x.nm, .int .i64 x.dv, .int .i64 x.pl, .int .i64 x.sf, .slice x.A x.n x.c] 59)
      have B8 := heap_alloc_new V (.cells #[.string x.nm, .int .i64 x.dv, .int .i64 x.pl, .int .i64 x.sf, .slice x.A x.n x.c] 59)
      generalize V.alloc (.cells #[.string x.nm, .int .i64 x.dv, .int .i64 x.pl, .int .i64 x.sf, .slice x.A x.n x.c] 59) = U at *
      have gU := lt_of_block B8
      have ER := Ext.refl U
      have EU' := Lib.hid (hE'.out.go EU)
      have r0 : ∀ w', Ext U w' → w'.cell? ⟨V.heap.size, 0, none⟩ = some (.string x.nm) := fun w' M => cellsAt ((M.block V.heap.size gU).trans B8) 0
      have r1 : ∀ w', Ext U w' → w'.cell? ⟨V.heap.size, 1, none⟩ = some (.int .i64 x.dv) := fun w' M => cellsAt ((M.block V.heap.size gU).trans B8) 1
      have r2 : ∀ w', Ext U w' → w'.cell? ⟨V.heap.size, 2, none⟩ = some (.int .i64 x.pl) := fun w' M => cellsAt ((M.block V.heap.size gU).trans B8) 2
      have r3 : ∀ w', Ext U w' → w'.cell? ⟨V.heap.size, 3, none⟩ = some (.int .i64 x.sf) := fun w' M => cellsAt ((M.block V.heap.size gU).trans B8) 3
      have r4 : ∀ w', Ext U w' → w'.cell? ⟨V.heap.size, 4, none⟩ = some (.slice x.A x.n x.c) := fun w' M => cellsAt ((M.block V.heap.size gU).trans B8) 4
      clear p0 p1 p2 p3 p4 B8
      rcases bools4 (picksB [x.dv] 1 nd) (wiB x.pl 0 255) (wiB x.sf 0 1) (picksB x.ps 8 nc) with c0 | ⟨c0, c1⟩ | ⟨c0, c1, c2⟩ | ⟨c0, c1, c2, c3⟩ | ⟨c0, c1, c2, c3⟩
      · have hf : Hid (l.all (efB nd nc) = false) := Lib.hid (all_not hx2.out (by rw [hck.out, c0]; simp))
        go_wp2_with (first | (go_at_call 135; refine (rWithin_any _ _ _ _).mono ?_; rintro e w' ⟨rfl, rfl⟩) | (go_at_call 153; refine (rSome_any _ _ _ _ x.ps 8 nc _ ((ho'.out x (List.mem_of_getElem? hx2.out)).1.ext (EU'.out.go X9)) (Nat.le_trans (ho'.out x (List.mem_of_getElem? hx2.out)).2.1 (ho'.out x (List.mem_of_getElem? hx2.out)).2.2)).mono ?_; rintro e W2 ⟨rfl, X2⟩; have X10 : Ext U W2 := X9.go X2) | (go_at_call 153; refine (rSome_any _ 1 1 _ [x.dv] 1 nd _ (RdI.new [x.dv] (by simp) rfl rfl) (by decide)).mono ?_; rintro e W1 ⟨rfl, X1⟩; have X9 : Ext U W1 := (ER.goA _).go X1))
        go_ret
        exact ⟨by rw [hpb.out, hf.out]; simp, EU'.out.go X9⟩
      · have hf : Hid (l.all (efB nd nc) = false) := Lib.hid (all_not hx2.out (by rw [hck.out, c0, c1]; simp))
        go_wp2_with (first | (go_at_call 135; refine (rWithin_any _ _ _ _).mono ?_; rintro e w' ⟨rfl, rfl⟩) | (go_at_call 153; refine (rSome_any _ _ _ _ x.ps 8 nc _ ((ho'.out x (List.mem_of_getElem? hx2.out)).1.ext (EU'.out.go X9)) (Nat.le_trans (ho'.out x (List.mem_of_getElem? hx2.out)).2.1 (ho'.out x (List.mem_of_getElem? hx2.out)).2.2)).mono ?_; rintro e W2 ⟨rfl, X2⟩; have X10 : Ext U W2 := X9.go X2) | (go_at_call 153; refine (rSome_any _ 1 1 _ [x.dv] 1 nd _ (RdI.new [x.dv] (by simp) rfl rfl) (by decide)).mono ?_; rintro e W1 ⟨rfl, X1⟩; have X9 : Ext U W1 := (ER.goA _).go X1))
        go_ret
        exact ⟨by rw [hpb.out, hf.out]; simp, EU'.out.go X9⟩
      · have hf : Hid (l.all (efB nd nc) = false) := Lib.hid (all_not hx2.out (by rw [hck.out, c0, c1, c2]; simp))
        go_wp2_with (first | (go_at_call 135; refine (rWithin_any _ _ _ _).mono ?_; rintro e w' ⟨rfl, rfl⟩) | (go_at_call 153; refine (rSome_any _ _ _ _ x.ps 8 nc _ ((ho'.out x (List.mem_of_getElem? hx2.out)).1.ext (EU'.out.go X9)) (Nat.le_trans (ho'.out x (List.mem_of_getElem? hx2.out)).2.1 (ho'.out x (List.mem_of_getElem? hx2.out)).2.2)).mono ?_; rintro e W2 ⟨rfl, X2⟩; have X10 : Ext U W2 := X9.go X2) | (go_at_call 153; refine (rSome_any _ 1 1 _ [x.dv] 1 nd _ (RdI.new [x.dv] (by simp) rfl rfl) (by decide)).mono ?_; rintro e W1 ⟨rfl, X1⟩; have X9 : Ext U W1 := (ER.goA _).go X1))
        go_ret
        exact ⟨by rw [hpb.out, hf.out]; simp, EU'.out.go X9⟩
      · have hf : Hid (l.all (efB nd nc) = false) := Lib.hid (all_not hx2.out (by rw [hck.out, c0, c1, c2, c3]; simp))
        go_wp2_with (first | (go_at_call 135; refine (rWithin_any _ _ _ _).mono ?_; rintro e w' ⟨rfl, rfl⟩) | (go_at_call 153; refine (rSome_any _ _ _ _ x.ps 8 nc _ ((ho'.out x (List.mem_of_getElem? hx2.out)).1.ext (EU'.out.go X9)) (Nat.le_trans (ho'.out x (List.mem_of_getElem? hx2.out)).2.1 (ho'.out x (List.mem_of_getElem? hx2.out)).2.2)).mono ?_; rintro e W2 ⟨rfl, X2⟩; have X10 : Ext U W2 := X9.go X2) | (go_at_call 153; refine (rSome_any _ 1 1 _ [x.dv] 1 nd _ (RdI.new [x.dv] (by simp) rfl rfl) (by decide)).mono ?_; rintro e W1 ⟨rfl, X1⟩; have X9 : Ext U W1 := (ER.goA _).go X1))
        go_ret
        exact ⟨by rw [hpb.out, hf.out]; simp, EU'.out.go X10⟩
      · have hf : Hid (efB nd nc x = true) := Lib.hid (by rw [hck.out, c0, c1, c2, c3]; rfl)
        go_wp2_with (first | (go_at_call 135; refine (rWithin_any _ _ _ _).mono ?_; rintro e w' ⟨rfl, rfl⟩) | (go_at_call 153; refine (rSome_any _ _ _ _ x.ps 8 nc _ ((ho'.out x (List.mem_of_getElem? hx2.out)).1.ext (EU'.out.go X9)) (Nat.le_trans (ho'.out x (List.mem_of_getElem? hx2.out)).2.1 (ho'.out x (List.mem_of_getElem? hx2.out)).2.2)).mono ?_; rintro e W2 ⟨rfl, X2⟩; have X10 : Ext U W2 := X9.go X2) | (go_at_call 153; refine (rSome_any _ 1 1 _ [x.dv] 1 nd _ (RdI.new [x.dv] (by simp) rfl rfl) (by decide)).mono ?_; rintro e W1 ⟨rfl, X1⟩; have X9 : Ext U W1 := (ER.goA _).go X1))
        obtain ⟨Z, hZ⟩ : ∃ Z, Z = W2 := ⟨_, rfl⟩
        subst hZ
        have EZ := Lib.hid (EU'.out.go X10)
        go_loopw [9] (fun i wr => ∃ j : Nat, j ≤ k ∧ i = .int .i64 j ∧ (List.range j).any (oneAt (fun a b : Ef => a.dv == b.dv && a.pl == b.pl) l k) = false ∧ Ext Z wr) (fun i _ => k - (intOf i).toNat)
        case atStart => exact ⟨0, by omega, rfl, rfl, Ext.refl _⟩
        case round =>
          obtain ⟨j, hj, rfl, ha, hQ⟩ := hrel
          have ha' := Lib.hid ha
          have hQ' := Lib.hid hQ
          clear ha hQ
          by_cases hjk : j < k
          · have e4 : (j : Int) < (k : Int) := by omega
            have e5 : (j : Int) < (n : Int) := by omega
            obtain ⟨y, hy⟩ := hx'.out.get (show j < n by omega)
            have s1 : wr.cell? ⟨V.heap.size, 1, none⟩ = some (.int .i64 x.dv) := r1 wr (X10.go hQ'.out)
            have s2 : wr.cell? ⟨V.heap.size, 2, none⟩ = some (.int .i64 x.pl) := r2 wr (X10.go hQ'.out)
            have q1 : wr.cell? ⟨b1, o1 + j * 5 + 1, none⟩ = some (.int .i64 y.dv) := hx'.out.cellsE (EZ.out.go hQ'.out) hy rfl 1 (by decide)
            have q2 : wr.cell? ⟨b1, o1 + j * 5 + 2, none⟩ = some (.int .i64 y.pl) := hx'.out.cellsE (EZ.out.go hQ'.out) hy rfl 2 (by decide)
            have hy' := Lib.hid hy
            have hgq : b1 < wr.heap.size := by have := hb9.out; have := EZ.out.size; have := hQ'.out.size; omega
            clear hy
            rcases bools2 (y.dv == x.dv) (y.pl == x.pl) with d0 | ⟨d0, d1⟩ | ⟨d0, d1⟩
            · have hb' : Hid (((fun a b : Ef => a.dv == b.dv && a.pl == b.pl) y x) = false) := Lib.hid (by show (y.dv == x.dv && y.pl == x.pl) = false; rw [d0]; rfl)
              go_wp2_with fail
              go_quiet (fail)
              go_wp2_with fail
              go_roundw
              case rel => exact ⟨j + 1, by omega, by go_num, any_next ha'.out hy'.out hx2.out hb'.out, hQ'.out.goD _⟩
              case measure => simp [intOf]; omega
            · have hb' : Hid (((fun a b : Ef => a.dv == b.dv && a.pl == b.pl) y x) = false) := Lib.hid (by show (y.dv == x.dv && y.pl == x.pl) = false; rw [d0, d1]; rfl)
              go_wp2_with fail
              go_quiet (fail)
              go_wp2_with fail
              go_roundw
              case rel => exact ⟨j + 1, by omega, by go_num, any_next ha'.out hy'.out hx2.out hb'.out, hQ'.out.goD _⟩
              case measure => simp [intOf]; omega
            · have hb' : Hid (((fun a b : Ef => a.dv == b.dv && a.pl == b.pl) y x) = true) := Lib.hid (by show (y.dv == x.dv && y.pl == x.pl) = true; rw [d0, d1]; rfl)
              go_wp2_with fail
              go_quiet (fail)
              go_wp2_with fail
              go_ret
              exact ⟨by rw [hpb.out, twins_hit hjk hy'.out hx2.out hb'.out, Bool.not_true, Bool.and_false, Bool.false_and]; rfl, (EZ.out.go hQ'.out).goD _⟩
          · obtain rfl : j = k := by omega
            go_wp2_with fail
            go_roundw
            case rel => exact ⟨j + 1, by omega, by go_num, all_more hz'.out hx2.out hf.out, twins_next ht'.out ha'.out, EZ.out.go hQ'.out⟩
            case measure => simp [intOf]; omega
    · obtain rfl : k = n := by omega
      have hall : Hid (l.all (efB nd nc) = true) := Lib.hid (all_of hl'.out hz'.out)
      have htw : Hid (twinsB (fun a b : Ef => a.dv == b.dv && a.pl == b.pl) l = false) := Lib.hid (by unfold twinsB; rw [hl'.out]; exact ht'.out)
      have hf : Hid (effectsR nd nc l = decide ((k : Int) ≤ 8)) := Lib.hid (by
        rw [hpb.out, hall.out, htw.out, hl'.out, Bool.true_and, Bool.not_false, Bool.true_and]
        apply decide_eq_decide.2; omega)
      go_wp2_with fail
      go_ret
      exact ⟨by rw [hf.out]; rfl, hE'.out⟩
end Go.Proofs.YtgajbgdkgelkgaaGreat
