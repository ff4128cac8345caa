/- Layer 8, the walks: named. · Layer 14, the walks: New. -/
import Derived.Test.YtgajbgdkgelkgaaGreatMtxC
import Derived.Test.YtgajbgdkgelkgaaGreatLgE
import Derived.Test.YtgajbgdkgelkgaaGreatG01
namespace Go.Proofs.YtgajbgdkgelkgaaGreat
open Go.RowKit

/-- One more struct is appended to a row of the call's own. -/
theorem wpList_appS {P : Program} {ops : Array Oper} {rest : List Oper} {o : Oper} {a : Act} {w : World} {Q : Exit → Act → World → Prop} (hgd : o.guard = none) (s x : Operand) (t : TypeId)
    (ho : o.op = .call { callee := .builtin .append, args := #[s, x], argTypes := #[t, t] }) {e : TypeId} {sz by_ : Nat} {z : Value} (ht : P.underlying t = some (.slice e)) (hi : (P.info? e).map (fun i => (i.zero, i.size, i.bytes)) = some (some z, sz, by_)) (hzs : z.cells.size = sz) (hsz : 0 < sz)
    {base : Nat} {v : Value} {n : Nat} {xs : List Value} (hown : w.ownsRow base e sz v n xs) (hs : a.eval s = v) {g : Nat} {new : List Value} (hx : a.eval x = .slice (some ⟨g, 0, none⟩) 1 1) (hg : w.heap[g]? = some (.cells new.toArray e (0, 0)))
    (hl : new.length = sz) (hone : ∀ u ∈ new, u.oneCell' = true) (hn : (n + 1) * by_ ≤ 140737488355328) (hm : n + 1 ≤ maxLen) (hbase : base ≤ w.heap.size)
    (h : ∀ v' w', w'.ownsRow base e sz v' (n + 1) (xs ++ new) → w.grownBy w' v.ownBlock → (v'.ownBlock = v.ownBlock ∨ v'.ownBlock = some w.heap.size) → wpList P ops Q rest (a.put o.dst v') w') : wpList P ops Q (o :: rest) a w := by
  obtain ⟨i, h1, h2, h3, h4⟩ := info_parts hi
  refine wpList_append_own_at w hgd s x t ho base e i z sz by_ ht h1 h2 h3 h4 hzs hsz v n xs hs hown ⟨g, 0, none⟩ 1 1 new hx (by rw [hl, Nat.one_mul]) ?_ hone (by omega) hn hbase (fun v' w' a1 a2 _ a4 => h v' w' a1 a2 a4)
  intro j u hj
  have hadd : (⟨g, 0, none⟩ : Addr).add j = ⟨g, j, none⟩ := by unfold Addr.add; split <;> simp_all
  rw [hadd, cellsAt hg j, ← hj]
  simp
theorem info_str : (Tryz.prog.info? 9).map (fun i => (i.zero, i.size, i.bytes)) = some (some (.string ByteArray.empty), 1, 16) := by kernel_rfl
/- NAMED -/
theorem heap_new_at {w : World} {o : Obj} {g : Nat} (h : g = w.heap.size) : (w.alloc o).heap[g]? = some o := by subst h; exact heap_alloc_new w o
theorem strs_flat (l : List ByteArray) : l.map Value.string = l.flatMap strCells := by
  induction l with
  | nil => rfl
  | cons a l ih => rw [List.map_cons, List.flatMap_cons, ih]; rfl
theorem strs_more {α : Type} {N : List ByteArray} {xs : List α} (f : α → ByteArray) {k : Nat} {x : α} (hx : xs[k]? = some x) : (N ++ (xs.take k).map f).map Value.string ++ [.string (f x)] = (N ++ (xs.take (k + 1)).map f).map Value.string := by
  rw [List.take_add_one, hx]
  simp
theorem strs_end {α : Type} {N : List ByteArray} {xs : List α} (f : α → ByteArray) {k : Nat} (h : xs.length = k) : (N ++ (xs.take k).map f).map Value.string = (N ++ xs.map f ++ ([] : List α).map f).map Value.string := by
  rw [List.take_of_length_le (by omega)]
  simp
set_option maxRecDepth 100000 in
set_option maxHeartbeats 6400000 in
theorem named_any (m : Mx) (w : World) (h : OkMx w w.heap.size m) (hs : sizesB m = true) : Calls Tryz.prog 52 #[m.val] w fun e w' => e = .returned (.bool (namedB m)) ∧ Ext w w' := by
  obtain ⟨rt, wt, bk, cy, key, Ad, nd, cd, dvs, Ap, np, cp, pts, Ac, nc, cc, cas, Ae, ne, ce, efs⟩ := m
  have hld := h.dv.len
  have hlp := h.pt.len
  have hlc := h.ca.len
  have hle := h.ef.len
  unfold sizesB at hs
  simp only [Bool.and_eq_true, decide_eq_true_eq] at hs
  dsimp only at hs hld hlp hlc hle
  have hnd : nd ≤ 4 := by omega
  have hnp : np ≤ 16 := by omega
  have hnc : nc ≤ 8 := by omega
  have hne : ne ≤ 8 := by omega
  have hld := Lib.hid hld
  have hlp := Lib.hid hlp
  have hlc := Lib.hid hlc
  have hle := Lib.hid hle
  have h' := Lib.hid h
  clear h hs
  unfold Mx.val namedB
  generalize hL : namesOf ⟨rt, wt, bk, cy, key, Ad, nd, cd, dvs, Ap, np, cp, pts, Ac, nc, cc, cas, Ae, ne, ce, efs⟩ = L
  have hL' := Lib.hid hL
  clear hL
  dsimp only
  go_enter Tryz.func52, Tryz.ntmps52
  go_wp2_with fail
  have E9 : Hid (Ext (w.alloc (.cells #[.int .i64 rt, .int .i64 wt, .int .i64 bk, .int .i64 cy, .string key, .slice Ad nd cd, .slice Ap np cp, .slice Ac nc cc, .slice Ae ne ce] 27)) (w.alloc (.cells #[.int .i64 rt, .int .i64 wt, .int .i64 bk, .int .i64 cy, .string key, .slice Ad nd cd, .slice Ap np cp, .slice Ac nc cc, .slice Ae ne ce] 27))) := Lib.hid (Ext.refl _)
  go_loopw [3, 17] (fun u i wr => ∃ k : Nat, k ≤ nd ∧ i = .int .i64 k ∧ Ext (w.alloc (.cells #[.int .i64 rt, .int .i64 wt, .int .i64 bk, .int .i64 cy, .string key, .slice Ad nd cd, .slice Ap np cp, .slice Ac nc cc, .slice Ae ne ce] 27)) wr ∧ wr.ownsRow (w.heap.size + 1) 9 1 u (0 + k) ((([] : List ByteArray) ++ (dvs.take k).map Dv.nm).map Value.string)) (fun _ i _ => nd - (intOf i).toNat)
  case atStart => exact ⟨0, by omega, rfl, Ext.refl _, by simpa using World.ownsRow_nil _ _ _ _⟩
  case round =>
    obtain ⟨k, hk, rfl, E, own⟩ := hrel
    have E0 := Lib.hid E
    have own0 := Lib.hid own
    have F0 : Hid (Ext w wr) := Lib.hid (((Ext.refl w).goA _).go E)
    have S0 : Hid (w.heap.size + 1 ≤ wr.heap.size) := Lib.hid (by have := E.size; simp at this; omega)
    have m6 : wr.cell? ⟨w.heap.size, 6, none⟩ = some (.slice Ap np cp) := mxCell (m := ⟨rt, wt, bk, cy, key, Ad, nd, cd, dvs, Ap, np, cp, pts, Ac, nc, cc, cas, Ae, ne, ce, efs⟩) E 6
    have m7 : wr.cell? ⟨w.heap.size, 7, none⟩ = some (.slice Ac nc cc) := mxCell (m := ⟨rt, wt, bk, cy, key, Ad, nd, cd, dvs, Ap, np, cp, pts, Ac, nc, cc, cas, Ae, ne, ce, efs⟩) E 7
    have m8 : wr.cell? ⟨w.heap.size, 8, none⟩ = some (.slice Ae ne ce) := mxCell (m := ⟨rt, wt, bk, cy, key, Ad, nd, cd, dvs, Ap, np, cp, pts, Ac, nc, cc, cas, Ae, ne, ce, efs⟩) E 8
    clear E own
    by_cases hlt : k < nd
    · have e3 : (k : Int) < (nd : Int) := by omega
      obtain ⟨x, hx⟩ := h'.out.dv.get hlt
      obtain ⟨b, o, rfl, hb, hc⟩ := h'.out.dv.at_ hx
      have hx' := Lib.hid hx
      have hbs : b < w.heap.size := hb
      obtain ⟨x0, x1, x2⟩ := x
      have cx0 : wr.cell? ⟨b, o + k * 3, none⟩ = some (.string x0) := (F0.out.cell _ hbs).trans (hc 0 (by decide))
      have cx1 : wr.cell? ⟨b, o + k * 3 + 1, none⟩ = some (.int .i64 x1) := (F0.out.cell _ hbs).trans (hc 1 (by decide))
      have cx2 : wr.cell? ⟨b, o + k * 3 + 2, none⟩ = some (.int .i64 x2) := (F0.out.cell _ hbs).trans (hc 2 (by decide))
      clear hx hc hb
      go_wp2_with (at_builtin; refine wpList_appS rfl (.tmp 21) (.tmp 24) _ rfl Tryz.underlying154 info_str rfl (by decide) ((own0.out.alloc _).alloc _) rfl (new := [.string x0]) rfl (heap_new_at (by simp)) rfl (by intro u hu; simp at hu; subst hu; rfl) (by omega) (by unfold maxLen; omega) (by have := S0.out; simp; omega) ?_; intro vz wz ownz hgz _)
      go_roundw
      case rel => exact ⟨k + 1, by omega, by go_num, ((E0.out.goA _).goA _).goG hgz (fun i hi => by have := (own0.out.lt i hi).1; simp; omega), by rw [← Nat.add_assoc, ← strs_more (x := ⟨x0, x1, x2⟩) Dv.nm hx'.out]; exact ownz⟩
      case measure => simp [intOf]; omega
    obtain rfl : nd = k := by omega
    go_wp2_with fail
    go_loopw [3, 30] (fun u i wr => ∃ k : Nat, k ≤ np ∧ i = .int .i64 k ∧ Ext (w.alloc (.cells #[.int .i64 rt, .int .i64 wt, .int .i64 bk, .int .i64 cy, .string key, .slice Ad nd cd, .slice Ap np cp, .slice Ac nc cc, .slice Ae ne ce] 27)) wr ∧ wr.ownsRow (w.heap.size + 1) 9 1 u (nd + k) (((([] : List ByteArray) ++ dvs.map Dv.nm) ++ (pts.take k).map Pt.nm).map Value.string)) (fun _ i _ => np - (intOf i).toNat)
    case atStart => exact ⟨0, by omega, rfl, E0.out, by have := own0.out; rw [strs_end Dv.nm hld.out] at this; simpa using this⟩
    case round =>
      obtain ⟨k, hk, rfl, E, own⟩ := hrel
      have E1 := Lib.hid E
      have own1 := Lib.hid own
      have F1 : Hid (Ext w wr) := Lib.hid (((Ext.refl w).goA _).go E)
      have S1 : Hid (w.heap.size + 1 ≤ wr.heap.size) := Lib.hid (by have := E.size; simp at this; omega)
      have m6 : wr.cell? ⟨w.heap.size, 6, none⟩ = some (.slice Ap np cp) := mxCell (m := ⟨rt, wt, bk, cy, key, Ad, nd, cd, dvs, Ap, np, cp, pts, Ac, nc, cc, cas, Ae, ne, ce, efs⟩) E 6
      have m7 : wr.cell? ⟨w.heap.size, 7, none⟩ = some (.slice Ac nc cc) := mxCell (m := ⟨rt, wt, bk, cy, key, Ad, nd, cd, dvs, Ap, np, cp, pts, Ac, nc, cc, cas, Ae, ne, ce, efs⟩) E 7
      have m8 : wr.cell? ⟨w.heap.size, 8, none⟩ = some (.slice Ae ne ce) := mxCell (m := ⟨rt, wt, bk, cy, key, Ad, nd, cd, dvs, Ap, np, cp, pts, Ac, nc, cc, cas, Ae, ne, ce, efs⟩) E 8
      clear E own
      by_cases hlt : k < np
      · have e3 : (k : Int) < (np : Int) := by omega
        obtain ⟨x, hx⟩ := h'.out.pt.get hlt
        obtain ⟨b, o, rfl, hb, hc⟩ := h'.out.pt.at_ hx
        have hx' := Lib.hid hx
        have hbs : b < w.heap.size := hb
        obtain ⟨x0, x1, x2, x3, x4, x5⟩ := x
        have cx0 : wr.cell? ⟨b, o + k * 6, none⟩ = some (.string x0) := (F1.out.cell _ hbs).trans (hc 0 (by decide))
        have cx1 : wr.cell? ⟨b, o + k * 6 + 1, none⟩ = some (.int .i64 x1) := (F1.out.cell _ hbs).trans (hc 1 (by decide))
        have cx2 : wr.cell? ⟨b, o + k * 6 + 2, none⟩ = some (.int .i64 x2) := (F1.out.cell _ hbs).trans (hc 2 (by decide))
        have cx3 : wr.cell? ⟨b, o + k * 6 + 3, none⟩ = some (.int .i64 x3) := (F1.out.cell _ hbs).trans (hc 3 (by decide))
        have cx4 : wr.cell? ⟨b, o + k * 6 + 4, none⟩ = some (.int .i64 x4) := (F1.out.cell _ hbs).trans (hc 4 (by decide))
        have cx5 : wr.cell? ⟨b, o + k * 6 + 5, none⟩ = some (.int .i64 x5) := (F1.out.cell _ hbs).trans (hc 5 (by decide))
        clear hx hc hb
        go_wp2_with (at_builtin; refine wpList_appS rfl (.tmp 34) (.tmp 37) _ rfl Tryz.underlying154 info_str rfl (by decide) ((own1.out.alloc _).alloc _) rfl (new := [.string x0]) rfl (heap_new_at (by simp)) rfl (by intro u hu; simp at hu; subst hu; rfl) (by omega) (by unfold maxLen; omega) (by have := S1.out; simp; omega) ?_; intro vz wz ownz hgz _)
        go_roundw
        case rel => exact ⟨k + 1, by omega, by go_num, ((E1.out.goA _).goA _).goG hgz (fun i hi => by have := (own1.out.lt i hi).1; simp; omega), by rw [← Nat.add_assoc, ← strs_more (x := ⟨x0, x1, x2, x3, x4, x5⟩) Pt.nm hx'.out]; exact ownz⟩
        case measure => simp [intOf]; omega
      obtain rfl : np = k := by omega
      go_wp2_with fail
      go_loopw [3, 43] (fun u i wr => ∃ k : Nat, k ≤ nc ∧ i = .int .i64 k ∧ Ext (w.alloc (.cells #[.int .i64 rt, .int .i64 wt, .int .i64 bk, .int .i64 cy, .string key, .slice Ad nd cd, .slice Ap np cp, .slice Ac nc cc, .slice Ae ne ce] 27)) wr ∧ wr.ownsRow (w.heap.size + 1) 9 1 u ((nd + np) + k) (((([] : List ByteArray) ++ dvs.map Dv.nm ++ pts.map Pt.nm) ++ (cas.take k).map Ca.nm).map Value.string)) (fun _ i _ => nc - (intOf i).toNat)
      case atStart => exact ⟨0, by omega, rfl, E1.out, by have := own1.out; rw [strs_end Pt.nm hlp.out] at this; simpa using this⟩
      case round =>
        obtain ⟨k, hk, rfl, E, own⟩ := hrel
        have E2 := Lib.hid E
        have own2 := Lib.hid own
        have F2 : Hid (Ext w wr) := Lib.hid (((Ext.refl w).goA _).go E)
        have S2 : Hid (w.heap.size + 1 ≤ wr.heap.size) := Lib.hid (by have := E.size; simp at this; omega)
        have m6 : wr.cell? ⟨w.heap.size, 6, none⟩ = some (.slice Ap np cp) := mxCell (m := ⟨rt, wt, bk, cy, key, Ad, nd, cd, dvs, Ap, np, cp, pts, Ac, nc, cc, cas, Ae, ne, ce, efs⟩) E 6
        have m7 : wr.cell? ⟨w.heap.size, 7, none⟩ = some (.slice Ac nc cc) := mxCell (m := ⟨rt, wt, bk, cy, key, Ad, nd, cd, dvs, Ap, np, cp, pts, Ac, nc, cc, cas, Ae, ne, ce, efs⟩) E 7
        have m8 : wr.cell? ⟨w.heap.size, 8, none⟩ = some (.slice Ae ne ce) := mxCell (m := ⟨rt, wt, bk, cy, key, Ad, nd, cd, dvs, Ap, np, cp, pts, Ac, nc, cc, cas, Ae, ne, ce, efs⟩) E 8
        clear E own
        by_cases hlt : k < nc
        · have e3 : (k : Int) < (nc : Int) := by omega
          obtain ⟨x, hx⟩ := h'.out.ca.get hlt
          obtain ⟨b, o, rfl, hb, hc⟩ := h'.out.ca.at_ hx
          have hx' := Lib.hid hx
          have hbs : b < w.heap.size := hb
          obtain ⟨x0, x1, x2, x3, x4, x5, x6, x7⟩ := x
          have cx0 : wr.cell? ⟨b, o + k * 5, none⟩ = some (.string x0) := (F2.out.cell _ hbs).trans (hc 0 (by decide))
          have cx1 : wr.cell? ⟨b, o + k * 5 + 1, none⟩ = some (.int .i64 x1) := (F2.out.cell _ hbs).trans (hc 1 (by decide))
          have cx2 : wr.cell? ⟨b, o + k * 5 + 2, none⟩ = some (.int .i64 x2) := (F2.out.cell _ hbs).trans (hc 2 (by decide))
          have cx3 : wr.cell? ⟨b, o + k * 5 + 3, none⟩ = some (.int .i64 x3) := (F2.out.cell _ hbs).trans (hc 3 (by decide))
          have cx4 : wr.cell? ⟨b, o + k * 5 + 4, none⟩ = some (.slice x4 x5 x6) := (F2.out.cell _ hbs).trans (hc 4 (by decide))
          clear hx hc hb
          go_wp2_with (at_builtin; refine wpList_appS rfl (.tmp 47) (.tmp 50) _ rfl Tryz.underlying154 info_str rfl (by decide) ((own2.out.alloc _).alloc _) rfl (new := [.string x0]) rfl (heap_new_at (by simp)) rfl (by intro u hu; simp at hu; subst hu; rfl) (by omega) (by unfold maxLen; omega) (by have := S2.out; simp; omega) ?_; intro vz wz ownz hgz _)
          go_roundw
          case rel => exact ⟨k + 1, by omega, by go_num, ((E2.out.goA _).goA _).goG hgz (fun i hi => by have := (own2.out.lt i hi).1; simp; omega), by rw [← Nat.add_assoc, ← strs_more (x := ⟨x0, x1, x2, x3, x4, x5, x6, x7⟩) Ca.nm hx'.out]; exact ownz⟩
          case measure => simp [intOf]; omega
        obtain rfl : nc = k := by omega
        go_wp2_with fail
        go_loopw [3, 56] (fun u i wr => ∃ k : Nat, k ≤ ne ∧ i = .int .i64 k ∧ Ext (w.alloc (.cells #[.int .i64 rt, .int .i64 wt, .int .i64 bk, .int .i64 cy, .string key, .slice Ad nd cd, .slice Ap np cp, .slice Ac nc cc, .slice Ae ne ce] 27)) wr ∧ wr.ownsRow (w.heap.size + 1) 9 1 u ((nd + np + nc) + k) (((([] : List ByteArray) ++ dvs.map Dv.nm ++ pts.map Pt.nm ++ cas.map Ca.nm) ++ (efs.take k).map Ef.nm).map Value.string)) (fun _ i _ => ne - (intOf i).toNat)
        case atStart => exact ⟨0, by omega, rfl, E2.out, by have := own2.out; rw [strs_end Ca.nm hlc.out] at this; simpa using this⟩
        case round =>
          obtain ⟨k, hk, rfl, E, own⟩ := hrel
          have E3 := Lib.hid E
          have own3 := Lib.hid own
          have F3 : Hid (Ext w wr) := Lib.hid (((Ext.refl w).goA _).go E)
          have S3 : Hid (w.heap.size + 1 ≤ wr.heap.size) := Lib.hid (by have := E.size; simp at this; omega)
          have m6 : wr.cell? ⟨w.heap.size, 6, none⟩ = some (.slice Ap np cp) := mxCell (m := ⟨rt, wt, bk, cy, key, Ad, nd, cd, dvs, Ap, np, cp, pts, Ac, nc, cc, cas, Ae, ne, ce, efs⟩) E 6
          have m7 : wr.cell? ⟨w.heap.size, 7, none⟩ = some (.slice Ac nc cc) := mxCell (m := ⟨rt, wt, bk, cy, key, Ad, nd, cd, dvs, Ap, np, cp, pts, Ac, nc, cc, cas, Ae, ne, ce, efs⟩) E 7
          have m8 : wr.cell? ⟨w.heap.size, 8, none⟩ = some (.slice Ae ne ce) := mxCell (m := ⟨rt, wt, bk, cy, key, Ad, nd, cd, dvs, Ap, np, cp, pts, Ac, nc, cc, cas, Ae, ne, ce, efs⟩) E 8
          clear E own
          by_cases hlt : k < ne
          · have e3 : (k : Int) < (ne : Int) := by omega
            obtain ⟨x, hx⟩ := h'.out.ef.get hlt
            obtain ⟨b, o, rfl, hb, hc⟩ := h'.out.ef.at_ hx
            have hx' := Lib.hid hx
            have hbs : b < w.heap.size := hb
            obtain ⟨x0, x1, x2, x3, x4, x5, x6, x7⟩ := x
            have cx0 : wr.cell? ⟨b, o + k * 5, none⟩ = some (.string x0) := (F3.out.cell _ hbs).trans (hc 0 (by decide))
            have cx1 : wr.cell? ⟨b, o + k * 5 + 1, none⟩ = some (.int .i64 x1) := (F3.out.cell _ hbs).trans (hc 1 (by decide))
            have cx2 : wr.cell? ⟨b, o + k * 5 + 2, none⟩ = some (.int .i64 x2) := (F3.out.cell _ hbs).trans (hc 2 (by decide))
            have cx3 : wr.cell? ⟨b, o + k * 5 + 3, none⟩ = some (.int .i64 x3) := (F3.out.cell _ hbs).trans (hc 3 (by decide))
            have cx4 : wr.cell? ⟨b, o + k * 5 + 4, none⟩ = some (.slice x4 x5 x6) := (F3.out.cell _ hbs).trans (hc 4 (by decide))
            clear hx hc hb
            go_wp2_with (at_builtin; refine wpList_appS rfl (.tmp 60) (.tmp 63) _ rfl Tryz.underlying154 info_str rfl (by decide) ((own3.out.alloc _).alloc _) rfl (new := [.string x0]) rfl (heap_new_at (by simp)) rfl (by intro u hu; simp at hu; subst hu; rfl) (by omega) (by unfold maxLen; omega) (by have := S3.out; simp; omega) ?_; intro vz wz ownz hgz _)
            go_roundw
            case rel => exact ⟨k + 1, by omega, by go_num, ((E3.out.goA _).goA _).goG hgz (fun i hi => by have := (own3.out.lt i hi).1; simp; omega), by rw [← Nat.add_assoc, ← strs_more (x := ⟨x0, x1, x2, x3, x4, x5, x6, x7⟩) Ef.nm hx'.out]; exact ownz⟩
            case measure => simp [intOf]; omega
          obtain rfl : ne = k := by omega
          have oend := own3.out
          rw [strs_end Ef.nm hle.out] at oend
          have hA : (([] : List ByteArray) ++ dvs.map Dv.nm ++ pts.map Pt.nm ++ cas.map Ca.nm ++ efs.map Ef.nm) ++ ([] : List Ef).map Ef.nm = L := by rw [← hL'.out]; unfold namesOf; simp
          rw [hA] at oend
          have hLn : L.length = nd + np + nc + ne := by have := oend.1; simpa using this
          obtain ⟨A, c, rfl, ⟨hc1, hc2⟩, hrd, -⟩ := own_rdC (cells := strCells) oend hLn (strs_flat L) (fun _ => rfl)
          have hn60 : nd + np + nc + ne ≤ 60 := by omega
          clear hlt
          generalize hnn : nd + np + nc + ne = n at *
          clear hnn
          have hrd' := Lib.hid hrd
          have hcm := Lib.hid (show n ≤ c ∧ c ≤ maxLen from ⟨hc1, hc2⟩)
          have hLn' := Lib.hid hLn
          have G0 := F3
          clear hrd oend hA hL' own3 h' hle hlc hlp hld m6 m7 m8 E3 hLn F3 S3
          go_wp2_with fail
          go_loopw [13, 68] (fun _ i wq => ∃ k : Nat, k ≤ n ∧ i = .int .i64 k ∧ (∀ (j : Nat) (x : ByteArray), L[j]? = some x → j < k → wordB x = true) ∧ wr = wq) (fun _ i _ => n - (intOf i).toNat)
          case atStart => exact ⟨0, by omega, rfl, fun j _ _ hj => absurd hj (by omega), rfl⟩
          case round =>
            obtain ⟨k, hk, rfl, hz, rfl⟩ := hrel
            have hz' := Lib.hid hz
            clear hz
            by_cases hlt : k < n
            · have e3 : (k : Int) < (n : Int) := by omega
              obtain ⟨x, hx⟩ := hrd'.out.get hlt
              obtain ⟨b, o, rfl, hb, hc⟩ := hrd'.out.at_ hx
              have cx : wr.cell? ⟨b, o + k, none⟩ = some (.string x) := by have := hc 0 (by decide); simpa [strCells] using this
              have hx' := Lib.hid hx
              clear hx hc hb
              cases t1 : wordB x
              · have hr := Lib.hid (all_not (p := wordB) hx'.out t1)
                go_wp2_with (go_at_call 83; refine (word_any _ _).mono ?_; rintro e w' ⟨rfl, rfl⟩)
                go_ret
                exact ⟨by rw [hr.out]; rfl, G0.out⟩
              · have hr := Lib.hid (all_more (p := wordB) hz'.out hx'.out t1)
                go_wp2_with (go_at_call 83; refine (word_any _ _).mono ?_; rintro e w' ⟨rfl, rfl⟩)
                go_roundw
                case rel => exact ⟨k + 1, by omega, by go_num, hr.out, trivial⟩
                case measure => simp [intOf]; omega
            · obtain rfl : k = n := by omega
              have hr := Lib.hid (all_of (p := wordB) hLn'.out hz'.out)
              go_wp2_with (go_at_call 84; refine (twinsStr_any _ _ _ _ _ hrd'.out hcm.out).mono ?_; rintro e w' ⟨rfl, E1⟩)
              go_ret
              exact ⟨by rw [hr.out]; rfl, G0.out.go E1⟩
end Go.Proofs.YtgajbgdkgelkgaaGreat
namespace Go.Proofs.YtgajbgdkgelkgaaGreat
open Go.RowKit

theorem info_one : (Tryz.prog.info? 141).map (fun i => (i.zero, i.size, i.bytes)) = some (some (.agg #[.bool false, .int .i64 0, .bool false, .int .i64 0]), 4, 32) := by kernel_rfl
theorem made4 (a b c d : Value) (n j : Nat) (hj : j < n) : (madeCells #[a, b, c, d] (n * 4))[j * 4]? = some a ∧ (madeCells #[a, b, c, d] (n * 4))[j * 4 + 1]? = some b ∧ (madeCells #[a, b, c, d] (n * 4))[j * 4 + 2]? = some c ∧ (madeCells #[a, b, c, d] (n * 4))[j * 4 + 3]? = some d := by
  have h0 : j * 4 < n * 4 := by omega
  have h1 : j * 4 + 1 < n * 4 := by omega
  have h2 : j * 4 + 2 < n * 4 := by omega
  have h3 : j * 4 + 3 < n * 4 := by omega
  have e0 : j * 4 % 4 = 0 := by omega
  have e1 : (j * 4 + 1) % 4 = 1 := by omega
  have e2 : (j * 4 + 2) % 4 = 2 := by omega
  have e3 : (j * 4 + 3) % 4 = 3 := by omega
  unfold madeCells
  simp only [Array.getElem?_map, Array.getElem?_range, h0, h1, h2, h3, if_true, Option.map_some, List.size_toArray, List.length_cons, List.length_nil, Nat.zero_add, Nat.reduceAdd, e0, e1, e2, e3]
  exact ⟨rfl, rfl, rfl, rfl⟩
theorem made4_size (a b c d : Value) (n : Nat) : (madeCells #[a, b, c, d] (n * 4)).size = n * 4 := by simp [madeCells]
/-- A slice of n structs of four cells, made. -/
theorem run_mk4 {P : Program} {t e : TypeId} {a b c d : Value} {by_ : Nat} (ht : P.underlying t = some (.slice e)) (hi : (P.info? e).map (fun i => (i.zero, i.size, i.bytes)) = some (some (.agg #[a, b, c, d]), 4, by_)) (n : Nat) (hb : n * by_ ≤ 281474976710656) (hn : n ≤ 9223372036854775807) (w : World) :
    (Instr.makeSlice t (.int .i64 n) (.int .i64 n)).run P w = .ok (.slice (some ⟨w.heap.size, 0, none⟩) n n) (w.alloc (.cells (madeCells #[a, b, c, d] (n * 4)) e)) := by
  obtain ⟨i, h1, h2, h3, h4⟩ := info_parts hi
  have hh : (i.bytes : Int) * (n : Int) ≤ 281474976710656 := by
    rw [h4]
    have : ((n * by_ : Nat) : Int) ≤ 281474976710656 := by omega
    rwa [Int.natCast_mul, Int.mul_comm] at this
  have := run_make (P := P) w t e i _ ht h1 h2 .i64 .i64 (n : Int) (n : Int) (by omega) (Int.le_refl _) hh (by omega)
  rw [h3] at this
  simpa only [Int.toNat_natCast, Value.cells] using this
theorem RowL.group {w : World} {gl : Nat} {r : Lw} (h : RowL w gl r) {i : Nat} (hi : i < r.g.length) (v : Int) :
    RowL (w.setCell ⟨gl, i * 4 + 3, none⟩ (.int .i64 v)) gl { r with g := r.g.set i v } := by
  obtain ⟨cs, h, hs, k⟩ := h
  refine ⟨_, sets_block h (i * 4 + 3) (.int .i64 v), by simpa using hs, fun j hj => ?_⟩
  rw [List.length_set] at hj
  obtain ⟨k0, k1, k2, k3⟩ := k j hj
  simp only [Array.getElem?_setIfInBounds]
  refine ⟨?_, ?_, ?_, ?_⟩
  · rw [if_neg (by omega)]; exact k0
  · rw [if_neg (by omega)]; exact k1
  · rw [if_neg (by omega)]; exact k2
  · have hgo : gOf { r with g := r.g.set i v } j = if i = j then v else gOf r j := by
      unfold gOf
      dsimp only
      rw [List.getD_eq_getElem?_getD, List.getElem?_set]
      by_cases e : i = j
      · subst e; rw [if_pos rfl, if_pos hi, if_pos rfl]; rfl
      · rw [if_neg e, if_neg e, List.getD_eq_getElem?_getD]
    rw [hgo]
    by_cases e : i = j
    · subst e; rw [if_pos rfl, if_pos (by omega), if_pos rfl]
    · rw [if_neg (by omega), if_neg e]; exact k3
theorem take_zeros_set {gs : List Int} {n k : Nat} (hl : gs.length = n) (hk : k < n) : (gs.take k ++ List.replicate (n - k) 0).set k (gs[k]?.getD 0) = gs.take (k + 1) ++ List.replicate (n - (k + 1)) 0 := by
  rw [List.set_append, if_neg (by simp; omega), List.take_add_one, List.append_assoc]
  congr 1
  rw [List.length_take, show k - min k gs.length = 0 by omega, show n - k = (n - (k + 1)) + 1 by omega, List.replicate_succ, List.set_cons_zero, List.getElem?_eq_getElem (by omega)]
  rfl
theorem makeO (w : World) : (Instr.makeMap 135 none).run Tryz.prog w = .ok (.map (some w.heap.size)) (w.alloc (.map #[] 0)) := rfl
def NewPost (gs : List Int) (w : World) (e : Ending) (w' : World) : Prop :=
  ∃ g gl gf gs', e = .returned (.pointer (some ⟨g, 0, none⟩)) ∧ Rw w' g gl gf gs' 0 (newL gs) ∧ Ext w w' ∧ w.heap.size ≤ g ∧ w.heap.size ≤ gl ∧ w.heap.size ≤ gf ∧ w.heap.size ≤ gs'
set_option maxRecDepth 100000 in
set_option maxHeartbeats 3200000 in
theorem latchNew_any (A : Option Addr) (n c : Nat) (gs : List Int) (w : World) (hx : RdI w w.heap.size .i64 A n gs) (hn : n ≤ 1000) (hr : ∀ i : Nat, 0 ≤ gs.getD i 0 ∧ gs.getD i 0 ≤ 1000) :
    Calls Tryz.prog 63 #[.slice A n c] w (NewPost gs w) := by
  have hl := Lib.hid hx.len
  have hmk := run_mk4 Tryz.underlying134 info_one n (by omega) (by omega) w
  have hmm := makeO
  have hx' := Lib.hid hx
  have hr' := Lib.hid hr
  clear hx hr
  go_enter Tryz.func63, Tryz.ntmps63
  go_upto_region 2 with fail
  have M1 := MapO.made (w.alloc (.cells (madeCells #[.bool false, .int .i64 0, .bool false, .int .i64 0] (n * 4)) 141))
  have M2 := MapO.made ((w.alloc (.cells (madeCells #[.bool false, .int .i64 0, .bool false, .int .i64 0] (n * 4)) 141)).alloc (.map #[] 0))
  obtain ⟨U, hU⟩ : ∃ U, U = (((w.alloc (.cells (madeCells #[.bool false, .int .i64 0, .bool false, .int .i64 0] (n * 4)) 141)).alloc (.map #[] 0)).alloc (.map #[] 0)).alloc (.cells #[.slice (some ⟨w.heap.size, 0, none⟩) n n, .map (some (w.heap.size + 1)), .map (some (w.heap.size + 1 + 1))] 137) := ⟨_, rfl⟩
  rw [← hU]
  have EU : Ext w U := by rw [hU]; exact ((((Ext.refl w).goA _).goA _).goA _).goA _
  have U0 : U.heap[w.heap.size]? = some (.cells (madeCells #[.bool false, .int .i64 0, .bool false, .int .i64 0] (n * 4)) 141 (0, 0)) := by rw [hU]; exact ((((Ext.refl (w.alloc (.cells (madeCells #[.bool false, .int .i64 0, .bool false, .int .i64 0] (n * 4)) 141))).goA _).goA _).goA _).block _ (by simp) |>.trans (heap_alloc_new w _)
  have U3 : U.heap[w.heap.size + 1 + 1 + 1]? = some (.cells #[.slice (some ⟨w.heap.size, 0, none⟩) n n, .map (some (w.heap.size + 1)), .map (some (w.heap.size + 1 + 1))] 137 (0, 0)) := by rw [hU]; exact heap_new_at (by simp)
  have U1 : MapO U (w.heap.size + 1) 0 (fun _ => none) := by
    rw [show (w.alloc (.cells (madeCells #[.bool false, .int .i64 0, .bool false, .int .i64 0] (n * 4)) 141)).heap.size = w.heap.size + 1 by simp] at M1
    rw [hU]; exact (M1.ext (((Ext.refl _).goA _).goA _))
  have U2 : MapO U (w.heap.size + 1 + 1) 0 (fun _ => none) := by
    rw [show ((w.alloc (.cells (madeCells #[.bool false, .int .i64 0, .bool false, .int .i64 0] (n * 4)) 141)).alloc (.map #[] 0)).heap.size = w.heap.size + 1 + 1 by simp] at M2
    rw [hU]; exact (M2.ext ((Ext.refl _).goA _))
  have gU := lt_of_block U3
  have EU' := Lib.hid EU
  have U0' := Lib.hid U0
  have U1' := Lib.hid U1
  have U2' := Lib.hid U2
  have U3' := Lib.hid U3
  clear hU M1 M2 hmk hmm EU U0 U1 U2 U3
  go_upto_region 3 with fail
  go_loopw [4, 5, 15] (fun _ _ i wr => ∃ k : Nat, k ≤ n ∧ i = .int .i64 k ∧ Mod (fun b => b = w.heap.size) U wr ∧ RowL wr w.heap.size ⟨gs.take k ++ List.replicate (n - k) 0, List.replicate n (false, 0), fun _ => none⟩) (fun _ _ i _ => n - (intOf i).toNat)
  case atStart =>
    refine ⟨0, by omega, rfl, Mod.refl _ _, _, U0'.out, by simp [made4_size], fun j hj => ?_⟩
    have hj : j < n := by simpa using hj
    obtain ⟨k0, k1, k2, k3⟩ := made4 (.bool false) (.int .i64 0) (.bool false) (.int .i64 0) n j hj
    rw [k0, k1, k2, k3]
    simp [setOf, atOf, gOf, hj]
  case round =>
    obtain ⟨k, hk, rfl, hM, hR⟩ := hrel
    have hM' := Lib.hid hM
    have hR' := Lib.hid hR
    have H3 := (hM.block (w.heap.size + 1 + 1 + 1) gU (by omega)).trans U3'.out
    have c0 : wr.cell? ⟨w.heap.size + 1 + 1 + 1, 0, none⟩ = some (.slice (some ⟨w.heap.size, 0, none⟩) n n) := cellsAt H3 0
    have g3 := lt_of_block H3
    have hlR := hR.lt
    by_cases hlt : k < n
    · have e3 : (k : Int) < (n : Int) := by omega
      obtain ⟨b, o, rfl, hb, hc⟩ := hx'.out.at_ hlt
      have cx : wr.cell? ⟨b, o + k, none⟩ = some (.int .i64 (gs.getD k 0)) := ((hM.cell (o + k) (by have := EU'.out.size; omega) (by omega)).trans (EU'.out.cell _ hb)).trans hc
      have hzl : (gs.take k ++ List.replicate (n - k) 0).length = n := by have := hl.out; simp; omega
      have z3 := hR.frozen (k * 4 + 3)
      have y3 := (hR.cells (i := k) (by simp; have := hl.out; omega)).2.2.2
      clear hM hR hb hc H3
      go_wp2_with fail
      go_roundw
      case rel =>
        have := hR'.out.group (i := k) (by simp; have := hl.out; omega) (gs[k]?.getD 0)
        dsimp only at this
        rw [take_zeros_set hl.out hlt] at this
        exact ⟨k + 1, by omega, by go_num, hM'.out.setCell (p := ⟨w.heap.size, k * 4 + 3, none⟩) (.inl rfl) _, this⟩
      case measure => simp [intOf]; omega
    · obtain rfl : k = n := by omega
      go_wp2_with fail
      go_ret
      have hR := hR'.out
      rw [Nat.sub_self, List.replicate_zero, List.append_nil, List.take_of_length_le (by rw [hl.out]; exact Nat.le_refl _)] at hR
      have hln := hl.out
      have hnl : newL gs = ⟨gs, List.replicate k (false, 0), fun _ => none⟩ := by unfold newL; rw [hln]
      have hcz : ∀ (g : List Int) (m : Nat) (x : Int), cntG g (List.replicate m (false, 0)) x = 0 := fun g m x => by
        unfold cntG
        rw [List.countP_eq_zero]
        rintro ⟨a, b⟩ hab
        have := (List.of_mem_zip hab).2
        rw [List.eq_of_mem_replicate this]
        simp
      refine ⟨w.heap.size + 1 + 1 + 1, w.heap.size, w.heap.size + 1, w.heap.size + 1 + 1, rfl, ⟨?_, ?_, ?_, ?_, LwOk.new gs, ?_, ?_, ?_⟩, EU'.out.goM hM'.out (fun i hi => by omega), ?_, ?_, ?_, ?_⟩
      · rw [show (newL gs).g.length = k from hln]; exact H3
      · rw [hnl]; exact hR
      · exact (U1'.out.keep (hM'.out.block _ U1'.out.lt (by omega))).congr fun x => rfl
      · exact (U2'.out.keep (hM'.out.block _ U2'.out.lt (by omega))).congr fun x => by unfold cntO; rw [hnl, hcz, if_pos (.inr rfl)]
      · exact fun i => hr'.out i
      · omega
      · rw [show (newL gs).g.length = k from hln]; exact hn
      all_goals omega
end Go.Proofs.YtgajbgdkgelkgaaGreat
