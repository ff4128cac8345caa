
/- Layer 6: the law BankSwaps, walked. (Printed by wip/gen/bankswaps.py.) -/
import Derived.Test.YtgeahfkhfpdlhaaBankAll
namespace Go.Proofs.Ytgeahfkhfpdlhaa
open Go.RowKit

set_option maxRecDepth 100000 in
set_option maxHeartbeats 3200000 in
theorem bankSwaps_off (A A2 : Option Addr) (n1 c1 n2 c2 : Nat) (f q t : Nat) (w : World) (h : n2 = 0 ∨ 121 < n2 ∨ q = 0 ∨ 125 < q) :
    Calls Try.prog 7 #[.slice A n1 c1, .int .u8 (f : Int), .int .u8 (q : Int), .int .u8 (t : Int), .slice A2 n2 c2] w fun e w' => e = .returned (.bool true) ∧ Ext w w' := by
  rcases (show n2 = 0 ∨ 0 < n2 ∧ 121 < n2 ∨ 0 < n2 ∧ n2 ≤ 121 ∧ q = 0 ∨ 0 < n2 ∧ n2 ≤ 121 ∧ 0 < q ∧ 125 < q by omega) with rfl | ⟨h0, h⟩ | ⟨h0, h1, rfl⟩ | ⟨h0, h1, h2, h3⟩
  · go_enter Try.func7, Try.ntmps7
    go_wp2_with fail
    refine (bankHead_any w).mono ?_
    rintro e w0 ⟨rfl, E0⟩
    go_wp2_with fail
    refine (bankNew_any 0 0 40 0 w0).mono ?_
    rintro e w1 ⟨g, G, rfl, B1, E1, hg⟩
    clear B1
    go_wp2_with fail
    go_ret
    exact ⟨rfl, E0.go E1⟩
  all_goals
    have u0 : (n2 == 0) = false := by simp; omega
    have u0' : ((n2 : Int) == 0) = false := by simp; omega
  · have u1 : decide (121 < (n2 : Int)) = true := by simp; omega
    go_enter Try.func7, Try.ntmps7
    go_wp2_with fail
    refine (bankHead_any w).mono ?_
    rintro e w0 ⟨rfl, E0⟩
    go_wp2_with fail
    refine (bankNew_any 0 0 40 0 w0).mono ?_
    rintro e w1 ⟨g, G, rfl, B1, E1, hg⟩
    clear B1
    go_wp2_with fail
    go_ret
    exact ⟨rfl, E0.go E1⟩
  · have u1 : decide (121 < (n2 : Int)) = false := by simp; omega
    go_enter Try.func7, Try.ntmps7
    go_wp2_with fail
    refine (bankHead_any w).mono ?_
    rintro e w0 ⟨rfl, E0⟩
    go_wp2_with fail
    refine (bankNew_any 0 0 40 0 w0).mono ?_
    rintro e w1 ⟨g, G, rfl, B1, E1, hg⟩
    clear B1
    go_wp2_with fail
    go_ret
    exact ⟨rfl, E0.go E1⟩
  · have u1 : decide (121 < (n2 : Int)) = false := by simp; omega
    have u2 : ((q : Int) == 0) = false := by simp; omega
    have u3 : decide (125 < (q : Int)) = true := by simp; omega
    go_enter Try.func7, Try.ntmps7
    go_wp2_with fail
    refine (bankHead_any w).mono ?_
    rintro e w0 ⟨rfl, E0⟩
    go_wp2_with fail
    refine (bankNew_any 0 0 40 0 w0).mono ?_
    rintro e w1 ⟨g, G, rfl, B1, E1, hg⟩
    clear B1
    go_wp2_with fail
    go_ret
    exact ⟨rfl, E0.go E1⟩
set_option maxRecDepth 100000 in
set_option maxHeartbeats 6400000 in
theorem bankSwaps_on (A A2 : Option Addr) (n1 c1 n2 c2 : Nat) (f q t : Nat) (xs l : List Int) (w : World) (hx : RdI w w.heap.size .u16 A n1 xs) (hr : ∀ j : Nat, 0 ≤ xs[j]?.getD 0 ∧ xs[j]?.getD 0 ≤ 65535) (hy : RdI w w.heap.size .u16 A2 n2 l) (hyr : ∀ j : Nat, 0 ≤ l[j]?.getD 0 ∧ l[j]?.getD 0 ≤ 65535)
    (hn1 : n1 ≤ 9223372036854775807) (hf : f ≤ 255) (ht : t ≤ 255) (h0 : 1 ≤ n2) (h1 : n2 ≤ 121) (q0 : 1 ≤ q) (q1 : q ≤ 125) :
    Calls Try.prog 7 #[.slice A n1 c1, .int .u8 (f : Int), .int .u8 (q : Int), .int .u8 (t : Int), .slice A2 n2 c2] w fun e w' => e = .returned (.bool true) ∧ Ext w w' := by
  have t2' : ((n2 : Int) == 0) = false := by simp; omega
  have t2 : (n2 == 0) = false := by simp; omega
  have t1' : decide (121 < (n2 : Int)) = false := by simp; omega
  have t3 : ((q : Int) == 0) = false := by simp; omega
  have t3' : (q == 0) = false := by simp; omega
  have t4 : decide (125 < (q : Int)) = false := by simp; omega
  have hx' := Lib.hid hx
  have hr' := Lib.hid hr
  have hy' := Lib.hid hy
  have hyr' := Lib.hid hyr
  have hlx := Lib.hid hx.len
  have hly := Lib.hid hy.len
  have hmk := fun w => run_mkI Try.underlying30 info_u16 40 40 rfl (by omega) (by omega) w
  clear hx hr hy hyr
  go_enter Try.func7, Try.ntmps7
  go_wp2_with fail
  refine (bankHead_any w).mono ?_
  rintro e w0 ⟨rfl, E0⟩
  go_wp2_with fail
  refine (bankNew_any 0 0 40 0 w0).mono ?_
  rintro e w1 ⟨g, G, rfl, B1, E1, hg⟩
  have E01 := E0.go E1
  have hrow : ∀ i, RowsOf G i → w.heap.size ≤ i ∧ i < w1.heap.size := fun i h => ⟨by obtain ⟨k, hk, rfl⟩ := h; have := B1.gt hk; have := E0.size; omega, B1.old (.inr h)⟩
  have hrow' := Lib.hid hrow
  have hL0 : ∃ L0, newL 0 0 40 0 = upd L0 2 (zs 40) ∧ L0 0 = [] ∧ L0 1 = [] ∧ L0 3 = [] := ⟨newL 0 0 40 0, by
    have : newL 0 0 40 0 2 = zs 40 := rfl
    rw [← this, upd_self], rfl, rfl, rfl⟩
  obtain ⟨L0, hL0, hLe⟩ := hL0
  rw [hL0] at B1
  have B1' := Lib.hid B1
  have hLe' := Lib.hid hLe
  have hg1 := B1.lt
  clear hrow B1 hL0 hLe
  go_wp2_with fail
  have B2 := B1'.out.ext ((Ext.refl w1).goA (.cells (row .u16 (zs 40)) 34))
  have K2 := Blk.new w1 34 .u16 (zs 40)
  have E02 := E01.goA (.cells (row .u16 (zs 40)) 34)
  have hS' : Hid (∀ b, b < w.heap.size → ¬ (RowsOf G b ∨ b = w1.heap.size)) := Lib.hid (fun b hb h => by
    rcases h with h | h
    · have := hrow'.out b h; omega
    · have := E01.size; omega)
  have hh' : Hid (¬ RowsOf G w1.heap.size) := Lib.hid (fun h => by have := hrow'.out _ h; omega)
  have B2' := Lib.hid B2
  have K2' := Lib.hid K2
  have hgS : Hid (¬ (RowsOf G g ∨ g = w1.heap.size)) := Lib.hid (fun h => by
    rcases h with ⟨k, hk, e⟩ | h
    · have := B1'.out.gt hk; omega
    · omega)
  clear B2 K2 hmk
  go_wp2_with fail
  generalize hh1 : w1.heap.size = hw at *
  generalize w1.alloc (.cells (row .u16 (zs 40)) 34) = W at *
  go_loopw [14] (fun i wr => ∃ k : Nat, k ≤ n1 ∧ k ≤ 40 ∧ i = .int .i64 k ∧ Bk wr g (upd L0 2 (fillA (zs 40) 0 xs k)) G ∧ Blk wr hw 34 .u16 (fillA (zs 40) 0 xs k) ∧ Mod (fun i => RowsOf G i ∨ i = hw) W wr) (fun i _ => n1 - (intOf i).toNat)
  case atStart => exact ⟨0, by omega, by omega, rfl, by rw [fillA_zero]; exact B2'.out, by rw [fillA_zero]; exact K2'.out, Mod.refl _ _⟩
  case round =>
    obtain ⟨k, hk1, hk2, rfl, hb, hk, hM⟩ := hrel
    have hflen : (fillA (zs 40) 0 xs k).length = 40 := by rw [fillA_length _ _ _ _ (by rw [zs_length]; omega), zs_length]
    have hb' := Lib.hid hb
    have hk' := Lib.hid hk
    by_cases hlt : k < n1 ∧ k < 40
    · obtain ⟨hlt1, hlt2⟩ := hlt
      have hset := fillA_set (zs 40) 0 xs k (by rw [hlx.out]; exact hlt1) (by rw [zs_length]; omega)
      rw [Nat.zero_add] at hset
      have hput := putB_row L0 (fillA (zs 40) 0 xs k) k (xs.getD k 0) (by omega)
      rw [hset] at hput
      obtain ⟨b, o, rfl, hbl, hc0⟩ := hx'.out.at_ hlt1
      have hbS := hS'.out b hbl
      have hbW : b < W.heap.size := by have := E02.size; omega
      have hc := (hM.cell (o + k) hbW hbS).trans ((E02.cell (o + k) hbl).trans hc0)
      have hxr := hr'.out k
      rw [← List.getD_eq_getElem?_getD] at hxr
      generalize xs.getD k 0 = x at *
      have hput' := Lib.hid hput
      have hset' := Lib.hid hset
      clear hput hset hb hk hc0
      go_wp2_with fail
      refine (bankPut_any g 2 (k : Int) x _ G wr hb'.out hxr.1 hxr.2).mono ?_
      rintro e w2 ⟨rfl, B3, M3⟩
      rw [hput'.out] at B3
      have hc2 := (M3.cell (o + k) (by have := hM.size; omega) (fun h => hbS (.inl h))).trans hc
      have K3 := hk'.out.mod M3 hh'.out
      have kc := K3.cell k (by omega)
      have kf := K3.frozen k
      have K4 := K3.set_ k x
      rw [hset'.out] at K4
      have M4 : Mod (fun i => RowsOf G i ∨ i = hw) W (w2.setCell ⟨hw, k, none⟩ (.int .u16 x)) := (hM.trans (M3.weak fun i hi => .inl hi)).setCell (p := ⟨hw, k, none⟩) (.inl (.inr rfl)) _
      have B4 : Bk (w2.setCell ⟨hw, k, none⟩ (.int .u16 x)) g (upd L0 2 (fillA (zs 40) 0 xs (k + 1))) G := B3.keep (fun b hb => Below.heap_setCell _ _ _ _ (by
        rcases hb with rfl | hb
        · exact fun e => hgS.out (.inr e)
        · exact fun e => hh'.out (by rw [← show b = hw from e]; exact hb)))
      have K4' := Lib.hid K4
      have B4' := Lib.hid B4
      clear K4 B4 B3 K3
      go_wp2_with fail
      go_roundw
      case rel => exact ⟨k + 1, by omega, by omega, by go_num, B4'.out, K4'.out, M4⟩
      case measure => simp [intOf]; omega
    · have hR : (fillA (zs 40) 0 xs k).length = 40 := hflen
      have hcase : (n1 ≤ k) ∨ (k < n1 ∧ 40 ≤ k) := by omega
      have hk := hk'.out
      have hb := hb'.out
      clear hlt hflen hb' hk'
      generalize fillA (zs 40) 0 xs k = R0 at *
      have hdw := do_swaps (upd L0 2 R0) f q t l hf ht q0 q1 (by rw [hly.out]; omega) (by rw [hly.out]; omega)
      rw [hly.out, upd_same, upd_upd, hR] at hdw
      have hdw' := Lib.hid hdw
      have hb' := Lib.hid hb
      have hk' := Lib.hid hk
      have hy1 := Lib.hid (((hy'.out.ext E02).mod hM (fun b o e h => hS'.out b (hy'.out.lt_of' (by omega) e) h)))
      have u1 : IntKind.i64.wrap (f : Int) = f := by rw [IntKind.wrap_i64]; omega
      have u2 : IntKind.i64.wrap (t : Int) = t := by rw [IntKind.wrap_i64]; omega
      have u3 : IntKind.i64.wrap (q : Int) = q := by rw [IntKind.wrap_i64]; omega
      have u4 : IntKind.i64.wrap ((f : Int) + q) = (f : Int) + q := by rw [IntKind.wrap_i64]; omega
      have u5 : IntKind.i64.wrap ((t : Int) + n2) = (t : Int) + n2 := by rw [IntKind.wrap_i64]; omega
      have hall : ∀ R, allL (upd L0 2 R) = R := fun R => by
        obtain ⟨e0, e1, e3⟩ := hLe'.out
        show (List.range 4).flatMap (upd L0 2 R) = R
        rw [show List.range 4 = [0, 1, 2, 3] from rfl]
        simp only [List.flatMap_cons, List.flatMap_nil, upd_same, upd_other L0 R (show 0 ≠ 2 by omega), upd_other L0 R (show 1 ≠ 2 by omega), upd_other L0 R (show 3 ≠ 2 by omega), e0, e1, e3]
        simp
      have hall' := Lib.hid hall
      clear hdw hb hk hall
      by_cases hfit : f + q ≤ 40 ∧ t + n2 ≤ 40
      · obtain ⟨d1, d2, d3⟩ := hdw'.out.1 hfit
        have f1 : decide (40 < (f : Int) + q) = false := by simp; omega
        have f2 : decide (40 < (t : Int) + n2) = false := by simp; omega
        have d1' := Lib.hid d1
        have d2' := Lib.hid d2
        have d3' := Lib.hid d3
        clear d1 d2 d3 hdw'
        rcases hcase with hc | ⟨hca, hc⟩
        all_goals
          go_wp2_with fail
          refine (bankDo_any g 23 (f : Int) (q : Int) (t : Int) A2 n2 c2 l _ G wr hb'.out hy1.out hyr'.out (by unfold maxLen; omega)).mono ?_
          rw [d1'.out, d2'.out, d3'.out]
          rintro e w3 ⟨A3, n3, c3, rfl, g3, g3', r3, fr3, B3, M3⟩
          have K3 := hk'.out.mod M3 hh'.out
          have Q3 := heap_alloc_new w3 (.cells #[.int .i64 0, .slice A3 n3 c3] 40)
          have X3 := (Ext.refl w3).goA (.cells #[.int .i64 0, .slice A3 n3 c3] 40)
          have M4 : Mod (fun i => RowsOf G i ∨ i = hw) W (w3.alloc (.cells #[.int .i64 0, .slice A3 n3 c3] 40)) := (hM.trans (M3.weak fun i hi => .inl hi)).alloc _
          have B4' := Lib.hid (B3.ext X3)
          have K4' := Lib.hid (K3.alloc (.cells #[.int .i64 0, .slice A3 n3 c3] 40))
          have s3 : hw < w3.heap.size := K3.lt
          have hg3 := B3.lt
          have hwr : W.heap.size ≤ wr.heap.size := hM.size
          have hG3 : Hid (∀ i, RowsOf G i → i < w3.heap.size) := Lib.hid (fun i h => B3.old (.inr h))
          have r4' := Lib.hid (r3.ext X3)
          have Q3' := Lib.hid Q3
          clear K3 Q3 X3 B3 M3 r3
          go_wp2_with fail
          generalize hw3 : w3.heap.size = pb at *
          generalize w3.alloc (.cells #[.int .i64 0, .slice A3 n3 c3] 40) = V at *
          have fr4 : ∀ b o, A3 = some ⟨b, o, none⟩ → W.heap.size ≤ b := fun b o e => by have := fr3 b o e; omega
          clear fr3
          have sW : hw < W.heap.size := K2'.out.lt
          go_loopw [16] (fun i wr => ∃ k : Nat, k ≤ n2 ∧ i = .int .i64 k ∧ Blk wr hw 34 .u16 (fillA R0 t l k) ∧ Mod (fun i => i = hw) V wr) (fun i _ => n2 - (intOf i).toNat)
          case atStart => exact ⟨0, by omega, rfl, by rw [fillA_zero]; exact K4'.out, Mod.refl _ _⟩
          case round =>
            obtain ⟨j, hj, rfl, hk5, hM5⟩ := hrel
            have hk5' := Lib.hid hk5
            clear hk5
            by_cases hlt : j < n2
            · have hset := fillA_set R0 t l j (by rw [hly.out]; exact hlt) (by omega)
              have hfl : (fillA R0 t l j).length = 40 := by rw [fillA_length _ _ _ _ (by omega)]; exact hR
              obtain ⟨b, o, rfl, hbl, hc0⟩ := hy'.out.at_ hlt
              have hbS := hS'.out b hbl
              have hbV : b < V.heap.size := by have := M4.size; have := E02.size; omega
              have hc2 := (hM5.cell (o + j) hbV (fun h => hbS (.inr h))).trans ((M4.cell (o + j) (by have := E02.size; omega) hbS).trans ((E02.cell (o + j) hbl).trans hc0))
              generalize l.getD j 0 = x at *
              have kc := hk5'.out.cell (t + j) (by omega)
              have kf := hk5'.out.frozen (t + j)
              have K6 := hk5'.out.set_ (t + j) x
              rw [hset] at K6
              have u6 : IntKind.i64.wrap ((t : Int) + j) = (t : Int) + j := by rw [IntKind.wrap_i64]; omega
              have M6 : Mod (fun i => i = hw) V (wr.setCell ⟨hw, t + j, none⟩ (.int .u16 x)) := hM5.setCell (p := ⟨hw, t + j, none⟩) (.inl rfl) _
              have K6' := Lib.hid K6
              clear K6 hset hc0
              go_wp2_with fail
              go_roundw
              case rel => exact ⟨j + 1, by omega, by go_num, K6'.out, M6⟩
              case measure => simp [intOf]; omega
            · obtain rfl : j = n2 := by omega
              have hk6 := hk5'.out
              rw [fillA_all _ _ _ _ (by rw [hly.out]; exact Nat.le_refl _)] at hk6
              have hRl : (splice R0 t l).length = 40 := by rw [length_splice _ _ _ (by rw [hly.out]; omega)]; exact hR
              have hb6 := B4'.out.mod hM5 (fun h => hgS.out (.inr h)) (fun k hk h => hh'.out ⟨k, hk, h.symm⟩)
              have r6 := r4'.out.mod hM5 (fun b o e h => by have := fr4 b o e; omega)
              have hq6 := (hM5.block pb (lt_of_block Q3'.out) (by omega)).trans Q3'.out
              have hcut := (hk6.cut (B := wr.heap.size) hk6.lt (f := f) (m := q) (by omega))
              have hcl : (((splice R0 t l).drop f).take q).length = q := by rw [List.length_take, List.length_drop]; omega
              have M7 : Mod (fun i => RowsOf G i ∨ i = hw) W wr := M4.trans (hM5.weak fun i hi => .inr hi)
              generalize splice R0 t l = R1 at *
              have hk6' := Lib.hid hk6
              have hb6' := Lib.hid hb6
              have r6' := Lib.hid r6
              have hcut' := Lib.hid hcut
              have v1 : IntKind.u8.wrap ((f : Int) + q) = (f : Int) + q := by rw [IntKind.wrap_u8]; omega
              have v2 : f + q - f = q := by omega
              have p1 : (0 : Int) ≤ (f : Int) + q := by omega
              have p2 : (f : Int) + q ≤ 40 := by omega
              have p3 : ((f : Int) + q).toNat = f + q := by omega
              have p4 : ¬ 40 = f := by omega
              have p5 : f ≤ f + q := by omega
              clear hk6 hb6 r6 hcut
              go_wp2_with fail
              have d0 : Ext wr wr.drew := (Ext.refl _).god
              have bq : ∀ w', Ext wr w' → ∀ o, w'.cell? ⟨pb, o, none⟩ = _ := fun w' D => cellsAt ((D.block pb (lt_of_block hq6)).trans hq6)
              clear hq6
              refine wp_region_held_drew (S := fun w' => Ext wr w') (by kernel_rfl) d0 (fun hHeld => ?_)
              refine wpAnyH_take (i := 0) (oi := _) (v := ?_) rfl (by kernel_rfl) (by kernel_rfl) (by kernel_rfl) (fun _ _ _ h => h) (Or.inl ⟨by rfl, ?_⟩) (by assumption) ?_
              rotate_left
              · intro w hSw
                (try dsimp only at hSw)
                go_simp
                try (with_reducible rfl)
              try simp only [Act.put, List.getElem_toArray, List.getElem_cons_zero, List.setIfInBounds_toArray, List.set_cons_zero, List.set_cons_succ]
              refine wpAnyH_take (i := 1) (oi := _) (v := ?_) rfl (by kernel_rfl) (by kernel_rfl) (by kernel_rfl) (fun _ _ _ h => h) (Or.inl ⟨by rfl, ?_⟩) (by assumption) ?_
              rotate_left
              · intro w hSw
                (try dsimp only at hSw)
                go_simp
                try (with_reducible rfl)
              try simp only [Act.put, List.getElem_toArray, List.getElem_cons_succ, List.getElem_cons_zero, List.setIfInBounds_toArray, List.set_cons_zero, List.set_cons_succ]
              refine wpAnyH_take (i := 2) (oi := _) (v := ?_) rfl (by kernel_rfl) (by kernel_rfl) (by kernel_rfl) (fun _ _ _ h => h) (Or.inl ⟨by rfl, ?_⟩) (by assumption) ?_
              rotate_left
              · intro w hSw
                (try dsimp only at hSw)
                go_simp
                try (with_reducible rfl)
              try simp only [Act.put, List.getElem_toArray, List.getElem_cons_succ, List.getElem_cons_zero, List.setIfInBounds_toArray, List.set_cons_zero, List.set_cons_succ]
              refine wpAnyH_take (i := 3) (oi := _) (v := ?_) rfl (by kernel_rfl) (by kernel_rfl) (by kernel_rfl) (fun _ _ _ h => h) (Or.inl ⟨by rfl, ?_⟩) (by assumption) ?_
              rotate_left
              · intro w hSw
                (try dsimp only at hSw)
                go_simp
                try (with_reducible rfl)
              try simp only [Act.put, List.getElem_toArray, List.getElem_cons_succ, List.getElem_cons_zero, List.setIfInBounds_toArray, List.set_cons_zero, List.set_cons_succ]
              refine wpAnyH_take (i := 4) (oi := _) (v := ?_) rfl (by kernel_rfl) (by kernel_rfl) (by kernel_rfl) (fun _ _ _ h => h) (Or.inl ⟨by rfl, ?_⟩) (by assumption) ?_
              rotate_left
              · intro w hSw
                (try dsimp only at hSw)
                go_simp
                try (with_reducible rfl)
              try simp only [Act.put, List.getElem_toArray, List.getElem_cons_succ, List.getElem_cons_zero, List.setIfInBounds_toArray, List.set_cons_zero, List.set_cons_succ]
              refine wpAnyH_take (i := 5) (oi := _) (v := ?_) rfl (by kernel_rfl) (by kernel_rfl) (by kernel_rfl) (fun _ _ _ h => h) (Or.inl ⟨by rfl, ?_⟩) (by assumption) ?_
              rotate_left
              · intro w hSw
                (try dsimp only at hSw)
                go_simp
                try (with_reducible rfl)
              try simp only [Act.put, List.getElem_toArray, List.getElem_cons_succ, List.getElem_cons_zero, List.setIfInBounds_toArray, List.set_cons_zero, List.set_cons_succ]
              refine wpAnyH_take (i := 6) (oi := _) (v := ?_) rfl (by kernel_rfl) (by kernel_rfl) (by kernel_rfl) (fun _ _ _ h => h) (Or.inl ⟨by rfl, ?_⟩) (by assumption) ?_
              rotate_left
              · intro w hSw
                (try dsimp only at hSw)
                go_simp
                try (with_reducible rfl)
              try simp only [Act.put, List.getElem_toArray, List.getElem_cons_succ, List.getElem_cons_zero, List.setIfInBounds_toArray, List.set_cons_zero, List.set_cons_succ]
              refine wpAnyH_take (i := 7) (oi := _) (v := ?_) rfl (by kernel_rfl) (by kernel_rfl) (by kernel_rfl) (fun _ _ _ h => h) (Or.inl ⟨by rfl, ?_⟩) (by assumption) ?_
              rotate_left
              · intro w hSw
                (try dsimp only at hSw)
                go_simp
                try (with_reducible rfl)
              try simp only [Act.put, List.getElem_toArray, List.getElem_cons_succ, List.getElem_cons_zero, List.setIfInBounds_toArray, List.set_cons_zero, List.set_cons_succ]
              refine wpAnyH_take (i := 8) (oi := _) (v := ?_) rfl (by kernel_rfl) (by kernel_rfl) (by kernel_rfl) (fun _ _ _ h => h) (Or.inl ⟨by rfl, ?_⟩) (by assumption) ?_
              rotate_left
              · intro w hSw
                (try dsimp only at hSw)
                go_simp
                try (with_reducible rfl)
              try simp only [Act.put, List.getElem_toArray, List.getElem_cons_succ, List.getElem_cons_zero, List.setIfInBounds_toArray, List.set_cons_zero, List.set_cons_succ]
              refine wpAnyH_take (i := 9) (oi := _) (v := ?_) rfl (by kernel_rfl) (by kernel_rfl) (by kernel_rfl) (fun _ _ _ h => h) (Or.inl ⟨by rfl, ?_⟩) (by assumption) ?_
              rotate_left
              · intro w hSw
                (try dsimp only at hSw)
                go_simp
                try (with_reducible rfl)
              try simp only [Act.put, List.getElem_toArray, List.getElem_cons_succ, List.getElem_cons_zero, List.setIfInBounds_toArray, List.set_cons_zero, List.set_cons_succ]
              refine wpAnyH_take (i := 10) (oi := _) (v := ?_) rfl (by kernel_rfl) (by kernel_rfl) (by kernel_rfl) (fun _ _ _ h => h) (Or.inl ⟨by rfl, ?_⟩) (by assumption) ?_
              rotate_left
              · intro w hSw
                (try dsimp only at hSw)
                go_simp
                try (with_reducible rfl)
              try simp only [Act.put, List.getElem_toArray, List.getElem_cons_succ, List.getElem_cons_zero, List.setIfInBounds_toArray, List.set_cons_zero, List.set_cons_succ]
              refine wpAnyH_take (i := 11) (oi := _) (v := ?_) rfl (by kernel_rfl) (by kernel_rfl) (by kernel_rfl) (fun _ _ _ h => h) (Or.inl ⟨by rfl, ?_⟩) (by assumption) ?_
              rotate_left
              · intro w hSw
                (try dsimp only at hSw)
                go_simp
                try (with_reducible rfl)
              try simp only [Act.put, List.getElem_toArray, List.getElem_cons_succ, List.getElem_cons_zero, List.setIfInBounds_toArray, List.set_cons_zero, List.set_cons_succ]
              refine wpAnyH_take (i := 12) (oi := _) (v := ?_) rfl (by kernel_rfl) (by kernel_rfl) (by kernel_rfl) (fun _ _ _ h => h) (Or.inl ⟨by rfl, ?_⟩) (by assumption) ?_
              rotate_left
              · intro w hSw
                (try dsimp only at hSw)
                go_simp
                try (with_reducible rfl)
              try simp only [Act.put, List.getElem_toArray, List.getElem_cons_succ, List.getElem_cons_zero, List.setIfInBounds_toArray, List.set_cons_zero, List.set_cons_succ]
              refine wpAnyH_take (i := 13) (oi := _) (v := ?_) rfl (by kernel_rfl) (by kernel_rfl) (by kernel_rfl) (fun _ _ _ h => h) (Or.inl ⟨by rfl, ?_⟩) (by assumption) ?_
              rotate_left
              · intro w hSw
                (try dsimp only at hSw)
                go_simp
                try (with_reducible rfl)
              try simp only [Act.put, List.getElem_toArray, List.getElem_cons_succ, List.getElem_cons_zero, List.setIfInBounds_toArray, List.set_cons_zero, List.set_cons_succ]
              refine wpAnyH_take (i := 14) (oi := _) (v := ?_) rfl (by kernel_rfl) (by kernel_rfl) (by kernel_rfl) (fun _ _ _ h => h) (Or.inl ⟨by rfl, ?_⟩) (by assumption) ?_
              rotate_left
              · intro w hSw
                (try dsimp only at hSw)
                go_simp
                try (with_reducible rfl)
              try simp only [Act.put, List.getElem_toArray, List.getElem_cons_succ, List.getElem_cons_zero, List.setIfInBounds_toArray, List.set_cons_zero, List.set_cons_succ]
              refine wpAnyH_ready (rs := [15]) (by kernel_rfl) (by simp) ?_
              refine AllReadyH.cons rfl (fun K hK => ?_) ?_
              rotate_left
              · exact AllReadyH.nil
              go_simp
              go_at_call 32
              refine (sameVals_any A3 _ n3 c3 q _ _ _ _ _ (r6'.out.ext d0) (hcut'.out.ext d0) (Nat.le_trans g3 g3') (by unfold maxLen; omega)).mono ?_
              rw [show decide (((R1.drop f).take q) = ((R1.drop f).take q)) = true from by simp]
              rintro e w5 ⟨rfl, m5, rfl⟩
              have d5 := d0.goD m5
              have d6 : Ext wr (wr.drewN (1 + m5)) := (Ext.refl _).goD _
              try dsimp only
              refine hK.out _ _ ?_ (fun hHeld => ?_)
              · first | assumption | (dsimp only; assumption)
              clear hK K
              try simp only [Act.put, List.getElem_toArray, List.getElem_cons_succ, List.getElem_cons_zero, List.setIfInBounds_toArray, List.set_cons_zero, List.set_cons_succ]
              refine wpAnyH_take (i := 16) (oi := _) (v := ?_) rfl (by kernel_rfl) (by kernel_rfl) (by kernel_rfl) (fun _ _ _ h => h) (Or.inl ⟨by rfl, ?_⟩) (by assumption) ?_
              rotate_left
              · intro w hSw
                (try dsimp only at hSw)
                go_simp
                try (with_reducible rfl)
              try simp only [Act.put, List.getElem_toArray, List.getElem_cons_succ, List.getElem_cons_zero, List.setIfInBounds_toArray, List.set_cons_zero, List.set_cons_succ]
              refine wpAnyH_take (i := 17) (oi := _) (v := ?_) rfl (by kernel_rfl) (by kernel_rfl) (by kernel_rfl) (fun _ _ _ h => h) (Or.inl ⟨by rfl, ?_⟩) (by assumption) ?_
              rotate_left
              · intro w hSw
                (try dsimp only at hSw)
                go_simp
                try (with_reducible rfl)
              try simp only [Act.put, List.getElem_toArray, List.getElem_cons_succ, List.getElem_cons_zero, List.setIfInBounds_toArray, List.set_cons_zero, List.set_cons_succ]
              refine wpAnyH_take (i := 18) (oi := _) (v := ?_) rfl (by kernel_rfl) (by kernel_rfl) (by kernel_rfl) (fun _ _ _ h => h) (Or.inl ⟨by rfl, ?_⟩) (by assumption) ?_
              rotate_left
              · intro w hSw
                (try dsimp only at hSw)
                go_simp
                try (with_reducible rfl)
              try simp only [Act.put, List.getElem_toArray, List.getElem_cons_succ, List.getElem_cons_zero, List.setIfInBounds_toArray, List.set_cons_zero, List.set_cons_succ]
              refine wpAnyH_take (i := 20) (oi := _) (v := ?_) rfl (by kernel_rfl) (by kernel_rfl) (by kernel_rfl) (fun _ _ _ h => h) (Or.inl ⟨by rfl, ?_⟩) (by assumption) ?_
              rotate_left
              · intro w hSw
                (try dsimp only at hSw)
                go_simp
                try (with_reducible rfl)
              try simp only [Act.put, List.getElem_toArray, List.getElem_cons_succ, List.getElem_cons_zero, List.setIfInBounds_toArray, List.set_cons_zero, List.set_cons_succ]
              refine wpAnyH_ready (rs := [19]) (by kernel_rfl) (by simp) ?_
              refine AllReadyH.cons rfl (fun K hK => ?_) ?_
              rotate_left
              · exact AllReadyH.nil
              go_simp
              go_at_call 29
              refine (bankAll_any g _ G _ (hb6'.out.ext d6)).mono ?_
              rw [hall'.out]
              rintro e w7 ⟨A7, n7, c7, rfl, g7, g7', r7, D7⟩
              have d7 := d6.go D7
              try dsimp only
              refine hK.out _ _ ?_ (fun hHeld => ?_)
              · first | assumption | (dsimp only; assumption)
              clear hK K
              try simp only [Act.put, List.getElem_toArray, List.getElem_cons_succ, List.getElem_cons_zero, List.setIfInBounds_toArray, List.set_cons_zero, List.set_cons_succ]
              refine wpAnyH_ready (rs := [21]) (by kernel_rfl) (by simp) ?_
              refine AllReadyH.cons rfl (fun K hK => ?_) ?_
              rotate_left
              · exact AllReadyH.nil
              go_simp
              go_at_call 32
              refine (sameVals_any A7 _ n7 c7 40 40 _ R1 R1 w7 r7 (by have hz := hk6'.out.below d7 hk6'.out.lt; have := hz.rd (B := w7.heap.size) hz.lt; rw [hRl] at this; exact this) (Nat.le_trans g7 g7') (by decide)).mono ?_
              rw [show decide (R1 = R1) = true from by simp]
              rintro e w8 ⟨rfl, m8, rfl⟩
              have d8 := d7.goD m8
              try dsimp only
              refine hK.out _ _ ?_ (fun hHeld => ?_)
              · first | assumption | (dsimp only; assumption)
              clear hK K
              try simp only [Act.put, List.getElem_toArray, List.getElem_cons_succ, List.getElem_cons_zero, List.setIfInBounds_toArray, List.set_cons_zero, List.set_cons_succ]
              refine wpAnyH_take (i := 22) (oi := _) (v := ?_) rfl (by kernel_rfl) (by kernel_rfl) (by kernel_rfl) (fun _ _ _ h => h) (Or.inl ⟨by rfl, ?_⟩) (by assumption) ?_
              rotate_left
              · intro w hSw
                (try dsimp only at hSw)
                go_simp
                try (with_reducible rfl)
              try simp only [Act.put, List.getElem_toArray, List.getElem_cons_succ, List.getElem_cons_zero, List.setIfInBounds_toArray, List.set_cons_zero, List.set_cons_succ]
              refine wpAnyH_take (i := 23) (oi := _) (v := ?_) rfl (by kernel_rfl) (by kernel_rfl) (by kernel_rfl) (fun _ _ _ h => h) (Or.inl ⟨by rfl, ?_⟩) (by assumption) ?_
              rotate_left
              · intro w hSw
                (try dsimp only at hSw)
                go_simp
                try (with_reducible rfl)
              try simp only [Act.put, List.getElem_toArray, List.getElem_cons_succ, List.getElem_cons_zero, List.setIfInBounds_toArray, List.set_cons_zero, List.set_cons_succ]
              refine wpAnyH_done (by kernel_rfl) ?_ _
              go_wp2_with fail
              go_ret
              exact ⟨rfl, (E02.goM M7 (fun i hi => by
                rcases hi with h | h
                · have := hrow'.out i h; omega
                · have := E01.size; omega)).go d8⟩
      · obtain ⟨d1, d2, d3⟩ := hdw'.out.2 hfit
        have d1' := Lib.hid d1
        have d2' := Lib.hid d2
        have d3' := Lib.hid d3
        clear d1 d2 d3 hdw'
        by_cases hfq : f + q ≤ 40
        · have f1 : decide (40 < (f : Int) + q) = false := by simp; omega
          have f2 : decide (40 < (t : Int) + n2) = true := by simp; omega
          rcases hcase with hc | ⟨hca, hc⟩
          all_goals
            go_wp2_with fail
            refine (bankDo_any g 23 (f : Int) (q : Int) (t : Int) A2 n2 c2 l _ G wr hb'.out hy1.out hyr'.out (by unfold maxLen; omega)).mono ?_
            rw [d1'.out, d2'.out, d3'.out]
            rintro e w3 ⟨A3, n3, c3, rfl, g3, g3', r3, fr3, B3, M3⟩
            have K3 := hk'.out.mod M3 hh'.out
            have Q3 := heap_alloc_new w3 (.cells #[.int .i64 2, .slice A3 n3 c3] 40)
            have X3 := (Ext.refl w3).goA (.cells #[.int .i64 2, .slice A3 n3 c3] 40)
            have M4 : Mod (fun i => RowsOf G i ∨ i = hw) W (w3.alloc (.cells #[.int .i64 2, .slice A3 n3 c3] 40)) := (hM.trans (M3.weak fun i hi => .inl hi)).alloc _
            have B4' := Lib.hid (B3.ext X3)
            have K4' := Lib.hid (K3.alloc (.cells #[.int .i64 2, .slice A3 n3 c3] 40))
            have s3 : hw < w3.heap.size := K3.lt
            have hg3 := B3.lt
            have hwr : W.heap.size ≤ wr.heap.size := hM.size
            have hG3 : Hid (∀ i, RowsOf G i → i < w3.heap.size) := Lib.hid (fun i h => B3.old (.inr h))
            have r4' := Lib.hid (r3.ext X3)
            have Q3' := Lib.hid Q3
            have q3 := cellsAt Q3
            clear K3 Q3 X3 B3 M3 r3
            go_wp2_with fail
            refine (bankAll_any g _ G _ B4'.out).mono ?_
            rw [hall'.out]
            rintro e w4 ⟨A4, n4, c4, rfl, g4, g4', r4, D4⟩
            go_wp2_with fail
            refine (sameVals_any A4 _ n4 c4 40 40 _ R0 R0 w4 r4 (by have := ((K4'.out.below D4 K4'.out.lt).rd (B := w4.heap.size) (K4'.out.below D4 K4'.out.lt).lt); rw [hR] at this; exact this) (Nat.le_trans g4 g4') (by decide)).mono ?_
            rw [show decide (R0 = R0) = true from by simp]
            rintro e w5 ⟨rfl, m5, rfl⟩
            go_wp2_with fail
            go_ret
            exact ⟨rfl, (E02.goM M4 (fun i hi => by
              rcases hi with h | h
              · have := hrow'.out i h; omega
              · have := E01.size; omega)).go (D4.goD m5)⟩
        · have f1 : decide (40 < (f : Int) + q) = true := by simp; omega
          rcases hcase with hc | ⟨hca, hc⟩
          all_goals
            go_wp2_with fail
            refine (bankDo_any g 23 (f : Int) (q : Int) (t : Int) A2 n2 c2 l _ G wr hb'.out hy1.out hyr'.out (by unfold maxLen; omega)).mono ?_
            rw [d1'.out, d2'.out, d3'.out]
            rintro e w3 ⟨A3, n3, c3, rfl, g3, g3', r3, fr3, B3, M3⟩
            have K3 := hk'.out.mod M3 hh'.out
            have Q3 := heap_alloc_new w3 (.cells #[.int .i64 2, .slice A3 n3 c3] 40)
            have X3 := (Ext.refl w3).goA (.cells #[.int .i64 2, .slice A3 n3 c3] 40)
            have M4 : Mod (fun i => RowsOf G i ∨ i = hw) W (w3.alloc (.cells #[.int .i64 2, .slice A3 n3 c3] 40)) := (hM.trans (M3.weak fun i hi => .inl hi)).alloc _
            have B4' := Lib.hid (B3.ext X3)
            have K4' := Lib.hid (K3.alloc (.cells #[.int .i64 2, .slice A3 n3 c3] 40))
            have s3 : hw < w3.heap.size := K3.lt
            have hg3 := B3.lt
            have hwr : W.heap.size ≤ wr.heap.size := hM.size
            have hG3 : Hid (∀ i, RowsOf G i → i < w3.heap.size) := Lib.hid (fun i h => B3.old (.inr h))
            have r4' := Lib.hid (r3.ext X3)
            have Q3' := Lib.hid Q3
            have q3 := cellsAt Q3
            clear K3 Q3 X3 B3 M3 r3
            go_wp2_with fail
            refine (bankAll_any g _ G _ B4'.out).mono ?_
            rw [hall'.out]
            rintro e w4 ⟨A4, n4, c4, rfl, g4, g4', r4, D4⟩
            go_wp2_with fail
            refine (sameVals_any A4 _ n4 c4 40 40 _ R0 R0 w4 r4 (by have := ((K4'.out.below D4 K4'.out.lt).rd (B := w4.heap.size) (K4'.out.below D4 K4'.out.lt).lt); rw [hR] at this; exact this) (Nat.le_trans g4 g4') (by decide)).mono ?_
            rw [show decide (R0 = R0) = true from by simp]
            rintro e w5 ⟨rfl, m5, rfl⟩
            go_wp2_with fail
            go_ret
            exact ⟨rfl, (E02.goM M4 (fun i hi => by
              rcases hi with h | h
              · have := hrow'.out i h; omega
              · have := E01.size; omega)).go (D4.goD m5)⟩
theorem bankSwaps_any (A A2 : Option Addr) (n1 c1 n2 c2 : Nat) (f q t : Int) (xs l : List Int) (w : World) (hx : RdI w w.heap.size .u16 A n1 xs) (hr : ∀ j : Nat, 0 ≤ xs[j]?.getD 0 ∧ xs[j]?.getD 0 ≤ 65535) (hy : RdI w w.heap.size .u16 A2 n2 l) (hyr : ∀ j : Nat, 0 ≤ l[j]?.getD 0 ∧ l[j]?.getD 0 ≤ 65535)
    (hn1 : n1 ≤ maxLen) (f0 : 0 ≤ f) (f1 : f ≤ 255) (q0 : 0 ≤ q) (q1 : q ≤ 255) (t0 : 0 ≤ t) (t1 : t ≤ 255) :
    Calls Try.prog 7 #[.slice A n1 c1, .int .u8 f, .int .u8 q, .int .u8 t, .slice A2 n2 c2] w fun e w' => e = .returned (.bool true) ∧ Ext w w' := by
  obtain ⟨f, rfl⟩ := Int.eq_ofNat_of_zero_le f0
  obtain ⟨q, rfl⟩ := Int.eq_ofNat_of_zero_le q0
  obtain ⟨t, rfl⟩ := Int.eq_ofNat_of_zero_le t0
  unfold maxLen at hn1
  by_cases h : n2 = 0 ∨ 121 < n2 ∨ q = 0 ∨ 125 < q
  · exact bankSwaps_off A A2 n1 c1 n2 c2 f q t w h
  · exact bankSwaps_on A A2 n1 c1 n2 c2 f q t xs l w hx hr hy hyr hn1 (by omega) (by omega) (by omega) (by omega) (by omega) (by omega)
end Go.Proofs.Ytgeahfkhfpdlhaa
