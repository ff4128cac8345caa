
/- Layer 6: the law BankWrites, walked. -/
import Derived.Test.YtgeahfkhfpdlhaaBankFill
namespace Go.Proofs.Ytgeahfkhfpdlhaa
open Go.RowKit

set_option maxRecDepth 100000 in
set_option maxHeartbeats 3200000 in
theorem bankWrites_off (n : Nat) (A A2 : Option Addr) (n1 c1 n2 c2 : Nat) (ad : Int) (w : World) (h : n2 = 0 ∨ 123 < n2) :
    Calls Try.prog 4 #[.int .u8 n, .slice A n1 c1, .int .u16 ad, .slice A2 n2 c2] w fun e w' => e = .returned (.bool true) ∧ Ext w w' := by
  have u1 : IntKind.i64.wrap (n : Int) = n ∨ True := .inr trivial
  clear u1
  rcases h with rfl | h
  all_goals
    go_enter Try.func4, Try.ntmps4
    go_wp2_with fail
    refine (bankHead_any w).mono ?_
    rintro e w0 ⟨rfl, E0⟩
    go_wp2_with fail
    refine (bankNew_any 0 0 _ 0 w0).mono ?_
    rintro e w1 ⟨g, G, rfl, B1, E1, hg⟩
    clear B1
    go_wp2_with fail
    go_ret
    exact ⟨rfl, E0.go E1⟩
set_option maxRecDepth 100000 in
set_option maxHeartbeats 6400000 in
theorem bankWrites_on (n ad : Nat) (A A2 : Option Addr) (n1 c1 n2 c2 : Nat) (xs l : List Int) (w : World) (hx : RdI w w.heap.size .u16 A n1 xs) (hr : ∀ j : Nat, 0 ≤ xs[j]?.getD 0 ∧ xs[j]?.getD 0 ≤ 65535) (hy : RdI w w.heap.size .u16 A2 n2 l) (hyr : ∀ j : Nat, 0 ≤ l[j]?.getD 0 ∧ l[j]?.getD 0 ≤ 65535)
    (hn : n ≤ 255) (hn1 : n1 ≤ 9223372036854775807) (had : ad ≤ 65535) (h0 : 1 ≤ n2) (h1 : n2 ≤ 123) :
    Calls Try.prog 4 #[.int .u8 n, .slice A n1 c1, .int .u16 ad, .slice A2 n2 c2] w fun e w' => e = .returned (.bool true) ∧ Ext w w' := by
  have t1 : decide (123 < n2) = false := by simp; omega
  have t2 : (n2 == 0) = false := by simp; omega
  have t1' : decide (123 < (n2 : Int)) = false := by simp; omega
  have t2' : ((n2 : Int) == 0) = false := by simp; omega
  have hx' := Lib.hid hx
  have hr' := Lib.hid hr
  have hy' := Lib.hid hy
  have hyr' := Lib.hid hyr
  have hlx := Lib.hid hx.len
  have hly := Lib.hid hy.len
  have hmk := fun w => run_mkI Try.underlying30 info_u16 (n : Int) n rfl (by omega) (by omega) w
  clear hx hr hy hyr
  go_enter Try.func4, Try.ntmps4
  go_wp2_with fail
  refine (bankHead_any w).mono ?_
  rintro e w0 ⟨rfl, E0⟩
  go_wp2_with fail
  refine (bankNew_any 0 0 (n : Int) 0 w0).mono ?_
  rintro e w1 ⟨g, G, rfl, B1, E1, hg⟩
  have E01 := E0.go E1
  have hrow : ∀ i, RowsOf G i → w.heap.size ≤ i ∧ i < w1.heap.size := fun i h => ⟨by obtain ⟨k, hk, rfl⟩ := h; have := B1.gt hk; have := E0.size; omega, B1.old (.inr h)⟩
  have hrow' := Lib.hid hrow
  have hL0 : ∃ L0, newL 0 0 (n : Int) 0 = upd L0 2 (zs n) := ⟨newL 0 0 (n : Int) 0, by
    have : newL 0 0 (n : Int) 0 2 = zs n := by show zs (clampN (n : Int)) = _; rw [clampN_of n (by omega)]
    rw [← this, upd_self]⟩
  obtain ⟨L0, hL0⟩ := hL0
  rw [hL0] at B1
  have B1' := Lib.hid B1
  have hg1 := B1.lt
  clear hrow B1 hL0
  go_wp2_with fail
  have B2 := B1'.out.ext ((Ext.refl w1).goA (.cells (row .u16 (zs n)) 34))
  have K2 := Blk.new w1 34 .u16 (zs n)
  have E02 := E01.goA (.cells (row .u16 (zs n)) 34)
  have hS : ∀ b, b < w.heap.size → ¬ (RowsOf G b ∨ b = w1.heap.size) := fun b hb h => by
    rcases h with h | h
    · have := hrow'.out b h; omega
    · have := E01.size; omega
  have hS' := Lib.hid hS
  have hh : ¬ RowsOf G w1.heap.size := fun h => by have := hrow'.out _ h; omega
  have hh' := Lib.hid hh
  have B2' := Lib.hid B2
  have K2' := Lib.hid K2
  have hgS : Hid (¬ (RowsOf G g ∨ g = w1.heap.size)) := Lib.hid (fun h => by
    rcases h with ⟨k, hk, e⟩ | h
    · have := B1'.out.gt hk; omega
    · omega)
  clear B2 K2 hS hh hmk
  go_wp2_with fail
  generalize hh1 : w1.heap.size = hw at *
  generalize w1.alloc (.cells (row .u16 (zs n)) 34) = W at *
  go_loopw [13] (fun i wr => ∃ k : Nat, k ≤ n1 ∧ k ≤ n ∧ i = .int .i64 k ∧ Bk wr g (upd L0 2 (fillA (zs n) 0 xs k)) G ∧ Blk wr hw 34 .u16 (fillA (zs n) 0 xs k) ∧ Mod (fun i => RowsOf G i ∨ i = hw) W wr) (fun i _ => n1 - (intOf i).toNat)
  case atStart => exact ⟨0, by omega, by omega, rfl, by rw [fillA_zero]; exact B2'.out, by rw [fillA_zero]; exact K2'.out, Mod.refl _ _⟩
  case round =>
    obtain ⟨k, hk1, hk2, rfl, hb, hk, hM⟩ := hrel
    have hflen : (fillA (zs n) 0 xs k).length = n := by rw [fillA_length _ _ _ _ (by rw [zs_length]; omega), zs_length]
    have hb' := Lib.hid hb
    have hk' := Lib.hid hk
    by_cases hlt : k < n1 ∧ k < n
    · obtain ⟨hlt1, hlt2⟩ := hlt
      have hset := fillA_set (zs n) 0 xs k (by rw [hlx.out]; exact hlt1) (by rw [zs_length]; omega)
      rw [Nat.zero_add] at hset
      have hput := putB_row L0 (fillA (zs n) 0 xs k) k (xs.getD k 0) (by omega)
      rw [hset] at hput
      obtain ⟨b, o, rfl, hbl, hc0⟩ := hx'.out.at_ hlt1
      have hbS := hS'.out b hbl
      have hbW : b < W.heap.size := by have := E02.size; omega
      have hc := (hM.cell (o + k) hbW hbS).trans ((E02.cell (o + k) hbl).trans hc0)
      have hxr := hr'.out k
      rw [← List.getD_eq_getElem?_getD] at hxr
      generalize xs.getD k 0 = x at *
      have hput' := Lib.hid hput
      have hset' := Lib.hid hset
      clear hput hset hb hk hc0
      go_wp2_with fail
      refine (bankPut_any g 2 (k : Int) x _ G wr hb'.out hxr.1 hxr.2).mono ?_
      rintro e w2 ⟨rfl, B3, M3⟩
      rw [hput'.out] at B3
      have hc2 := (M3.cell (o + k) (by have := hM.size; omega) (fun h => hbS (.inl h))).trans hc
      have K3 := hk'.out.mod M3 hh'.out
      have kc := K3.cell k (by omega)
      have kf := K3.frozen k
      have K4 := K3.set_ k x
      rw [hset'.out] at K4
      have M4 : Mod (fun i => RowsOf G i ∨ i = hw) W (w2.setCell ⟨hw, k, none⟩ (.int .u16 x)) := (hM.trans (M3.weak fun i hi => .inl hi)).setCell (p := ⟨hw, k, none⟩) (.inl (.inr rfl)) _
      have B4 : Bk (w2.setCell ⟨hw, k, none⟩ (.int .u16 x)) g (upd L0 2 (fillA (zs n) 0 xs (k + 1))) G := B3.keep (fun b hb => Below.heap_setCell _ _ _ _ (by
        rcases hb with rfl | hb
        · exact fun e => hgS.out (.inr e)
        · exact fun e => hh'.out (by rw [← show b = hw from e]; exact hb)))
      have K4' := Lib.hid K4
      have B4' := Lib.hid B4
      clear K4 B4 B3 K3
      go_wp2_with fail
      go_roundw
      case rel => exact ⟨k + 1, by omega, by omega, by go_num, B4'.out, K4'.out, M4⟩
      case measure => simp [intOf]; omega
    · have hR : (fillA (zs n) 0 xs k).length = n := hflen
      have hcase : (n1 ≤ k) ∨ (k < n1 ∧ n ≤ k) := by omega
      have hk := hk'.out
      have hb := hb'.out
      clear hlt hflen hb' hk'
      generalize fillA (zs n) 0 xs k = R0 at *
      have hdw := do_writes (upd L0 2 R0) ad l had (by rw [hly.out]; omega) (by rw [hly.out]; omega) (by rw [upd_same]; omega)
      rw [hly.out, upd_same, upd_upd, hR] at hdw
      have hdw' := Lib.hid hdw
      have hb' := Lib.hid hb
      have hk' := Lib.hid hk
      have hy1 := Lib.hid (((hy'.out.ext E02).mod hM (fun b o e h => hS'.out b (hy'.out.lt_of' (by omega) e) h)))
      have u1 : IntKind.i64.wrap (ad : Int) = ad := by rw [IntKind.wrap_i64]; omega
      have u2 : IntKind.i64.wrap ((ad : Int) + n2) = (ad : Int) + n2 := by rw [IntKind.wrap_i64]; omega
      clear hdw hb hk
      by_cases hfit : ad + n2 ≤ n
      · obtain ⟨d1, d2⟩ := hdw'.out.1 hfit
        have d3 := hdw'.out.2.2
        have f1 : decide ((ad : Int) + n2 ≤ n) = true := by simp; omega
        have d1' := Lib.hid d1
        have d2' := Lib.hid d2
        have d3' := Lib.hid d3
        clear d1 d2 d3 hdw'
        rcases hcase with hc | ⟨hca, hc⟩
        all_goals
          go_wp2_with fail
          refine (bankDo_any g 16 (ad : Int) (n2 : Int) 0 A2 n2 c2 l _ G wr hb'.out hy1.out hyr'.out (by unfold maxLen; omega)).mono ?_
          rw [d1'.out, d2'.out, d3'.out]
          rintro e w3 ⟨A3, n3, c3, rfl, g3, g3', r3, -, B3, M3⟩
          obtain rfl : n3 = 0 := r3.len.symm
          have K3 := hk'.out.mod M3 hh'.out
          have Q3 := heap_alloc_new w3 (.cells #[.int .i64 0, .slice A3 0 c3] 40)
          have X3 := (Ext.refl w3).goA (.cells #[.int .i64 0, .slice A3 0 c3] 40)
          have M4 : Mod (fun i => RowsOf G i ∨ i = hw) W (w3.alloc (.cells #[.int .i64 0, .slice A3 0 c3] 40)) := (hM.trans (M3.weak fun i hi => .inl hi)).alloc _
          have B4' := Lib.hid (B3.ext X3)
          have K4' := Lib.hid (K3.alloc (.cells #[.int .i64 0, .slice A3 0 c3] 40))
          have s3 : hw < w3.heap.size := K3.lt
          have hg3 := B3.lt
          have hG3 : Hid (∀ i, RowsOf G i → i < w3.heap.size) := Lib.hid (fun i h => B3.old (.inr h))
          have Q3' := Lib.hid Q3
          clear K3 Q3 X3 B3 M3 r3 g3 g3'
          go_wp2_with fail
          generalize hw3 : w3.heap.size = pb at *
          generalize w3.alloc (.cells #[.int .i64 0, .slice A3 0 c3] 40) = V at *
          go_loopw [16] (fun i wr => ∃ k : Nat, k ≤ n2 ∧ i = .int .i64 k ∧ Bk wr g (upd L0 2 (splice R0 ad l)) G ∧ Blk wr hw 34 .u16 (fillA R0 ad l k) ∧ wr.heap[pb]? = some (.cells #[.int .i64 0, .slice A3 0 c3] 40 (0, 0)) ∧ Mod (fun i => RowsOf G i ∨ i = hw) W wr) (fun i _ => n2 - (intOf i).toNat)
          case atStart => exact ⟨0, by omega, rfl, B4'.out, by rw [fillA_zero]; exact K4'.out, Q3'.out, M4⟩
          case round =>
            obtain ⟨j, hj, rfl, hb5, hk5, hq5, hM5⟩ := hrel
            have hb5' := Lib.hid hb5
            have hk5' := Lib.hid hk5
            have hq5' := Lib.hid hq5
            clear hb5 hk5 hq5
            by_cases hlt : j < n2
            · have hset := fillA_set R0 ad l j (by rw [hly.out]; exact hlt) (by omega)
              have hfl : (fillA R0 ad l j).length = n := by rw [fillA_length _ _ _ _ (by omega)]; exact hR
              obtain ⟨b, o, rfl, hbl, hc0⟩ := hy'.out.at_ hlt
              have hc2 := (hM5.cell (o + j) (by have := E02.size; omega) (hS'.out b hbl)).trans ((E02.cell (o + j) hbl).trans hc0)
              generalize l.getD j 0 = x at *
              have kc := hk5'.out.cell (ad + j) (by omega)
              have kf := hk5'.out.frozen (ad + j)
              have K6 := hk5'.out.set_ (ad + j) x
              rw [hset] at K6
              have u3 : IntKind.i64.wrap ((ad : Int) + j) = (ad : Int) + j := by rw [IntKind.wrap_i64]; omega
              have B6 := hb5'.out.keep (w' := wr.setCell ⟨hw, ad + j, none⟩ (.int .u16 x)) (fun b hb => Below.heap_setCell _ _ _ _ (by
                rcases hb with rfl | hb
                · exact fun e => hgS.out (.inr e)
                · exact fun e => hh'.out (by rw [← show b = hw from e]; exact hb)))
              have M6 : Mod (fun i => RowsOf G i ∨ i = hw) W (wr.setCell ⟨hw, ad + j, none⟩ (.int .u16 x)) := hM5.setCell (p := ⟨hw, ad + j, none⟩) (.inl (.inr rfl)) _
              have Q6 := (Below.heap_setCell wr ⟨hw, ad + j, none⟩ (.int .u16 x) pb (by simp; omega)).trans hq5'.out
              have K6' := Lib.hid K6
              have B6' := Lib.hid B6
              have Q6' := Lib.hid Q6
              clear K6 B6 Q6 hset hc0
              go_wp2_with fail
              go_roundw
              case rel => exact ⟨j + 1, by omega, by go_num, B6'.out, K6'.out, Q6'.out, M6⟩
              case measure => simp [intOf]; omega
            · obtain rfl : j = n2 := by omega
              have hk6 := hk5'.out
              rw [fillA_all _ _ _ _ (by rw [hly.out]; exact Nat.le_refl _)] at hk6
              have hRl : (splice R0 ad l).length = n := by rw [length_splice _ _ _ (by rw [hly.out]; omega)]; exact hR
              generalize splice R0 ad l = R1 at *
              have hk6' := Lib.hid hk6
              clear hk6
              go_wp2_with fail
              go_loop [17] (fun i => ∃ k : Nat, k ≤ n ∧ i = .int .i64 k) (fun i => n - (intOf i).toNat)
              case atStart => exact ⟨0, by omega, rfl⟩
              case round =>
                obtain ⟨z, hz, rfl⟩ := hrel
                by_cases hlt : z < n
                · obtain ⟨a1, a2⟩ := atB_row L0 R1 z (by omega)
                  have kc := hk6'.out.cell z (by omega)
                  generalize R1.getD z 0 = x at *
                  have a1' := Lib.hid a1
                  have a2' := Lib.hid a2
                  clear a1 a2
                  go_wp2_with fail
                  refine (bankAt_any g 2 (z : Int) _ G _ hb5'.out).mono ?_
                  rw [a1'.out, a2'.out]
                  rintro e w7 ⟨rfl, rfl⟩
                  go_wp2_with fail
                  go_round
                  case rel => exact ⟨z + 1, by omega, by go_num⟩
                  case measure => simp [intOf]; omega
                · obtain rfl : z = n := by omega
                  have hq := cellsAt hq5'.out
                  go_wp2_with fail
                  go_ret
                  exact ⟨rfl, E02.goM hM5 (fun i hi => by
                    rcases hi with h | h
                    · have := hrow'.out i h; omega
                    · have := E01.size; omega)⟩
      · obtain ⟨d1, d2⟩ := hdw'.out.2.1 hfit
        have d3 := hdw'.out.2.2
        have f1 : decide ((ad : Int) + n2 ≤ n) = false := by simp; omega
        generalize hcd : doC (upd L0 2 R0) 16 ad n2 0 l = code at *
        have hcd' := Lib.hid hcd
        have d1' := Lib.hid d1
        have d2' := Lib.hid d2
        have d3' := Lib.hid d3
        have d4 : (code == 0) = false := by simp; exact d1
        clear d1 d2 d3 hdw' hcd
        rcases hcase with hc | ⟨hca, hc⟩
        all_goals
          go_wp2_with fail
          refine (bankDo_any g 16 (ad : Int) (n2 : Int) 0 A2 n2 c2 l _ G wr hb'.out hy1.out hyr'.out (by unfold maxLen; omega)).mono ?_
          rw [hcd'.out, d2'.out, d3'.out]
          rintro e w3 ⟨A3, n3, c3, rfl, g3, g3', r3, -, B3, M3⟩
          obtain rfl : n3 = 0 := r3.len.symm
          have K3 := hk'.out.mod M3 hh'.out
          have Q3 := heap_alloc_new w3 (.cells #[.int .i64 code, .slice A3 0 c3] 40)
          have X3 := (Ext.refl w3).goA (.cells #[.int .i64 code, .slice A3 0 c3] 40)
          have M4 : Mod (fun i => RowsOf G i ∨ i = hw) W (w3.alloc (.cells #[.int .i64 code, .slice A3 0 c3] 40)) := (hM.trans (M3.weak fun i hi => .inl hi)).alloc _
          have B4' := Lib.hid (B3.ext X3)
          have K4' := Lib.hid (K3.alloc (.cells #[.int .i64 code, .slice A3 0 c3] 40))
          have s3 : hw < w3.heap.size := K3.lt
          have hg3 := B3.lt
          have hG3 : Hid (∀ i, RowsOf G i → i < w3.heap.size) := Lib.hid (fun i h => B3.old (.inr h))
          have Q3' := Lib.hid Q3
          clear K3 Q3 X3 B3 M3 r3 g3 g3'
          go_wp2_with fail
          generalize hw3 : w3.heap.size = pb at *
          generalize w3.alloc (.cells #[.int .i64 code, .slice A3 0 c3] 40) = V at *
          go_loop [16] (fun i => i = .int .i64 0) (fun _ => 0)
          case atStart => rfl
          case round =>
            obtain rfl := hrel
            generalize R0 = R1 at *
            go_wp2_with fail
            go_loop [17] (fun i => ∃ k : Nat, k ≤ n ∧ i = .int .i64 k) (fun i => n - (intOf i).toNat)
            case atStart => exact ⟨0, by omega, rfl⟩
            case round =>
              obtain ⟨z, hz, rfl⟩ := hrel
              by_cases hlt : z < n
              · obtain ⟨a1, a2⟩ := atB_row L0 R1 z (by omega)
                have kc := K4'.out.cell z (by omega)
                generalize R1.getD z 0 = x at *
                have a1' := Lib.hid a1
                have a2' := Lib.hid a2
                clear a1 a2
                go_wp2_with fail
                refine (bankAt_any g 2 (z : Int) _ G _ B4'.out).mono ?_
                rw [a1'.out, a2'.out]
                rintro e w7 ⟨rfl, rfl⟩
                go_wp2_with fail
                go_round
                case rel => exact ⟨z + 1, by omega, by go_num⟩
                case measure => simp [intOf]; omega
              · obtain rfl : z = n := by omega
                have hq := cellsAt Q3'.out
                go_wp2_with fail
                go_ret
                exact ⟨rfl, E02.goM M4 (fun i hi => by
                  rcases hi with h | h
                  · have := hrow'.out i h; omega
                  · have := E01.size; omega)⟩
theorem bankWrites_any (x ad : Int) (A A2 : Option Addr) (n1 c1 n2 c2 : Nat) (xs l : List Int) (w : World) (x0 : 0 ≤ x) (x1 : x ≤ 255) (a0 : 0 ≤ ad) (a1 : ad ≤ 65535) (hx : RdI w w.heap.size .u16 A n1 xs) (hr : ∀ j : Nat, 0 ≤ xs[j]?.getD 0 ∧ xs[j]?.getD 0 ≤ 65535) (hy : RdI w w.heap.size .u16 A2 n2 l) (hyr : ∀ j : Nat, 0 ≤ l[j]?.getD 0 ∧ l[j]?.getD 0 ≤ 65535) (hm : n1 ≤ maxLen) :
    Calls Try.prog 4 #[.int .u8 x, .slice A n1 c1, .int .u16 ad, .slice A2 n2 c2] w fun e w' => e = .returned (.bool true) ∧ Ext w w' := by
  obtain ⟨n, rfl⟩ := Int.eq_ofNat_of_zero_le x0
  obtain ⟨d, rfl⟩ := Int.eq_ofNat_of_zero_le a0
  unfold maxLen at hm
  by_cases h : n2 = 0 ∨ 123 < n2
  · exact bankWrites_off n A A2 n1 c1 n2 c2 d w h
  · exact bankWrites_on n d A A2 n1 c1 n2 c2 xs l w hx hr hy hyr (by omega) hm (by omega) (by omega) (by omega)
end Go.Proofs.Ytgeahfkhfpdlhaa
