
/- Layer 6: the law BankCoils, walked. -/
import Derived.Test.YtgeahfkhfpdlhaaBankCoilsLaw
namespace Go.Proofs.Ytgeahfkhfpdlhaa
open Go.RowKit

theorem RdI.put {w : World} {B n b o : Nat} {k : IntKind} {xs : List Int} (h : RdI w B k (some ⟨b, o, none⟩) n xs) {j : Nat} (hj : j < n) (v : Int) : RdI (w.setCell ⟨b, o + j, none⟩ (.int k v)) B k (some ⟨b, o, none⟩) n (xs.set j v) :=
  ⟨by rw [List.length_set]; exact h.1, fun hn => by
    obtain ⟨b', o', e, hb, hc⟩ := h.2 hn
    injection e with e; injection e with e1 e2; subst e1 e2
    refine ⟨_, _, rfl, hb, fun i hi => ?_⟩
    by_cases e : j = i
    · subst e
      rw [World.cell?_setCell_same w ⟨b, o + j, none⟩ _ (hc j hi), List.getD_eq_getElem?_getD, List.getElem?_set_self (by rw [h.1]; exact hj)]; rfl
    · rw [World.cell?_setCell_other w _ _ _ (fun h => e (by injection h; omega)), hc i hi, List.getD_eq_getElem?_getD, List.getD_eq_getElem?_getD, List.getElem?_set_ne e]⟩
theorem own_write {w : World} {base n : Nat} {e : TypeId} {k : IntKind} {v : Value} {xs : List Int} (h : w.ownsRow base e 1 v n (xs.map (Value.int k))) (hn : 0 < n) :
    ∃ b c, v = .slice (some ⟨b, 0, none⟩) n c ∧ (n ≤ c ∧ c ≤ maxLen) ∧ base ≤ b ∧ b < w.heap.size ∧ (∀ j, w.frozen? ⟨b, j, none⟩ = false) ∧ RdI w w.heap.size k (some ⟨b, 0, none⟩) n xs := by
  obtain ⟨A, c, rfl, hc, hr⟩ := own_rd h
  have h0 := h
  rcases h.2 with ⟨h1, _⟩ | ⟨g, cap, cur, h1, hb, hg, _⟩
  · injection h1 with _ h1 _; omega
  · injection h1 with h1 h2 h3
    subst h1
    exact ⟨g, c, rfl, hc, hb, (Array.getElem?_eq_some_iff.1 hg).1, fun j => by simp [World.frozen?, hg], hr⟩
set_option maxRecDepth 100000 in
set_option maxHeartbeats 6400000 in
theorem bankCoils_on (ad one : Nat) (vb : Bool) (A : Option Addr) (n1 c1 : Nat) (xs : List Int) (w : World) (hx : RdI w w.heap.size .u16 A n1 xs) (hr : ∀ j : Nat, 0 ≤ xs[j]?.getD 0 ∧ xs[j]?.getD 0 ≤ 65535)
    (had : ad ≤ 255) (hon : one ≤ 255) (h0 : 1 ≤ n1) (h1 : n1 ≤ 200) :
    Calls Try.prog 8 #[.int .u8 (ad : Int), .slice A n1 c1, .int .u8 (one : Int), .bool vb] w fun e w' => e = .returned (.bool true) ∧ Ext w w' := by
  have t2' : ((n1 : Int) == 0) = false := by simp; omega
  have t2 : (n1 == 0) = false := by simp; omega
  have t1' : decide (200 < (n1 : Int)) = false := by simp; omega
  have hx' := Lib.hid hx
  have hr' := Lib.hid hr
  have hlx := Lib.hid hx.len
  clear hx hr
  go_enter Try.func8, Try.ntmps8
  go_wp2_with fail
  refine (bankHead_any w).mono ?_
  rintro e w0 ⟨rfl, E0⟩
  go_wp2_with fail
  refine (bankNew_any 256 256 256 256 w0).mono ?_
  rintro e w1 ⟨g, G, rfl, B1, E1, hg⟩
  have E01 := E0.go E1
  have hrow' : Hid (∀ i, RowsOf G i → w.heap.size ≤ i ∧ i < w1.heap.size) := Lib.hid (fun i h => ⟨by obtain ⟨k, hk, rfl⟩ := h; have := B1.gt hk; have := E0.size; omega, B1.old (.inr h)⟩)
  have hL0 : ∃ L0, newL 256 256 256 256 = L0 ∧ L0 0 = zs 256 ∧ L0 1 = zs 256 ∧ L0 2 = zs 256 := ⟨_, rfl, rfl, rfl, rfl⟩
  obtain ⟨L0, hL0, hLe⟩ := hL0
  rw [hL0] at B1
  have B1' := Lib.hid B1
  have hLe' := Lib.hid hLe
  clear B1 hL0 hLe
  go_wp2_with fail
  go_loopw [11, 12] (fun u i wr => ∃ k : Nat, k ≤ n1 ∧ i = .int .i64 k ∧ wr.ownsRow w1.heap.size 34 1 u k (((xs.take k).map b1).map (Value.int .u16)) ∧ Ext w1 wr) (fun _ i _ => n1 - (intOf i).toNat)
  case atStart => exact ⟨0, by omega, rfl, by simpa using World.ownsRow_nil w1 w1.heap.size 34 1, Ext.refl _⟩
  case round =>
    obtain ⟨k, hk, rfl, own, hE⟩ := hrel
    have own' := Lib.hid own
    clear own
    by_cases hlt : k < n1
    · obtain ⟨b, o, rfl, hbl, hc0⟩ := hx'.out.at_ hlt
      have hc := (hE.cell (o + k) (by have := E01.size; omega)).trans ((E01.cell (o + k) hbl).trans hc0)
      have htk : (xs.take (k + 1)).map b1 = (xs.take k).map b1 ++ [b1 (xs.getD k 0)] := by
        have hkl : k < xs.length := by rw [hlx.out]; exact hlt
        rw [List.take_succ_eq_append_getElem hkl, List.map_append, List.getD_eq_getElem?_getD, List.getElem?_eq_getElem hkl]; rfl
      generalize xs.getD k 0 = x at *
      have htk' := Lib.hid htk
      have hb1 : bits .and .u16 x 1 = b1 x := rfl
      clear hc0 htk
      go_wp2_with (at_builtin; refine wpList_appI rfl (.tmp 52) (.tmp 58) _ rfl Try.underlying30 info_u16 (own'.out.alloc _) rfl (RdI.one _ _ _ _) rfl (by omega) (by omega) (by have := hE.size; simp; omega) ?_; intro v' w2 hown1 hg1 hat1)
      go_roundw
      case rel =>
        refine ⟨k + 1, by omega, by go_num, ?_, (hE.goA _).goG hg1 (fun i hi => (own'.out.lt i hi).1)⟩
        rw [htk'.out]
        exact hown1
      case measure => simp [intOf]; omega
    · obtain rfl : k = n1 := by omega
      have hl1 : (xs.take k).map b1 = xs.map b1 := by rw [List.take_of_length_le (by rw [hlx.out]; exact Nat.le_refl _)]
      have own2 := own'.out
      rw [hl1] at own2
      obtain ⟨hb, cc, rfl, hcc, hbb, hbl, hfz, rl⟩ := own_write own2 (by omega)
      have hln : (xs.map b1).length = k := by rw [List.length_map]; exact hlx.out
      have hlr : ∀ y ∈ xs.map b1, 0 ≤ y ∧ y ≤ 1 := fun y hy => by
        obtain ⟨z, hz, rfl⟩ := List.mem_map.1 hy
        obtain ⟨j, hj, rfl⟩ := List.getElem_of_mem hz
        have := hr'.out j
        rw [List.getElem?_eq_getElem hj] at this
        exact b1_range _ this.1 this.2
      clear own2 hl1 own'
      generalize xs.map b1 = l at *
      have hdw := do_coils L0 ad l had (by omega) (by omega) (fun y hy => (hlr y hy).2) (by rw [hLe'.out.1, zs_length])
      rw [hln, hLe'.out.1] at hdw
      have hdw' := Lib.hid hdw
      have hlr' := Lib.hid hlr
      have hln' := Lib.hid hln
      have hfz' := Lib.hid hfz
      have rl' := Lib.hid rl
      have hb1 := Lib.hid (B1'.out.ext hE)
      have hbr : ∀ i, RowsOf G i → i ≠ hb := fun i h => by have := (hrow'.out i h).2; omega
      have hbr' := Lib.hid hbr
      have hgl := B1'.out.lt
      have u1 : IntKind.i64.wrap (ad : Int) = ad := by rw [IntKind.wrap_i64]; omega
      have u2 : IntKind.i64.wrap ((ad : Int) + k) = (ad : Int) + k := by rw [IntKind.wrap_i64]; omega
      have u3 : IntKind.i64.wrap (one : Int) = one := by rw [IntKind.wrap_i64]; omega
      have hk1 : one % k < k := Nat.mod_lt _ (by omega)
      have hk2 : (one : Int) % (k : Int) = ((one % k : Nat) : Int) := by simp
      have hk3 : (one : Int).tmod (k : Int) = ((one % k : Nat) : Int) := by rw [Int.tmod_eq_emod_of_nonneg (by omega)]; exact hk2
      generalize one % k = kk at *
      have u4 : IntKind.i64.wrap (kk : Int) = kk := by rw [IntKind.wrap_i64]; omega
      have u5 : IntKind.i64.wrap ((ad : Int) + kk) = (ad : Int) + kk := by rw [IntKind.wrap_i64]; omega
      clear hdw hlr hfz rl hbr
      by_cases hfit : ad + k ≤ 256
      · have f1 : decide (256 < (ad : Int) + k) = false := by simp; omega
        obtain ⟨d1, d2⟩ := hdw'.out.1 hfit
        have d3 := hdw'.out.2.2
        have d1' := Lib.hid d1
        have d2' := Lib.hid d2
        have d3' := Lib.hid d3
        clear d1 d2 d3 hdw'
        cases vb
        · go_wp2_with fail
          refine (bankDo_any g 15 (ad : Int) (k : Int) 0 _ k cc l L0 G wr hb1.out rl'.out (rng_of (by omega) (by omega) (fun y hy => by have := hlr'.out y hy; omega)) (by unfold maxLen; omega)).mono ?_
          rw [d1'.out, d2'.out, d3'.out]
          rintro e w3 ⟨A3, n3, c3, rfl, g3, g3', r3, -, B3, M3⟩
          have Q3 := heap_alloc_new w3 (.cells #[.int .i64 0, .slice A3 n3 c3] 40)
          have hsl : (splice (zs 256) ad l).length = 256 := by rw [length_splice _ _ _ (by rw [hln'.out, zs_length]; omega), zs_length]
          have dl5 := do_coil (upd L0 0 (splice (zs 256) ad l)) (ad + kk) 0 (by omega) (by omega) (by rw [upd_same]; exact hsl)
          rw [upd_same, upd_upd, splice_one (by rw [hln'.out, zs_length]; omega) (by rw [hln'.out]; exact hk1), Int.natCast_add] at dl5
          have hl2 : (l.set kk 0).length = k := by rw [List.length_set]; exact hln'.out
          have hl2r : ∀ y ∈ l.set kk 0, 0 ≤ y ∧ y ≤ 1 := fun y hy => by
            rcases List.mem_or_eq_of_mem_set hy with h | h
            · exact hlr'.out y h
            · omega
          have X3 := ((Ext.refl w3).goA (.cells #[.int .i64 0, .slice A3 n3 c3] 40)).goA (.cells #[.int .u16 0] 34)
          have s3 := M3.size
          have B3' := Lib.hid (B3.ext X3)
          have Q3' := Lib.hid ((Below.heap_alloc _ (.cells #[.int .u16 0] 34) _ (by simp)).trans Q3)
          have dl5' := Lib.hid dl5
          have M3' : Mod (RowsOf G) wr ((w3.alloc (.cells #[.int .i64 0, .slice A3 n3 c3] 40)).alloc (.cells #[.int .u16 0] 34)) := M3.trans (Mod.ofBelow X3)
          have hl2' := Lib.hid hl2
          have hl2r' := Lib.hid hl2r
          clear B3 Q3 X3 r3 dl5 hsl hl2 hl2r
          go_wp2_with fail
          refine (bankDo_any g 5 ((ad : Int) + kk) 0 0 _ 1 1 [0] _ G _ B3'.out (by rw [alloc_size, alloc_size]; exact RdI.new [0] (by simp) rfl rfl) (rng_of (by omega) (by omega) (by simp)) (by unfold maxLen; omega)).mono ?_
          rintro e w5 ⟨A5, n5, c5, rfl, -, -, -, -, B5, M5⟩
          rw [dl5'.out] at B5
          have M35 := M3'.trans M5
          have s5 := M35.size
          have rl5 := rl'.out.mod M35 (fun b o e h => by injection e with e; injection e with e1; exact hbr'.out b h e1.symm)
          have hf5 : w5.frozen? ⟨hb, kk, none⟩ = false := (M35.frozen kk hbl (fun h => hbr'.out hb h rfl)).trans (hfz'.out kk)
          obtain ⟨bq, oq, eq, _, hc5⟩ := rl5.at_ (j := kk) hk1
          injection eq with eq; injection eq with eq1 eq2; subst eq1 eq2
          rw [Nat.zero_add] at hc5
          have P6 := rl5.put (j := kk) hk1 0
          rw [Nat.zero_add] at P6
          have M6 : Mod (fun i => i = hb) w5 (w5.setCell ⟨hb, kk, none⟩ (.int .u16 0)) := (Mod.refl (fun i => i = hb) w5).setCell (p := ⟨hb, kk, none⟩) (.inl rfl) _
          have B6 := B5.mod M6 (by omega) (fun j hj h => hbr'.out _ ⟨j, hj, rfl⟩ h)
          have Q5 := (M5.block w3.heap.size (lt_of_block Q3'.out) (fun h => by have := (hrow'.out _ h).2; have := hE.size; omega)).trans Q3'.out
          have Q6 := (M6.block w3.heap.size (lt_of_block Q5) (by omega)).trans Q5
          have P6' := Lib.hid P6
          have B6' := Lib.hid B6
          have Q6' := Lib.hid Q6
          have hsz6 : (w5.setCell ⟨hb, kk, none⟩ (.int .u16 0)).heap.size = w5.heap.size := setCell_size _ _ _
          clear P6 B6 Q5 Q6 B5 rl5
          go_wp2_with fail
          generalize w5.setCell ⟨hb, kk, none⟩ (.int .u16 0) = w6 at *
          obtain ⟨dr1, dr2, dr3⟩ := do_reads (upd L0 0 (splice (zs 256) ad (l.set kk 0))) ad k (by omega) (by omega) hfit (by rw [upd_same, length_splice _ _ _ (by rw [hl2'.out, zs_length]; omega), zs_length])
          have hcutl := splice_cut (l := zs 256) (xs := l.set kk 0) (a := ad) (by rw [hl2'.out, zs_length]; exact hfit)
          rw [hl2'.out] at hcutl
          rw [upd_same, hcutl] at dr3
          have hsum := splice_sum 256 ad (l.set kk 0)
          have hspl : (splice (zs 256) ad (l.set kk 0)).length = 256 := by rw [length_splice _ _ _ (by rw [hl2'.out, zs_length]; omega), zs_length]
          have hspr : ∀ y ∈ splice (zs 256) ad (l.set kk 0), 0 ≤ y ∧ y ≤ 1 := fun y hy => by
            unfold splice at hy
            rcases List.mem_append.1 hy with h | h
            · have := List.eq_of_mem_replicate (List.mem_of_mem_take h); omega
            · rcases List.mem_append.1 h with h | h
              · exact hl2r'.out y h
              · have := List.eq_of_mem_replicate (List.mem_of_mem_drop h); omega
          have dr1' := Lib.hid dr1
          have dr2' := Lib.hid dr2
          have dr3' := Lib.hid dr3
          refine (bankDo_any g 1 (ad : Int) (k : Int) 0 none 0 0 [] _ G w6 B6'.out (RdI.nil _) (by simp) (by decide)).mono ?_
          rw [dr1'.out, dr2'.out, dr3'.out]
          rintro e w7 ⟨A7, n7, c7, rfl, g7, g7', r7, fr7, B7, M7⟩
          clear dr1 dr2 dr3 dr1' dr2' dr3' hcutl
          generalize l.set kk 0 = l2 at *
          generalize splice (zs 256) ad l2 = R2 at *
          have X7 := (Ext.refl w7).goA (.cells #[.int .i64 0, .slice A7 n7 c7] 40)
          have hq7 : ¬ RowsOf G w3.heap.size := fun h => by have := (hrow'.out _ h).2; have := hE.size; omega
          have Q7 := (X7.block w3.heap.size (lt_of_block ((M7.block w3.heap.size (lt_of_block Q6'.out) hq7).trans Q6'.out))).trans ((M7.block w3.heap.size (lt_of_block Q6'.out) hq7).trans Q6'.out)
          have Z7 := heap_alloc_new w7 (.cells #[.int .i64 0, .slice A7 n7 c7] 40)
          have B8 := B7.ext X7
          have P8 := ((P6'.out.more (by rw [hsz6]; exact Nat.le_refl _)).mod M7 (fun b o e h => by injection e with e; injection e with e1; exact hbr'.out b h e1.symm)).ext X7
          have r8 := r7.ext X7
          have hMall : Ext w (w7.alloc (.cells #[.int .i64 0, .slice A7 n7 c7] 40)) := ((((E01.go hE).goM M35 (fun i hi => by have := hrow'.out i hi; omega)).goM M6 (fun i hi => by have := E01.size; omega)).goM M7 (fun i hi => by have := hrow'.out i hi; omega)).go X7
          have B8' := Lib.hid B8
          have P8' := Lib.hid P8
          have r8' := Lib.hid r8
          have Q7' := Lib.hid Q7
          have Z7' := Lib.hid Z7
          have hsum' := Lib.hid hsum
          have hspr' := Lib.hid hspr
          have hMall' := Lib.hid hMall
          have hspl' := Lib.hid hspl
          clear B7 B8 P8 r7 r8 Q7 Z7 hsum hspr hMall X7 M7 M6 M5 M3 M3' M35 P6' B6' Q6' hspl fr7 B3' Q3' dl5' hsz6 hq7 hc5 hf5
          go_wp2_with fail
          go_loop [17, 18] (fun s i => ∃ z : Nat, z ≤ 256 ∧ i = .int .i64 z ∧ s = .int .i64 ((R2.take z).sum)) (fun _ i => 256 - (intOf i).toNat)
          case atStart => exact ⟨0, by omega, rfl, by simp⟩
          case round =>
            obtain ⟨z, hz, rfl, rfl⟩ := hrel
            have hs0 := sum_range (l := R2.take z) (fun y hy => hspr'.out y (List.mem_of_mem_take hy))
            rw [List.length_take, hspl'.out] at hs0
            by_cases hlt : z < 256
            · have hts := take_sum (l := R2) (k := z) (by rw [hspl'.out]; exact hlt)
              have hx2 : 0 ≤ R2.getD z 0 ∧ R2.getD z 0 ≤ 1 := by
                have hzl : z < R2.length := by rw [hspl'.out]; exact hlt
                rw [List.getD_eq_getElem?_getD, List.getElem?_eq_getElem hzl]
                exact hspr'.out _ (List.getElem_mem _)
              obtain ⟨a1, a2⟩ := atB_of (upd L0 0 R2) 0 z (by omega) (by rw [upd_same, hspl'.out]; exact hlt)
              obtain ⟨a3, a4⟩ := atB_of (upd L0 0 R2) 1 z (by omega) (by rw [upd_other _ _ (by omega), hLe'.out.2.1, zs_length]; exact hlt)
              obtain ⟨a5, a6⟩ := atB_of (upd L0 0 R2) 2 z (by omega) (by rw [upd_other _ _ (by omega), hLe'.out.2.2, zs_length]; exact hlt)
              rw [upd_same] at a2
              rw [upd_other _ _ (by omega), hLe'.out.2.1] at a4
              rw [upd_other _ _ (by omega), hLe'.out.2.2] at a6
              have hz0 : (zs 256).getD z 0 = 0 := by unfold zs; rw [List.getD_eq_getElem?_getD, List.getElem?_replicate]; simp [hlt]
              rw [hz0] at a4 a6
              have hts' := Lib.hid hts
              have a1' := Lib.hid a1
              have a2' := Lib.hid a2
              have a3' := Lib.hid a3
              have a4' := Lib.hid a4
              have a5' := Lib.hid a5
              have a6' := Lib.hid a6
              generalize R2.getD z 0 = x at *
              generalize (R2.take z).sum = s at *
              have v1 : IntKind.i64.wrap x = x := by rw [IntKind.wrap_i64]; omega
              have v2 : IntKind.i64.wrap (s + x) = s + x := by rw [IntKind.wrap_i64]; omega
              clear hts a1 a2 a3 a4 a5 a6 hz0
              go_wp2_with fail
              refine (bankAt_any g 0 (z : Int) _ G _ B8'.out).mono ?_
              rw [show atB (upd L0 0 R2) 0 z = x from a2'.out, show spanB (upd L0 0 R2) 0 z 1 = true from a1'.out]
              rintro e w9 ⟨rfl, rfl⟩
              go_wp2_with fail
              refine (bankAt_any g 1 (z : Int) _ G _ B8'.out).mono ?_
              rw [show atB (upd L0 0 R2) 1 z = 0 from a4'.out, show spanB (upd L0 0 R2) 1 z 1 = true from a3'.out]
              rintro e w9 ⟨rfl, rfl⟩
              go_wp2_with fail
              refine (bankAt_any g 2 (z : Int) _ G _ B8'.out).mono ?_
              rw [show atB (upd L0 0 R2) 2 z = 0 from a6'.out, show spanB (upd L0 0 R2) 2 z 1 = true from a5'.out]
              rintro e w9 ⟨rfl, rfl⟩
              go_wp2_with fail
              go_round
              case rel => exact ⟨z + 1, by omega, by go_num, by rw [hts'.out]⟩
              case measure => simp [intOf]; omega
            · obtain rfl : z = 256 := by omega
              have hall : (R2.take 256).sum = l2.sum := by rw [List.take_of_length_le (by rw [hspl'.out]; exact Nat.le_refl _)]; exact hsum'.out
              rw [hall]
              clear hs0 hall
              go_wp2_with fail
              go_loop [17, 25] (fun s i => ∃ y : Nat, y ≤ k ∧ i = .int .i64 y ∧ s = .int .i64 (l2.sum - (l2.take y).sum)) (fun _ i => k - (intOf i).toNat)
              case atStart => exact ⟨0, by omega, rfl, by simp⟩
              case round =>
                obtain ⟨y, hy, rfl, rfl⟩ := hrel
                have hs1 := sum_range (l := l2) (fun z hz => hl2r'.out z hz)
                have hs2 := sum_range (l := l2.take y) (fun z hz => hl2r'.out z (List.mem_of_mem_take hz))
                rw [List.length_take, hl2'.out] at hs2
                rw [hl2'.out] at hs1
                by_cases hlt2 : y < k
                · have hts := take_sum (l := l2) (k := y) (by rw [hl2'.out]; exact hlt2)
                  have hx2 : 0 ≤ l2.getD y 0 ∧ l2.getD y 0 ≤ 1 := by
                    have hzl : y < l2.length := by rw [hl2'.out]; exact hlt2
                    rw [List.getD_eq_getElem?_getD, List.getElem?_eq_getElem hzl]
                    exact hl2r'.out _ (List.getElem_mem _)
                  obtain ⟨bz, oz, ez, _, hc9⟩ := P8'.out.at_ (j := y) hlt2
                  injection ez with ez; injection ez with ez1 ez2; subst ez1 ez2
                  rw [Nat.zero_add] at hc9
                  have hts' := Lib.hid hts
                  generalize l2.getD y 0 = x at *
                  generalize hss : (l2.take y).sum = s at *
                  generalize hst : l2.sum = t at *
                  have v1 : IntKind.i64.wrap x = x := by rw [IntKind.wrap_i64]; omega
                  have v2 : IntKind.i64.wrap (t - s - x) = t - s - x := by rw [IntKind.wrap_i64]; omega
                  have hss' := Lib.hid hss
                  clear hts hss hst
                  go_wp2_with fail
                  go_round
                  case rel => exact ⟨y + 1, by omega, by go_num, by rw [hts'.out, Int.sub_sub]⟩
                  case measure => simp [intOf]; omega
                · obtain rfl : y = k := by omega
                  rw [List.take_of_length_le (by rw [hl2'.out]; exact Nat.le_refl _), Int.sub_self]
                  have q7 := cellsAt Q7'.out
                  have z7 := cellsAt Z7'.out
                  clear hs1 hs2
                  go_wp2_with fail
                  refine (sameVals_any A7 _ n7 c7 y cc _ l2 l2 _ r8'.out P8'.out (Nat.le_trans g7 g7') (by unfold maxLen; omega)).mono ?_
                  rw [show decide (l2 = l2) = true from by simp]
                  rintro e w9 ⟨rfl, m9, rfl⟩
                  go_wp2_with fail
                  go_ret
                  exact ⟨rfl, hMall'.out.goD m9⟩
        · go_wp2_with fail
          refine (bankDo_any g 15 (ad : Int) (k : Int) 0 _ k cc l L0 G wr hb1.out rl'.out (rng_of (by omega) (by omega) (fun y hy => by have := hlr'.out y hy; omega)) (by unfold maxLen; omega)).mono ?_
          rw [d1'.out, d2'.out, d3'.out]
          rintro e w3 ⟨A3, n3, c3, rfl, g3, g3', r3, -, B3, M3⟩
          have Q3 := heap_alloc_new w3 (.cells #[.int .i64 0, .slice A3 n3 c3] 40)
          have hsl : (splice (zs 256) ad l).length = 256 := by rw [length_splice _ _ _ (by rw [hln'.out, zs_length]; omega), zs_length]
          have dl5 := do_coil (upd L0 0 (splice (zs 256) ad l)) (ad + kk) 1 (by omega) (by omega) (by rw [upd_same]; exact hsl)
          rw [upd_same, upd_upd, splice_one (by rw [hln'.out, zs_length]; omega) (by rw [hln'.out]; exact hk1), Int.natCast_add] at dl5
          have hl2 : (l.set kk 1).length = k := by rw [List.length_set]; exact hln'.out
          have hl2r : ∀ y ∈ l.set kk 1, 0 ≤ y ∧ y ≤ 1 := fun y hy => by
            rcases List.mem_or_eq_of_mem_set hy with h | h
            · exact hlr'.out y h
            · omega
          have X3 := ((Ext.refl w3).goA (.cells #[.int .i64 0, .slice A3 n3 c3] 40)).goA (.cells #[.int .u16 1] 34)
          have s3 := M3.size
          have B3' := Lib.hid (B3.ext X3)
          have Q3' := Lib.hid ((Below.heap_alloc _ (.cells #[.int .u16 1] 34) _ (by simp)).trans Q3)
          have dl5' := Lib.hid dl5
          have M3' : Mod (RowsOf G) wr ((w3.alloc (.cells #[.int .i64 0, .slice A3 n3 c3] 40)).alloc (.cells #[.int .u16 1] 34)) := M3.trans (Mod.ofBelow X3)
          have hl2' := Lib.hid hl2
          have hl2r' := Lib.hid hl2r
          clear B3 Q3 X3 r3 dl5 hsl hl2 hl2r
          go_wp2_with fail
          refine (bankDo_any g 5 ((ad : Int) + kk) 0 0 _ 1 1 [1] _ G _ B3'.out (by rw [alloc_size, alloc_size]; exact RdI.new [1] (by simp) rfl rfl) (rng_of (by omega) (by omega) (by simp)) (by unfold maxLen; omega)).mono ?_
          rintro e w5 ⟨A5, n5, c5, rfl, -, -, -, -, B5, M5⟩
          rw [dl5'.out] at B5
          have M35 := M3'.trans M5
          have s5 := M35.size
          have rl5 := rl'.out.mod M35 (fun b o e h => by injection e with e; injection e with e1; exact hbr'.out b h e1.symm)
          have hf5 : w5.frozen? ⟨hb, kk, none⟩ = false := (M35.frozen kk hbl (fun h => hbr'.out hb h rfl)).trans (hfz'.out kk)
          obtain ⟨bq, oq, eq, _, hc5⟩ := rl5.at_ (j := kk) hk1
          injection eq with eq; injection eq with eq1 eq2; subst eq1 eq2
          rw [Nat.zero_add] at hc5
          have P6 := rl5.put (j := kk) hk1 1
          rw [Nat.zero_add] at P6
          have M6 : Mod (fun i => i = hb) w5 (w5.setCell ⟨hb, kk, none⟩ (.int .u16 1)) := (Mod.refl (fun i => i = hb) w5).setCell (p := ⟨hb, kk, none⟩) (.inl rfl) _
          have B6 := B5.mod M6 (by omega) (fun j hj h => hbr'.out _ ⟨j, hj, rfl⟩ h)
          have Q5 := (M5.block w3.heap.size (lt_of_block Q3'.out) (fun h => by have := (hrow'.out _ h).2; have := hE.size; omega)).trans Q3'.out
          have Q6 := (M6.block w3.heap.size (lt_of_block Q5) (by omega)).trans Q5
          have P6' := Lib.hid P6
          have B6' := Lib.hid B6
          have Q6' := Lib.hid Q6
          have hsz6 : (w5.setCell ⟨hb, kk, none⟩ (.int .u16 1)).heap.size = w5.heap.size := setCell_size _ _ _
          clear P6 B6 Q5 Q6 B5 rl5
          go_wp2_with fail
          generalize w5.setCell ⟨hb, kk, none⟩ (.int .u16 1) = w6 at *
          obtain ⟨dr1, dr2, dr3⟩ := do_reads (upd L0 0 (splice (zs 256) ad (l.set kk 1))) ad k (by omega) (by omega) hfit (by rw [upd_same, length_splice _ _ _ (by rw [hl2'.out, zs_length]; omega), zs_length])
          have hcutl := splice_cut (l := zs 256) (xs := l.set kk 1) (a := ad) (by rw [hl2'.out, zs_length]; exact hfit)
          rw [hl2'.out] at hcutl
          rw [upd_same, hcutl] at dr3
          have hsum := splice_sum 256 ad (l.set kk 1)
          have hspl : (splice (zs 256) ad (l.set kk 1)).length = 256 := by rw [length_splice _ _ _ (by rw [hl2'.out, zs_length]; omega), zs_length]
          have hspr : ∀ y ∈ splice (zs 256) ad (l.set kk 1), 0 ≤ y ∧ y ≤ 1 := fun y hy => by
            unfold splice at hy
            rcases List.mem_append.1 hy with h | h
            · have := List.eq_of_mem_replicate (List.mem_of_mem_take h); omega
            · rcases List.mem_append.1 h with h | h
              · exact hl2r'.out y h
              · have := List.eq_of_mem_replicate (List.mem_of_mem_drop h); omega
          have dr1' := Lib.hid dr1
          have dr2' := Lib.hid dr2
          have dr3' := Lib.hid dr3
          refine (bankDo_any g 1 (ad : Int) (k : Int) 0 none 0 0 [] _ G w6 B6'.out (RdI.nil _) (by simp) (by decide)).mono ?_
          rw [dr1'.out, dr2'.out, dr3'.out]
          rintro e w7 ⟨A7, n7, c7, rfl, g7, g7', r7, fr7, B7, M7⟩
          clear dr1 dr2 dr3 dr1' dr2' dr3' hcutl
          generalize l.set kk 1 = l2 at *
          generalize splice (zs 256) ad l2 = R2 at *
          have X7 := (Ext.refl w7).goA (.cells #[.int .i64 0, .slice A7 n7 c7] 40)
          have hq7 : ¬ RowsOf G w3.heap.size := fun h => by have := (hrow'.out _ h).2; have := hE.size; omega
          have Q7 := (X7.block w3.heap.size (lt_of_block ((M7.block w3.heap.size (lt_of_block Q6'.out) hq7).trans Q6'.out))).trans ((M7.block w3.heap.size (lt_of_block Q6'.out) hq7).trans Q6'.out)
          have Z7 := heap_alloc_new w7 (.cells #[.int .i64 0, .slice A7 n7 c7] 40)
          have B8 := B7.ext X7
          have P8 := ((P6'.out.more (by rw [hsz6]; exact Nat.le_refl _)).mod M7 (fun b o e h => by injection e with e; injection e with e1; exact hbr'.out b h e1.symm)).ext X7
          have r8 := r7.ext X7
          have hMall : Ext w (w7.alloc (.cells #[.int .i64 0, .slice A7 n7 c7] 40)) := ((((E01.go hE).goM M35 (fun i hi => by have := hrow'.out i hi; omega)).goM M6 (fun i hi => by have := E01.size; omega)).goM M7 (fun i hi => by have := hrow'.out i hi; omega)).go X7
          have B8' := Lib.hid B8
          have P8' := Lib.hid P8
          have r8' := Lib.hid r8
          have Q7' := Lib.hid Q7
          have Z7' := Lib.hid Z7
          have hsum' := Lib.hid hsum
          have hspr' := Lib.hid hspr
          have hMall' := Lib.hid hMall
          have hspl' := Lib.hid hspl
          clear B7 B8 P8 r7 r8 Q7 Z7 hsum hspr hMall X7 M7 M6 M5 M3 M3' M35 P6' B6' Q6' hspl fr7 B3' Q3' dl5' hsz6 hq7 hc5 hf5
          go_wp2_with fail
          go_loop [17, 18] (fun s i => ∃ z : Nat, z ≤ 256 ∧ i = .int .i64 z ∧ s = .int .i64 ((R2.take z).sum)) (fun _ i => 256 - (intOf i).toNat)
          case atStart => exact ⟨0, by omega, rfl, by simp⟩
          case round =>
            obtain ⟨z, hz, rfl, rfl⟩ := hrel
            have hs0 := sum_range (l := R2.take z) (fun y hy => hspr'.out y (List.mem_of_mem_take hy))
            rw [List.length_take, hspl'.out] at hs0
            by_cases hlt : z < 256
            · have hts := take_sum (l := R2) (k := z) (by rw [hspl'.out]; exact hlt)
              have hx2 : 0 ≤ R2.getD z 0 ∧ R2.getD z 0 ≤ 1 := by
                have hzl : z < R2.length := by rw [hspl'.out]; exact hlt
                rw [List.getD_eq_getElem?_getD, List.getElem?_eq_getElem hzl]
                exact hspr'.out _ (List.getElem_mem _)
              obtain ⟨a1, a2⟩ := atB_of (upd L0 0 R2) 0 z (by omega) (by rw [upd_same, hspl'.out]; exact hlt)
              obtain ⟨a3, a4⟩ := atB_of (upd L0 0 R2) 1 z (by omega) (by rw [upd_other _ _ (by omega), hLe'.out.2.1, zs_length]; exact hlt)
              obtain ⟨a5, a6⟩ := atB_of (upd L0 0 R2) 2 z (by omega) (by rw [upd_other _ _ (by omega), hLe'.out.2.2, zs_length]; exact hlt)
              rw [upd_same] at a2
              rw [upd_other _ _ (by omega), hLe'.out.2.1] at a4
              rw [upd_other _ _ (by omega), hLe'.out.2.2] at a6
              have hz0 : (zs 256).getD z 0 = 0 := by unfold zs; rw [List.getD_eq_getElem?_getD, List.getElem?_replicate]; simp [hlt]
              rw [hz0] at a4 a6
              have hts' := Lib.hid hts
              have a1' := Lib.hid a1
              have a2' := Lib.hid a2
              have a3' := Lib.hid a3
              have a4' := Lib.hid a4
              have a5' := Lib.hid a5
              have a6' := Lib.hid a6
              generalize R2.getD z 0 = x at *
              generalize (R2.take z).sum = s at *
              have v1 : IntKind.i64.wrap x = x := by rw [IntKind.wrap_i64]; omega
              have v2 : IntKind.i64.wrap (s + x) = s + x := by rw [IntKind.wrap_i64]; omega
              clear hts a1 a2 a3 a4 a5 a6 hz0
              go_wp2_with fail
              refine (bankAt_any g 0 (z : Int) _ G _ B8'.out).mono ?_
              rw [show atB (upd L0 0 R2) 0 z = x from a2'.out, show spanB (upd L0 0 R2) 0 z 1 = true from a1'.out]
              rintro e w9 ⟨rfl, rfl⟩
              go_wp2_with fail
              refine (bankAt_any g 1 (z : Int) _ G _ B8'.out).mono ?_
              rw [show atB (upd L0 0 R2) 1 z = 0 from a4'.out, show spanB (upd L0 0 R2) 1 z 1 = true from a3'.out]
              rintro e w9 ⟨rfl, rfl⟩
              go_wp2_with fail
              refine (bankAt_any g 2 (z : Int) _ G _ B8'.out).mono ?_
              rw [show atB (upd L0 0 R2) 2 z = 0 from a6'.out, show spanB (upd L0 0 R2) 2 z 1 = true from a5'.out]
              rintro e w9 ⟨rfl, rfl⟩
              go_wp2_with fail
              go_round
              case rel => exact ⟨z + 1, by omega, by go_num, by rw [hts'.out]⟩
              case measure => simp [intOf]; omega
            · obtain rfl : z = 256 := by omega
              have hall : (R2.take 256).sum = l2.sum := by rw [List.take_of_length_le (by rw [hspl'.out]; exact Nat.le_refl _)]; exact hsum'.out
              rw [hall]
              clear hs0 hall
              go_wp2_with fail
              go_loop [17, 25] (fun s i => ∃ y : Nat, y ≤ k ∧ i = .int .i64 y ∧ s = .int .i64 (l2.sum - (l2.take y).sum)) (fun _ i => k - (intOf i).toNat)
              case atStart => exact ⟨0, by omega, rfl, by simp⟩
              case round =>
                obtain ⟨y, hy, rfl, rfl⟩ := hrel
                have hs1 := sum_range (l := l2) (fun z hz => hl2r'.out z hz)
                have hs2 := sum_range (l := l2.take y) (fun z hz => hl2r'.out z (List.mem_of_mem_take hz))
                rw [List.length_take, hl2'.out] at hs2
                rw [hl2'.out] at hs1
                by_cases hlt2 : y < k
                · have hts := take_sum (l := l2) (k := y) (by rw [hl2'.out]; exact hlt2)
                  have hx2 : 0 ≤ l2.getD y 0 ∧ l2.getD y 0 ≤ 1 := by
                    have hzl : y < l2.length := by rw [hl2'.out]; exact hlt2
                    rw [List.getD_eq_getElem?_getD, List.getElem?_eq_getElem hzl]
                    exact hl2r'.out _ (List.getElem_mem _)
                  obtain ⟨bz, oz, ez, _, hc9⟩ := P8'.out.at_ (j := y) hlt2
                  injection ez with ez; injection ez with ez1 ez2; subst ez1 ez2
                  rw [Nat.zero_add] at hc9
                  have hts' := Lib.hid hts
                  generalize l2.getD y 0 = x at *
                  generalize hss : (l2.take y).sum = s at *
                  generalize hst : l2.sum = t at *
                  have v1 : IntKind.i64.wrap x = x := by rw [IntKind.wrap_i64]; omega
                  have v2 : IntKind.i64.wrap (t - s - x) = t - s - x := by rw [IntKind.wrap_i64]; omega
                  have hss' := Lib.hid hss
                  clear hts hss hst
                  go_wp2_with fail
                  go_round
                  case rel => exact ⟨y + 1, by omega, by go_num, by rw [hts'.out, Int.sub_sub]⟩
                  case measure => simp [intOf]; omega
                · obtain rfl : y = k := by omega
                  rw [List.take_of_length_le (by rw [hl2'.out]; exact Nat.le_refl _), Int.sub_self]
                  have q7 := cellsAt Q7'.out
                  have z7 := cellsAt Z7'.out
                  clear hs1 hs2
                  go_wp2_with fail
                  refine (sameVals_any A7 _ n7 c7 y cc _ l2 l2 _ r8'.out P8'.out (Nat.le_trans g7 g7') (by unfold maxLen; omega)).mono ?_
                  rw [show decide (l2 = l2) = true from by simp]
                  rintro e w9 ⟨rfl, m9, rfl⟩
                  go_wp2_with fail
                  go_ret
                  exact ⟨rfl, hMall'.out.goD m9⟩
      · have f1 : decide (256 < (ad : Int) + k) = true := by simp; omega
        have d1' := Lib.hid (hdw'.out.2.1 hfit)
        clear hdw'
        go_wp2_with fail
        refine (bankDo_any g 15 (ad : Int) (k : Int) 0 _ k cc l L0 G wr hb1.out rl'.out (rng_of (by omega) (by omega) (fun y hy => by have := hlr'.out y hy; omega)) (by unfold maxLen; omega)).mono ?_
        rw [d1'.out]
        rintro e w3 ⟨A3, n3, c3, rfl, g3, g3', r3, -, B3, M3⟩
        have q3 := cellsAt (heap_alloc_new w3 (.cells #[.int .i64 2, .slice A3 n3 c3] 40))
        clear B3
        go_wp2_with fail
        go_ret
        exact ⟨rfl, ((E01.go hE).goM M3 (fun i hi => by have := hrow'.out i hi; omega)).goA _⟩
set_option maxRecDepth 100000 in
set_option maxHeartbeats 3200000 in
theorem bankCoils_off (ad one : Int) (vb : Bool) (A : Option Addr) (n1 c1 : Nat) (w : World) (h : n1 = 0 ∨ 200 < n1) :
    Calls Try.prog 8 #[.int .u8 ad, .slice A n1 c1, .int .u8 one, .bool vb] w fun e w' => e = .returned (.bool true) ∧ Ext w w' := by
  rcases h with rfl | h
  all_goals
    go_enter Try.func8, Try.ntmps8
    go_wp2_with fail
    refine (bankHead_any w).mono ?_
    rintro e w0 ⟨rfl, E0⟩
    go_wp2_with fail
    refine (bankNew_any 256 256 256 256 w0).mono ?_
    rintro e w1 ⟨g, G, rfl, B1, E1, hg⟩
    clear B1
    go_wp2_with fail
    go_ret
    exact ⟨rfl, E0.go E1⟩
theorem bankCoils_any (ad one : Int) (vb : Bool) (A : Option Addr) (n1 c1 : Nat) (xs : List Int) (w : World) (hx : RdI w w.heap.size .u16 A n1 xs) (hr : ∀ j : Nat, 0 ≤ xs[j]?.getD 0 ∧ xs[j]?.getD 0 ≤ 65535)
    (a0 : 0 ≤ ad) (a1 : ad ≤ 255) (o0 : 0 ≤ one) (o1 : one ≤ 255) :
    Calls Try.prog 8 #[.int .u8 ad, .slice A n1 c1, .int .u8 one, .bool vb] w fun e w' => e = .returned (.bool true) ∧ Ext w w' := by
  obtain ⟨a, rfl⟩ := Int.eq_ofNat_of_zero_le a0
  obtain ⟨o, rfl⟩ := Int.eq_ofNat_of_zero_le o0
  by_cases h : n1 = 0 ∨ 200 < n1
  · exact bankCoils_off a o vb A n1 c1 w h
  · exact bankCoils_on a o vb A n1 c1 xs w hx hr (by omega) (by omega) (by omega) (by omega)
end Go.Proofs.Ytgeahfkhfpdlhaa
