/- Layer 24, the law FieldDue: the walk. -/
import Derived.Test.YtgagpalffdgjnaaG46f
import Derived.Test.YtgagpalffdgjnaaG15
namespace Go.Proofs.Ytgagpalffdgjnaa
open Go.RowKit

/-- Block g is just these bools. -/
def BlkB (W : World) (g : Nat) (bs : List Bool) : Prop := W.heap[g]? = some (.cells (bs.map Value.bool).toArray 4 (0, 0))
theorem BlkB.lt {W : World} {g : Nat} {bs : List Bool} (h : BlkB W g bs) : g < W.heap.size := lt_of_block h
theorem BlkB.cell {W : World} {g : Nat} {bs : List Bool} (h : BlkB W g bs) {j : Nat} (hj : j < bs.length) : W.cell? ⟨g, j, none⟩ = some (.bool (bs.getD j false)) := by
  rw [cellsAt h]
  simp [hj]
theorem BlkB.set_ {W : World} {g : Nat} {bs : List Bool} (h : BlkB W g bs) (j : Nat) (b : Bool) : BlkB (W.setCell ⟨g, j, none⟩ (.bool b)) g (bs.set j b) := by
  unfold BlkB
  rw [sets_block h]
  congr 2
  apply Array.ext'
  simp [List.map_set]
theorem repB (n : Nat) : Array.replicate n (Value.bool false) = ((List.replicate n false).map Value.bool).toArray := by simp
theorem madeB (n : Nat) : madeCells (Value.bool false).cells n = Array.replicate n (Value.bool false) := by
  apply Array.ext_getElem?
  intro i
  by_cases h : i < n
  · simp [madeCells, Value.cells, h, Nat.mod_one]
  · simp [madeCells, Value.cells, h]
theorem info_bool : (Try.prog.info? 4).map (fun i => (i.zero, i.size, i.bytes)) = some (some (.bool false), 1, 1) := by kernel_rfl
theorem run_mkB (n : Nat) (hn : n ≤ 1000000) (w : World) :
    (Instr.makeSlice 22 (.int .i64 (n : Int)) (.int .i64 (n : Int))).run Try.prog w = .ok (.slice (some ⟨w.heap.size, 0, none⟩) n n) (w.alloc (.cells (Array.replicate n (Value.bool false)) 4)) := by
  obtain ⟨i, h1, h2, h3, h4⟩ := info_parts info_bool
  have := run_make (P := Try.prog) w 22 4 i _ Try.underlying22 h1 h2 .i64 .i64 (n : Int) (n : Int) (by omega) (by omega) (by rw [h4]; omega) (by omega)
  rw [h3] at this
  simpa only [Int.toNat_natCast, Nat.mul_one, madeB] using this
/-- Who has come, by now; in the midst of a round the first k by the new time. -/
def cameL (ds : List Int) (now now' : Int) (k m : Nat) : List Bool := (List.range m).map fun i => decide (1 + ds.getD i 0 ≤ if i < k then now' else now)
theorem cameL_len (ds : List Int) (now now' : Int) (k m : Nat) : (cameL ds now now' k m).length = m := by simp [cameL]
theorem cameL_at {ds : List Int} {now now' : Int} {k m i : Nat} (h : i < (cameL ds now now' k m).length) : (cameL ds now now' k m)[i] = decide (1 + ds.getD i 0 ≤ if i < k then now' else now) := by
  simp [cameL]
theorem cameL_get {ds : List Int} {now now' : Int} {k m i : Nat} (hi : i < m) : (cameL ds now now' k m).getD i false = decide (1 + ds.getD i 0 ≤ if i < k then now' else now) := by
  unfold cameL
  rw [List.getD_eq_getElem?_getD, List.getElem?_map, List.getElem?_range hi]
  rfl
theorem cameL_yes {ds : List Int} {now now' : Int} {k m : Nat} (h : 1 + ds.getD k 0 ≤ now') : (cameL ds now now' k m).set k true = cameL ds now now' (k + 1) m := by
  apply List.ext_getElem
  · simp [cameL]
  · intro i h1 h2
    have hi : i < m := by simpa [cameL] using h2
    rw [List.getElem_set, cameL_at, cameL_at]
    by_cases e : k = i
    · subst e; rw [if_pos rfl, if_pos (by omega)]; simpa using h
    · rw [if_neg e]
      by_cases e2 : i < k
      · rw [if_pos e2, if_pos (by omega)]
      · rw [if_neg e2, if_neg (by omega)]
theorem cameL_no {ds : List Int} {now now' : Int} {k m : Nat} (hn : now ≤ now') (h : selD ds now now' k = false) : cameL ds now now' k m = cameL ds now now' (k + 1) m := by
  apply List.ext_getElem
  · simp [cameL]
  · intro i h1 h2
    rw [cameL_at, cameL_at]
    by_cases e : i = k
    · subst e
      rw [if_neg (by omega), if_pos (by omega)]
      unfold selD at h
      rw [Bool.and_eq_false_iff] at h
      rcases h with h | h
      · have h : 1 + ds.getD i 0 ≤ now := by simpa using h
        simp only [decide_eq_decide]; omega
      · have h : ¬ 1 + ds.getD i 0 ≤ now' := by simpa using h
        simp only [decide_eq_decide]; omega
    · by_cases e2 : i < k
      · rw [if_pos e2, if_pos (by omega)]
      · rw [if_neg e2, if_neg (by omega)]
theorem cameL_all (ds : List Int) (now now' : Int) (m : Nat) : cameL ds now now' m m = cameL ds now' now' 0 m := by
  apply List.ext_getElem
  · simp [cameL]
  · intro i h1 h2
    have hi : i < m := by simpa [cameL] using h2
    rw [cameL_at, cameL_at, if_pos hi, if_neg (by omega)]
theorem cameL_turn (ds : List Int) (now a b : Int) (m : Nat) : cameL ds now a 0 m = cameL ds now b 0 m := by
  unfold cameL
  simp
theorem cameL_none {ds : List Int} (hd : ∀ k, 0 ≤ ds.getD k 0) (m : Nat) : List.replicate m false = cameL ds 0 0 0 m := by
  apply List.ext_getElem
  · simp [cameL]
  · intro i h1 h2
    have := hd i
    rw [List.getElem_replicate, cameL_at, if_neg (by omega)]
    symm
    rw [decide_eq_false_iff_not]
    omega
theorem BlkB.is {W : World} {g : Nat} {bs : List Bool} (h : BlkB W g bs) : Is W g 4 := ⟨_, _, h⟩
theorem BlkB.not8 {W : World} {g o B n : Nat} {bs : List Bool} {A : Option Addr} {xs : List Int} {k : IntKind} (h : BlkB W g bs) (r : RdI W B k A n xs) (hn : 0 < n) : A ≠ some ⟨g, o, none⟩ := fun e => by
  obtain ⟨b, o', e', _, hc⟩ := r.2 hn
  rw [e] at e'
  simp only [Option.some.injEq, Addr.mk.injEq, and_true] at e'
  obtain ⟨rfl, rfl⟩ := e'
  have h1 := hc 0 hn
  rw [Nat.add_zero, cellsAt h] at h1
  simp at h1
section
variable {w0 w w' : World} {T : Nat → Prop} {f g : Nat} {dev : List (Int × Int)} {F : Fp} {bs : List Bool} {v : Value} {base : Nat} {os : List (List Int)}
theorem FdIn.offB (h : FdIn w0 w T f dev F) (hb : BlkB w g bs) : ¬ T g := by
  obtain ⟨U, ⟨M, hm, rfl, rfl⟩, _, _⟩ := h
  exact hm.offT hb.is (by decide) (by decide) (by decide) (by decide)
theorem FdIn.farB (h : FdIn w0 w T f dev F) (hb : BlkB w g bs) (hg : w0.heap.size ≤ g) (m : Mod (fun b => b = g) w w') : FdIn w0 w' T f dev F := by
  obtain ⟨U, ⟨M, hm, rfl, rfl⟩, E, up⟩ := h
  refine ⟨_, ⟨M, hm.keep (fun b hU => m.block b (hm.lt hU) ?_) m.size, rfl, rfl⟩, E.goM m (fun b hb => by omega), up⟩
  rintro rfl
  rcases hU with hU | rfl | hU | ⟨i, hi, rfl⟩ | ⟨j, hj, rfl | ⟨r, hr, hn, o, e⟩⟩
  · exact hm.offT hb.is (by decide) (by decide) (by decide) (by decide) hU
  · exact hm.notMap hb.is rfl
  · exact (hm.isB hU).ne hb.is (by decide) rfl
  · exact (hm.isg hi).ne hb.is (by decide) rfl
  · exact (hm.isT hj).ne hb.is (by decide) rfl
  · exact hb.not8 (hm.an j hj r hr).rd hn e
theorem OutAt.farB (h : OutAt w T base v os) (hb : BlkB w g bs) (m : Mod (fun b => b = g) w w') : OutAt w' T base v os := by
  obtain ⟨rs, e, hrow, hok, hoff⟩ := h
  refine ⟨rs, e, own_keep24 hrow fun b hh => m.block b (own_is hrow hh).lt (fun e2 => ?_), fun r hr => ⟨(hok r hr).rd.modS (fun hn b o e2 e3 => ?_) m, (hok r hr).nc, (hok r hr).cm, (hok r hr).off⟩, hoff⟩
  · subst e2; exact (own_is hrow hh).ne hb.is (by decide) rfl
  · subst e3; exact hb.not8 (hok r hr).rd hn e2
theorem BlkB.keep (h : BlkB w g bs) (hk : w'.heap[g]? = w.heap[g]?) : BlkB w' g bs := hk.trans h
theorem BlkB.ext (h : BlkB w g bs) (E : Ext w w') : BlkB w' g bs := h.keep (E.block _ h.lt)
end
section
variable (line : Int) (A1 A2 : Option Addr) (n1 c1 n2 c2 : Nat) (ds ss : List Int) (w : World)
set_option maxRecDepth 100000 in
set_option maxHeartbeats 6400000 in
theorem fieldDue_any (l0 : 0 ≤ line) (hx : RdI w w.heap.size .u8 A1 n1 ds) (hd : ByteL ds) (hy : RdI w w.heap.size .u8 A2 n2 ss) (hs : ByteL ss) :
    Calls Try.prog 8 #[.int .u8 line, .slice A1 n1 c1, .slice A2 n2 c2] w fun e w' => e = .returned (.bool true) ∧ Ext w w' := by
  obtain ⟨j, hj, hjl⟩ : ∃ j : Nat, j < 2 ∧ line.tmod 2 = (j : Int) := ⟨(line % 2).toNat, by omega, by rw [Int.tmod_eq_emod_of_nonneg l0]; omega⟩
  have hx' := Lib.hid hx
  have hy' := Lib.hid hy
  have hd' := Lib.hid hd
  have hs' := Lib.hid hs
  clear hx hy hd hs
  go_enter Try.func8, Try.ntmps8
  go_wp2_with fail
  refine (head24_any w).mono ?_
  rintro e w1 ⟨rfl, E1⟩
  go_wp2_with fail
  have PD := heap_alloc_new w1 (.cells #[.string { data := #[] }, .int .i64 (j : Int), .int .i64 1] 65)
  have hdv : RdDv (w1.alloc (.cells #[.string { data := #[] }, .int .i64 (j : Int), .int .i64 1] 65)) (some ⟨w1.heap.size, 0, none⟩) 1 [((j : Int), 1)] := by
    refine ⟨rfl, fun k hk => ?_⟩
    obtain rfl : k = 0 := by simpa using hk
    exact ⟨_, _, _, rfl, by simp, cellsAt PD 0, cellsAt PD 1, cellsAt PD 2, wf_i64 (x := (j : Int)) (by omega) (by omega), rfl⟩
  have E0 : Ext w (w1.alloc (.cells #[.string { data := #[] }, .int .i64 (j : Int), .int .i64 1] 65)) := E1.goA _
  have hnew := newIn _ 1 1 [((j : Int), 1)] _ hdv (by omega) (by omega)
  have E0' := Lib.hid E0
  clear PD hdv E0 E1
  generalize hw0 : w1.alloc (.cells #[.string { data := #[] }, .int .i64 (j : Int), .int .i64 1] 65) = w0 at *
  clear hw0
  refine hnew.mono ?_
  rintro e w2 ⟨f, T, rfl, h2⟩
  have E2 := Lib.hid (E0'.out.go h2.world)
  have h2' := Lib.hid h2
  clear h2 hnew
  by_cases hn1 : 60 < n1
  · have d1 : decide ((60 : Int) < (n1 : Int)) = true := by simp; omega
    go_wp2_with fail
    go_ret
    exact ⟨rfl, E2.out⟩
  have d1 : decide ((60 : Int) < (n1 : Int)) = false := by simp; omega
  by_cases hn2 : 200 < n2
  · have d2 : decide ((200 : Int) < (n2 : Int)) = true := by simp; omega
    go_wp2_with fail
    go_ret
    exact ⟨rfl, E2.out⟩
  have d2 : decide ((200 : Int) < (n2 : Int)) = false := by simp; omega
  have hdk : ∀ k, 0 ≤ ds.getD k 0 ∧ ds.getD k 0 ≤ 255 := fun k => by rw [List.getD_eq_getElem?_getD]; exact hd'.out k
  have hdk' := Lib.hid hdk
  have hinit : StD newF j ds (List.range 0) := ⟨rfl, rfl, by simp [newF, newL, sz4, zs_length]; decide⟩
  have hinit' := Lib.hid hinit
  clear hdk hinit
  go_wp2_with fail
  go_loopw [10] (fun i wr => ∃ k : Nat, k ≤ n1 ∧ i = .int .i64 k ∧ ∃ T F, FdIn w0 wr T f [((j : Int), 1)] F ∧ FOk F k ∧ StD F j ds (List.range k)) (fun i _ => n1 - (intOf i).toNat)
  case atStart => exact ⟨0, by omega, rfl, T, newF, h2'.out, FOk.new, hinit'.out⟩
  case round =>
    obtain ⟨k, hk, rfl, Tr, Fr, hF, hok, hst⟩ := hrel
    have hF' := Lib.hid hF
    have hok' := Lib.hid hok
    have hst' := Lib.hid hst
    have Er := Lib.hid (E0'.out.go hF.world)
    clear hF hok hst
    by_cases hkn : k < n1
    · have e1 : decide ((k : Int) < (n1 : Int)) = true := by simp; omega
      have e2 : (k : Int) < (n1 : Int) := by omega
      obtain ⟨b, o, rfl, _, y0⟩ := (hx'.out.ext Er.out).at_ hkn
      have hdd := hdk'.out k
      have hstep := Lib.hid (ask_due hj hst'.out (by omega) hdd)
      generalize ds.getD k 0 = d at *
      have wd : IntKind.i64.wrap d = d := by rw [IntKind.wrap_i64]; omega
      go_wp2_with fail
      refine (faultIn hF'.out (j : Int) 4 d).mono ?_
      rintro e w3 ⟨rfl, T3, h3, _, _⟩
      have h3' := Lib.hid h3
      clear h3
      go_wp2_with fail
      refine (framed_any j 0 1 5 (k : Int) 0 0 (by omega) (by omega) (rd_one _) word16_one (by unfold maxLen; omega)).mono ?_
      rintro e w4 ⟨A4, n4, c4, rfl, g1, g2, r4, E4, f4⟩
      have E34 : Ext w3 w4 := ((Ext.refl w3).goA _).go E4
      have h4 := h3'.out.ext E34
      have o4 := h3'.out.off n4 (A := A4) (fun b o e => by have := f4 b o e; simp only [alloc_size] at this; omega)
      have l4 := r4.len
      have ln4 := frameL_len j 0 1 (putL 5 (k : Int) 0 0 [1])
      go_wp2_with fail
      refine (askIn h4 (hok'.out.fault _ _ _) (by omega) r4 o4 (frame_bytes 0 (by omega) (by omega) (putL_bytes 5 (k : Int) 0 0 [1])) g1 g2 (by omega) (j : Int) 0).mono ?_
      rintro e w5 ⟨rfl, T5, h5, _, _⟩
      have h5' := Lib.hid h5
      have hok5 := Lib.hid ((hok'.out.fault (j : Int) 4 d).ask [((j : Int), 1)] (j : Int) (frameL j 0 1 (putL 5 (k : Int) 0 0 [1])) 0)
      clear h4 o4 l4 ln4 r4 E4 f4 E34 h5 y0
      go_wp2_with fail
      go_roundw
      case rel =>
        refine ⟨k + 1, by omega, by simp, T5, _, h5'.out, hok5.out, ?_⟩
        rw [List.range_succ]
        exact hstep.out
      case measure => simp [intOf]; omega
    · have e1 : decide ((k : Int) < (n1 : Int)) = false := by simp; omega
      have hkk : k = n1 := by omega
      have hst2 : StD Fr j ds (lateD ds 0 n1) := by
        rw [lateD_all (fun k => (hdk'.out k).1)]
        rw [← hkk]
        exact hst'.out
      have hst2' := Lib.hid hst2
      have hmk := fun w => run_mkB n1 (by omega) w
      have hok2 := Lib.hid (hok'.out.more hk)
      clear hst2 hst' hkk hok'
      have hbool : BlkB (wr.alloc (.cells (Array.replicate n1 (Value.bool false)) 4)) wr.heap.size (cameL ds 0 0 0 n1) := by
        rw [← cameL_none (fun k => (hdk'.out k).1), repB]
        exact heap_alloc_new wr _
      have hbool' := Lib.hid hbool
      have hF3 := Lib.hid (hF'.out.ext ((Ext.refl wr).goA (.cells (Array.replicate n1 (Value.bool false)) 4)))
      have hg0 : w0.heap.size ≤ wr.heap.size := hF'.out.world.size
      clear hbool hinit' h2' E2 hF'
      go_wp2_with fail
      clear hmk
      generalize hw3 : wr.alloc (.cells (Array.replicate n1 (Value.bool false)) 4) = w3 at *
      clear hw3
      generalize wr.heap.size = g at *
      clear Er
      go_loopw [12, 13] (fun nw i W => ∃ (q : Nat) (now : Int), q ≤ n2 ∧ i = .int .i64 q ∧ nw = .int .i64 now ∧ 0 ≤ now ∧ now ≤ 255 * q ∧ ∃ T F, FdIn w0 W T f [((j : Int), 1)] F ∧ FOk F n1 ∧ StD F j ds (lateD ds now n1) ∧ BlkB W g (cameL ds now now 0 n1)) (fun _ i _ => n2 - (intOf i).toNat)
      case atStart => exact ⟨0, 0, by omega, rfl, rfl, by omega, by omega, Tr, Fr, hF3.out, hok2.out, hst2'.out, hbool'.out⟩
      case round =>
        clear hF3 hok2 hst2' hbool'
        obtain ⟨q, now, hq, rfl, rfl, hn0, hn255, Tq, Fq, hF, hok, hst, hb⟩ := hrel
        have hF' := Lib.hid hF
        have hok' := Lib.hid hok
        have hst' := Lib.hid hst
        have hb' := Lib.hid hb
        have Eq := Lib.hid (E0'.out.go hF.world)
        clear hF hok hst hb
        by_cases hqn : q < n2
        · have e3 : decide ((q : Int) < (n2 : Int)) = true := by simp; omega
          have e4 : (q : Int) < (n2 : Int) := by omega
          obtain ⟨b, o, rfl, _, y0⟩ := (hy'.out.ext Eq.out).at_ hqn
          have hss : 0 ≤ ss.getD q 0 ∧ ss.getD q 0 ≤ 255 := by rw [List.getD_eq_getElem?_getD]; exact hs'.out q
          generalize ss.getD q 0 = s at *
          have ws_ : IntKind.i64.wrap s = s := by rw [IntKind.wrap_i64]; omega
          have wn : IntKind.i64.wrap (now + s) = now + s := by rw [IntKind.wrap_i64]; omega
          go_wp2_with fail
          refine (dueIn hF'.out hok'.out (by omega) (j : Int) (now + s)).mono ?_
          rintro e w4 ⟨v, T4, rfl, h4, m4, _, hout⟩
          obtain ⟨db, dst⟩ := due_due (by omega) hst'.out (show now ≤ now + s by omega)
          rw [db] at hout
          have hb4 : BlkB w4 g (cameL ds now (now + s) 0 n1) := by
            rw [cameL_turn ds now (now + s) now]
            exact hb'.out.keep (m4.block _ hb'.out.lt (hF'.out.offB hb'.out))
          obtain ⟨Av, cv, rfl, hv1, hv2⟩ := hout.shape
          rw [List.length_map] at hv1
          have h4' := Lib.hid h4
          have dst' := Lib.hid dst
          have hb4' := Lib.hid hb4
          have hout' := Lib.hid hout
          have hok4 := Lib.hid (hok'.out.due (j : Int) (now + s))
          clear h4 m4 hout db dst hb4 y0 hF' hok' hst' hb' Eq
          generalize hnn : now + s = now' at *
          have hnn' : now ≤ now' ∧ now' ≤ 255 * (q + 1) := by omega
          clear hnn ws_ wn
          rw [List.length_map]
          go_wp2_with fail
          go_loopw [15, 16] (fun a i W => ∃ k : Nat, k ≤ n1 ∧ i = .int .i64 k ∧ a = .int .i64 ((comeD ds now now' k).length : Int) ∧ BlkB W g (cameL ds now now' k n1) ∧ Mod (fun b => b = g) w4 W) (fun _ i _ => n1 - (intOf i).toNat)
          case atStart => exact ⟨0, by omega, rfl, rfl, hb4'.out, Mod.refl _ w4⟩
          case round =>
            obtain ⟨k, hk, rfl, rfl, hbk, mk⟩ := hrel
            have hbk' := Lib.hid hbk
            have mk' := Lib.hid mk
            clear hbk mk
            by_cases hkn : k < n1
            · have e5 : decide ((k : Int) < (n1 : Int)) = true := by simp; omega
              have e6 : (k : Int) < (n1 : Int) := by omega
              have hE4 : Ext w w4 := E0'.out.go h4'.out.world
              have hxr : RdI wr wr.heap.size .u8 A1 n1 ds := (hx'.out.ext hE4).modS (fun hn b o e hb => by have := hx'.out.lt_of hn e; have := E0'.out.size; omega) mk'.out
              obtain ⟨b, o, rfl, _, y0⟩ := hxr.at_ hkn
              have y1 := hbk'.out.cell (j := k) (by rw [cameL_len]; exact hkn)
              rw [cameL_get hkn, if_neg (by omega)] at y1
              have hdd := hdk'.out k
              have hsel : Hid (selD ds now now' k = (!decide (1 + ds.getD k 0 ≤ now) && decide (1 + ds.getD k 0 ≤ now'))) := Lib.hid rfl
              have hyes : Hid (1 + ds.getD k 0 ≤ now' → (cameL ds now now' k n1).set k true = cameL ds now now' (k + 1) n1) := Lib.hid (fun h => cameL_yes h)
              have hno : Hid (selD ds now now' k = false → cameL ds now now' k n1 = cameL ds now now' (k + 1) n1) := Lib.hid (fun h => cameL_no hnn'.1 h)
              have hlk := comeD_len ds now now' k
              generalize ds.getD k 0 = d at *
              have wd : IntKind.i64.wrap d = d := by rw [IntKind.wrap_i64]; omega
              have wd2 : IntKind.i64.wrap (1 + d) = 1 + d := by rw [IntKind.wrap_i64]; omega
              have hbl : g < wr.heap.size := hbk'.out.lt
              have hkb : k < n1 := hkn
              clear hxr
              by_cases c1 : 1 + d ≤ now
              · have t1 : decide (1 + d ≤ now) = true := by simpa using c1
                have hs0 : selD ds now now' k = false := by rw [hsel.out, t1]; rfl
                rw [t1] at y1
                have hs1 := Lib.hid hs0
                clear hs0
                go_wp2_with fail
                go_roundw
                case rel => exact ⟨k + 1, by omega, by simp, by rw [comeD_no hs1.out], hno.out hs1.out ▸ hbk'.out, mk'.out⟩
                case measure => simp [intOf]; omega
              · have t1 : decide (1 + d ≤ now) = false := by simpa using c1
                rw [t1] at y1
                by_cases c2 : 1 + d ≤ now'
                · have t2 : decide (now' < 1 + d) = false := by simp; omega
                  have hs0 : selD ds now now' k = true := by rw [hsel.out, t1]; simpa using c2
                  have hs1 := Lib.hid hs0
                  have hat := comeD_at hkn hs0
                  have hatl : (comeD ds now now' k).length < (comeD ds now now' n1).length := by
                    rcases Nat.lt_or_ge (comeD ds now now' k).length (comeD ds now now' n1).length with h | h
                    · exact h
                    · rw [List.getElem?_eq_none h] at hat; cases hat
                  clear hs0
                  have hat' := Lib.hid hat
                  clear hat
                  go_wp2_with fail
                  refine (ref05Put_any 5 (k : Int) 0 0 0 (some ⟨wr.heap.size, 0, none⟩) none 1 1 0 0 [1] [] _ (rd_one wr) word16_one (by unfold maxLen; omega) (RdI.nil _) word16_nil (by unfold maxLen; omega)).mono ?_
                  rintro e w5 ⟨A5, n5, c5, rfl, g51, g52, r5, E5⟩
                  go_wp2_with fail
                  refine (ref02Put_any 1 A5 n5 c5 _ w5 (by omega) (by omega) r5 (rputL_bytes _ _ _ _ _ _ _) (Nat.le_trans g51 g52)).mono ?_
                  rintro e w6 ⟨A6, n6, c6, rfl, g61, g62, r6, E6, _⟩
                  have E56 : Ext wr w6 := (((Ext.refl wr).goA _).go E5).go E6
                  have hb6 := Lib.hid (hbk'.out.ext E56)
                  obtain ⟨bo, co, Ao, no, c'o, hvo, ko, _, _, ro⟩ := ((hout'.out.farB hb4'.out mk'.out).ext E56).at_ (k := (comeD ds now now' k).length) (by rw [List.length_map]; exact hatl)
                  simp only [Value.slice.injEq, List.length_map, true_and] at hvo
                  obtain ⟨rfl, rfl⟩ := hvo
                  have hro : (List.map ansD (comeD ds now now' n1))[(comeD ds now now' k).length]'(by rw [List.length_map]; exact hatl) = ansD k := by
                    rw [List.getElem_map]
                    congr 1
                    have h2 := List.getElem?_eq_getElem hatl
                    rw [hat'.out] at h2
                    exact (Option.some.inj h2).symm
                  rw [hro] at ro
                  have hcvt : ∀ W (A : Option Addr) (n c : Nat) (l : List Int), RdI W W.heap.size .u8 A n l → (Go.convert 34 9 (.slice A n c)).run Try.prog W = .ok (.string (strOfNums l)) W := fun W A n c l r => r.convert Try.underlying34 Try.underlying5 Try.underlying9 c
                  have CO : ∀ W, Ext w6 W → (Go.convert 34 9 (.slice Ao no c'o)).run Try.prog W = .ok (.string (strOfNums (ansD k))) W := fun W E => hcvt W Ao no c'o _ (ro.ext E)
                  have C6 : ∀ W, Ext w6 W → (Go.convert 34 9 (.slice A6 n6 c6)).run Try.prog W = .ok (.string (strOfNums (ansD k))) W := fun W E => hcvt W A6 n6 c6 _ (r6.ext E)
                  have KO := fun W (E : Ext w6 W) => (E.cell _ (cell_lt ko)).trans ko
                  have hlt1 : ((comeD ds now now' k).length : Int) < ((comeD ds now now' n1).length : Int) := by omega
                  have t3 : decide (((comeD ds now now' n1).length : Int) ≤ ((comeD ds now now' k).length : Int)) = false := by simp; omega
                  have t3n : decide ((comeD ds now now' n1).length ≤ (comeD ds now now' k).length) = false := by simp; omega
                  have t3m : ¬ (comeD ds now now' n1).length ≤ (comeD ds now now' k).length := by omega
                  clear r5 r6 ro hro hcvt ko E5 E6
                  go_wp2_with fail
                  refine wp_region_held_drew (S := fun W' => Ext w6 W') (by kernel_rfl) ((Ext.refl w6).god) (fun hHeld => ?_)
                  refine wpAnyH_take (i := 0) (oi := _) (v := ?_) rfl (by kernel_rfl) (by kernel_rfl) (by kernel_rfl) (fun _ _ _ h => h) (Or.inl ⟨by rfl, ?_⟩) (by assumption) ?_
                  rotate_left
                  · intro w hSw
                    (try dsimp only at hSw)
                    go_simp
                    try (with_reducible rfl)
                  try simp only [Act.put, List.getElem_toArray, List.getElem_cons_zero, List.setIfInBounds_toArray, List.set_cons_zero, List.set_cons_succ]
                  refine wpAnyH_take (i := 1) (oi := _) (v := ?_) rfl (by kernel_rfl) (by kernel_rfl) (by kernel_rfl) (fun _ _ _ h => h) (Or.inl ⟨by rfl, ?_⟩) (by assumption) ?_
                  rotate_left
                  · intro w hSw
                    (try dsimp only at hSw)
                    go_simp
                    try (with_reducible rfl)
                  try simp only [Act.put, List.getElem_toArray, List.getElem_cons_succ, List.getElem_cons_zero, List.setIfInBounds_toArray, List.set_cons_zero, List.set_cons_succ]
                  refine wpAnyH_take (i := 2) (oi := _) (v := ?_) rfl (by kernel_rfl) (by kernel_rfl) (by kernel_rfl) (fun _ _ _ h => h) (Or.inl ⟨by rfl, ?_⟩) (by assumption) ?_
                  rotate_left
                  · intro w hSw
                    (try dsimp only at hSw)
                    go_simp
                    try (with_reducible rfl)
                  try simp only [Act.put, List.getElem_toArray, List.getElem_cons_succ, List.getElem_cons_zero, List.setIfInBounds_toArray, List.set_cons_zero, List.set_cons_succ]
                  refine wpAnyH_take (i := 3) (oi := _) (v := ?_) rfl (by kernel_rfl) (by kernel_rfl) (by kernel_rfl) (fun _ _ _ h => h) (Or.inl ⟨by rfl, ?_⟩) (by assumption) ?_
                  rotate_left
                  · intro w hSw
                    (try dsimp only at hSw)
                    go_simp
                    try (with_reducible rfl)
                  try simp only [Act.put, List.getElem_toArray, List.getElem_cons_succ, List.getElem_cons_zero, List.setIfInBounds_toArray, List.set_cons_zero, List.set_cons_succ]
                  refine wpAnyH_take (i := 4) (oi := _) (v := ?_) rfl (by kernel_rfl) (by kernel_rfl) (by kernel_rfl) (fun _ _ _ h => h) (Or.inl ⟨by rfl, ?_⟩) (by assumption) ?_
                  rotate_left
                  · intro w hSw
                    (try dsimp only at hSw)
                    go_simp
                    try (with_reducible rfl)
                  try simp only [Act.put, List.getElem_toArray, List.getElem_cons_succ, List.getElem_cons_zero, List.setIfInBounds_toArray, List.set_cons_zero, List.set_cons_succ]
                  refine wpAnyH_take (i := 5) (oi := _) (v := ?_) rfl (by kernel_rfl) (by kernel_rfl) (by kernel_rfl) (fun _ _ _ h => h) (Or.inl ⟨by rfl, ?_⟩) (by assumption) ?_
                  rotate_left
                  · intro w hSw
                    (try dsimp only at hSw)
                    go_simp
                    try (with_reducible rfl)
                  try simp only [Act.put, List.getElem_toArray, List.getElem_cons_succ, List.getElem_cons_zero, List.setIfInBounds_toArray, List.set_cons_zero, List.set_cons_succ]
                  refine wpAnyH_take (i := 6) (oi := _) (v := ?_) rfl (by kernel_rfl) (by kernel_rfl) (by kernel_rfl) (fun _ _ _ h => h) (Or.inl ⟨by rfl, ?_⟩) (by assumption) ?_
                  rotate_left
                  · intro w hSw
                    (try dsimp only at hSw)
                    go_simp
                    try (with_reducible rfl)
                  try simp only [Act.put, List.getElem_toArray, List.getElem_cons_succ, List.getElem_cons_zero, List.setIfInBounds_toArray, List.set_cons_zero, List.set_cons_succ]
                  refine wpAnyH_take (i := 7) (oi := _) (v := ?_) rfl (by kernel_rfl) (by kernel_rfl) (by kernel_rfl) (fun _ _ _ h => h) (Or.inl ⟨by rfl, ?_⟩) (by assumption) ?_
                  rotate_left
                  · intro w hSw
                    (try dsimp only at hSw)
                    go_simp
                    try (with_reducible rfl)
                  try simp only [Act.put, List.getElem_toArray, List.getElem_cons_succ, List.getElem_cons_zero, List.setIfInBounds_toArray, List.set_cons_zero, List.set_cons_succ]
                  refine wpAnyH_take (i := 8) (oi := _) (v := ?_) rfl (by kernel_rfl) (by kernel_rfl) (by kernel_rfl) (fun _ _ _ h => h) (Or.inl ⟨by rfl, ?_⟩) (by assumption) ?_
                  rotate_left
                  · intro w hSw
                    (try dsimp only at hSw)
                    go_simp
                    try (with_reducible rfl)
                  try simp only [Act.put, List.getElem_toArray, List.getElem_cons_succ, List.getElem_cons_zero, List.setIfInBounds_toArray, List.set_cons_zero, List.set_cons_succ]
                  refine wpAnyH_take (i := 9) (oi := _) (v := ?_) rfl (by kernel_rfl) (by kernel_rfl) (by kernel_rfl) (fun _ _ _ h => h) (Or.inl ⟨by rfl, ?_⟩) (by assumption) ?_
                  rotate_left
                  · intro w hSw
                    (try dsimp only at hSw)
                    go_simp
                    try (with_reducible rfl)
                  try simp only [Act.put, List.getElem_toArray, List.getElem_cons_succ, List.getElem_cons_zero, List.setIfInBounds_toArray, List.set_cons_zero, List.set_cons_succ]
                  refine wpAnyH_take (i := 10) (oi := _) (v := ?_) rfl (by kernel_rfl) (by kernel_rfl) (by kernel_rfl) (fun _ _ _ h => h) (Or.inl ⟨by rfl, ?_⟩) (by assumption) ?_
                  rotate_left
                  · intro w hSw
                    (try dsimp only at hSw)
                    go_simp
                    try (with_reducible rfl)
                  try simp only [Act.put, List.getElem_toArray, List.getElem_cons_succ, List.getElem_cons_zero, List.setIfInBounds_toArray, List.set_cons_zero, List.set_cons_succ]
                  refine wpAnyH_take (i := 11) (oi := _) (v := ?_) rfl (by kernel_rfl) (by kernel_rfl) (by kernel_rfl) (fun _ _ _ h => h) (Or.inl ⟨by rfl, ?_⟩) (by assumption) ?_
                  rotate_left
                  · intro w hSw
                    (try dsimp only at hSw)
                    go_simp
                    try (with_reducible rfl)
                  try simp only [Act.put, List.getElem_toArray, List.getElem_cons_succ, List.getElem_cons_zero, List.setIfInBounds_toArray, List.set_cons_zero, List.set_cons_succ]
                  refine wpAnyH_take (i := 12) (oi := _) (v := ?_) rfl (by kernel_rfl) (by kernel_rfl) (by kernel_rfl) (fun _ _ _ h => h) (Or.inl ⟨by rfl, ?_⟩) (by assumption) ?_
                  rotate_left
                  · intro w hSw
                    (try dsimp only at hSw)
                    go_simp
                    try (with_reducible rfl)
                  try simp only [Act.put, List.getElem_toArray, List.getElem_cons_succ, List.getElem_cons_zero, List.setIfInBounds_toArray, List.set_cons_zero, List.set_cons_succ]
                  refine wpAnyH_take (i := 13) (oi := _) (v := ?_) rfl (by kernel_rfl) (by kernel_rfl) (by kernel_rfl) (fun _ _ _ h => h) (Or.inl ⟨by rfl, ?_⟩) (by assumption) ?_
                  rotate_left
                  · intro w hSw
                    (try dsimp only at hSw)
                    go_simp
                    try (with_reducible rfl)
                  try simp only [Act.put, List.getElem_toArray, List.getElem_cons_succ, List.getElem_cons_zero, List.setIfInBounds_toArray, List.set_cons_zero, List.set_cons_succ]
                  refine wpAnyH_done (by kernel_rfl) ?_ _
                  have hb7 := Lib.hid (hb6.out.ext hHeld)
                  have E7 : Ext wr w6.drew := E56.go hHeld
                  have k7 : w6.drew.cell? ⟨g, k, none⟩ = some (.bool ((cameL ds now now' k n1).getD k false)) := hb7.out.cell (by rw [cameL_len]; exact hkn)
                  have f7 : w6.drew.frozen? ⟨g, k, none⟩ = false := frozen_block hb7.out _
                  have hb8 := Lib.hid (hb7.out.set_ k true)
                  have m8 := Lib.hid (((mk'.out.trans (E7.mod _)).setCell (p := ⟨g, k, none⟩) (.inl rfl) (.bool true)))
                  clear CO C6 KO hHeld E56 E7 hb6 hb7
                  generalize w6.drew = w7 at *
                  have hle : ((comeD ds now now' k).length : Int) + 1 ≤ 1000 := by omega
                  have wk1 : IntKind.i64.wrap (((comeD ds now now' k).length : Int) + 1) = ((comeD ds now now' k).length : Int) + 1 := by rw [IntKind.wrap_i64]; omega
                  go_wp2_with fail
                  go_roundw
                  case rel =>
                    refine ⟨k + 1, by omega, by simp, ?_, ?_, m8.out⟩
                    · rw [comeD_yes hs1.out, List.length_append]; simp
                    · rw [← hyes.out c2]; exact hb8.out
                  case measure => simp [intOf]; omega
                · have t2 : decide (now' < 1 + d) = true := by simp; omega
                  have hs0 : selD ds now now' k = false := by rw [hsel.out, t1]; simpa using c2
                  have hs1 := Lib.hid hs0
                  clear hs0
                  go_wp2_with fail
                  go_roundw
                  case rel => exact ⟨k + 1, by omega, by simp, by rw [comeD_no hs1.out], hno.out hs1.out ▸ hbk'.out, mk'.out⟩
                  case measure => simp [intOf]; omega
            · have e5 : decide ((k : Int) < (n1 : Int)) = false := by simp; omega
              have hkk : k = n1 := by omega
              have t4 : ((comeD ds now now' k).length != (comeD ds now now' n1).length) = false := by rw [hkk]; simp
              have hFe := Lib.hid (h4'.out.farB hb4'.out hg0 mk'.out)
              have hbe : BlkB wr g (cameL ds now' now' 0 n1) := by
                rw [← cameL_all ds now now' n1, ← hkk]
                rw [hkk]
                exact hkk ▸ hbk'.out
              have hbe' := Lib.hid hbe
              clear hbe hkk
              go_wp2_with fail
              go_roundw
              case rel => exact ⟨q + 1, now', by omega, by simp, rfl, by omega, by omega, T4, _, hFe.out, hok4.out, dst'.out, hbe'.out⟩
              case measure => simp [intOf]; omega
        · have e3 : decide ((q : Int) < (n2 : Int)) = false := by simp; omega
          have hEnd := Lib.hid (E0'.out.go hF'.out.world)
          go_wp2_with fail
          go_ret
          exact ⟨rfl, hEnd.out⟩
end
end Go.Proofs.Ytgagpalffdgjnaa
