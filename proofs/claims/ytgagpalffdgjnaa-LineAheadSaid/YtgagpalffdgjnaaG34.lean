/- A slice of truths, opened. · Layer 21, the law LineAhead: the walk. -/
import Derived.Test.YtgagpalffdgjnaaG17
import Derived.Test.YtgagpalffdgjnaaG33
import Derived.Test.YtgagpalffdgjnaaLineHead
namespace Go.Proofs.Ytgagpalffdgjnaa
open Go.ChangeShapes Go.WideShapes Go.ChangeAt Go.RowKit Go.Deep
def RdBs (w : World) (B : Nat) (A : Option Addr) (n : Nat) (vs : List Value) : Prop :=
  0 < n → ∃ b o, A = some ⟨b, o, none⟩ ∧ b < B ∧ ∀ j, j < vs.length → w.cell? ⟨b, o + j, none⟩ = vs[j]?
theorem RdBs.bool {w : World} {B : Nat} {A : Option Addr} {xs : List Bool} (h : RdBs w B A xs.length (xs.map Value.bool)) {j : Nat} (hj : j < xs.length) :
    ∃ b o, A = some ⟨b, o, none⟩ ∧ b < B ∧ w.cell? ⟨b, o + j, none⟩ = some (.bool (xs.getD j false)) := by
  obtain ⟨b, o, e, hb, hc⟩ := h (by omega)
  refine ⟨b, o, e, hb, ?_⟩
  rw [hc j (by rw [List.length_map]; exact hj), List.getElem?_map, List.getElem?_eq_getElem hj, List.getD_eq_getElem?_getD, List.getElem?_eq_getElem hj]
  rfl
section
variable {H : Type} {enc : TypeId × Value → H} {W : World} {base : Nat} {sp : Nat → Bool} {hd : Bool}
theorem openBoolsC {fuel : Nat} {cs : List Value} {x : DataW H × List MemPlace} (h : DataW.trod enc Try.prog W base sp hd fuel 22 cs = some x) :
    ∃ (A : Option Addr) (c : Nat) (xs : List Bool), cs = [.slice A xs.length c] ∧ xs.length ≤ maxLen ∧ RdBs W W.heap.size A xs.length (xs.map Value.bool) ∧ ∀ R, (∀ m ∈ x.1.weights Try.prog 22, m ≤ R) → xs.length ≤ R := by
  have hby : Try.prog.bytesOf 4 = 1 := by kernel_rfl
  obtain ⟨A, n, c, rfl, hnc, hcm, hel, hR⟩ := openElems (fun cs => ∃ b, cs = [.bool b]) 1 Try.underlying22 (by kernel_rfl) (by omega)
    (fun fuel cs x h => by obtain ⟨b, e, _⟩ := DataW.trod_bool Try.underlying4 h; exact ⟨b, e⟩) h
  have hch : ∀ j, j < n → ∃ v : Bool, ∃ b o, A = some ⟨b, o, none⟩ ∧ b < W.heap.size ∧ W.cell? ⟨b, o + j, none⟩ = some (.bool v) := fun j hj => by
    obtain ⟨b, o, e, hb, vs, _, ⟨v, e1⟩, hcell⟩ := hel j hj
    have := hcell 0 (by omega)
    rw [Nat.mul_one, Nat.add_zero, e1] at this
    exact ⟨v, b, o, e, hb, this⟩
  obtain ⟨f, hf⟩ := choose_lt hch
  have hl : ((List.range n).map f).length = n := by simp
  refine ⟨A, c, (List.range n).map f, by rw [hl], by omega, fun hn => ?_, fun R h => ?_⟩
  · rw [hl] at hn
    obtain ⟨b, o, e, hb, _⟩ := hf 0 hn
    refine ⟨b, o, e, hb, fun j hj => ?_⟩
    rw [List.length_map, hl] at hj
    obtain ⟨b', o', e', _, hc⟩ := hf j hj
    obtain ⟨rfl, rfl⟩ : b = b' ∧ o = o' := by have := e.symm.trans e'; simpa using this
    rw [hc]
    simp [hj]
  · have := hR R h
    rw [hby, Nat.mul_one] at this
    rw [hl]; exact this
end
end Go.Proofs.Ytgagpalffdgjnaa
namespace Go.Proofs.Ytgagpalffdgjnaa
open Go.RowKit

theorem HasL.free {w w' : World} {a q cu co s : Nat} {re wa : Int} {L : Lp} {S : Nat → Prop} (h : HasL false w a q cu co s re wa L) (hx : ∀ p, (p ∈ L.U ∨ p ∈ L.O ∨ p = L.J) → p.xs = []) (m : Mod S w w') (hS : ∀ b, LnB false a q cu co s b → ¬ S b) : HasL false w' a q cu co s re wa L := by
  obtain ⟨M, rfl, hm⟩ := h
  refine ⟨M, rfl, (m.block a (lt_of_block hm.head) (hS a (.inl rfl))).trans hm.head, hm.qu.mod m ?_, fun j hj => ⟨?_, (hm.jobs j hj).2⟩, fun hk => Bool.noConfusion hk, hm.num, hm.re, hm.wa, hm.ul, hm.ol, hm.ti, hm.se⟩
  · rintro b (rfl | rfl | rfl)
    · exact hS _ (.inr (.inl rfl))
    · exact hS _ (.inr (.inr (.inl rfl)))
    · exact hS _ (.inr (.inr (.inr (.inl rfl))))
  · have hj1 := (hm.jobs j hj).1
    have h0 : j.p.xs = [] := hx j.p (by
      rcases hj with hj | hj | ⟨_, hj⟩
      · exact .inl (List.mem_map.2 ⟨j, hj, rfl⟩)
      · exact .inr (.inl (List.mem_map.2 ⟨j, hj, rfl⟩))
      · exact .inr (.inr (by rw [hj]; rfl)))
    have hn : j.n = 0 := by have := hj1.rd.len; rw [h0] at this; simpa using this.symm
    exact ⟨by rw [h0, hn]; exact RdI.nil _, hj1.nc, hj1.cm, hj1.off⟩
theorem asked_none (us : List Bool) (i : Nat) : ∀ p, (p ∈ (askedL us i).U ∨ p ∈ (askedL us i).O ∨ p = (askedL us i).J) → p.xs = [] := by
  rintro p (h | h | h)
  · obtain ⟨j, _, rfl⟩ := List.mem_map.1 h; rfl
  · obtain ⟨j, _, rfl⟩ := List.mem_map.1 h; rfl
  · rw [h]; rfl
theorem ticked_none (us : List Bool) (i : Nat) : ∀ p, (p ∈ (tickedL us i).U ∨ p ∈ (tickedL us i).O ∨ p = (tickedL us i).J) → p.xs = [] := by
  rintro p (h | h | h)
  · obtain ⟨j, _, rfl⟩ := List.mem_map.1 h; rfl
  · obtain ⟨j, _, rfl⟩ := List.mem_map.1 h; rfl
  · rw [h]; unfold tickedL; dsimp only; split <;> rfl
/-- Places as numbers. -/
def natsI (l : List Nat) : List Int := l.map Int.ofNat
theorem info_intC : (Try.prog.info? 3).map (fun i => (i.zero, i.size, i.bytes)) = some (some (.int .i64 0), 1, 8) := by kernel_rfl
def AheadRel (a q cu co s : Nat) (us : List Bool) (base : Nat) (w2 : World) (want : Nat → List Nat) (L : Nat → Lp) (v i : Value) (wr : World) : Prop :=
  ∃ j : Nat, j ≤ us.length ∧ i = .int .i64 j ∧ wr.ownsRow base 3 1 v (want j).length ((natsI (want j)).map (Value.int .i64)) ∧ HasL false wr a q cu co s 0 1 (L j) ∧ Mod (fun b => LnB false a q cu co s b ∨ base ≤ b) w2 wr
set_option maxRecDepth 100000 in
set_option maxHeartbeats 6400000 in
theorem lineAhead_any (A : Option Addr) (n c : Nat) (us : List Bool) (w : World) (hx : RdBs w w.heap.size A us.length (us.map Value.bool)) (hn : us.length = n) (hm : n ≤ maxLen) :
    Calls Try.prog 3 #[.slice A n c] w fun e w' => e = .returned (.bool true) ∧ Ext w w' := by
  have hx' := Lib.hid hx
  clear hx
  go_enter Try.func3, Try.ntmps3
  go_wp2_with fail
  refine (lineHead_any w).mono ?_
  rintro e w1 ⟨rfl, E1⟩
  go_wp2_with fail
  refine (lineNewL_any (k := false) (re := 0) (wa := 1) w1 (by decide) (by decide)).mono ?_
  rintro e w2 ⟨a, q, cu, co, s, rfl, h2, E2, hge⟩
  have h2' := Lib.hid h2
  have hge' := Lib.hid hge
  have EE := Lib.hid (E1.go E2)
  clear h2 hge
  by_cases h60 : 60 < n
  · have f1 : decide (60 < (n : Int)) = true := by simp; omega
    go_wp2_with fail
    go_ret
    exact ⟨rfl, EE.out⟩
  have f1 : decide (60 < (n : Int)) = false := by simp; omega
  go_wp2_with fail
  have hel : Hid (∀ wr, Mod (fun b => LnB false a q cu co s b ∨ w2.heap.size ≤ b) w2 wr → ∀ j, j < us.length → ∃ b o, A = some ⟨b, o, none⟩ ∧ wr.cell? ⟨b, o + j, none⟩ = some (.bool (us.getD j false))) := Lib.hid (fun wr m j hj => by
    obtain ⟨b, o, e, hb, hc⟩ := hx'.out.bool hj
    have s1 := E1.size
    have s2 := EE.out.size
    exact ⟨b, o, e, (m.cell _ (by omega) (fun hh => by
      rcases hh with hh | hh
      · have := hge'.out b hh; omega
      · omega)).trans ((EE.out.cell _ hb).trans hc)⟩)
  have hlb : Hid (∀ b, LnB false a q cu co s b → b < w2.heap.size) := Lib.hid (fun b hb => h2'.out.lt hb)
  have hnew : Hid (HasL false w2 a q cu co s 0 1 (askedL us 0)) := h2'
  clear h2'
  go_loopw [5, 6] (fun v i wr => AheadRel a q cu co s us w2.heap.size w2 (fun j => urgI us true j) (askedL us) v i wr) (fun _ i _ => n - (intOf i).toNat)
  case atStart => exact ⟨0, by omega, rfl, World.ownsRow_nil _ _ _ _, hnew.out, Mod.refl _ _⟩
  case round =>
    obtain ⟨j, hj, rfl, own, hH, m3⟩ := hrel
    have own' := Lib.hid own
    have hH' := Lib.hid hH
    have m3' := Lib.hid m3
    clear own hH m3
    by_cases hjn : j < n
    · have t1 : decide ((j : Int) < (n : Int)) = true := by simp; exact hjn
      have t1' : decide (j < n) = true := by simp; exact hjn
      obtain ⟨b, o, rfl, hcell⟩ := hel.out wr m3'.out j (by omega)
      have hyy := asked_ask us j (by omega) (us.getD j false) rfl
      have hsu := urgI_succ us true j
      have hle := urgI_le us true j
      have hyy' := Lib.hid hyy
      have hsu' := Lib.hid hsu
      clear hyy hsu
      cases hub : us.getD j false
      · rw [hub] at hcell hyy' hsu'
        go_wp2_with fail
        refine (read_any j false wr (by omega)).mono ?_
        rintro e w3 ⟨rfl, E3⟩
        go_wp2_with fail
        refine (askYes (hH'.out.ext E3) (RdI.nil _) (fun j => by simp) (by decide) hyy'.out.1 hyy'.out.2).mono ?_
        rintro e w4 ⟨rfl, m4, h4⟩
        have hcell4 : w4.cell? ⟨b, o + j, none⟩ = some (.bool false) := by
          obtain ⟨b', o', e', hc'⟩ := hel.out w4 ((m3'.out.trans (E3.mod _)).trans (m4.weak (fun i hi => .inl hi))) j (by omega)
          rw [hub] at hc'
          simp only [Option.some.injEq, Addr.mk.injEq, and_true] at e'
          obtain ⟨rfl, rfl⟩ := e'
          exact hc'
        have h4' := Lib.hid h4
        have m4' := Lib.hid m4
        clear h4 m4
        go_wp2_with fail
        go_roundw
        case rel =>
          refine ⟨j + 1, by omega, by go_num, ?_, h4'.out, (m3'.out.trans (E3.mod _)).trans (m4'.out.weak (fun i hi => .inl hi))⟩
          dsimp only
          rw [hsu'.out, if_neg (by decide), List.append_nil]
          exact own_modS (own_ext own'.out E3) m4'.out (fun i hi => hlb.out i hi)
        case measure => simp [intOf]; omega
      · rw [hub] at hcell hyy' hsu'
        go_wp2_with fail
        refine (read_any j true wr (by omega)).mono ?_
        rintro e w3 ⟨rfl, E3⟩
        go_wp2_with fail
        refine (askYes (hH'.out.ext E3) (RdI.nil _) (fun j => by simp) (by decide) hyy'.out.1 hyy'.out.2).mono ?_
        rintro e w4 ⟨rfl, m4, h4⟩
        have hcell4 : w4.cell? ⟨b, o + j, none⟩ = some (.bool true) := by
          obtain ⟨b', o', e', hc'⟩ := hel.out w4 ((m3'.out.trans (E3.mod _)).trans (m4.weak (fun i hi => .inl hi))) j (by omega)
          rw [hub] at hc'
          simp only [Option.some.injEq, Addr.mk.injEq, and_true] at e'
          obtain ⟨rfl, rfl⟩ := e'
          exact hc'
        have h4' := Lib.hid h4
        have m34 := Lib.hid ((m3'.out.trans (E3.mod _)).trans (m4.weak (fun i hi => .inl hi)))
        have own4 := Lib.hid (own_modS (own_ext own'.out E3) m4 (fun i hi => hlb.out i hi))
        have hb4 : w2.heap.size ≤ w4.heap.size := m34.out.size
        clear h4 m4
        go_wp2_with (at_builtin; refine wpList_appI rfl (.tmp 46) (.tmp 48) _ rfl Try.underlying26 info_intC (own4.out.alloc _) rfl (RdI.one _ _ _ _) rfl (by omega) (by omega) (by simp; omega) ?_; intro v' w5 own5 hg5 hat5)
        have m5 : Mod (fun b => w2.heap.size ≤ b) w4 w5 := (((Mod.refl (fun b => w2.heap.size ≤ b) w4).alloc _).grown hg5 (fun i hi => .inl (own4.out.lt i hi).1))
        go_roundw
        case rel =>
          refine ⟨j + 1, by omega, by go_num, ?_, h4'.out.free (asked_none _ _) m5 (fun b hb => by have := hlb.out b hb; omega), m34.out.trans (m5.weak (fun i hi => .inr hi))⟩
          dsimp only
          rw [hsu'.out, if_pos (by trivial), List.length_append]
          unfold natsI at own5 ⊢
          rw [List.map_append]
          exact own5
        case measure => simp [intOf]; omega
    · obtain rfl : j = n := by omega
      have t1 : decide ((j : Int) < (j : Int)) = false := by simp
      have t1' : decide (j < j) = false := by simp
      rw [← hn] at own' hH'
      go_wp2_with fail
      have hle0 := urgI_le us true us.length
      go_loopw [5, 7] (fun v i wr => AheadRel a q cu co s us w2.heap.size w2 (fun j => urgI us true us.length ++ urgI us false j) (fun _ => askedL us us.length) v i wr) (fun _ i _ => j - (intOf i).toNat)
      case atStart => exact ⟨0, by omega, rfl, by simpa [urgI] using own'.out, hH'.out, m3'.out⟩
      case round =>
        clear own' hH' m3'
        obtain ⟨i, hi, rfl, own, hH, m3⟩ := hrel
        dsimp only at own hH
        have own' := Lib.hid own
        have hH' := Lib.hid hH
        have m3' := Lib.hid m3
        clear own hH m3
        by_cases hin : i < j
        · have t1 : decide ((i : Int) < (j : Int)) = true := by simp; exact hin
          have t1' : decide (i < j) = true := by simp; exact hin
          obtain ⟨b, o, rfl, hcell⟩ := hel.out _ m3'.out i (by omega)
          have hsu := urgI_succ us false i
          have hle := urgI_le us false i
          have hsu' := Lib.hid hsu
          clear hsu
          cases hub : us.getD i false
          · rw [hub] at hcell hsu'
            have hb4 := m3'.out.size
            go_wp2_with (at_builtin; refine wpList_appI rfl (.tmp 61) (.tmp 63) _ rfl Try.underlying26 info_intC (own'.out.alloc _) rfl (RdI.one _ _ _ _) rfl (by rw [List.length_append]; omega) (by rw [List.length_append]; omega) (by simp; omega) ?_; intro v' w5 own5 hg5 hat5)
            have m5 := (((Mod.refl (fun b => w2.heap.size ≤ b) _).alloc _).grown hg5 (fun i hi => .inl (own'.out.lt i hi).1))
            go_roundw
            case rel =>
              refine ⟨i + 1, by omega, by go_num, ?_, hH'.out.free (asked_none _ _) m5 (fun b hb => by have := hlb.out b hb; omega), m3'.out.trans (m5.weak (fun i hi => .inr hi))⟩
              dsimp only
              rw [hsu'.out, if_pos (by trivial), ← List.append_assoc, List.length_append]
              unfold natsI at own5 ⊢
              rw [List.map_append]
              exact own5
            case measure => simp [intOf]; omega
          · rw [hub] at hcell hsu'
            go_wp2_with fail
            go_roundw
            case rel =>
              refine ⟨i + 1, by omega, by go_num, ?_, hH'.out, m3'.out⟩
              dsimp only
              rw [hsu'.out, if_neg (by decide), List.append_nil]
              exact own'.out
            case measure => simp [intOf]; omega
        · obtain rfl : i = j := by omega
          have t1 : decide ((i : Int) < (i : Int)) = false := by simp
          have t1' : decide (i < i) = false := by simp
          go_wp2_with fail
          have hown := own'.out
          rw [← hn, show urgI us true us.length ++ urgI us false us.length = orderI us from rfl] at hown
          obtain ⟨Aw, cw, rfl, ⟨g1, g2⟩, rw0⟩ := own_rd hown
          have hoff : ∀ b o, Aw = some ⟨b, o, none⟩ → w2.heap.size ≤ b := fun b o e => (hown.lt b (by rw [e]; rfl)).1
          have hol : (orderI us).length = us.length := orderI_length us
          have hT0 : Hid (HasL false wr a q cu co s 0 1 (tickedL us 0)) := Lib.hid (by rw [ticked_zero]; exact hH'.out)
          have hmw := Lib.hid m3'.out
          have hown' := Lib.hid hown
          have hrw : Hid (∀ W, Mod (LnB false a q cu co s) wr W → RdI W W.heap.size .i64 Aw (orderI us).length (natsI (orderI us))) := Lib.hid (fun W m => rw0.modS (fun _ b o e hb => by have := hlb.out b hb; have := hoff b o e; omega) m)
          clear own' hH' m3' hown hnew hel rw0
          have hlen : (orderI us).length = i := by omega
          rw [hlen] at g1 ⊢
          have hlen' := Lib.hid hlen
          clear hlen hol
          generalize hwv : wr = wv at *
          clear hwv
          go_loopw [8] (fun x W => ∃ t : Nat, t ≤ i ∧ x = .int .i64 t ∧ HasL false W a q cu co s 0 1 (tickedL us t) ∧ Mod (LnB false a q cu co s) wv W) (fun x _ => i - (intOf x).toNat)
          case atStart => exact ⟨0, by omega, rfl, hT0.out, Mod.refl _ _⟩
          case round =>
            obtain ⟨t, ht, rfl, hH, m3⟩ := hrel
            have hH' := Lib.hid hH
            have m3' := Lib.hid m3
            clear hH m3
            by_cases hti : t < i
            · have t1 : decide ((t : Int) < (i : Int)) = true := by simp; omega
              have t1' : decide (t < i) = true := by simp; omega
              obtain ⟨ds, htick⟩ := ticked_tick us t (by omega) (by omega)
              have hJ : Hid ((tickedL us (t + 1)).J = readJ ((orderI us).getD t 0) (decide (t < (urgI us true us.length).length))) := Lib.hid (by unfold tickedL; dsimp only; rw [if_neg (by omega)]; rfl)
              have hlen8 := sent_read _ _ _ hJ.out
              have htick' := Lib.hid htick
              clear htick
              go_wp2_with fail
              refine (tickIs hH'.out htick'.out).mono ?_
              rintro e w4 ⟨v, d, rfl, hB, hD, m4, h4⟩
              obtain ⟨Ab, nb, cb, rfl, _, _, rb, _⟩ := hB
              obtain rfl : nb = 8 := by have := rb.len; omega
              have h4' := Lib.hid h4
              have m4' := Lib.hid (m3'.out.trans m4)
              clear h4 m4 hD rb
              go_wp2_with fail
              refine (busyYes h4'.out (by rfl)).mono ?_
              rw [hJ.out]
              rintro e w5 ⟨Aj, nj, cj, rfl, _, _, _, E5⟩
              dsimp only [jobV, readJ]
              generalize hoi : (orderI us).getD t 0 = x
              have hx5 : Hid ((natsI (orderI us)).getD t 0 = (x : Int)) := Lib.hid (by
                unfold natsI
                rw [← hoi, List.getD_eq_getElem?_getD, List.getElem?_map, List.getD_eq_getElem?_getD]
                have : t < (orderI us).length := by rw [hlen'.out]; exact hti
                rw [List.getElem?_eq_getElem this]
                rfl)
              have h5' := Lib.hid (h4'.out.ext E5)
              have m5' := Lib.hid (m4'.out.trans (E5.mod _))
              clear hoi
              go_upto_region 23 with fail
              have E6 : Ext w5 (w5.alloc (.cells #[.int .i64 (x : Int), .int .i64 3, .int .i64 4, .int .i64 ((x : Int) % 9), .int .i64 (1 + (x : Int) % 1024 % 5), .slice Aj nj cj, .int .i64 0, .bool (decide (t < (urgI us true i).length))] 32)) := (Ext.refl w5).goA _
              have b6 := heap_alloc_new w5 (.cells #[.int .i64 (x : Int), .int .i64 3, .int .i64 4, .int .i64 ((x : Int) % 9), .int .i64 (1 + (x : Int) % 1024 % 5), .slice Aj nj cj, .int .i64 0, .bool (decide (t < (urgI us true i).length))] 32)
              generalize w5.alloc (.cells #[.int .i64 (x : Int), .int .i64 3, .int .i64 4, .int .i64 ((x : Int) % 9), .int .i64 (1 + (x : Int) % 1024 % 5), .slice Aj nj cj, .int .i64 0, .bool (decide (t < (urgI us true i).length))] 32) = w6 at *
              have k0 : w6.cell? ⟨w5.heap.size, 0, none⟩ = some (.int .i64 (x : Int)) := cellsAt b6 0
              have h6' := Lib.hid (h5'.out.ext E6)
              have m6' := Lib.hid (m5'.out.trans (E6.mod _))
              obtain ⟨bw, ow, hAw, _, kw⟩ := (hrw.out w6 m6'.out).at_ (show t < (orderI us).length by rw [hlen'.out]; exact hti)
              rw [hx5.out] at kw
              subst hAw
              clear b6 h5' m5' E6
              go_region
              all_goals
                have E7 : Ext w6 w6.drew := (Ext.refl w6).god
                generalize w6.drew = w7 at *
                go_wp2_with fail
                go_roundw
                case rel => exact ⟨t + 1, by omega, by go_num, h6'.out.ext E7, m6'.out.trans (E7.mod _)⟩
                case measure => simp [intOf]; omega
            · obtain rfl : t = i := by omega
              have t1 : decide ((t : Int) < (t : Int)) = false := by simp
              have t1' : decide (t < t) = false := by simp
              go_wp2_with fail
              go_ret
              exact ⟨rfl, (EE.out.goM hmw.out (fun b hb => by
                have := E1.size
                have := EE.out.size
                rcases hb with hb | hb
                · have := hge'.out b hb; omega
                · omega)).goM m3'.out (fun b hb => by have := E1.size; have := hge'.out b hb; omega)⟩
end Go.Proofs.Ytgagpalffdgjnaa
