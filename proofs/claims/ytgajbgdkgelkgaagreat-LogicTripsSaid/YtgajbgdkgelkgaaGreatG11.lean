/- Layer 16, the walks: what the functions of package key compute. · Layer 16, the walks: Sum, Match. · Layer 17, the walks: the closure of Reset, ContainsFunc over it. -/
import Derived.Test.YtgajbgdkgelkgaaGreatG10
import Derived.Laws.EntriesVeiled
namespace Go.Proofs.YtgajbgdkgelkgaaGreat
open Go.RowKit
set_option maxRecDepth 100000 in
set_option maxHeartbeats 400000 in
theorem mix_any (x h : Int) (b : Nat) (w : World) (hc : w.cell? ⟨b, 0, none⟩ = some (.int .u64 h)) (hf : w.frozen? ⟨b, 0, none⟩ = false) :
    Calls Tryz.prog 102 #[.int .u64 x, .pointer (some ⟨b, 0, none⟩)] w fun e w' => e = .returned (.tuple #[]) ∧ w.setCell ⟨b, 0, none⟩ (.int .u64 (mix h x)) = w' := by
  go_enter Tryz.func102, Tryz.ntmps102
  go_wp2
  go_end0
  exact ⟨rfl, rfl⟩

set_option maxRecDepth 100000 in
set_option maxHeartbeats 400000 in
theorem told_any (n : Int) (w : World) :
    Calls Tryz.prog 104 #[.int .u64 n] w fun e w' => e = .returned (.string (strOfNums (toldL n))) ∧ Ext w w' := by
  have hmk := fun w => run_mkI Tryz.underlying145 info_u8 16 16 rfl (by omega) (by omega) w
  go_enter Tryz.func104, Tryz.ntmps104
  go_wp2
  go_loopw [6] (fun i wr => ∃ k : Nat, k ≤ 16 ∧ i = .int .i64 k ∧ Blk wr w.heap.size 5 .u8 (toldTo n k) ∧ Ext w wr) (fun i _ => 16 - (intOf i).toNat)
  case atStart => exact ⟨0, by omega, rfl, by rw [toldTo_zero]; exact Blk.new _ _ _ _, (Ext.refl _).goA _⟩
  case round =>
    obtain ⟨k, hk, rfl, hb, hw⟩ := hrel
    by_cases hlt : k < 16
    · have hc : wr.cell? ⟨w.heap.size, 15 - k, none⟩ = some (.int .u8 ((toldTo n k).getD (15 - k) 0)) := hb.cell _ (by rw [toldTo_length]; omega)
      have hf := hb.frozen (15 - k)
      have hnib := nib_range n k
      unfold nib at hnib
      go_wp2
      go_roundw
      case rel =>
        refine ⟨k + 1, by omega, by go_num, ?_, hw.goS (Nat.le_refl _) _⟩
        have := hb.set_ (15 - k) (hx (nib n k))
        rw [toldTo_step n k hlt] at this
        rw [← hex_at (nib n k) (by have := nib_range n k; show _ < 16; omega)] at this
        exact this
      case measure => simp [intOf]; omega
    · obtain rfl : k = 16 := by omega
      have hcv := (hb.rd (Nat.lt_succ_self _)).convert (P := Tryz.prog) Tryz.underlying145 Tryz.underlying5 Tryz.underlying9 16
      rw [toldTo_length, toldTo_all] at hcv
      go_wp2
      go_ret
      exact ⟨rfl, hw⟩
/-- The byte k of a string, in the walk's spelling. -/
theorem bs_getD (s : ByteArray) (k : Nat) (h : k < s.size) : (bs s).getD k 0 = ((s[k]'h).toNat : Int) := by
  unfold bs
  rw [List.getD_eq_getElem?_getD, List.getElem?_map, List.getElem?_eq_getElem (show k < s.data.toList.length from h)]
  rfl

set_option maxRecDepth 100000 in
set_option maxHeartbeats 800000 in
theorem round_any (t h : Int) (s : ByteArray) (bk bm bh : Nat) (w : World) (hs : s.size ≤ maxLen) (hk : w.cell? ⟨bk, 0, none⟩ = some (.string s)) (hm : w.cell? ⟨bm, 0, none⟩ = some (.func (.func 102) #[] #[.pointer (some ⟨bh, 0, none⟩)]))
    (hh : w.cell? ⟨bh, 0, none⟩ = some (.int .u64 h)) (hf : w.frozen? ⟨bh, 0, none⟩ = false) (h1 : bk ≠ bh) (h2 : bm ≠ bh) :
    Calls Tryz.prog 103 #[.int .u64 t, .pointer (some ⟨bk, 0, none⟩), .pointer (some ⟨bm, 0, none⟩)] w fun e w' => e = .returned (.tuple #[]) ∧
      w'.cell? ⟨bh, 0, none⟩ = some (.int .u64 (mix (roundTo s h s.size) t)) ∧ w'.frozen? ⟨bh, 0, none⟩ = false ∧ Mod (fun i => i = bh) w w' := by
  unfold maxLen at hs
  have lk := World.block_lt_of_cell? w _ hk
  have lm := World.block_lt_of_cell? w _ hm
  have lh := World.block_lt_of_cell? w _ hh
  go_enter Tryz.func103, Tryz.ntmps103
  go_wp2
  go_loopw [7] (fun i wr => ∃ k : Nat, k ≤ s.size ∧ i = .int .i64 k ∧ wr.cell? ⟨bh, 0, none⟩ = some (.int .u64 (roundTo s h k)) ∧ wr.frozen? ⟨bh, 0, none⟩ = false ∧ Mod (fun i => i = bh) w wr) (fun i _ => s.size - (intOf i).toNat)
  case atStart => exact ⟨0, by omega, rfl, hh, hf, Mod.refl _ _⟩
  case round =>
    obtain ⟨k, hk', rfl, hc, hf', hw⟩ := hrel
    have ck := (hw.cell 0 lk h1).trans hk
    have cm := (hw.cell 0 lm h2).trans hm
    by_cases hlt : k < s.size
    · have hb := Lib.hid (bs_getD s k hlt)
      have hwb : IntKind.u64.wrap ((s[k]'hlt).toNat : Int) = ((s[k]'hlt).toNat : Int) := by
        rw [IntKind.wrap_u64]; have := (s[k]'hlt).toNat_lt; omega
      go_wp2_with fail
      go_region_with (go_at_call 102; refine (mix_any _ _ _ wr.drew hc hf').mono ?_; rintro e w' ⟨rfl, rfl⟩)
      all_goals go_wp2
      all_goals
        go_roundw
        case rel => exact ⟨k + 1, by omega, by go_num, by rw [roundTo, hb.out]; exact World.cell?_setCell_same _ _ _ hc, by simpa using hf', (hw.setCell (.inl rfl) _).drew⟩
        case measure => simp [intOf]; omega
    · obtain rfl : k = s.size := by omega
      go_wp2_with (go_at_call 102; refine (mix_any _ _ _ _ hc hf').mono ?_; rintro e w' ⟨rfl, rfl⟩)
      go_end0
      exact ⟨rfl, World.cell?_setCell_same _ _ _ hc, by simpa using hf', hw.setCell (.inl rfl) _⟩

end Go.Proofs.YtgajbgdkgelkgaaGreat
namespace Go.Proofs.YtgajbgdkgelkgaaGreat
open Go.RowKit

set_option maxRecDepth 100000 in
set_option maxHeartbeats 800000 in
theorem sum_any (s : ByteArray) (w : World) (hs : s.size ≤ maxLen) :
    Calls Tryz.prog 74 #[.string s] w fun e w' => e = .returned (.string (sumS s)) ∧ Ext w w' := by
  unfold maxLen at hs
  cases hr : rightB s
  · have hr' := Lib.hid hr
    go_enter Tryz.func74, Tryz.ntmps74
    go_wp2_with (go_at_call 73; refine (keyRight_any _ _ hs).mono ?_; rintro e w' ⟨rfl, rfl⟩)
    go_ret
    exact ⟨by simp [sumS, hr'.out], (Ext.refl _).goA _⟩
  · have hr' := Lib.hid hr
    go_enter Tryz.func74, Tryz.ntmps74
    go_wp2_with (go_at_call 73; refine (keyRight_any _ _ hs).mono ?_; rintro e w' ⟨rfl, rfl⟩)
    go_loopw [12] (fun i wr => ∃ k : Nat, k ≤ 64 ∧ i = .int .u64 k ∧ wr.cell? ⟨w.heap.size, 0, none⟩ = some (.string s) ∧ wr.cell? ⟨w.heap.size + 1 + 1, 0, none⟩ = some (.func (.func 102) #[] #[.pointer (some ⟨w.heap.size + 1, 0, none⟩)]) ∧
        wr.cell? ⟨w.heap.size + 1, 0, none⟩ = some (.int .u64 (sumTo s k)) ∧ wr.frozen? ⟨w.heap.size + 1, 0, none⟩ = false ∧ Ext w wr) (fun i _ => 64 - (intOf i).toNat)
    case atStart => exact ⟨0, by omega, rfl, by go_simp, by go_simp, by go_simp; rfl, by go_simp, (((Ext.refl _).goA _).goA _).goA _⟩
    case round =>
      obtain ⟨k, hk, rfl, c0, c2, c1, hf, hw⟩ := hrel
      by_cases hlt : k < 64
      · have l0 := World.block_lt_of_cell? wr _ c0
        have l2 := World.block_lt_of_cell? wr _ c2
        go_wp2_with (go_at_call 103; refine (round_any _ _ s _ _ _ _ hs c0 c2 c1 hf (by omega) (by omega)).mono ?_; rintro e w' ⟨rfl, d1, d2, d3⟩)
        go_roundw
        case rel =>
          exact ⟨k + 1, by omega, by go_num, (d3.cell 0 (by omega) (by omega)).trans c0, (d3.cell 0 (by omega) (by omega)).trans c2, d1, d2, hw.goM d3 (fun i hi => by omega)⟩
        case measure => simp [intOf]; omega
      · obtain rfl : k = 64 := by omega
        go_wp2_with (go_at_call 104; refine (told_any _ _).mono ?_; rintro e w' ⟨rfl, d1⟩)
        go_ret
        exact ⟨by simp [sumS, hr'.out], hw.go d1⟩

set_option maxRecDepth 100000 in
set_option maxHeartbeats 800000 in
theorem match_any (t s : ByteArray) (w : World) (hs : s.size ≤ maxLen) :
    Calls Tryz.prog 37 #[.string t, .string s] w fun e w' => e = .returned (.bool (rightB s && t.toList == (sumS s).toList)) ∧ Ext w w' := by
  go_enter Tryz.func37, Tryz.ntmps37
  go_wp2_with (first | (go_at_call 73; refine (keyRight_any _ _ hs).mono ?_; rintro e w' ⟨rfl, rfl⟩) | (go_at_call 74; refine (sum_any _ _ hs).mono ?_; rintro e w' ⟨rfl, d⟩))
  · have hr : rightB s = true := by assumption
    go_ret
    exact ⟨by simp [hr], d⟩
  · have hr : ¬ rightB s = true := by assumption
    go_ret
    exact ⟨by simp [hr], Ext.refl _⟩
end Go.Proofs.YtgajbgdkgelkgaaGreat
namespace Go.Proofs.YtgajbgdkgelkgaaGreat
open Go.RowKit

/-- What the closure reads: two boxes. -/
structure Boxed (w : World) (p3 p5 g : Nat) (now : Int) : Prop where
  b3 : w.heap[p3]? = some (.cells #[.pointer (some ⟨g, 0, none⟩)] 30 (0, 0))
  b5 : w.heap[p5]? = some (.cells #[.int .i64 now] 2 (0, 0))
abbrev sickF (p3 p5 : Nat) : Value := .func (.func 38) #[] #[.pointer (some ⟨p3, 0, none⟩), .pointer (some ⟨p5, 0, none⟩)]
def sickP (c : Co) (now : Int) (q : Int) : Bool := !healthyC c q.toNat now
set_option maxHeartbeats 1600000 in
theorem sick_any (base B N : Nat) (K : CoK) (m : Mx) (c : Co) (w : World) (h : HasK w base B N K m c) (q : Nat) (hq : q < m.nc) (now : Int) (p3 p5 : Nat) (hb : Boxed w p3 p5 K.g now) :
    Calls Tryz.prog 38 #[.int .i64 q, .pointer (some ⟨p3, 0, none⟩), .pointer (some ⟨p5, 0, none⟩)] w fun e w' => e = .returned (.bool (!healthyC c q now)) ∧ w = w' := by
  have c3 : w.cell? ⟨p3, 0, none⟩ = some (.pointer (some ⟨K.g, 0, none⟩)) := cellsAt hb.b3 0
  have c5 : w.cell? ⟨p5, 0, none⟩ = some (.int .i64 now) := cellsAt hb.b5 0
  have g3 := lt_of_block hb.b3
  have g5 := lt_of_block hb.b5
  have h' := Lib.hid h
  clear h hb
  go_enter Tryz.func38, Tryz.ntmps38
  go_wp2_with (go_at_call 39; refine (healthy_any _ _ _ _ _ _ _ h'.out q hq now).mono ?_; rintro e w' ⟨rfl, rfl⟩)
  go_ret
  exact ⟨rfl, rfl⟩
/-- The first place where p holds, or -1. -/
def idxP (p : Int → Bool) : List Int → Int → Int
  | [], _ => -1
  | x :: xs, k => if p x = true then k else idxP p xs (k + 1)
theorem idxP_any (p : Int → Bool) : ∀ (xs : List Int) (k : Int), 0 ≤ k → decide (0 ≤ idxP p xs k) = xs.any p
  | [], k, _ => by simp [idxP]
  | x :: xs, k, hk => by
    unfold idxP
    by_cases e : p x = true
    · rw [if_pos e, List.any_cons, e]; simpa using hk
    · rw [if_neg e, idxP_any p xs (k + 1) (by omega), List.any_cons]; simp [e]
set_option maxRecDepth 100000 in
set_option maxHeartbeats 1600000 in
theorem idxFunc_any (base B N : Nat) (K : CoK) (m : Mx) (c : Co) (w : World) (h : HasK w base B N K m c) (now : Int) (p3 p5 : Nat) (hb : Boxed w p3 p5 K.g now) (A : Option Addr) (n cc : Nat) (xs : List Int) (hx : RdI w w.heap.size .i64 A n xs) (hn : n ≤ 1000) (hps : ∀ q ∈ xs, 0 ≤ q ∧ q < (m.nc : Int)) :
    Calls Tryz.prog 76 #[.slice A n cc, sickF p3 p5] w fun e w' => e = .returned (.int .i64 (idxP (sickP c now) xs 0)) ∧ w = w' := by
  have hl := Lib.hid hx.len
  have hx' := Lib.hid hx
  have h' := Lib.hid h
  have hb' := Lib.hid hb
  have hps' := Lib.hid hps
  clear hx h hb hps
  go_enter Tryz.func76, Tryz.ntmps76
  go_wp2_with fail
  go_loopw [8] (fun i wr => ∃ k : Nat, k ≤ n ∧ i = .int .i64 k ∧ idxP (sickP c now) (xs.drop k) k = idxP (sickP c now) xs 0 ∧ w = wr) (fun i _ => n - (intOf i).toNat)
  case atStart => exact ⟨0, by omega, rfl, rfl, rfl⟩
  case round =>
    obtain ⟨k, hk, rfl, hi, rfl⟩ := hrel
    have hi' := Lib.hid hi
    clear hi
    by_cases hlt : k < n
    · have e3 : (k : Int) < (n : Int) := by omega
      obtain ⟨b, o, rfl, hb, hc⟩ := hx'.out.at_ hlt
      have hkl : k < xs.length := by rw [hl.out]; exact hlt
      have hdr : xs.drop k = xs.getD k 0 :: xs.drop (k + 1) := by
        rw [List.drop_eq_getElem_cons hkl, List.getD_eq_getElem?_getD, List.getElem?_eq_getElem hkl]; rfl
      have hm : xs.getD k 0 ∈ xs := by rw [List.getD_eq_getElem?_getD, List.getElem?_eq_getElem hkl]; exact List.getElem_mem hkl
      obtain ⟨q, hq, hqn⟩ : ∃ q : Nat, xs.getD k 0 = (q : Int) ∧ q < m.nc := by
        have := hps'.out _ hm
        exact ⟨(xs.getD k 0).toNat, by omega, by omega⟩
      rw [hq] at hdr hc
      have hdr' := Lib.hid hdr
      clear hdr hm hq
      cases hs : healthyC c q now
      · have hr := Lib.hid (show (k : Int) = idxP (sickP c now) xs 0 by rw [← hi'.out, hdr'.out, idxP, if_pos (by unfold sickP; rw [Int.toNat_natCast, hs]; rfl)])
        go_wp2_with (go_at_call 38; refine (sick_any _ _ _ _ _ _ _ h'.out q hqn now _ _ hb'.out).mono ?_; rw [hs]; rintro e w' ⟨rfl, rfl⟩)
        go_ret
        exact ⟨by rw [← hr.out]; rfl, rfl⟩
      · have hr := Lib.hid (show idxP (sickP c now) (xs.drop (k + 1)) ((k : Int) + 1) = idxP (sickP c now) xs 0 by rw [← hi'.out, hdr'.out]; exact (if_neg (by unfold sickP; rw [Int.toNat_natCast, hs]; decide)).symm)
        go_wp2_with (go_at_call 38; refine (sick_any _ _ _ _ _ _ _ h'.out q hqn now _ _ hb'.out).mono ?_; rw [hs]; rintro e w' ⟨rfl, rfl⟩)
        go_roundw
        case rel => exact ⟨k + 1, by omega, by go_num, hr.out, trivial⟩
        case measure => simp [intOf]; omega
    · obtain rfl : k = n := by omega
      have hr := Lib.hid (show idxP (sickP c now) xs 0 = -1 by rw [← hi'.out, List.drop_of_length_le (by rw [hl.out]; exact Nat.le_refl _)]; rfl)
      go_wp2_with fail
      go_ret
      exact ⟨by rw [hr.out]; rfl, rfl⟩
set_option maxRecDepth 100000 in
theorem contFunc_any (base B N : Nat) (K : CoK) (m : Mx) (c : Co) (w : World) (h : HasK w base B N K m c) (now : Int) (p3 p5 : Nat) (hb : Boxed w p3 p5 K.g now) (A : Option Addr) (n cc : Nat) (xs : List Int) (hx : RdI w w.heap.size .i64 A n xs) (hn : n ≤ 1000) (hps : ∀ q ∈ xs, 0 ≤ q ∧ q < (m.nc : Int)) :
    Calls Tryz.prog 40 #[.slice A n cc, sickF p3 p5] w fun e w' => e = .returned (.bool (xs.any (sickP c now))) ∧ w = w' := by
  rw [← idxP_any (sickP c now) xs 0 (Int.le_refl _)]
  have hx' := Lib.hid hx
  have h' := Lib.hid h
  have hb' := Lib.hid hb
  have hps' := Lib.hid hps
  clear hx h hb hps
  go_enter Tryz.func40, Tryz.ntmps40
  go_wp2_with (go_at_call 76; refine (idxFunc_any _ _ _ _ _ _ _ h'.out now _ _ hb'.out _ _ _ _ hx'.out hn hps'.out).mono ?_; rintro e w' ⟨rfl, rfl⟩)
  go_ret
  exact ⟨rfl, rfl⟩
end Go.Proofs.YtgajbgdkgelkgaaGreat
