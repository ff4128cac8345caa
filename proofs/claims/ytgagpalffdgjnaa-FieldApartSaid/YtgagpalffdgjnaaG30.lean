/- Layer 1, the walks: Open. · The reference of layer 1, the walks: Sum. · Layer 21: a line in memory, and as it is. · Layer 21, the walks: Ask. -/
import Derived.Test.YtgagpalffdgjnaaG29
import Derived.Test.YtgagpalffdgjnaaQueueC
import Derived.Test.YtgagpalffdgjnaaG07
import Derived.Deep.Cut
import Derived.Deep.RegionLaw
namespace Go.Proofs.Ytgagpalffdgjnaa
open Go.RowKit

/-- Was that sealed? -/
def openB (l : List Int) : Bool := decide (2 ≤ l.length) && ((l.getD (l.length - 2) 0 == ((crcOf (l.take (l.length - 2)) % 256 : Nat) : Int)) && (l.getD (l.length - 2 + 1) 0 == ((crcOf (l.take (l.length - 2)) / 256 : Nat) : Int)))
theorem ByteL.take {l : List Int} (h : ByteL l) (n : Nat) : ByteL (l.take n) := fun j => by
  by_cases hj : j < n
  · rw [List.getElem?_take_of_lt hj]; exact h j
  · rw [List.getElem?_eq_none (by rw [List.length_take]; omega)]; simp
theorem RdI.cutTo8 {w : World} {B n : Nat} {k : IntKind} {A : Option Addr} {xs : List Int} (h : RdI w B k A n xs) {m : Nat} (hm : m ≤ n) : RdI w B k A m (xs.take m) :=
  ⟨by rw [List.length_take, h.1]; omega, fun hn => by
    obtain ⟨b, o, e, hb, hc⟩ := h.2 (by omega)
    exact ⟨b, o, e, hb, fun j hj => by rw [hc j (by omega), List.getD_eq_getElem?_getD, List.getD_eq_getElem?_getD, List.getElem?_take_of_lt hj]⟩⟩
theorem splice_all8 {l ys : List Int} (h : ys.length = l.length) : splice l 0 ys = ys := by simp [splice, h]
def OpenPost (l : List Int) (w : World) (e : Ending) (w' : World) : Prop :=
  ∃ A n c, e = .returned (.tuple #[.slice A n c, .bool true]) ∧ n ≤ c ∧ c ≤ maxLen ∧ RdI w' w'.heap.size .u8 A n (l.take (l.length - 2)) ∧ Ext w w' ∧ ∀ b o, A = some ⟨b, o, none⟩ → w.heap.size ≤ b
section
variable (A : Option Addr) (n c : Nat) (l : List Int) (w : World)
set_option maxRecDepth 100000 in
set_option maxHeartbeats 3200000 in
theorem crcOpen_short (hn : n < 2) :
    Calls Try.prog 115 #[.slice A n c] w fun e w' => e = .returned (.tuple #[.slice none 0 0, .bool false]) ∧ w = w' := by
  have f1 : decide ((n : Int) - 2 < 0) = true := by simp; omega
  go_enter Try.func115, Try.ntmps115
  go_wp2_with fail
  go_ret2
  exact ⟨rfl, rfl⟩
set_option maxRecDepth 100000 in
set_option maxHeartbeats 3200000 in
theorem crcOpen_long (hx : RdI w w.heap.size .u8 A n l) (hl : ByteL l) (hn : 2 ≤ n) (hm : n ≤ 1000000) (hnc : n ≤ c) (P : Ending → World → Prop)
    (hP1 : openB l = true → ∀ e w', OpenPost l w e w' → P e w') (hP2 : openB l = false → ∀ w', Ext w w' → P (.returned (.tuple #[.slice none 0 0, .bool false])) w') :
    Calls Try.prog 115 #[.slice A n c] w P := by
  have hln := hx.len
  obtain ⟨m, rfl⟩ : ∃ m, n = m + 2 := ⟨n - 2, by omega⟩
  have hl2 : l.length - 2 = m := by omega
  have hsum := fun w' (E : Ext w w') c' => crcSum_any A m c' (l.take m) w' ((hx.cutTo8 (m := m) (by omega)).ext E) (hl.take m) (by unfold maxLen; omega)
  have hlt : crcOf (l.take m) < 65536 := crcOf_lt (hl.take m)
  obtain ⟨b, o, rfl, hb, hc0⟩ := hx.at_ (show m < m + 2 by omega)
  obtain ⟨b', o', e, _, hc1⟩ := hx.at_ (show m + 1 < m + 2 by omega)
  injection e with e; injection e with e1 e2
  subst e1 e2
  have hopen : openB l = ((l.getD m 0 == ((crcOf (l.take m) % 256 : Nat) : Int)) && (l.getD (m + 1) 0 == ((crcOf (l.take m) / 256 : Nat) : Int))) := by
    unfold openB
    rw [hl2, decide_eq_true (by omega), Bool.true_and]
  have hpost : ∀ e w', OpenPost l w e w' = ∃ A n c, e = .returned (.tuple #[.slice A n c, .bool true]) ∧ n ≤ c ∧ c ≤ maxLen ∧ RdI w' w'.heap.size .u8 A n (l.take m) ∧ Ext w w' ∧ ∀ b o, A = some ⟨b, o, none⟩ → w.heap.size ≤ b := fun e w' => by unfold OpenPost; rw [hl2]
  have hcut : ∀ w', Ext w w' → RdI w' w'.heap.size .u8 (some ⟨b, o, none⟩) (m + 2) l := fun w' E => hx.ext E
  have hsum' := Lib.hid hsum
  have hP1' := Lib.hid hP1
  have hP2' := Lib.hid hP2
  have hpost' := Lib.hid hpost
  have hopen' := Lib.hid hopen
  have hcut' := Lib.hid hcut
  have hln' := Lib.hid hln
  have hcell : ∀ w', Ext w w' → w'.cell? ⟨b, o + m, none⟩ = some (.int .u8 (l.getD m 0)) ∧ w'.cell? ⟨b, o + (m + 1), none⟩ = some (.int .u8 (l.getD (m + 1) 0)) := fun w' E => ⟨(E.cell _ hb).trans hc0, (E.cell _ hb).trans hc1⟩
  have hcell' := Lib.hid hcell
  clear hx hl hsum hP1 hP2 hpost hopen hcut hc0 hc1 hcell hln hl2
  generalize crcOf (l.take m) = S at *
  generalize l.getD m 0 = y0 at *
  generalize l.getD (m + 1) 0 = y1 at *
  have u0 : ((m + 2 : Nat) : Int) - 2 = (m : Int) := by omega
  have f1 : decide ((m : Int) < 0) = false := by simp
  have hc : ¬ c = 0 := by omega
  have i1 : (m : Int) ≤ (c : Int) := by omega
  have ub : IntKind.u8.wrap (S : Int) = ((S % 256 : Nat) : Int) := by rw [IntKind.wrap_u8]; omega
  have ub2 : IntKind.u8.wrap ((S : Int) / 256) = ((S / 256 : Nat) : Int) := by rw [IntKind.wrap_u8]; omega
  generalize ((S % 256 : Nat) : Int) = sl at *
  generalize ((S / 256 : Nat) : Int) = sh at *
  go_enter Try.func115, Try.ntmps115
  go_wp2_with fail
  refine (hsum'.out w (Ext.refl w) _).mono ?_
  rintro e w1 ⟨rfl, D1⟩
  obtain ⟨c0, c1⟩ := hcell'.out w1 D1
  have j1 : m < m + 2 := by omega
  obtain ⟨m1, hm1⟩ : ∃ x : Nat, m + 1 = x := ⟨_, rfl⟩
  rw [hm1] at c1
  have j2 : m1 < m + 2 := by omega
  have j3 : ((m : Int) + 1) = (m1 : Int) := by omega
  have hm1' := Lib.hid hm1
  clear hm1
  cases e0 : (y0 == sl)
  · have e0' : (y0 != sl) = true := by unfold bne; rw [e0]; rfl
    have ho := hopen'.out
    rw [e0, Bool.false_and] at ho
    have ho' := Lib.hid ho
    clear ho hsum'
    go_wp2_with fail
    exact hP2'.out ho'.out w1 D1
  · have e0' : (y0 != sl) = false := by unfold bne; rw [e0]; rfl
    have ho := hopen'.out
    rw [e0, Bool.true_and] at ho
    cases e1 : (y1 == sh)
    · have e1' : (y1 != sh) = true := by unfold bne; rw [e1]; rfl
      rw [e1] at ho
      have ho' := Lib.hid ho
      clear ho hsum'
      go_wp2_with fail
      exact hP2'.out ho'.out w1 D1
    · have e1' : (y1 != sh) = false := by unfold bne; rw [e1]; rfl
      rw [e1] at ho
      have ho' := Lib.hid ho
      have hmk := fun w => run_mkI Try.underlying34 info_u8 (m : Int) m rfl (by omega) (by omega) w
      have B2 : Blk (w1.alloc (.cells (row .u8 (zs m)) 5)) w1.heap.size 5 .u8 (zs m) := heap_alloc_new w1 _
      have E2 := D1.goA (.cells (row .u8 (zs m)) 5)
      have hr2 := (hcut'.out w1 D1).ext ((Ext.refl w1).goA (.cells (row .u8 (zs m)) 5))
      have B2' := Lib.hid B2
      have hs1 := D1.size
      clear ho hsum' B2 e0 e1
      go_wp2_with ((with_reducible refine wpList_copyI rfl (.tmp 36) (.tmp 37) 34 34 rfl Try.underlying34 sz_u8 rfl rfl B2'.out (fun _ => rfl) (by rw [zs_length]; omega) hr2 ?_))
      intro w2 hB2 hM2
      have hB2' := hB2.out
      have hsp : splice (zs m) 0 (l.take m) = l.take m := splice_all8 (by rw [List.length_take, zs_length]; have := hln'.out; omega)
      rw [hsp] at hB2'
      have hrd := hB2'.rd hB2'.lt
      rw [show (l.take m).length = m by rw [List.length_take]; have := hln'.out; omega] at hrd
      have hrd' := Lib.hid hrd
      have hM2' := Lib.hid hM2
      clear hB2 hB2' hrd hM2 B2' hr2 hmk hsp
      go_wp2_with fail
      refine hP1'.out ho'.out _ _ ?_
      rw [hpost'.out]
      exact ⟨_, m, m, rfl, Nat.le_refl _, by unfold maxLen; omega, hrd'.out, E2.goM hM2'.out (fun i hi => by have hi : i = w1.heap.size := hi; omega), fun b o e => by injection e with e; injection e with e; omega⟩
end
end Go.Proofs.Ytgagpalffdgjnaa
namespace Go.Proofs.Ytgagpalffdgjnaa
open Go.RowKit

set_option maxRecDepth 100000 in
set_option maxHeartbeats 3200000 in
theorem ref01Sum_any (A : Option Addr) (n c : Nat) (l : List Int) (w : World) (hx : RdI w w.heap.size .u8 A n l) (hl : ByteL l) (hn : n ≤ maxLen) :
    Calls Try.prog 105 #[.slice A n c] w fun e w' => e = .returned (.int .u16 (crcOf l)) ∧ w = w' := by
  have hln := hx.len
  have hx' := Lib.hid hx
  have hl' := Lib.hid hl
  have hln' := Lib.hid hln
  unfold maxLen at hn
  clear hx hl hln
  go_enter Try.func105, Try.ntmps105
  go_wp2_with fail
  go_loopw [4, 3] (fun i s wr => ∃ k : Nat, k ≤ n ∧ i = .int .i64 k ∧ s = .int .u16 (crcFold 65535 (l.take k) : Nat) ∧ w = wr) (fun i _ _ => n - (intOf i).toNat)
  case atStart => exact ⟨0, by omega, rfl, rfl, rfl⟩
  case round =>
    obtain ⟨k, hk, rfl, rfl, rfl⟩ := hrel
    by_cases hlt : k < n
    · have hkl : k < l.length := by rw [hln'.out]; exact hlt
      obtain ⟨b, o, rfl, hb, hc⟩ := hx'.out.at_ hlt
      have hby := hl'.out k
      rw [← List.getD_eq_getElem?_getD] at hby
      obtain ⟨y, hy⟩ := Int.eq_ofNat_of_zero_le hby.1
      rw [hy] at hby hc
      have hy256 : y < 256 := by omega
      have htk : l.take (k + 1) = l.take k ++ [(y : Int)] := by
        rw [List.take_succ_eq_append_getElem hkl, ← hy, List.getD_eq_getElem?_getD, List.getElem?_eq_getElem hkl]
        rfl
      have hs : crcFold 65535 (l.take k) < 65536 := crcFold_lt (by omega) (fun z hz => by
        obtain ⟨j, hj, rfl⟩ := List.mem_iff_getElem.1 (List.mem_of_mem_take hz)
        have := hl'.out j
        rw [List.getElem?_eq_getElem hj] at this
        exact this.2)
      have hfold : crcFold 65535 (l.take (k + 1)) = crcSteps 8 (crcFold 65535 (l.take k) ^^^ y) := by rw [htk, crcFold_snoc]; rfl
      generalize crcFold 65535 (l.take k) = s at *
      have x1 := u16_xor_nat s y hs (by omega)
      have hxl : s ^^^ y < 65536 := Nat.xor_lt_two_pow (n := 16) (by omega) (by omega)
      generalize s ^^^ y = x at *
      have hfold' := Lib.hid hfold
      have yw : IntKind.u16.wrap (y : Int) = (y : Int) := by rw [IntKind.wrap_u16]; omega
      clear hfold htk hy hby
      go_wp2_with fail
      clear x1 yw hc
      go_loopw [5, 3] (fun i v w' => ∃ j : Nat, j ≤ 8 ∧ i = .int .i64 j ∧ v = .int .u16 (crcSteps j x : Nat) ∧ w = w') (fun i _ _ => 8 - (intOf i).toNat)
      case atStart => exact ⟨0, by omega, rfl, rfl, rfl⟩
      case round =>
        obtain ⟨j, hj, rfl, rfl, rfl⟩ := hrel
        by_cases hjl : j < 8
        · have hz : crcSteps j x < 65536 := crcSteps_lt hxl
          have hs2 : crcSteps (j + 1) x = crcSteps j x / 2 ^^^ (if crcSteps j x % 2 = 1 then 40961 else 0) := crcSteps_snoc j x
          have hxo := u16_xor_nat (crcSteps j x / 2) 40961 (by omega) (by omega)
          generalize crcSteps j x = z at *
          have hs2' := Lib.hid hs2
          have hxo' : bits .xor .u16 ((z : Int) / 2) 40961 = ((z / 2 ^^^ 40961 : Nat) : Int) := by
            rw [← hxo]; rfl
          clear hxo hs2
          rcases Nat.mod_two_eq_zero_or_one z with hm | hm
          · have hf : ((z : Int) % 2 == 1) = false := by simp; omega
            go_wp2_with fail
            go_roundw
            case rel => exact ⟨j + 1, by omega, by go_num, by rw [hs2'.out, if_neg (by omega), Nat.xor_zero]; rfl, by trivial⟩
            case measure => simp [intOf]; omega
          · have hf : ((z : Int) % 2 == 1) = true := by simp; omega
            go_wp2_with fail
            go_roundw
            case rel => exact ⟨j + 1, by omega, by go_num, by rw [hs2'.out, if_pos hm], by trivial⟩
            case measure => simp [intOf]; omega
        · obtain rfl : j = 8 := by omega
          go_wp2_with fail
          go_roundw
          case rel => exact ⟨k + 1, by omega, by go_num, by rw [hfold'.out], by trivial⟩
          case measure => simp [intOf]; omega
    · obtain rfl : k = n := by omega
      go_wp2_with fail
      go_ret
      exact ⟨by rw [List.take_of_length_le (by rw [hln'.out]; exact Nat.le_refl _)]; rfl, rfl⟩
set_option maxRecDepth 100000 in
set_option maxHeartbeats 3200000 in
theorem ref01Seal_any (A : Option Addr) (n c : Nat) (l : List Int) (w : World) (hx : RdI w w.heap.size .u8 A n l) (hl : ByteL l) (hn : n ≤ 1000000) :
    Calls Try.prog 68 #[.slice A n c] w (FreshI .u8 (sealL l) w) := by
  have hlt := crcOf_lt hl
  have hsum := ref01Sum_any A n c l w hx hl (by unfold maxLen; omega)
  have hsz : sealL l = l ++ [((crcOf l % 256 : Nat) : Int), ((crcOf l / 256 : Nat) : Int)] := rfl
  have hsz' := Lib.hid hsz
  have hsum' := Lib.hid hsum
  have E1 := (Ext.refl w).goA (.cells #[] 5)
  have hx1 := hx.ext E1
  have hown := own_empty (w := w) (base := w.heap.size) 5 .u8 rfl (Nat.le_refl _)
  clear hx hl hsum hsz
  generalize crcOf l = S at *
  have ub : IntKind.u8.wrap (S : Int) = ((S % 256 : Nat) : Int) := by rw [IntKind.wrap_u8]; omega
  have ub2 : IntKind.u8.wrap ((S : Int) / 256) = ((S / 256 : Nat) : Int) := by rw [IntKind.wrap_u8]; omega
  generalize hsl : ((S % 256 : Nat) : Int) = sl at *
  generalize hsh : ((S / 256 : Nat) : Int) = sh at *
  clear hsl hsh
  go_enter Try.func68, Try.ntmps68
  go_wp2_with fail
  refine hsum'.out.mono ?_
  rintro e w1 ⟨rfl, rfl⟩
  go_wp2_with (first
    | (at_builtin; refine wpList_appI rfl (.tmp 6) (.tmp 7) _ rfl Try.underlying34 info_u8 hown rfl hx1 rfl (by omega) (by omega) (by simp) ?_; intro v2 w2 own2 hg2 hat2; rw [List.nil_append, Nat.zero_add] at own2; have E2 : Ext w w2 := E1.goG hg2 (fun i hi => by have hi' : some w.heap.size = some i := hi; injection hi' with hi'; omega); have hb2 := E2.size)
    | (at_builtin; refine wpList_appI rfl (.tmp 8) (.tmp 14) _ rfl Try.underlying34 info_u8 (own2.alloc _) rfl (RdI.pair _ _ _ _ _) rfl (by omega) (by omega) (by simp; omega) ?_; intro v3 w3 own3 hg3 hat3))
  go_ret
  obtain ⟨A3, c3, rfl, ⟨g1, g2⟩, r3⟩ := own_rd own3
  rw [hsz'.out]
  exact ⟨A3, _, c3, rfl, g1, g2, r3, (E2.goA _).goG hg3 (fun i hi => (own2.lt i hi).1), fun b o e => by subst e; exact (own3.lt b rfl).1⟩
end Go.Proofs.Ytgagpalffdgjnaa
namespace Go.Proofs.Ytgagpalffdgjnaa
open Go.RowKit

/-- A line as it is: what waits, what it is busy with, when that was sent, how often, the last number, and what came. -/
structure Lp where
  U : List Jp
  O : List Jp
  busy : Bool
  J : Jp
  sent : Int
  times : Int
  num : Int
  cm : List Int
/-- A line in memory. -/
structure Lm where
  U : List Jm
  O : List Jm
  busy : Bool
  J : Jm
  sent : Int
  times : Int
  num : Int
  cm : List Int
def Lm.p (M : Lm) : Lp := ⟨M.U.map Jm.p, M.O.map Jm.p, M.busy, M.J.p, M.sent, M.times, M.num, M.cm⟩
/-- Numbers of sixteen bits. -/
def Word16 (xs : List Int) : Prop := ∀ j : Nat, 0 ≤ xs[j]?.getD 0 ∧ xs[j]?.getD 0 ≤ 65535
def Jp.ok (p : Jp) : Prop := 1 ≤ p.un ∧ p.un ≤ 247 ∧ rightB' p.fc p.ad p.qt p.to p.xs = true ∧ Word16 p.xs
/-- A slice that lies in none of these blocks. -/
def OffB (S : Nat → Prop) (A : Option Addr) (n : Nat) : Prop := 0 < n → ∀ b o, A = some ⟨b, o, none⟩ → ¬ S b
structure OkJ (w : World) (S : Nat → Prop) (j : Jm) : Prop where
  rd : RdI w w.heap.size .u16 j.A j.n j.p.xs
  nc : j.n ≤ j.c
  cm : j.c ≤ maxLen
  off : OffB S j.A j.n
/-- The line's own blocks. -/
def LnB (k : Bool) (a q cu co s : Nat) : Nat → Prop := fun i => i = a ∨ i = q ∨ i = cu ∨ i = co ∨ (k = true ∧ i = s)
/-- How it frames. -/
def trV (k : Bool) (s : Nat) : Value := if k then .iface 106 (.pointer (some ⟨s, 0, none⟩)) else .iface 99 (.agg #[])
def lineCells (k : Bool) (s q : Nat) (re wa : Int) (busy : Bool) (J : Jm) (sent times : Int) : Array Value :=
  #[trV k s, .int .i64 re, .int .i64 wa, .pointer (some ⟨q, 0, none⟩), .bool busy, .int .i64 J.p.id, .int .i64 J.p.un, .int .i64 J.p.fc, .int .i64 J.p.ad, .int .i64 J.p.qt, .slice J.A J.n J.c, .int .i64 J.p.to, .bool J.p.u, .int .i64 sent, .int .i64 times]
/-- A stream's number, and what came. -/
def HasTr (w : World) (S : Nat → Prop) (s : Nat) (num : Int) (cm : List Int) : Prop :=
  ∃ A n c, w.heap[s]? = some (.cells #[.int .u16 num, .slice A n c] 108 (0, 0)) ∧ RdI w w.heap.size .u8 A n cm ∧ ByteL cm ∧ n ≤ c ∧ c ≤ maxLen ∧ OffB S A n
structure HasLn (k : Bool) (w : World) (a q cu co s : Nat) (re wa : Int) (M : Lm) : Prop where
  head : w.heap[a]? = some (.cells (lineCells k s q re wa M.busy M.J M.sent M.times) 105 (0, 0))
  qu : Qu w q cu co (M.U.map Jm.v) (M.O.map Jm.v)
  jobs : ∀ j, (j ∈ M.U ∨ j ∈ M.O ∨ (M.busy = true ∧ j = M.J)) → OkJ w (LnB k a q cu co s) j ∧ j.p.ok
  tr : k = true → HasTr w (LnB k a q cu co s) s M.num M.cm
  num : 0 ≤ M.num ∧ M.num ≤ 65535
  re : 0 ≤ re ∧ re ≤ 7
  wa : 1 ≤ wa ∧ wa ≤ 1000
  ul : M.U.length ≤ 64
  ol : M.O.length ≤ 64
  ti : 0 ≤ M.times ∧ M.times ≤ 8
  se : 0 ≤ M.sent ∧ M.sent ≤ 1099511627776

section
variable {k : Bool} {w w' : World} {a q cu co s n : Nat} {re wa : Int} {M : Lm} {S : Nat → Prop} {j : Jm} {kd : IntKind} {A : Option Addr} {xs : List Int}
theorem RdI.modS (h : RdI w w.heap.size kd A n xs) (ho : OffB S A n) (m : Mod S w w') : RdI w' w'.heap.size kd A n xs :=
  ⟨h.1, fun hn => by
    obtain ⟨b, o, e, hb, hc⟩ := h.2 hn
    exact ⟨b, o, e, Nat.lt_of_lt_of_le hb m.size, fun i hi => (m.cell (o + i) hb (ho hn b o e)).trans (hc i hi)⟩⟩
theorem OffB.weak {S' : Nat → Prop} (ho : OffB S A n) (h : ∀ i, S' i → S i) : OffB S' A n := fun hn b o e hs => ho hn b o e (h b hs)
theorem OkJ.modS (h : OkJ w S j) (m : Mod S w w') : OkJ w' S j := ⟨h.rd.modS h.off m, h.nc, h.cm, h.off⟩
theorem OkJ.ext (h : OkJ w S j) (E : Ext w w') : OkJ w' S j := ⟨h.rd.ext E, h.nc, h.cm, h.off⟩
theorem HasTr.ext {num : Int} {cm : List Int} (h : HasTr w S s num cm) (E : Ext w w') : HasTr w' S s num cm := by
  obtain ⟨A, n, c, hb, hr, hl⟩ := h
  exact ⟨A, n, c, (E.block s (lt_of_block hb)).trans hb, hr.ext E, hl⟩
/-- Where its own block is as it was. -/
theorem HasTr.modS {num : Int} {cm : List Int} (h : HasTr w S s num cm) (m : Mod S w w') (hs : w'.heap[s]? = w.heap[s]?) : HasTr w' S s num cm := by
  obtain ⟨A, n, c, hb, hr, hl, h1, h2, h3⟩ := h
  exact ⟨A, n, c, hs.trans hb, hr.modS h3 m, hl, h1, h2, h3⟩
theorem HasLn.lt (h : HasLn k w a q cu co s re wa M) {b : Nat} (hb : LnB k a q cu co s b) : b < w.heap.size := by
  rcases hb with rfl | rfl | rfl | rfl | ⟨hk, rfl⟩
  · exact lt_of_block h.head
  · exact h.qu.old (.inl rfl)
  · exact h.qu.old (.inr (.inl rfl))
  · exact h.qu.old (.inr (.inr rfl))
  · obtain ⟨_, _, _, hb, _⟩ := h.tr hk
    exact lt_of_block hb
theorem HasLn.ext (h : HasLn k w a q cu co s re wa M) (E : Ext w w') : HasLn k w' a q cu co s re wa M :=
  ⟨(E.block a (h.lt (.inl rfl))).trans h.head, h.qu.ext E, fun j hj => ⟨(h.jobs j hj).1.ext E, (h.jobs j hj).2⟩, fun hk => (h.tr hk).ext E, h.num, h.re, h.wa, h.ul, h.ol, h.ti, h.se⟩
/-- The line's block is none of the queue's, and no stream's. -/
theorem HasLn.apart (h : HasLn k w a q cu co s re wa M) : a ≠ q ∧ a ≠ cu ∧ a ≠ co ∧ (k = true → a ≠ s ∧ q ≠ s ∧ cu ≠ s ∧ co ≠ s) := by
  obtain ⟨x, y, e⟩ := h.qu.urg
  obtain ⟨x', y', e'⟩ := h.qu.oth
  have hq := h.qu.head
  have ha := h.head
  unfold lineCells at ha
  refine ⟨fun hh => ?_, fun hh => ?_, fun hh => ?_, fun hk => ?_⟩
  · rw [hh, hq] at ha; simp at ha
  · rw [hh, e] at ha; simp at ha
  · rw [hh, e'] at ha; simp at ha
  · obtain ⟨A, n, c, hs, _⟩ := h.tr hk
    refine ⟨fun hh => ?_, fun hh => ?_, fun hh => ?_, fun hh => ?_⟩
    · rw [hh, hs] at ha; simp at ha
    · rw [hh, hs] at hq; simp at hq
    · rw [hh, hs] at e; simp at e
    · rw [hh, hs] at e'; simp at e'
/-- The cells of the line's block. -/
theorem HasLn.cells (h : HasLn k w a q cu co s re wa M) :
    w.cell? ⟨a, 0, none⟩ = some (trV k s) ∧ w.cell? ⟨a, 1, none⟩ = some (.int .i64 re) ∧ w.cell? ⟨a, 2, none⟩ = some (.int .i64 wa) ∧ w.cell? ⟨a, 3, none⟩ = some (.pointer (some ⟨q, 0, none⟩)) ∧ w.cell? ⟨a, 4, none⟩ = some (.bool M.busy) ∧
    w.cell? ⟨a, 5, none⟩ = some (.int .i64 M.J.p.id) ∧ w.cell? ⟨a, 6, none⟩ = some (.int .i64 M.J.p.un) ∧ w.cell? ⟨a, 7, none⟩ = some (.int .i64 M.J.p.fc) ∧ w.cell? ⟨a, 8, none⟩ = some (.int .i64 M.J.p.ad) ∧ w.cell? ⟨a, 9, none⟩ = some (.int .i64 M.J.p.qt) ∧
    w.cell? ⟨a, 10, none⟩ = some (.slice M.J.A M.J.n M.J.c) ∧ w.cell? ⟨a, 11, none⟩ = some (.int .i64 M.J.p.to) ∧ w.cell? ⟨a, 12, none⟩ = some (.bool M.J.p.u) ∧ w.cell? ⟨a, 13, none⟩ = some (.int .i64 M.sent) ∧ w.cell? ⟨a, 14, none⟩ = some (.int .i64 M.times) := by
  have hc := cellsAt h.head
  exact ⟨hc 0, hc 1, hc 2, hc 3, hc 4, hc 5, hc 6, hc 7, hc 8, hc 9, hc 10, hc 11, hc 12, hc 13, hc 14⟩
end
end Go.Proofs.Ytgagpalffdgjnaa
namespace Go.Proofs.Ytgagpalffdgjnaa
open Go.RowKit

def askOk (L : Lp) (p : Jp) : Bool := (decide (1 ≤ p.un) && decide (p.un ≤ 247) && rightB' p.fc p.ad p.qt p.to p.xs) && decide ((if p.u then L.U else L.O).length < 64)
def askL (L : Lp) (p : Jp) : Lp := if p.u then { L with U := L.U ++ [p] } else { L with O := L.O ++ [p] }
def AskPost (k : Bool) (a q cu co s : Nat) (re wa : Int) (M : Lm) (p : Jp) (w : World) (e : Ending) (w' : World) : Prop :=
  (askOk M.p p = true ∧ e = .returned (.bool true) ∧ Mod (LnB k a q cu co s) w w' ∧ ∃ M', M'.p = askL M.p p ∧ HasLn k w' a q cu co s re wa M') ∨
  (askOk M.p p = false ∧ e = .returned (.bool false) ∧ Ext w w')
theorem right_len {fc ad qt to : Int} {xs : List Int} (h : rightB' fc ad qt to xs = true) : xs.length ≤ 2000 := by
  unfold rightB' at h
  cases hs : shapeOf fc with
  | none => rw [hs] at h; simp at h
  | some s =>
    rw [hs] at h
    simp only [Bool.and_eq_true] at h
    have := shape_bounds hs
    exact holds_len ⟨this.1, this.2.1, this.2.2.1, this.2.2.2⟩ h.1

theorem ask_done {k : Bool} {a q cu co s : Nat} {re wa : Int} {M : Lm} {id un fc ad qt to : Int} {xs : List Int} {u b : Bool} {A2 : Option Addr} {n2 c2 : Nat} {w w3 w4 : World} (hrb : rightB' fc ad qt to xs = true) (hr : Word16 xs) (h : HasLn k w a q cu co s re wa M) (E3 : Ext w w3)
    (h3 : HasLn k w3 a q cu co s re wa M) (r3 : RdI w3 w3.heap.size .u16 A2 n2 xs) (g1 : n2 ≤ c2) (g2 : c2 ≤ maxLen) (hoff : OffB (LnB k a q cu co s) A2 n2) (u1 : 1 ≤ un) (u2 : un ≤ 247)
    (hpost : ((if u = true then List.map Jm.v M.U else List.map Jm.v M.O).length < 64 ∧ b = true ∧ Mod (fun i => i = cu ∨ i = co) w3.drew w4 ∧
      Qu w4 q cu co (if u = true then List.map Jm.v M.U ++ [jobV id un fc ad qt A2 n2 c2 to u] else List.map Jm.v M.U) (if u = true then List.map Jm.v M.O else List.map Jm.v M.O ++ [jobV id un fc ad qt A2 n2 c2 to u])) ∨
      (64 ≤ (if u = true then List.map Jm.v M.U else List.map Jm.v M.O).length ∧ b = false ∧ Ext w3.drew w4)) :
    AskPost k a q cu co s re wa M ⟨id, un, fc, ad, qt, xs, to, u⟩ w (.returned (.bool b)) w4 := by
  have hL : (if u = true then List.map Jm.v M.U else List.map Jm.v M.O).length = (if u = true then M.p.U else M.p.O).length := by cases u <;> simp [Lm.p]
  rw [hL] at hpost
  have hz : ∀ y : Bool, decide ((if u = true then M.p.U else M.p.O).length < 64) = y → askOk M.p ⟨id, un, fc, ad, qt, xs, to, u⟩ = y := fun y hy => by
    unfold askOk
    dsimp only
    rw [hrb, hy, show decide (1 ≤ un) = true from decide_eq_true (by omega), show decide (un ≤ 247) = true from decide_eq_true (by omega)]
    simp
  rcases hpost with ⟨hl, rfl, hM, hQ⟩ | ⟨hl, rfl, hE⟩
  · have hM3 : Mod (LnB k a q cu co s) w3 w4 := (((Ext.refl w3).god.mod _).trans hM).weak (fun i hi => by
      rcases hi with rfl | rfl
      · exact .inr (.inr (.inl rfl))
      · exact .inr (.inr (.inr (.inl rfl))))
    have hMw : Mod (LnB k a q cu co s) w w4 := (E3.mod _).trans hM3
    have hap := h3.apart
    have hst : ∀ i, i < w3.heap.size → i ≠ cu → i ≠ co → w4.heap[i]? = w3.heap[i]? := fun i hi n1 n2 => hM.block i hi (fun e => e.elim n1 n2)
    have hnew : ∀ w', w' = w4 → OkJ w' (LnB k a q cu co s) ⟨⟨id, un, fc, ad, qt, xs, to, u⟩, A2, n2, c2⟩ := fun w' e => by
      subst e
      exact ⟨r3.modS hoff hM3, g1, g2, hoff⟩
    have hok : Jp.ok ⟨id, un, fc, ad, qt, xs, to, u⟩ := ⟨by dsimp only; omega, by dsimp only; omega, hrb, hr⟩
    have hold : ∀ j, (j ∈ M.U ∨ j ∈ M.O ∨ (M.busy = true ∧ j = M.J)) → OkJ w4 (LnB k a q cu co s) j ∧ j.p.ok := fun j hj => ⟨(h3.jobs j hj).1.modS hM3, (h3.jobs j hj).2⟩
    refine .inl ⟨hz _ (decide_eq_true hl), rfl, hMw, ?_⟩
    cases u
    · refine ⟨{ M with O := M.O ++ [⟨⟨id, un, fc, ad, qt, xs, to, false⟩, A2, n2, c2⟩] }, by simp [Lm.p, askL], ?_, ?_, ?_, ?_, h3.num, h3.re, h3.wa, h3.ul, ?_, h3.ti, h3.se⟩
      · exact (hst a (lt_of_block h3.head) hap.2.1 hap.2.2.1).trans h3.head
      · simpa [Jm.v] using hQ
      · intro j hj
        rcases hj with hj | hj | hj
        · exact hold j (.inl hj)
        · rcases List.mem_append.1 hj with hj | hj
          · exact hold j (.inr (.inl hj))
          · obtain rfl := List.mem_singleton.1 hj
            exact ⟨hnew _ rfl, hok⟩
        · exact hold j (.inr (.inr hj))
      · exact fun hk => (h3.tr hk).modS hM3 (hst s (h3.lt (.inr (.inr (.inr (.inr ⟨hk, rfl⟩))))) (Ne.symm (hap.2.2.2 hk).2.2.1) (Ne.symm (hap.2.2.2 hk).2.2.2))
      · have : M.O.length < 64 := by simpa [Lm.p] using hl
        simp only [List.length_append, List.length_cons, List.length_nil]; omega
    · refine ⟨{ M with U := M.U ++ [⟨⟨id, un, fc, ad, qt, xs, to, true⟩, A2, n2, c2⟩] }, by simp [Lm.p, askL], ?_, ?_, ?_, ?_, h3.num, h3.re, h3.wa, ?_, h3.ol, h3.ti, h3.se⟩
      · exact (hst a (lt_of_block h3.head) hap.2.1 hap.2.2.1).trans h3.head
      · simpa [Jm.v] using hQ
      · intro j hj
        rcases hj with hj | hj | hj
        · rcases List.mem_append.1 hj with hj | hj
          · exact hold j (.inl hj)
          · obtain rfl := List.mem_singleton.1 hj
            exact ⟨hnew _ rfl, hok⟩
        · exact hold j (.inr (.inl hj))
        · exact hold j (.inr (.inr hj))
      · exact fun hk => (h3.tr hk).modS hM3 (hst s (h3.lt (.inr (.inr (.inr (.inr ⟨hk, rfl⟩))))) (Ne.symm (hap.2.2.2 hk).2.2.1) (Ne.symm (hap.2.2.2 hk).2.2.2))
      · have : M.U.length < 64 := by simpa [Lm.p] using hl
        simp only [List.length_append, List.length_cons, List.length_nil]; omega
  · exact .inr ⟨hz _ (decide_eq_false (by omega)), rfl, E3.go ((Ext.refl w3).god.go hE)⟩
section
variable (k : Bool) (a q cu co s : Nat) (re wa : Int) (M : Lm) (p : Jp) (A : Option Addr) (n c : Nat) (w : World)
set_option maxRecDepth 100000 in
set_option maxHeartbeats 1600000 in
theorem lineAsk_any (h : HasLn k w a q cu co s re wa M) (hx : RdI w w.heap.size .u16 A n p.xs) (hr : Word16 p.xs) (hn : n ≤ maxLen) :
    Calls Try.prog 12 #[.pointer (some ⟨a, 0, none⟩), jobV p.id p.un p.fc p.ad p.qt A n c p.to p.u] w (AskPost k a q cu co s re wa M p w) := by
  obtain ⟨id, un, fc, ad, qt, xs, to, u⟩ := p
  dsimp only at hx hr ⊢
  have h' := Lib.hid h
  have hr' := Lib.hid hr
  have hln := hx.len
  have E0 := (Ext.refl w).goA (.cells #[.int .i64 id, .int .i64 un, .int .i64 fc, .int .i64 ad, .int .i64 qt, .slice A n c, .int .i64 to, .bool u] 32)
  have hb := heap_alloc_new w (.cells #[.int .i64 id, .int .i64 un, .int .i64 fc, .int .i64 ad, .int .i64 qt, .slice A n c, .int .i64 to, .bool u] 32)
  have hx0 := Lib.hid (hx.ext E0)
  have hb' := Lib.hid hb
  have qlt : q < w.heap.size := h.lt (.inr (.inl rfl))
  unfold jobV
  by_cases h1 : un < 1
  · have hz : askOk M.p ⟨id, un, fc, ad, qt, xs, to, u⟩ = false := by unfold askOk; rw [show decide (1 ≤ un) = false from decide_eq_false (by omega)]; rfl
    have f1 : decide (un < 1) = true := by simp; exact h1
    have f2 : decide (1 ≤ un) = false := by simp; omega
    have hz' := Lib.hid hz
    clear h hr hx hz hb
    go_enter Try.func12, Try.ntmps12
    go_wp2_with fail
    go_ret
    exact .inr ⟨hz'.out, rfl, E0⟩
  by_cases h2 : 247 < un
  · have hz : askOk M.p ⟨id, un, fc, ad, qt, xs, to, u⟩ = false := by unfold askOk; rw [show decide (un ≤ 247) = false from decide_eq_false (by omega)]; simp
    have f1 : decide (un < 1) = false := by simp; omega
    have f3 : decide (247 < un) = true := by simp; exact h2
    have hz' := Lib.hid hz
    clear h hr hx hz hb
    go_enter Try.func12, Try.ntmps12
    go_wp2_with fail
    go_ret
    exact .inr ⟨hz'.out, rfl, E0⟩
  have f1 : decide (un < 1) = false := by simp; omega
  have f3 : decide (247 < un) = false := by simp; omega
  have hcall := pduRight_any fc ad qt to A n c xs _ hx0.out hn
  generalize hrb : rightB' fc ad qt to xs = rb at hcall
  have hrb' := Lib.hid hrb
  cases rb
  · have hz : askOk M.p ⟨id, un, fc, ad, qt, xs, to, u⟩ = false := by unfold askOk; dsimp only; rw [hrb]; simp
    have hz' := Lib.hid hz
    clear h hr hx hz hb hrb
    go_enter Try.func12, Try.ntmps12
    go_wp2_with (go_at_call 44; refine hcall.mono ?_; rintro _ w1 ⟨rfl, E1⟩; dsimp only)
    go_ret
    exact .inr ⟨hz'.out, rfl, E0.go E1⟩
  · have hlen := right_len hrb
    clear h hr hx hb hrb
    go_enter Try.func12, Try.ntmps12
    go_upto_region 3 with (go_at_call 44; refine hcall.mono ?_; rintro _ w1 ⟨rfl, E1⟩; dsimp only)
    have hb1 := (E1.block w.heap.size (by simp)).trans hb'.out
    have z5 := cellsAt hb1 5
    have ff := frozen_block hb1 5
    have hc := clone16_any A n c xs w1 (hx0.out.ext E1) (by omega)
    go_upto_region 4 with (go_at_call 45; refine hc.mono ?_; rintro _ w2 ⟨A2, n2, c2, rfl, g1, g2, r2, E2, fr2⟩; have z25 : w2.cell? ⟨w.heap.size, 5, none⟩ = some (.slice A n c) := (E2.cell 5 (lt_of_block hb1)).trans z5; have ff2 := (E2.frozen 5 (lt_of_block hb1)).trans ff; dsimp only)
    have E3 : Ext w (w2.setCell ⟨w.heap.size, 5, none⟩ (.slice A2 n2 c2)) := ((E0.go E1).go E2).goS (Nat.le_refl _) _
    have hb2 := sets_block ((E2.block _ (lt_of_block hb1)).trans hb1) 5 (.slice A2 n2 c2)
    have D3 : Mod (fun i => i = w.heap.size) w2 (w2.setCell ⟨w.heap.size, 5, none⟩ (.slice A2 n2 c2)) := (Mod.refl (fun i => i = w.heap.size) w2).setCell (.inl rfl) _
    have hof : OffB (fun i => i < w1.heap.size) A2 n2 := fun _ b o e hlt => by have := fr2 b o e; omega
    have hlt : w.heap.size < w1.heap.size := lt_of_block hb1
    have hoff : OffB (LnB k a q cu co s) A2 n2 := hof.weak (fun i hi => Nat.lt_trans (h'.out.lt hi) hlt)
    have r3 := r2.modS (hof.weak (fun i hi => by subst hi; exact hlt)) D3
    generalize w2.setCell ⟨w.heap.size, 5, none⟩ (.slice A2 n2 c2) = w3 at *
    have h3 := Lib.hid (h'.out.ext E3)
    have d3 := h3.out.cells.2.2.2.1
    have y0 : w3.cell? ⟨w.heap.size, 0, none⟩ = some (.int .i64 id) := cellsAt hb2 0
    have y1 : w3.cell? ⟨w.heap.size, 1, none⟩ = some (.int .i64 un) := cellsAt hb2 1
    have y2 : w3.cell? ⟨w.heap.size, 2, none⟩ = some (.int .i64 fc) := cellsAt hb2 2
    have y3 : w3.cell? ⟨w.heap.size, 3, none⟩ = some (.int .i64 ad) := cellsAt hb2 3
    have y4 : w3.cell? ⟨w.heap.size, 4, none⟩ = some (.int .i64 qt) := cellsAt hb2 4
    have y5 : w3.cell? ⟨w.heap.size, 5, none⟩ = some (.slice A2 n2 c2) := cellsAt hb2 5
    have y6 : w3.cell? ⟨w.heap.size, 6, none⟩ = some (.int .i64 to) := cellsAt hb2 6
    have y7 : w3.cell? ⟨w.heap.size, 7, none⟩ = some (.bool u) := cellsAt hb2 7
    have hput := fun g w' => qPut_any q cu co g u (M.U.map Jm.v) (M.O.map Jm.v) id un fc ad qt A2 n2 c2 to w'
    unfold jobV at hput
    clear z25 ff2 hc ff z5 hb1 fr2 hb2 D3 r2
    have hputr := hput u w3.drew (h3.out.ext ((Ext.refl w3).god)).qu
    go_region_law (first
      | (go_simp
         go_at_call 46
         refine hputr.mono ?_
         rintro _ w4 ⟨b, rfl, hpost⟩
         dsimp only))
    all_goals
      go_wp2_with fail
      go_ret
      exact ask_done hrb'.out hr'.out h'.out E3 h3.out r3 g1 g2 hoff (by omega) (by omega) hpost
end
end Go.Proofs.Ytgagpalffdgjnaa
