/- Layer 1, the walks: Sum, Seal. -/
import Derived.Test.YtgagpalffdgjnaaG28
import Derived.Test.YtgagpalffdgjnaaG04
namespace Go.Proofs.Ytgagpalffdgjnaa
open Go.RowKit

theorem crcAnd15 {x : Nat} (h : x < 65536) : bits .and .u16 (x : Int) 15 = ((x % 16 : Nat) : Int) := by
  have := u16_and_nat x 15 h (by omega)
  rw [show (15 : Nat) = 2 ^ 4 - 1 by rfl, Nat.and_two_pow_sub_one_eq_mod] at this
  exact this
set_option maxRecDepth 100000 in
set_option maxHeartbeats 3200000 in
theorem crcSum_any (A : Option Addr) (n c : Nat) (l : List Int) (w : World) (hx : RdI w w.heap.size .u8 A n l) (hl : ByteL l) (hn : n ≤ maxLen) :
    Calls Try.prog 125 #[.slice A n c] w fun e w' => e = .returned (.int .u16 (crcOf l)) ∧ Ext w w' := by
  have hln := hx.len
  have hx' := Lib.hid hx
  have hl' := Lib.hid hl
  have hln' := Lib.hid hln
  unfold maxLen at hn
  clear hx hl hln
  go_enter Try.func125, Try.ntmps125
  go_wp2_with fail
  refine (crcTable_any w).mono ?_
  rintro e w1 ⟨rfl, D1⟩
  have T1 : Blk (w1.alloc (.cells #[.int .u16 0, .int .u16 52225, .int .u16 55297, .int .u16 5120, .int .u16 61441, .int .u16 15360, .int .u16 10240, .int .u16 58369, .int .u16 40961, .int .u16 27648, .int .u16 30720, .int .u16 46081, .int .u16 20480, .int .u16 39937, .int .u16 34817, .int .u16 17408] 199)) w1.heap.size 199 .u16 crcTabL := heap_alloc_new w1 _
  have E1 := D1.goA (.cells #[.int .u16 0, .int .u16 52225, .int .u16 55297, .int .u16 5120, .int .u16 61441, .int .u16 15360, .int .u16 10240, .int .u16 58369, .int .u16 40961, .int .u16 27648, .int .u16 30720, .int .u16 46081, .int .u16 20480, .int .u16 39937, .int .u16 34817, .int .u16 17408] 199)
  have T1' := Lib.hid T1
  clear T1
  go_wp2_with fail
  generalize w1.alloc (.cells #[.int .u16 0, .int .u16 52225, .int .u16 55297, .int .u16 5120, .int .u16 61441, .int .u16 15360, .int .u16 10240, .int .u16 58369, .int .u16 40961, .int .u16 27648, .int .u16 30720, .int .u16 46081, .int .u16 20480, .int .u16 39937, .int .u16 34817, .int .u16 17408] 199) = W at *
  go_loopw [10, 4, 6] (fun i s o wr => ∃ k : Nat, k ≤ n ∧ i = .int .i64 k ∧ s = .int .u16 (crcFold 65535 (l.take k) : Nat) ∧ W = wr) (fun i _ _ _ => n - (intOf i).toNat)
  case atStart => exact ⟨0, by omega, rfl, rfl, rfl⟩
  case round =>
    obtain ⟨k, hk, rfl, rfl, rfl⟩ := hrel
    by_cases hlt : k < n
    · have hkl : k < l.length := by rw [hln'.out]; exact hlt
      obtain ⟨b, o, rfl, hb, hc⟩ := hx'.out.at_ hlt
      have hby := hl'.out k
      rw [← List.getD_eq_getElem?_getD] at hby
      obtain ⟨y, hy⟩ := Int.eq_ofNat_of_zero_le hby.1
      rw [hy] at hby hc
      have hy256 : y < 256 := by omega
      have htk : l.take (k + 1) = l.take k ++ [(y : Int)] := by
        rw [List.take_succ_eq_append_getElem hkl, ← hy, List.getD_eq_getElem?_getD, List.getElem?_eq_getElem hkl]
        rfl
      have hs : crcFold 65535 (l.take k) < 65536 := crcFold_lt (by omega) (fun z hz => by
        obtain ⟨j, hj, rfl⟩ := List.mem_iff_getElem.1 (List.mem_of_mem_take hz)
        have := hl'.out j
        rw [List.getElem?_eq_getElem hj] at this
        exact this.2)
      have hfold : crcFold 65535 (l.take (k + 1)) = crcByte (crcFold 65535 (l.take k)) y := by rw [htk, crcFold_snoc]; rfl
      generalize crcFold 65535 (l.take k) = s at *
      rw [crcByte_halves] at hfold
      dsimp only at hfold
      have hc1 := (E1.cell (o + k) hb).trans hc
      have x1 := u16_xor_nat s y hs (by omega)
      have hxl : s ^^^ y < 65536 := Nat.xor_lt_two_pow (n := 16) (by omega) (by omega)
      generalize s ^^^ y = x at *
      have a1 := crcAnd15 hxl
      have t1 := T1'.out.cell (x % 16) (by show _ < 16; omega)
      rw [crcTabL_get _ (by omega)] at t1
      have ht1 : crcTab (x % 16) < 65536 := crcSteps_lt (by omega)
      have x2 := u16_xor_nat (x / 16) (crcTab (x % 16)) (by omega) ht1
      have hzl : x / 16 ^^^ crcTab (x % 16) < 65536 := Nat.xor_lt_two_pow (n := 16) (by omega) (by omega)
      have hm1 : x % 16 < 16 := by omega
      generalize crcTab (x % 16) = tt1 at *
      generalize x % 16 = i1 at *
      generalize x / 16 ^^^ tt1 = z at *
      have a2 := crcAnd15 hzl
      have t2 := T1'.out.cell (z % 16) (by show _ < 16; omega)
      rw [crcTabL_get _ (by omega)] at t2
      have ht2 : crcTab (z % 16) < 65536 := crcSteps_lt (by omega)
      have x3 := u16_xor_nat (z / 16) (crcTab (z % 16)) (by omega) ht2
      have hm2 : z % 16 < 16 := by omega
      generalize crcTab (z % 16) = tt2 at *
      generalize z % 16 = i2 at *
      have x2' : bits .xor .u16 ((x : Int) / 16) (tt1 : Int) = (z : Int) := x2
      have x3' : bits .xor .u16 ((z : Int) / 16) (tt2 : Int) = ((z / 16 ^^^ tt2 : Nat) : Int) := x3
      have hfold' := Lib.hid hfold
      have yw : IntKind.u16.wrap (y : Int) = (y : Int) := by rw [IntKind.wrap_u16]; omega
      clear hfold x2 x3 htk hy hby hc
      go_wp2_with fail
      go_roundw
      case rel => exact ⟨k + 1, by omega, by go_num, by rw [hfold'.out], by trivial⟩
      case measure => simp [intOf]; omega
    · obtain rfl : k = n := by omega
      go_wp2_with fail
      go_ret
      exact ⟨by rw [List.take_of_length_le (by rw [hln'.out]; exact Nat.le_refl _)]; rfl, E1⟩
end Go.Proofs.Ytgagpalffdgjnaa
