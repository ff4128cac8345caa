/- Layer 16: the law KeyBounds, walked. -/
import Derived.Test.YtkkbjchoilcjlaaKeyDigits
import Derived.Deep.RegionHeld3
namespace Go.Proofs.Ytkkbjchoilcjlaa
open Go.RowKit

theorem right_nums (ys : List Int) (hr : ∀ y ∈ ys, 0 ≤ y ∧ y ≤ 255) : rightB (strOfNums ys) = (decide (1 ≤ ys.length) && decide (ys.length ≤ 32) && decide (∀ y ∈ ys, y ≠ 0)) := by
  unfold rightB
  rw [strOfNums_size]
  congr 1
  rw [decide_eq_decide, indexByte_neg, strOfNums_data]
  constructor
  · intro h y hy e
    exact h (List.mem_map.2 ⟨y, hy, by subst e; rfl⟩)
  · intro h hm
    obtain ⟨y, hy, e⟩ := List.mem_map.1 hm
    have h1 := hr y hy
    apply h y hy
    have : (UInt8.ofNat y.toNat).toNat = 0 := by rw [e]; rfl
    rw [UInt8.toNat_ofNat'] at this
    omega
/-- m numbers, of which the first k are v, the others 0. -/
def fillTo (m : Nat) (v : Int) (k : Nat) : List Int := (List.range m).map fun i => if i < k then v else 0
theorem fillTo_length (m : Nat) (v : Int) (k : Nat) : (fillTo m v k).length = m := by simp [fillTo]
theorem fillTo_zero (m : Nat) (v : Int) : fillTo m v 0 = zs m := by
  unfold fillTo zs
  apply List.ext_getElem?
  intro i
  by_cases h : i < m <;> simp [h]
theorem fillTo_step (m : Nat) (v : Int) (k : Nat) (hk : k < m) : (fillTo m v k).set k v = fillTo m v (k + 1) := by
  apply List.ext_getElem?
  intro i
  rw [List.getElem?_set, fillTo_length]
  unfold fillTo
  by_cases h : i < m
  · rw [List.getElem?_map, List.getElem?_map, List.getElem?_range h]
    by_cases e : k = i
    · subst e; simp [h]
    · rw [if_neg e]; simp only [Option.map_some]; congr 1
      by_cases h2 : i < k
      · rw [if_pos h2, if_pos (by omega)]
      · rw [if_neg h2, if_neg (by omega)]
  · rw [if_neg (by omega), List.getElem?_eq_none (by simp; omega), List.getElem?_eq_none (by simp; omega)]
theorem fillTo_all (m : Nat) (v : Int) : ∀ y ∈ fillTo m v m, y = v := by
  intro y hy
  simp only [fillTo, List.mem_map, List.mem_range] at hy
  obtain ⟨i, hi, rfl⟩ := hy
  rw [if_pos hi]
theorem or_one (c : Int) (h0 : 0 ≤ c) (h1 : c ≤ 255) : 1 ≤ bits .or .u8 c 1 ∧ bits .or .u8 c 1 ≤ 255 := by
  rw [u8_or c 1 h0 (by omega) (by omega) (by omega)]
  have e : (1 : Int).toNat = 1 := rfl
  rw [e]
  have h2 : c.toNat ||| 1 < 2 ^ 8 := Nat.or_lt_two_pow (by omega) (by decide)
  have h3 : 1 ≤ c.toNat ||| 1 := Nat.right_le_or
  omega

set_option maxHeartbeats 3200000 in
theorem bounds_any (n a c : Int) (w : World) (hn0 : 0 ≤ n) (hn1 : n ≤ 255) (ha0 : 0 ≤ a) (ha1 : a ≤ 255) (hc0 : 0 ≤ c) (hc1 : c ≤ 255) :
    Calls Try.prog 5 #[.int .u8 n, .int .u8 a, .int .u8 c] w fun e w' => e = .returned (.bool true) ∧ Ext w w' := by
  obtain ⟨n, rfl⟩ := Int.eq_ofNat_of_zero_le hn0
  obtain ⟨a, rfl⟩ := Int.eq_ofNat_of_zero_le ha0
  have hmk := fun w => run_mkI Try.underlying30 info_u8 ((n : Int) % 40) (n % 40) (by omega) (by omega) (by omega) w
  have hv := or_one c hc0 hc1
  go_enter Try.func5, Try.ntmps5
  go_wp2_with (go_at_call 15; refine (keyHead_any _).mono ?_; rintro e w1 ⟨rfl, d1⟩)
  have hm : n % 40 < 40 := Nat.mod_lt _ (by omega)
  clear hmk
  generalize hme : n % 40 = m at *
  have hme' := Lib.hid hme
  clear hme
  obtain ⟨v, hve⟩ : ∃ v, bits .or .u8 c 1 = v := ⟨_, rfl⟩
  rw [hve] at hv
  go_loopw [9] (fun i wr => ∃ k : Nat, k ≤ m ∧ i = .int .i64 k ∧ Blk wr w1.heap.size 5 .u8 (fillTo m v k) ∧ Ext w wr) (fun i _ => m - (intOf i).toNat)
  case atStart => exact ⟨0, by omega, rfl, by rw [fillTo_zero]; exact Blk.new _ _ _ _, d1.goA _⟩
  case round =>
    obtain ⟨k, hk, rfl, hb, hw⟩ := hrel
    by_cases hlt : k < m
    · have hc := hb.cell k (by rw [fillTo_length]; exact hlt)
      have hf := hb.frozen k
      go_wp2
      go_roundw
      case rel =>
        refine ⟨k + 1, by omega, by go_num, ?_, hw.goS d1.size _⟩
        have := hb.set_ k v
        rw [fillTo_step m v k hlt] at this
        exact this
      case measure => simp [intOf]; omega
    · obtain rfl : k = m := by omega
      have hcv := (hb.rd (Nat.lt_succ_self _)).convert (P := Try.prog) Try.underlying30 Try.underlying5 Try.underlying9 k
      rw [fillTo_length] at hcv
      have hrt := right_nums (fillTo k v k) (fun y hy => by rw [fillTo_all k v y hy]; omega)
      have hnz : ∀ y ∈ fillTo k v k, y ≠ 0 := fun y hy => by rw [fillTo_all k v y hy]; omega
      rw [fillTo_length, decide_eq_true hnz, Bool.and_true] at hrt
      have hsz : (strOfNums (fillTo k v k)).size = k := by rw [strOfNums_size, fillTo_length]
      have hsm : (strOfNums (fillTo k v k)).size ≤ maxLen := by rw [hsz]; unfold maxLen; omega
      have hsm' := Lib.hid hsm
      clear hsm
      rcases (show k = 0 ∨ (1 ≤ k ∧ k ≤ 32) ∨ 33 ≤ k by omega) with h0 | h0 | h0
      · have hr : rightB (strOfNums (fillTo k v k)) = false := by rw [hrt]; simp; omega
        have hn := sum_none _ hr
        have hr' := Lib.hid hr
        have hrt' := Lib.hid hrt
        have hnz' := Lib.hid hnz
        clear hr hrt hnz
        subst h0
        go_wp2_with fail
        refine (sum_any _ _ hsm'.out).mono ?_; rintro e w2 ⟨rfl, d2⟩
        go_wp2_with fail
        refine (words_no _ _ hsm'.out hr'.out).mono ?_; rintro e w' ⟨rfl, rfl⟩
        go_wp2_with fail
        go_ret
        exact ⟨rfl, hw.go d2⟩
      · obtain ⟨h0a, h0b⟩ := h0
        have hr : rightB (strOfNums (fillTo k v k)) = true := by rw [hrt]; simp; omega
        have hn := sum_size _ hr
        have hn2 := sum_some _ hr
        have hr' := Lib.hid hr
        have hrt' := Lib.hid hrt
        have hnz' := Lib.hid hnz
        have hz : ((k : Int) == 0) = false := by simp; omega
        clear hr hrt hnz
        have hq : a % k < k := Nat.mod_lt _ (by omega)
        go_wp2_with fail
        refine (sum_any _ _ hsm'.out).mono ?_; rintro e w2 ⟨rfl, d2⟩
        go_wp2_with fail
        refine (words_yes _ _ (by omega) hr'.out).mono ?_; rintro e w3 ⟨rfl, b3, d3⟩
        have harr : Arr w3 w1.heap.size .u8 (fillTo k v k) := hb.arr.keep ((d2.go d3).block _ hb.lt)
        have c1 := harr.cell (a % k) (by rw [fillTo_length]; exact hq)
        have c2 := harr.frozen (a % k) (by rw [fillTo_length]; exact hq)
        have hset := harr.set_ (a % k) 0 (by rw [fillTo_length]; exact hq)
        have hq1 : (a : Int) % k < k := by omega
        have hq0 : 0 ≤ (a : Int) % k := by omega
        have hg : (decide (0 < ((k : Int) + 1) / 2)) = true := by simp; omega
        clear hq
        have hE : Ext w (w3.setCell ⟨w1.heap.size, a % k, none⟩ (.int .u8 0)) := ((hw.go d2).go d3).goS d1.size _
        have hlt2 : w1.heap.size < (w3.setCell ⟨w1.heap.size, a % k, none⟩ (.int .u8 0)).heap.size := by
          have := hb.lt; have := (d2.go d3).size; simp [World.setCell]; omega
        have hys : ∀ y ∈ (fillTo k v k).set (a % k) 0, 0 ≤ y ∧ y ≤ 255 := fun y hy => by
          rcases List.mem_or_eq_of_mem_set hy with h | h
          · rw [fillTo_all k v y h]; omega
          · omega
        have hr0 : rightB (strOfNums ((fillTo k v k).set (a % k) 0)) = false := by
          rw [right_nums _ hys]
          have : ¬ ∀ y ∈ (fillTo k v k).set (a % k) 0, y ≠ 0 := fun h => h 0 (List.mem_set (by rw [fillTo_length]; omega) _) rfl
          simp [this]
        have hs0 := sum_none _ hr0
        have hsz0 : (strOfNums ((fillTo k v k).set (a % k) 0)).size ≤ maxLen := by rw [strOfNums_size, List.length_set, fillTo_length]; unfold maxLen; omega
        have hr0' := Lib.hid hr0
        have hsz0' := Lib.hid hsz0
        have hl : ((fillTo k v k).set (a % k) 0).length = k := by rw [List.length_set, fillTo_length]
        generalize hS : (fillTo k v k).set (a % k) 0 = ys at *
        have hS' := Lib.hid hS
        clear hS hys hsz0
        obtain ⟨W, hW⟩ : ∃ W, w3.setCell ⟨w1.heap.size, a % k, none⟩ (.int .u8 0) = W := ⟨_, rfl⟩
        rw [hW] at hset hE hlt2
        have hcv2 : ∀ w', Ext W w' → Sem.run Try.prog (convert 30 9 (.slice (some ⟨w1.heap.size, 0, none⟩) k k)) w' = .ok (.string (strOfNums ys)) w' := fun w' h => ((hset.rd hlt2 hl).below h).convert Try.underlying30 Try.underlying5 Try.underlying9 k
        have hl' := Lib.hid hl
        clear hl
        have D0 : Ext W W.drew := (Ext.refl _).god
        go_wp2_with fail
        go_region_held3 (fun w' => Ext W w') (first | assumption)
          (first
            | (go_at_call 17; refine (sum_any _ _ (by first | exact hsz0'.out | exact hsm'.out)).mono ?_; rintro e w' ⟨rfl, d⟩; have D := Ext.go (by assumption : Ext W _) d; clear d)
            | (go_at_call 16; refine (words_no _ _ hsz0'.out hr0'.out).mono ?_; rintro e w' ⟨rfl, rfl⟩)
            | (go_at_call 19; refine (match_any _ _ _ hsz0'.out).mono ?_; rintro e w' ⟨rfl, d⟩; have D := Ext.go (by assumption : Ext W _) d; clear d))
        go_wp2_with fail
        go_ret
        obtain D := (by assumption : Ext W _)
        exact ⟨rfl, hE.go D⟩
      · have hr : rightB (strOfNums (fillTo k v k)) = false := by rw [hrt]; simp; omega
        have hn := sum_none _ hr
        have hr' := Lib.hid hr
        have hrt' := Lib.hid hrt
        have hnz' := Lib.hid hnz
        have hz : ((k : Int) == 0) = false := by simp; omega
        have h0a : 1 ≤ k := by omega
        clear hr hrt hnz
        have hq : a % k < k := Nat.mod_lt _ (by omega)
        go_wp2_with fail
        refine (sum_any _ _ hsm'.out).mono ?_; rintro e w2 ⟨rfl, d2⟩
        go_wp2_with fail
        refine (words_no _ _ hsm'.out hr'.out).mono ?_; rintro e w3 ⟨rfl, rfl⟩
        have harr : Arr w2 w1.heap.size .u8 (fillTo k v k) := hb.arr.keep (d2.block _ hb.lt)
        have c1 := harr.cell (a % k) (by rw [fillTo_length]; exact hq)
        have c2 := harr.frozen (a % k) (by rw [fillTo_length]; exact hq)
        have hset := harr.set_ (a % k) 0 (by rw [fillTo_length]; exact hq)
        have hq1 : (a : Int) % k < k := by omega
        have hq0 : 0 ≤ (a : Int) % k := by omega
        clear hq
        have hE : Ext w (w2.setCell ⟨w1.heap.size, a % k, none⟩ (.int .u8 0)) := (hw.go d2).goS d1.size _
        have hlt2 : w1.heap.size < (w2.setCell ⟨w1.heap.size, a % k, none⟩ (.int .u8 0)).heap.size := by
          have := hb.lt; have := d2.size; simp [World.setCell]; omega
        have hys : ∀ y ∈ (fillTo k v k).set (a % k) 0, 0 ≤ y ∧ y ≤ 255 := fun y hy => by
          rcases List.mem_or_eq_of_mem_set hy with h | h
          · rw [fillTo_all k v y h]; omega
          · omega
        have hr0 : rightB (strOfNums ((fillTo k v k).set (a % k) 0)) = false := by
          rw [right_nums _ hys]
          have : ¬ ∀ y ∈ (fillTo k v k).set (a % k) 0, y ≠ 0 := fun h => h 0 (List.mem_set (by rw [fillTo_length]; omega) _) rfl
          simp [this]
        have hs0 := sum_none _ hr0
        have hsz0 : (strOfNums ((fillTo k v k).set (a % k) 0)).size ≤ maxLen := by rw [strOfNums_size, List.length_set, fillTo_length]; unfold maxLen; omega
        have hr0' := Lib.hid hr0
        have hsz0' := Lib.hid hsz0
        have hl : ((fillTo k v k).set (a % k) 0).length = k := by rw [List.length_set, fillTo_length]
        generalize hS : (fillTo k v k).set (a % k) 0 = ys at *
        have hS' := Lib.hid hS
        clear hS hys hsz0
        obtain ⟨W, hW⟩ : ∃ W, w2.setCell ⟨w1.heap.size, a % k, none⟩ (.int .u8 0) = W := ⟨_, rfl⟩
        rw [hW] at hset hE hlt2
        have hcv2 : ∀ w', Ext W w' → Sem.run Try.prog (convert 30 9 (.slice (some ⟨w1.heap.size, 0, none⟩) k k)) w' = .ok (.string (strOfNums ys)) w' := fun w' h => ((hset.rd hlt2 hl).below h).convert Try.underlying30 Try.underlying5 Try.underlying9 k
        have hl' := Lib.hid hl
        clear hl
        have D0 : Ext W W.drew := (Ext.refl _).god
        go_wp2_with fail
        go_region_held3 (fun w' => Ext W w') (first | assumption)
          (first
            | (go_at_call 17; refine (sum_any _ _ (by first | exact hsz0'.out | exact hsm'.out)).mono ?_; rintro e w' ⟨rfl, d⟩; have D := Ext.go (by assumption : Ext W _) d; clear d)
            | (go_at_call 16; refine (words_no _ _ hsz0'.out hr0'.out).mono ?_; rintro e w' ⟨rfl, rfl⟩)
            | (go_at_call 19; refine (match_any _ _ _ hsz0'.out).mono ?_; rintro e w' ⟨rfl, d⟩; have D := Ext.go (by assumption : Ext W _) d; clear d))
        go_wp2_with fail
        go_ret
        obtain D := (by assumption : Ext W _)
        exact ⟨rfl, hE.go D⟩
end Go.Proofs.Ytkkbjchoilcjlaa
