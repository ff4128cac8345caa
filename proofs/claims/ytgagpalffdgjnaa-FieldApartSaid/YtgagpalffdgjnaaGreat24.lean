/- Layer 24, the walks: great. -/
import Derived.Test.YtgagpalffdgjnaaOps24
import Derived.BigQuiet
import Derived.Deep.Cut
namespace Go.Proofs.Ytgagpalffdgjnaa
open Go.RowKit

def GrPost24 (n : Nat) (ps : List Op24) (w : World) (e : Ending) (w' : World) : Prop := ∃ x, e = .returned (.bool x) ∧ (x = false → n ≤ 200 ∧ ∀ p ∈ ps, p.m < 20000) ∧ Ext w w'
set_option maxRecDepth 100000 in
set_option maxHeartbeats 3200000 in
theorem great24_any (A : Option Addr) (n c R : Nat) (ps : List Op24) (w : World) (hx : RdOp24 w R A n ps) (hR : R ≤ 1000000000000000) (hn : n * 64 ≤ 140737488351232) :
    Calls Try.prog 37 #[.slice A n c] w (GrPost24 n ps w) := by
  have hx' := Lib.hid hx
  have hR' := Lib.hid hR
  clear hx hR
  go_enter Try.func37, Try.ntmps37
  go_wp2_with fail
  go_loopw [3, 4] (fun s i wr => ∃ (k : Nat) (z : Int), k ≤ n ∧ i = .int .i64 k ∧ s = .int .i64 z ∧ 0 ≤ z ∧ z ≤ 2199023255553 + 20000 ∧ (z < 20000 → ∀ p ∈ ps.take k, p.m < 20000) ∧ Ext w wr) (fun _ i _ => n - (intOf i).toNat)
  case atStart => exact ⟨0, (n : Int), by omega, rfl, rfl, by omega, by omega, fun _ => fun p hp => by simp at hp, Ext.refl w⟩
  case round =>
    obtain ⟨k, z, hk, rfl, rfl, hz0, hz1, hm, hE⟩ := hrel
    have hm' := Lib.hid hm
    clear hm
    by_cases hlt : k < n
    · by_cases hz : z < 20000
      · obtain ⟨b, o, rfl, hb, p, hp, hpk, hc, hok⟩ := hx'.out.2 k hlt
        have f1 : decide (z < 20000) = true := by simp; omega
        have hRR := hR'.out
        have hm1 : p.m ≤ 1000000000000000 := by have := hok.sm; omega
        have htk : ps.take (k + 1) = ps.take k ++ [p] := by
          have hkl : k < ps.length := by rw [hx'.out.len]; exact hlt
          rw [List.take_succ_eq_append_getElem hkl]
          congr 1
          rw [List.getElem?_eq_getElem hkl] at hpk
          injection hpk with hpk
          rw [hpk]
        have htk' := Lib.hid htk
        have c6 : wr.cell? ⟨b, o + k * 7 + 6, none⟩ = some (.slice p.a p.m p.c) := (hE.cell _ hb).trans (hc 6 (by omega))
        clear htk hp hpk hok hc hRR
        go_wp2_with fail
        go_roundw
        case rel =>
          refine ⟨k + 1, z + min (p.m : Int) 20000, by omega, by go_num, rfl, by omega, by omega, fun h q hq => ?_, hE⟩
          rw [htk'.out, List.mem_append, List.mem_singleton] at hq
          rcases hq with hq | rfl
          · exact hm'.out hz q hq
          · omega
        case measure => simp [intOf]; omega
      · have f1 : decide (z < 20000) = false := by simp; omega
        have f2 : decide (20000 ≤ z) = true := by simp; omega
        go_wp2_with fail
        go_ret
        exact ⟨_, rfl, fun h => absurd h (by decide), hE⟩
    · obtain rfl : k = n := by omega
      by_cases hz : z < 20000
      · have f2 : decide (20000 ≤ z) = false := by simp; omega
        have hall := hm'.out hz
        rw [List.take_of_length_le (by rw [hx'.out.len]; exact Nat.le_refl _)] at hall
        have hall' := Lib.hid hall
        clear hall
        by_cases h3 : 200 < k
        · have f3 : decide (200 < (k : Int)) = true := by simp; omega
          go_wp2_with fail
          go_ret
          exact ⟨_, rfl, fun h => absurd h (by decide), hE⟩
        · have f3 : decide (200 < (k : Int)) = false := by simp; omega
          go_wp2_with fail
          go_ret
          exact ⟨_, rfl, fun _ => ⟨by omega, hall'.out⟩, hE⟩
      · have f2 : decide (20000 ≤ z) = true := by simp; omega
        go_wp2_with fail
        go_ret
        exact ⟨_, rfl, fun h => absurd h (by decide), hE⟩
end Go.Proofs.Ytgagpalffdgjnaa
