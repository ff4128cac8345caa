/- Layer 15, the walks: New, Load. -/
import Derived.Test.YtgeahfkhfpdlhaaBypA
namespace Go.Proofs.Ytgeahfkhfpdlhaa
open Go.RowKit

theorem splice_whole {l ys : List Int} (h : ys.length = l.length) : splice l 0 ys = ys := by simp [splice, h]
theorem sz_i64 : (Try.prog.info? 2).map (·.size) = some 1 := by kernel_rfl
theorem makeI (w : World) : (Instr.makeMap 121 none).run Try.prog w = .ok (.map (some w.heap.size)) (w.alloc (.map #[] 0)) := rfl
def BypNewPost (xs : List Int) (w : World) (e : Ending) (w' : World) : Prop :=
  ∃ g gl gm, e = .returned (.pointer (some ⟨g, 0, none⟩)) ∧ Tb w' g gl gm 0 xs (zs xs.length) ∧ Ext w w' ∧ w.heap.size ≤ g ∧ w.heap.size ≤ gl ∧ w.heap.size ≤ gm
set_option maxRecDepth 100000 in
set_option maxHeartbeats 1600000 in
theorem bypNew_any (A : Option Addr) (n c : Nat) (xs : List Int) (w : World) (hx : RdI w w.heap.size .i64 A n xs) (hn : n * 8 ≤ 140737488351232) :
    Calls Try.prog 35 #[.slice A n c] w (BypNewPost xs w) := by
  have hmk := fun w => run_mkI Try.underlying61 info_i64 (n : Int) n rfl (by omega) (by omega) w
  have hmm := makeI
  have E1 := (Ext.refl w).goA (.cells (row .i64 (zs n)) 2)
  have E2 := E1.goA (.map #[] 0)
  have E3 := E2.goA (.cells #[.slice (some ⟨w.heap.size, 0, none⟩) n n, .map (some (w.heap.size + 1))] 123)
  have h0 : (((w.alloc (.cells (row .i64 (zs n)) 2)).alloc (.map #[] 0)).alloc (.cells #[.slice (some ⟨w.heap.size, 0, none⟩) n n, .map (some (w.heap.size + 1))] 123)).heap[w.heap.size + 2]? = some (.cells #[.slice (some ⟨w.heap.size, 0, none⟩) n n, .map (some (w.heap.size + 1))] 123 (0, 0)) := by rw [alloc_get, if_pos (by simp)]
  have h1 : Blk (((w.alloc (.cells (row .i64 (zs n)) 2)).alloc (.map #[] 0)).alloc (.cells #[.slice (some ⟨w.heap.size, 0, none⟩) n n, .map (some (w.heap.size + 1))] 123)) w.heap.size 2 .i64 (zs n) := by
    unfold Blk
    rw [alloc_get, if_neg (by simp; omega), alloc_get, if_neg (by simp), alloc_get, if_pos rfl]
  have h2 : MapI (((w.alloc (.cells (row .i64 (zs n)) 2)).alloc (.map #[] 0)).alloc (.cells #[.slice (some ⟨w.heap.size, 0, none⟩) n n, .map (some (w.heap.size + 1))] 123)) (w.heap.size + 1) 0 (fun _ => 0) := by
    have := MapI.made (w.alloc (.cells (row .i64 (zs n)) 2))
    rw [show (w.alloc (.cells (row .i64 (zs n)) 2)).heap.size = w.heap.size + 1 by simp] at this
    exact this.ext ((Ext.refl _).goA _)
  have hx3 := hx.ext E3
  have hc := cellsAt h0
  have hl := hx.len
  have hfm : 0 + n ≤ (zs n).length := by rw [zs_length]; omega
  have h0' := Lib.hid h0
  have h2' := Lib.hid h2
  have hl' := Lib.hid hl
  clear h0 h2 hl hx
  go_enter Try.func35, Try.ntmps35
  go_wp2_with ((with_reducible refine wpList_copyI rfl (.tmp 13) (.tmp 14) 61 61 rfl Try.underlying61 sz_i64 rfl rfl h1 (fun _ => rfl) hfm hx3 ?_))
  intro w4 K4 M4
  go_wp2_with fail
  go_ret
  have hk := K4.out
  rw [List.take_of_length_le (by rw [hl'.out]; exact Nat.le_refl _), splice_whole (by rw [zs_length]; exact hl'.out)] at hk
  have hh := (M4.block (w.heap.size + 2) (lt_of_block h0'.out) (by omega)).trans h0'.out
  refine ⟨w.heap.size + 2, w.heap.size, w.heap.size + 1, rfl, ⟨?_, hk, (h2'.out.keep (M4.block _ h2'.out.lt (by omega))).congr (fun i => (until_zeros _ i).symm), by rw [zs_length], by omega, by omega, RngE.zeros _, by have := hl'.out; omega⟩, E3.goM M4 (fun i hi => by omega), by omega, by omega, by omega⟩
  rw [hl'.out]
  exact hh
end Go.Proofs.Ytgeahfkhfpdlhaa
