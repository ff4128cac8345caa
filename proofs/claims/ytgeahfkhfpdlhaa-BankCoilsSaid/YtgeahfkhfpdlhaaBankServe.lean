
/- Layer 6, the walks: request, Serve. -/
import Derived.Test.YtgeahfkhfpdlhaaBankDo
import Derived.Test.YtgeahfkhfpdlhaaPduLaw
import Derived.Test.YtgeahfkhfpdlhaaReplyH
import Derived.Test.YtgeahfkhfpdlhaaReplyI
namespace Go.Proofs.Ytgeahfkhfpdlhaa
open Go.RowKit

set_option maxRecDepth 100000 in
set_option maxHeartbeats 1600000 in
theorem request_any (A : Option Addr) (n c : Nat) (l : List Int) (w : World) (hx : RdI w w.heap.size .u8 A n l) (hl : ByteL l) (hnc : n ≤ c) (hcm : c ≤ maxLen) :
    Calls Try.prog 66 #[.slice A n c] w (GetPost (getR l).1.fc (getR l).1.ad (getR l).1.qt (getR l).1.to (getR l).1.xs (getR l).2 w) := by
  have E1 := (Ext.refl w).goA (.cells #[.int .i64 0, .int .i64 0, .int .i64 0, .slice none 0 0, .int .i64 0] 32)
  have h0 : (w.alloc (.cells #[.int .i64 0, .int .i64 0, .int .i64 0, .slice none 0 0, .int .i64 0] 32)).heap[w.heap.size]? = some (.cells #[.int .i64 0, .int .i64 0, .int .i64 0, .slice none 0 0, .int .i64 0] 32 (0, 0)) := heap_alloc_new w _
  have hg := fun w' (E : Ext w w') => pduGet_any A n c l w' (hx.ext E) hl hnc hcm
  have h0' := Lib.hid h0
  clear hx hl h0
  generalize getR l = R at *
  obtain ⟨⟨fc, ad, qt, to, xs⟩, code⟩ := R
  dsimp only at *
  have hg := Lib.hid hg
  go_enter Try.func66, Try.ntmps66
  go_wp2_with fail
  refine (hg.out _ E1).mono ?_
  rintro e w1 ⟨A1, n1, c1, rfl, g1, g1', r1, D1, fr1⟩
  have R1 := (D1.block _ (lt_of_block h0'.out)).trans h0'.out
  have f1 := frozen_block R1
  have z1 := cellsAt R1
  have R1' := Lib.hid R1
  clear R1
  go_wp2_with fail
  obtain ⟨z0, z1, z2, z3, z4⟩ := five_reads R1'.out (.int .i64 fc) (.int .i64 ad) (.int .i64 qt) (.slice A1 n1 c1) (.int .i64 to)
  refine bodyPost_ret (v := .tuple #[.agg #[.int .i64 fc, .int .i64 ad, .int .i64 qt, .slice A1 n1 c1, .int .i64 to], .int .i64 code]) (by simp [results, Try.results66, go_sem, z0, z1, z2, z3, z4]) rfl ?_
  exact ⟨_, _, _, rfl, g1, g1', five_rd r1 (Nat.le_refl _) _ (zero_far R1'.out r1) _ _ _ _ _, (E1.go D1).five (by simp) _ _ _ _ _, fun b o e => by have := fr1 b o e; simp at this; omega⟩

/-- What is answered to bytes, and the bank behind it. -/
def serveY (L : Nat → List Int) (l : List Int) : List Int :=
  if (getR l).2 ≠ 0 then alarmL l (getR l).2
  else rputL (getR l).1.fc (getR l).1.ad (getR l).1.qt (getR l).1.to (getR l).1.xs (doC L (getR l).1.fc (getR l).1.ad (getR l).1.qt (getR l).1.to (getR l).1.xs) (doY L (getR l).1.fc (getR l).1.ad (getR l).1.qt (getR l).1.to (getR l).1.xs)
def serveL (L : Nat → List Int) (l : List Int) : Nat → List Int :=
  if (getR l).2 ≠ 0 then L else doL L (getR l).1.fc (getR l).1.ad (getR l).1.qt (getR l).1.to (getR l).1.xs
def ServePost (ys : List Int) (g : Nat) (L' : Nat → List Int) (G : Nat → Nat) (w : World) (e : Ending) (w' : World) : Prop :=
  ∃ A n c, e = .returned (.slice A n c) ∧ n ≤ c ∧ c ≤ maxLen ∧ RdI w' w'.heap.size .u8 A n ys ∧ Bk w' g L' G ∧ Mod (RowsOf G) w w'
theorem do_range {L : Nat → List Int} (hL : ∀ (k j : Nat), 0 ≤ (L k)[j]?.getD 0 ∧ (L k)[j]?.getD 0 ≤ 65535) (hlen : ∀ k, (L k).length ≤ 256) {fc ad qt to : Int} {xs : List Int} (hr : ∀ j : Nat, 0 ≤ xs[j]?.getD 0 ∧ xs[j]?.getD 0 ≤ 65535) :
    ∀ j : Nat, 0 ≤ (doY L fc ad qt to xs)[j]?.getD 0 ∧ (doY L fc ad qt to xs)[j]?.getD 0 ≤ 65535 := by
  have _ := hlen
  have h0 : ∀ j : Nat, 0 ≤ ([] : List Int)[j]?.getD 0 ∧ ([] : List Int)[j]?.getD 0 ≤ 65535 := fun j => by simp
  have hrow : ∀ j : Nat, 0 ≤ (doRow L fc ad to xs)[j]?.getD 0 ∧ (doRow L fc ad to xs)[j]?.getD 0 ≤ 65535 := by
    unfold doRow
    split
    · have hv := maskV_range ((L (kindN fc)).getD ad.toNat 0) (xs.getD 0 0) (xs.getD 1 0)
        (by rw [List.getD_eq_getElem?_getD]; exact (hL _ _).1) (by rw [List.getD_eq_getElem?_getD]; exact (hL _ _).2) (by rw [List.getD_eq_getElem?_getD]; exact (hr _).1) (by rw [List.getD_eq_getElem?_getD]; exact (hr _).2)
        (by rw [List.getD_eq_getElem?_getD]; exact (hr _).1) (by rw [List.getD_eq_getElem?_getD]; exact (hr _).2)
      exact set_range (hL _) _ hv.1 hv.2
    · exact splice_range (hL _) hr
  have mem : ∀ y ∈ doRow L fc ad to xs, 0 ≤ y ∧ y ≤ 65535 := fun y hm => by
    obtain ⟨j, hj, rfl⟩ := List.getElem_of_mem hm
    have := hrow j
    rw [List.getElem?_eq_getElem hj] at this
    exact this
  unfold doY
  split
  · split
    · exact rng_of (by omega) (by omega) fun y hm => mem y (List.mem_of_mem_drop (List.mem_of_mem_take hm))
    · exact h0
  · exact h0
theorem do_len {L : Nat → List Int} (hlen : ∀ k, (L k).length ≤ 256) {fc ad qt to : Int} {xs : List Int} : (doY L fc ad qt to xs).length ≤ 2000 := by
  unfold doY
  split
  · rename_i h
    have h1 := doGoes_parts h
    obtain ⟨a0, q0, q2, _⟩ := right_do h1.1
    have _ := hlen
    split
    · rw [List.length_take]; omega
    · simp
  · simp
theorem RdI.mod {w w' : World} {k : IntKind} {A : Option Addr} {n : Nat} {xs : List Int} {S : Nat → Prop} (h : RdI w w.heap.size k A n xs) (M : Mod S w w') (hne : ∀ b o, A = some ⟨b, o, none⟩ → ¬ S b) : RdI w' w'.heap.size k A n xs :=
  ⟨h.1, fun hn => by
    obtain ⟨b, o, e, hb, hc⟩ := h.2 hn
    exact ⟨b, o, e, Nat.lt_of_lt_of_le hb M.size, fun j hj => (M.cell (o + j) hb (hne b o e)).trans (hc j hj)⟩⟩
/-- Bytes are no words of a bank. -/
theorem RdI.past {w w' : World} {A : Option Addr} {n g : Nat} {xs : List Int} {L : Nat → List Int} {G : Nat → Nat} (h : RdI w w.heap.size .u8 A n xs) (hb : Bk w g L G) (M : Mod (RowsOf G) w w') : RdI w' w'.heap.size .u8 A n xs :=
  ⟨h.1, fun hn => by
    obtain ⟨b, o, e, hlt, hc⟩ := h.2 hn
    refine ⟨b, o, e, Nat.lt_of_lt_of_le hlt M.size, fun j hj => (M.cell (o + j) hlt ?_).trans (hc j hj)⟩
    rintro ⟨k, hk, rfl⟩
    have h1 := hc 0 hn
    have h2 := hb.row k hk
    unfold Blk at h2
    rw [Nat.add_zero, cellsAt h2 o] at h1
    by_cases ho : o < (L k).length
    · rw [row_get _ _ _ ho] at h1
      injection h1 with h1
      injection h1 with h1
      cases h1
    · rw [Array.getElem?_eq_none (by rw [row_size]; omega)] at h1
      cases h1⟩
set_option maxRecDepth 100000 in
set_option maxHeartbeats 3200000 in
theorem bankServe_any (g : Nat) (A : Option Addr) (n c : Nat) (l : List Int) (L : Nat → List Int) (G : Nat → Nat) (w : World) (hb : Bk w g L G) (hx : RdI w w.heap.size .u8 A n l) (hl : ByteL l) (hnc : n ≤ c) (hcm : c ≤ maxLen) :
    Calls Try.prog 20 #[.pointer (some ⟨g, 0, none⟩), .slice A n c] w (ServePost (serveY L l) g (serveL L l) G w) := by
  have hgr := getR_range l hl
  have hga := got_any l
  have hq := request_any A n c l w hx hl hnc hcm
  have hb' := Lib.hid hb
  have hx' := Lib.hid hx
  unfold serveY serveL
  clear hb hx hl
  generalize getR l = R at *
  obtain ⟨⟨fc, ad, qt, to, xs⟩, code⟩ := R
  dsimp only at *
  have hgr' := Lib.hid hgr
  have hq' := Lib.hid hq
  clear hq
  by_cases hc : code = 0
  · subst hc
    rw [if_neg (by simp), if_neg (by simp)]
    have hq1 : rightB' fc ad qt to xs = true := by
      rcases hga with h | h
      · exact h.2.1
      · omega
    clear hga hgr
    have hyl := do_len hb'.out.len (fc := fc) (ad := ad) (qt := qt) (to := to) (xs := xs)
    have hyr := do_range hb'.out.rng hb'.out.len (fc := fc) (ad := ad) (qt := qt) (to := to) hgr'.out
    have hdo := fun (A1 : Option Addr) (n1 c1 : Nat) w' (hb : Bk w' g L G) (hx : RdI w' w'.heap.size .u16 A1 n1 xs) n1m => bankDo_any g fc ad qt to A1 n1 c1 xs L G w' hb hx hgr'.out n1m
    generalize doC L fc ad qt to xs = dc at *
    generalize doY L fc ad qt to xs = dy at *
    generalize doL L fc ad qt to xs = dL at *
    have hdo' := Lib.hid hdo
    have hyr' := Lib.hid hyr
    clear hdo hyr
    go_enter Try.func20, Try.ntmps20
    go_wp2_with fail
    refine hq'.out.mono ?_
    rintro e w1 ⟨A1, n1, c1, rfl, g1, g1', r1, D1, fr1⟩
    have n1m : n1 ≤ maxLen := Nat.le_trans g1 g1'
    have E2 := D1.goA (.cells #[.int .i64 fc, .int .i64 ad, .int .i64 qt, .slice A1 n1 c1, .int .i64 to] 32)
    have hQ := heap_alloc_new w1 (.cells #[.int .i64 fc, .int .i64 ad, .int .i64 qt, .slice A1 n1 c1, .int .i64 to] 32)
    have bq := cellsAt hQ
    have r2 := r1.ext ((Ext.refl w1).goA (.cells #[.int .i64 fc, .int .i64 ad, .int .i64 qt, .slice A1 n1 c1, .int .i64 to] 32))
    have r2' := Lib.hid r2
    have hrow : ∀ i, RowsOf G i → i < w.heap.size := fun i h => hb'.out.old (.inr h)
    have hrow' := Lib.hid hrow
    have hs1 := D1.size
    clear r1 r2 hq1 hrow
    go_wp2_with fail
    generalize w1.alloc (.cells #[.int .i64 fc, .int .i64 ad, .int .i64 qt, .slice A1 n1 c1, .int .i64 to] 32) = W at *
    have d0 : Ext W W.drew := (Ext.refl _).god
    have hQd : W.drew.heap[w1.heap.size]? = _ := hQ
    have bqW : ∀ w' : World, w'.heap[w1.heap.size]? = some (.cells #[.int .i64 fc, .int .i64 ad, .int .i64 qt, .slice A1 n1 c1, .int .i64 to] 32 (0, 0)) → ∀ o, w'.cell? ⟨w1.heap.size, o, none⟩ = _ := fun w' h => cellsAt h
    clear bq hQ
    refine wp_region_held_drew (S := fun w' => w'.heap[w1.heap.size]? = some (.cells #[.int .i64 fc, .int .i64 ad, .int .i64 qt, .slice A1 n1 c1, .int .i64 to] 32 (0, 0))) (by kernel_rfl) hQd (fun hHeld => ?_)
    refine wpAnyH_take (i := 0) (oi := _) (v := ?_) rfl (by kernel_rfl) (by kernel_rfl) (by kernel_rfl) (fun _ _ _ h => h) (Or.inl ⟨by rfl, ?_⟩) (by assumption) ?_
    rotate_left
    · intro w hSw
      (try dsimp only at hSw)
      go_simp
      try (with_reducible rfl)
    try simp only [Act.put, List.getElem_toArray, List.getElem_cons_zero, List.setIfInBounds_toArray, List.set_cons_zero, List.set_cons_succ]
    refine wpAnyH_take (i := 1) (oi := _) (v := ?_) rfl (by kernel_rfl) (by kernel_rfl) (by kernel_rfl) (fun _ _ _ h => h) (Or.inl ⟨by rfl, ?_⟩) (by assumption) ?_
    rotate_left
    · intro w hSw
      (try dsimp only at hSw)
      go_simp
      try (with_reducible rfl)
    try simp only [Act.put, List.getElem_toArray, List.getElem_cons_succ, List.getElem_cons_zero, List.setIfInBounds_toArray, List.set_cons_zero, List.set_cons_succ]
    refine wpAnyH_take (i := 2) (oi := _) (v := ?_) rfl (by kernel_rfl) (by kernel_rfl) (by kernel_rfl) (fun _ _ _ h => h) (Or.inl ⟨by rfl, ?_⟩) (by assumption) ?_
    rotate_left
    · intro w hSw
      (try dsimp only at hSw)
      go_simp
      try (with_reducible rfl)
    try simp only [Act.put, List.getElem_toArray, List.getElem_cons_succ, List.getElem_cons_zero, List.setIfInBounds_toArray, List.set_cons_zero, List.set_cons_succ]
    refine wpAnyH_ready (rs := [3]) (by kernel_rfl) (by simp) ?_
    refine AllReadyH.cons rfl (fun K hK => ?_) ?_
    rotate_left
    · exact AllReadyH.nil
    go_simp
    go_at_call 24
    refine (hdo'.out A1 n1 c1 _ (hb'.out.ext (E2.go d0)) (r2'.out.ext d0) n1m).mono ?_
    rintro e w3 ⟨A3, n3, c3, rfl, g3, g3', r3, fr3, B3, M3⟩
    have hQ3 := (M3.block w1.heap.size (lt_of_block hQd) (fun h => by have := hrow'.out _ h; omega)).trans hQd
    have x3 := (r2'.out.ext d0).mod M3 (fun b o e h => by have := hrow'.out _ h; have := fr1 b o e; omega)
    try dsimp only
    refine hK.out _ _ ?_ (fun hHeld => ?_)
    · first | assumption | (dsimp only; assumption)
    clear hK K
    try simp only [Act.put, List.getElem_toArray, List.getElem_cons_succ, List.getElem_cons_zero, List.setIfInBounds_toArray, List.set_cons_zero, List.set_cons_succ]
    refine wpAnyH_ready (rs := [4]) (by kernel_rfl) (by simp) ?_
    refine AllReadyH.cons rfl (fun K hK => ?_) ?_
    rotate_left
    · exact AllReadyH.nil
    go_simp
    go_at_call 68
    refine (rPut_any fc ad qt to dc A1 A3 n1 c1 n3 c3 xs dy w3 x3 hgr'.out n1m r3 hyr'.out (Nat.le_trans g3 g3')).mono ?_
    rintro e w4 ⟨A4, n4, c4, rfl, g4, g4', r4, D4⟩
    have hQ4 := (D4.block w1.heap.size (lt_of_block hQ3)).trans hQ3
    try dsimp only
    refine hK.out _ _ ?_ (fun hHeld => ?_)
    · first | assumption | (dsimp only; assumption)
    clear hK K
    try simp only [Act.put, List.getElem_toArray, List.getElem_cons_succ, List.getElem_cons_zero, List.setIfInBounds_toArray, List.set_cons_zero, List.set_cons_succ]
    refine wpAnyH_take (i := 5) (oi := _) (v := ?_) rfl (by kernel_rfl) (by kernel_rfl) (by kernel_rfl) (fun _ _ _ h => h) (Or.inl ⟨by rfl, ?_⟩) (by assumption) ?_
    rotate_left
    · intro w hSw
      (try dsimp only at hSw)
      go_simp
      try (with_reducible rfl)
    try simp only [Act.put, List.getElem_toArray, List.getElem_cons_succ, List.getElem_cons_zero, List.setIfInBounds_toArray, List.set_cons_zero, List.set_cons_succ]
    refine wpAnyH_done (by kernel_rfl) ?_ _
    go_wp2_with fail
    go_ret
    exact ⟨_, _, _, rfl, g4, g4', r4, B3.ext D4, ((Mod.ofBelow (E2.go d0)).trans M3).trans (Mod.ofBelow D4)⟩
  · have hc1 : (code != 0) = true := by simp; exact hc
    have hc2 : (code == 0) = false := by simp; exact hc
    rw [if_pos hc, if_pos hc]
    clear hga hgr hc
    go_enter Try.func20, Try.ntmps20
    go_wp2_with fail
    refine hq'.out.mono ?_
    rintro e w1 ⟨A1, n1, c1, rfl, g1, g1', r1, D1, fr1⟩
    go_wp2_with fail
    refine (alarm_any A n c l code _ (hx'.out.ext (D1.goA _))).mono ?_
    rintro e w4 ⟨A4, n4, c4, rfl, g4, g4', r4, D4⟩
    go_wp2_with fail
    go_ret
    exact ⟨_, _, _, rfl, g4, g4', r4, hb'.out.ext ((D1.goA _).go D4), Mod.ofBelow ((D1.goA _).go D4)⟩
end Go.Proofs.Ytgeahfkhfpdlhaa
