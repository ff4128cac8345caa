/- Layer 16, the walks: Words, Text. · Layer 23, the walks: command. · Layer 23, the walks: Serve. -/
import Derived.Test.YtgeahfkhfpdlhaaG19
import Derived.Test.YtgeahfkhfpdlhaaSlvC
import Derived.Test.YtgeahfkhfpdlhaaG11
namespace Go.Proofs.Ytgeahfkhfpdlhaa
open Go.RowKit

set_option maxRecDepth 100000 in
set_option maxHeartbeats 2000000 in
theorem text_any (A : Option Addr) (n c B : Nat) (xs : List Int) (w : World) (hr : RdI w B .u16 A n xs) (hB : B ≤ w.heap.size) (hn : n ≤ maxLen) :
    Calls Try.prog 111 #[.slice A n c] w fun e w' => e = .returned (.string (textS xs n)) ∧ Ext w w' := by
  unfold maxLen at hn
  have hlx := hr.len
  have hm : 2 * min n 32 ≤ 64 := by omega
  go_enter Try.func111, Try.ntmps111
  go_wp2
  go_loopw [3, 10] (fun v i wr => ∃ k : Nat, k ≤ 2 * min n 32 ∧ i = .int .i64 k ∧ wr.ownsRow w.heap.size 5 1 v k ((textTo xs k).map (Value.int .u8)) ∧ (∀ j, j < k → byteAt xs j ≠ 0) ∧ Ext w wr) (fun _ i _ => 2 * min n 32 - (intOf i).toNat)
  case atStart => exact ⟨0, by omega, rfl, World.ownsRow_nil _ _ _ _, fun j hj => absurd hj (by omega), Ext.refl _⟩
  case round =>
    obtain ⟨k, hk, rfl, hown, hne, hw⟩ := hrel
    have hne' := Lib.hid hne
    clear hne
    by_cases hlt : k < 2 * min n 32
    · obtain ⟨b, o, rfl, hb, hc0⟩ := hr.at_ (j := k / 2) (by omega)
      have hc := (hw.cell (o + k / 2) (by omega)).trans hc0
      have hc0' := Lib.hid hc0
      clear hc0
      by_cases h2 : k % 2 = 1
      · have e2 := Lib.hid (show byteAt xs k = xs[k / 2]?.getD 0 % 256 by unfold byteAt; rw [if_pos h2, List.getD_eq_getElem?_getD])
        cases hz : (xs[k / 2]?.getD 0 % 256 == 0)
        · have hz' := Lib.hid hz
          go_wp2_with (at_builtin; refine wpList_appI rfl (.tmp 31) (.tmp 33) _ rfl Try.underlying33 info_u8 (hown.alloc _) rfl (RdI.one _ _ _ _) rfl (by omega) (by omega) (by simp; have := hw.size; omega) ?_)
          intro v' w1 hown' hg _
          go_wp2
          go_roundw
          case rel =>
            refine ⟨k + 1, by omega, by go_num, ?_, ?_, ?_⟩
            · rw [textTo_succ, e2.out]; simpa using hown'
            · intro j hj
              rcases Nat.lt_succ_iff_lt_or_eq.1 hj with h | rfl
              · exact hne'.out j h
              · rw [e2.out]; simpa using hz'.out
            · exact (hw.goA _).goG hg (fun g hg => (hown.lt g hg).1)
          case measure => simp [intOf]; omega
        · have hz' := Lib.hid hz
          have ht := Lib.hid (textL_stop xs _ k hk hne'.out (.inr (by rw [e2.out]; simpa using hz'.out)))
          obtain ⟨A', c', rfl, _, hrd⟩ := own_rd hown
          have hcv := hrd.convert (P := Try.prog) Try.underlying33 Try.underlying5 Try.underlying9 c'
          have hsz : (strOfNums (textTo xs k)).size ≤ maxLen := by rw [strOfNums_size, textTo_length]; unfold maxLen; omega
          cases hq : rightB (strOfNums (textTo xs k))
          all_goals
            have hq' := Lib.hid hq
            go_wp2_with (go_at_call 131; refine (right_any _ _ hsz).mono ?_; rintro e w' ⟨rfl, rfl⟩)
            go_ret
            exact ⟨by simp [textS, ht.out, hq'.out], hw⟩
      · have e2 := Lib.hid (show byteAt xs k = xs[k / 2]?.getD 0 / 256 % 256 by unfold byteAt; rw [if_neg h2, List.getD_eq_getElem?_getD])
        cases hz : (xs[k / 2]?.getD 0 / 256 % 256 == 0)
        · have hz' := Lib.hid hz
          go_wp2_with (at_builtin; refine wpList_appI rfl (.tmp 31) (.tmp 33) _ rfl Try.underlying33 info_u8 (hown.alloc _) rfl (RdI.one _ _ _ _) rfl (by omega) (by omega) (by simp; have := hw.size; omega) ?_)
          intro v' w1 hown' hg _
          go_wp2
          go_roundw
          case rel =>
            refine ⟨k + 1, by omega, by go_num, ?_, ?_, ?_⟩
            · rw [textTo_succ, e2.out]; simpa using hown'
            · intro j hj
              rcases Nat.lt_succ_iff_lt_or_eq.1 hj with h | rfl
              · exact hne'.out j h
              · rw [e2.out]; simpa using hz'.out
            · exact (hw.goA _).goG hg (fun g hg => (hown.lt g hg).1)
          case measure => simp [intOf]; omega
        · have hz' := Lib.hid hz
          have ht := Lib.hid (textL_stop xs _ k hk hne'.out (.inr (by rw [e2.out]; simpa using hz'.out)))
          obtain ⟨A', c', rfl, _, hrd⟩ := own_rd hown
          have hcv := hrd.convert (P := Try.prog) Try.underlying33 Try.underlying5 Try.underlying9 c'
          have hsz : (strOfNums (textTo xs k)).size ≤ maxLen := by rw [strOfNums_size, textTo_length]; unfold maxLen; omega
          cases hq : rightB (strOfNums (textTo xs k))
          all_goals
            have hq' := Lib.hid hq
            go_wp2_with (go_at_call 131; refine (right_any _ _ hsz).mono ?_; rintro e w' ⟨rfl, rfl⟩)
            go_ret
            exact ⟨by simp [textS, ht.out, hq'.out], hw⟩
    · obtain hkm : k = 2 * min n 32 := by omega
      have hkm' := Lib.hid hkm
      clear hkm
      have ht := Lib.hid (textL_stop xs _ k hk hne'.out (.inl hkm'.out))
      obtain ⟨A', c', rfl, _, hrd⟩ := own_rd hown
      have hcv := hrd.convert (P := Try.prog) Try.underlying33 Try.underlying5 Try.underlying9 c'
      have hsz : (strOfNums (textTo xs k)).size ≤ maxLen := by rw [strOfNums_size, textTo_length]; unfold maxLen; omega
      cases hq : rightB (strOfNums (textTo xs k))
      all_goals
        have hq' := Lib.hid hq
        go_wp2_with (go_at_call 131; refine (right_any _ _ hsz).mono ?_; rintro e w' ⟨rfl, rfl⟩)
        go_ret
        exact ⟨by simp [textS, ht.out, hq'.out], hw⟩
end Go.Proofs.Ytgeahfkhfpdlhaa
namespace Go.Proofs.Ytgeahfkhfpdlhaa
open Go.RowKit

def keyOfL (L : Nat → List Int) : ByteArray := textS (((L 2).drop 3).take 16) 16
def CmdPost (L : Nat → List Int) (w : World) (e : Ending) (w' : World) : Prop :=
  e = .returned (.agg #[.int .i64 ((L 2).getD 0 0), .int .i64 ((L 2).getD 1 0), .int .i64 ((L 2).getD 2 0), .string (keyOfL L)]) ∧ Ext w w'
/-- Four stores into a block of four. -/
theorem four_reads {w : World} {i : Nat} {t : TypeId} {a0 a1 a2 a3 : Value} (h : w.heap[i]? = some (.cells #[a0, a1, a2, a3] t (0, 0))) (b0 b1 b2 b3 : Value) :
    ((((w.setCell ⟨i, 0, none⟩ b0).setCell ⟨i, 1, none⟩ b1).setCell ⟨i, 2, none⟩ b2).setCell ⟨i, 3, none⟩ b3).heap[i]? = some (.cells #[b0, b1, b2, b3] t (0, 0)) := by
  simp [World.setCell, Array.getElem?_modify, h]
set_option maxRecDepth 100000 in
set_option maxHeartbeats 6400000 in
theorem slvCommand_any (s g : Nat) (L : Nat → List Int) (G : Nat → Nat) (w : World) (hS : Sv w s g L G) :
    Calls Try.prog 91 #[.pointer (some ⟨s, 0, none⟩)] w (CmdPost L w) := by
  have hS' := Lib.hid hS
  have hrow : (row .u16 (zs 19)) = #[.int .u16 0, .int .u16 0, .int .u16 0, .int .u16 0, .int .u16 0, .int .u16 0, .int .u16 0, .int .u16 0, .int .u16 0, .int .u16 0, .int .u16 0, .int .u16 0, .int .u16 0, .int .u16 0, .int .u16 0, .int .u16 0, .int .u16 0, .int .u16 0, .int .u16 0] := rfl
  have E0 := ((Ext.refl w).goA (.cells #[.int .i64 0, .int .i64 0, .int .i64 0, .string ⟨#[]⟩] 97)).goA (.cells #[.int .u16 0, .int .u16 0, .int .u16 0, .int .u16 0, .int .u16 0, .int .u16 0, .int .u16 0, .int .u16 0, .int .u16 0, .int .u16 0, .int .u16 0, .int .u16 0, .int .u16 0, .int .u16 0, .int .u16 0, .int .u16 0, .int .u16 0, .int .u16 0, .int .u16 0] 154)
  have hC : ((w.alloc (.cells #[.int .i64 0, .int .i64 0, .int .i64 0, .string ⟨#[]⟩] 97)).alloc (.cells #[.int .u16 0, .int .u16 0, .int .u16 0, .int .u16 0, .int .u16 0, .int .u16 0, .int .u16 0, .int .u16 0, .int .u16 0, .int .u16 0, .int .u16 0, .int .u16 0, .int .u16 0, .int .u16 0, .int .u16 0, .int .u16 0, .int .u16 0, .int .u16 0, .int .u16 0] 154)).heap[w.heap.size]? = some (.cells #[.int .i64 0, .int .i64 0, .int .i64 0, .string ⟨#[]⟩] 97 (0, 0)) := by rw [alloc_get, if_neg (by simp), alloc_get, if_pos rfl]
  have hA : Blk ((w.alloc (.cells #[.int .i64 0, .int .i64 0, .int .i64 0, .string ⟨#[]⟩] 97)).alloc (.cells #[.int .u16 0, .int .u16 0, .int .u16 0, .int .u16 0, .int .u16 0, .int .u16 0, .int .u16 0, .int .u16 0, .int .u16 0, .int .u16 0, .int .u16 0, .int .u16 0, .int .u16 0, .int .u16 0, .int .u16 0, .int .u16 0, .int .u16 0, .int .u16 0, .int .u16 0] 154)) (w.heap.size + 1) 154 .u16 (zs 19) := by unfold Blk; rw [alloc_get, if_pos (by simp), hrow]
  have sU : ((w.alloc (.cells #[.int .i64 0, .int .i64 0, .int .i64 0, .string ⟨#[]⟩] 97)).alloc (.cells #[.int .u16 0, .int .u16 0, .int .u16 0, .int .u16 0, .int .u16 0, .int .u16 0, .int .u16 0, .int .u16 0, .int .u16 0, .int .u16 0, .int .u16 0, .int .u16 0, .int .u16 0, .int .u16 0, .int .u16 0, .int .u16 0, .int .u16 0, .int .u16 0, .int .u16 0] 154)).heap.size = w.heap.size + 2 := by simp
  have hC' := Lib.hid hC
  have hA' := Lib.hid hA
  have sU' := Lib.hid sU
  clear hS hC hA hrow sU
  go_enter Try.func91, Try.ntmps91
  go_wp2_with fail
  generalize (w.alloc (.cells #[.int .i64 0, .int .i64 0, .int .i64 0, .string ⟨#[]⟩] 97)).alloc (.cells #[.int .u16 0, .int .u16 0, .int .u16 0, .int .u16 0, .int .u16 0, .int .u16 0, .int .u16 0, .int .u16 0, .int .u16 0, .int .u16 0, .int .u16 0, .int .u16 0, .int .u16 0, .int .u16 0, .int .u16 0, .int .u16 0, .int .u16 0, .int .u16 0, .int .u16 0] 154) = U at *
  go_loopw [5] (fun i wr => ∃ k : Nat, k ≤ 19 ∧ i = .int .i64 k ∧ Blk wr (w.heap.size + 1) 154 .u16 (fillA (zs 19) 0 (L 2) k) ∧ Mod (fun i => i = w.heap.size + 1) U wr) (fun i _ => 19 - (intOf i).toNat)
  case atStart => exact ⟨0, by omega, rfl, by rw [fillA_zero]; exact hA'.out, Mod.refl _ _⟩
  case round =>
    obtain ⟨k, hk, rfl, hB, hM⟩ := hrel
    have hB' := Lib.hid hB
    clear hB
    have hEr : Ext w wr := E0.goM hM (fun i hi => by omega)
    have hSr := Lib.hid (hS'.out.ext hEr)
    by_cases hlt : k < 19
    · have f1 : decide ((k : Int) < 19) = true := by simp; omega
      have hsc := cellsAt hSr.out.head
      have hat := atB_of L 2 k (by omega) (by rw [hS'.out.l2]; exact hlt)
      have hcall := bankAt_any g 2 (k : Int) L G wr hSr.out.bk
      rw [show ((2 : Nat) : Int) = 2 from rfl] at hat
      rw [hat.1, hat.2] at hcall
      have hst := fillA_set (zs 19) 0 (L 2) k (by rw [hS'.out.l2]; exact hlt) (by rw [zs_length]; omega)
      rw [Nat.zero_add] at hst
      have hlen : k < (fillA (zs 19) 0 (L 2) k).length := by rw [fillA_length _ _ _ _ (by rw [zs_length]; omega), zs_length]; exact hlt
      generalize (L 2).getD k 0 = x at *
      have hcell := hB'.out.cell k hlen
      have hfr := hB'.out.frozen k
      have hB2 := hB'.out.set_ k x
      rw [hst] at hB2
      have hM2 := hM.setCell (p := ⟨w.heap.size + 1, k, none⟩) (.inl rfl) (.int .u16 x)
      have hB2' := Lib.hid hB2
      have hcall' := Lib.hid hcall
      clear hat hst hB2 hB' hcall hlen
      go_wp2_with fail
      refine hcall'.out.mono ?_
      rintro e w2 ⟨rfl, rfl⟩
      go_wp2_with fail
      go_roundw
      case rel => exact ⟨k + 1, by omega, by go_num, hB2'.out, hM2⟩
      case measure => simp [intOf]; omega
    · obtain rfl : k = 19 := by omega
      have hB := hB'.out
      have h2 := hS'.out.l2
      have hw : fillA (zs 19) 0 (L 2) 19 = L 2 := by
        have := fill_whole (l := zs 19) (xs := L 2) (by rw [h2, zs_length])
        rwa [h2] at this
      rw [hw] at hB
      have hb2 := hS'.out.bk.rng 2
      have q0 := hB.cell 0 (by omega)
      have q1 := hB.cell 1 (by omega)
      have q2 := hB.cell 2 (by omega)
      have hB2 := Lib.hid hB
      have hCr := Lib.hid ((hM.block _ (lt_of_block hC'.out) (by omega)).trans hC'.out)
      have z0 := hb2 0
      have z1 := hb2 1
      have z2 := hb2 2
      rw [← List.getD_eq_getElem?_getD] at z0 z1 z2
      have hkey : keyOfL L = textS (((L 2).drop 3).take 16) 16 := rfl
      have hBc := fun (w' : World) (D : Ext wr w') => hB.below D hB.lt
      have hcut := fun (w' : World) (h : Blk w' (w.heap.size + 1) 154 .u16 (L 2)) => h.cut (B := w'.heap.size) h.lt (f := 3) (m := 16) (by omega)
      have hcut' := Lib.hid hcut
      have hBc' := Lib.hid hBc
      generalize hx0 : (L 2).getD 0 0 = x0 at *
      have hx0' := Lib.hid hx0
      clear hx0
      generalize hx1 : (L 2).getD 1 0 = x1 at *
      have hx1' := Lib.hid hx1
      clear hx1
      generalize hx2 : (L 2).getD 2 0 = x2 at *
      have hx2' := Lib.hid hx2
      clear hx2
      have u0 : IntKind.i64.wrap x0 = x0 := by rw [IntKind.wrap_i64]; omega
      have u1 : IntKind.i64.wrap x1 = x1 := by rw [IntKind.wrap_i64]; omega
      have u2 : IntKind.i64.wrap x2 = x2 := by rw [IntKind.wrap_i64]; omega
      clear hB hw hb2 hcut hBc hB'
      have hkey' := Lib.hid hkey
      clear hkey
      go_wp2_with fail
      have e0 : Ext wr wr.drew := (Ext.refl _).god
      have d0 : Mod (fun i => i = w.heap.size) wr wr.drew := Mod.ofBelow e0
      have bq : ∀ w', Mod (fun i => i = w.heap.size) wr w' → w'.cell? ⟨w.heap.size + 1, 0, none⟩ = some (.int .u16 x0) ∧ w'.cell? ⟨w.heap.size + 1, 1, none⟩ = some (.int .u16 x1) ∧ w'.cell? ⟨w.heap.size + 1, 2, none⟩ = some (.int .u16 x2) := fun w' D => ⟨(D.cell 0 hB2.out.lt (by omega)).trans q0, (D.cell 1 hB2.out.lt (by omega)).trans q1, (D.cell 2 hB2.out.lt (by omega)).trans q2⟩
      have b0 := fun w' D => (bq w' D).1
      have b1 := fun w' D => (bq w' D).2.1
      have b2 := fun w' D => (bq w' D).2.2
      clear bq q0 q1 q2
      refine wp_region_held_drew (S := fun w' => Mod (fun i => i = w.heap.size) wr w') (by kernel_rfl) d0 (fun hHeld => ?_)
      refine wpAnyH_take (i := 0) (oi := _) (v := ?_) rfl (by kernel_rfl) (by kernel_rfl) (by kernel_rfl) (fun _ _ _ h => h) (Or.inl ⟨by rfl, ?_⟩) (by assumption) ?_
      rotate_left
      · intro w hSw
        (try dsimp only at hSw)
        go_simp
        try (with_reducible rfl)
      try simp only [Act.put, List.getElem_toArray, List.getElem_cons_zero, List.setIfInBounds_toArray, List.set_cons_zero, List.set_cons_succ]
      refine wpAnyH_take (i := 1) (oi := _) (v := ?_) rfl (by kernel_rfl) (by kernel_rfl) (by kernel_rfl) (fun _ _ _ h => h) (Or.inl ⟨by rfl, ?_⟩) (by assumption) ?_
      rotate_left
      · intro w hSw
        (try dsimp only at hSw)
        go_simp
        try (with_reducible rfl)
      try simp only [Act.put, List.getElem_toArray, List.getElem_cons_succ, List.getElem_cons_zero, List.setIfInBounds_toArray, List.set_cons_zero, List.set_cons_succ]
      refine wpAnyH_take (i := 2) (oi := _) (v := ?_) rfl (by kernel_rfl) (by kernel_rfl) (by kernel_rfl) (fun _ _ _ h => h) (Or.inl ⟨by rfl, ?_⟩) (by assumption) ?_
      rotate_left
      · intro w hSw
        (try dsimp only at hSw)
        go_simp
        try (with_reducible rfl)
      try simp only [Act.put, List.getElem_toArray, List.getElem_cons_succ, List.getElem_cons_zero, List.setIfInBounds_toArray, List.set_cons_zero, List.set_cons_succ]
      refine wpAnyH_take (i := 3) (oi := _) (v := ?_) rfl (by kernel_rfl) (by kernel_rfl) (by kernel_rfl) (fun _ _ _ h => h) (Or.inl ⟨by rfl, ?_⟩) (by assumption) ?_
      rotate_left
      · intro w hSw
        (try dsimp only at hSw)
        go_simp
        try (with_reducible rfl)
      try simp only [Act.put, List.getElem_toArray, List.getElem_cons_succ, List.getElem_cons_zero, List.setIfInBounds_toArray, List.set_cons_zero, List.set_cons_succ]
      refine wpAnyH_take (i := 4) (oi := _) (v := ?_) rfl (by kernel_rfl) (by kernel_rfl) (by kernel_rfl) (fun _ _ _ h => h) (Or.inl ⟨by rfl, ?_⟩) (by assumption) ?_
      rotate_left
      · intro w hSw
        (try dsimp only at hSw)
        go_simp
        try (with_reducible rfl)
      try simp only [Act.put, List.getElem_toArray, List.getElem_cons_succ, List.getElem_cons_zero, List.setIfInBounds_toArray, List.set_cons_zero, List.set_cons_succ]
      refine wpAnyH_take (i := 5) (oi := _) (v := ?_) rfl (by kernel_rfl) (by kernel_rfl) (by kernel_rfl) (fun _ _ _ h => h) (Or.inl ⟨by rfl, ?_⟩) (by assumption) ?_
      rotate_left
      · intro w hSw
        (try dsimp only at hSw)
        go_simp
        try (with_reducible rfl)
      try simp only [Act.put, List.getElem_toArray, List.getElem_cons_succ, List.getElem_cons_zero, List.setIfInBounds_toArray, List.set_cons_zero, List.set_cons_succ]
      refine wpAnyH_take (i := 6) (oi := _) (v := ?_) rfl (by kernel_rfl) (by kernel_rfl) (by kernel_rfl) (fun _ _ _ h => h) (Or.inl ⟨by rfl, ?_⟩) (by assumption) ?_
      rotate_left
      · intro w hSw
        (try dsimp only at hSw)
        go_simp
        try (with_reducible rfl)
      try simp only [Act.put, List.getElem_toArray, List.getElem_cons_succ, List.getElem_cons_zero, List.setIfInBounds_toArray, List.set_cons_zero, List.set_cons_succ]
      refine wpAnyH_take (i := 7) (oi := _) (v := ?_) rfl (by kernel_rfl) (by kernel_rfl) (by kernel_rfl) (fun _ _ _ h => h) (Or.inl ⟨by rfl, ?_⟩) (by assumption) ?_
      rotate_left
      · intro w hSw
        (try dsimp only at hSw)
        go_simp
        try (with_reducible rfl)
      try simp only [Act.put, List.getElem_toArray, List.getElem_cons_succ, List.getElem_cons_zero, List.setIfInBounds_toArray, List.set_cons_zero, List.set_cons_succ]
      refine wpAnyH_take (i := 8) (oi := _) (v := ?_) rfl (by kernel_rfl) (by kernel_rfl) (by kernel_rfl) (fun _ _ _ h => h) (Or.inl ⟨by rfl, ?_⟩) (by assumption) ?_
      rotate_left
      · intro w hSw
        (try dsimp only at hSw)
        go_simp
        try (with_reducible rfl)
      try simp only [Act.put, List.getElem_toArray, List.getElem_cons_succ, List.getElem_cons_zero, List.setIfInBounds_toArray, List.set_cons_zero, List.set_cons_succ]
      refine wpAnyH_take (i := 9) (oi := _) (v := ?_) rfl (by kernel_rfl) (by kernel_rfl) (by kernel_rfl) (fun _ _ _ h => h) (Or.inl ⟨by rfl, ?_⟩) (by assumption) ?_
      rotate_left
      · intro w hSw
        (try dsimp only at hSw)
        go_simp
        try (with_reducible rfl)
      try simp only [Act.put, List.getElem_toArray, List.getElem_cons_succ, List.getElem_cons_zero, List.setIfInBounds_toArray, List.set_cons_zero, List.set_cons_succ]
      refine wpAnyH_ready (rs := [10]) (by kernel_rfl) (by simp) ?_
      refine AllReadyH.cons rfl (fun K hK => ?_) ?_
      rotate_left
      · exact AllReadyH.nil
      go_simp
      go_at_call 111
      refine (text_any (some ⟨w.heap.size + 1, 3, none⟩) 16 16 _ _ _ (hcut'.out _ (hBc'.out _ e0)) (Nat.le_refl _) (by unfold maxLen; omega)).mono ?_
      rw [← hkey'.out]
      rintro e W5 ⟨rfl, D5⟩
      have m5 := d0.trans (Mod.ofBelow D5)
      have e5 := hEr.go (e0.go D5)
      have C5 := Lib.hid ((D5.block _ (lt_of_block (show wr.drew.heap[w.heap.size]? = _ from hCr.out))).trans hCr.out)
      have c5 := cellsAt C5.out
      have hz := fun o => (show W5.frozen? ⟨w.heap.size, o, none⟩ = false by simp [World.frozen?, C5.out])
      have z0 := hz 0
      have z1 := hz 1
      have z2 := hz 2
      have z3 := hz 3
      clear hz
      try dsimp only
      refine hK.out _ _ ?_ (fun hHeld => ?_)
      · first | assumption | (dsimp only; assumption)
      clear hK K
      try simp only [Act.put, List.getElem_toArray, List.getElem_cons_succ, List.getElem_cons_zero, List.setIfInBounds_toArray, List.set_cons_zero, List.set_cons_succ]
      refine wpAnyH_take (i := 11) (oi := _) (v := ?_) rfl (by kernel_rfl) (by kernel_rfl) (by kernel_rfl) (fun _ _ _ h => h) (Or.inl ⟨by rfl, ?_⟩) (by assumption) ?_
      rotate_left
      · intro w hSw
        (try dsimp only at hSw)
        go_simp
        try (with_reducible rfl)
      try simp only [Act.put, List.getElem_toArray, List.getElem_cons_succ, List.getElem_cons_zero, List.setIfInBounds_toArray, List.set_cons_zero, List.set_cons_succ]
      refine wpAnyH_ready (rs := [12]) (by kernel_rfl) (by simp) ?_
      refine AllReadyH.cons rfl (fun K hK => ?_) ?_
      rotate_left
      · exact AllReadyH.nil
      go_simp
      refine hK.out _ _ ?_ (fun hHeld => ?_)
      · exact (((m5.setCell (.inl rfl) _).setCell (.inl rfl) _).setCell (.inl rfl) _).setCell (.inl rfl) _
      clear hK K
      try simp only [Act.put, List.getElem_toArray, List.getElem_cons_succ, List.getElem_cons_zero, List.setIfInBounds_toArray, List.set_cons_zero, List.set_cons_succ]
      refine wpAnyH_done (by kernel_rfl) ?_ _
      have hq := four_reads C5.out (.int .i64 x0) (.int .i64 x1) (.int .i64 x2) (.string (keyOfL L))
      have eF : Ext w ((((W5.setCell ⟨w.heap.size, 0, none⟩ (.int .i64 x0)).setCell ⟨w.heap.size, 1, none⟩ (.int .i64 x1)).setCell ⟨w.heap.size, 2, none⟩ (.int .i64 x2)).setCell ⟨w.heap.size, 3, none⟩ (.string (keyOfL L))) := (((e5.goS (Nat.le_refl _) _).goS (Nat.le_refl _) _).goS (Nat.le_refl _) _).goS (Nat.le_refl _) _
      generalize (((W5.setCell ⟨w.heap.size, 0, none⟩ (.int .i64 x0)).setCell ⟨w.heap.size, 1, none⟩ (.int .i64 x1)).setCell ⟨w.heap.size, 2, none⟩ (.int .i64 x2)).setCell ⟨w.heap.size, 3, none⟩ (.string (keyOfL L)) = W6 at *
      clear hHeld z0 z1 z2 z3 c5 C5 b0 b1 b2 D5 m5
      have c6 := cellsAt hq
      go_wp2_with fail
      refine bodyPost_ret (v := .agg #[.int .i64 x0, .int .i64 x1, .int .i64 x2, .string (keyOfL L)]) (by simp [results, Try.results91, go_sem, c6]) rfl ?_
      exact ⟨by rw [hx0'.out, hx1'.out, hx2'.out], eF⟩
end Go.Proofs.Ytgeahfkhfpdlhaa
namespace Go.Proofs.Ytgeahfkhfpdlhaa
open Go.RowKit

theorem serve_len (L : Nat → List Int) (l : List Int) (k : Nat) : (serveL L l k).length = (L k).length := by
  unfold serveL
  split
  · rfl
  · unfold doL
    split
    · rename_i h
      unfold doGoes at h
      rw [Bool.and_eq_true] at h
      exact upd_len (row_long h.2 h.1).1 k
    · rfl
def toldB (L : Nat → List Int) (l : List Int) : Bool := (serveL L l 2).getD 0 0 != 0
def servS (L : Nat → List Int) (l : List Int) : Nat → List Int := if toldB L l = true then upd (serveL L l) 2 (zs 19) else serveL L l
def cmdCells (L : Nat → List Int) : Array Value := #[.int .i64 ((L 2).getD 0 0), .int .i64 ((L 2).getD 1 0), .int .i64 ((L 2).getD 2 0), .string (keyOfL L)]
def servC (L : Nat → List Int) (l : List Int) : Array Value := if toldB L l = true then cmdCells (serveL L l) else #[.int .i64 0, .int .i64 0, .int .i64 0, .string ⟨#[]⟩]
def SrvPost (L : Nat → List Int) (l : List Int) (s g : Nat) (G : Nat → Nat) (w : World) (e : Ending) (w' : World) : Prop :=
  ∃ A n c, e = .returned (.tuple #[.slice A n c, .agg (servC L l), .bool (toldB L l)]) ∧ n ≤ c ∧ c ≤ maxLen ∧ RdI w' w'.heap.size .u8 A n (serveY L l) ∧ Sv w' s g (servS L l) G ∧ Mod (RowsOf G) w w'
theorem cmd_far {w : World} {g C n : Nat} {t : TypeId} {A : Option Addr} {L : List Int} (h : w.heap[g]? = some (.cells #[.int .i64 0, .int .i64 0, .int .i64 0, .string ⟨#[]⟩] t (0, 0))) (r : RdI w C .u8 A n L) : 0 < n → ∀ b o, A = some ⟨b, o, none⟩ → b ≠ g := by
  intro hn b o e hb
  obtain ⟨b', o', e', _, hc⟩ := r.2 hn
  rw [e] at e'; injection e' with e'; injection e' with e1 e2
  subst e1 e2 hb
  have hl := r.1
  have := hc 0 (by omega)
  rw [cellsAt h] at this
  match o, this with
  | 0, this => simp [List.getElem?_eq_getElem (show 0 < L.length by omega)] at this
  | 1, this => simp [List.getElem?_eq_getElem (show 0 < L.length by omega)] at this
  | 2, this => simp [List.getElem?_eq_getElem (show 0 < L.length by omega)] at this
  | 3, this => simp [List.getElem?_eq_getElem (show 0 < L.length by omega)] at this
  | _ + 4, this => simp [List.getElem?_eq_getElem (show 0 < L.length by omega)] at this
theorem RdI.kept_mod {w w' : World} {k : IntKind} {A : Option Addr} {n i : Nat} {xs : List Int} (h : RdI w w.heap.size k A n xs) (M : Mod (fun j => j = i) w w') (hne : 0 < n → ∀ b o, A = some ⟨b, o, none⟩ → b ≠ i) : RdI w' w'.heap.size k A n xs :=
  ⟨h.1, fun hn => by
    obtain ⟨b, o, e, hb, hc⟩ := h.2 hn
    exact ⟨b, o, e, Nat.lt_of_lt_of_le hb M.size, fun j hj => (M.cell (o + j) hb (hne hn b o e)).trans (hc j hj)⟩⟩
theorem Sv.far {w w' : World} {s g i : Nat} {L : Nat → List Int} {G : Nat → Nat} (h : Sv w s g L G) (M : Mod (fun j => j = i) w w') (hs : s ≠ i) (hg : g ≠ i) (hr : ¬ RowsOf G i) : Sv w' s g L G :=
  ⟨(M.block s (lt_of_block h.head) hs).trans h.head, h.bk.mod M hg (fun k hk e => hr ⟨k, hk, e.symm⟩), h.ns, h.l0, h.l1, h.l2, h.l3⟩
theorem four_mod (w : World) (i : Nat) (b0 b1 b2 b3 : Value) : Mod (fun j => j = i) w ((((w.setCell ⟨i, 0, none⟩ b0).setCell ⟨i, 1, none⟩ b1).setCell ⟨i, 2, none⟩ b2).setCell ⟨i, 3, none⟩ b3) :=
  (((((Mod.refl (fun j => j = i) w).setCell (p := ⟨i, 0, none⟩) (.inl rfl) b0).setCell (p := ⟨i, 1, none⟩) (.inl rfl) b1).setCell (p := ⟨i, 2, none⟩) (.inl rfl) b2).setCell (p := ⟨i, 3, none⟩) (.inl rfl) b3)
set_option maxRecDepth 100000 in
set_option maxHeartbeats 6400000 in
theorem slvServe_any (s g : Nat) (A : Option Addr) (n c : Nat) (l : List Int) (L : Nat → List Int) (G : Nat → Nat) (w : World) (hS : Sv w s g L G) (hx : RdI w w.heap.size .u8 A n l) (hl : ByteL l) (hnc : n ≤ c) (hcm : c ≤ maxLen) :
    Calls Try.prog 60 #[.pointer (some ⟨s, 0, none⟩), .slice A n c] w (SrvPost L l s g G w) := by
  have hlt : ∀ i, RowsOf G i → i < w.heap.size := fun i h => hS.bk.old (.inr h)
  have X0 := (Ext.refl w).goA (.cells #[.int .i64 0, .int .i64 0, .int .i64 0, .string ⟨#[]⟩] 97)
  have hR := heap_alloc_new w (.cells #[.int .i64 0, .int .i64 0, .int .i64 0, .string ⟨#[]⟩] 97)
  have hS' := Lib.hid hS
  have hx' := Lib.hid hx
  have hlt' := Lib.hid hlt
  have hR' := Lib.hid hR
  have hlen := Lib.hid (serve_len L l)
  have hpost : Hid (SrvPost L l s g G w = fun e w' => ∃ A n c, e = .returned (.tuple #[.slice A n c, .agg (servC L l), .bool (toldB L l)]) ∧ n ≤ c ∧ c ≤ maxLen ∧ RdI w' w'.heap.size .u8 A n (serveY L l) ∧ Sv w' s g (servS L l) G ∧ Mod (RowsOf G) w w') := Lib.hid rfl
  have hserve := fun w' (E : Ext w w') => bankServe_any g A n c l L G w' (hS.bk.ext E) (hx.ext E) hl hnc hcm
  have hS1 : ∀ w', Bk w' g (serveL L l) G → Mod (RowsOf G) w w' → Sv w' s g (serveL L l) G := fun w' hb M => hS.turn hb M (serve_len L l)
  have hserve' := Lib.hid hserve
  have hS1' := Lib.hid hS1
  have h0 := cellsAt (hS.ext X0).head
  have hst : ∀ k < 19, (fillA (serveL L l 2) 0 (zs 19) k).set k 0 = fillA (serveL L l 2) 0 (zs 19) (k + 1) := fun k hk => by
    have := fill_row (l := serveL L l 2) (xs := zs 19) (k := k) (by rw [serve_len, hS.l2, zs_length]) (by rw [zs_length]; exact hk)
    rwa [show (zs 19).getD k 0 = 0 by unfold zs; rw [List.getD_eq_getElem?_getD, List.getElem?_replicate, if_pos hk]; rfl] at this
  have hfw : fillA (serveL L l 2) 0 (zs 19) 19 = zs 19 := by
    have := fill_whole (l := serveL L l 2) (xs := zs 19) (by rw [serve_len, hS.l2, zs_length])
    rwa [zs_length] at this
  have hl2 : (serveL L l 2).length = 19 := by rw [serve_len, hS.l2]
  have ht : toldB L l = ((serveL L l 2).getD 0 0 != 0) := rfl
  have hsv : servS L l = if ((serveL L l 2).getD 0 0 != 0) = true then upd (serveL L l) 2 (zs 19) else serveL L l := rfl
  have hcv : servC L l = if ((serveL L l 2).getD 0 0 != 0) = true then cmdCells (serveL L l) else #[.int .i64 0, .int .i64 0, .int .i64 0, .string ⟨#[]⟩] := rfl
  have hst' := Lib.hid hst
  have hfw' := Lib.hid hfw
  have ht' := Lib.hid ht
  have hsv' := Lib.hid hsv
  have hcv' := Lib.hid hcv
  clear hS hx hlt hR hserve hS1 hl hst hfw ht hsv hcv
  generalize serveL L l = L1 at *
  go_enter Try.func60, Try.ntmps60
  go_wp2_with fail
  generalize w.alloc (.cells #[.int .i64 0, .int .i64 0, .int .i64 0, .string ⟨#[]⟩] 97) = W0 at *
  refine (hserve'.out W0 X0).mono ?_
  rintro e W1 ⟨A1, n1, c1, rfl, g1, g1', r1, B1, M1⟩
  have M1w := (Mod.ofBelow X0).trans M1
  have S1 := hS1'.out W1 B1 M1w
  have hR1 := (M1.block _ (lt_of_block hR'.out) (fun h => by have := hlt'.out _ h; omega)).trans hR'.out
  have h1 := cellsAt S1.head
  have hb2 := S1.bk.rng 2 0
  rw [← List.getD_eq_getElem?_getD] at hb2
  have hat := atB_of L1 2 0 (by omega) (by omega)
  have hcall := bankAt_any g 2 0 L1 G W1 S1.bk
  rw [show ((2 : Nat) : Int) = 2 from rfl, show ((0 : Nat) : Int) = 0 from rfl] at hat
  rw [hat.1, hat.2] at hcall
  have hcall' := Lib.hid hcall
  have S1' := Lib.hid S1
  have hR1' := Lib.hid hR1
  clear hat hcall S1 hR1 h0 B1
  generalize hxe : (L1 2).getD 0 0 = x at *
  have hxe' := Lib.hid hxe
  clear hxe
  go_wp2_with fail
  refine hcall'.out.mono ?_
  rintro e W2 ⟨rfl, rfl⟩
  by_cases hz : x = 0
  · subst hz
    have hR2 := hR1'.out
    have c2 := cellsAt hR2
    have hfz := fun o => (show W1.frozen? ⟨w.heap.size, o, none⟩ = false by simp [World.frozen?, hR2])
    have z0 := hfz 0
    have z1 := hfz 1
    have z2 := hfz 2
    have z3 := hfz 3
    clear hfz
    have hfar := cmd_far hR2 r1
    go_wp2_with fail
    have hq := four_reads hR2 (.int .i64 0) (.int .i64 0) (.int .i64 0) (.string ⟨#[]⟩)
    have hm := four_mod W1 w.heap.size (.int .i64 0) (.int .i64 0) (.int .i64 0) (.string ⟨#[]⟩)
    generalize (((W1.setCell ⟨w.heap.size, 0, none⟩ (.int .i64 0)).setCell ⟨w.heap.size, 1, none⟩ (.int .i64 0)).setCell ⟨w.heap.size, 2, none⟩ (.int .i64 0)).setCell ⟨w.heap.size, 3, none⟩ (.string ⟨#[]⟩) = W6 at *
    clear c2 z0 z1 z2 z3
    have c6 := cellsAt hq
    refine bodyPost_ret (v := .tuple #[.slice A1 n1 c1, .agg #[.int .i64 0, .int .i64 0, .int .i64 0, .string ⟨#[]⟩], .bool false]) (by simp [results, Try.results60, go_sem, c6]) rfl ?_
    rw [hpost.out, ht'.out, hsv'.out, hcv'.out]
    refine ⟨A1, n1, c1, rfl, g1, g1', r1.kept_mod hm hfar, ?_, M1w.step hm (fun i e => .inr (by rw [e]; exact Nat.le_refl _))⟩
    · rw [if_neg (by decide)]
      exact S1'.out.far hm (by have := lt_of_block hS'.out.head; omega) (by have := hS'.out.bk.lt; omega) (fun h => by have := hlt'.out _ h; omega)
  · have f0 : (x == 0) = false := by simp; exact hz
    have f1 : (x != 0) = true := by simp; exact hz
    have hcmd := slvCommand_any s g L1 G W1 S1'.out
    unfold CmdPost at hcmd
    have hcc : cmdCells L1 = #[.int .i64 ((L1 2).getD 0 0), .int .i64 ((L1 2).getD 1 0), .int .i64 ((L1 2).getD 2 0), .string (keyOfL L1)] := rfl
    rw [hxe'.out] at hcmd hcc
    generalize (L1 2).getD 1 0 = y1 at *
    generalize (L1 2).getD 2 0 = y2 at *
    generalize keyOfL L1 = ks at *
    have hcc' := Lib.hid hcc
    have hcmd' := Lib.hid hcmd
    clear hcc hcmd
    go_wp2_with fail
    refine hcmd'.out.mono ?_
    rintro e W2 ⟨rfl, D2⟩
    have EA := (Ext.refl W2).goA (.cells #[.int .i64 x, .int .i64 y1, .int .i64 y2, .string ks] 97)
    have hA := heap_alloc_new W2 (.cells #[.int .i64 x, .int .i64 y1, .int .i64 y2, .string ks] 97)
    have hA' := Lib.hid hA
    clear hA
    go_wp2_with fail
    generalize W2.alloc (.cells #[.int .i64 x, .int .i64 y1, .int .i64 y2, .string ks] 97) = W3 at *
    have D3 := D2.go EA
    have S3 := Lib.hid (S1'.out.ext D3)
    have r3 := Lib.hid (r1.ext D3)
    have R3 := Lib.hid ((D3.block _ (lt_of_block hR1'.out)).trans hR1'.out)
    have s2 := D2.size
    have s1w := M1w.size
    clear r1 S1' h1
    go_loopw [32] (fun i wr => ∃ k : Nat, k ≤ 19 ∧ i = .int .i64 k ∧ Sv wr s g (upd L1 2 (fillA (L1 2) 0 (zs 19) k)) G ∧ Mod (RowsOf G) W3 wr) (fun i _ => 19 - (intOf i).toNat)
    case atStart => exact ⟨0, by omega, rfl, by rw [fillA_zero, upd_self]; exact S3.out, Mod.refl _ _⟩
    case round =>
      obtain ⟨k, hk, rfl, hT, hM⟩ := hrel
      have hT' := Lib.hid hT
      clear hT
      by_cases hlt : k < 19
      · have f2 : decide ((k : Int) < 19) = true := by simp; omega
        have hsc := cellsAt hT'.out.head
        have hlen2 : k < ((upd L1 2 (fillA (L1 2) 0 (zs 19) k)) 2).length := by rw [hT'.out.l2]; exact hlt
        have hp := bankPut_any g 2 (k : Int) 0 _ G wr hT'.out.bk (by omega) (by omega)
        unfold PutPost at hp
        have hset := putB_set (upd L1 2 (fillA (L1 2) 0 (zs 19) k)) 2 k 0 (by omega) hlen2
        have hpv : putV ((2 : Nat) : Int) 0 = 0 := by unfold putV; rw [if_neg (by omega)]
        rw [hpv, upd_same, upd_upd, hst'.out k hlt] at hset
        rw [show ((2 : Nat) : Int) = 2 from rfl] at hset
        rw [hset.1, hset.2] at hp
        have hp' := Lib.hid hp
        clear hset hpv hp hlen2
        go_wp2_with fail
        refine hp'.out.mono ?_
        rintro e w3 ⟨rfl, B3, M3⟩
        have T3 := Lib.hid (hT'.out.turn B3 M3 (fun j => by
          by_cases e : j = 2
          · subst e
            rw [upd_same, upd_same, fillA_length _ _ _ _ (by rw [hl2]; omega), fillA_length _ _ _ _ (by rw [hl2]; omega)]
          · rw [upd_other _ _ e, upd_other _ _ e]))
        have M13 := hM.trans M3
        clear B3 M3 hsc
        go_wp2_with fail
        go_roundw
        case rel => exact ⟨k + 1, by omega, by go_num, T3.out, M13⟩
        case measure => simp [intOf]; omega
      · obtain rfl : k = 19 := by omega
        have T2 := hT'.out
        rw [hfw'.out] at T2
        have T2' := Lib.hid T2
        have hge : ∀ b, W1.heap.size ≤ b → ¬ RowsOf G b := fun b hb h => by have := hlt'.out _ h; omega
        have hRr := Lib.hid ((hM.block _ (lt_of_block R3.out) (fun h => by have := hlt'.out _ h; omega)).trans R3.out)
        have hAr := Lib.hid ((hM.block _ (lt_of_block hA'.out) (hge _ s2)).trans hA'.out)
        have rr := r3.out.past S3.out.bk hM
        have hfar := cmd_far hRr.out rr
        have Mr : Mod (RowsOf G) w wr := (M1w.trans (Mod.ofBelow D3)).trans hM
        have rr' := Lib.hid rr
        have hfar' := Lib.hid hfar
        clear hT' hM rr hfar
        have e0 : Mod (fun i => i = w.heap.size) wr wr.drew := Mod.ofBelow ((Ext.refl wr).god)
        have sA : w.heap.size < W2.heap.size := by have := lt_of_block hR1'.out; omega
        have hrd : ∀ w', Mod (fun i => i = w.heap.size) wr w' → ∀ o, w'.cell? ⟨W2.heap.size, o, none⟩ = #[.int .i64 x, .int .i64 y1, .int .i64 y2, .string ks][o]? := fun w' D => cellsAt ((D.block _ (lt_of_block hAr.out) (by omega)).trans hAr.out)
        have c2 := cellsAt hRr.out
        have hz0 := fun o => (show wr.frozen? ⟨w.heap.size, o, none⟩ = false by simp [World.frozen?, hRr.out])
        have z0 := hz0 0
        have z1 := hz0 1
        have z2 := hz0 2
        have z3 := hz0 3
        clear hz0
        go_wp2_with fail
        refine wp_region_held_drew (S := fun w' => Mod (fun i => i = w.heap.size) wr w') (by kernel_rfl) e0 (fun hHeld => ?_)
        refine wpAnyH_take (i := 0) (oi := _) (v := ?_) rfl (by kernel_rfl) (by kernel_rfl) (by kernel_rfl) (fun _ _ _ h => h) (Or.inl ⟨by rfl, ?_⟩) (by assumption) ?_
        rotate_left
        · intro w hSw
          (try dsimp only at hSw)
          go_simp
          try (with_reducible rfl)
        try simp only [Act.put, List.getElem_toArray, List.getElem_cons_zero, List.setIfInBounds_toArray, List.set_cons_zero, List.set_cons_succ]
        refine wpAnyH_take (i := 1) (oi := _) (v := ?_) rfl (by kernel_rfl) (by kernel_rfl) (by kernel_rfl) (fun _ _ _ h => h) (Or.inl ⟨by rfl, ?_⟩) (by assumption) ?_
        rotate_left
        · intro w hSw
          (try dsimp only at hSw)
          go_simp
          try (with_reducible rfl)
        try simp only [Act.put, List.getElem_toArray, List.getElem_cons_succ, List.getElem_cons_zero, List.setIfInBounds_toArray, List.set_cons_zero, List.set_cons_succ]
        refine wpAnyH_take (i := 2) (oi := _) (v := ?_) rfl (by kernel_rfl) (by kernel_rfl) (by kernel_rfl) (fun _ _ _ h => h) (Or.inl ⟨by rfl, ?_⟩) (by assumption) ?_
        rotate_left
        · intro w hSw
          (try dsimp only at hSw)
          go_simp
          try (with_reducible rfl)
        try simp only [Act.put, List.getElem_toArray, List.getElem_cons_succ, List.getElem_cons_zero, List.setIfInBounds_toArray, List.set_cons_zero, List.set_cons_succ]
        refine wpAnyH_ready (rs := [3]) (by kernel_rfl) (by simp) ?_
        refine AllReadyH.cons rfl (fun K hK => ?_) ?_
        rotate_left
        · exact AllReadyH.nil
        go_simp
        refine hK.out _ _ ?_ (fun hHeld => ?_)
        · exact (four_mod wr w.heap.size (.int .i64 x) (.int .i64 y1) (.int .i64 y2) (.string ks)).drew
        clear hK K
        try simp only [Act.put, List.getElem_toArray, List.getElem_cons_succ, List.getElem_cons_zero, List.setIfInBounds_toArray, List.set_cons_zero, List.set_cons_succ]
        refine wpAnyH_take (i := 4) (oi := _) (v := ?_) rfl (by kernel_rfl) (by kernel_rfl) (by kernel_rfl) (fun _ _ _ h => h) (Or.inl ⟨by rfl, ?_⟩) (by assumption) ?_
        rotate_left
        · intro w hSw
          (try dsimp only at hSw)
          go_simp
          try (with_reducible rfl)
        try simp only [Act.put, List.getElem_toArray, List.getElem_cons_succ, List.getElem_cons_zero, List.setIfInBounds_toArray, List.set_cons_zero, List.set_cons_succ]
        refine wpAnyH_done (by kernel_rfl) ?_ _
        have hq := four_reads hRr.out (.int .i64 x) (.int .i64 y1) (.int .i64 y2) (.string ks)
        have hm := four_mod wr w.heap.size (.int .i64 x) (.int .i64 y1) (.int .i64 y2) (.string ks)
        generalize (((wr.setCell ⟨w.heap.size, 0, none⟩ (.int .i64 x)).setCell ⟨w.heap.size, 1, none⟩ (.int .i64 y1)).setCell ⟨w.heap.size, 2, none⟩ (.int .i64 y2)).setCell ⟨w.heap.size, 3, none⟩ (.string ks) = W6 at *
        clear hHeld c2 z0 z1 z2 z3 hrd
        have c6 := cellsAt hq
        go_wp2_with fail
        refine bodyPost_ret (v := .tuple #[.slice A1 n1 c1, .agg #[.int .i64 x, .int .i64 y1, .int .i64 y2, .string ks], .bool true]) (by simp [results, Try.results60, go_sem, c6]) rfl ?_
        rw [hpost.out, ht'.out, hsv'.out, hcv'.out, hcc'.out]
        have hmd : Mod (fun j => j = w.heap.size) wr W6.drew := hm.drew
        refine ⟨A1, n1, c1, by rw [if_pos f1, f1], g1, g1', rr'.out.kept_mod hmd hfar'.out, ?_, Mr.step hmd (fun i e => .inr (by rw [e]; exact Nat.le_refl _))⟩
        rw [if_pos f1]
        exact T2'.out.far hmd (by have := lt_of_block hS'.out.head; omega) (by have := hS'.out.bk.lt; omega) (fun h => by have := hlt'.out _ h; omega)
end Go.Proofs.Ytgeahfkhfpdlhaa
