/- Layer 17, the walks: notes; whether a cause is healthy. · Layer 17, the walks: healthy, Trips, Bypass, Drop. · Layer 17, the walks: State. -/
import Derived.Test.YtgajbgdkgelkgaaGreatG08
namespace Go.Proofs.YtgajbgdkgelkgaaGreat
open Go.RowKit

/-- One more struct is appended, where the region draws its order. -/
theorem step_appS {P : Program} {ops : Array Oper} {o : Oper} {a : Act} {w : World} {K : Act → World → Prop} {Q : Exit → Act → World → Prop} {E : Prop} (hgd : Region.wanted o (yielded ops a.tmps) = true) (s x : Operand) (t : TypeId)
    (ho : o.op = .call { callee := .builtin .append, args := #[s, x], argTypes := #[t, t] }) {e : TypeId} {sz by_ : Nat} {z : Value} (ht : P.underlying t = some (.slice e)) (hi : (P.info? e).map (fun i => (i.zero, i.size, i.bytes)) = some (some z, sz, by_)) (hzs : z.cells.size = sz) (hsz : 0 < sz)
    {base : Nat} {v : Value} {n : Nat} {xs : List Value} (hown : w.ownsRow base e sz v n xs) (hs : a.eval s = v) {g : Nat} {new : List Value} (hx : a.eval x = .slice (some ⟨g, 0, none⟩) 1 1) (hg : w.heap[g]? = some (.cells new.toArray e (0, 0)))
    (hl : new.length = sz) (hone : ∀ u ∈ new, u.oneCell' = true) (hn : (n + 1) * by_ ≤ 140737488355328) (hm : n + 1 ≤ maxLen) (hbase : base ≤ w.heap.size)
    (h : ∀ v' w', w'.ownsRow base e sz v' (n + 1) (xs ++ new) → w.grownBy w' v.ownBlock → (v'.ownBlock = v.ownBlock ∨ v'.ownBlock = some w.heap.size) → K (a.put o.dst v') w') :
    if Region.wanted o (yielded ops a.tmps) = true then Oper.wp P o a w K Q else E := by
  rw [if_pos hgd]
  obtain ⟨i, h1, h2, h3, h4⟩ := info_parts hi
  obtain ⟨v', w', hrun, r1, r2, _, r4⟩ := run_append_own_at (P := P) w base t o.type e i z sz by_ ht h1 h2 h3 h4 hzs hsz v n xs hown ⟨g, 0, none⟩ 1 1 new (by rw [hl, Nat.one_mul]) (fun j u hj => by
    have hadd : (⟨g, 0, none⟩ : Addr).add j = ⟨g, j, none⟩ := by unfold Addr.add; split <;> simp_all
    rw [hadd, cellsAt hg j, ← hj]
    simp) hone (by omega) hn hbase
  unfold Oper.wp execOp
  simp only [ho, resolve, invoke, builtin, Sem.run_bind, Sem.run_pure, Result.andThen_ok, List.map_toArray, List.map_cons, List.map_nil, hs, hx, hrun]
  exact h v' w' r1 r2 r4
def ntCells (x : Nt) : List Value := [.int .i64 x.1, .int .i64 x.2.1, .int .i64 x.2.2]
theorem info_note : (Tryz.prog.info? 43).map (fun i => (i.zero, i.size, i.bytes)) = some (some (.agg #[.int .i64 0, .int .i64 0, .int .i64 0]), 3, 24) := by kernel_rfl
/-- Notes in memory: the block gn, their row v of the call's own from nb on. -/
structure HasNt (w : World) (gn nb : Nat) (now : Int) (v : Value) (l : List Nt) : Prop where
  head : w.heap[gn]? = some (.cells #[.int .i64 now, v] 91 (0, 0))
  own : w.ownsRow nb 43 3 v l.length (l.flatMap ntCells)
  lt : gn < nb
  le : nb ≤ w.heap.size
theorem own_shape {w : World} {base n size : Nat} {e : TypeId} {v : Value} {xs : List Value} (h : w.ownsRow base e size v n xs) : ∃ A c, v = .slice A n c := by
  rcases h.2 with ⟨rfl, rfl⟩ | ⟨g, cap, cur, rfl, _⟩
  · exact ⟨none, 0, rfl⟩
  · exact ⟨_, _, rfl⟩
theorem own_modK {w w' : World} {base n size : Nat} {e : TypeId} {v : Value} {xs : List Value} {S : Nat → Prop} (h : w.ownsRow base e size v n xs) (hm : Mod S w w') (hp : ∀ i, S i → i < base) : w'.ownsRow base e size v n xs := by
  refine ⟨h.1, ?_⟩
  rcases h.2 with hn | ⟨g, cap, cur, hv, hb, hg, rest⟩
  · exact .inl hn
  · exact .inr ⟨g, cap, cur, hv, hb, (hm.block g (Array.getElem?_eq_some_iff.1 hg).1 (fun hs => by have := hp g hs; omega)).trans hg, rest⟩
def NtB (gn : Nat) (v : Value) (b : Nat) : Prop := b = gn ∨ v.ownBlock = some b
def TellPost (gn nb : Nat) (now : Int) (v : Value) (l : List Nt) (w : World) (e : Ending) (w' : World) : Prop :=
  e = .returned (.tuple #[]) ∧ ∃ v', HasNt w' gn nb now v' l ∧ Mod (NtB gn v) w w' ∧ ∀ b, v'.ownBlock = some b → v.ownBlock = some b ∨ w.heap.size ≤ b
set_option maxRecDepth 100000 in
set_option maxHeartbeats 6400000 in
theorem tell_any (gn nb : Nat) (now : Int) (v : Value) (l : List Nt) (kind : Int) (A : Option Addr) (n c : Nat) (xs : List Int) (w : World) (h : HasNt w gn nb now v l) (hx : RdI w w.heap.size .i64 A n xs) (hoff : ∀ b o, A = some ⟨b, o, none⟩ → ¬ NtB gn v b) (hn : n ≤ 1000) (hl : l.length ≤ 1000000) :
    Calls Tryz.prog 28 #[.pointer (some ⟨gn, 0, none⟩), .int .i64 kind, .slice A n c] w (TellPost gn nb now v (l ++ xs.map fun x => (kind, x, now)) w) := by
  have hlx := Lib.hid hx.len
  have h' := Lib.hid h
  have hx' := Lib.hid hx
  have hoff' := Lib.hid hoff
  clear h hx hoff
  go_enter Tryz.func28, Tryz.ntmps28
  go_wp2_with fail
  go_loopw [7, 10] (fun _ i wr => ∃ (k : Nat) (v' : Value), k ≤ n ∧ i = .int .i64 k ∧ HasNt wr gn nb now v' (l ++ (xs.take k).map fun x => (kind, x, now)) ∧ Mod (NtB gn v) w wr ∧ ∀ b, v'.ownBlock = some b → v.ownBlock = some b ∨ w.heap.size ≤ b) (fun _ i _ => n - (intOf i).toNat)
  case atStart => exact ⟨0, v, by omega, rfl, by simpa using h'.out, Mod.refl _ _, fun b hb => .inl hb⟩
  case round =>
    obtain ⟨k, v', hk, rfl, hN, hM, hv⟩ := hrel
    have hN' := Lib.hid hN
    have hM' := Lib.hid hM
    have hv' := Lib.hid hv
    by_cases hlt : k < n
    · have e3 : (k : Int) < (n : Int) := by omega
      obtain ⟨b, o, rfl, hb, hc⟩ := hx'.out.at_ hlt
      have cx : wr.cell? ⟨b, o + k, none⟩ = some (.int .i64 (xs.getD k 0)) := (hM.cell _ hb (hoff'.out b o rfl)).trans hc
      have htk : xs.take (k + 1) = xs.take k ++ [xs.getD k 0] := by
        have hkl : k < xs.length := by rw [hlx.out]; exact hlt
        rw [List.take_succ_eq_append_getElem hkl, List.getD_eq_getElem?_getD, List.getElem?_eq_getElem hkl]; rfl
      have htk' := Lib.hid htk
      generalize xs.getD k 0 = x at *
      have gr := lt_of_block hN.head
      have c0 : wr.cell? ⟨gn, 0, none⟩ = some (.int .i64 now) := cellsAt hN.head 0
      have c1 : wr.drew.cell? ⟨gn, 1, none⟩ = some v' := cellsAt hN.head 1
      have hlen : (l ++ (xs.take k).map fun x => (kind, x, now)).length = l.length + k := by
        rw [List.length_append, List.length_map, List.length_take, hlx.out]; omega
      obtain ⟨q, hq⟩ : ∃ q, q = (l ++ (xs.take k).map fun x => (kind, x, now)).length := ⟨_, rfl⟩
      have hown : wr.ownsRow nb 43 3 v' q ((l ++ (xs.take k).map fun x => (kind, x, now)).flatMap ntCells) := by rw [hq]; exact hN.own
      have hown' := Lib.hid hown
      have hq2 : q ≤ 1001000 := by omega
      have hq' := Lib.hid hq
      have hlen' := Lib.hid hlen
      clear hq hown
      clear hb hc hN hM hv htk hlen
      have hNl := hN'.out.lt
      have hNe := hN'.out.le
      have hvb : ∀ b, v'.ownBlock = some b → nb ≤ b ∧ b < wr.heap.size := fun b hb => hN'.out.own.lt b hb
      have hvb' := Lib.hid hvb
      have MD : Mod (NtB gn v') wr wr.drew := (Mod.refl _ wr).drew
      clear hvb
      go_upto_region 3 with fail
      refine wp_region_held_drew (S := fun w' => w'.cell? ⟨gn, 0, none⟩ = some (.int .i64 now) ∧ Mod (NtB gn v') wr w') (by kernel_rfl) ⟨c0, MD⟩ (fun hHeld => ?_)
      have EX : Ext wr (wr.drew.alloc (.cells #[.int .i64 kind, .int .i64 x, .int .i64 now] 43)) := (Ext.refl wr).god.goA _
      have BX := (EX.block gn gr).trans hN'.out.head
      have hnew : (wr.drew.alloc (.cells #[.int .i64 kind, .int .i64 x, .int .i64 now] 43)).heap[wr.heap.size]? = some (.cells #[.int .i64 kind, .int .i64 x, .int .i64 now] 43 (0, 0)) := heap_alloc_new wr.drew _
      have c1w : wr.cell? ⟨gn, 1, none⟩ = some v' := c1
      have x1 : (wr.drew.alloc (.cells #[.int .i64 kind, .int .i64 x, .int .i64 now] 43)).cell? ⟨gn, 1, none⟩ = some v' := cellsAt BX 1
      refine wpAnyH_take (i := 0) (oi := _) (v := ?_) rfl (by kernel_rfl) (by kernel_rfl) (by kernel_rfl) (fun _ _ _ h => h) (Or.inl ⟨by rfl, ?_⟩) (by assumption) ?_
      rotate_left
      · intro w hSw
        (try dsimp only at hSw)
        go_simp
        try (with_reducible rfl)
      try simp only [Act.put, List.getElem_toArray, List.getElem_cons_zero, List.setIfInBounds_toArray, List.set_cons_zero, List.set_cons_succ]
      refine wpAnyH_take (i := 1) (oi := _) (v := ?_) rfl (by kernel_rfl) (by kernel_rfl) (by kernel_rfl) (fun _ _ _ h => h) (Or.inl ⟨by rfl, ?_⟩) (by assumption) ?_
      rotate_left
      · intro w hSw
        (try dsimp only at hSw)
        go_simp
        try (with_reducible rfl)
      try simp only [Act.put, List.getElem_toArray, List.getElem_cons_succ, List.getElem_cons_zero, List.setIfInBounds_toArray, List.set_cons_zero, List.set_cons_succ]
      refine wpAnyH_take (i := 2) (oi := _) (v := ?_) rfl (by kernel_rfl) (by kernel_rfl) (by kernel_rfl) (fun _ _ _ h => h) (Or.inl ⟨by rfl, ?_⟩) (by assumption) ?_
      rotate_left
      · intro w hSw
        (try dsimp only at hSw)
        go_simp
        try (with_reducible rfl)
      try simp only [Act.put, List.getElem_toArray, List.getElem_cons_succ, List.getElem_cons_zero, List.setIfInBounds_toArray, List.set_cons_zero, List.set_cons_succ]
      refine wpAnyH_take (i := 3) (oi := _) (v := ?_) rfl (by kernel_rfl) (by kernel_rfl) (by kernel_rfl) (fun _ _ _ h => h) (Or.inl ⟨by rfl, ?_⟩) (by assumption) ?_
      rotate_left
      · intro w hSw
        (try dsimp only at hSw)
        go_simp
        try (with_reducible rfl)
      try simp only [Act.put, List.getElem_toArray, List.getElem_cons_succ, List.getElem_cons_zero, List.setIfInBounds_toArray, List.set_cons_zero, List.set_cons_succ]
      refine wpAnyH_take (i := 5) (oi := _) (v := ?_) rfl (by kernel_rfl) (by kernel_rfl) (by kernel_rfl) (fun _ _ _ h => h) (Or.inl ⟨by rfl, ?_⟩) (by assumption) ?_
      rotate_left
      · intro w hSw
        (try dsimp only at hSw)
        go_simp
        try (with_reducible rfl)
      try simp only [Act.put, List.getElem_toArray, List.getElem_cons_succ, List.getElem_cons_zero, List.setIfInBounds_toArray, List.set_cons_zero, List.set_cons_succ]
      refine wpAnyH_take (i := 6) (oi := _) (v := ?_) rfl (by kernel_rfl) (by kernel_rfl) (by kernel_rfl) (fun _ _ _ h => h) (Or.inl ⟨by rfl, ?_⟩) (by assumption) ?_
      rotate_left
      · intro w hSw
        (try dsimp only at hSw)
        go_simp
        try (with_reducible rfl)
      try simp only [Act.put, List.getElem_toArray, List.getElem_cons_succ, List.getElem_cons_zero, List.setIfInBounds_toArray, List.set_cons_zero, List.set_cons_succ]
      refine wpAnyH_take (i := 7) (oi := _) (v := ?_) rfl (by kernel_rfl) (by kernel_rfl) (by kernel_rfl) (fun _ _ _ h => h) (Or.inl ⟨by rfl, ?_⟩) (by assumption) ?_
      rotate_left
      · intro w hSw
        (try dsimp only at hSw)
        go_simp
        try (with_reducible rfl)
      try simp only [Act.put, List.getElem_toArray, List.getElem_cons_succ, List.getElem_cons_zero, List.setIfInBounds_toArray, List.set_cons_zero, List.set_cons_succ]
      refine wpAnyH_take (i := 8) (oi := _) (v := ?_) rfl (by kernel_rfl) (by kernel_rfl) (by kernel_rfl) (fun _ _ _ h => h) (Or.inl ⟨by rfl, ?_⟩) (by assumption) ?_
      rotate_left
      · intro w hSw
        (try dsimp only at hSw)
        go_simp
        try (with_reducible rfl)
      try simp only [Act.put, List.getElem_toArray, List.getElem_cons_succ, List.getElem_cons_zero, List.setIfInBounds_toArray, List.set_cons_zero, List.set_cons_succ]
      refine wpAnyH_take (i := 9) (oi := _) (v := ?_) rfl (by kernel_rfl) (by kernel_rfl) (by kernel_rfl) (fun _ _ _ h => h) (Or.inl ⟨by rfl, ?_⟩) (by assumption) ?_
      rotate_left
      · intro w hSw
        (try dsimp only at hSw)
        go_simp
        try (with_reducible rfl)
      try simp only [Act.put, List.getElem_toArray, List.getElem_cons_succ, List.getElem_cons_zero, List.setIfInBounds_toArray, List.set_cons_zero, List.set_cons_succ]
      refine wpAnyH_take (i := 10) (oi := _) (v := ?_) rfl (by kernel_rfl) (by kernel_rfl) (by kernel_rfl) (fun _ _ _ h => h) (Or.inl ⟨by rfl, ?_⟩) (by assumption) ?_
      rotate_left
      · intro w hSw
        (try dsimp only at hSw)
        go_simp
        try (with_reducible rfl)
      try simp only [Act.put, List.getElem_toArray, List.getElem_cons_succ, List.getElem_cons_zero, List.setIfInBounds_toArray, List.set_cons_zero, List.set_cons_succ]
      refine wpAnyH_take (i := 11) (oi := _) (v := ?_) rfl (by kernel_rfl) (by kernel_rfl) (by kernel_rfl) (fun _ _ _ h => h) (Or.inl ⟨by rfl, ?_⟩) (by assumption) ?_
      rotate_left
      · intro w hSw
        (try dsimp only at hSw)
        go_simp
        try (with_reducible rfl)
      try simp only [Act.put, List.getElem_toArray, List.getElem_cons_succ, List.getElem_cons_zero, List.setIfInBounds_toArray, List.set_cons_zero, List.set_cons_succ]
      refine wpAnyH_ready (rs := [4, 12]) (by kernel_rfl) (by simp) ?_
      refine AllReadyH.cons rfl (fun Kz hKz => ?_) (AllReadyH.cons rfl (fun Kz hKz => ?_) (AllReadyH.nil))
      · go_simp
        refine hKz.out _ _ ?_ (fun hHeld => ?_)
        · exact ⟨c0, MD⟩
        clear hKz Kz
        try simp only [Act.put, List.getElem_toArray, List.getElem_cons_succ, List.getElem_cons_zero, List.setIfInBounds_toArray, List.set_cons_zero, List.set_cons_succ]
        refine wpAnyH_ready (rs := [12]) (by kernel_rfl) (by simp) ?_
        refine AllReadyH.cons rfl (fun Kz hKz => ?_) ?_
        rotate_left
        · exact AllReadyH.nil
        go_simp
        refine hKz.out _ _ ?_ (fun hHeld => ?_)
        · exact ⟨cellsAt BX 0, MD.alloc _⟩
        clear hKz Kz
        try simp only [Act.put, List.getElem_toArray, List.getElem_cons_succ, List.getElem_cons_zero, List.setIfInBounds_toArray, List.set_cons_zero, List.set_cons_succ]
        refine wpAnyH_ready (rs := [13]) (by kernel_rfl) (by simp) ?_
        refine AllReadyH.cons rfl (fun Kz hKz => ?_) ?_
        rotate_left
        · exact AllReadyH.nil
        refine step_appS rfl (.tmp 18) (.tmp 26) _ rfl Tryz.underlying38 info_note rfl (by decide) (own_ext hown'.out EX) rfl (new := [.int .i64 kind, .int .i64 x, .int .i64 now]) rfl hnew rfl (by intro u hu; simp at hu; rcases hu with rfl | rfl | rfl <;> rfl) (by omega) (by unfold maxLen; omega) (by simp; omega) ?_
        intro v2 w2 own2 hg2 hat2
        obtain ⟨A2, c2, rfl⟩ := own_shape own2
        have B2 := (hg2.block gn (by simp; omega) (fun e => by have := (hvb'.out gn e.symm).1; omega)).trans BX
        have M2 : Mod (NtB gn v') wr w2 := (MD.alloc _).grown hg2 (fun k hk => .inl (.inr hk))
        have hHeld : w2.cell? ⟨gn, 0, none⟩ = some (.int .i64 now) ∧ Mod (NtB gn v') wr w2 := ⟨cellsAt B2 0, M2⟩
        have g2 := lt_of_block B2
        have z2 := frozenIn B2 1
        have y2 : w2.cell? ⟨gn, 1, none⟩ = some v' := cellsAt B2 1
        try dsimp only
        refine hKz.out _ _ ?_ (fun hHeld => ?_)
        · first | assumption | (dsimp only; assumption)
        clear hKz Kz
        try simp only [Act.put, List.getElem_toArray, List.getElem_cons_succ, List.getElem_cons_zero, List.setIfInBounds_toArray, List.set_cons_zero, List.set_cons_succ]
        refine wpAnyH_take (i := 14) (oi := _) (v := ?_) rfl (by kernel_rfl) (by kernel_rfl) (by kernel_rfl) (fun _ _ _ h => h) (Or.inl ⟨by rfl, ?_⟩) (by assumption) ?_
        rotate_left
        · intro w hSw
          (try dsimp only at hSw)
          go_simp
          try (with_reducible rfl)
        try simp only [Act.put, List.getElem_toArray, List.getElem_cons_succ, List.getElem_cons_zero, List.setIfInBounds_toArray, List.set_cons_zero, List.set_cons_succ]
        refine wpAnyH_take (i := 15) (oi := _) (v := ?_) rfl (by kernel_rfl) (by kernel_rfl) (by kernel_rfl) (fun _ _ _ h => h) (Or.inl ⟨by rfl, ?_⟩) (by assumption) ?_
        rotate_left
        · intro w hSw
          (try dsimp only at hSw)
          go_simp
          try (with_reducible rfl)
        try simp only [Act.put, List.getElem_toArray, List.getElem_cons_succ, List.getElem_cons_zero, List.setIfInBounds_toArray, List.set_cons_zero, List.set_cons_succ]
        refine wpAnyH_ready (rs := [16]) (by kernel_rfl) (by simp) ?_
        refine AllReadyH.cons rfl (fun Kz hKz => ?_) ?_
        rotate_left
        · exact AllReadyH.nil
        go_simp
        refine hKz.out _ _ ?_ (fun hHeld => ?_)
        · exact ⟨cellsAt (sets_block B2 1 _) 0, M2.setCell (p := ⟨gn, 1, none⟩) (.inl (.inl rfl)) _⟩
        clear hKz Kz
        try simp only [Act.put, List.getElem_toArray, List.getElem_cons_succ, List.getElem_cons_zero, List.setIfInBounds_toArray, List.set_cons_zero, List.set_cons_succ]
        refine wpAnyH_done (by kernel_rfl) ?_ _
        clear hHeld
        have BN := sets_block B2 1 (.slice A2 (q + 1) c2)
        have ow9 : (w2.setCell ⟨gn, 1, none⟩ (.slice A2 (q + 1) c2)).ownsRow nb 43 3 (.slice A2 (q + 1) c2) (l ++ (xs.take (k + 1)).map fun x => (kind, x, now)).length ((l ++ (xs.take (k + 1)).map fun x => (kind, x, now)).flatMap ntCells) := by
          have h9 := own_modK own2 ((Mod.refl (fun b => b = gn) w2).setCell (p := ⟨gn, 1, none⟩) (.inl rfl) (.slice A2 (q + 1) c2)) (fun i hi => by omega)
          have e9 : (l ++ (xs.take (k + 1)).map fun x => (kind, x, now)) = (l ++ (xs.take k).map fun x => (kind, x, now)) ++ [(kind, x, now)] := by rw [htk'.out, List.map_append, List.append_assoc]; rfl
          rw [e9, List.length_append, List.flatMap_append, ← hq'.out]
          exact h9
        have sz2 := hg2.size
        simp at sz2
        have hat3 : ∀ b, (Value.slice A2 (q + 1) c2).ownBlock = some b → v.ownBlock = some b ∨ w.heap.size ≤ b := fun b hb => by
          rcases hat2 with h2 | h2
          · exact hv'.out b (h2.symm.trans hb)
          · rw [h2] at hb; cases hb; right; have := hM'.out.size; simp; omega
        have M3 : Mod (NtB gn v) w wr.drew := hM'.out.drew
        have M4 : Mod (NtB gn v) w (w2.setCell ⟨gn, 1, none⟩ (.slice A2 (q + 1) c2)) := hM'.out.step (M2.setCell (p := ⟨gn, 1, none⟩) (.inl (.inl rfl)) _) (fun i hi => by
          rcases hi with rfl | hi
          · exact .inl (.inl rfl)
          · rcases hv'.out i hi with h1 | h1
            · exact .inl (.inr h1)
            · exact .inr h1)
        have BN' := Lib.hid BN
        have ow9' := Lib.hid ow9
        have M4' := Lib.hid M4
        have hat3' := Lib.hid hat3
        clear BN ow9 M4 hat3 own2 hg2 hat2 B2 M2 M3
        go_wp2_with fail
        go_roundw
        case rel => exact ⟨k + 1, _, by omega, by go_num, ⟨by simpa using BN'.out, ow9'.out, hNl, by simp; omega⟩, M4'.out, hat3'.out⟩
        case measure => simp [intOf]; omega
      · go_simp
        refine hKz.out _ _ ?_ (fun hHeld => ?_)
        · exact ⟨cellsAt BX 0, MD.alloc _⟩
        clear hKz Kz
        try simp only [Act.put, List.getElem_toArray, List.getElem_cons_succ, List.getElem_cons_zero, List.setIfInBounds_toArray, List.set_cons_zero, List.set_cons_succ]
        refine wpAnyH_ready (rs := [4]) (by kernel_rfl) (by simp) ?_
        refine AllReadyH.cons rfl (fun Kz hKz => ?_) ?_
        rotate_left
        · exact AllReadyH.nil
        go_simp
        refine hKz.out _ _ ?_ (fun hHeld => ?_)
        · exact ⟨cellsAt BX 0, MD.alloc _⟩
        clear hKz Kz
        try simp only [Act.put, List.getElem_toArray, List.getElem_cons_succ, List.getElem_cons_zero, List.setIfInBounds_toArray, List.set_cons_zero, List.set_cons_succ]
        refine wpAnyH_ready (rs := [13]) (by kernel_rfl) (by simp) ?_
        refine AllReadyH.cons rfl (fun Kz hKz => ?_) ?_
        rotate_left
        · exact AllReadyH.nil
        refine step_appS rfl (.tmp 18) (.tmp 26) _ rfl Tryz.underlying38 info_note rfl (by decide) (own_ext hown'.out EX) rfl (new := [.int .i64 kind, .int .i64 x, .int .i64 now]) rfl hnew rfl (by intro u hu; simp at hu; rcases hu with rfl | rfl | rfl <;> rfl) (by omega) (by unfold maxLen; omega) (by simp; omega) ?_
        intro v2 w2 own2 hg2 hat2
        obtain ⟨A2, c2, rfl⟩ := own_shape own2
        have B2 := (hg2.block gn (by simp; omega) (fun e => by have := (hvb'.out gn e.symm).1; omega)).trans BX
        have M2 : Mod (NtB gn v') wr w2 := (MD.alloc _).grown hg2 (fun k hk => .inl (.inr hk))
        have hHeld : w2.cell? ⟨gn, 0, none⟩ = some (.int .i64 now) ∧ Mod (NtB gn v') wr w2 := ⟨cellsAt B2 0, M2⟩
        have g2 := lt_of_block B2
        have z2 := frozenIn B2 1
        have y2 : w2.cell? ⟨gn, 1, none⟩ = some v' := cellsAt B2 1
        try dsimp only
        refine hKz.out _ _ ?_ (fun hHeld => ?_)
        · first | assumption | (dsimp only; assumption)
        clear hKz Kz
        try simp only [Act.put, List.getElem_toArray, List.getElem_cons_succ, List.getElem_cons_zero, List.setIfInBounds_toArray, List.set_cons_zero, List.set_cons_succ]
        refine wpAnyH_take (i := 14) (oi := _) (v := ?_) rfl (by kernel_rfl) (by kernel_rfl) (by kernel_rfl) (fun _ _ _ h => h) (Or.inl ⟨by rfl, ?_⟩) (by assumption) ?_
        rotate_left
        · intro w hSw
          (try dsimp only at hSw)
          go_simp
          try (with_reducible rfl)
        try simp only [Act.put, List.getElem_toArray, List.getElem_cons_succ, List.getElem_cons_zero, List.setIfInBounds_toArray, List.set_cons_zero, List.set_cons_succ]
        refine wpAnyH_take (i := 15) (oi := _) (v := ?_) rfl (by kernel_rfl) (by kernel_rfl) (by kernel_rfl) (fun _ _ _ h => h) (Or.inl ⟨by rfl, ?_⟩) (by assumption) ?_
        rotate_left
        · intro w hSw
          (try dsimp only at hSw)
          go_simp
          try (with_reducible rfl)
        try simp only [Act.put, List.getElem_toArray, List.getElem_cons_succ, List.getElem_cons_zero, List.setIfInBounds_toArray, List.set_cons_zero, List.set_cons_succ]
        refine wpAnyH_ready (rs := [16]) (by kernel_rfl) (by simp) ?_
        refine AllReadyH.cons rfl (fun Kz hKz => ?_) ?_
        rotate_left
        · exact AllReadyH.nil
        go_simp
        refine hKz.out _ _ ?_ (fun hHeld => ?_)
        · exact ⟨cellsAt (sets_block B2 1 _) 0, M2.setCell (p := ⟨gn, 1, none⟩) (.inl (.inl rfl)) _⟩
        clear hKz Kz
        try simp only [Act.put, List.getElem_toArray, List.getElem_cons_succ, List.getElem_cons_zero, List.setIfInBounds_toArray, List.set_cons_zero, List.set_cons_succ]
        refine wpAnyH_done (by kernel_rfl) ?_ _
        clear hHeld
        have BN := sets_block B2 1 (.slice A2 (q + 1) c2)
        have ow9 : (w2.setCell ⟨gn, 1, none⟩ (.slice A2 (q + 1) c2)).ownsRow nb 43 3 (.slice A2 (q + 1) c2) (l ++ (xs.take (k + 1)).map fun x => (kind, x, now)).length ((l ++ (xs.take (k + 1)).map fun x => (kind, x, now)).flatMap ntCells) := by
          have h9 := own_modK own2 ((Mod.refl (fun b => b = gn) w2).setCell (p := ⟨gn, 1, none⟩) (.inl rfl) (.slice A2 (q + 1) c2)) (fun i hi => by omega)
          have e9 : (l ++ (xs.take (k + 1)).map fun x => (kind, x, now)) = (l ++ (xs.take k).map fun x => (kind, x, now)) ++ [(kind, x, now)] := by rw [htk'.out, List.map_append, List.append_assoc]; rfl
          rw [e9, List.length_append, List.flatMap_append, ← hq'.out]
          exact h9
        have sz2 := hg2.size
        simp at sz2
        have hat3 : ∀ b, (Value.slice A2 (q + 1) c2).ownBlock = some b → v.ownBlock = some b ∨ w.heap.size ≤ b := fun b hb => by
          rcases hat2 with h2 | h2
          · exact hv'.out b (h2.symm.trans hb)
          · rw [h2] at hb; cases hb; right; have := hM'.out.size; simp; omega
        have M3 : Mod (NtB gn v) w wr.drew := hM'.out.drew
        have M4 : Mod (NtB gn v) w (w2.setCell ⟨gn, 1, none⟩ (.slice A2 (q + 1) c2)) := hM'.out.step (M2.setCell (p := ⟨gn, 1, none⟩) (.inl (.inl rfl)) _) (fun i hi => by
          rcases hi with rfl | hi
          · exact .inl (.inl rfl)
          · rcases hv'.out i hi with h1 | h1
            · exact .inl (.inr h1)
            · exact .inr h1)
        have BN' := Lib.hid BN
        have ow9' := Lib.hid ow9
        have M4' := Lib.hid M4
        have hat3' := Lib.hid hat3
        clear BN ow9 M4 hat3 own2 hg2 hat2 B2 M2 M3
        go_wp2_with fail
        go_roundw
        case rel => exact ⟨k + 1, _, by omega, by go_num, ⟨by simpa using BN'.out, ow9'.out, hNl, by simp; omega⟩, M4'.out, hat3'.out⟩
        case measure => simp [intOf]; omega
    · obtain rfl : k = n := by omega
      go_wp2_with fail
      refine bodyPost_ret (results_none rfl _ _ _) rfl ?_
      have hN := hN'.out
      rw [List.take_of_length_le (by rw [hlx.out]; exact Nat.le_refl _)] at hN
      exact ⟨rfl, v', hN, hM'.out, hv'.out⟩
end Go.Proofs.YtgajbgdkgelkgaaGreat
namespace Go.Proofs.YtgajbgdkgelkgaaGreat
open Go.RowKit

section
variable {w : World} {base B N : Nat} {K : CoK} {m : Mx} {c : Co}
theorem HasK.cell (h : HasK w base B N K m c) (i : Nat) : w.cell? ⟨K.g, i, none⟩ = (K.arr m)[i]? := cellsAt h.head i
theorem TrRow.cell {gt : Nat} {tr : List Bool} (h : TrRow w gt tr) {q : Nat} (hq : q < tr.length) : w.cell? ⟨gt, q, none⟩ = some (.bool (tr.getD q false)) := by
  rw [cellsAt h q]
  simp [hq]
end
set_option maxRecDepth 100000 in
set_option maxHeartbeats 1600000 in
theorem healthy_any (base B N : Nat) (K : CoK) (m : Mx) (c : Co) (w : World) (h : HasK w base B N K m c) (q : Nat) (hq : q < m.nc) (now : Int) :
    Calls Tryz.prog 39 #[.pointer (some ⟨K.g, 0, none⟩), .int .i64 q, .int .i64 now] w fun e w' => e = .returned (.bool (healthyC c q now)) ∧ w = w' := by
  have hg := lt_of_block h.head
  have c2 : w.cell? ⟨K.g, 10, none⟩ = some (.slice (some ⟨K.gt, 0, none⟩) m.nc m.nc) := h.cell 10
  have c5 : w.cell? ⟨K.g, 13, none⟩ = some (.pointer (some ⟨K.tg, 0, none⟩)) := h.cell 13
  have ct := h.tr.cell (q := q) (by rw [h.ltr]; exact hq)
  have gt := lt_of_block h.tr
  have e3 : (q : Int) < (m.nc : Int) := by omega
  have hsz := h.sz
  unfold sizesB at hsz
  simp only [Bool.and_eq_true, decide_eq_true_eq] at hsz
  have hnc : m.nc ≤ 8 := by have := h.mx.ok.ca.len; omega
  have wq : (Lit.int .i64 (q : Int)).wf = true := WalkArith.wf_i64 (n := (q : Int)) ⟨by omega, by omega⟩
  have hen := Lib.hid h.en
  clear h hsz
  unfold healthyC
  cases ht : c.tr.getD q false
  · rw [ht] at ct
    rw [Bool.not_false, Bool.true_or]
    clear ht
    go_enter Tryz.func39, Tryz.ntmps39
    go_wp2_with fail
    go_ret
    exact ⟨rfl, rfl⟩
  · rw [ht] at ct
    rw [Bool.not_true, Bool.false_or]
    clear ht
    go_enter Tryz.func39, Tryz.ntmps39
    go_wp2_with (go_at_call 75; refine (bypIs_any _ _ _ _ _ _ _ now _ hen.out wq).mono ?_; rintro e w' ⟨rfl, rfl⟩)
    go_ret
    exact ⟨rfl, rfl⟩
set_option maxRecDepth 100000 in
set_option maxHeartbeats 1600000 in
theorem trips_any (base B N : Nat) (K : CoK) (m : Mx) (c : Co) (w : World) (h : HasK w base B N K m c) (q : Int) :
    Calls Tryz.prog 12 #[.pointer (some ⟨K.g, 0, none⟩), .int .i64 q] w fun e w' => e = .returned (.bool (tripsC c q)) ∧ w = w' := by
  have hg := lt_of_block h.head
  have c2 : w.cell? ⟨K.g, 10, none⟩ = some (.slice (some ⟨K.gt, 0, none⟩) m.nc m.nc) := h.cell 10
  have gt := lt_of_block h.tr
  have hltr := h.ltr
  have hsz := h.sz
  unfold sizesB at hsz
  simp only [Bool.and_eq_true, decide_eq_true_eq] at hsz
  have hnc : m.nc ≤ 8 := by have := h.mx.ok.ca.len; omega
  have htr := Lib.hid h.tr
  clear h hsz
  unfold tripsC
  by_cases h0 : 0 ≤ q
  · obtain ⟨k, rfl⟩ := Int.eq_ofNat_of_zero_le h0
    have d0 : decide ((0 : Int) ≤ (k : Int)) = true := decide_eq_true h0
    rw [d0, Bool.true_and, Int.toNat_natCast]
    by_cases hk : k < m.nc
    · have d1 : decide ((k : Int) < (m.nc : Int)) = true := by simp; omega
      have e3 : (k : Int) < (m.nc : Int) := by omega
      have ct := htr.out.cell (q := k) (by rw [hltr]; exact hk)
      clear hltr
      go_enter Tryz.func12, Tryz.ntmps12
      go_wp2_with fail
      go_ret
      exact ⟨by simp, rfl⟩
    · have d1 : decide ((k : Int) < (m.nc : Int)) = false := by simp; omega
      have hz : c.tr.getD k false = false := by rw [List.getD_eq_getElem?_getD, List.getElem?_eq_none (by omega)]; rfl
      rw [hz]
      clear hltr hz
      go_enter Tryz.func12, Tryz.ntmps12
      go_wp2_with fail
      go_ret
      exact ⟨rfl, rfl⟩
  · have d0 : decide ((0 : Int) ≤ q) = false := decide_eq_false h0
    rw [d0, Bool.false_and]
    clear hltr
    go_enter Tryz.func12, Tryz.ntmps12
    go_wp2_with fail
    go_ret
    exact ⟨rfl, rfl⟩
theorem setE_still {E : List Int} {q : Int} (h : untilE E q = 0) : setE E q 0 = E := by
  unfold setE
  split
  · rename_i h0
    obtain ⟨k, rfl⟩ := Int.eq_ofNat_of_zero_le h0
    rw [untilE_of, List.getD_eq_getElem?_getD] at h
    rw [Int.toNat_natCast]
    apply List.ext_getElem?
    intro i
    rw [List.getElem?_set]
    split
    · rename_i e
      subst e
      split
      · rename_i hk
        rw [List.getElem?_eq_getElem hk] at h ⊢
        simp at h
        rw [h]
      · rename_i hk
        rw [List.getElem?_eq_none (by omega)]
    · rfl
  · rfl
/-- Notes, and an error's number, that a call hands back. -/
def NtsPost (l : List Nt) (no : Int) (w : World) (P : World → Prop) (e : Ending) (w' : World) : Prop :=
  ∃ A n cc, e = .returned (.tuple #[.slice A n cc, .int .i64 no]) ∧ n ≤ cc ∧ cc ≤ maxLen ∧ RdC ntCells 3 w' w'.heap.size A n l ∧ (∀ b o, A = some ⟨b, o, none⟩ → w.heap.size ≤ b) ∧ P w'
theorem ntCells_len (x : Nt) : (ntCells x).length = 3 := rfl
/-- A core behind a call: its plain state; what else has changed. -/
def CoAt (base B N : Nat) (K : CoK) (m : Mx) (S : Nat → Prop) (w : World) (c : Co) (w' : World) : Prop := HasK w' base B N K m c ∧ Mod S w w'
set_option maxRecDepth 100000 in
set_option maxHeartbeats 1600000 in
theorem coBypass_any (base B N : Nat) (K : CoK) (m : Mx) (c : Co) (w : World) (h : HasK w base B N K m c) (q ticks now : Int) (wq : (Lit.int .i64 q).wf = true) (hN : N ≤ 4611686018427) :
    Calls Tryz.prog 22 #[.pointer (some ⟨K.g, 0, none⟩), .int .i64 q, .int .i64 ticks, .int .i64 now] w
      (NtsPost (bypassC m q ticks now c).2.1 (bypassC m q ticks now c).2.2 w (CoAt base B (N + 1) K m (fun b => b = K.tm) w (bypassC m q ticks now c).1)) := by
  have hg := lt_of_block h.head
  have c5 : w.cell? ⟨K.g, 13, none⟩ = some (.pointer (some ⟨K.tg, 0, none⟩)) := h.cell 13
  have h' := Lib.hid h
  have wq' := Lib.hid wq
  clear h wq
  unfold bypassC
  by_cases hp : putC (m.cas.map Ca.lm) c.en q ticks now = 0
  · rw [if_pos hp]
    dsimp only
    go_enter Tryz.func22, Tryz.ntmps22
    go_upto_region 6 with (go_at_call 49; refine (bypPut_any _ _ _ _ _ _ _ ticks now _ h'.out.en wq'.out (by unfold maxLen; omega)).mono ?_; rw [hp]; rintro e w1 ⟨rfl, ht1, hM1⟩)
    have hK1 := h'.out.turnEn (show N ≤ N + 1 by omega) ht1 hM1
    have hK1' := Lib.hid hK1
    have hM1' := Lib.hid hM1
    have sz1 := hM1.size
    clear ht1 hM1 hK1
    have N0 : HasNt ((w1.alloc (.cells #[.int .i64 now, .slice none 0 0] 91)).alloc (.cells #[.int .i64 q] 3)) w1.heap.size (w1.heap.size + 1) now (.slice none 0 0) [] :=
      ⟨(((Ext.refl (w1.alloc (.cells #[.int .i64 now, .slice none 0 0] 91))).goA (.cells #[.int .i64 q] 3)).block _ (by simp)).trans (heap_alloc_new w1 _), World.ownsRow_nil _ _ _ _, by omega, by simp⟩
    have N0' := Lib.hid N0
    have X0 : RdI ((w1.alloc (.cells #[.int .i64 now, .slice none 0 0] 91)).alloc (.cells #[.int .i64 q] 3)) ((w1.alloc (.cells #[.int .i64 now, .slice none 0 0] 91)).alloc (.cells #[.int .i64 q] 3)).heap.size .i64 (some ⟨w1.heap.size + 1, 0, none⟩) 1 [q] := by
      have := RdI.new (w := w1.alloc (.cells #[.int .i64 now, .slice none 0 0] 91)) (g := w1.heap.size + 1) (e := 3) (k := .i64) (cs := #[.int .i64 q]) [q] (by simp) rfl rfl
      simpa using this
    have X0' := Lib.hid X0
    clear N0 X0
    go_upto_region 7 with (go_at_call 28; refine (tell_any _ _ now _ [] 3 _ _ _ [q] _ N0'.out X0'.out (fun b o e hb => by cases e; rcases hb with h1 | h1; omega; cases h1) (by omega) (by simp)).mono ?_; rintro e w2 ⟨rfl, v2, hN2, hM2, -⟩)
    have hK2 := (hK1'.out.ext (((Ext.refl w1).goA (.cells #[.int .i64 now, .slice none 0 0] 91)).goA (.cells #[.int .i64 q] 3))).mod hM2 (fun b hb => by
      have hb1 : b = w1.heap.size := by
        rcases hb with h1 | h1
        · exact h1
        · cases h1
      subst hb1
      exact ⟨fun hm => by have := hK1'.out.old hm; omega, fun hm => by have := hK1'.out.mxlt; omega⟩)
    have MM2 : Mod (fun b => b = K.tm) w w2 := hM1'.out.step (((((Ext.refl w1).goA (.cells #[.int .i64 now, .slice none 0 0] 91)).goA (.cells #[.int .i64 q] 3)).mod _).trans hM2) (fun b hb => by
      rcases hb with h1 | h1
      · exact .inr (by omega)
      · cases h1)
    have cn1 : w2.cell? ⟨w1.heap.size, 1, none⟩ = some v2 := cellsAt hN2.head 1
    have gn1 := lt_of_block hN2.head
    obtain ⟨A2, cc2, rfl, ⟨hc1, hc2⟩, hr2, hf2⟩ := own_rdC (cells := ntCells) hN2.own rfl rfl ntCells_len
    have hK2' := Lib.hid hK2
    have MM2' := Lib.hid MM2
    have hr2' := Lib.hid hr2
    clear hN2 hM2 hK2 MM2 hr2
    go_wp2_with fail
    go_ret2
    exact ⟨A2, _, cc2, rfl, hc1, hc2, hr2'.out, fun b o e => by have := hf2 b o e; omega, hK2'.out, MM2'.out⟩
  · rw [if_neg hp]
    dsimp only
    have hpb : (putC (m.cas.map Ca.lm) c.en q ticks now != 0) = true := by simpa using hp
    have hput : putE (m.cas.map Ca.lm) c.en q ticks now = c.en := by unfold putE; rw [if_neg hp]
    go_enter Tryz.func22, Tryz.ntmps22
    go_wp2_with (go_at_call 49; refine (bypPut_any _ _ _ _ _ _ _ ticks now _ h'.out.en wq'.out (by unfold maxLen; omega)).mono ?_; rw [hput]; rintro e w1 ⟨rfl, ht1, hM1⟩)
    go_ret2
    exact ⟨none, 0, 0, rfl, Nat.le_refl _, by unfold maxLen; omega, RdC.nil _ _ _ _ _, (fun b o e => by cases e), h'.out.turnEn (show N ≤ N + 1 by omega) ht1 hM1, hM1⟩
set_option maxRecDepth 100000 in
set_option maxHeartbeats 1600000 in
theorem coDrop_any (base B N : Nat) (K : CoK) (m : Mx) (c : Co) (w : World) (h : HasK w base B N K m c) (q now : Int) (wq : (Lit.int .i64 q).wf = true) :
    Calls Tryz.prog 34 #[.pointer (some ⟨K.g, 0, none⟩), .int .i64 q, .int .i64 now] w
      (NtsPost (dropC q now c).2.1 (dropC q now c).2.2 w (CoAt base B (N + 1) K m (fun b => b = K.tm) w (dropC q now c).1)) := by
  have hg := lt_of_block h.head
  have c5 : w.cell? ⟨K.g, 13, none⟩ = some (.pointer (some ⟨K.tg, 0, none⟩)) := h.cell 13
  have h' := Lib.hid h
  have wq' := Lib.hid wq
  clear h wq
  unfold dropC
  by_cases hp : untilE c.en q = 0
  · rw [if_pos hp]
    dsimp only
    have hset : setE c.en q 0 = c.en := setE_still hp
    have hpb : (untilE c.en q != 0) = false := by simpa using hp
    go_enter Tryz.func34, Tryz.ntmps34
    go_wp2_with (go_at_call 72; refine (bypDrop_any _ _ _ _ _ _ _ _ h'.out.en wq'.out).mono ?_; rw [hpb, hset]; rintro e w1 ⟨rfl, ht1, hM1⟩)
    go_ret2
    exact ⟨none, 0, 0, rfl, Nat.le_refl _, by unfold maxLen; omega, RdC.nil _ _ _ _ _, (fun b o e => by cases e), h'.out.turnEn (show N ≤ N + 1 by omega) (ht1.mono (by omega)) hM1, hM1⟩
  · rw [if_neg hp]
    dsimp only
    have hpb : (untilE c.en q != 0) = true := by simpa using hp
    go_enter Tryz.func34, Tryz.ntmps34
    go_upto_region 5 with (go_at_call 72; refine (bypDrop_any _ _ _ _ _ _ _ _ h'.out.en wq'.out).mono ?_; rw [hpb]; rintro e w1 ⟨rfl, ht1, hM1⟩)
    have hK1 := h'.out.turnEn (show N ≤ N + 1 by omega) (ht1.mono (by omega)) hM1
    have hK1' := Lib.hid hK1
    have hM1' := Lib.hid hM1
    have sz1 := hM1.size
    clear ht1 hM1 hK1
    have N0 : HasNt ((w1.alloc (.cells #[.int .i64 now, .slice none 0 0] 91)).alloc (.cells #[.int .i64 q] 3)) w1.heap.size (w1.heap.size + 1) now (.slice none 0 0) [] :=
      ⟨(((Ext.refl (w1.alloc (.cells #[.int .i64 now, .slice none 0 0] 91))).goA (.cells #[.int .i64 q] 3)).block _ (by simp)).trans (heap_alloc_new w1 _), World.ownsRow_nil _ _ _ _, by omega, by simp⟩
    have N0' := Lib.hid N0
    have X0 : RdI ((w1.alloc (.cells #[.int .i64 now, .slice none 0 0] 91)).alloc (.cells #[.int .i64 q] 3)) ((w1.alloc (.cells #[.int .i64 now, .slice none 0 0] 91)).alloc (.cells #[.int .i64 q] 3)).heap.size .i64 (some ⟨w1.heap.size + 1, 0, none⟩) 1 [q] := by
      have := RdI.new (w := w1.alloc (.cells #[.int .i64 now, .slice none 0 0] 91)) (g := w1.heap.size + 1) (e := 3) (k := .i64) (cs := #[.int .i64 q]) [q] (by simp) rfl rfl
      simpa using this
    have X0' := Lib.hid X0
    clear N0 X0
    go_upto_region 6 with (go_at_call 28; refine (tell_any _ _ now _ [] 4 _ _ _ [q] _ N0'.out X0'.out (fun b o e hb => by cases e; rcases hb with h1 | h1; omega; cases h1) (by omega) (by simp)).mono ?_; rintro e w2 ⟨rfl, v2, hN2, hM2, -⟩)
    have hK2 := (hK1'.out.ext (((Ext.refl w1).goA (.cells #[.int .i64 now, .slice none 0 0] 91)).goA (.cells #[.int .i64 q] 3))).mod hM2 (fun b hb => by
      have hb1 : b = w1.heap.size := by
        rcases hb with h1 | h1
        · exact h1
        · cases h1
      subst hb1
      exact ⟨fun hm => by have := hK1'.out.old hm; omega, fun hm => by have := hK1'.out.mxlt; omega⟩)
    have MM2 : Mod (fun b => b = K.tm) w w2 := hM1'.out.step (((((Ext.refl w1).goA (.cells #[.int .i64 now, .slice none 0 0] 91)).goA (.cells #[.int .i64 q] 3)).mod _).trans hM2) (fun b hb => by
      rcases hb with h1 | h1
      · exact .inr (by omega)
      · cases h1)
    have cn1 : w2.cell? ⟨w1.heap.size, 1, none⟩ = some v2 := cellsAt hN2.head 1
    have gn1 := lt_of_block hN2.head
    obtain ⟨A2, cc2, rfl, ⟨hc1, hc2⟩, hr2, hf2⟩ := own_rdC (cells := ntCells) hN2.own rfl rfl ntCells_len
    have hK2' := Lib.hid hK2
    have MM2' := Lib.hid MM2
    have hr2' := Lib.hid hr2
    clear hN2 hM2 hK2 MM2 hr2
    go_wp2_with fail
    go_ret2
    exact ⟨A2, _, cc2, rfl, hc1, hc2, hr2'.out, fun b o e => by have := hf2 b o e; omega, hK2'.out, MM2'.out⟩
end Go.Proofs.YtgajbgdkgelkgaaGreat
namespace Go.Proofs.YtgajbgdkgelkgaaGreat
open Go.RowKit

/-- What stands, read in memory from base on. -/
structure RdSt (w : World) (base : Nat) (v : Value) (s : St) : Prop where
  ex : ∃ A1 n1 c1 A2 n2 c2 A3 n3 c3, v = .agg #[.slice A1 n1 c1, .slice A2 n2 c2, .slice A3 n3 c3] ∧ (n1 ≤ c1 ∧ c1 ≤ maxLen) ∧ (n2 ≤ c2 ∧ c2 ≤ maxLen) ∧ (n3 ≤ c3 ∧ c3 ≤ maxLen) ∧
    RdC ltCells 3 w w.heap.size A1 n1 s.1 ∧ RdC ltCells 3 w w.heap.size A2 n2 s.2.1 ∧ RdI w w.heap.size .i64 A3 n3 s.2.2 ∧ FrA base A1 ∧ FrA base A2 ∧ FrA base A3
set_option maxRecDepth 100000 in
set_option maxHeartbeats 3200000 in
theorem coState_any (base B N : Nat) (K : CoK) (m : Mx) (c : Co) (w : World) (h : HasK w base B N K m c) :
    Calls Tryz.prog 15 #[.pointer (some ⟨K.g, 0, none⟩)] w fun e w' => ∃ v, e = .returned v ∧ RdSt w' w.heap.size v (stateC c) ∧ Ext w w' := by
  have hg := lt_of_block h.head
  have c3 : ∀ w', Ext w w' → w'.cell? ⟨K.g, 11, none⟩ = some (.pointer (some ⟨K.cg, 0, none⟩)) := fun w' E => (h.ext E).cell 11
  have c4 : ∀ w', Ext w w' → w'.cell? ⟨K.g, 12, none⟩ = some (.pointer (some ⟨K.eg, 0, none⟩)) := fun w' E => (h.ext E).cell 12
  have c5 : ∀ w', Ext w w' → w'.cell? ⟨K.g, 13, none⟩ = some (.pointer (some ⟨K.tg, 0, none⟩)) := fun w' E => (h.ext E).cell 13
  have hfit := h.en.fit
  have hsz := h.sz
  unfold sizesB at hsz
  simp only [Bool.and_eq_true, decide_eq_true_eq] at hsz
  have hll : (m.cas.map Ca.lm).length * 8 ≤ 140737488351232 := by simp; omega
  have h' := Lib.hid h
  clear h hsz
  unfold stateC
  go_enter Tryz.func15, Tryz.ntmps15
  go_upto_region 1 with fail
  refine wp_region_held_drew (S := fun w' => Ext w w') (by kernel_rfl) ((Ext.refl w).goA _).god (fun hHeld => ?_)
  refine wpAnyH_take (i := 0) (oi := _) (v := ?_) rfl (by kernel_rfl) (by kernel_rfl) (by kernel_rfl) (fun _ _ _ h => h) (Or.inl ⟨by rfl, ?_⟩) (by assumption) ?_
  rotate_left
  · intro w hSw
    (try dsimp only at hSw)
    go_simp
    try (with_reducible rfl)
  try simp only [Act.put, List.getElem_toArray, List.getElem_cons_zero, List.setIfInBounds_toArray, List.set_cons_zero, List.set_cons_succ]
  refine wpAnyH_take (i := 1) (oi := _) (v := ?_) rfl (by kernel_rfl) (by kernel_rfl) (by kernel_rfl) (fun _ _ _ h => h) (Or.inl ⟨by rfl, ?_⟩) (by assumption) ?_
  rotate_left
  · intro w hSw
    (try dsimp only at hSw)
    go_simp
    try (with_reducible rfl)
  try simp only [Act.put, List.getElem_toArray, List.getElem_cons_succ, List.getElem_cons_zero, List.setIfInBounds_toArray, List.set_cons_zero, List.set_cons_succ]
  refine wpAnyH_take (i := 2) (oi := _) (v := ?_) rfl (by kernel_rfl) (by kernel_rfl) (by kernel_rfl) (fun _ _ _ h => h) (Or.inl ⟨by rfl, ?_⟩) (by assumption) ?_
  rotate_left
  · intro w hSw
    (try dsimp only at hSw)
    go_simp
    try (with_reducible rfl)
  try simp only [Act.put, List.getElem_toArray, List.getElem_cons_succ, List.getElem_cons_zero, List.setIfInBounds_toArray, List.set_cons_zero, List.set_cons_succ]
  refine wpAnyH_take (i := 3) (oi := _) (v := ?_) rfl (by kernel_rfl) (by kernel_rfl) (by kernel_rfl) (fun _ _ _ h => h) (Or.inl ⟨by rfl, ?_⟩) (by assumption) ?_
  rotate_left
  · intro w hSw
    (try dsimp only at hSw)
    go_simp
    try (with_reducible rfl)
  try simp only [Act.put, List.getElem_toArray, List.getElem_cons_succ, List.getElem_cons_zero, List.setIfInBounds_toArray, List.set_cons_zero, List.set_cons_succ]
  refine wpAnyH_take (i := 5) (oi := _) (v := ?_) rfl (by kernel_rfl) (by kernel_rfl) (by kernel_rfl) (fun _ _ _ h => h) (Or.inl ⟨by rfl, ?_⟩) (by assumption) ?_
  rotate_left
  · intro w hSw
    (try dsimp only at hSw)
    go_simp
    try (with_reducible rfl)
  try simp only [Act.put, List.getElem_toArray, List.getElem_cons_succ, List.getElem_cons_zero, List.setIfInBounds_toArray, List.set_cons_zero, List.set_cons_succ]
  refine wpAnyH_take (i := 6) (oi := _) (v := ?_) rfl (by kernel_rfl) (by kernel_rfl) (by kernel_rfl) (fun _ _ _ h => h) (Or.inl ⟨by rfl, ?_⟩) (by assumption) ?_
  rotate_left
  · intro w hSw
    (try dsimp only at hSw)
    go_simp
    try (with_reducible rfl)
  try simp only [Act.put, List.getElem_toArray, List.getElem_cons_succ, List.getElem_cons_zero, List.setIfInBounds_toArray, List.set_cons_zero, List.set_cons_succ]
  refine wpAnyH_take (i := 7) (oi := _) (v := ?_) rfl (by kernel_rfl) (by kernel_rfl) (by kernel_rfl) (fun _ _ _ h => h) (Or.inl ⟨by rfl, ?_⟩) (by assumption) ?_
  rotate_left
  · intro w hSw
    (try dsimp only at hSw)
    go_simp
    try (with_reducible rfl)
  try simp only [Act.put, List.getElem_toArray, List.getElem_cons_succ, List.getElem_cons_zero, List.setIfInBounds_toArray, List.set_cons_zero, List.set_cons_succ]
  refine wpAnyH_take (i := 8) (oi := _) (v := ?_) rfl (by kernel_rfl) (by kernel_rfl) (by kernel_rfl) (fun _ _ _ h => h) (Or.inl ⟨by rfl, ?_⟩) (by assumption) ?_
  rotate_left
  · intro w hSw
    (try dsimp only at hSw)
    go_simp
    try (with_reducible rfl)
  try simp only [Act.put, List.getElem_toArray, List.getElem_cons_succ, List.getElem_cons_zero, List.setIfInBounds_toArray, List.set_cons_zero, List.set_cons_succ]
  refine wpAnyH_take (i := 10) (oi := _) (v := ?_) rfl (by kernel_rfl) (by kernel_rfl) (by kernel_rfl) (fun _ _ _ h => h) (Or.inl ⟨by rfl, ?_⟩) (by assumption) ?_
  rotate_left
  · intro w hSw
    (try dsimp only at hSw)
    go_simp
    try (with_reducible rfl)
  try simp only [Act.put, List.getElem_toArray, List.getElem_cons_succ, List.getElem_cons_zero, List.setIfInBounds_toArray, List.set_cons_zero, List.set_cons_succ]
  refine wpAnyH_take (i := 11) (oi := _) (v := ?_) rfl (by kernel_rfl) (by kernel_rfl) (by kernel_rfl) (fun _ _ _ h => h) (Or.inl ⟨by rfl, ?_⟩) (by assumption) ?_
  rotate_left
  · intro w hSw
    (try dsimp only at hSw)
    go_simp
    try (with_reducible rfl)
  try simp only [Act.put, List.getElem_toArray, List.getElem_cons_succ, List.getElem_cons_zero, List.setIfInBounds_toArray, List.set_cons_zero, List.set_cons_succ]
  refine wpAnyH_take (i := 12) (oi := _) (v := ?_) rfl (by kernel_rfl) (by kernel_rfl) (by kernel_rfl) (fun _ _ _ h => h) (Or.inl ⟨by rfl, ?_⟩) (by assumption) ?_
  rotate_left
  · intro w hSw
    (try dsimp only at hSw)
    go_simp
    try (with_reducible rfl)
  try simp only [Act.put, List.getElem_toArray, List.getElem_cons_succ, List.getElem_cons_zero, List.setIfInBounds_toArray, List.set_cons_zero, List.set_cons_succ]
  refine wpAnyH_take (i := 13) (oi := _) (v := ?_) rfl (by kernel_rfl) (by kernel_rfl) (by kernel_rfl) (fun _ _ _ h => h) (Or.inl ⟨by rfl, ?_⟩) (by assumption) ?_
  rotate_left
  · intro w hSw
    (try dsimp only at hSw)
    go_simp
    try (with_reducible rfl)
  try simp only [Act.put, List.getElem_toArray, List.getElem_cons_succ, List.getElem_cons_zero, List.setIfInBounds_toArray, List.set_cons_zero, List.set_cons_succ]
  refine wpAnyH_ready (rs := [4]) (by kernel_rfl) (by simp) ?_
  refine AllReadyH.cons rfl (fun Kz hKz => ?_) ?_
  rotate_left
  · exact AllReadyH.nil
  go_simp
  go_at_call 32
  refine (latchAll_any _ _ _ _ _ _ _ (h'.out.ca.ext hHeld)).mono ?_
  rintro e w1 ⟨A1, n1, cc1, rfl, h11, h12, r1, E1, f1⟩
  have X1 : Ext w w1 := hHeld.go E1
  try dsimp only
  refine hKz.out _ _ ?_ (fun hHeld => ?_)
  · first | assumption | (dsimp only; assumption)
  clear hKz Kz
  try simp only [Act.put, List.getElem_toArray, List.getElem_cons_succ, List.getElem_cons_zero, List.setIfInBounds_toArray, List.set_cons_zero, List.set_cons_succ]
  refine wpAnyH_ready (rs := [9]) (by kernel_rfl) (by simp) ?_
  refine AllReadyH.cons rfl (fun Kz hKz => ?_) ?_
  rotate_left
  · exact AllReadyH.nil
  go_simp
  go_at_call 32
  refine (latchAll_any _ _ _ _ _ _ _ (h'.out.ef.ext X1)).mono ?_
  rintro e w2 ⟨A2, n2, cc2, rfl, h21, h22, r2, E2, f2⟩
  have X2 : Ext w w2 := X1.go E2
  try dsimp only
  refine hKz.out _ _ ?_ (fun hHeld => ?_)
  · first | assumption | (dsimp only; assumption)
  clear hKz Kz
  try simp only [Act.put, List.getElem_toArray, List.getElem_cons_succ, List.getElem_cons_zero, List.setIfInBounds_toArray, List.set_cons_zero, List.set_cons_succ]
  refine wpAnyH_ready (rs := [14]) (by kernel_rfl) (by simp) ?_
  refine AllReadyH.cons rfl (fun Kz hKz => ?_) ?_
  rotate_left
  · exact AllReadyH.nil
  go_simp
  go_at_call 33
  refine (bypAll_any _ _ _ _ _ _ _ (h'.out.en.ext X2) hll).mono ?_
  rintro e w3 ⟨A3, n3, cc3, rfl, h31, h32, r3, E3, f3⟩
  have X3 : Ext w w3 := X2.go E3
  try dsimp only
  refine hKz.out _ _ ?_ (fun hHeld => ?_)
  · first | assumption | (dsimp only; assumption)
  clear hKz Kz
  try simp only [Act.put, List.getElem_toArray, List.getElem_cons_succ, List.getElem_cons_zero, List.setIfInBounds_toArray, List.set_cons_zero, List.set_cons_succ]
  refine wpAnyH_take (i := 15) (oi := _) (v := ?_) rfl (by kernel_rfl) (by kernel_rfl) (by kernel_rfl) (fun _ _ _ h => h) (Or.inl ⟨by rfl, ?_⟩) (by assumption) ?_
  rotate_left
  · intro w hSw
    (try dsimp only at hSw)
    go_simp
    try (with_reducible rfl)
  try simp only [Act.put, List.getElem_toArray, List.getElem_cons_succ, List.getElem_cons_zero, List.setIfInBounds_toArray, List.set_cons_zero, List.set_cons_succ]
  have Z0 := (((E1.go E2).go E3).block w.heap.size (by simp)).trans (heap_alloc_new w (.cells #[.slice none 0 0, .slice none 0 0, .slice none 0 0] 50))
  have gz := lt_of_block Z0
  have y0 : w3.cell? ⟨w.heap.size, 0, none⟩ = some (.slice none 0 0) := cellsAt Z0 0
  have y1 : w3.cell? ⟨w.heap.size, 1, none⟩ = some (.slice none 0 0) := cellsAt Z0 1
  have y2 : w3.cell? ⟨w.heap.size, 2, none⟩ = some (.slice none 0 0) := cellsAt Z0 2
  have z0 := frozenIn Z0 0
  have z1 := frozenIn Z0 1
  have z2 := frozenIn Z0 2
  refine wpAnyH_ready (rs := [16]) (by kernel_rfl) (by simp) ?_
  refine AllReadyH.cons rfl (fun Kz hKz => ?_) ?_
  rotate_left
  · exact AllReadyH.nil
  go_simp
  refine hKz.out _ _ ?_ (fun hHeld => ?_)
  · exact ((X3.goS (p := ⟨w.heap.size, 0, none⟩) (Nat.le_refl _) _).goS (p := ⟨w.heap.size, 1, none⟩) (Nat.le_refl _) _).goS (p := ⟨w.heap.size, 2, none⟩) (Nat.le_refl _) _
  clear hKz Kz
  try simp only [Act.put, List.getElem_toArray, List.getElem_cons_succ, List.getElem_cons_zero, List.setIfInBounds_toArray, List.set_cons_zero, List.set_cons_succ]
  refine wpAnyH_done (by kernel_rfl) ?_ _
  have RZ := sets_block (sets_block (sets_block Z0 0 (.slice A1 n1 cc1)) 1 (.slice A2 n2 cc2)) 2 (.slice A3 n3 cc3)
  have MZ := (((Mod.refl (fun b => b = w.heap.size) w3).setCell (p := ⟨w.heap.size, 0, none⟩) (.inl rfl) (.slice A1 n1 cc1)).setCell (p := ⟨w.heap.size, 1, none⟩) (.inl rfl) (.slice A2 n2 cc2)).setCell (p := ⟨w.heap.size, 2, none⟩) (.inl rfl) (.slice A3 n3 cc3)
  have s1 := E1.size
  have s2 := E2.size
  simp at s1
  have RZ' := Lib.hid RZ
  have MZ' := Lib.hid MZ
  clear y0 y1 y2 z0 z1 z2 RZ MZ hHeld c3 c4 c5
  go_wp2_with fail
  have u := cellsAt RZ'.out
  have u0 := u 0
  have u1 := u 1
  have u2 := u 2
  simp at u0 u1 u2
  refine bodyPost_ret (v := .agg #[.slice A1 n1 cc1, .slice A2 n2 cc2, .slice A3 n3 cc3]) (by simp [results, Tryz.results15, go_sem, u0, u1, u2]) rfl ?_
  refine ⟨_, rfl, ⟨A1, n1, cc1, A2, n2, cc2, A3, n3, cc3, rfl, ⟨h11, h12⟩, ⟨h21, h22⟩, ⟨h31, h32⟩, ?_, ?_, ?_, ?_, ?_, ?_⟩, X3.goM MZ'.out (fun i hi => by omega)⟩
  · exact ((r1.ext E2).ext E3).mod MZ'.out (fun hn b o e hb => by have := f1 b o e; simp at this; omega)
  · exact (r2.ext E3).mod MZ'.out (fun hn b o e hb => by have := f2 b o e; omega)
  · exact r3.turned MZ'.out (fun b o e hb => by have := f3 b o e; omega)
  · exact fun b o e => by have := f1 b o e; simp at this; omega
  · exact fun b o e => by have := f2 b o e; omega
  · exact fun b o e => by have := f3 b o e; omega
end Go.Proofs.YtgajbgdkgelkgaaGreat
