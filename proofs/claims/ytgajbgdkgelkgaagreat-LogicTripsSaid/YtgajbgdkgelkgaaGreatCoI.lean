/- Layer 17, the walks: clear. Printed by gen/clear17.py. -/
import Derived.Test.YtgajbgdkgelkgaaGreatCoH
namespace Go.Proofs.YtgajbgdkgelkgaaGreat
open Go.RowKit

/-- Two rows of the call's own, beside each other. -/
structure Two (w0 w : World) (u v : Value) (n1 n2 : Nat) (xs ys : List Int) : Prop where
  ou : w.ownsRow w0.heap.size 3 1 u n1 (xs.map (Value.int .i64))
  ov : w.ownsRow w0.heap.size 2 1 v n2 (ys.map (Value.int .i64))
  ne : ∀ b, u.ownBlock = some b → ¬ v.ownBlock = some b
  ext : Ext w0 w
section
variable {w0 w w' : World} {u v : Value} {n1 n2 : Nat} {xs ys : List Int}
theorem Two.go (h : Two w0 w u v n1 n2 xs ys) (E : Ext w w') : Two w0 w' u v n1 n2 xs ys := ⟨own_ext h.ou E, own_ext h.ov E, h.ne, h.ext.go E⟩
theorem Two.appU (h : Two w0 w u v n1 n2 xs ys) {u' : Value} {xs' : List Int} {n : Nat} (ho : w'.ownsRow w0.heap.size 3 1 u' n (xs'.map (Value.int .i64))) (g : w.grownBy w' u.ownBlock) (hb : u'.ownBlock = u.ownBlock ∨ u'.ownBlock = some w.heap.size) : Two w0 w' u' v n n2 xs' ys := by
  refine ⟨ho, h.ov.kept g ?_, fun b h1 h2 => ?_, h.ext.goG g fun k hk => (h.ou.lt k hk).1⟩
  · cases hv : v.ownBlock with
    | none => exact .inl rfl
    | some b => exact .inr fun e => h.ne b e.symm hv
  · rcases hb with hb | hb
    · exact h.ne b (hb ▸ h1) h2
    · have := (h.ov.lt b h2).2
      rw [hb] at h1
      cases h1
      omega
theorem Two.appV (h : Two w0 w u v n1 n2 xs ys) {v' : Value} {ys' : List Int} {n : Nat} (ho : w'.ownsRow w0.heap.size 2 1 v' n (ys'.map (Value.int .i64))) (g : w.grownBy w' v.ownBlock) (hb : v'.ownBlock = v.ownBlock ∨ v'.ownBlock = some w.heap.size) : Two w0 w' u v' n1 n xs ys' := by
  refine ⟨h.ou.kept g ?_, ho, fun b h1 h2 => ?_, h.ext.goG g fun k hk => (h.ov.lt k hk).1⟩
  · cases hv : u.ownBlock with
    | none => exact .inl rfl
    | some b => exact .inr fun e => h.ne b hv e.symm
  · rcases hb with hb | hb
    · exact h.ne b h1 (hb ▸ h2)
    · have := (h.ou.lt b h1).2
      rw [hb] at h2
      cases h2
      omega
end
/-- A slice of one, made since U. -/
structure Sl17 (U w : World) (s : Nat) (a : Int) : Prop where
  rd : RdI w w.heap.size .i64 (some ⟨s, 0, none⟩) 1 [a]
  ge : U.heap.size ≤ s
theorem Sl17.mk' {U w : World} (e : TypeId) (a : Int) (h : U.heap.size ≤ w.heap.size) : Sl17 U (w.alloc (.cells #[.int .i64 a] e)) w.heap.size a := ⟨by have := RdI.one w e .i64 a; simpa using this, h⟩
theorem Sl17.go {U w w' : World} {s : Nat} {a : Int} (h : Sl17 U w s a) (E : Ext w w') : Sl17 U w' s a := ⟨h.rd.ext E, h.ge⟩
theorem Sl17.far {U w w' : World} {s : Nat} {a : Int} (h : Sl17 U w s a) {row : Option Nat} (g : w.grownBy w' row) (hr : ∀ b, row = some b → b < U.heap.size) : Sl17 U w' s a :=
  ⟨h.rd.turned (S := fun b => row = some b) ((Mod.refl _ w).grown g fun k hk => .inl hk) fun b o e hb => by cases e; have := hr _ hb; have := h.ge; omega, h.ge⟩
def UV (u v : Value) (b : Nat) : Prop := u.ownBlock = some b ∨ v.ownBlock = some b
/-- What clear reads. -/
structure ClIn (w : World) (base B g : Nat) (arr : Array Value) (m : Mx) : Prop where
  head : w.heap[g]? = some (.cells arr 79 (0, 0))
  a7 : arr[7]? = some (.slice m.Ac m.nc m.cc)
  a8 : arr[8]? = some (.slice m.Ae m.ne m.ce)
  mx : OwnMx w base B m
  lt : B ≤ w.heap.size
theorem ClIn.ext {w w' : World} {base B g : Nat} {arr : Array Value} {m : Mx} (h : ClIn w base B g arr m) (E : Ext w w') : ClIn w' base B g arr m :=
  ⟨(E.block g (lt_of_block h.head)).trans h.head, h.a7, h.a8, h.mx.keep fun b _ hb => E.block b (Nat.lt_of_lt_of_le hb h.lt), Nat.le_trans h.lt E.size⟩
def LwB (g l f s b : Nat) : Prop := b = g ∨ b = l ∨ b = f ∨ b = s
def TbB (g l f b : Nat) : Prop := b = g ∨ b = l ∨ b = f
structure Cleared (w w' : World) (m : Mx) (cg cl cf cs eg el ef es tg tl tm : Nat) : Prop where
  hca : Rw w' cg cl cf cs 0 (newL (m.cas.map groupOf))
  hef : Rw w' eg el ef es 0 (newL (m.efs.map fun _ => 0))
  hen : Tb w' tg tl tm 0 (m.cas.map Ca.lm) (zs m.cas.length)
  ext : Ext w w'
  l1 : ∀ b, LwB cg cl cf cs b → w.heap.size ≤ b
  l2 : ∀ b, LwB eg el ef es b → w.heap.size ≤ b
  l3 : ∀ b, TbB tg tl tm b → w.heap.size ≤ b
  d12 : ∀ b, LwB cg cl cf cs b → ¬ LwB eg el ef es b
  d13 : ∀ b, LwB cg cl cf cs b → ¬ TbB tg tl tm b
  d23 : ∀ b, LwB eg el ef es b → ¬ TbB tg tl tm b
def ClearPost (m : Mx) (w : World) (e : Ending) (w' : World) : Prop :=
  ∃ cg cl cf cs eg el ef es tg tl tm, e = .returned (.tuple #[.pointer (some ⟨cg, 0, none⟩), .pointer (some ⟨eg, 0, none⟩), .pointer (some ⟨tg, 0, none⟩)]) ∧ Cleared w w' m cg cl cf cs eg el ef es tg tl tm
set_option maxRecDepth 100000 in
set_option maxHeartbeats 12800000 in
theorem clear_any (base B g : Nat) (arr : Array Value) (m : Mx) (w : World) (h : ClIn w base B g arr m) (hR : rightM m = true) :
    Calls Tryz.prog 27 #[.pointer (some ⟨g, 0, none⟩)] w (ClearPost m w) := by
  obtain ⟨hrc, hre, hsz⟩ := right_parts hR
  unfold sizesB at hsz
  simp only [Bool.and_eq_true, decide_eq_true_eq] at hsz
  have hlc : m.cas.length = m.nc := h.mx.ok.ca.len
  have hle : m.efs.length = m.ne := h.mx.ok.ef.len
  have hnc : m.nc ≤ 8 := by omega
  have hne : m.ne ≤ 8 := by omega
  have hg := lt_of_block h.head
  have c7 : w.cell? ⟨g, 7, none⟩ = some (.slice m.Ac m.nc m.cc) := (cellsAt h.head 7).trans h.a7
  have h' := Lib.hid h
  have hrc' := Lib.hid hrc
  clear h hrc hre hsz hR
  go_enter Tryz.func27, Tryz.ntmps27
  go_wp2_with fail
  go_loopw [5, 6, 16] (fun u' v' i wr => ∃ (k : Nat) (u v : Value), k ≤ m.nc ∧ i = .int .i64 k ∧ u = u' ∧ v = v' ∧ Two w wr u v k k ((m.cas.take k).map groupOf) ((m.cas.take k).map Ca.lm)) (fun _ _ i _ => m.nc - (intOf i).toNat)
  case atStart => exact ⟨0, _, _, by omega, rfl, rfl, rfl, by simpa using World.ownsRow_nil _ _ _ _, by simpa using World.ownsRow_nil _ _ _ _, (fun b hb => by cases hb), Ext.refl _⟩
  case round =>
    obtain ⟨k, u, v, hk, rfl, rfl, rfl, hT⟩ := hrel
    have hT' := Lib.hid hT
    have hC := h'.out.ext hT.ext
    have hC' := Lib.hid hC
    by_cases hlt : k < m.nc
    · have e6 : (k : Int) < (m.nc : Int) := by omega
      obtain ⟨x, hx⟩ := hC.mx.ok.ca.get hlt
      obtain ⟨gc, oc, hAc, hgc, hcc⟩ := hC.mx.ok.ca.at_ hx
      have x0 : wr.cell? ⟨gc, oc + k * 5, none⟩ = some (.string x.nm) := hcc 0 (by decide)
      have x1 : wr.cell? ⟨gc, oc + k * 5 + 1, none⟩ = some (.int .i64 x.vt) := hcc 1 (by decide)
      have x2 : wr.cell? ⟨gc, oc + k * 5 + 2, none⟩ = some (.int .i64 x.lp) := hcc 2 (by decide)
      have x3 : wr.cell? ⟨gc, oc + k * 5 + 3, none⟩ = some (.int .i64 x.lm) := hcc 3 (by decide)
      have x4 : wr.cell? ⟨gc, oc + k * 5 + 4, none⟩ = some (.slice x.A x.n x.c) := hcc 4 (by decide)
      have hgcw : gc < wr.heap.size := by have := hC.lt; omega
      have htk : m.cas.take (k + 1) = m.cas.take k ++ [x] := by rw [List.take_add_one, hx]; rfl
      have htg : (m.cas.take (k + 1)).map groupOf = (m.cas.take k).map groupOf ++ [groupOf x] := by rw [htk, List.map_append]; rfl
      have htl : (m.cas.take (k + 1)).map Ca.lm = (m.cas.take k).map Ca.lm ++ [x.lm] := by rw [htk, List.map_append]; rfl
      have htl' := Lib.hid htl
      clear hC hcc hx htk htl hT c7
      rw [hAc]
      by_cases h4 : 4 ≤ x.lp
      · have d4 : decide ((4 : Int) ≤ x.lp) = true := decide_eq_true h4
        rw [show groupOf x = x.lp from if_pos h4] at htg
        have htg' := Lib.hid htg
        clear htg
        go_upto_region 9 with fail
        have EU := (Ext.refl wr).goA (.cells #[.string x.nm, .int .i64 x.vt, .int .i64 x.lp, .int .i64 x.lm, .slice x.A x.n x.c] 87)
        have B8 := heap_alloc_new wr (.cells #[.string x.nm, .int .i64 x.vt, .int .i64 x.lp, .int .i64 x.lm, .slice x.A x.n x.c] 87)
        generalize wr.alloc (.cells #[.string x.nm, .int .i64 x.vt, .int .i64 x.lp, .int .i64 x.lm, .slice x.A x.n x.c] 87) = U at *
        have gU := lt_of_block B8
        have hub0 : ∀ b, u.ownBlock = some b → b < wr.heap.size := fun b hb => (hT'.out.ou.lt b hb).2
        have hvb0 : ∀ b, v.ownBlock = some b → b < wr.heap.size := fun b hb => (hT'.out.ov.lt b hb).2
        have hub : ∀ b, u.ownBlock = some b → b < U.heap.size := fun b hb => by have := hub0 b hb; omega
        have hvb : ∀ b, v.ownBlock = some b → b < U.heap.size := fun b hb => by have := hvb0 b hb; omega
        have r8 : ∀ w', Mod (UV u v) U w' → w'.cell? ⟨wr.heap.size, 3, none⟩ = some (.int .i64 x.lm) := fun w' M => cellsAt ((M.block wr.heap.size gU (fun hb => by rcases hb with hb | hb; exact absurd (hub0 _ hb) (by omega); exact absurd (hvb0 _ hb) (by omega))).trans B8) 3
        have T0 := hT'.out.go (EU.god)
        have M0 : Mod (UV u v) U U.drew := (Mod.refl _ U).drew
        clear x0 x1 x2 x3 x4 d4 EU B8 hub0 hvb0
        refine wp_region_held_drew (S := fun w' => Mod (UV u v) U w') (by kernel_rfl) (Mod.refl _ U).drew (fun hHeld => ?_)
        refine wpAnyH_take (i := 0) (oi := _) (v := ?_) rfl (by kernel_rfl) (by kernel_rfl) (by kernel_rfl) (fun _ _ _ h => h) (Or.inl ⟨by rfl, ?_⟩) (by assumption) ?_
        rotate_left
        · intro w hSw
          (try dsimp only at hSw)
          go_simp
          try (with_reducible rfl)
        try simp only [Act.put, List.getElem_toArray, List.getElem_cons_zero, List.setIfInBounds_toArray, List.set_cons_zero, List.set_cons_succ]
        refine wpAnyH_take (i := 1) (oi := _) (v := ?_) rfl (by kernel_rfl) (by kernel_rfl) (by kernel_rfl) (fun _ _ _ h => h) (Or.inl ⟨by rfl, ?_⟩) (by assumption) ?_
        rotate_left
        · intro w hSw
          (try dsimp only at hSw)
          go_simp
          try (with_reducible rfl)
        try simp only [Act.put, List.getElem_toArray, List.getElem_cons_succ, List.getElem_cons_zero, List.setIfInBounds_toArray, List.set_cons_zero, List.set_cons_succ]
        refine wpAnyH_take (i := 4) (oi := _) (v := ?_) rfl (by kernel_rfl) (by kernel_rfl) (by kernel_rfl) (fun _ _ _ h => h) (Or.inl ⟨by rfl, ?_⟩) (by assumption) ?_
        rotate_left
        · intro w hSw
          (try dsimp only at hSw)
          go_simp
          try (with_reducible rfl)
        try simp only [Act.put, List.getElem_toArray, List.getElem_cons_succ, List.getElem_cons_zero, List.setIfInBounds_toArray, List.set_cons_zero, List.set_cons_succ]
        refine wpAnyH_take (i := 5) (oi := _) (v := ?_) rfl (by kernel_rfl) (by kernel_rfl) (by kernel_rfl) (fun _ _ _ h => h) (Or.inl ⟨by rfl, ?_⟩) (by assumption) ?_
        rotate_left
        · intro w hSw
          (try dsimp only at hSw)
          go_simp
          try (with_reducible rfl)
        try simp only [Act.put, List.getElem_toArray, List.getElem_cons_succ, List.getElem_cons_zero, List.setIfInBounds_toArray, List.set_cons_zero, List.set_cons_succ]
        refine wpAnyH_take (i := 6) (oi := _) (v := ?_) rfl (by kernel_rfl) (by kernel_rfl) (by kernel_rfl) (fun _ _ _ h => h) (Or.inl ⟨by rfl, ?_⟩) (by assumption) ?_
        rotate_left
        · intro w hSw
          (try dsimp only at hSw)
          go_simp
          try (with_reducible rfl)
        try simp only [Act.put, List.getElem_toArray, List.getElem_cons_succ, List.getElem_cons_zero, List.setIfInBounds_toArray, List.set_cons_zero, List.set_cons_succ]
        clear hHeld
        generalize U.drew = W0 at *
        refine wpAnyH_ready (rs := [2, 7]) (by kernel_rfl) (by simp) ?_
        refine AllReadyH.cons rfl (fun Kz hKz => ?_) (AllReadyH.cons rfl (fun Kz hKz => ?_) (AllReadyH.nil))
        · go_simp
          refine hKz.out _ _ ?_ (fun hHeld => ?_)
          · exact M0.alloc _
          clear hKz Kz
          try simp only [Act.put, List.getElem_toArray, List.getElem_cons_succ, List.getElem_cons_zero, List.setIfInBounds_toArray, List.set_cons_zero, List.set_cons_succ]
          have E1 := (Ext.refl W0).goA (.cells #[.int .i64 x.lp] 3)
          have M1 := M0.alloc (.cells #[.int .i64 x.lp] 3)
          have T1 := T0.go E1
          have SA1 := Sl17.mk' 3 x.lp M0.size
          clear hHeld E1
          generalize W0.alloc (.cells #[.int .i64 x.lp] 3) = W1 at *
          refine wpAnyH_ready (rs := [3, 7]) (by kernel_rfl) (by simp) ?_
          refine AllReadyH.cons rfl (fun Kz hKz => ?_) (AllReadyH.cons rfl (fun Kz hKz => ?_) (AllReadyH.nil))
          · refine step_appI rfl (.tmp 25) (.tmp 27) _ rfl Tryz.underlying57 info_int T1.ou rfl SA1.rd rfl (by omega) (by omega) T1.ext.size ?_
            intro z2 W2 own2 gr2 at2
            have M2 : Mod (UV u v) U W2 := M1.grown gr2 (fun k hk => .inl (.inl hk))
            have hHeld := M2
            try dsimp only
            refine hKz.out _ _ ?_ (fun hHeld => ?_)
            · first | assumption | (dsimp only; assumption)
            clear hKz Kz
            try simp only [Act.put, List.getElem_toArray, List.getElem_cons_succ, List.getElem_cons_zero, List.setIfInBounds_toArray, List.set_cons_zero, List.set_cons_succ]
            have T2 := T1.appU own2 gr2 at2
            clear own2 gr2 at2 hHeld
            refine wpAnyH_ready (rs := [7]) (by kernel_rfl) (by simp) ?_
            refine AllReadyH.cons rfl (fun Kz hKz => ?_) ?_
            rotate_left
            · exact AllReadyH.nil
            go_simp
            refine hKz.out _ _ ?_ (fun hHeld => ?_)
            · exact M2.alloc _
            clear hKz Kz
            try simp only [Act.put, List.getElem_toArray, List.getElem_cons_succ, List.getElem_cons_zero, List.setIfInBounds_toArray, List.set_cons_zero, List.set_cons_succ]
            have E3 := (Ext.refl W2).goA (.cells #[.int .i64 x.lm] 2)
            have M3 := M2.alloc (.cells #[.int .i64 x.lm] 2)
            have T3 := T2.go E3
            have SB3 := Sl17.mk' 2 x.lm M2.size
            clear hHeld E3
            generalize W2.alloc (.cells #[.int .i64 x.lm] 2) = W3 at *
            refine wpAnyH_ready (rs := [8]) (by kernel_rfl) (by simp) ?_
            refine AllReadyH.cons rfl (fun Kz hKz => ?_) ?_
            rotate_left
            · exact AllReadyH.nil
            refine step_appI rfl (.tmp 29) (.tmp 32) _ rfl Tryz.underlying48 info_i64 T3.ov rfl SB3.rd rfl (by omega) (by omega) T3.ext.size ?_
            intro z4 W4 own4 gr4 at4
            have M4 : Mod (UV u v) U W4 := M3.grown gr4 (fun k hk => .inl (.inr hk))
            have hHeld := M4
            try dsimp only
            refine hKz.out _ _ ?_ (fun hHeld => ?_)
            · first | assumption | (dsimp only; assumption)
            clear hKz Kz
            try simp only [Act.put, List.getElem_toArray, List.getElem_cons_succ, List.getElem_cons_zero, List.setIfInBounds_toArray, List.set_cons_zero, List.set_cons_succ]
            have T4 := T3.appV own4 gr4 at4
            clear own4 gr4 at4 hHeld
            refine wpAnyH_take (i := 9) (oi := _) (v := ?_) rfl (by kernel_rfl) (by kernel_rfl) (by kernel_rfl) (fun _ _ _ h => h) (Or.inl ⟨by rfl, ?_⟩) (by assumption) ?_
            rotate_left
            · intro w hSw
              (try dsimp only at hSw)
              go_simp
              try (with_reducible rfl)
            try simp only [Act.put, List.getElem_toArray, List.getElem_cons_succ, List.getElem_cons_zero, List.setIfInBounds_toArray, List.set_cons_zero, List.set_cons_succ]
            refine wpAnyH_take (i := 10) (oi := _) (v := ?_) rfl (by kernel_rfl) (by kernel_rfl) (by kernel_rfl) (fun _ _ _ h => h) (Or.inl ⟨by rfl, ?_⟩) (by assumption) ?_
            rotate_left
            · intro w hSw
              (try dsimp only at hSw)
              go_simp
              try (with_reducible rfl)
            try simp only [Act.put, List.getElem_toArray, List.getElem_cons_succ, List.getElem_cons_zero, List.setIfInBounds_toArray, List.set_cons_zero, List.set_cons_succ]
            refine wpAnyH_done (by kernel_rfl) ?_ _
            have TT := Lib.hid T4
            clear r8 T4
            go_wp2_with fail
            go_roundw
            case rel => exact ⟨k + 1, _, _, by omega, by go_num, rfl, rfl, by rw [htg'.out, htl'.out]; exact TT.out⟩
            case measure => simp [intOf]; omega
          · go_simp
            refine hKz.out _ _ ?_ (fun hHeld => ?_)
            · exact M1.alloc _
            clear hKz Kz
            try simp only [Act.put, List.getElem_toArray, List.getElem_cons_succ, List.getElem_cons_zero, List.setIfInBounds_toArray, List.set_cons_zero, List.set_cons_succ]
            have E2 := (Ext.refl W1).goA (.cells #[.int .i64 x.lm] 2)
            have M2 := M1.alloc (.cells #[.int .i64 x.lm] 2)
            have T2 := T1.go E2
            have SA2 := SA1.go E2
            have SB2 := Sl17.mk' 2 x.lm M1.size
            clear hHeld E2
            generalize W1.alloc (.cells #[.int .i64 x.lm] 2) = W2 at *
            refine wpAnyH_ready (rs := [3]) (by kernel_rfl) (by simp) ?_
            refine AllReadyH.cons rfl (fun Kz hKz => ?_) ?_
            rotate_left
            · exact AllReadyH.nil
            refine step_appI rfl (.tmp 25) (.tmp 27) _ rfl Tryz.underlying57 info_int T2.ou rfl SA2.rd rfl (by omega) (by omega) T2.ext.size ?_
            intro z3 W3 own3 gr3 at3
            have M3 : Mod (UV u v) U W3 := M2.grown gr3 (fun k hk => .inl (.inl hk))
            have hHeld := M3
            try dsimp only
            refine hKz.out _ _ ?_ (fun hHeld => ?_)
            · first | assumption | (dsimp only; assumption)
            clear hKz Kz
            try simp only [Act.put, List.getElem_toArray, List.getElem_cons_succ, List.getElem_cons_zero, List.setIfInBounds_toArray, List.set_cons_zero, List.set_cons_succ]
            have T3 := T2.appU own3 gr3 at3
            have SB3 := SB2.far gr3 hub
            clear own3 gr3 at3 hHeld
            refine wpAnyH_ready (rs := [8]) (by kernel_rfl) (by simp) ?_
            refine AllReadyH.cons rfl (fun Kz hKz => ?_) ?_
            rotate_left
            · exact AllReadyH.nil
            refine step_appI rfl (.tmp 29) (.tmp 32) _ rfl Tryz.underlying48 info_i64 T3.ov rfl SB3.rd rfl (by omega) (by omega) T3.ext.size ?_
            intro z4 W4 own4 gr4 at4
            have M4 : Mod (UV u v) U W4 := M3.grown gr4 (fun k hk => .inl (.inr hk))
            have hHeld := M4
            try dsimp only
            refine hKz.out _ _ ?_ (fun hHeld => ?_)
            · first | assumption | (dsimp only; assumption)
            clear hKz Kz
            try simp only [Act.put, List.getElem_toArray, List.getElem_cons_succ, List.getElem_cons_zero, List.setIfInBounds_toArray, List.set_cons_zero, List.set_cons_succ]
            have T4 := T3.appV own4 gr4 at4
            clear own4 gr4 at4 hHeld
            refine wpAnyH_take (i := 9) (oi := _) (v := ?_) rfl (by kernel_rfl) (by kernel_rfl) (by kernel_rfl) (fun _ _ _ h => h) (Or.inl ⟨by rfl, ?_⟩) (by assumption) ?_
            rotate_left
            · intro w hSw
              (try dsimp only at hSw)
              go_simp
              try (with_reducible rfl)
            try simp only [Act.put, List.getElem_toArray, List.getElem_cons_succ, List.getElem_cons_zero, List.setIfInBounds_toArray, List.set_cons_zero, List.set_cons_succ]
            refine wpAnyH_take (i := 10) (oi := _) (v := ?_) rfl (by kernel_rfl) (by kernel_rfl) (by kernel_rfl) (fun _ _ _ h => h) (Or.inl ⟨by rfl, ?_⟩) (by assumption) ?_
            rotate_left
            · intro w hSw
              (try dsimp only at hSw)
              go_simp
              try (with_reducible rfl)
            try simp only [Act.put, List.getElem_toArray, List.getElem_cons_succ, List.getElem_cons_zero, List.setIfInBounds_toArray, List.set_cons_zero, List.set_cons_succ]
            refine wpAnyH_done (by kernel_rfl) ?_ _
            have TT := Lib.hid T4
            clear r8 T4
            go_wp2_with fail
            go_roundw
            case rel => exact ⟨k + 1, _, _, by omega, by go_num, rfl, rfl, by rw [htg'.out, htl'.out]; exact TT.out⟩
            case measure => simp [intOf]; omega
        · go_simp
          refine hKz.out _ _ ?_ (fun hHeld => ?_)
          · exact M0.alloc _
          clear hKz Kz
          try simp only [Act.put, List.getElem_toArray, List.getElem_cons_succ, List.getElem_cons_zero, List.setIfInBounds_toArray, List.set_cons_zero, List.set_cons_succ]
          have E1 := (Ext.refl W0).goA (.cells #[.int .i64 x.lm] 2)
          have M1 := M0.alloc (.cells #[.int .i64 x.lm] 2)
          have T1 := T0.go E1
          have SB1 := Sl17.mk' 2 x.lm M0.size
          clear hHeld E1
          generalize W0.alloc (.cells #[.int .i64 x.lm] 2) = W1 at *
          refine wpAnyH_ready (rs := [2]) (by kernel_rfl) (by simp) ?_
          refine AllReadyH.cons rfl (fun Kz hKz => ?_) ?_
          rotate_left
          · exact AllReadyH.nil
          go_simp
          refine hKz.out _ _ ?_ (fun hHeld => ?_)
          · exact M1.alloc _
          clear hKz Kz
          try simp only [Act.put, List.getElem_toArray, List.getElem_cons_succ, List.getElem_cons_zero, List.setIfInBounds_toArray, List.set_cons_zero, List.set_cons_succ]
          have E2 := (Ext.refl W1).goA (.cells #[.int .i64 x.lp] 3)
          have M2 := M1.alloc (.cells #[.int .i64 x.lp] 3)
          have T2 := T1.go E2
          have SB2 := SB1.go E2
          have SA2 := Sl17.mk' 3 x.lp M1.size
          clear hHeld E2
          generalize W1.alloc (.cells #[.int .i64 x.lp] 3) = W2 at *
          refine wpAnyH_ready (rs := [3]) (by kernel_rfl) (by simp) ?_
          refine AllReadyH.cons rfl (fun Kz hKz => ?_) ?_
          rotate_left
          · exact AllReadyH.nil
          refine step_appI rfl (.tmp 25) (.tmp 27) _ rfl Tryz.underlying57 info_int T2.ou rfl SA2.rd rfl (by omega) (by omega) T2.ext.size ?_
          intro z3 W3 own3 gr3 at3
          have M3 : Mod (UV u v) U W3 := M2.grown gr3 (fun k hk => .inl (.inl hk))
          have hHeld := M3
          try dsimp only
          refine hKz.out _ _ ?_ (fun hHeld => ?_)
          · first | assumption | (dsimp only; assumption)
          clear hKz Kz
          try simp only [Act.put, List.getElem_toArray, List.getElem_cons_succ, List.getElem_cons_zero, List.setIfInBounds_toArray, List.set_cons_zero, List.set_cons_succ]
          have T3 := T2.appU own3 gr3 at3
          have SB3 := SB2.far gr3 hub
          clear own3 gr3 at3 hHeld
          refine wpAnyH_ready (rs := [8]) (by kernel_rfl) (by simp) ?_
          refine AllReadyH.cons rfl (fun Kz hKz => ?_) ?_
          rotate_left
          · exact AllReadyH.nil
          refine step_appI rfl (.tmp 29) (.tmp 32) _ rfl Tryz.underlying48 info_i64 T3.ov rfl SB3.rd rfl (by omega) (by omega) T3.ext.size ?_
          intro z4 W4 own4 gr4 at4
          have M4 : Mod (UV u v) U W4 := M3.grown gr4 (fun k hk => .inl (.inr hk))
          have hHeld := M4
          try dsimp only
          refine hKz.out _ _ ?_ (fun hHeld => ?_)
          · first | assumption | (dsimp only; assumption)
          clear hKz Kz
          try simp only [Act.put, List.getElem_toArray, List.getElem_cons_succ, List.getElem_cons_zero, List.setIfInBounds_toArray, List.set_cons_zero, List.set_cons_succ]
          have T4 := T3.appV own4 gr4 at4
          clear own4 gr4 at4 hHeld
          refine wpAnyH_take (i := 9) (oi := _) (v := ?_) rfl (by kernel_rfl) (by kernel_rfl) (by kernel_rfl) (fun _ _ _ h => h) (Or.inl ⟨by rfl, ?_⟩) (by assumption) ?_
          rotate_left
          · intro w hSw
            (try dsimp only at hSw)
            go_simp
            try (with_reducible rfl)
          try simp only [Act.put, List.getElem_toArray, List.getElem_cons_succ, List.getElem_cons_zero, List.setIfInBounds_toArray, List.set_cons_zero, List.set_cons_succ]
          refine wpAnyH_take (i := 10) (oi := _) (v := ?_) rfl (by kernel_rfl) (by kernel_rfl) (by kernel_rfl) (fun _ _ _ h => h) (Or.inl ⟨by rfl, ?_⟩) (by assumption) ?_
          rotate_left
          · intro w hSw
            (try dsimp only at hSw)
            go_simp
            try (with_reducible rfl)
          try simp only [Act.put, List.getElem_toArray, List.getElem_cons_succ, List.getElem_cons_zero, List.setIfInBounds_toArray, List.set_cons_zero, List.set_cons_succ]
          refine wpAnyH_done (by kernel_rfl) ?_ _
          have TT := Lib.hid T4
          clear r8 T4
          go_wp2_with fail
          go_roundw
          case rel => exact ⟨k + 1, _, _, by omega, by go_num, rfl, rfl, by rw [htg'.out, htl'.out]; exact TT.out⟩
          case measure => simp [intOf]; omega
      · have d4 : decide ((4 : Int) ≤ x.lp) = false := decide_eq_false h4
        rw [show groupOf x = 0 from if_neg h4] at htg
        have htg' := Lib.hid htg
        clear htg
        go_upto_region 9 with fail
        have EU := (Ext.refl wr).goA (.cells #[.string x.nm, .int .i64 x.vt, .int .i64 x.lp, .int .i64 x.lm, .slice x.A x.n x.c] 87)
        have B8 := heap_alloc_new wr (.cells #[.string x.nm, .int .i64 x.vt, .int .i64 x.lp, .int .i64 x.lm, .slice x.A x.n x.c] 87)
        generalize wr.alloc (.cells #[.string x.nm, .int .i64 x.vt, .int .i64 x.lp, .int .i64 x.lm, .slice x.A x.n x.c] 87) = U at *
        have gU := lt_of_block B8
        have hub0 : ∀ b, u.ownBlock = some b → b < wr.heap.size := fun b hb => (hT'.out.ou.lt b hb).2
        have hvb0 : ∀ b, v.ownBlock = some b → b < wr.heap.size := fun b hb => (hT'.out.ov.lt b hb).2
        have hub : ∀ b, u.ownBlock = some b → b < U.heap.size := fun b hb => by have := hub0 b hb; omega
        have hvb : ∀ b, v.ownBlock = some b → b < U.heap.size := fun b hb => by have := hvb0 b hb; omega
        have r8 : ∀ w', Mod (UV u v) U w' → w'.cell? ⟨wr.heap.size, 3, none⟩ = some (.int .i64 x.lm) := fun w' M => cellsAt ((M.block wr.heap.size gU (fun hb => by rcases hb with hb | hb; exact absurd (hub0 _ hb) (by omega); exact absurd (hvb0 _ hb) (by omega))).trans B8) 3
        have T0 := hT'.out.go (EU.god)
        have M0 : Mod (UV u v) U U.drew := (Mod.refl _ U).drew
        clear x0 x1 x2 x3 x4 d4 EU B8 hub0 hvb0
        refine wp_region_held_drew (S := fun w' => Mod (UV u v) U w') (by kernel_rfl) (Mod.refl _ U).drew (fun hHeld => ?_)
        refine wpAnyH_take (i := 0) (oi := _) (v := ?_) rfl (by kernel_rfl) (by kernel_rfl) (by kernel_rfl) (fun _ _ _ h => h) (Or.inl ⟨by rfl, ?_⟩) (by assumption) ?_
        rotate_left
        · intro w hSw
          (try dsimp only at hSw)
          go_simp
          try (with_reducible rfl)
        try simp only [Act.put, List.getElem_toArray, List.getElem_cons_zero, List.setIfInBounds_toArray, List.set_cons_zero, List.set_cons_succ]
        refine wpAnyH_take (i := 1) (oi := _) (v := ?_) rfl (by kernel_rfl) (by kernel_rfl) (by kernel_rfl) (fun _ _ _ h => h) (Or.inl ⟨by rfl, ?_⟩) (by assumption) ?_
        rotate_left
        · intro w hSw
          (try dsimp only at hSw)
          go_simp
          try (with_reducible rfl)
        try simp only [Act.put, List.getElem_toArray, List.getElem_cons_succ, List.getElem_cons_zero, List.setIfInBounds_toArray, List.set_cons_zero, List.set_cons_succ]
        refine wpAnyH_take (i := 4) (oi := _) (v := ?_) rfl (by kernel_rfl) (by kernel_rfl) (by kernel_rfl) (fun _ _ _ h => h) (Or.inl ⟨by rfl, ?_⟩) (by assumption) ?_
        rotate_left
        · intro w hSw
          (try dsimp only at hSw)
          go_simp
          try (with_reducible rfl)
        try simp only [Act.put, List.getElem_toArray, List.getElem_cons_succ, List.getElem_cons_zero, List.setIfInBounds_toArray, List.set_cons_zero, List.set_cons_succ]
        refine wpAnyH_take (i := 5) (oi := _) (v := ?_) rfl (by kernel_rfl) (by kernel_rfl) (by kernel_rfl) (fun _ _ _ h => h) (Or.inl ⟨by rfl, ?_⟩) (by assumption) ?_
        rotate_left
        · intro w hSw
          (try dsimp only at hSw)
          go_simp
          try (with_reducible rfl)
        try simp only [Act.put, List.getElem_toArray, List.getElem_cons_succ, List.getElem_cons_zero, List.setIfInBounds_toArray, List.set_cons_zero, List.set_cons_succ]
        refine wpAnyH_take (i := 6) (oi := _) (v := ?_) rfl (by kernel_rfl) (by kernel_rfl) (by kernel_rfl) (fun _ _ _ h => h) (Or.inl ⟨by rfl, ?_⟩) (by assumption) ?_
        rotate_left
        · intro w hSw
          (try dsimp only at hSw)
          go_simp
          try (with_reducible rfl)
        try simp only [Act.put, List.getElem_toArray, List.getElem_cons_succ, List.getElem_cons_zero, List.setIfInBounds_toArray, List.set_cons_zero, List.set_cons_succ]
        clear hHeld
        generalize U.drew = W0 at *
        refine wpAnyH_ready (rs := [2, 7]) (by kernel_rfl) (by simp) ?_
        refine AllReadyH.cons rfl (fun Kz hKz => ?_) (AllReadyH.cons rfl (fun Kz hKz => ?_) (AllReadyH.nil))
        · go_simp
          refine hKz.out _ _ ?_ (fun hHeld => ?_)
          · exact M0.alloc _
          clear hKz Kz
          try simp only [Act.put, List.getElem_toArray, List.getElem_cons_succ, List.getElem_cons_zero, List.setIfInBounds_toArray, List.set_cons_zero, List.set_cons_succ]
          have E1 := (Ext.refl W0).goA (.cells #[.int .i64 0] 3)
          have M1 := M0.alloc (.cells #[.int .i64 0] 3)
          have T1 := T0.go E1
          have SA1 := Sl17.mk' 3 (0 : Int) M0.size
          clear hHeld E1
          generalize W0.alloc (.cells #[.int .i64 0] 3) = W1 at *
          refine wpAnyH_ready (rs := [3, 7]) (by kernel_rfl) (by simp) ?_
          refine AllReadyH.cons rfl (fun Kz hKz => ?_) (AllReadyH.cons rfl (fun Kz hKz => ?_) (AllReadyH.nil))
          · refine step_appI rfl (.tmp 25) (.tmp 27) _ rfl Tryz.underlying57 info_int T1.ou rfl SA1.rd rfl (by omega) (by omega) T1.ext.size ?_
            intro z2 W2 own2 gr2 at2
            have M2 : Mod (UV u v) U W2 := M1.grown gr2 (fun k hk => .inl (.inl hk))
            have hHeld := M2
            try dsimp only
            refine hKz.out _ _ ?_ (fun hHeld => ?_)
            · first | assumption | (dsimp only; assumption)
            clear hKz Kz
            try simp only [Act.put, List.getElem_toArray, List.getElem_cons_succ, List.getElem_cons_zero, List.setIfInBounds_toArray, List.set_cons_zero, List.set_cons_succ]
            have T2 := T1.appU own2 gr2 at2
            clear own2 gr2 at2 hHeld
            refine wpAnyH_ready (rs := [7]) (by kernel_rfl) (by simp) ?_
            refine AllReadyH.cons rfl (fun Kz hKz => ?_) ?_
            rotate_left
            · exact AllReadyH.nil
            go_simp
            refine hKz.out _ _ ?_ (fun hHeld => ?_)
            · exact M2.alloc _
            clear hKz Kz
            try simp only [Act.put, List.getElem_toArray, List.getElem_cons_succ, List.getElem_cons_zero, List.setIfInBounds_toArray, List.set_cons_zero, List.set_cons_succ]
            have E3 := (Ext.refl W2).goA (.cells #[.int .i64 x.lm] 2)
            have M3 := M2.alloc (.cells #[.int .i64 x.lm] 2)
            have T3 := T2.go E3
            have SB3 := Sl17.mk' 2 x.lm M2.size
            clear hHeld E3
            generalize W2.alloc (.cells #[.int .i64 x.lm] 2) = W3 at *
            refine wpAnyH_ready (rs := [8]) (by kernel_rfl) (by simp) ?_
            refine AllReadyH.cons rfl (fun Kz hKz => ?_) ?_
            rotate_left
            · exact AllReadyH.nil
            refine step_appI rfl (.tmp 29) (.tmp 32) _ rfl Tryz.underlying48 info_i64 T3.ov rfl SB3.rd rfl (by omega) (by omega) T3.ext.size ?_
            intro z4 W4 own4 gr4 at4
            have M4 : Mod (UV u v) U W4 := M3.grown gr4 (fun k hk => .inl (.inr hk))
            have hHeld := M4
            try dsimp only
            refine hKz.out _ _ ?_ (fun hHeld => ?_)
            · first | assumption | (dsimp only; assumption)
            clear hKz Kz
            try simp only [Act.put, List.getElem_toArray, List.getElem_cons_succ, List.getElem_cons_zero, List.setIfInBounds_toArray, List.set_cons_zero, List.set_cons_succ]
            have T4 := T3.appV own4 gr4 at4
            clear own4 gr4 at4 hHeld
            refine wpAnyH_take (i := 9) (oi := _) (v := ?_) rfl (by kernel_rfl) (by kernel_rfl) (by kernel_rfl) (fun _ _ _ h => h) (Or.inl ⟨by rfl, ?_⟩) (by assumption) ?_
            rotate_left
            · intro w hSw
              (try dsimp only at hSw)
              go_simp
              try (with_reducible rfl)
            try simp only [Act.put, List.getElem_toArray, List.getElem_cons_succ, List.getElem_cons_zero, List.setIfInBounds_toArray, List.set_cons_zero, List.set_cons_succ]
            refine wpAnyH_take (i := 10) (oi := _) (v := ?_) rfl (by kernel_rfl) (by kernel_rfl) (by kernel_rfl) (fun _ _ _ h => h) (Or.inl ⟨by rfl, ?_⟩) (by assumption) ?_
            rotate_left
            · intro w hSw
              (try dsimp only at hSw)
              go_simp
              try (with_reducible rfl)
            try simp only [Act.put, List.getElem_toArray, List.getElem_cons_succ, List.getElem_cons_zero, List.setIfInBounds_toArray, List.set_cons_zero, List.set_cons_succ]
            refine wpAnyH_done (by kernel_rfl) ?_ _
            have TT := Lib.hid T4
            clear r8 T4
            go_wp2_with fail
            go_roundw
            case rel => exact ⟨k + 1, _, _, by omega, by go_num, rfl, rfl, by rw [htg'.out, htl'.out]; exact TT.out⟩
            case measure => simp [intOf]; omega
          · go_simp
            refine hKz.out _ _ ?_ (fun hHeld => ?_)
            · exact M1.alloc _
            clear hKz Kz
            try simp only [Act.put, List.getElem_toArray, List.getElem_cons_succ, List.getElem_cons_zero, List.setIfInBounds_toArray, List.set_cons_zero, List.set_cons_succ]
            have E2 := (Ext.refl W1).goA (.cells #[.int .i64 x.lm] 2)
            have M2 := M1.alloc (.cells #[.int .i64 x.lm] 2)
            have T2 := T1.go E2
            have SA2 := SA1.go E2
            have SB2 := Sl17.mk' 2 x.lm M1.size
            clear hHeld E2
            generalize W1.alloc (.cells #[.int .i64 x.lm] 2) = W2 at *
            refine wpAnyH_ready (rs := [3]) (by kernel_rfl) (by simp) ?_
            refine AllReadyH.cons rfl (fun Kz hKz => ?_) ?_
            rotate_left
            · exact AllReadyH.nil
            refine step_appI rfl (.tmp 25) (.tmp 27) _ rfl Tryz.underlying57 info_int T2.ou rfl SA2.rd rfl (by omega) (by omega) T2.ext.size ?_
            intro z3 W3 own3 gr3 at3
            have M3 : Mod (UV u v) U W3 := M2.grown gr3 (fun k hk => .inl (.inl hk))
            have hHeld := M3
            try dsimp only
            refine hKz.out _ _ ?_ (fun hHeld => ?_)
            · first | assumption | (dsimp only; assumption)
            clear hKz Kz
            try simp only [Act.put, List.getElem_toArray, List.getElem_cons_succ, List.getElem_cons_zero, List.setIfInBounds_toArray, List.set_cons_zero, List.set_cons_succ]
            have T3 := T2.appU own3 gr3 at3
            have SB3 := SB2.far gr3 hub
            clear own3 gr3 at3 hHeld
            refine wpAnyH_ready (rs := [8]) (by kernel_rfl) (by simp) ?_
            refine AllReadyH.cons rfl (fun Kz hKz => ?_) ?_
            rotate_left
            · exact AllReadyH.nil
            refine step_appI rfl (.tmp 29) (.tmp 32) _ rfl Tryz.underlying48 info_i64 T3.ov rfl SB3.rd rfl (by omega) (by omega) T3.ext.size ?_
            intro z4 W4 own4 gr4 at4
            have M4 : Mod (UV u v) U W4 := M3.grown gr4 (fun k hk => .inl (.inr hk))
            have hHeld := M4
            try dsimp only
            refine hKz.out _ _ ?_ (fun hHeld => ?_)
            · first | assumption | (dsimp only; assumption)
            clear hKz Kz
            try simp only [Act.put, List.getElem_toArray, List.getElem_cons_succ, List.getElem_cons_zero, List.setIfInBounds_toArray, List.set_cons_zero, List.set_cons_succ]
            have T4 := T3.appV own4 gr4 at4
            clear own4 gr4 at4 hHeld
            refine wpAnyH_take (i := 9) (oi := _) (v := ?_) rfl (by kernel_rfl) (by kernel_rfl) (by kernel_rfl) (fun _ _ _ h => h) (Or.inl ⟨by rfl, ?_⟩) (by assumption) ?_
            rotate_left
            · intro w hSw
              (try dsimp only at hSw)
              go_simp
              try (with_reducible rfl)
            try simp only [Act.put, List.getElem_toArray, List.getElem_cons_succ, List.getElem_cons_zero, List.setIfInBounds_toArray, List.set_cons_zero, List.set_cons_succ]
            refine wpAnyH_take (i := 10) (oi := _) (v := ?_) rfl (by kernel_rfl) (by kernel_rfl) (by kernel_rfl) (fun _ _ _ h => h) (Or.inl ⟨by rfl, ?_⟩) (by assumption) ?_
            rotate_left
            · intro w hSw
              (try dsimp only at hSw)
              go_simp
              try (with_reducible rfl)
            try simp only [Act.put, List.getElem_toArray, List.getElem_cons_succ, List.getElem_cons_zero, List.setIfInBounds_toArray, List.set_cons_zero, List.set_cons_succ]
            refine wpAnyH_done (by kernel_rfl) ?_ _
            have TT := Lib.hid T4
            clear r8 T4
            go_wp2_with fail
            go_roundw
            case rel => exact ⟨k + 1, _, _, by omega, by go_num, rfl, rfl, by rw [htg'.out, htl'.out]; exact TT.out⟩
            case measure => simp [intOf]; omega
        · go_simp
          refine hKz.out _ _ ?_ (fun hHeld => ?_)
          · exact M0.alloc _
          clear hKz Kz
          try simp only [Act.put, List.getElem_toArray, List.getElem_cons_succ, List.getElem_cons_zero, List.setIfInBounds_toArray, List.set_cons_zero, List.set_cons_succ]
          have E1 := (Ext.refl W0).goA (.cells #[.int .i64 x.lm] 2)
          have M1 := M0.alloc (.cells #[.int .i64 x.lm] 2)
          have T1 := T0.go E1
          have SB1 := Sl17.mk' 2 x.lm M0.size
          clear hHeld E1
          generalize W0.alloc (.cells #[.int .i64 x.lm] 2) = W1 at *
          refine wpAnyH_ready (rs := [2]) (by kernel_rfl) (by simp) ?_
          refine AllReadyH.cons rfl (fun Kz hKz => ?_) ?_
          rotate_left
          · exact AllReadyH.nil
          go_simp
          refine hKz.out _ _ ?_ (fun hHeld => ?_)
          · exact M1.alloc _
          clear hKz Kz
          try simp only [Act.put, List.getElem_toArray, List.getElem_cons_succ, List.getElem_cons_zero, List.setIfInBounds_toArray, List.set_cons_zero, List.set_cons_succ]
          have E2 := (Ext.refl W1).goA (.cells #[.int .i64 0] 3)
          have M2 := M1.alloc (.cells #[.int .i64 0] 3)
          have T2 := T1.go E2
          have SB2 := SB1.go E2
          have SA2 := Sl17.mk' 3 (0 : Int) M1.size
          clear hHeld E2
          generalize W1.alloc (.cells #[.int .i64 0] 3) = W2 at *
          refine wpAnyH_ready (rs := [3]) (by kernel_rfl) (by simp) ?_
          refine AllReadyH.cons rfl (fun Kz hKz => ?_) ?_
          rotate_left
          · exact AllReadyH.nil
          refine step_appI rfl (.tmp 25) (.tmp 27) _ rfl Tryz.underlying57 info_int T2.ou rfl SA2.rd rfl (by omega) (by omega) T2.ext.size ?_
          intro z3 W3 own3 gr3 at3
          have M3 : Mod (UV u v) U W3 := M2.grown gr3 (fun k hk => .inl (.inl hk))
          have hHeld := M3
          try dsimp only
          refine hKz.out _ _ ?_ (fun hHeld => ?_)
          · first | assumption | (dsimp only; assumption)
          clear hKz Kz
          try simp only [Act.put, List.getElem_toArray, List.getElem_cons_succ, List.getElem_cons_zero, List.setIfInBounds_toArray, List.set_cons_zero, List.set_cons_succ]
          have T3 := T2.appU own3 gr3 at3
          have SB3 := SB2.far gr3 hub
          clear own3 gr3 at3 hHeld
          refine wpAnyH_ready (rs := [8]) (by kernel_rfl) (by simp) ?_
          refine AllReadyH.cons rfl (fun Kz hKz => ?_) ?_
          rotate_left
          · exact AllReadyH.nil
          refine step_appI rfl (.tmp 29) (.tmp 32) _ rfl Tryz.underlying48 info_i64 T3.ov rfl SB3.rd rfl (by omega) (by omega) T3.ext.size ?_
          intro z4 W4 own4 gr4 at4
          have M4 : Mod (UV u v) U W4 := M3.grown gr4 (fun k hk => .inl (.inr hk))
          have hHeld := M4
          try dsimp only
          refine hKz.out _ _ ?_ (fun hHeld => ?_)
          · first | assumption | (dsimp only; assumption)
          clear hKz Kz
          try simp only [Act.put, List.getElem_toArray, List.getElem_cons_succ, List.getElem_cons_zero, List.setIfInBounds_toArray, List.set_cons_zero, List.set_cons_succ]
          have T4 := T3.appV own4 gr4 at4
          clear own4 gr4 at4 hHeld
          refine wpAnyH_take (i := 9) (oi := _) (v := ?_) rfl (by kernel_rfl) (by kernel_rfl) (by kernel_rfl) (fun _ _ _ h => h) (Or.inl ⟨by rfl, ?_⟩) (by assumption) ?_
          rotate_left
          · intro w hSw
            (try dsimp only at hSw)
            go_simp
            try (with_reducible rfl)
          try simp only [Act.put, List.getElem_toArray, List.getElem_cons_succ, List.getElem_cons_zero, List.setIfInBounds_toArray, List.set_cons_zero, List.set_cons_succ]
          refine wpAnyH_take (i := 10) (oi := _) (v := ?_) rfl (by kernel_rfl) (by kernel_rfl) (by kernel_rfl) (fun _ _ _ h => h) (Or.inl ⟨by rfl, ?_⟩) (by assumption) ?_
          rotate_left
          · intro w hSw
            (try dsimp only at hSw)
            go_simp
            try (with_reducible rfl)
          try simp only [Act.put, List.getElem_toArray, List.getElem_cons_succ, List.getElem_cons_zero, List.setIfInBounds_toArray, List.set_cons_zero, List.set_cons_succ]
          refine wpAnyH_done (by kernel_rfl) ?_ _
          have TT := Lib.hid T4
          clear r8 T4
          go_wp2_with fail
          go_roundw
          case rel => exact ⟨k + 1, _, _, by omega, by go_num, rfl, rfl, by rw [htg'.out, htl'.out]; exact TT.out⟩
          case measure => simp [intOf]; omega
    · obtain rfl : k = m.nc := by omega
      obtain ⟨Y, hY⟩ : ∃ Y, Y = wr := ⟨_, rfl⟩
      subst hY
      have etk : m.cas.take m.nc = m.cas := List.take_of_length_le (by omega)
      rw [etk] at hT
      obtain ⟨Au, cu, rfl, -, ru⟩ := own_rd hT.ou
      obtain ⟨Av, cv, rfl, -, rv⟩ := own_rd hT.ov
      have EY := hT.ext
      have r8 : ∀ w', Ext Y w' → w'.cell? ⟨g, 8, none⟩ = some (.slice m.Ae m.ne m.ce) := fun w' E => (cellsAt (hC'.out.ext E).head 8).trans h'.out.a8
      have hmk := fun w => run_mkI Tryz.underlying57 info_int (m.ne : Int) m.ne rfl (by omega) (by omega) w
      have hgr : ∀ i : Nat, 0 ≤ (m.cas.map groupOf).getD i 0 ∧ (m.cas.map groupOf).getD i 0 ≤ 1000 := fun i => by
        rw [List.getD_eq_getElem?_getD, List.getElem?_map]
        cases hi : m.cas[i]? with
        | none => simp
        | some x =>
          obtain ⟨-, -, -, -, -, a6, a7, -⟩ := hrc'.out x (List.mem_of_getElem? hi)
          show 0 ≤ groupOf x ∧ groupOf x ≤ 1000
          unfold groupOf
          split <;> omega
      have hgz : ∀ i : Nat, 0 ≤ (zs m.ne).getD i 0 ∧ (zs m.ne).getD i 0 ≤ 1000 := fun i => by
        rw [List.getD_eq_getElem?_getD]
        unfold zs
        rw [List.getElem?_replicate]
        split <;> simp
      have hzz : Hid (zs m.ne = m.efs.map fun _ => (0 : Int)) := Lib.hid (by rw [List.map_const', hle]; rfl)
      have hru := Lib.hid ru
      have hrv := Lib.hid rv
      clear ru rv hT hT' hC c7
      go_upto_region 11 with fail
      refine wp_region_held_drew (S := fun w' => Ext Y w') (by kernel_rfl) (Ext.refl Y).god (fun hHeld => ?_)
      refine wpAnyH_take (i := 0) (oi := _) (v := ?_) rfl (by kernel_rfl) (by kernel_rfl) (by kernel_rfl) (fun _ _ _ h => h) (Or.inl ⟨by rfl, ?_⟩) (by assumption) ?_
      rotate_left
      · intro w hSw
        (try dsimp only at hSw)
        go_simp
        try (with_reducible rfl)
      try simp only [Act.put, List.getElem_toArray, List.getElem_cons_zero, List.setIfInBounds_toArray, List.set_cons_zero, List.set_cons_succ]
      refine wpAnyH_take (i := 2) (oi := _) (v := ?_) rfl (by kernel_rfl) (by kernel_rfl) (by kernel_rfl) (fun _ _ _ h => h) (Or.inl ⟨by rfl, ?_⟩) (by assumption) ?_
      rotate_left
      · intro w hSw
        (try dsimp only at hSw)
        go_simp
        try (with_reducible rfl)
      try simp only [Act.put, List.getElem_toArray, List.getElem_cons_succ, List.getElem_cons_zero, List.setIfInBounds_toArray, List.set_cons_zero, List.set_cons_succ]
      refine wpAnyH_take (i := 3) (oi := _) (v := ?_) rfl (by kernel_rfl) (by kernel_rfl) (by kernel_rfl) (fun _ _ _ h => h) (Or.inl ⟨by rfl, ?_⟩) (by assumption) ?_
      rotate_left
      · intro w hSw
        (try dsimp only at hSw)
        go_simp
        try (with_reducible rfl)
      try simp only [Act.put, List.getElem_toArray, List.getElem_cons_succ, List.getElem_cons_zero, List.setIfInBounds_toArray, List.set_cons_zero, List.set_cons_succ]
      refine wpAnyH_take (i := 4) (oi := _) (v := ?_) rfl (by kernel_rfl) (by kernel_rfl) (by kernel_rfl) (fun _ _ _ h => h) (Or.inl ⟨by rfl, ?_⟩) (by assumption) ?_
      rotate_left
      · intro w hSw
        (try dsimp only at hSw)
        go_simp
        try (with_reducible rfl)
      try simp only [Act.put, List.getElem_toArray, List.getElem_cons_succ, List.getElem_cons_zero, List.setIfInBounds_toArray, List.set_cons_zero, List.set_cons_succ]
      refine wpAnyH_take (i := 5) (oi := _) (v := ?_) rfl (by kernel_rfl) (by kernel_rfl) (by kernel_rfl) (fun _ _ _ h => h) (Or.inl ⟨by rfl, ?_⟩) (by assumption) ?_
      rotate_left
      · intro w hSw
        (try dsimp only at hSw)
        go_simp
        try (with_reducible rfl)
      try simp only [Act.put, List.getElem_toArray, List.getElem_cons_succ, List.getElem_cons_zero, List.setIfInBounds_toArray, List.set_cons_zero, List.set_cons_succ]
      refine wpAnyH_take (i := 6) (oi := _) (v := ?_) rfl (by kernel_rfl) (by kernel_rfl) (by kernel_rfl) (fun _ _ _ h => h) (Or.inl ⟨by rfl, ?_⟩) (by assumption) ?_
      rotate_left
      · intro w hSw
        (try dsimp only at hSw)
        go_simp
        try (with_reducible rfl)
      try simp only [Act.put, List.getElem_toArray, List.getElem_cons_succ, List.getElem_cons_zero, List.setIfInBounds_toArray, List.set_cons_zero, List.set_cons_succ]
      refine wpAnyH_take (i := 7) (oi := _) (v := ?_) rfl (by kernel_rfl) (by kernel_rfl) (by kernel_rfl) (fun _ _ _ h => h) (Or.inl ⟨by rfl, ?_⟩) (by assumption) ?_
      rotate_left
      · intro w hSw
        (try dsimp only at hSw)
        go_simp
        try (with_reducible rfl)
      try simp only [Act.put, List.getElem_toArray, List.getElem_cons_succ, List.getElem_cons_zero, List.setIfInBounds_toArray, List.set_cons_zero, List.set_cons_succ]
      refine wpAnyH_take (i := 10) (oi := _) (v := ?_) rfl (by kernel_rfl) (by kernel_rfl) (by kernel_rfl) (fun _ _ _ h => h) (Or.inl ⟨by rfl, ?_⟩) (by assumption) ?_
      rotate_left
      · intro w hSw
        (try dsimp only at hSw)
        go_simp
        try (with_reducible rfl)
      try simp only [Act.put, List.getElem_toArray, List.getElem_cons_succ, List.getElem_cons_zero, List.setIfInBounds_toArray, List.set_cons_zero, List.set_cons_succ]
      have E0 : Ext Y Y.drew := (Ext.refl Y).god
      have z0 := E0.size
      have zY := EY.size
      clear hHeld
      generalize Y.drew = W0 at *
      refine wpAnyH_ready (rs := [1, 8]) (by kernel_rfl) (by simp) ?_
      refine AllReadyH.cons rfl (fun Kz hKz => ?_) (AllReadyH.cons rfl (fun Kz hKz => ?_) (AllReadyH.nil))
      · go_simp
        go_at_call 63
        refine (latchNew_any _ _ _ _ _ (hru.out.ext E0) (by omega) hgr).mono ?_
        rintro e W1 ⟨cg, cl, cf, cs, rfl, R1, X1, p1, p2, p3, p4⟩
        have E1 := E0.go X1
        have hHeld := E1
        try dsimp only
        refine hKz.out _ _ ?_ (fun hHeld => ?_)
        · first | assumption | (dsimp only; assumption)
        clear hKz Kz
        try simp only [Act.put, List.getElem_toArray, List.getElem_cons_succ, List.getElem_cons_zero, List.setIfInBounds_toArray, List.set_cons_zero, List.set_cons_succ]
        refine wpAnyH_ready (rs := [8]) (by kernel_rfl) (by simp) ?_
        refine AllReadyH.cons rfl (fun Kz hKz => ?_) ?_
        rotate_left
        · exact AllReadyH.nil
        go_simp
        refine hKz.out _ _ ?_ (fun hHeld => ?_)
        · exact E1.goA _
        clear hKz Kz
        try simp only [Act.put, List.getElem_toArray, List.getElem_cons_succ, List.getElem_cons_zero, List.setIfInBounds_toArray, List.set_cons_zero, List.set_cons_succ]
        have X2 := (Ext.refl W1).goA (.cells (row .i64 (zs m.ne)) 3)
        have E2 := E1.go X2
        have Z1 : RdI (W1.alloc (.cells (row .i64 (zs m.ne)) 3)) (W1.alloc (.cells (row .i64 (zs m.ne)) 3)).heap.size .i64 (some ⟨W1.heap.size, 0, none⟩) m.ne (zs m.ne) := by
          have := RdI.new (w := W1) (g := W1.heap.size) (n := m.ne) (e := 3) (k := .i64) (cs := row .i64 (zs m.ne)) (zs m.ne) rfl rfl (by simp [zs])
          simpa using this
        clear hHeld
        generalize W1.alloc (.cells (row .i64 (zs m.ne)) 3) = W2 at *
        refine wpAnyH_ready (rs := [9]) (by kernel_rfl) (by simp) ?_
        refine AllReadyH.cons rfl (fun Kz hKz => ?_) ?_
        rotate_left
        · exact AllReadyH.nil
        go_simp
        go_at_call 63
        refine (latchNew_any _ _ _ _ _ Z1 (by omega) hgz).mono ?_
        rintro e W3 ⟨eg, el, ef, es, rfl, R3, X3, q1, q2, q3, q4⟩
        have E3 := E2.go X3
        have hHeld := E3
        try dsimp only
        refine hKz.out _ _ ?_ (fun hHeld => ?_)
        · first | assumption | (dsimp only; assumption)
        clear hKz Kz
        try simp only [Act.put, List.getElem_toArray, List.getElem_cons_succ, List.getElem_cons_zero, List.setIfInBounds_toArray, List.set_cons_zero, List.set_cons_succ]
        refine wpAnyH_ready (rs := [11]) (by kernel_rfl) (by simp) ?_
        refine AllReadyH.cons rfl (fun Kz hKz => ?_) ?_
        rotate_left
        · exact AllReadyH.nil
        go_simp
        go_at_call 64
        refine (bypNew_any _ _ _ _ _ (hrv.out.ext E3) (by omega)).mono ?_
        rintro e W4 ⟨tg, tl, tm, rfl, R4, X4, s1, s2, s3⟩
        have E4 := E3.go X4
        have hHeld := E4
        try dsimp only
        refine hKz.out _ _ ?_ (fun hHeld => ?_)
        · first | assumption | (dsimp only; assumption)
        clear hKz Kz
        try simp only [Act.put, List.getElem_toArray, List.getElem_cons_succ, List.getElem_cons_zero, List.setIfInBounds_toArray, List.set_cons_zero, List.set_cons_succ]
        refine wpAnyH_take (i := 12) (oi := _) (v := ?_) rfl (by kernel_rfl) (by kernel_rfl) (by kernel_rfl) (fun _ _ _ h => h) (Or.inl ⟨by rfl, ?_⟩) (by assumption) ?_
        rotate_left
        · intro w hSw
          (try dsimp only at hSw)
          go_simp
          try (with_reducible rfl)
        try simp only [Act.put, List.getElem_toArray, List.getElem_cons_succ, List.getElem_cons_zero, List.setIfInBounds_toArray, List.set_cons_zero, List.set_cons_succ]
        refine wpAnyH_take (i := 13) (oi := _) (v := ?_) rfl (by kernel_rfl) (by kernel_rfl) (by kernel_rfl) (fun _ _ _ h => h) (Or.inl ⟨by rfl, ?_⟩) (by assumption) ?_
        rotate_left
        · intro w hSw
          (try dsimp only at hSw)
          go_simp
          try (with_reducible rfl)
        try simp only [Act.put, List.getElem_toArray, List.getElem_cons_succ, List.getElem_cons_zero, List.setIfInBounds_toArray, List.set_cons_zero, List.set_cons_succ]
        refine wpAnyH_take (i := 14) (oi := _) (v := ?_) rfl (by kernel_rfl) (by kernel_rfl) (by kernel_rfl) (fun _ _ _ h => h) (Or.inl ⟨by rfl, ?_⟩) (by assumption) ?_
        rotate_left
        · intro w hSw
          (try dsimp only at hSw)
          go_simp
          try (with_reducible rfl)
        try simp only [Act.put, List.getElem_toArray, List.getElem_cons_succ, List.getElem_cons_zero, List.setIfInBounds_toArray, List.set_cons_zero, List.set_cons_succ]
        refine wpAnyH_done (by kernel_rfl) ?_ _
        have z1 := X1.size
        have z2 := X2.size
        have z3 := X3.size
        have z4 := X4.size
        have f1 : ∀ b, LwB cg cl cf cs b → W0.heap.size ≤ b ∧ b < W1.heap.size := fun b hb => ⟨by rcases hb with rfl | rfl | rfl | rfl <;> assumption, R1.old hb⟩
        have f3 : ∀ b, LwB eg el ef es b → W2.heap.size ≤ b ∧ b < W3.heap.size := fun b hb => ⟨by rcases hb with rfl | rfl | rfl | rfl <;> assumption, R3.old hb⟩
        have f4 : ∀ b, TbB tg tl tm b → W3.heap.size ≤ b := fun b hb => by rcases hb with rfl | rfl | rfl <;> assumption
        have hfin : Cleared w W4 m cg cl cf cs eg el ef es tg tl tm := ⟨(R1.ext X2).ext (X3.go X4), by rw [← hzz.out]; exact R3.ext X4, by have := R4; rwa [List.length_map] at this, EY.go E4, fun b hb => by have := f1 b hb; omega, fun b hb => by have := f3 b hb; omega, fun b hb => by have := f4 b hb; omega, fun b h1 h2 => by have := f1 b h1; have := f3 b h2; omega, fun b h1 h2 => by have := f1 b h1; have := f4 b h2; omega, fun b h1 h2 => by have := f3 b h1; have := f4 b h2; omega⟩
        have hfin := Lib.hid hfin
        clear r8 R1 R3 R4 f1 f3 f4
        go_wp2_with fail
        go_ret3
        exact ⟨cg, cl, cf, cs, eg, el, ef, es, tg, tl, tm, rfl, hfin.out⟩
      · go_simp
        refine hKz.out _ _ ?_ (fun hHeld => ?_)
        · exact E0.goA _
        clear hKz Kz
        try simp only [Act.put, List.getElem_toArray, List.getElem_cons_succ, List.getElem_cons_zero, List.setIfInBounds_toArray, List.set_cons_zero, List.set_cons_succ]
        have X1 := (Ext.refl W0).goA (.cells (row .i64 (zs m.ne)) 3)
        have E1 := E0.go X1
        have Z1 : RdI (W0.alloc (.cells (row .i64 (zs m.ne)) 3)) (W0.alloc (.cells (row .i64 (zs m.ne)) 3)).heap.size .i64 (some ⟨W0.heap.size, 0, none⟩) m.ne (zs m.ne) := by
          have := RdI.new (w := W0) (g := W0.heap.size) (n := m.ne) (e := 3) (k := .i64) (cs := row .i64 (zs m.ne)) (zs m.ne) rfl rfl (by simp [zs])
          simpa using this
        clear hHeld
        generalize W0.alloc (.cells (row .i64 (zs m.ne)) 3) = W1 at *
        refine wpAnyH_ready (rs := [1]) (by kernel_rfl) (by simp) ?_
        refine AllReadyH.cons rfl (fun Kz hKz => ?_) ?_
        rotate_left
        · exact AllReadyH.nil
        go_simp
        go_at_call 63
        refine (latchNew_any _ _ _ _ _ (hru.out.ext E1) (by omega) hgr).mono ?_
        rintro e W2 ⟨cg, cl, cf, cs, rfl, R1, X2, p1, p2, p3, p4⟩
        have E2 := E1.go X2
        have hHeld := E2
        try dsimp only
        refine hKz.out _ _ ?_ (fun hHeld => ?_)
        · first | assumption | (dsimp only; assumption)
        clear hKz Kz
        try simp only [Act.put, List.getElem_toArray, List.getElem_cons_succ, List.getElem_cons_zero, List.setIfInBounds_toArray, List.set_cons_zero, List.set_cons_succ]
        have Z1 := Z1.ext X2
        refine wpAnyH_ready (rs := [9]) (by kernel_rfl) (by simp) ?_
        refine AllReadyH.cons rfl (fun Kz hKz => ?_) ?_
        rotate_left
        · exact AllReadyH.nil
        go_simp
        go_at_call 63
        refine (latchNew_any _ _ _ _ _ Z1 (by omega) hgz).mono ?_
        rintro e W3 ⟨eg, el, ef, es, rfl, R3, X3, q1, q2, q3, q4⟩
        have E3 := E2.go X3
        have hHeld := E3
        try dsimp only
        refine hKz.out _ _ ?_ (fun hHeld => ?_)
        · first | assumption | (dsimp only; assumption)
        clear hKz Kz
        try simp only [Act.put, List.getElem_toArray, List.getElem_cons_succ, List.getElem_cons_zero, List.setIfInBounds_toArray, List.set_cons_zero, List.set_cons_succ]
        refine wpAnyH_ready (rs := [11]) (by kernel_rfl) (by simp) ?_
        refine AllReadyH.cons rfl (fun Kz hKz => ?_) ?_
        rotate_left
        · exact AllReadyH.nil
        go_simp
        go_at_call 64
        refine (bypNew_any _ _ _ _ _ (hrv.out.ext E3) (by omega)).mono ?_
        rintro e W4 ⟨tg, tl, tm, rfl, R4, X4, s1, s2, s3⟩
        have E4 := E3.go X4
        have hHeld := E4
        try dsimp only
        refine hKz.out _ _ ?_ (fun hHeld => ?_)
        · first | assumption | (dsimp only; assumption)
        clear hKz Kz
        try simp only [Act.put, List.getElem_toArray, List.getElem_cons_succ, List.getElem_cons_zero, List.setIfInBounds_toArray, List.set_cons_zero, List.set_cons_succ]
        refine wpAnyH_take (i := 12) (oi := _) (v := ?_) rfl (by kernel_rfl) (by kernel_rfl) (by kernel_rfl) (fun _ _ _ h => h) (Or.inl ⟨by rfl, ?_⟩) (by assumption) ?_
        rotate_left
        · intro w hSw
          (try dsimp only at hSw)
          go_simp
          try (with_reducible rfl)
        try simp only [Act.put, List.getElem_toArray, List.getElem_cons_succ, List.getElem_cons_zero, List.setIfInBounds_toArray, List.set_cons_zero, List.set_cons_succ]
        refine wpAnyH_take (i := 13) (oi := _) (v := ?_) rfl (by kernel_rfl) (by kernel_rfl) (by kernel_rfl) (fun _ _ _ h => h) (Or.inl ⟨by rfl, ?_⟩) (by assumption) ?_
        rotate_left
        · intro w hSw
          (try dsimp only at hSw)
          go_simp
          try (with_reducible rfl)
        try simp only [Act.put, List.getElem_toArray, List.getElem_cons_succ, List.getElem_cons_zero, List.setIfInBounds_toArray, List.set_cons_zero, List.set_cons_succ]
        refine wpAnyH_take (i := 14) (oi := _) (v := ?_) rfl (by kernel_rfl) (by kernel_rfl) (by kernel_rfl) (fun _ _ _ h => h) (Or.inl ⟨by rfl, ?_⟩) (by assumption) ?_
        rotate_left
        · intro w hSw
          (try dsimp only at hSw)
          go_simp
          try (with_reducible rfl)
        try simp only [Act.put, List.getElem_toArray, List.getElem_cons_succ, List.getElem_cons_zero, List.setIfInBounds_toArray, List.set_cons_zero, List.set_cons_succ]
        refine wpAnyH_done (by kernel_rfl) ?_ _
        have z1 := X1.size
        have z2 := X2.size
        have z3 := X3.size
        have z4 := X4.size
        have f1 : ∀ b, LwB cg cl cf cs b → W1.heap.size ≤ b ∧ b < W2.heap.size := fun b hb => ⟨by rcases hb with rfl | rfl | rfl | rfl <;> assumption, R1.old hb⟩
        have f3 : ∀ b, LwB eg el ef es b → W2.heap.size ≤ b ∧ b < W3.heap.size := fun b hb => ⟨by rcases hb with rfl | rfl | rfl | rfl <;> assumption, R3.old hb⟩
        have f4 : ∀ b, TbB tg tl tm b → W3.heap.size ≤ b := fun b hb => by rcases hb with rfl | rfl | rfl <;> assumption
        have hfin : Cleared w W4 m cg cl cf cs eg el ef es tg tl tm := ⟨R1.ext (X3.go X4), by rw [← hzz.out]; exact R3.ext X4, by have := R4; rwa [List.length_map] at this, EY.go E4, fun b hb => by have := f1 b hb; omega, fun b hb => by have := f3 b hb; omega, fun b hb => by have := f4 b hb; omega, fun b h1 h2 => by have := f1 b h1; have := f3 b h2; omega, fun b h1 h2 => by have := f1 b h1; have := f4 b h2; omega, fun b h1 h2 => by have := f3 b h1; have := f4 b h2; omega⟩
        have hfin := Lib.hid hfin
        clear r8 R1 R3 R4 f1 f3 f4
        go_wp2_with fail
        go_ret3
        exact ⟨cg, cl, cf, cs, eg, el, ef, es, tg, tl, tm, rfl, hfin.out⟩
end Go.Proofs.YtgajbgdkgelkgaaGreat
