/- Layer 21: the live question. -/
import Derived.Test.YtgagpalffdgjnaaG33
namespace Go.Proofs.Ytgagpalffdgjnaa
open Go.RowKit

theorem done_nil {w : World} {base : Nat} {v : Value} (h : DonesAt w base v []) : ∃ A c, v = .slice A 0 c := by
  obtain ⟨ms, e, ho, _⟩ := h
  obtain rfl : ms = [] := List.map_eq_nil_iff.1 e
  rcases ho.2 with ⟨hv, _⟩ | ⟨g, cap, cur, hv, _⟩
  · exact ⟨none, 0, hv⟩
  · exact ⟨_, _, hv⟩
theorem done_one {w : World} {base : Nat} {v : Value} {d : Dn} (h : DonesAt w base v [d]) : ∃ g c A n m, v = .slice (some ⟨g, 0, none⟩) 1 c ∧ base ≤ g ∧
    (w.cell? ⟨g, 0, none⟩ = some (.int .i64 d.id) ∧ w.cell? ⟨g, 0 + 1, none⟩ = some (.int .i64 d.err) ∧ w.cell? ⟨g, 0 + 2, none⟩ = some (.int .i64 d.code) ∧ w.cell? ⟨g, 0 + 3, none⟩ = some (.slice A n m)) ∧ RdI w w.heap.size .u16 A n d.xs ∧ n ≤ m ∧ m ≤ maxLen := by
  obtain ⟨ms, e, ho, hr⟩ := h
  match ms, e with
  | [x], e =>
    simp only [List.map_cons, List.map_nil, List.cons.injEq, and_true] at e
    subst e
    obtain ⟨hr1, _, hr2, hr3⟩ := hr x (by simp)
    rcases ho.2 with ⟨_, hn⟩ | ⟨g, cap, cur, hv, hb, _⟩
    · simp at hn
    · refine ⟨g, cap, x.A, x.n, x.c, hv, hb, ?_, hr1, hr2, hr3⟩
      have hc := fun j u hj => ho.cells (g := g) (by rw [hv]; rfl) j u hj
      exact ⟨hc 0 _ rfl, hc 1 _ rfl, hc 2 _ rfl, hc 3 _ rfl⟩
theorem bytes_nil {w w' : World} {v : Value} (h : BytesOut w w' v []) : ∃ A c, v = .slice A 0 c := by
  obtain ⟨A, n, c, e, _, _, hr, _⟩ := h
  have := hr.len
  simp at this
  subst this
  exact ⟨A, c, e⟩
theorem RdI.lnb {k : Bool} {w w' W : World} {a q cu co s n : Nat} {re wa : Int} {L : Lp} {kd : IntKind} {A : Option Addr} {xs : List Int} (h : HasL k w a q cu co s re wa L) (r : RdI w' w'.heap.size kd A n xs) (hf : ∀ b o, A = some ⟨b, o, none⟩ → w.heap.size ≤ b) (m : Mod (LnB k a q cu co s) w' W) : RdI W W.heap.size kd A n xs :=
  r.modS (fun _ b o e hb => by have := h.lt hb; have := hf b o e; omega) m
theorem rd_lit (w : World) (xs : List Int) {cs : Array Value} {n : Nat} {t : TypeId} (hc : row .u8 xs = cs) (hn : xs.length = n := by rfl) : RdI (w.alloc (.cells cs t)).drew (w.alloc (.cells cs t)).drew.heap.size .u8 (some ⟨w.heap.size, 0, none⟩) n xs := by
  subst hc hn
  exact (Blk.new w t .u8 xs).rd (by show w.heap.size < (w.alloc _).heap.size; simp)
theorem rd_lit2 (w : World) (xs : List Int) {cs : Array Value} {n : Nat} {t : TypeId} (hc : row .u8 xs = cs) (hn : xs.length = n := by rfl) : RdI (w.alloc (.cells cs t)) (w.alloc (.cells cs t)).heap.size .u8 (some ⟨w.heap.size, 0, none⟩) n xs := by
  subst hc hn
  exact (Blk.new w t .u8 xs).rd (by simp)
theorem rd_lit16 (w : World) (o : Obj) (xs : List Int) {cs : Array Value} {n : Nat} {t : TypeId} (hc : row .u16 xs = cs) (hn : xs.length = n := by rfl) : RdI ((w.alloc (.cells cs t)).alloc o) ((w.alloc (.cells cs t)).alloc o).heap.size .u16 (some ⟨w.heap.size, 0, none⟩) n xs := by
  subst hc hn
  exact (((Blk.new w t .u16 xs).rd (B := (w.alloc (.cells (row .u16 xs) t)).heap.size) (by simp)).ext ((Ext.refl _).goA o))
theorem lit_done (w : World) (id err code : Int) (A : Option Addr) (n c : Nat) :
    (w.alloc (.cells #[.int .i64 id, .int .i64 err, .int .i64 code, .slice A n c] 56)).cell? ⟨w.heap.size, 0, none⟩ = some (.int .i64 id) ∧ (w.alloc (.cells #[.int .i64 id, .int .i64 err, .int .i64 code, .slice A n c] 56)).cell? ⟨w.heap.size, 0 + 1, none⟩ = some (.int .i64 err) ∧
    (w.alloc (.cells #[.int .i64 id, .int .i64 err, .int .i64 code, .slice A n c] 56)).cell? ⟨w.heap.size, 0 + 2, none⟩ = some (.int .i64 code) ∧ (w.alloc (.cells #[.int .i64 id, .int .i64 err, .int .i64 code, .slice A n c] 56)).cell? ⟨w.heap.size, 0 + 3, none⟩ = some (.slice A n c) := by
  have hb := heap_alloc_new w (.cells #[.int .i64 id, .int .i64 err, .int .i64 code, .slice A n c] 56)
  exact ⟨cellsAt hb 0, cellsAt hb 1, cellsAt hb 2, cellsAt hb 3⟩
theorem lit_done_at (w : World) (g : Nat) (hg : g = w.heap.size) (id err code : Int) (A : Option Addr) (n c : Nat) :
    (w.alloc (.cells #[.int .i64 id, .int .i64 err, .int .i64 code, .slice A n c] 56)).cell? ⟨g, 0, none⟩ = some (.int .i64 id) ∧ (w.alloc (.cells #[.int .i64 id, .int .i64 err, .int .i64 code, .slice A n c] 56)).cell? ⟨g, 0 + 1, none⟩ = some (.int .i64 err) ∧
    (w.alloc (.cells #[.int .i64 id, .int .i64 err, .int .i64 code, .slice A n c] 56)).cell? ⟨g, 0 + 2, none⟩ = some (.int .i64 code) ∧ (w.alloc (.cells #[.int .i64 id, .int .i64 err, .int .i64 code, .slice A n c] 56)).cell? ⟨g, 0 + 3, none⟩ = some (.slice A n c) := by
  subst hg
  exact lit_done w id err code A n c
theorem hch_at {w w2 w3 : World} {g : Nat} {v0 v1 v2 v3 : Value} (E : Ext w w2) (E2 : Ext w2 w3) (h : w.cell? ⟨g, 0, none⟩ = some v0 ∧ w.cell? ⟨g, 0 + 1, none⟩ = some v1 ∧ w.cell? ⟨g, 0 + 2, none⟩ = some v2 ∧ w.cell? ⟨g, 0 + 3, none⟩ = some v3) :
    w3.cell? ⟨g, 0, none⟩ = some v0 ∧ w3.cell? ⟨g, 0 + 1, none⟩ = some v1 ∧ w3.cell? ⟨g, 0 + 2, none⟩ = some v2 ∧ w3.cell? ⟨g, 0 + 3, none⟩ = some v3 := by
  have hl := cell_lt h.1
  have hk : ∀ o, w3.cell? ⟨g, o, none⟩ = w.cell? ⟨g, o, none⟩ := fun o => (E.go E2).cell o hl
  rw [hk, hk, hk, hk]; exact h
set_option maxRecDepth 100000 in
set_option maxHeartbeats 6400000 in
theorem lineHead_any (w : World) : Calls Try.prog 10 #[] w fun e w' => e = .returned (.bool true) ∧ Ext w w' := by
  go_enter Try.func10, Try.ntmps10
  go_wp2_with fail
  refine (lineNewL_any (k := false) (re := 1) (wa := 3) w (by decide) (by decide)).mono ?_
  rintro e w1 ⟨a, q, cu, co, s, rfl, h1, E1, hge⟩
  have h1' := Lib.hid h1
  have hge' := Lib.hid hge
  clear h1 hge
  go_wp2_with fail
  refine (lineNew_no 8 3 _ false (by decide)).mono ?_
  rintro e w2 ⟨rfl, E2⟩
  go_wp2_with fail
  refine (lineNew_no 0 0 _ true (by decide)).mono ?_
  rintro e w3 ⟨rfl, E3⟩
  have h3 := Lib.hid (h1'.out.ext (E2.go E3))
  have m3 := Lib.hid (E1.go (E2.go E3))
  clear h1' E1 E2 E3
  go_wp2_with fail
  refine (read_any 1 false _ (by decide)).mono ?_
  rintro e w4 ⟨rfl, E4⟩
  have h4 := Lib.hid (h3.out.ext E4)
  go_wp2_with fail
  refine (askYes h4.out (RdI.nil _) (fun j => by simp) (by decide) hd_1.1 hd_1.2).mono ?_
  rintro e w5 ⟨rfl, m5, h5⟩
  have m5 := Lib.hid ((E4.mod _).trans m5)
  have h5 := Lib.hid h5
  clear h3 h4 E4
  go_wp2_with fail
  refine (read_any 2 true _ (by decide)).mono ?_
  rintro e w6 ⟨rfl, E6⟩
  have h6 := Lib.hid (h5.out.ext E6)
  go_wp2_with fail
  refine (askYes h6.out (RdI.nil _) (fun j => by simp) (by decide) hd_2.1 hd_2.2).mono ?_
  rintro e w7 ⟨rfl, m7, h7⟩
  have m7 := Lib.hid ((m5.out.trans (E6.mod _)).trans m7)
  have h7 := Lib.hid h7
  clear h5 h6 E6 m5
  go_wp2_with fail
  refine (tickIs h7.out hd_3).mono ?_
  rintro e w8 ⟨x, d, rfl, hx, hd, m8, h8⟩
  have h8 := Lib.hid h8
  have m8' := Lib.hid (m7.out.trans m8)
  obtain ⟨Ad, cd, rfl⟩ := done_nil hd
  obtain ⟨Ax, nx, cx, rfl, gx1, gx2, rx, fx⟩ := hx
  have hX : Hid (∀ W, Mod (LnB false a q cu co s) w8 W → RdI W W.heap.size .u8 Ax nx ldb2) := Lib.hid (fun W m => rx.lnb h7.out fx m)
  clear m8 rx fx hd m7
  go_wp2_with fail
  refine (tickIs h8.out hd_4).mono ?_
  rintro e w9 ⟨y, d2, rfl, hy, hd, m9, h9⟩
  have h9 := Lib.hid h9
  have m9 := Lib.hid m9
  obtain ⟨Ae, ce, rfl⟩ := done_nil hd
  obtain ⟨Ay, cy, rfl⟩ := bytes_nil hy
  clear hd hy h7
  go_wp2_with fail
  refine (tickIs h9.out hd_5).mono ?_
  rintro e w10 ⟨z, d3, rfl, hz, hd, m10, h10⟩
  have h10 := Lib.hid h10
  obtain ⟨Af, cf, rfl⟩ := done_nil hd
  obtain ⟨Az, nz, cz, rfl, gz1, gz2, rz, fz⟩ := hz
  have hZ : Hid (∀ W, Mod (LnB false a q cu co s) w10 W → RdI W W.heap.size .u8 Az nz ldb2) := Lib.hid (fun W m => rz.lnb h9.out fz m)
  have m10 := Lib.hid (m9.out.trans m10)
  clear rz fz hd m9 h8
  go_wp2_with fail
  refine (busyYes h10.out rfl).mono ?_
  rintro e w11 ⟨Aj, nj, cj, rfl, _, _, rj, E11⟩
  rw [show jobV ldL4.J.id ldL4.J.un ldL4.J.fc ldL4.J.ad ldL4.J.qt Aj nj cj ldL4.J.to ldL4.J.u = .agg #[.int .i64 2, .int .i64 3, .int .i64 4, .int .i64 2, .int .i64 3, .slice Aj nj cj, .int .i64 0, .bool true] from rfl]
  clear rj
  go_wp2_with fail
  have E12 : Ext w10 (w11.alloc (.cells #[.int .i64 2, .int .i64 3, .int .i64 4, .int .i64 2, .int .i64 3, .slice Aj nj cj, .int .i64 0, .bool true] 32)) := E11.go ((Ext.refl w11).goA _)
  have b12 := heap_alloc_new w11 (.cells #[.int .i64 2, .int .i64 3, .int .i64 4, .int .i64 2, .int .i64 3, .slice Aj nj cj, .int .i64 0, .bool true] 32)
  generalize hjb : w11.heap.size = jb at *
  generalize w11.alloc (.cells #[.int .i64 2, .int .i64 3, .int .i64 4, .int .i64 2, .int .i64 3, .slice Aj nj cj, .int .i64 0, .bool true] 32) = w12 at *
  have h12 := Lib.hid (h10.out.ext E12)
  have hjne : jb < w12.heap.size := lt_of_block b12
  have hjge : w10.heap.size ≤ jb := by have := E11.size; omega
  have hJ : Hid (∀ W, Mod (LnB false a q cu co s) w12 W → W.heap[jb]? = some (.cells #[.int .i64 2, .int .i64 3, .int .i64 4, .int .i64 2, .int .i64 3, .slice Aj nj cj, .int .i64 0, .bool true] 32 (0, 0))) := Lib.hid (fun W m => (m.block jb hjne (fun hb => by have := h10.out.lt hb; omega)).trans b12)
  clear b12 hjb E11
  refine (tickIs h12.out hd_6).mono ?_
  rintro e w13 ⟨v, d4, rfl, hv, hd, m13, h13⟩
  have h13 := Lib.hid h13
  obtain ⟨gd, cd4, A4, n4, c4, rfl, hgd, hcd, r4, n4c, c4m⟩ := done_one hd
  obtain ⟨Av, nv, cv, rfl, gv1, gv2, rv, fv⟩ := hv
  have hV : Hid (∀ W, Mod (LnB false a q cu co s) w13 W → RdI W W.heap.size .u8 Av nv ldb1) := Lib.hid (fun W m => rv.lnb h12.out fv m)
  have hlt4 := cell_lt hcd.1
  have n40 : n4 = 0 := by have := r4.len; simpa using this.symm
  subst n40
  have hD : Hid (∀ W, Mod (LnB false a q cu co s) w13 W → (W.cell? ⟨gd, 0, none⟩ = some (.int .i64 2) ∧ W.cell? ⟨gd, 0 + 1, none⟩ = some (.int .i64 211) ∧ W.cell? ⟨gd, 0 + 2, none⟩ = some (.int .i64 0) ∧ W.cell? ⟨gd, 0 + 3, none⟩ = some (.slice A4 0 c4))) := Lib.hid (fun W m => by
    have hk : ∀ o, W.cell? ⟨gd, o, none⟩ = w13.cell? ⟨gd, o, none⟩ := fun o => m.cell o hlt4 (fun hb => by have := h12.out.lt hb; omega)
    rw [hk, hk, hk, hk]; exact hcd)
  have m13' := Lib.hid ((E12.mod (LnB false a q cu co s)).trans m13)
  have m13 := Lib.hid m13
  clear rv fv hd hcd r4 h10 h9 E12
  go_wp2_with fail
  have E14 : Ext w13 (w13.alloc (.cells #[.int .u8 4, .int .u8 4, .int .u8 0, .int .u8 7, .int .u8 0, .int .u8 8] 5)) := (Ext.refl w13).goA _
  refine (ref02Put_any 3 _ 6 6 [4, 4, 0, 7, 0, 8] _ (by decide) (by decide) (by rw [alloc_size]; exact RdI.new [4, 4, 0, 7, 0, 8] rfl rfl rfl) (byteL_all (by decide)) (by decide)).mono ?_
  rintro e w14 ⟨A5, n5, c5, rfl, g51, g52, r5, E15, f5⟩
  have E14 := E14.go E15
  have h14 := Lib.hid (h13.out.ext E14)
  go_wp2_with fail
  refine (hearSer h14.out r5 (byteL_all (by kernel_rfl)) g51 g52 hd_7 hd_8).mono ?_
  rintro e w15 ⟨dh, rfl, hdh, m15, h15⟩
  have h15 := Lib.hid h15
  obtain ⟨gh, ch, Ah, nh, mh, rfl, hgh, hch, rh, nhc, chm⟩ := done_one hdh
  have m15' := Lib.hid (m13.out.trans ((E14.mod _).trans m15))
  have m15'' := Lib.hid ((E14.mod (LnB false a q cu co s)).trans m15)
  clear m15 hdh h12 h13 h14 r5 f5 E15
  go_wp2_with fail
  refine (busyNo h15.out rfl).mono ?_
  rintro e w16 ⟨rfl, E16⟩
  rw [show jobZ = .agg #[.int .i64 0, .int .i64 0, .int .i64 0, .int .i64 0, .int .i64 0, .slice none 0 0, .int .i64 0, .bool false] from rfl]
  have E17 : Ext w15 (w16.alloc (.cells #[.int .i64 0, .int .i64 0, .int .i64 0, .int .i64 0, .int .i64 0, .slice none 0 0, .int .i64 0, .bool false] 32)) := E16.go ((Ext.refl w16).goA _)
  have h17 := Lib.hid (h15.out.ext E17)
  have M17 : Hid (Mod (LnB false a q cu co s) w13 (w16.alloc (.cells #[.int .i64 0, .int .i64 0, .int .i64 0, .int .i64 0, .int .i64 0, .slice none 0 0, .int .i64 0, .bool false] 32))) := Lib.hid (m15''.out.trans (E17.mod _))
  have hcvt : ∀ W (A : Option Addr) (n c : Nat) (l : List Int), RdI W W.heap.size .u8 A n l → (Go.convert 34 9 (.slice A n c)).run Try.prog W = .ok (.string (strOfNums l)) W := fun W A n c l r => r.convert Try.underlying34 Try.underlying5 Try.underlying9 c
  have mV : Hid (∀ W, Mod (LnB false a q cu co s) (w16.alloc (.cells #[.int .i64 0, .int .i64 0, .int .i64 0, .int .i64 0, .int .i64 0, .slice none 0 0, .int .i64 0, .bool false] 32)) W → RdI W W.heap.size .u8 Av nv ldb1) := Lib.hid (fun W m => hV.out W (M17.out.trans m))
  have mZ : Hid (∀ W, Mod (LnB false a q cu co s) (w16.alloc (.cells #[.int .i64 0, .int .i64 0, .int .i64 0, .int .i64 0, .int .i64 0, .slice none 0 0, .int .i64 0, .bool false] 32)) W → RdI W W.heap.size .u8 Az nz ldb2) := Lib.hid (fun W m => hZ.out W ((m13'.out.trans M17.out).trans m))
  have mX : Hid (∀ W, Mod (LnB false a q cu co s) (w16.alloc (.cells #[.int .i64 0, .int .i64 0, .int .i64 0, .int .i64 0, .int .i64 0, .slice none 0 0, .int .i64 0, .bool false] 32)) W → RdI W W.heap.size .u8 Ax nx ldb2) := Lib.hid (fun W m => hX.out W (((m10.out.trans m13'.out).trans M17.out).trans m))
  have mD : Hid (∀ W, Mod (LnB false a q cu co s) (w16.alloc (.cells #[.int .i64 0, .int .i64 0, .int .i64 0, .int .i64 0, .int .i64 0, .slice none 0 0, .int .i64 0, .bool false] 32)) W → _) := Lib.hid (fun W m => hD.out W (M17.out.trans m))
  have cX := hcvt (w16.alloc (.cells #[.int .i64 0, .int .i64 0, .int .i64 0, .int .i64 0, .int .i64 0, .slice none 0 0, .int .i64 0, .bool false] 32)) Ax nx cx _ (mX.out _ (Mod.refl _ _))
  clear cX
  go_wp2_with fail
  generalize (w16.alloc (.cells #[.int .i64 0, .int .i64 0, .int .i64 0, .int .i64 0, .int .i64 0, .slice none 0 0, .int .i64 0, .bool false] 32)) = W at *
  have m0 : ∀ W', Ext W W' → Mod (LnB false a q cu co s) W W' := fun W' E => E.mod _
  have cX : ∀ W', Ext W W' → _ := fun W' E => hcvt W' Ax nx cx _ (mX.out _ (m0 _ E))
  have cZ : ∀ W', Ext W W' → _ := fun W' E => hcvt W' Az nz cz _ (mZ.out _ (m0 _ E))
  have cV : ∀ W', Ext W W' → _ := fun W' E => hcvt W' Av nv cv _ (mV.out _ (m0 _ E))
  have cJ : ∀ W', Ext W W' → W'.cell? ⟨jb, 0, none⟩ = some (.int .i64 2) := fun W' E => cellsAt (hJ.out _ (m13.out.trans (M17.out.trans (m0 _ E)))) 0
  have wz0 : IntKind.i64.wrap 0 = 0 := rfl
  simp only [List.append_eq, List.cons_append, List.nil_append]
  refine wp_region_held_drew (S := fun W' => Ext W W') (by kernel_rfl) ((Ext.refl W).god) (fun hHeld => ?_)
  refine wpAnyH_take (i := 0) (oi := _) (v := ?_) rfl (by kernel_rfl) (by kernel_rfl) (by kernel_rfl) (fun _ _ _ h => h) (Or.inl ⟨by rfl, ?_⟩) (by assumption) ?_
  rotate_left
  · intro w hSw
    (try dsimp only at hSw)
    go_simp
    try (with_reducible rfl)
  try simp only [Act.put, List.getElem_toArray, List.getElem_cons_zero, List.setIfInBounds_toArray, List.set_cons_zero, List.set_cons_succ]
  refine wpAnyH_take (i := 1) (oi := _) (v := ?_) rfl (by kernel_rfl) (by kernel_rfl) (by kernel_rfl) (fun _ _ _ h => h) (Or.inl ⟨by rfl, ?_⟩) (by assumption) ?_
  rotate_left
  · intro w hSw
    (try dsimp only at hSw)
    go_simp
    try (with_reducible rfl)
  try simp only [Act.put, List.getElem_toArray, List.getElem_cons_succ, List.getElem_cons_zero, List.setIfInBounds_toArray, List.set_cons_zero, List.set_cons_succ]
  refine wpAnyH_take (i := 2) (oi := _) (v := ?_) rfl (by kernel_rfl) (by kernel_rfl) (by kernel_rfl) (fun _ _ _ h => h) (Or.inl ⟨by rfl, ?_⟩) (by assumption) ?_
  rotate_left
  · intro w hSw
    (try dsimp only at hSw)
    go_simp
    try (with_reducible rfl)
  try simp only [Act.put, List.getElem_toArray, List.getElem_cons_succ, List.getElem_cons_zero, List.setIfInBounds_toArray, List.set_cons_zero, List.set_cons_succ]
  refine wpAnyH_take (i := 3) (oi := _) (v := ?_) rfl (by kernel_rfl) (by kernel_rfl) (by kernel_rfl) (fun _ _ _ h => h) (Or.inl ⟨by rfl, ?_⟩) (by assumption) ?_
  rotate_left
  · intro w hSw
    (try dsimp only at hSw)
    go_simp
    try (with_reducible rfl)
  try simp only [Act.put, List.getElem_toArray, List.getElem_cons_succ, List.getElem_cons_zero, List.setIfInBounds_toArray, List.set_cons_zero, List.set_cons_succ]
  refine wpAnyH_take (i := 4) (oi := _) (v := ?_) rfl (by kernel_rfl) (by kernel_rfl) (by kernel_rfl) (fun _ _ _ h => h) (Or.inl ⟨by rfl, ?_⟩) (by assumption) ?_
  rotate_left
  · intro w hSw
    (try dsimp only at hSw)
    go_simp
    try (with_reducible rfl)
  try simp only [Act.put, List.getElem_toArray, List.getElem_cons_succ, List.getElem_cons_zero, List.setIfInBounds_toArray, List.set_cons_zero, List.set_cons_succ]
  refine wpAnyH_take (i := 5) (oi := _) (v := ?_) rfl (by kernel_rfl) (by kernel_rfl) (by kernel_rfl) (fun _ _ _ h => h) (Or.inl ⟨by rfl, ?_⟩) (by assumption) ?_
  rotate_left
  · intro w hSw
    (try dsimp only at hSw)
    go_simp
    try (with_reducible rfl)
  try simp only [Act.put, List.getElem_toArray, List.getElem_cons_succ, List.getElem_cons_zero, List.setIfInBounds_toArray, List.set_cons_zero, List.set_cons_succ]
  refine wpAnyH_take (i := 6) (oi := _) (v := ?_) rfl (by kernel_rfl) (by kernel_rfl) (by kernel_rfl) (fun _ _ _ h => h) (Or.inl ⟨by rfl, ?_⟩) (by assumption) ?_
  rotate_left
  · intro w hSw
    (try dsimp only at hSw)
    go_simp
    try (with_reducible rfl)
  try simp only [Act.put, List.getElem_toArray, List.getElem_cons_succ, List.getElem_cons_zero, List.setIfInBounds_toArray, List.set_cons_zero, List.set_cons_succ]
  refine wpAnyH_ready (rs := [7]) (by kernel_rfl) (by simp) ?_
  refine AllReadyH.cons rfl (fun K hK => ?_) ?_
  rotate_left
  · exact AllReadyH.nil
  go_simp
  refine hK.out _ _ ?_ (fun hHeld => ?_)
  · exact Ext.goA hHeld _
  clear hK K
  try simp only [Act.put, List.getElem_toArray, List.getElem_cons_succ, List.getElem_cons_zero, List.setIfInBounds_toArray, List.set_cons_zero, List.set_cons_succ]
  refine wpAnyH_ready (rs := [8]) (by kernel_rfl) (by simp) ?_
  refine AllReadyH.cons rfl (fun K hK => ?_) ?_
  rotate_left
  · exact AllReadyH.nil
  go_simp
  go_at_call 33
  refine (ref02Put_any 3 _ 5 5 [4, 0, 2, 0, 3] _ (by decide) (by decide) (rd_lit W [4, 0, 2, 0, 3] rfl) (byteL_all (by decide)) (by decide)).mono ?_
  rintro _ w18 ⟨A6, n6, c6, rfl, g61, g62, r6, E18, f6⟩
  have hHeld18 := Ext.go hHeld E18
  try dsimp only
  refine hK.out _ _ ?_ (fun hHeld => ?_)
  · first | assumption | (dsimp only; assumption)
  clear hK K
  try simp only [Act.put, List.getElem_toArray, List.getElem_cons_succ, List.getElem_cons_zero, List.setIfInBounds_toArray, List.set_cons_zero, List.set_cons_succ]
  have c18 := hcvt w18 A6 n6 c6 _ r6
  rw [show rtuL 3 [4, 0, 2, 0, 3] = ldb2 from rfl] at c18
  refine wpAnyH_ready (rs := [9]) (by kernel_rfl) (by simp) ?_
  refine AllReadyH.cons rfl (fun K hK => ?_) ?_
  rotate_left
  · exact AllReadyH.nil
  go_simp
  refine hK.out _ _ ?_ (fun hHeld => ?_)
  · first | assumption | (dsimp only; assumption)
  clear hK K
  try simp only [Act.put, List.getElem_toArray, List.getElem_cons_succ, List.getElem_cons_zero, List.setIfInBounds_toArray, List.set_cons_zero, List.set_cons_succ]
  clear c18
  refine wpAnyH_take (i := 10) (oi := _) (v := ?_) rfl (by kernel_rfl) (by kernel_rfl) (by kernel_rfl) (fun _ _ _ h => h) (Or.inl ⟨by rfl, ?_⟩) (by assumption) ?_
  rotate_left
  · intro w hSw
    (try dsimp only at hSw)
    go_simp
    try (with_reducible rfl)
  try simp only [Act.put, List.getElem_toArray, List.getElem_cons_succ, List.getElem_cons_zero, List.setIfInBounds_toArray, List.set_cons_zero, List.set_cons_succ]
  refine wpAnyH_take (i := 11) (oi := _) (v := ?_) rfl (by kernel_rfl) (by kernel_rfl) (by kernel_rfl) (fun _ _ _ h => h) (Or.inl ⟨by rfl, ?_⟩) (by assumption) ?_
  rotate_left
  · intro w hSw
    (try dsimp only at hSw)
    go_simp
    try (with_reducible rfl)
  try simp only [Act.put, List.getElem_toArray, List.getElem_cons_succ, List.getElem_cons_zero, List.setIfInBounds_toArray, List.set_cons_zero, List.set_cons_succ]
  refine wpAnyH_take (i := 12) (oi := _) (v := ?_) rfl (by kernel_rfl) (by kernel_rfl) (by kernel_rfl) (fun _ _ _ h => h) (Or.inl ⟨by rfl, ?_⟩) (by assumption) ?_
  rotate_left
  · intro w hSw
    (try dsimp only at hSw)
    go_simp
    try (with_reducible rfl)
  try simp only [Act.put, List.getElem_toArray, List.getElem_cons_succ, List.getElem_cons_zero, List.setIfInBounds_toArray, List.set_cons_zero, List.set_cons_succ]
  refine wpAnyH_take (i := 13) (oi := _) (v := ?_) rfl (by kernel_rfl) (by kernel_rfl) (by kernel_rfl) (fun _ _ _ h => h) (Or.inl ⟨by rfl, ?_⟩) (by assumption) ?_
  rotate_left
  · intro w hSw
    (try dsimp only at hSw)
    go_simp
    try (with_reducible rfl)
  try simp only [Act.put, List.getElem_toArray, List.getElem_cons_succ, List.getElem_cons_zero, List.setIfInBounds_toArray, List.set_cons_zero, List.set_cons_succ]
  refine wpAnyH_take (i := 14) (oi := _) (v := ?_) rfl (by kernel_rfl) (by kernel_rfl) (by kernel_rfl) (fun _ _ _ h => h) (Or.inl ⟨by rfl, ?_⟩) (by assumption) ?_
  rotate_left
  · intro w hSw
    (try dsimp only at hSw)
    go_simp
    try (with_reducible rfl)
  try simp only [Act.put, List.getElem_toArray, List.getElem_cons_succ, List.getElem_cons_zero, List.setIfInBounds_toArray, List.set_cons_zero, List.set_cons_succ]
  refine wpAnyH_take (i := 15) (oi := _) (v := ?_) rfl (by kernel_rfl) (by kernel_rfl) (by kernel_rfl) (fun _ _ _ h => h) (Or.inl ⟨by rfl, ?_⟩) (by assumption) ?_
  rotate_left
  · intro w hSw
    (try dsimp only at hSw)
    go_simp
    try (with_reducible rfl)
  try simp only [Act.put, List.getElem_toArray, List.getElem_cons_succ, List.getElem_cons_zero, List.setIfInBounds_toArray, List.set_cons_zero, List.set_cons_succ]
  refine wpAnyH_take (i := 16) (oi := _) (v := ?_) rfl (by kernel_rfl) (by kernel_rfl) (by kernel_rfl) (fun _ _ _ h => h) (Or.inl ⟨by rfl, ?_⟩) (by assumption) ?_
  rotate_left
  · intro w hSw
    (try dsimp only at hSw)
    go_simp
    try (with_reducible rfl)
  try simp only [Act.put, List.getElem_toArray, List.getElem_cons_succ, List.getElem_cons_zero, List.setIfInBounds_toArray, List.set_cons_zero, List.set_cons_succ]
  refine wpAnyH_take (i := 17) (oi := _) (v := ?_) rfl (by kernel_rfl) (by kernel_rfl) (by kernel_rfl) (fun _ _ _ h => h) (Or.inl ⟨by rfl, ?_⟩) (by assumption) ?_
  rotate_left
  · intro w hSw
    (try dsimp only at hSw)
    go_simp
    try (with_reducible rfl)
  try simp only [Act.put, List.getElem_toArray, List.getElem_cons_succ, List.getElem_cons_zero, List.setIfInBounds_toArray, List.set_cons_zero, List.set_cons_succ]
  refine wpAnyH_take (i := 18) (oi := _) (v := ?_) rfl (by kernel_rfl) (by kernel_rfl) (by kernel_rfl) (fun _ _ _ h => h) (Or.inl ⟨by rfl, ?_⟩) (by assumption) ?_
  rotate_left
  · intro w hSw
    (try dsimp only at hSw)
    go_simp
    try (with_reducible rfl)
  try simp only [Act.put, List.getElem_toArray, List.getElem_cons_succ, List.getElem_cons_zero, List.setIfInBounds_toArray, List.set_cons_zero, List.set_cons_succ]
  refine wpAnyH_take (i := 19) (oi := _) (v := ?_) rfl (by kernel_rfl) (by kernel_rfl) (by kernel_rfl) (fun _ _ _ h => h) (Or.inl ⟨by rfl, ?_⟩) (by assumption) ?_
  rotate_left
  · intro w hSw
    (try dsimp only at hSw)
    go_simp
    try (with_reducible rfl)
  try simp only [Act.put, List.getElem_toArray, List.getElem_cons_succ, List.getElem_cons_zero, List.setIfInBounds_toArray, List.set_cons_zero, List.set_cons_succ]
  refine wpAnyH_take (i := 20) (oi := _) (v := ?_) rfl (by kernel_rfl) (by kernel_rfl) (by kernel_rfl) (fun _ _ _ h => h) (Or.inl ⟨by rfl, ?_⟩) (by assumption) ?_
  rotate_left
  · intro w hSw
    (try dsimp only at hSw)
    go_simp
    try (with_reducible rfl)
  try simp only [Act.put, List.getElem_toArray, List.getElem_cons_succ, List.getElem_cons_zero, List.setIfInBounds_toArray, List.set_cons_zero, List.set_cons_succ]
  refine wpAnyH_take (i := 21) (oi := _) (v := ?_) rfl (by kernel_rfl) (by kernel_rfl) (by kernel_rfl) (fun _ _ _ h => h) (Or.inl ⟨by rfl, ?_⟩) (by assumption) ?_
  rotate_left
  · intro w hSw
    (try dsimp only at hSw)
    go_simp
    try (with_reducible rfl)
  try simp only [Act.put, List.getElem_toArray, List.getElem_cons_succ, List.getElem_cons_zero, List.setIfInBounds_toArray, List.set_cons_zero, List.set_cons_succ]
  refine wpAnyH_take (i := 22) (oi := _) (v := ?_) rfl (by kernel_rfl) (by kernel_rfl) (by kernel_rfl) (fun _ _ _ h => h) (Or.inl ⟨by rfl, ?_⟩) (by assumption) ?_
  rotate_left
  · intro w hSw
    (try dsimp only at hSw)
    go_simp
    try (with_reducible rfl)
  try simp only [Act.put, List.getElem_toArray, List.getElem_cons_succ, List.getElem_cons_zero, List.setIfInBounds_toArray, List.set_cons_zero, List.set_cons_succ]
  refine wpAnyH_take (i := 23) (oi := _) (v := ?_) rfl (by kernel_rfl) (by kernel_rfl) (by kernel_rfl) (fun _ _ _ h => h) (Or.inl ⟨by rfl, ?_⟩) (by assumption) ?_
  rotate_left
  · intro w hSw
    (try dsimp only at hSw)
    go_simp
    try (with_reducible rfl)
  try simp only [Act.put, List.getElem_toArray, List.getElem_cons_succ, List.getElem_cons_zero, List.setIfInBounds_toArray, List.set_cons_zero, List.set_cons_succ]
  refine wpAnyH_take (i := 24) (oi := _) (v := ?_) rfl (by kernel_rfl) (by kernel_rfl) (by kernel_rfl) (fun _ _ _ h => h) (Or.inl ⟨by rfl, ?_⟩) (by assumption) ?_
  rotate_left
  · intro w hSw
    (try dsimp only at hSw)
    go_simp
    try (with_reducible rfl)
  try simp only [Act.put, List.getElem_toArray, List.getElem_cons_succ, List.getElem_cons_zero, List.setIfInBounds_toArray, List.set_cons_zero, List.set_cons_succ]
  refine wpAnyH_take (i := 25) (oi := _) (v := ?_) rfl (by kernel_rfl) (by kernel_rfl) (by kernel_rfl) (fun _ _ _ h => h) (Or.inl ⟨by rfl, ?_⟩) (by assumption) ?_
  rotate_left
  · intro w hSw
    (try dsimp only at hSw)
    go_simp
    try (with_reducible rfl)
  try simp only [Act.put, List.getElem_toArray, List.getElem_cons_succ, List.getElem_cons_zero, List.setIfInBounds_toArray, List.set_cons_zero, List.set_cons_succ]
  refine wpAnyH_take (i := 26) (oi := _) (v := ?_) rfl (by kernel_rfl) (by kernel_rfl) (by kernel_rfl) (fun _ _ _ h => h) (Or.inl ⟨by rfl, ?_⟩) (by assumption) ?_
  rotate_left
  · intro w hSw
    (try dsimp only at hSw)
    go_simp
    try (with_reducible rfl)
  try simp only [Act.put, List.getElem_toArray, List.getElem_cons_succ, List.getElem_cons_zero, List.setIfInBounds_toArray, List.set_cons_zero, List.set_cons_succ]
  refine wpAnyH_take (i := 27) (oi := _) (v := ?_) rfl (by kernel_rfl) (by kernel_rfl) (by kernel_rfl) (fun _ _ _ h => h) (Or.inl ⟨by rfl, ?_⟩) (by assumption) ?_
  rotate_left
  · intro w hSw
    (try dsimp only at hSw)
    go_simp
    try (with_reducible rfl)
  try simp only [Act.put, List.getElem_toArray, List.getElem_cons_succ, List.getElem_cons_zero, List.setIfInBounds_toArray, List.set_cons_zero, List.set_cons_succ]
  refine wpAnyH_take (i := 28) (oi := _) (v := ?_) rfl (by kernel_rfl) (by kernel_rfl) (by kernel_rfl) (fun _ _ _ h => h) (Or.inl ⟨by rfl, ?_⟩) (by assumption) ?_
  rotate_left
  · intro w hSw
    (try dsimp only at hSw)
    go_simp
    try (with_reducible rfl)
  try simp only [Act.put, List.getElem_toArray, List.getElem_cons_succ, List.getElem_cons_zero, List.setIfInBounds_toArray, List.set_cons_zero, List.set_cons_succ]
  refine wpAnyH_take (i := 29) (oi := _) (v := ?_) rfl (by kernel_rfl) (by kernel_rfl) (by kernel_rfl) (fun _ _ _ h => h) (Or.inl ⟨by rfl, ?_⟩) (by assumption) ?_
  rotate_left
  · intro w hSw
    (try dsimp only at hSw)
    go_simp
    try (with_reducible rfl)
  try simp only [Act.put, List.getElem_toArray, List.getElem_cons_succ, List.getElem_cons_zero, List.setIfInBounds_toArray, List.set_cons_zero, List.set_cons_succ]
  refine wpAnyH_take (i := 30) (oi := _) (v := ?_) rfl (by kernel_rfl) (by kernel_rfl) (by kernel_rfl) (fun _ _ _ h => h) (Or.inl ⟨by rfl, ?_⟩) (by assumption) ?_
  rotate_left
  · intro w hSw
    (try dsimp only at hSw)
    go_simp
    try (with_reducible rfl)
  try simp only [Act.put, List.getElem_toArray, List.getElem_cons_succ, List.getElem_cons_zero, List.setIfInBounds_toArray, List.set_cons_zero, List.set_cons_succ]
  refine wpAnyH_take (i := 31) (oi := _) (v := ?_) rfl (by kernel_rfl) (by kernel_rfl) (by kernel_rfl) (fun _ _ _ h => h) (Or.inl ⟨by rfl, ?_⟩) (by assumption) ?_
  rotate_left
  · intro w hSw
    (try dsimp only at hSw)
    go_simp
    try (with_reducible rfl)
  try simp only [Act.put, List.getElem_toArray, List.getElem_cons_succ, List.getElem_cons_zero, List.setIfInBounds_toArray, List.set_cons_zero, List.set_cons_succ]
  refine wpAnyH_take (i := 32) (oi := _) (v := ?_) rfl (by kernel_rfl) (by kernel_rfl) (by kernel_rfl) (fun _ _ _ h => h) (Or.inl ⟨by rfl, ?_⟩) (by assumption) ?_
  rotate_left
  · intro w hSw
    (try dsimp only at hSw)
    go_simp
    try (with_reducible rfl)
  try simp only [Act.put, List.getElem_toArray, List.getElem_cons_succ, List.getElem_cons_zero, List.setIfInBounds_toArray, List.set_cons_zero, List.set_cons_succ]
  refine wpAnyH_take (i := 33) (oi := _) (v := ?_) rfl (by kernel_rfl) (by kernel_rfl) (by kernel_rfl) (fun _ _ _ h => h) (Or.inl ⟨by rfl, ?_⟩) (by assumption) ?_
  rotate_left
  · intro w hSw
    (try dsimp only at hSw)
    go_simp
    try (with_reducible rfl)
  try simp only [Act.put, List.getElem_toArray, List.getElem_cons_succ, List.getElem_cons_zero, List.setIfInBounds_toArray, List.set_cons_zero, List.set_cons_succ]
  refine wpAnyH_take (i := 34) (oi := _) (v := ?_) rfl (by kernel_rfl) (by kernel_rfl) (by kernel_rfl) (fun _ _ _ h => h) (Or.inl ⟨by rfl, ?_⟩) (by assumption) ?_
  rotate_left
  · intro w hSw
    (try dsimp only at hSw)
    go_simp
    try (with_reducible rfl)
  try simp only [Act.put, List.getElem_toArray, List.getElem_cons_succ, List.getElem_cons_zero, List.setIfInBounds_toArray, List.set_cons_zero, List.set_cons_succ]
  refine wpAnyH_take (i := 35) (oi := _) (v := ?_) rfl (by kernel_rfl) (by kernel_rfl) (by kernel_rfl) (fun _ _ _ h => h) (Or.inl ⟨by rfl, ?_⟩) (by assumption) ?_
  rotate_left
  · intro w hSw
    (try dsimp only at hSw)
    go_simp
    try (with_reducible rfl)
  try simp only [Act.put, List.getElem_toArray, List.getElem_cons_succ, List.getElem_cons_zero, List.setIfInBounds_toArray, List.set_cons_zero, List.set_cons_succ]
  refine wpAnyH_take (i := 36) (oi := _) (v := ?_) rfl (by kernel_rfl) (by kernel_rfl) (by kernel_rfl) (fun _ _ _ h => h) (Or.inl ⟨by rfl, ?_⟩) (by assumption) ?_
  rotate_left
  · intro w hSw
    (try dsimp only at hSw)
    go_simp
    try (with_reducible rfl)
  try simp only [Act.put, List.getElem_toArray, List.getElem_cons_succ, List.getElem_cons_zero, List.setIfInBounds_toArray, List.set_cons_zero, List.set_cons_succ]
  refine wpAnyH_take (i := 37) (oi := _) (v := ?_) rfl (by kernel_rfl) (by kernel_rfl) (by kernel_rfl) (fun _ _ _ h => h) (Or.inl ⟨by rfl, ?_⟩) (by assumption) ?_
  rotate_left
  · intro w hSw
    (try dsimp only at hSw)
    go_simp
    try (with_reducible rfl)
  try simp only [Act.put, List.getElem_toArray, List.getElem_cons_succ, List.getElem_cons_zero, List.setIfInBounds_toArray, List.set_cons_zero, List.set_cons_succ]
  refine wpAnyH_take (i := 38) (oi := _) (v := ?_) rfl (by kernel_rfl) (by kernel_rfl) (by kernel_rfl) (fun _ _ _ h => h) (Or.inl ⟨by rfl, ?_⟩) (by assumption) ?_
  rotate_left
  · intro w hSw
    (try dsimp only at hSw)
    go_simp
    try (with_reducible rfl)
  try simp only [Act.put, List.getElem_toArray, List.getElem_cons_succ, List.getElem_cons_zero, List.setIfInBounds_toArray, List.set_cons_zero, List.set_cons_succ]
  refine wpAnyH_take (i := 39) (oi := _) (v := ?_) rfl (by kernel_rfl) (by kernel_rfl) (by kernel_rfl) (fun _ _ _ h => h) (Or.inl ⟨by rfl, ?_⟩) (by assumption) ?_
  rotate_left
  · intro w hSw
    (try dsimp only at hSw)
    go_simp
    try (with_reducible rfl)
  try simp only [Act.put, List.getElem_toArray, List.getElem_cons_succ, List.getElem_cons_zero, List.setIfInBounds_toArray, List.set_cons_zero, List.set_cons_succ]
  refine wpAnyH_take (i := 40) (oi := _) (v := ?_) rfl (by kernel_rfl) (by kernel_rfl) (by kernel_rfl) (fun _ _ _ h => h) (Or.inl ⟨by rfl, ?_⟩) (by assumption) ?_
  rotate_left
  · intro w hSw
    (try dsimp only at hSw)
    go_simp
    try (with_reducible rfl)
  try simp only [Act.put, List.getElem_toArray, List.getElem_cons_succ, List.getElem_cons_zero, List.setIfInBounds_toArray, List.set_cons_zero, List.set_cons_succ]
  refine wpAnyH_take (i := 41) (oi := _) (v := ?_) rfl (by kernel_rfl) (by kernel_rfl) (by kernel_rfl) (fun _ _ _ h => h) (Or.inl ⟨by rfl, ?_⟩) (by assumption) ?_
  rotate_left
  · intro w hSw
    (try dsimp only at hSw)
    go_simp
    try (with_reducible rfl)
  try simp only [Act.put, List.getElem_toArray, List.getElem_cons_succ, List.getElem_cons_zero, List.setIfInBounds_toArray, List.set_cons_zero, List.set_cons_succ]
  refine wpAnyH_take (i := 42) (oi := _) (v := ?_) rfl (by kernel_rfl) (by kernel_rfl) (by kernel_rfl) (fun _ _ _ h => h) (Or.inl ⟨by rfl, ?_⟩) (by assumption) ?_
  rotate_left
  · intro w hSw
    (try dsimp only at hSw)
    go_simp
    try (with_reducible rfl)
  try simp only [Act.put, List.getElem_toArray, List.getElem_cons_succ, List.getElem_cons_zero, List.setIfInBounds_toArray, List.set_cons_zero, List.set_cons_succ]
  refine wpAnyH_take (i := 43) (oi := _) (v := ?_) rfl (by kernel_rfl) (by kernel_rfl) (by kernel_rfl) (fun _ _ _ h => h) (Or.inl ⟨by rfl, ?_⟩) (by assumption) ?_
  rotate_left
  · intro w hSw
    (try dsimp only at hSw)
    go_simp
    try (with_reducible rfl)
  try simp only [Act.put, List.getElem_toArray, List.getElem_cons_succ, List.getElem_cons_zero, List.setIfInBounds_toArray, List.set_cons_zero, List.set_cons_succ]
  refine wpAnyH_take (i := 44) (oi := _) (v := ?_) rfl (by kernel_rfl) (by kernel_rfl) (by kernel_rfl) (fun _ _ _ h => h) (Or.inl ⟨by rfl, ?_⟩) (by assumption) ?_
  rotate_left
  · intro w hSw
    (try dsimp only at hSw)
    go_simp
    try (with_reducible rfl)
  try simp only [Act.put, List.getElem_toArray, List.getElem_cons_succ, List.getElem_cons_zero, List.setIfInBounds_toArray, List.set_cons_zero, List.set_cons_succ]
  refine wpAnyH_take (i := 45) (oi := _) (v := ?_) rfl (by kernel_rfl) (by kernel_rfl) (by kernel_rfl) (fun _ _ _ h => h) (Or.inl ⟨by rfl, ?_⟩) (by assumption) ?_
  rotate_left
  · intro w hSw
    (try dsimp only at hSw)
    go_simp
    try (with_reducible rfl)
  try simp only [Act.put, List.getElem_toArray, List.getElem_cons_succ, List.getElem_cons_zero, List.setIfInBounds_toArray, List.set_cons_zero, List.set_cons_succ]
  refine wpAnyH_ready (rs := [46]) (by kernel_rfl) (by simp) ?_
  refine AllReadyH.cons rfl (fun K hK => ?_) ?_
  rotate_left
  · exact AllReadyH.nil
  go_simp
  refine hK.out _ _ ?_ (fun hHeld => ?_)
  · exact Ext.goA hHeld _
  clear hK K
  try simp only [Act.put, List.getElem_toArray, List.getElem_cons_succ, List.getElem_cons_zero, List.setIfInBounds_toArray, List.set_cons_zero, List.set_cons_succ]
  refine wpAnyH_ready (rs := [47]) (by kernel_rfl) (by simp) ?_
  refine AllReadyH.cons rfl (fun K hK => ?_) ?_
  rotate_left
  · exact AllReadyH.nil
  go_simp
  go_at_call 33
  refine (ref02Put_any 3 _ 5 5 [4, 0, 1, 0, 2] _ (by decide) (by decide) (rd_lit2 w18 [4, 0, 1, 0, 2] rfl) (byteL_all (by decide)) (by decide)).mono ?_
  rintro _ w19 ⟨A7, n7, c7, rfl, g71, g72, r7, E19, f7⟩
  have hHeld19 := Ext.go hHeld E19
  try dsimp only
  refine hK.out _ _ ?_ (fun hHeld => ?_)
  · first | assumption | (dsimp only; assumption)
  clear hK K
  try simp only [Act.put, List.getElem_toArray, List.getElem_cons_succ, List.getElem_cons_zero, List.setIfInBounds_toArray, List.set_cons_zero, List.set_cons_succ]
  have c19 := hcvt w19 A7 n7 c7 _ r7
  rw [show rtuL 3 [4, 0, 1, 0, 2] = ldb1 from rfl] at c19
  refine wpAnyH_ready (rs := [48]) (by kernel_rfl) (by simp) ?_
  refine AllReadyH.cons rfl (fun K hK => ?_) ?_
  rotate_left
  · exact AllReadyH.nil
  go_simp
  refine hK.out _ _ ?_ (fun hHeld => ?_)
  · first | assumption | (dsimp only; assumption)
  clear hK K
  try simp only [Act.put, List.getElem_toArray, List.getElem_cons_succ, List.getElem_cons_zero, List.setIfInBounds_toArray, List.set_cons_zero, List.set_cons_succ]
  clear c19
  refine wpAnyH_take (i := 49) (oi := _) (v := ?_) rfl (by kernel_rfl) (by kernel_rfl) (by kernel_rfl) (fun _ _ _ h => h) (Or.inl ⟨by rfl, ?_⟩) (by assumption) ?_
  rotate_left
  · intro w hSw
    (try dsimp only at hSw)
    go_simp
    try (with_reducible rfl)
  try simp only [Act.put, List.getElem_toArray, List.getElem_cons_succ, List.getElem_cons_zero, List.setIfInBounds_toArray, List.set_cons_zero, List.set_cons_succ]
  refine wpAnyH_take (i := 50) (oi := _) (v := ?_) rfl (by kernel_rfl) (by kernel_rfl) (by kernel_rfl) (fun _ _ _ h => h) (Or.inl ⟨by rfl, ?_⟩) (by assumption) ?_
  rotate_left
  · intro w hSw
    (try dsimp only at hSw)
    go_simp
    try (with_reducible rfl)
  try simp only [Act.put, List.getElem_toArray, List.getElem_cons_succ, List.getElem_cons_zero, List.setIfInBounds_toArray, List.set_cons_zero, List.set_cons_succ]
  refine wpAnyH_take (i := 51) (oi := _) (v := ?_) rfl (by kernel_rfl) (by kernel_rfl) (by kernel_rfl) (fun _ _ _ h => h) (Or.inl ⟨by rfl, ?_⟩) (by assumption) ?_
  rotate_left
  · intro w hSw
    (try dsimp only at hSw)
    go_simp
    try (with_reducible rfl)
  try simp only [Act.put, List.getElem_toArray, List.getElem_cons_succ, List.getElem_cons_zero, List.setIfInBounds_toArray, List.set_cons_zero, List.set_cons_succ]
  refine wpAnyH_take (i := 52) (oi := _) (v := ?_) rfl (by kernel_rfl) (by kernel_rfl) (by kernel_rfl) (fun _ _ _ h => h) (Or.inl ⟨by rfl, ?_⟩) (by assumption) ?_
  rotate_left
  · intro w hSw
    (try dsimp only at hSw)
    go_simp
    try (with_reducible rfl)
  try simp only [Act.put, List.getElem_toArray, List.getElem_cons_succ, List.getElem_cons_zero, List.setIfInBounds_toArray, List.set_cons_zero, List.set_cons_succ]
  refine wpAnyH_take (i := 53) (oi := _) (v := ?_) rfl (by kernel_rfl) (by kernel_rfl) (by kernel_rfl) (fun _ _ _ h => h) (Or.inl ⟨by rfl, ?_⟩) (by assumption) ?_
  rotate_left
  · intro w hSw
    (try dsimp only at hSw)
    go_simp
    try (with_reducible rfl)
  try simp only [Act.put, List.getElem_toArray, List.getElem_cons_succ, List.getElem_cons_zero, List.setIfInBounds_toArray, List.set_cons_zero, List.set_cons_succ]
  refine wpAnyH_ready (rs := [54]) (by kernel_rfl) (by simp) ?_
  refine AllReadyH.cons rfl (fun K hK => ?_) ?_
  rotate_left
  · exact AllReadyH.nil
  go_simp
  refine hK.out _ _ ?_ (fun hHeld => ?_)
  · exact Ext.goA hHeld _
  clear hK K
  try simp only [Act.put, List.getElem_toArray, List.getElem_cons_succ, List.getElem_cons_zero, List.setIfInBounds_toArray, List.set_cons_zero, List.set_cons_succ]
  refine wpAnyH_ready (rs := [55]) (by kernel_rfl) (by simp) ?_
  refine AllReadyH.cons rfl (fun K hK => ?_) ?_
  rotate_left
  · exact AllReadyH.nil
  go_simp
  go_at_call 42
  refine (sameDone_one gd 0 cd4 w19.heap.size 0 1 2 211 0 A4 none 0 c4 0 0 [] _ (mD.out _ (m0 _ hHeld)) (lit_done w19 2 211 0 none 0 0) (RdI.nil _) (RdI.nil _) (by decide) (by decide)).mono ?_
  rintro _ w20 ⟨rfl, E20⟩
  have hHeld20 := Ext.go hHeld E20
  try dsimp only
  refine hK.out _ _ ?_ (fun hHeld => ?_)
  · first | assumption | (dsimp only; assumption)
  clear hK K
  try simp only [Act.put, List.getElem_toArray, List.getElem_cons_succ, List.getElem_cons_zero, List.setIfInBounds_toArray, List.set_cons_zero, List.set_cons_succ]
  refine wpAnyH_take (i := 56) (oi := _) (v := ?_) rfl (by kernel_rfl) (by kernel_rfl) (by kernel_rfl) (fun _ _ _ h => h) (Or.inl ⟨by rfl, ?_⟩) (by assumption) ?_
  rotate_left
  · intro w hSw
    (try dsimp only at hSw)
    go_simp
    try (with_reducible rfl)
  try simp only [Act.put, List.getElem_toArray, List.getElem_cons_succ, List.getElem_cons_zero, List.setIfInBounds_toArray, List.set_cons_zero, List.set_cons_succ]
  refine wpAnyH_take (i := 57) (oi := _) (v := ?_) rfl (by kernel_rfl) (by kernel_rfl) (by kernel_rfl) (fun _ _ _ h => h) (Or.inl ⟨by rfl, ?_⟩) (by assumption) ?_
  rotate_left
  · intro w hSw
    (try dsimp only at hSw)
    go_simp
    try (with_reducible rfl)
  try simp only [Act.put, List.getElem_toArray, List.getElem_cons_succ, List.getElem_cons_zero, List.setIfInBounds_toArray, List.set_cons_zero, List.set_cons_succ]
  refine wpAnyH_take (i := 58) (oi := _) (v := ?_) rfl (by kernel_rfl) (by kernel_rfl) (by kernel_rfl) (fun _ _ _ h => h) (Or.inl ⟨by rfl, ?_⟩) (by assumption) ?_
  rotate_left
  · intro w hSw
    (try dsimp only at hSw)
    go_simp
    try (with_reducible rfl)
  try simp only [Act.put, List.getElem_toArray, List.getElem_cons_succ, List.getElem_cons_zero, List.setIfInBounds_toArray, List.set_cons_zero, List.set_cons_succ]
  refine wpAnyH_ready (rs := [59]) (by kernel_rfl) (by simp) ?_
  refine AllReadyH.cons rfl (fun K hK => ?_) ?_
  rotate_left
  · exact AllReadyH.nil
  go_simp
  refine hK.out _ _ ?_ (fun hHeld => ?_)
  · exact Ext.goA hHeld20 _
  clear hK K
  try simp only [Act.put, List.getElem_toArray, List.getElem_cons_succ, List.getElem_cons_zero, List.setIfInBounds_toArray, List.set_cons_zero, List.set_cons_succ]
  refine wpAnyH_take (i := 60) (oi := _) (v := ?_) rfl (by kernel_rfl) (by kernel_rfl) (by kernel_rfl) (fun _ _ _ h => h) (Or.inl ⟨by rfl, ?_⟩) (by assumption) ?_
  rotate_left
  · intro w hSw
    (try dsimp only at hSw)
    go_simp
    try (with_reducible rfl)
  try simp only [Act.put, List.getElem_toArray, List.getElem_cons_succ, List.getElem_cons_zero, List.setIfInBounds_toArray, List.set_cons_zero, List.set_cons_succ]
  refine wpAnyH_take (i := 61) (oi := _) (v := ?_) rfl (by kernel_rfl) (by kernel_rfl) (by kernel_rfl) (fun _ _ _ h => h) (Or.inl ⟨by rfl, ?_⟩) (by assumption) ?_
  rotate_left
  · intro w hSw
    (try dsimp only at hSw)
    go_simp
    try (with_reducible rfl)
  try simp only [Act.put, List.getElem_toArray, List.getElem_cons_succ, List.getElem_cons_zero, List.setIfInBounds_toArray, List.set_cons_zero, List.set_cons_succ]
  refine wpAnyH_ready (rs := [62]) (by kernel_rfl) (by simp) ?_
  refine AllReadyH.cons rfl (fun K hK => ?_) ?_
  rotate_left
  · exact AllReadyH.nil
  go_simp
  refine hK.out _ _ ?_ (fun hHeld => ?_)
  · exact Ext.goA (Ext.goA hHeld20 _) _
  clear hK K
  try simp only [Act.put, List.getElem_toArray, List.getElem_cons_succ, List.getElem_cons_zero, List.setIfInBounds_toArray, List.set_cons_zero, List.set_cons_succ]
  have hHeldD := hHeld
  refine wpAnyH_ready (rs := [63]) (by kernel_rfl) (by simp) ?_
  refine AllReadyH.cons rfl (fun K hK => ?_) ?_
  rotate_left
  · exact AllReadyH.nil
  go_simp
  go_at_call 42
  refine (sameDone_one gh 0 ch (w20.heap.size + 1) 0 1 1 0 0 Ah (some ⟨w20.heap.size, 0, none⟩) nh mh 2 2 [7, 8] ((w20.alloc (.cells #[.int .u16 7, .int .u16 8] 43)).alloc (.cells #[.int .i64 1, .int .i64 0, .int .i64 0, .slice (some ⟨w20.heap.size, 0, none⟩) 2 2] 56)) (hch_at E17 hHeld hch) (lit_done_at (w20.alloc (.cells #[.int .u16 7, .int .u16 8] 43)) (w20.heap.size + 1) (alloc_size _ _).symm 1 0 0 (some ⟨w20.heap.size, 0, none⟩) 2 2) (rh.ext (E17.go hHeld)) (rd_lit16 w20 _ [7, 8] rfl) (Nat.le_trans nhc chm) (by decide)).mono ?_
  rintro _ w21 ⟨rfl, E21⟩
  have hHeld21 := Ext.go hHeld E21
  try dsimp only
  refine hK.out _ _ ?_ (fun hHeld => ?_)
  · first | assumption | (dsimp only; assumption)
  clear hK K
  try simp only [Act.put, List.getElem_toArray, List.getElem_cons_succ, List.getElem_cons_zero, List.setIfInBounds_toArray, List.set_cons_zero, List.set_cons_succ]
  refine wpAnyH_take (i := 64) (oi := _) (v := ?_) rfl (by kernel_rfl) (by kernel_rfl) (by kernel_rfl) (fun _ _ _ h => h) (Or.inl ⟨by rfl, ?_⟩) (by assumption) ?_
  rotate_left
  · intro w hSw
    (try dsimp only at hSw)
    go_simp
    try (with_reducible rfl)
  try simp only [Act.put, List.getElem_toArray, List.getElem_cons_succ, List.getElem_cons_zero, List.setIfInBounds_toArray, List.set_cons_zero, List.set_cons_succ]
  refine wpAnyH_take (i := 65) (oi := _) (v := ?_) rfl (by kernel_rfl) (by kernel_rfl) (by kernel_rfl) (fun _ _ _ h => h) (Or.inl ⟨by rfl, ?_⟩) (by assumption) ?_
  rotate_left
  · intro w hSw
    (try dsimp only at hSw)
    go_simp
    try (with_reducible rfl)
  try simp only [Act.put, List.getElem_toArray, List.getElem_cons_succ, List.getElem_cons_zero, List.setIfInBounds_toArray, List.set_cons_zero, List.set_cons_succ]
  refine wpAnyH_take (i := 66) (oi := _) (v := ?_) rfl (by kernel_rfl) (by kernel_rfl) (by kernel_rfl) (fun _ _ _ h => h) (Or.inl ⟨by rfl, ?_⟩) (by assumption) ?_
  rotate_left
  · intro w hSw
    (try dsimp only at hSw)
    go_simp
    try (with_reducible rfl)
  try simp only [Act.put, List.getElem_toArray, List.getElem_cons_succ, List.getElem_cons_zero, List.setIfInBounds_toArray, List.set_cons_zero, List.set_cons_succ]
  refine wpAnyH_take (i := 67) (oi := _) (v := ?_) rfl (by kernel_rfl) (by kernel_rfl) (by kernel_rfl) (fun _ _ _ h => h) (Or.inl ⟨by rfl, ?_⟩) (by assumption) ?_
  rotate_left
  · intro w hSw
    (try dsimp only at hSw)
    go_simp
    try (with_reducible rfl)
  try simp only [Act.put, List.getElem_toArray, List.getElem_cons_succ, List.getElem_cons_zero, List.setIfInBounds_toArray, List.set_cons_zero, List.set_cons_succ]
  refine wpAnyH_take (i := 68) (oi := _) (v := ?_) rfl (by kernel_rfl) (by kernel_rfl) (by kernel_rfl) (fun _ _ _ h => h) (Or.inl ⟨by rfl, ?_⟩) (by assumption) ?_
  rotate_left
  · intro w hSw
    (try dsimp only at hSw)
    go_simp
    try (with_reducible rfl)
  try simp only [Act.put, List.getElem_toArray, List.getElem_cons_succ, List.getElem_cons_zero, List.setIfInBounds_toArray, List.set_cons_zero, List.set_cons_succ]
  refine wpAnyH_take (i := 69) (oi := _) (v := ?_) rfl (by kernel_rfl) (by kernel_rfl) (by kernel_rfl) (fun _ _ _ h => h) (Or.inl ⟨by rfl, ?_⟩) (by assumption) ?_
  rotate_left
  · intro w hSw
    (try dsimp only at hSw)
    go_simp
    try (with_reducible rfl)
  try simp only [Act.put, List.getElem_toArray, List.getElem_cons_succ, List.getElem_cons_zero, List.setIfInBounds_toArray, List.set_cons_zero, List.set_cons_succ]
  refine wpAnyH_take (i := 70) (oi := _) (v := ?_) rfl (by kernel_rfl) (by kernel_rfl) (by kernel_rfl) (fun _ _ _ h => h) (Or.inl ⟨by rfl, ?_⟩) (by assumption) ?_
  rotate_left
  · intro w hSw
    (try dsimp only at hSw)
    go_simp
    try (with_reducible rfl)
  try simp only [Act.put, List.getElem_toArray, List.getElem_cons_succ, List.getElem_cons_zero, List.setIfInBounds_toArray, List.set_cons_zero, List.set_cons_succ]
  refine wpAnyH_take (i := 71) (oi := _) (v := ?_) rfl (by kernel_rfl) (by kernel_rfl) (by kernel_rfl) (fun _ _ _ h => h) (Or.inl ⟨by rfl, ?_⟩) (by assumption) ?_
  rotate_left
  · intro w hSw
    (try dsimp only at hSw)
    go_simp
    try (with_reducible rfl)
  try simp only [Act.put, List.getElem_toArray, List.getElem_cons_succ, List.getElem_cons_zero, List.setIfInBounds_toArray, List.set_cons_zero, List.set_cons_succ]
  refine wpAnyH_ready (rs := [72]) (by kernel_rfl) (by simp) ?_
  refine AllReadyH.cons rfl (fun K hK => ?_) ?_
  rotate_left
  · exact AllReadyH.nil
  go_simp
  go_at_call 12
  refine (askNo (h17.out.ext hHeld21) (RdI.nil _) (fun j => by simp) (by decide) hd_9).mono ?_
  rintro _ w22 ⟨rfl, E22⟩
  have hHeld22 := Ext.go hHeld21 E22
  try dsimp only
  refine hK.out _ _ ?_ (fun hHeld => ?_)
  · first | assumption | (dsimp only; assumption)
  clear hK K
  try simp only [Act.put, List.getElem_toArray, List.getElem_cons_succ, List.getElem_cons_zero, List.setIfInBounds_toArray, List.set_cons_zero, List.set_cons_succ]
  refine wpAnyH_take (i := 73) (oi := _) (v := ?_) rfl (by kernel_rfl) (by kernel_rfl) (by kernel_rfl) (fun _ _ _ h => h) (Or.inl ⟨by rfl, ?_⟩) (by assumption) ?_
  rotate_left
  · intro w hSw
    (try dsimp only at hSw)
    go_simp
    try (with_reducible rfl)
  try simp only [Act.put, List.getElem_toArray, List.getElem_cons_succ, List.getElem_cons_zero, List.setIfInBounds_toArray, List.set_cons_zero, List.set_cons_succ]
  refine wpAnyH_take (i := 74) (oi := _) (v := ?_) rfl (by kernel_rfl) (by kernel_rfl) (by kernel_rfl) (fun _ _ _ h => h) (Or.inl ⟨by rfl, ?_⟩) (by assumption) ?_
  rotate_left
  · intro w hSw
    (try dsimp only at hSw)
    go_simp
    try (with_reducible rfl)
  try simp only [Act.put, List.getElem_toArray, List.getElem_cons_succ, List.getElem_cons_zero, List.setIfInBounds_toArray, List.set_cons_zero, List.set_cons_succ]
  refine wpAnyH_ready (rs := [75]) (by kernel_rfl) (by simp) ?_
  refine AllReadyH.cons rfl (fun K hK => ?_) ?_
  rotate_left
  · exact AllReadyH.nil
  go_simp
  refine hK.out _ _ ?_ (fun hHeld => ?_)
  · first | assumption | (dsimp only; assumption)
  clear hK K
  try simp only [Act.put, List.getElem_toArray, List.getElem_cons_succ, List.getElem_cons_zero, List.setIfInBounds_toArray, List.set_cons_zero, List.set_cons_succ]
  refine wpAnyH_done (by kernel_rfl) ?_ _
  go_wp2_with fail
  go_ret
  exact ⟨rfl, (m3.out.goM (m8'.out.trans (m10.out.trans (m13'.out.trans M17.out))) hge'.out).go hHeld22⟩
end Go.Proofs.Ytgagpalffdgjnaa
