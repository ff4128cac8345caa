/- Layer 17, the walks: Reset. -/
import Derived.Test.YtgajbgdkgelkgaaGreatG11
namespace Go.Proofs.YtgajbgdkgelkgaaGreat
open Go.RowKit

/-- One note is told. -/
theorem tellOne_any (gn nb : Nat) (now : Int) (v : Value) (l : List Nt) (kind q : Int) (w : World) (h : HasNt w gn nb now v l) (hl : l.length ≤ 900000) :
    Calls Tryz.prog 28 #[.pointer (some ⟨gn, 0, none⟩), .int .i64 kind, .slice (some ⟨w.heap.size, 0, none⟩) 1 1] (w.alloc (.cells #[.int .i64 q] 3)) (TellPost gn nb now v (l ++ [(kind, q, now)]) w) := by
  have YE := (Ext.refl w).goA (.cells #[.int .i64 q] 3)
  have YX : RdI (w.alloc (.cells #[.int .i64 q] 3)) (w.alloc (.cells #[.int .i64 q] 3)).heap.size .i64 (some ⟨w.heap.size, 0, none⟩) 1 [(q : Int)] := by
    have := RdI.new (w := w) (g := w.heap.size) (e := 3) (k := .i64) (cs := #[.int .i64 q]) [(q : Int)] rfl rfl rfl
    simpa using this
  have hl2 := h.lt
  have hl3 := h.le
  refine (tell_any gn nb now v l kind _ _ _ [q] _ (h.ext YE) YX (fun b o e hb => by
    cases e
    rcases hb with h1 | h1
    · omega
    · have := (h.own.lt _ h1).2; omega) (by omega) (by omega)).mono ?_
  rintro e w2 ⟨he, v9, hN, hM, hv⟩
  exact ⟨he, v9, hN, (YE.mod _).trans hM, fun b hb => by
    rcases hv b hb with h1 | h1
    · exact .inl h1
    · right; simp at h1; omega⟩
theorem all_any (c : Co) (now : Int) : ∀ xs : List Int, (xs.all fun q => healthyC c q.toNat now) = !xs.any (sickP c now)
  | [] => rfl
  | x :: xs => by rw [List.all_cons, List.any_cons, all_any c now xs]; unfold sickP; cases healthyC c x.toNat now <;> simp
theorem Boxed.keep {w w' : World} {p3 p5 g : Nat} {now : Int} (h : Boxed w p3 p5 g now) {S : Nat → Prop} (M : Mod S w w') (hs : ∀ b, S b → b ≠ p3 ∧ b ≠ p5) : Boxed w' p3 p5 g now :=
  ⟨(M.block p3 (lt_of_block h.b3) fun hS => (hs p3 hS).1 rfl).trans h.b3, (M.block p5 (lt_of_block h.b5) fun hS => (hs p5 hS).2 rfl).trans h.b5⟩
/-- The state of Reset's loops. -/
def ResetIn (base B N : Nat) (K : CoK) (m : Mx) (now : Int) (p3 p5 gn : Nat) (w : World) (n : Nat) (s : Co × List Nt) (wr : World) : Prop :=
  ∃ v, HasK wr base B N K m s.1 ∧ HasNt wr gn (gn + 1) now v s.2 ∧ s.2.length ≤ n ∧ Mod (K.mut m.np) w wr ∧ Boxed wr p3 p5 K.g now
/-- A step that tells nothing. -/
theorem ResetIn.ext {base B N : Nat} {K : CoK} {m : Mx} {now : Int} {p3 p5 gn : Nat} {w : World} {n : Nat} {s : Co × List Nt} {wr w' : World} (h : ResetIn base B N K m now p3 p5 gn w n s wr) (E : Ext wr w') : ResetIn base B N K m now p3 p5 gn w n s w' := by
  obtain ⟨v, h1, h2, h3, h4, h5⟩ := h
  exact ⟨v, h1.ext E, h2.ext E, h3, h4.trans (E.mod _), ⟨(E.block p3 (lt_of_block h5.b3)).trans h5.b3, (E.block p5 (lt_of_block h5.b5)).trans h5.b5⟩⟩
theorem ResetIn.mono {base B N : Nat} {K : CoK} {m : Mx} {now : Int} {p3 p5 gn : Nat} {w : World} {n : Nat} {s : Co × List Nt} {wr : World} (h : ResetIn base B N K m now p3 p5 gn w n s wr) {N' n' : Nat} (hN : N ≤ N') (hn : n ≤ n') : ResetIn base B N' K m now p3 p5 gn w n' s wr := by
  obtain ⟨v, h1, h2, h3, h4, h5⟩ := h
  exact ⟨v, h1.mono hN, h2, by omega, h4, h5⟩
/-- Where the places lie. -/
structure Lies (K : CoK) (m : Mx) (B : Nat) (w : World) (p3 p5 gn : Nat) : Prop where
  l3 : w.heap.size ≤ p3
  l5 : w.heap.size ≤ p5
  g3 : p3 < gn
  g5 : p5 < gn
  old : ∀ b, K.mut m.np b → b < w.heap.size
  oB : B ≤ w.heap.size
/-- The core has turned in blocks of its own. -/
theorem ResetIn.core {base B N N' : Nat} {K : CoK} {m : Mx} {now : Int} {p3 p5 gn : Nat} {w : World} {n : Nat} {c c' : Co} {l : List Nt} {wr w' : World} (h : ResetIn base B N K m now p3 p5 gn w n (c, l) wr) (L : Lies K m B w p3 p5 gn) (hK : HasK w' base B N' K m c') {S : Nat → Prop} (M : Mod S wr w') (hS : ∀ b, S b → K.mut m.np b) : ResetIn base B N' K m now p3 p5 gn w n (c', l) w' := by
  obtain ⟨v, h1, h2, h3, h4, h5⟩ := h
  have l1 := L.l3
  have l2 := L.l5
  have l3 := L.g3
  have l4 := L.oB
  exact ⟨v, hK, h2.core h1 ⟨fun b hb => by have := L.old b hb; omega, by omega⟩ M hS, h3, h4.trans (M.weak hS), h5.keep M fun b hb => by have := L.old b (hS b hb); constructor <;> omega⟩
set_option maxHeartbeats 1600000 in
theorem resetTell_any (base B N : Nat) (K : CoK) (m : Mx) (now : Int) (p3 p5 gn : Nat) (w : World) (n : Nat) (c : Co) (l : List Nt) (wr : World) (h : ResetIn base B N K m now p3 p5 gn w n (c, l) wr) (L : Lies K m B w p3 p5 gn) (kind q : Int) (hn : n ≤ 900000) :
    Calls Tryz.prog 28 #[.pointer (some ⟨gn, 0, none⟩), .int .i64 kind, .slice (some ⟨wr.heap.size, 0, none⟩) 1 1] (wr.alloc (.cells #[.int .i64 q] 3)) fun e w' => e = .returned (.tuple #[]) ∧ ResetIn base B N K m now p3 p5 gn w (n + 1) (c, l ++ [(kind, q, now)]) w' := by
  obtain ⟨v, h1, h2, h3, h4, h5⟩ := h
  dsimp only at h1 h2 h3
  have l1 := L.l3
  have l2 := L.l5
  have l3 := L.g3
  have l5 := L.g5
  have l4 := L.oB
  refine (tellOne_any gn (gn + 1) now v l kind q wr h2 (by omega)).mono ?_
  rintro e w2 ⟨rfl, v9, hN, hM, hv⟩
  have hlow : ∀ b, NtB gn v b → gn ≤ b := fun b hb => by
    rcases hb with h9 | h9
    · omega
    · have := (h2.own.lt _ h9).1; omega
  refine ⟨rfl, v9, h1.tell h2 ⟨fun b hb => by have := L.old b hb; omega, by omega⟩ hM, hN, len_tell h3, h4.step hM (fun b hb => .inr (by have := hlow b hb; omega)), h5.keep hM fun b hb => by have := hlow b hb; constructor <;> omega⟩
set_option maxRecDepth 100000 in
set_option maxHeartbeats 12800000 in
theorem coReset_any (base B N : Nat) (K : CoK) (m : Mx) (c : Co) (w : World) (h : HasK w base B N K m c) (hR : rightM m = true) (s : ByteArray) (now : Int) (hs : s.size ≤ maxLen) (hN : N ≤ 4611686017000) :
    Calls Tryz.prog 18 #[.pointer (some ⟨K.g, 0, none⟩), .string s, .int .i64 now] w
      (NtsPost (resetC m (rightB s && m.key.toList == (sumS s).toList) now c).2.1 (resetC m (rightB s && m.key.toList == (sumS s).toList) now c).2.2 w (CoAt base B (N + 100) K m (K.mut m.np) w (resetC m (rightB s && m.key.toList == (sumS s).toList) now c).1)) := by
  obtain ⟨hnc, hne, hnp, hnd, hlc, hle, hlp⟩ := h.lens
  obtain ⟨-, hre, -⟩ := right_parts hR
  have hre' := Lib.hid hre
  have h' := Lib.hid h
  have hg := lt_of_block h.head
  clear h hR hre
  have E0 := ((Ext.refl w).goA (.cells #[.pointer (some ⟨K.g, 0, none⟩)] 30)).goA (.cells #[.int .i64 now] 2)
  have B3 : ((w.alloc (.cells #[.pointer (some ⟨K.g, 0, none⟩)] 30)).alloc (.cells #[.int .i64 now] 2)).heap[w.heap.size]? = some (.cells #[.pointer (some ⟨K.g, 0, none⟩)] 30 (0, 0)) := (((Ext.refl (w.alloc (.cells #[.pointer (some ⟨K.g, 0, none⟩)] 30))).goA (.cells #[.int .i64 now] 2)).block _ (by simp)).trans (heap_alloc_new w _)
  have B5 : ((w.alloc (.cells #[.pointer (some ⟨K.g, 0, none⟩)] 30)).alloc (.cells #[.int .i64 now] 2)).heap[w.heap.size + 1]? = some (.cells #[.int .i64 now] 2 (0, 0)) := heap_new_at (by simp)
  have S0 : ((w.alloc (.cells #[.pointer (some ⟨K.g, 0, none⟩)] 30)).alloc (.cells #[.int .i64 now] 2)).heap.size = w.heap.size + 2 := by simp
  have c4 : ((w.alloc (.cells #[.pointer (some ⟨K.g, 0, none⟩)] 30)).alloc (.cells #[.int .i64 now] 2)).cell? ⟨K.g, 4, none⟩ = some (.string m.key) := (h'.out.ext E0).cell 4
  have c3 : ((w.alloc (.cells #[.pointer (some ⟨K.g, 0, none⟩)] 30)).alloc (.cells #[.int .i64 now] 2)).cell? ⟨w.heap.size, 0, none⟩ = some (.pointer (some ⟨K.g, 0, none⟩)) := cellsAt B3 0
  have E0' := Lib.hid E0
  have BX := Lib.hid (⟨B3, B5⟩ : Boxed _ w.heap.size (w.heap.size + 1) K.g now)
  have S0' := Lib.hid S0
  clear E0 B3 B5 S0
  generalize hky : (rightB s && m.key.toList == (sumS s).toList) = ky
  have hky' := Lib.hid hky
  clear hky
  unfold resetC
  cases ky
  · simp only [Bool.false_eq_true, if_false]
    go_enter Tryz.func18, Tryz.ntmps18
    go_wp2_with (go_at_call 37; refine (match_any _ _ _ hs).mono ?_; rw [hky'.out]; rintro e w1 ⟨rfl, E1⟩)
    go_ret2
    exact ⟨none, 0, 0, rfl, Nat.le_refl _, by unfold maxLen; omega, RdC.nil _ _ _ _ _, (fun b o e => by cases e), (h'.out.ext (E0'.out.go E1)).mono (by omega), (E0'.out.go E1).mod _⟩
  · simp only [if_true]
    have hfin : ∀ (f : Co × List Nt → Nat → Co × List Nt) (st : Co × List Nt), foldN f st m.cas.length = foldN f st m.nc := fun f st => by rw [hlc]
    have hfin2 : ∀ (f : Co × List Nt → Nat → Co × List Nt) (st : Co × List Nt), foldN f st m.efs.length = foldN f st m.ne := fun f st => by rw [hle]
    rw [hfin, hfin2]
    clear hfin hfin2
    go_enter Tryz.func18, Tryz.ntmps18
    go_upto_region 3 with (go_at_call 37; refine (match_any _ _ _ hs).mono ?_; rw [hky'.out]; rintro e w1 ⟨rfl, E1⟩)
    have E1' := Lib.hid (E0'.out.go E1)
    have BX1 : Boxed w1 w.heap.size (w.heap.size + 1) K.g now := ⟨(E1.block _ (lt_of_block BX.out.b3)).trans BX.out.b3, (E1.block _ (lt_of_block BX.out.b5)).trans BX.out.b5⟩
    have BX1' := Lib.hid BX1
    have S1 : w.heap.size + 2 ≤ w1.heap.size := by have := E1.size; have := S0'.out; omega
    have K1 := Lib.hid (h'.out.ext E1'.out)
    have c5 : w1.cell? ⟨w.heap.size + 1, 0, none⟩ = some (.int .i64 now) := cellsAt BX1.b5 0
    clear c3 c4 BX1 E1 BX E0' S0'
    go_upto_region 4 with fail
    have E2 := (Ext.refl w1).goA (.cells #[.int .i64 now, .slice none 0 0] 91)
    have B2 := heap_alloc_new w1 (.cells #[.int .i64 now, .slice none 0 0] 91)
    have S2 : (w1.alloc (.cells #[.int .i64 now, .slice none 0 0] 91)).heap.size = w1.heap.size + 1 := by simp
    generalize w1.alloc (.cells #[.int .i64 now, .slice none 0 0] 91) = X at *
    have N0 : HasNt X w1.heap.size (w1.heap.size + 1) now (.slice none 0 0) [] := ⟨B2, World.ownsRow_nil _ _ _ _, by omega, by omega⟩
    have KX := Lib.hid (K1.out.ext E2)
    have BXX : Boxed X w.heap.size (w.heap.size + 1) K.g now := ⟨(E2.block _ (lt_of_block BX1'.out.b3)).trans BX1'.out.b3, (E2.block _ (lt_of_block BX1'.out.b5)).trans BX1'.out.b5⟩
    have RI : Hid (ResetIn base B N K m now w.heap.size (w.heap.size + 1) w1.heap.size w 0 (c, []) X) := Lib.hid ⟨_, KX.out, N0, Nat.le_refl _, (E1'.out.go E2).mod _, BXX⟩
    have LI : Hid (Lies K m B w w.heap.size (w.heap.size + 1) w1.heap.size) := Lib.hid ⟨Nat.le_refl _, by omega, by omega, by omega, fun b hb => h'.out.old hb, h'.out.mxlt⟩
    have x8 : X.cell? ⟨K.g, 8, none⟩ = some (.slice m.Ae m.ne m.ce) := KX.out.cell 8
    have x3 : X.cell? ⟨w.heap.size, 0, none⟩ = some (.pointer (some ⟨K.g, 0, none⟩)) := cellsAt BXX.b3 0
    have gX := lt_of_block KX.out.head
    have g3X := lt_of_block BXX.b3
    clear E2 B2 S2 N0 BXX E1' K1 BX1' c5
    go_upto_region 7 with fail
    go_loopw [32] (fun i wr => ∃ k : Nat, k ≤ m.ne ∧ i = .int .i64 k ∧ ResetIn base B (N + k) K m now w.heap.size (w.heap.size + 1) w1.heap.size w k (foldN (freeStep m now) (c, []) k) wr) (fun i _ => m.ne - (intOf i).toNat)
    case atStart => exact ⟨0, by omega, rfl, RI.out⟩
    case round =>
      obtain ⟨k, hk, rfl, hRI⟩ := hrel
      have hsucc := foldN_succ (freeStep m now) (c, []) k
      generalize hst : foldN (freeStep m now) (c, []) k = st at *
      obtain ⟨ck, lk⟩ := st
      have hst' := Lib.hid hst
      have hsucc' := Lib.hid hsucc
      have hRI' := Lib.hid hRI
      obtain ⟨vk, hKk, -, -, -, hBk⟩ := hRI
      have hKk' := Lib.hid hKk
      have hBk' := Lib.hid hBk
      dsimp only at hKk
      clear hst hsucc x8 x3
      by_cases hlt : k < m.ne
      · have e6 : (k : Int) < (m.ne : Int) := by omega
        obtain ⟨y, hy⟩ := hKk.mx.ok.ef.get hlt
        obtain ⟨ge, oe, hAe, hge, hce⟩ := hKk.mx.ok.ef.at_ hy
        have hmem := List.mem_of_getElem? hy
        obtain ⟨hyr, hyn, hyc⟩ := hKk.mx.ok.efo y hmem
        obtain ⟨hy8, hyp⟩ := hre'.out y hmem
        have hyl := hyr.len
        have hefa := efAt_get hy
        have hBk9 := hKk.mxlt
        have y0 : wr.cell? ⟨ge, oe + k * 5, none⟩ = some (.string y.nm) := hce 0 (by decide)
        have y1 : wr.cell? ⟨ge, oe + k * 5 + 1, none⟩ = some (.int .i64 y.dv) := hce 1 (by decide)
        have y2 : wr.cell? ⟨ge, oe + k * 5 + 2, none⟩ = some (.int .i64 y.pl) := hce 2 (by decide)
        have y3 : wr.cell? ⟨ge, oe + k * 5 + 3, none⟩ = some (.int .i64 y.sf) := hce 3 (by decide)
        have y4 : wr.cell? ⟨ge, oe + k * 5 + 4, none⟩ = some (.slice y.A y.n y.c) := hce 4 (by decide)
        have hgew : ge < wr.heap.size := by omega
        have hefl : ck.ef.g.length = m.ne := by rw [hKk.lef, List.length_map]; exact hKk.mx.ok.ef.len
        have hefa' := Lib.hid hefa
        have hyr' := Lib.hid (hyr.more hBk9)
        have hyp' : Hid (∀ q ∈ y.ps, 0 ≤ q ∧ q < (m.nc : Int)) := Lib.hid (by rw [← hlc]; exact hyp)
        clear hce hmem hyr hyc hy hefa hKk hBk hyp
        rw [hAe]
        go_upto_region 9 with fail
        have EU := (Ext.refl wr).goA (.cells #[.string y.nm, .int .i64 y.dv, .int .i64 y.pl, .int .i64 y.sf, .slice y.A y.n y.c] 59)
        have hUs : wr.heap.size < (wr.alloc (.cells #[.string y.nm, .int .i64 y.dv, .int .i64 y.pl, .int .i64 y.sf, .slice y.A y.n y.c] 59)).heap.size := by simp
        have u4 : (wr.alloc (.cells #[.string y.nm, .int .i64 y.dv, .int .i64 y.pl, .int .i64 y.sf, .slice y.A y.n y.c] 59)).cell? ⟨wr.heap.size, 4, none⟩ = some (.slice y.A y.n y.c) := cellsAt (heap_alloc_new wr _) 4
        generalize wr.alloc (.cells #[.string y.nm, .int .i64 y.dv, .int .i64 y.pl, .int .i64 y.sf, .slice y.A y.n y.c] 59) = U2 at *
        have RU := Lib.hid (hRI'.out.ext EU)
        have KU := Lib.hid (hKk'.out.ext EU)
        have BU : Boxed U2 w.heap.size (w.heap.size + 1) K.g now := ⟨(EU.block _ (lt_of_block hBk'.out.b3)).trans hBk'.out.b3, (EU.block _ (lt_of_block hBk'.out.b5)).trans hBk'.out.b5⟩
        have BU' := Lib.hid BU
        have hyU := Lib.hid (hyr'.out.ext EU)
        have d12 : U2.cell? ⟨K.g, 12, none⟩ = some (.pointer (some ⟨K.eg, 0, none⟩)) := KU.out.cell 12
        have u3 : U2.cell? ⟨w.heap.size, 0, none⟩ = some (.pointer (some ⟨K.g, 0, none⟩)) := cellsAt BU.b3 0
        have gU := lt_of_block KU.out.head
        have g3U := lt_of_block BU.b3
        clear EU y0 y1 y2 y3 y4 BU
        cases hct : y.ps.any (sickP ck now)
        · cases hse : setOf ck.ef k
          · go_wp2_with (first | (go_at_call 40; refine (contFunc_any _ _ _ _ _ _ _ KU.out now _ _ BU'.out _ _ _ _ hyU.out (by omega) hyp'.out).mono ?_; dsimp only; rw [hct]; rintro e w' ⟨rfl, rfl⟩) | (go_at_call 41; refine (latchReset_any _ _ _ _ _ _ _ KU.out.ef k (by rw [hefl]; exact hlt) (by omega)).mono ?_; unfold ResetPost; rw [hse]; rintro e w3 ⟨rfl, hr3, hm3⟩))
            simp only [Bool.false_eq_true, if_false] at hr3
            have hstay : foldN (freeStep m now) (c, []) (k + 1) = (ck, lk) := by rw [hsucc'.out]; unfold freeStep; rw [hse, Bool.and_false]; rfl
            have K3 := KU.out.turnEf (show N + k ≤ N + k + 1 by omega) hr3 rfl hm3
            have hmut3 : ∀ b, RwS K.el K.ef K.es b → K.mut m.np b := fun b hb => .inr (.inr (.inr (.inr (.inl (.inr hb)))))
            have R3 := Lib.hid (RU.out.core LI.out K3 hm3 hmut3)
            clear hr3 hm3 K3
            go_roundw
            case rel => exact ⟨k + 1, by omega, by go_num, by rw [hstay]; exact R3.out.mono (by omega) (by omega)⟩
            case measure => simp [intOf]; omega
          · go_upto_region 10 with (first | (go_at_call 40; refine (contFunc_any _ _ _ _ _ _ _ KU.out now _ _ BU'.out _ _ _ _ hyU.out (by omega) hyp'.out).mono ?_; dsimp only; rw [hct]; rintro e w' ⟨rfl, rfl⟩) | (go_at_call 41; refine (latchReset_any _ _ _ _ _ _ _ KU.out.ef k (by rw [hefl]; exact hlt) (by omega)).mono ?_; unfold ResetPost; rw [hse]; rintro e w3 ⟨rfl, hr3, hm3⟩))
            simp only [if_true] at hr3
            have K3 := KU.out.turnEf (show N + k ≤ N + k + 1 by omega) hr3 rfl hm3
            have hmut3 : ∀ b, RwS K.el K.ef K.es b → K.mut m.np b := fun b hb => .inr (.inr (.inr (.inr (.inl (.inr hb)))))
            have R3 := Lib.hid (RU.out.core LI.out K3 hm3 hmut3)
            clear hr3 hm3 K3
            go_wp2_with (go_at_call 28; refine (resetTell_any _ _ _ _ _ now _ _ _ _ _ _ _ _ R3.out LI.out 7 (k : Int) (by omega)).mono ?_; rintro e w2 ⟨rfl, hR9⟩)
            have hgo : foldN (freeStep m now) (c, []) (k + 1) = ({ ck with ef := resetL ck.ef k }, lk ++ [(7, (k : Int), now)]) := by rw [hsucc'.out]; unfold freeStep; rw [hefa'.out, all_any, hct, hse]; rfl
            go_roundw
            case rel => exact ⟨k + 1, by omega, by go_num, by rw [hgo]; exact hR9⟩
            case measure => simp [intOf]; omega
        · go_wp2_with (go_at_call 40; refine (contFunc_any _ _ _ _ _ _ _ KU.out now _ _ BU'.out _ _ _ _ hyU.out (by omega) hyp'.out).mono ?_; dsimp only; rw [hct]; rintro e w' ⟨rfl, rfl⟩)
          have hstay : foldN (freeStep m now) (c, []) (k + 1) = (ck, lk) := by rw [hsucc'.out]; unfold freeStep; rw [hefa'.out, all_any, hct]; rfl
          go_roundw
          case rel => exact ⟨k + 1, by omega, by go_num, by rw [hstay]; exact RU.out.mono (by omega) (by omega)⟩
          case measure => simp [intOf]; omega
      · obtain rfl : k = m.ne := by omega
        obtain ⟨Y, hY⟩ : ∃ Y, Y = wr := ⟨_, rfl⟩
        subst hY
        have y7 : Y.cell? ⟨K.g, 7, none⟩ = some (.slice m.Ac m.nc m.cc) := hKk.cell 7
        have y3 : Y.cell? ⟨w.heap.size, 0, none⟩ = some (.pointer (some ⟨K.g, 0, none⟩)) := cellsAt hBk.b3 0
        have gY := lt_of_block hKk.head
        have g3Y := lt_of_block hBk.b3
        clear hKk hBk
        go_upto_region 13 with fail
        go_loopw [61] (fun i wr => ∃ k : Nat, k ≤ m.nc ∧ i = .int .i64 k ∧ ResetIn base B (N + m.ne + k) K m now w.heap.size (w.heap.size + 1) w1.heap.size w (m.ne + k) (foldN (clearStep now) (ck, lk) k) wr) (fun i _ => m.nc - (intOf i).toNat)
        case atStart => exact ⟨0, by omega, rfl, hRI'.out⟩
        case round =>
          obtain ⟨k, hk3, rfl, hRI3⟩ := hrel
          have hsucc := foldN_succ (clearStep now) (ck, lk) k
          generalize hst : foldN (clearStep now) (ck, lk) k = st at *
          obtain ⟨c3, l3⟩ := st
          have hst3' := Lib.hid hst
          have hsucc3 := Lib.hid hsucc
          have hRI3' := Lib.hid hRI3
          obtain ⟨v3, hK3, hN3, -, hM3, hB3⟩ := hRI3
          have hK3' := Lib.hid hK3
          have hB3' := Lib.hid hB3
          dsimp only at hK3 hN3
          have hN3' := Lib.hid hN3
          have hM3' := Lib.hid hM3
          clear hst hsucc y7 y3 hN3 hM3
          by_cases hlt3 : k < m.nc
          · have e7 : (k : Int) < (m.nc : Int) := by omega
            have d11 : wr.cell? ⟨K.g, 11, none⟩ = some (.pointer (some ⟨K.cg, 0, none⟩)) := hK3.cell 11
            have u3 : wr.cell? ⟨w.heap.size, 0, none⟩ = some (.pointer (some ⟨K.g, 0, none⟩)) := cellsAt hB3.b3 0
            have gU := lt_of_block hK3.head
            have g3U := lt_of_block hB3.b3
            have hcal : c3.ca.g.length = m.nc := by rw [hK3.lca, List.length_map]; exact hK3.mx.ok.ca.len
            clear hK3 hB3
            cases hct : healthyC c3 k now
            · go_wp2_with (go_at_call 38; refine (sick_any _ _ _ _ _ _ _ hK3'.out k hlt3 now _ _ hB3'.out).mono ?_; dsimp only; rw [hct]; rintro e w' ⟨rfl, rfl⟩)
              have hstay : foldN (clearStep now) (ck, lk) (k + 1) = (c3, l3) := by rw [hsucc3.out]; unfold clearStep; rw [hct]; rfl
              go_roundw
              case rel => exact ⟨k + 1, by omega, by go_num, by rw [hstay]; exact hRI3'.out.mono (by omega) (by omega)⟩
              case measure => simp [intOf]; omega
            · cases hse : setOf c3.ca k
              · go_wp2_with (first | (go_at_call 38; refine (sick_any _ _ _ _ _ _ _ hK3'.out k hlt3 now _ _ hB3'.out).mono ?_; dsimp only; rw [hct]; rintro e w' ⟨rfl, rfl⟩) | (go_at_call 41; refine (latchReset_any _ _ _ _ _ _ _ hK3'.out.ca k (by rw [hcal]; exact hlt3) (by omega)).mono ?_; unfold ResetPost; rw [hse]; rintro e w3 ⟨rfl, hr3, hm3⟩))
                simp only [Bool.false_eq_true, if_false] at hr3
                have hstay : foldN (clearStep now) (ck, lk) (k + 1) = (c3, l3) := by rw [hsucc3.out]; unfold clearStep; rw [hse, Bool.and_false]; rfl
                have K3 := hK3'.out.turnCa (show N + m.ne + k ≤ N + m.ne + k + 1 by omega) hr3 rfl hm3
                have hmut3 : ∀ b, RwS K.cl K.cf K.cs b → K.mut m.np b := fun b hb => .inr (.inr (.inr (.inl (.inr hb))))
                have R3 := Lib.hid (hRI3'.out.core LI.out K3 hm3 hmut3)
                clear hr3 hm3 K3
                go_roundw
                case rel => exact ⟨k + 1, by omega, by go_num, by rw [hstay]; exact R3.out.mono (by omega) (by omega)⟩
                case measure => simp [intOf]; omega
              · go_upto_region 16 with (first | (go_at_call 38; refine (sick_any _ _ _ _ _ _ _ hK3'.out k hlt3 now _ _ hB3'.out).mono ?_; dsimp only; rw [hct]; rintro e w' ⟨rfl, rfl⟩) | (go_at_call 41; refine (latchReset_any _ _ _ _ _ _ _ hK3'.out.ca k (by rw [hcal]; exact hlt3) (by omega)).mono ?_; unfold ResetPost; rw [hse]; rintro e w3 ⟨rfl, hr3, hm3⟩))
                simp only [if_true] at hr3
                have K3 := hK3'.out.turnCa (show N + m.ne + k ≤ N + m.ne + k + 1 by omega) hr3 rfl hm3
                have hmut3 : ∀ b, RwS K.cl K.cf K.cs b → K.mut m.np b := fun b hb => .inr (.inr (.inr (.inl (.inr hb))))
                have R3 := Lib.hid (hRI3'.out.core LI.out K3 hm3 hmut3)
                clear hr3 hm3 K3
                go_wp2_with (go_at_call 28; refine (resetTell_any _ _ _ _ _ now _ _ _ _ _ _ _ _ R3.out LI.out 6 (k : Int) (by omega)).mono ?_; rintro e w2 ⟨rfl, hR9⟩)
                have hgo : foldN (clearStep now) (ck, lk) (k + 1) = ({ c3 with ca := resetL c3.ca k }, l3 ++ [(6, (k : Int), now)]) := by rw [hsucc3.out]; unfold clearStep; rw [hct, hse]; rfl
                go_roundw
                case rel => exact ⟨k + 1, by omega, by go_num, by rw [hgo]; exact hR9⟩
                case measure => simp [intOf]; omega
          · obtain rfl : k = m.nc := by omega
            have cn1 : wr.cell? ⟨w1.heap.size, 1, none⟩ = some v3 := cellsAt hN3'.out.head 1
            have gn1 := lt_of_block hN3'.out.head
            obtain ⟨A9, c9, rfl, ⟨h91, h92⟩, hr9, hf9⟩ := own_rdC (cells := ntCells) hN3'.out.own rfl rfl ntCells_len
            have hr9' := Lib.hid hr9
            clear hr9 hK3 hB3
            go_wp2_with fail
            go_ret2
            rw [hst'.out, hst3'.out]
            exact ⟨A9, _, c9, rfl, h91, h92, hr9'.out, fun b o e => by have := hf9 b o e; omega, hK3'.out.mono (by omega), hM3'.out⟩
end Go.Proofs.YtgajbgdkgelkgaaGreat
