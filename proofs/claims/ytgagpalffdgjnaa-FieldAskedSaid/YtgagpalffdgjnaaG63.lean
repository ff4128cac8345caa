/- Layer 24, the walks: Ask on any line; Due. · Layer 24, the walks: New. -/
import Derived.Test.YtgagpalffdgjnaaFieldF
import Derived.Test.YtgagpalffdgjnaaG61
namespace Go.Proofs.Ytgagpalffdgjnaa
open Go.RowKit

section
variable {w w' : World} {f : Nat} {dev : List (Int × Int)} {F : Fp} {M : Fdm} {A : Option Addr} {n c : Nat} {l : List Int}
set_option maxRecDepth 100000 in
theorem ask_m (h : FdM w f dev F M) (hx : RdI w w.heap.size .u8 A n l) (hoff : OffB (M.T f dev.length) A n) (hl : ByteL l) (hnc : n ≤ c) (hcm : c ≤ maxLen) (hn : n ≤ 1000000)
    (hfs : ∀ j, j < 4 → ∀ x ∈ (F.W j).fs, 0 ≤ x.2 ∧ x.2 ≤ 1099511627776) (hws : ∀ j, j < 4 → (F.W j).ws.length ≤ 1000000) (line now : Int) :
    Calls Try.prog 29 #[.pointer (some ⟨f, 0, none⟩), .int .i64 line, .slice A n c, .int .i64 now] w fun e w' => e = .returned (.tuple #[]) ∧ FdStep w w' f dev M (askF dev F line l now) := by
  by_cases hok : 0 ≤ line ∧ line < 4 ∧ 0 ≤ now ∧ now ≤ 1099511627776
  · have he : askF dev F line l now = askJ dev F line.toNat l now := if_pos hok
    rw [he]
    obtain ⟨j, rfl⟩ : ∃ j : Nat, line = j := ⟨line.toNat, by omega⟩
    rw [Int.toNat_natCast]
    have hj : j < 4 := by omega
    by_cases hj2 : j < 2
    · refine ask_core 86 88 (enters_of (P := Try.prog) Try.func86 (by kernel_rfl) rfl) (enters_of (P := Try.prog) Try.func88 (by kernel_rfl) rfl) h hj (if_pos hj2) (if_pos hj2) ?_ ?_ hx hoff hok.2.2.1 hok.2.2.2 (hfs j hj) (hws j hj)
      · exact fun W r => serialOpen_any hj2 r hl hnc hcm
      · exact fun W id u A n c ys _ hu r hy hn => serialFrame_any hj2 hu.1 hu.2 r hy hn
    · refine ask_core 91 93 (enters_of (P := Try.prog) Try.func91 (by kernel_rfl) rfl) (enters_of (P := Try.prog) Try.func93 (by kernel_rfl) rfl) h hj (if_neg hj2) (if_neg hj2) ?_ ?_ hx hoff hok.2.2.1 hok.2.2.2 (hfs j hj) (hws j hj)
      · exact fun W r => streamOpen_any hj2 r hl hnc hcm hn
      · exact fun W id u A n c ys hi _ r _ hn => streamFrame_any hj2 hi.1 hi.2 r hn
  · have he : askF dev F line l now = F := if_neg hok
    rw [he]
    have hs := Lib.hid (FdStep.stay h (Ext.refl w))
    by_cases hl4 : 0 ≤ line ∧ line < 4
    · obtain ⟨j, rfl⟩ : ∃ j : Nat, line = j := ⟨line.toNat, by omega⟩
      have hw := wire_yes f j w (by omega)
      rcases (show now < 0 ∨ (¬ now < 0 ∧ 1099511627776 < now) from by omega) with t1 | ⟨t1, t2⟩
      · have d1 : decide (now < 0) = true := by simpa using t1
        clear h hx hoff hl hfs hws hok hl4 he
        go_enter Try.func29, Try.ntmps29
        go_wp2_with fail
        refine hw.mono ?_
        rintro e w' ⟨rfl, rfl⟩
        go_wp2_with fail
        refine bodyPost_ret (results_none rfl _ _ _) rfl ?_
        exact ⟨rfl, hs.out⟩
      · have d1 : decide (now < 0) = false := by simpa using t1
        have d2 : decide (1099511627776 < now) = true := by simpa using t2
        clear h hx hoff hl hfs hws hok hl4 he
        go_enter Try.func29, Try.ntmps29
        go_wp2_with fail
        refine hw.mono ?_
        rintro e w' ⟨rfl, rfl⟩
        go_wp2_with fail
        refine bodyPost_ret (results_none rfl _ _ _) rfl ?_
        exact ⟨rfl, hs.out⟩
    · have hw := wire_no f line w hl4
      clear h hx hoff hl hfs hws hok hl4 he
      go_enter Try.func29, Try.ntmps29
      go_wp2_with fail
      refine hw.mono ?_
      rintro e w' ⟨rfl, rfl⟩
      go_wp2_with fail
      refine bodyPost_ret (results_none rfl _ _ _) rfl ?_
      exact ⟨rfl, hs.out⟩
end
/-- What comes by a time, and what is left. -/
def dueB (F : Fp) (l now : Int) : List (List Int) := if 0 ≤ l ∧ l < 4 then ((F.W l.toNat).ws.filter fun x => decide (x.1 ≤ now)).map (·.2) else []
def dueF (F : Fp) (l now : Int) : Fp := if 0 ≤ l ∧ l < 4 then { F with W := upf F.W l.toNat ⟨(F.W l.toNat).fs, (F.W l.toNat).ws.filter fun x => !decide (x.1 ≤ now)⟩ } else F
def slV (r : Rm) : Value := .slice r.A r.n r.c
/-- Answers in memory, off the blocks T. -/
def OutAt (w : World) (T : Nat → Prop) (base : Nat) (v : Value) (bs : List (List Int)) : Prop :=
  ∃ rs : List Rm, bs = rs.map (·.b) ∧ w.ownsRow base 34 1 v rs.length (rs.map slV) ∧ (∀ r ∈ rs, r.ok w T) ∧ ∀ b, v.ownBlock = some b → ¬ T b
theorem flat2 (rs : List Rm) (k : Nat) (hk : k < rs.length) : (rs.flatMap Rm.cells)[k * 2]? = some (.int .i64 (rs[k]).at_) := by
  induction rs generalizing k with
  | nil => simp at hk
  | cons r rs ih =>
    rw [List.flatMap_cons]
    cases k with
    | zero => rfl
    | succ k =>
      have hk' : k < rs.length := by simpa using hk
      rw [List.getElem?_append_right (by simp [Rm.cells]; omega)]
      have := ih k hk'
      rw [show (k + 1) * 2 - r.cells.length = k * 2 from by simp [Rm.cells]; omega]
      simpa using this
theorem flat2' (rs : List Rm) (k : Nat) (hk : k < rs.length) : (rs.flatMap Rm.cells)[k * 2 + 1]? = some (slV rs[k]) := by
  induction rs generalizing k with
  | nil => simp at hk
  | cons r rs ih =>
    rw [List.flatMap_cons]
    cases k with
    | zero => rfl
    | succ k =>
      have hk' : k < rs.length := by simpa using hk
      rw [List.getElem?_append_right (by simp [Rm.cells]; omega)]
      have := ih k hk'
      rw [show (k + 1) * 2 + 1 - r.cells.length = k * 2 + 1 from by simp [Rm.cells]; omega]
      simpa using this
section
variable {w w' : World} {f : Nat} {dev : List (Int × Int)} {F : Fp} {M : Fdm}
theorem FdM.offT (h : FdM w f dev F M) {b : Nat} {t : TypeId} (hb : Is w b t) (h1 : t ≠ 129) (h2 : t ≠ 43) (h3 : t ≠ 144) (h4 : t ≠ 148) : ¬ M.T f dev.length b := by
  rintro (rfl | ⟨i, hi, k, hk, rfl⟩ | ⟨j, hj, e | e⟩)
  · exact hb.ne h.isF h1 rfl
  · exact hb.ne (h.isG hi hk) h2 rfl
  · exact hb.ne (h.isV hj e) h3 rfl
  · exact hb.ne (h.isW hj e) h4 rfl
theorem info_bytes : ∃ i, Try.prog.info? 34 = some i ∧ i.zero = some (.slice none 0 0) ∧ i.size = 1 ∧ i.bytes = 24 := by
  have h : (Try.prog.info? 34).map (fun i => (i.zero, i.size, i.bytes)) = some (some (.slice none 0 0), 1, 24) := by kernel_rfl
  obtain ⟨i, hi, hb⟩ := Option.map_eq_some_iff.1 h
  simp only [Prod.mk.injEq] at hb
  exact ⟨i, hi, hb.1, hb.2.1, hb.2.2⟩
def dueR (now : Int) (rs : List Rm) : List Rm := rs.filter fun r => decide (r.at_ ≤ now)
def leftR (now : Int) (rs : List Rm) : List Rm := rs.filter fun r => !decide (r.at_ ≤ now)
theorem dueR_yes {now : Int} {rs : List Rm} {k : Nat} (hk : k < rs.length) (h : rs[k].at_ ≤ now) : dueR now (rs.take (k + 1)) = dueR now (rs.take k) ++ [rs[k]] ∧ leftR now (rs.take (k + 1)) = leftR now (rs.take k) := by
  unfold dueR leftR
  rw [List.take_succ_eq_append_getElem hk, List.filter_append, List.filter_append]
  simp [h]
theorem dueR_no {now : Int} {rs : List Rm} {k : Nat} (hk : k < rs.length) (h : ¬ rs[k].at_ ≤ now) : dueR now (rs.take (k + 1)) = dueR now (rs.take k) ∧ leftR now (rs.take (k + 1)) = leftR now (rs.take k) ++ [rs[k]] := by
  unfold dueR leftR
  rw [List.take_succ_eq_append_getElem hk, List.filter_append, List.filter_append]
  simp [h]
theorem dueR_len (now : Int) (rs : List Rm) (k : Nat) : (dueR now (rs.take k)).length ≤ k := Nat.le_trans (List.length_filter_le _ _) (by rw [List.length_take]; omega)
theorem leftR_len (now : Int) (rs : List Rm) (k : Nat) : (leftR now (rs.take k)).length ≤ k := Nat.le_trans (List.length_filter_le _ _) (by rw [List.length_take]; omega)
/-- A field's own blocks, and all of before that it does not read. -/
def offD (w : World) (M M' : Fdm) (f nd : Nat) (b : Nat) : Prop := M'.T f nd b ∨ (b < w.heap.size ∧ ¬ M.U f nd b)
theorem OutAt.weak {w : World} {T T' : Nat → Prop} {base : Nat} {v : Value} {bs : List (List Int)} (h : OutAt w T base v bs) (hT : ∀ b, T' b → T b) : OutAt w T' base v bs := by
  obtain ⟨rs, e, hrow, hok, hoff⟩ := h
  exact ⟨rs, e, hrow, fun r hr => ⟨(hok r hr).rd, (hok r hr).nc, (hok r hr).cm, fun hn b o e hb => (hok r hr).off hn b o e (hT b hb)⟩, fun b hb ht => hoff b hb (hT b ht)⟩
def DuePost (F : Fp) (M : Fdm) (f : Nat) (dev : List (Int × Int)) (l now : Int) (w : World) (e : Ending) (w' : World) : Prop :=
  ∃ v M', e = .returned v ∧ FdM w' f dev (dueF F l now) M' ∧ Mod (M.T f dev.length) w w' ∧ Grew w (M.T f dev.length) (M'.T f dev.length) ∧ Grew w (M.U f dev.length) (M'.U f dev.length) ∧ M'.G = M.G ∧ OutAt w' (offD w M M' f dev.length) w.heap.size v (dueB F l now)
theorem own_keep24 {w w' : World} {base n size : Nat} {e : TypeId} {v : Value} {xs : List Value} (h : w.ownsRow base e size v n xs) (hk : ∀ b, v.ownBlock = some b → w'.heap[b]? = w.heap[b]?) : w'.ownsRow base e size v n xs := by
  refine ⟨h.1, ?_⟩
  rcases h.2 with h0 | ⟨g, cap, cur, rfl, hb, hg, h1⟩
  · exact .inl h0
  · exact .inr ⟨g, cap, cur, rfl, hb, (hk g rfl).trans hg, h1⟩
theorem own_is {w : World} {base n size : Nat} {e : TypeId} {v : Value} {xs : List Value} (h : w.ownsRow base e size v n xs) {b : Nat} (hb : v.ownBlock = some b) : Is w b e := (RowAt.of_own h).is hb
/-- A row stays where another of its kind's elements grows. -/
theorem own_other {w w' : World} {base base' n n' size size' : Nat} {e e' : TypeId} {v v' : Value} {xs xs' : List Value} (h : w.ownsRow base e size v n xs) (k : w.ownsRow base' e' size' v' n' xs') (hg : w.grownBy w' v'.ownBlock) (he : e ≠ e') : w'.ownsRow base e size v n xs :=
  own_keep24 h fun b hb => hg.block b (own_is h hb).lt fun e2 => (own_is h hb).ne (own_is k e2.symm) he rfl
set_option maxRecDepth 100000 in
set_option maxHeartbeats 3200000 in
theorem due_m (h : FdM w f dev F M) (hws : ∀ j, j < 4 → (F.W j).ws.length ≤ 1000000) (l now : Int) :
    Calls Try.prog 31 #[.pointer (some ⟨f, 0, none⟩), .int .i64 l, .int .i64 now] w (DuePost F M f dev l now w) := by
  by_cases hl : 0 ≤ l ∧ l < 4
  rotate_left
  · have hw := wire_no f l w hl
    have e1 : dueF F l now = F := if_neg hl
    have e2 : dueB F l now = [] := if_neg hl
    have h' := Lib.hid h
    clear h hl hws
    go_enter Try.func31, Try.ntmps31
    go_wp2_with fail
    refine hw.mono ?_
    rintro e w' ⟨rfl, rfl⟩
    go_wp2_with fail
    go_ret
    exact ⟨_, M, rfl, by rw [e1]; exact h'.out, Mod.refl _ _, Grew.refl _ _, Grew.refl _ _, rfl, [], by rw [e2]; rfl, World.ownsRow_nil _ _ _ _, fun r hr => by simp at hr, fun b hb => by simp [Value.ownBlock] at hb⟩
  obtain ⟨j, rfl⟩ : ∃ j : Nat, l = j := ⟨l.toNat, by omega⟩
  have hj : j < 4 := by omega
  have hw := wire_yes f j w hj
  obtain ⟨_, _, _, _, c4⟩ := h.wi j hj
  have hrow := h.wa j hj
  obtain ⟨A, c, hv, hnc, hcm⟩ := hrow.shape
  rw [hv] at c4
  have hlen : (M.rs j).length ≤ 1000000 := by
    have h1 := congrArg List.length (h.wp j hj)
    rw [List.length_map] at h1
    rw [← h1]
    exact hws j hj
  have hcell : ∀ k (hk : k < (M.rs j).length), ∃ b o, A = some ⟨b, o, none⟩ ∧ b < w.heap.size ∧ w.cell? ⟨b, o + k * 2, none⟩ = some (.int .i64 ((M.rs j)[k]).at_) ∧ w.cell? ⟨b, o + k * 2 + 1, none⟩ = some (slV (M.rs j)[k]) := fun k hk => by
    obtain ⟨b, o, cap, hv2, hb, _, _, _, hc⟩ := hrow.at_ (by omega)
    rw [hv] at hv2
    simp only [Value.slice.injEq] at hv2
    refine ⟨b, o, hv2.1, hb, ?_, ?_⟩
    · rw [hc _ (by omega)]; exact flat2 _ k hk
    · rw [Nat.add_assoc, hc _ (by omega)]; exact flat2' _ k hk
  obtain ⟨cs, hf⟩ := h.head
  have hfl := lt_of_block hf
  have h' := Lib.hid h
  have hcell' := Lib.hid hcell
  have hv' := Lib.hid hv
  have hf' := Lib.hid hf
  have hl' := Lib.hid hl
  clear h hrow hcell hv hf hws hl
  obtain ⟨nr, hnr⟩ : ∃ nr, (M.rs j).length = nr := ⟨_, rfl⟩
  rw [hnr] at c4 hnc hlen
  have hnr' := Lib.hid hnr
  clear hnr
  generalize hq : 2 + 5 * j = q at *
  have hq' := Lib.hid hq
  clear hq
  obtain ⟨ti, hti, htz, ht4, htb⟩ := info_reply
  obtain ⟨bi, hbi, hbz, hb4, hbb⟩ := info_bytes
  go_enter Try.func31, Try.ntmps31
  go_wp2_with fail
  refine hw.mono ?_
  rintro e w' ⟨rfl, rfl⟩
  go_wp2_with fail
  go_loopw [8, 9, 22] (fun v8 v9 i wr => ∃ k : Nat, k ≤ nr ∧ i = .int .i64 k ∧ wr.ownsRow w.heap.size 34 1 v8 (dueR now ((M.rs j).take k)).length ((dueR now ((M.rs j).take k)).map slV) ∧ wr.ownsRow w.heap.size 148 2 v9 (leftR now ((M.rs j).take k)).length ((leftR now ((M.rs j).take k)).flatMap Rm.cells) ∧ Ext w wr) (fun _ _ i _ => nr - (intOf i).toNat)
  case atStart => exact ⟨0, by omega, rfl, World.ownsRow_nil _ _ _ _, World.ownsRow_nil _ _ _ _, Ext.refl w⟩
  case round =>
    obtain ⟨k, hk, rfl, o8, o9, E⟩ := hrel
    have o8' := Lib.hid o8
    have o9' := Lib.hid o9
    clear o8 o9
    by_cases hkn : k < nr
    · have d1 : decide ((k : Int) < (nr : Int)) = true := by simp; omega
      obtain ⟨b, o, rfl, hbl, x0, x1⟩ := hcell'.out k (by have := hnr'.out; omega)
      have y0 := (E.cell _ hbl).trans x0
      have y1 := (E.cell _ hbl).trans x1
      have hb1 : (k : Int) < (nr : Int) := by omega
      have hkm : k < (M.rs j).length := by have := hnr'.out; omega
      have hdl := dueR_len now (M.rs j) k
      have hll := leftR_len now (M.rs j) k
      by_cases hat : ((M.rs j)[k]).at_ ≤ now
      · have d2 : decide (((M.rs j)[k]).at_ ≤ now) = true := by simpa using hat
        have hst := Lib.hid (dueR_yes hkm hat)
        clear x0 x1
        unfold slV at y1
        have hrr : Hid (slV (M.rs j)[k] = .slice ((M.rs j)[k]).A ((M.rs j)[k]).n ((M.rs j)[k]).c) := Lib.hid rfl
        have hrc : Hid (Rm.cells (M.rs j)[k] = [.int .i64 ((M.rs j)[k]).at_, .slice ((M.rs j)[k]).A ((M.rs j)[k]).n ((M.rs j)[k]).c]) := Lib.hid rfl
        generalize hr : (M.rs j)[k] = r at *
        have E2 : Ext wr ((wr.alloc (.cells #[.int .i64 r.at_, .slice r.A r.n r.c] 148)).alloc (.cells #[.slice r.A r.n r.c] 34)) := ((Ext.refl wr).goA _).goA _
        have o8x := Lib.hid (own_ext o8'.out E2)
        have o9x := Lib.hid (own_ext o9'.out E2)
        have hnew : ((wr.alloc (.cells #[.int .i64 r.at_, .slice r.A r.n r.c] 148)).alloc (.cells #[.slice r.A r.n r.c] 34)).heap[wr.heap.size + 1]? = some (.cells #[.slice r.A r.n r.c] 34 (0, 0)) := by rw [alloc_get, if_pos (by simp)]
        have hnew' := Lib.hid hnew
        have E2' := Lib.hid E2
        have hEs := E.size
        clear hnew E2 hr o8' o9'
        go_wp2_with (at_builtin; refine wpList_append_own_at _ rfl (.tmp 30) (.tmp 33) _ rfl w.heap.size 34 bi _ 1 24 Try.underlying76 hbi hbz hb4 hbb rfl (by decide) u8 _ _ rfl o8x.out ⟨wr.heap.size + 1, 0, none⟩ 1 1 [.slice r.A r.n r.c] rfl rfl (cell_one_at hnew'.out) ?c1 ?c2 ?c3 ?c4 ?_)
        case c1 => first | rfl | (intro u hu; simp at hu; subst hu; rfl)
        case c2 => unfold maxLen; omega
        case c3 => omega
        case c4 => first | omega | (simp; omega)
        intro v' w3 own3 hg3 _ hat3
        have o9y := own_other o9x.out o8x.out hg3 (by decide)
        go_wp2_with fail
        go_roundw
        case rel =>
          refine ⟨k + 1, by omega, by simp, ?_, ?_, ?_⟩
          · rw [hst.out.1, List.length_append, List.map_append]
            simpa [hrr.out] using own3
          · rw [hst.out.2]; exact o9y
          · exact (E.go E2'.out).goG hg3 (fun i hi => (o8x.out.lt i hi).1)
        case measure => simp [intOf]; omega
      · have d2 : decide (((M.rs j)[k]).at_ ≤ now) = false := by simpa using hat
        have hst := Lib.hid (dueR_no hkm hat)
        clear x0 x1
        unfold slV at y1
        have hrr : Hid (slV (M.rs j)[k] = .slice ((M.rs j)[k]).A ((M.rs j)[k]).n ((M.rs j)[k]).c) := Lib.hid rfl
        have hrc : Hid (Rm.cells (M.rs j)[k] = [.int .i64 ((M.rs j)[k]).at_, .slice ((M.rs j)[k]).A ((M.rs j)[k]).n ((M.rs j)[k]).c]) := Lib.hid rfl
        generalize hr : (M.rs j)[k] = r at *
        have E2 : Ext wr ((wr.alloc (.cells #[.int .i64 r.at_, .slice r.A r.n r.c] 148)).alloc (.cells #[.int .i64 r.at_, .slice r.A r.n r.c] 148)) := ((Ext.refl wr).goA _).goA _
        have o8x := Lib.hid (own_ext o8'.out E2)
        have o9x := Lib.hid (own_ext o9'.out E2)
        have hnew : ((wr.alloc (.cells #[.int .i64 r.at_, .slice r.A r.n r.c] 148)).alloc (.cells #[.int .i64 r.at_, .slice r.A r.n r.c] 148)).heap[wr.heap.size + 1]? = some (.cells #[.int .i64 r.at_, .slice r.A r.n r.c] 148 (0, 0)) := by rw [alloc_get, if_pos (by simp)]
        have hnew' := Lib.hid hnew
        have E2' := Lib.hid E2
        have hEs := E.size
        clear hnew E2 hr o8' o9'
        go_wp2_with (at_builtin; refine wpList_append_own_at _ rfl (.tmp 35) (.tmp 37) _ rfl w.heap.size 148 ti _ 2 32 Try.underlying124 hti htz ht4 htb rfl (by decide) u9 _ _ rfl o9x.out ⟨wr.heap.size + 1, 0, none⟩ 1 1 [.int .i64 r.at_, .slice r.A r.n r.c] rfl rfl (cell_two_at hnew'.out) ?c1 ?c2 ?c3 ?c4 ?_)
        case c1 => first | exact ⟨rfl, rfl⟩ | (intro u hu; simp at hu; rcases hu with rfl | rfl <;> rfl)
        case c2 => unfold maxLen; omega
        case c3 => omega
        case c4 => first | omega | (simp; omega)
        intro v' w3 own3 hg3 _ hat3
        have o8y := own_other o8x.out o9x.out hg3 (by decide)
        go_wp2_with fail
        go_roundw
        case rel =>
          refine ⟨k + 1, by omega, by simp, ?_, ?_, ?_⟩
          · rw [hst.out.1]; exact o8y
          · rw [hst.out.2, List.length_append, List.flatMap_append]
            simpa [hrc.out] using own3
          · exact (E.go E2'.out).goG hg3 (fun i hi => (o9x.out.lt i hi).1)
        case measure => simp [intOf]; omega
    · have d1 : decide ((k : Int) < (nr : Int)) = false := by simp; omega
      obtain rfl : k = nr := by omega
      have htk : (M.rs j).take k = M.rs j := List.take_of_length_le (by rw [hnr'.out]; exact Nat.le_refl _)
      rw [htk] at o8' o9'
      have c4' := (E.cell _ hfl).trans c4
      have z4 := (E.frozen (q + 4) hfl).trans (frozen_block hf'.out _)
      obtain ⟨A9, n9, rfl⟩ : ∃ A9 n9, u9 = .slice A9 (leftR now (M.rs j)).length n9 := by
        obtain ⟨A9, n9, e9, _⟩ := (RowAt.of_own o9'.out).shape
        exact ⟨A9, n9, e9⟩
      have hfin : DuePost F M f dev (j : Int) now w (.returned u8) (wr.setCell ⟨f, q + 4, none⟩ (.slice A9 (leftR now (M.rs j)).length n9)) := by
        have hwp := h'.out.wp j hj
        obtain ⟨M', k1, k2, k3, k4, k5⟩ := h'.out.putWaits (w1 := wr) (w0 := w) (rs := leftR now (M.rs j)) (v := .slice A9 (leftR now (M.rs j)).length n9) hj (E.mod _) (RowAt.of_own o9'.out) (fun b hb => .inr (o9'.out.lt b hb).1) (fun r hr => .inl (List.mem_filter.1 hr).1) (Nat.le_refl _) (fun r hr => .inl (List.mem_filter.1 hr).1)
        rw [hq'.out] at k1 k2
        refine ⟨u8, M', rfl, ?_, k2, k3, k4, k5, dueR now (M.rs j), ?_, ?_, ?_, ?_⟩
        · have e1 : dueF F (j : Int) now = { F with W := upf F.W j ⟨(F.W j).fs, (leftR now (M.rs j)).map Rm.p⟩ } := by
            unfold dueF
            rw [if_pos hl'.out, Int.toNat_natCast, hwp, List.filter_map]
            rfl
          rw [e1]
          exact k1
        · unfold dueB
          rw [if_pos hl'.out, Int.toNat_natCast, hwp, List.filter_map, List.map_map]
          rfl
        · exact own_keep24 o8'.out fun b hb => Below.heap_setCell wr _ _ _ (fun e => by
            subst e
            exact (own_is o8'.out hb).ne ((FdM.ext h'.out E).isF) (by decide) rfl)
        · intro r hr
          have hrm := (List.mem_filter.1 hr).1
          have h1 := h'.out.an j hj r hrm
          refine ⟨h1.rd.modS h1.off k2, h1.nc, h1.cm, fun hn b o e hb => ?_⟩
          rcases hb with hb | hb
          · rcases k3 b hb with h2 | h2
            · exact h1.off hn b o e h2
            · have := h1.rd.lt_of hn e; omega
          · exact hb.2 (.inr (.inr (.inr (.inr ⟨j, hj, .inr ⟨r, hrm, hn, o, e⟩⟩))))
        · intro b hb
          have h3 : Is (wr.setCell ⟨f, q + 4, none⟩ (.slice A9 (leftR now (M.rs j)).length n9)) b 34 := by
            obtain ⟨cs', r', e⟩ := own_is o8'.out hb
            exact ⟨cs', r', (Below.heap_setCell wr _ _ _ (fun e2 => by
              subst e2
              exact (own_is o8'.out hb).ne ((FdM.ext h'.out E).isF) (by decide) rfl)).trans e⟩
          rintro (h5 | h5)
          · exact k1.offT h3 (by decide) (by decide) (by decide) (by decide) h5
          · have := (o8'.out.lt b hb).1; omega
      have hfin' := Lib.hid hfin
      clear hfin o8' o9' c4 htk
      go_wp2_with fail
      go_ret
      exact hfin'.out
end
end Go.Proofs.Ytgagpalffdgjnaa
namespace Go.Proofs.Ytgagpalffdgjnaa
open Go.RowKit

def wireV (j t : Nat) : Value := .agg #[openV j, frameV j, spoilV t, .slice none 0 0, .slice none 0 0]
def WirePost (j : Nat) (w : World) (e : Ending) (w' : World) : Prop := ∃ t, e = .returned (wireV j t) ∧ w'.heap[t]? = some (.cells #[.int .i64 (placeJ j)] 3 (0, 0)) ∧ Ext w w' ∧ w.heap.size ≤ t
theorem last_laid (W : World) (o1 o2 : Obj) : ((W.alloc o1).alloc o2).heap[W.heap.size + 1]? = some o2 := by
  rw [alloc_get, if_pos (by simp)]
set_option maxRecDepth 100000 in
theorem serial_any (j : Nat) (hj : j < 2) (w : World) : Calls Try.prog 54 #[] w (WirePost j w) := by
  unfold WirePost wireV openV frameV placeJ
  rw [if_pos hj, if_pos hj, if_pos hj]
  go_enter Try.func54, Try.ntmps54
  go_wp2
  have h1 := two_laid w (.cells #[.func (.func 86) #[] #[], .func (.func 88) #[] #[], .func (.func 117) #[] #[.pointer (some ⟨w.heap.size + 1, 0, none⟩)], .slice none 0 0, .slice none 0 0] 126) (.cells #[.int .i64 (-1)] 3)
  have h2 := last_laid w (.cells #[.func (.func 86) #[] #[], .func (.func 88) #[] #[], .func (.func 117) #[] #[.pointer (some ⟨w.heap.size + 1, 0, none⟩)], .slice none 0 0, .slice none 0 0] 126) (.cells #[.int .i64 (-1)] 3)
  refine bodyPost_ret (v := .agg #[.func (.func 86) #[] #[], .func (.func 88) #[] #[], .func (.func 117) #[] #[.pointer (some ⟨w.heap.size + 1, 0, none⟩)], .slice none 0 0, .slice none 0 0]) (by simp [results, Try.results54, go_sem, cellsAt h1 0, cellsAt h1 1, cellsAt h1 2, cellsAt h1 3, cellsAt h1 4]) rfl ?_
  exact ⟨w.heap.size + 1, rfl, h2, ((Ext.refl w).goA _).goA _, by omega⟩
set_option maxRecDepth 100000 in
theorem stream_any (j : Nat) (hj : ¬ j < 2) (w : World) : Calls Try.prog 55 #[] w (WirePost j w) := by
  unfold WirePost wireV openV frameV placeJ
  rw [if_neg hj, if_neg hj, if_neg hj]
  go_enter Try.func55, Try.ntmps55
  go_wp2
  have h1 := two_laid w (.cells #[.func (.func 91) #[] #[], .func (.func 93) #[] #[], .func (.func 117) #[] #[.pointer (some ⟨w.heap.size + 1, 0, none⟩)], .slice none 0 0, .slice none 0 0] 126) (.cells #[.int .i64 (2)] 3)
  have h2 := last_laid w (.cells #[.func (.func 91) #[] #[], .func (.func 93) #[] #[], .func (.func 117) #[] #[.pointer (some ⟨w.heap.size + 1, 0, none⟩)], .slice none 0 0, .slice none 0 0] 126) (.cells #[.int .i64 (2)] 3)
  refine bodyPost_ret (v := .agg #[.func (.func 91) #[] #[], .func (.func 93) #[] #[], .func (.func 117) #[] #[.pointer (some ⟨w.heap.size + 1, 0, none⟩)], .slice none 0 0, .slice none 0 0]) (by simp [results, Try.results55, go_sem, cellsAt h1 0, cellsAt h1 1, cellsAt h1 2, cellsAt h1 3, cellsAt h1 4]) rfl ?_
  exact ⟨w.heap.size + 1, rfl, h2, ((Ext.refl w).goA _).goA _, by omega⟩
/-- Five cells stored in a row. -/
theorem five_put {W : World} {f q : Nat} {cs : Array Value} {T : TypeId} (h : W.heap[f]? = some (.cells cs T (0, 0))) (hs : q + 5 ≤ cs.size) (a0 a1 a2 a3 a4 : Value) {W' : World}
    (hW : W' = ((((W.setCell ⟨f, q, none⟩ a0).setCell ⟨f, q + 1, none⟩ a1).setCell ⟨f, q + 2, none⟩ a2).setCell ⟨f, q + 3, none⟩ a3).setCell ⟨f, q + 4, none⟩ a4) :
    (∃ cs', W'.heap[f]? = some (.cells cs' T (0, 0)) ∧ cs'.size = cs.size) ∧ (W'.cell? ⟨f, q, none⟩ = some a0 ∧ W'.cell? ⟨f, q + 1, none⟩ = some a1 ∧ W'.cell? ⟨f, q + 2, none⟩ = some a2 ∧ W'.cell? ⟨f, q + 3, none⟩ = some a3 ∧ W'.cell? ⟨f, q + 4, none⟩ = some a4) ∧
      (∀ o, o < q ∨ q + 5 ≤ o → W'.cell? ⟨f, o, none⟩ = W.cell? ⟨f, o, none⟩) ∧ Mod (fun i => i = f) W W' := by
  subst hW
  have h1 := sets_block h q a0
  have h2 := sets_block h1 (q + 1) a1
  have h3 := sets_block h2 (q + 2) a2
  have h4 := sets_block h3 (q + 3) a3
  have h5 := sets_block h4 (q + 4) a4
  refine ⟨⟨_, h5, by simp⟩, ?_, fun o ho => ?_, ?_⟩
  · refine ⟨?_, ?_, ?_, ?_, ?_⟩ <;> rw [cellsAt h5] <;> simp [Array.getElem?_setIfInBounds] <;> omega
  · rw [cellsAt h5, cellsAt h]
    simp only [Array.getElem?_setIfInBounds]
    rw [if_neg (by omega), if_neg (by omega), if_neg (by omega), if_neg (by omega), if_neg (by omega)]
  · exact (((((Mod.refl (fun i => i = f) W).setCell (p := ⟨f, q, none⟩) (.inl rfl) a0).setCell (p := ⟨f, q + 1, none⟩) (.inl rfl) a1).setCell (p := ⟨f, q + 2, none⟩) (.inl rfl) a2).setCell (p := ⟨f, q + 3, none⟩) (.inl rfl) a3).setCell (p := ⟨f, q + 4, none⟩) (.inl rfl) a4
/-- A field being made: its first k lines are there. -/
structure NewPart (W : World) (f m k : Nat) (t : Nat → Nat) : Prop where
  head : ∃ cs, W.heap[f]? = some (.cells cs 129 (0, 0)) ∧ cs.size = 22
  c0 : W.cell? ⟨f, 0, none⟩ = some (.slice none 0 0)
  c1 : W.cell? ⟨f, 1, none⟩ = some (.map (some m))
  wi : ∀ j, j < k → W.cell? ⟨f, 2 + 5 * j, none⟩ = some (openV j) ∧ W.cell? ⟨f, 2 + 5 * j + 1, none⟩ = some (frameV j) ∧ W.cell? ⟨f, 2 + 5 * j + 2, none⟩ = some (spoilV (t j)) ∧ W.cell? ⟨f, 2 + 5 * j + 3, none⟩ = some (.slice none 0 0) ∧ W.cell? ⟨f, 2 + 5 * j + 4, none⟩ = some (.slice none 0 0)
  tj : ∀ j, j < k → W.heap[t j]? = some (.cells #[.int .i64 (placeJ j)] 3 (0, 0))
  mp : MapW W m 0 (fun _ _ => 0)
theorem NewPart.lt {W : World} {f m k : Nat} {t : Nat → Nat} (h : NewPart W f m k t) : f < W.heap.size := let ⟨_, e, _⟩ := h.head; lt_of_block e
theorem NewPart.ext {W W' : World} {f m k : Nat} {t : Nat → Nat} (h : NewPart W f m k t) (E : Ext W W') : NewPart W' f m k t := by
  have hl := h.lt
  obtain ⟨cs, e, hs⟩ := h.head
  refine ⟨⟨cs, (E.block _ hl).trans e, hs⟩, (E.cell _ hl).trans h.c0, (E.cell _ hl).trans h.c1, fun j hj => ?_, fun j hj => (E.block _ (lt_of_block (h.tj j hj))).trans (h.tj j hj), h.mp.ext E⟩
  obtain ⟨a0, a1, a2, a3, a4⟩ := h.wi j hj
  exact ⟨(E.cell _ hl).trans a0, (E.cell _ hl).trans a1, (E.cell _ hl).trans a2, (E.cell _ hl).trans a3, (E.cell _ hl).trans a4⟩
/-- One line more, whatever stood there. -/
theorem NewPart.step {W W' : World} {f m k : Nat} {t : Nat → Nat} (h : NewPart W f m k t) (hk : k < 4) {tk : Nat} (ht : W.heap[tk]? = some (.cells #[.int .i64 (placeJ k)] 3 (0, 0)))
    (hW : W' = ((((W.setCell ⟨f, 2 + 5 * k, none⟩ (openV k)).setCell ⟨f, 2 + 5 * k + 1, none⟩ (frameV k)).setCell ⟨f, 2 + 5 * k + 2, none⟩ (spoilV tk)).setCell ⟨f, 2 + 5 * k + 3, none⟩ (.slice none 0 0)).setCell ⟨f, 2 + 5 * k + 4, none⟩ (.slice none 0 0)) :
    NewPart W' f m (k + 1) (upf t k tk) := by
  obtain ⟨cs, e, hs⟩ := h.head
  obtain ⟨⟨cs', e', hs'⟩, a, b, mm⟩ := five_put e (by omega) _ _ _ _ _ hW
  have isF : Is W f 129 := ⟨_, _, e⟩
  refine ⟨⟨cs', e', hs'.trans hs⟩, (b _ (by omega)).trans h.c0, (b _ (by omega)).trans h.c1, fun j hj => ?_, fun j hj => ?_, h.mp.keep (mm.block _ h.mp.lt (fun e2 => ?_))⟩
  · by_cases hjk : j = k
    · subst hjk; rw [upf_same]; exact a
    · rw [upf_other _ _ hjk]
      obtain ⟨a0, a1, a2, a3, a4⟩ := h.wi j (by omega)
      exact ⟨(b _ (by omega)).trans a0, (b _ (by omega)).trans a1, (b _ (by omega)).trans a2, (b _ (by omega)).trans a3, (b _ (by omega)).trans a4⟩
  · by_cases hjk : j = k
    · subst hjk; rw [upf_same]
      exact (mm.block _ (lt_of_block ht) (fun e2 => Is.ne ⟨_, _, ht⟩ isF (by decide) e2)).trans ht
    · rw [upf_other _ _ hjk]
      have ht := h.tj j (by omega)
      exact (mm.block _ (lt_of_block ht) (fun e2 => Is.ne ⟨_, _, ht⟩ isF (by decide) e2)).trans ht
  · obtain ⟨es, ck, h1⟩ := h.mp.block
    rw [e2, e] at h1
    simp at h1
/-- The same at a line that is there already. -/
theorem NewPart.again {W W' : World} {f m k : Nat} {t : Nat → Nat} (h : NewPart W f m (k + 1) t) (hk : k < 4) {tk : Nat} (ht : W.heap[tk]? = some (.cells #[.int .i64 (placeJ k)] 3 (0, 0)))
    (hW : W' = ((((W.setCell ⟨f, 2 + 5 * k, none⟩ (openV k)).setCell ⟨f, 2 + 5 * k + 1, none⟩ (frameV k)).setCell ⟨f, 2 + 5 * k + 2, none⟩ (spoilV tk)).setCell ⟨f, 2 + 5 * k + 3, none⟩ (.slice none 0 0)).setCell ⟨f, 2 + 5 * k + 4, none⟩ (.slice none 0 0)) :
    NewPart W' f m (k + 1) (upf t k tk) :=
  NewPart.step (k := k) ⟨h.head, h.c0, h.c1, fun j hj => h.wi j (by omega), fun j hj => h.tj j (by omega), h.mp⟩ hk ht hW
end Go.Proofs.Ytgagpalffdgjnaa
