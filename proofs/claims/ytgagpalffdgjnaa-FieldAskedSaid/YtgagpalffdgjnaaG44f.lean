/- Layer 24: a field's calls over the field as it is; what a framed request comes to. · Layer 24, the law's own: a request on a line; are answers alike? · Layer 24, the law's head: what it comes to. -/
import Derived.Test.YtgagpalffdgjnaaFieldK
import Derived.Test.YtgagpalffdgjnaaG14
namespace Go.Proofs.Ytgagpalffdgjnaa
open Go.RowKit

/-- Faults as they may be; so many answers at the most. -/
def FOk (F : Fp) (N : Nat) : Prop := ∀ j, j < 4 → (∀ x ∈ (F.W j).fs, (1 ≤ x.1 ∧ x.1 ≤ 4) ∧ 0 ≤ x.2 ∧ x.2 ≤ 1099511627776) ∧ (F.W j).ws.length ≤ N
theorem FOk.new : FOk newF 0 := fun _ _ => ⟨fun x hx => by simp [newF] at hx, Nat.le_refl _⟩
theorem FOk.more {F : Fp} {N N' : Nat} (h : FOk F N) (hN : N ≤ N') : FOk F N' := fun j hj => ⟨(h j hj).1, Nat.le_trans (h j hj).2 hN⟩
theorem FOk.set {F : Fp} {N : Nat} (h : FOk F N) (dev : List (Int × Int)) (i k v : Int) : FOk (setF dev F i k v) N := by
  unfold setF
  split
  · exact h
  · exact h
theorem FOk.fault {F : Fp} {N : Nat} (h : FOk F N) (l k n : Int) : FOk (faultF F l k n) N := by
  unfold faultF
  split
  · rename_i hok
    unfold faultOk at hok
    have hok := of_decide_eq_true hok
    intro j hj
    show (∀ x ∈ (upf F.W l.toNat _ j).fs, _) ∧ (upf F.W l.toNat _ j).ws.length ≤ N
    by_cases e : j = l.toNat
    · rw [e, upf_same]
      refine ⟨fun x hx => ?_, (h l.toNat (by omega)).2⟩
      rcases List.mem_append.1 hx with hx | hx
      · exact (h l.toNat (by omega)).1 x hx
      · obtain rfl := List.mem_singleton.1 hx
        exact ⟨⟨hok.2.2.1, hok.2.2.2.1⟩, hok.2.2.2.2.1, hok.2.2.2.2.2.1⟩
    · rw [upf_other _ _ e]; exact h j hj
  · exact h
theorem FOk.due {F : Fp} {N : Nat} (h : FOk F N) (l now : Int) : FOk (dueF F l now) N := by
  unfold dueF
  split
  · intro j hj
    show (∀ x ∈ (upf F.W l.toNat _ j).fs, _) ∧ (upf F.W l.toNat _ j).ws.length ≤ N
    by_cases e : j = l.toNat
    · rw [e, upf_same]
      exact ⟨(h l.toNat (by omega)).1, Nat.le_trans (List.length_filter_le _ _) (h l.toNat (by omega)).2⟩
    · rw [upf_other _ _ e]; exact h j hj
  · exact h
theorem FOk.took {F : Fp} {N : Nat} (h : FOk F N) (i : Nat) : FOk (tookF F i) N := by
  intro j hj
  show (∀ x ∈ (upf F.W i _ j).fs, _) ∧ (upf F.W i _ j).ws.length ≤ N
  by_cases e : j = i
  · subst e
    rw [upf_same]
    exact ⟨fun x hx => (h j hj).1 x (List.mem_of_mem_drop hx), (h j hj).2⟩
  · rw [upf_other _ _ e]; exact h j hj
theorem FOk.ask {F : Fp} {N : Nat} (h : FOk F N) (dev : List (Int × Int)) (l : Int) (bs : List Int) (now : Int) : FOk (askF dev F l bs now) (N + 1) := by
  unfold askF
  split
  · rename_i hl
    have h1 : FOk (tookF F l.toNat) (N + 1) := (h.took _).more (by omega)
    unfold askJ
    split
    · exact h1
    · split
      · exact h1
      · split
        · exact h1
        · split
          · exact h1
          · intro j hj
            show (∀ x ∈ (upf (upf F.W l.toNat (nextW (F.W l.toNat))) l.toNat _ j).fs, _) ∧ (upf (upf F.W l.toNat (nextW (F.W l.toNat))) l.toNat _ j).ws.length ≤ N + 1
            by_cases e : j = l.toNat
            · rw [e, upf_same]
              refine ⟨(h1 l.toNat (by omega)).1, ?_⟩
              have h2 := (h.took l.toNat l.toNat (by omega)).2
              simp only [List.length_append, List.length_singleton]
              exact Nat.add_le_add_right h2 1
            · rw [upf_other _ _ e]; exact h1 j hj
  · exact h.more (by omega)
section
variable {w w' : World} {T U : Nat → Prop} {f : Nat} {dev : List (Int × Int)} {F F' : Fp}
/-- What a call leaves of a field. -/
def Left (w w' : World) (T U : Nat → Prop) (f : Nat) (dev : List (Int × Int)) (F' : Fp) : Prop := ∃ T' U', HasFd w' T' U' f dev F' ∧ Mod T w w' ∧ Grew w T T' ∧ Grew w U U'
theorem FdStep.left {M : Fdm} (s : FdStep w w' f dev M F') : Left w w' (M.T f dev.length) (M.U f dev.length) f dev F' := by
  obtain ⟨M', h1, h2, h3, h4, _⟩ := s
  exact ⟨_, _, ⟨M', h1, rfl, rfl⟩, h2, h3, h4⟩
theorem newIs (A : Option Addr) (n c : Nat) (dev : List (Int × Int)) (w : World) (hx : RdDv w A n dev) (hn : n ≤ 1000) (hc : n ≤ c) :
    Calls Try.prog 23 #[.slice A n c] w fun e w' => ∃ f T U, e = .returned (.pointer (some ⟨f, 0, none⟩)) ∧ HasFd w' T U f dev newF ∧ Ext w w' ∧ ∀ b, U b → w.heap.size ≤ b := by
  refine (fieldNew_any A n c dev w hx hn hc).mono ?_
  rintro e w' ⟨f, M, rfl, h, E, hU⟩
  exact ⟨f, _, _, rfl, ⟨M, h, rfl, rfl⟩, E, hU⟩
theorem setIs (h : HasFd w T U f dev F) (i k v : Int) :
    Calls Try.prog 26 #[.pointer (some ⟨f, 0, none⟩), .int .i64 i, .int .i64 k, .int .i64 v] w fun e w' => e = .returned (.bool (setOk dev F i k)) ∧ HasFd w' T U f dev (setF dev F i k v) ∧ Mod T w w' := by
  obtain ⟨M, hm, rfl, rfl⟩ := h
  refine (fieldSet_m hm i k v).mono ?_
  rintro e w' ⟨rfl, h1, h2⟩
  exact ⟨rfl, ⟨M, h1, rfl, rfl⟩, h2⟩
theorem faultIs (h : HasFd w T U f dev F) (l k n : Int) :
    Calls Try.prog 28 #[.pointer (some ⟨f, 0, none⟩), .int .i64 l, .int .i64 k, .int .i64 n] w fun e w' => e = .returned (.bool (faultOk F l k n)) ∧ Left w w' T U f dev (faultF F l k n) := by
  obtain ⟨M, hm, rfl, rfl⟩ := h
  refine (fieldFault_m hm l k n).mono ?_
  rintro e w' ⟨rfl, s⟩
  exact ⟨rfl, s.left⟩
theorem waitsIs (h : HasFd w T U f dev F) (l : Int) :
    Calls Try.prog 39 #[.pointer (some ⟨f, 0, none⟩), .int .i64 l] w fun e w' => e = .returned (.int .i64 (waitsF F l : Int)) ∧ w = w' := by
  obtain ⟨M, hm, rfl, rfl⟩ := h
  exact fieldWaits_m hm l
theorem coilIs (h : HasFd w T U f dev F) (i k : Int) :
    Calls Try.prog 35 #[.pointer (some ⟨f, 0, none⟩), .int .i64 i, .int .i64 k] w fun e w' => e = .returned (.tuple #[.int .i64 (coilF dev F i k), .bool (coilOk dev F i k)]) ∧ w = w' := by
  obtain ⟨M, hm, rfl, rfl⟩ := h
  exact fieldCoil_m hm i k
theorem askIs (h : HasFd w T U f dev F) {N : Nat} (hok : FOk F N) (hN : N ≤ 1000000) {A : Option Addr} {n c : Nat} {l : List Int} (hx : RdI w w.heap.size .u8 A n l) (hoff : OffB T A n) (hl : ByteL l) (hnc : n ≤ c) (hcm : c ≤ maxLen) (hn : n ≤ 1000000) (line now : Int) :
    Calls Try.prog 29 #[.pointer (some ⟨f, 0, none⟩), .int .i64 line, .slice A n c, .int .i64 now] w fun e w' => e = .returned (.tuple #[]) ∧ Left w w' T U f dev (askF dev F line l now) := by
  obtain ⟨M, hm, rfl, rfl⟩ := h
  refine (ask_m hm hx hoff hl hnc hcm hn (fun j hj x hx => ((hok j hj).1 x hx).2) (fun j hj => Nat.le_trans (hok j hj).2 hN) line now).mono ?_
  rintro e w' ⟨rfl, s⟩
  exact ⟨rfl, s.left⟩
theorem dueIs (h : HasFd w T U f dev F) {N : Nat} (hok : FOk F N) (hN : N ≤ 1000000) (l now : Int) :
    Calls Try.prog 31 #[.pointer (some ⟨f, 0, none⟩), .int .i64 l, .int .i64 now] w fun e w' => ∃ v T' U', e = .returned v ∧ HasFd w' T' U' f dev (dueF F l now) ∧ Mod T w w' ∧ Grew w T T' ∧ Grew w U U' ∧ OutAt w' T' w.heap.size v (dueB F l now) := by
  obtain ⟨M, hm, rfl, rfl⟩ := h
  refine (due_m hm (fun j hj => Nat.le_trans (hok j hj).2 hN) l now).mono ?_
  rintro e w' ⟨v, M', rfl, h1, h2, h3, h4, _, h5⟩
  exact ⟨v, _, _, rfl, ⟨M', h1, rfl, rfl⟩, h2, h3, h4, h5.weak fun b hb => .inl hb⟩
/-- The same; and the answers lie off all of before that the field does not read. -/
theorem dueIsOff (h : HasFd w T U f dev F) {N : Nat} (hok : FOk F N) (hN : N ≤ 1000000) (l now : Int) :
    Calls Try.prog 31 #[.pointer (some ⟨f, 0, none⟩), .int .i64 l, .int .i64 now] w fun e w' => ∃ v T' U', e = .returned v ∧ HasFd w' T' U' f dev (dueF F l now) ∧ Mod T w w' ∧ Grew w T T' ∧ Grew w U U' ∧ OutAt w' (fun b => T' b ∨ (b < w.heap.size ∧ ¬ U b)) w.heap.size v (dueB F l now) := by
  obtain ⟨M, hm, rfl, rfl⟩ := h
  refine (due_m hm (fun j hj => Nat.le_trans (hok j hj).2 hN) l now).mono ?_
  rintro e w' ⟨v, M', rfl, h1, h2, h3, h4, _, h5⟩
  exact ⟨v, _, _, rfl, ⟨M', h1, rfl, rfl⟩, h2, h3, h4, h5⟩
end
theorem sealL_open (l : List Int) : openB (sealL l) = true := by
  have h : (sealL l).length = l.length + 2 := by simp [sealL]
  have ht : (sealL l).take l.length = l := by simp [sealL]
  unfold openB
  rw [h, Nat.add_sub_cancel, ht]
  simp [sealL]
/-- What was framed is opened as it was. -/
theorem openR_frame {j : Nat} {id u : Int} {p : List Int} (h1 : 1 ≤ p.length) (h2 : p.length ≤ 253) : openR j (frameL j id u p) = some (if j < 2 then 0 else id, u, p) := by
  unfold openR frameL
  by_cases hj : j < 2
  · rw [if_pos hj, if_pos hj, if_pos hj]
    have hr : rtuL u p = sealL (u :: p) := by unfold rtuL; rw [if_pos ⟨h1, h2⟩]
    have hlen : (sealL (u :: p)).length = p.length + 3 := by simp [sealL]
    have hok : rtuOk (sealL (u :: p)) = true := by
      unfold rtuOk
      rw [sealL_open, hlen]
      simp; omega
    rw [hr, if_pos hok, hlen]
    have ht : (sealL (u :: p)).take (p.length + 3 - 2) = u :: p := by
      rw [show p.length + 3 - 2 = (u :: p).length from by simp]
      simp [sealL]
    rw [ht]
    simp [sealL]
  · rw [if_neg hj, if_neg hj, if_neg hj]
    have hm : mbapL id u p = mbapHead id u p.length ++ p := by unfold mbapL; rw [if_pos ⟨h1, h2⟩]
    have hlen : (mbapHead id u p.length ++ p).length = 7 + p.length := by simp [mbapHead]; omega
    have hf : firstR (mbapHead id u p.length ++ p) = (id, u, p, 7 + p.length, 0) := by
      rw [firstR_long (m := 1 + p.length) (by simp [mbapHead]) (by simp [mbapHead]) (by rw [hlen]; omega) (by simp [mbapHead])]
      rw [if_neg (by omega), if_neg (by rw [hlen]; omega)]
      simp [mbapHead]
      omega
    rw [hm, hf]
    simp only
    rw [if_pos ⟨trivial, hlen.symm, by omega⟩]
/-- What a bank does of a right request's bytes. -/
theorem serve_put {fc ad qt to : Int} {xs : List Int} (h : rightB' fc ad qt to xs = true) (hr : ∀ j : Nat, 0 ≤ xs[j]?.getD 0 ∧ xs[j]?.getD 0 ≤ 65535) (L : Nat → List Int) :
    serveY L (putL fc ad qt to xs) = rputL fc ad qt to xs (doC L fc ad qt to xs) (doY L fc ad qt to xs) ∧ serveL L (putL fc ad qt to xs) = doL L fc ad qt to xs := by
  have h1 := (put_get fc ad qt to xs h hr).1
  unfold serveY serveL
  rw [h1]
  exact ⟨if_neg (by simp), if_neg (by simp)⟩
theorem put_len {fc ad qt to : Int} {xs : List Int} (h : rightB' fc ad qt to xs = true) : 1 ≤ (putL fc ad qt to xs).length ∧ (putL fc ad qt to xs).length ≤ 253 :=
  ⟨(put_length fc ad qt to xs).1.1 h, (put_length fc ad qt to xs).2⟩
/-- A right request, framed, asked of a device that is there. -/
theorem ask_framed {dev : List (Int × Int)} {F : Fp} {j i : Nat} {id u fc ad qt to now : Int} {xs : List Int} (h : rightB' fc ad qt to xs = true) (hr : ∀ j : Nat, 0 ≤ xs[j]?.getD 0 ∧ xs[j]?.getD 0 ≤ 65535) (hd : devAt dev j u = some i) :
    askJ dev F j (frameL j id u (putL fc ad qt to xs)) now = if (nextX (F.W j)).1 = 1 then tookF F j else
      if (nextX (F.W j)).1 = 2 then { tookF F j with L := upf F.L i (doL (F.L i) fc ad qt to xs) } else
      answF { tookF F j with L := upf F.L i (doL (F.L i) fc ad qt to xs) } j (nextX (F.W j)) id u now (rputL fc ad qt to xs (doC (F.L i) fc ad qt to xs) (doY (F.L i) fc ad qt to xs)) := by
  obtain ⟨p1, p2⟩ := put_len h
  obtain ⟨s1, s2⟩ := serve_put h hr (F.L i)
  unfold askJ
  rw [openR_frame p1 p2]
  simp only
  rw [hd]
  simp only
  have e : doneF (tookF F j) i (putL fc ad qt to xs) = { tookF F j with L := upf F.L i (doL (F.L i) fc ad qt to xs) } := by
    unfold doneF
    show ({ tookF F j with L := upf F.L i (serveL (F.L i) (putL fc ad qt to xs)) } : Fp) = _
    rw [s2]
  rw [e, s1]
  congr 2
  unfold answF
  by_cases hj : j < 2
  · have hf : ∀ a b : Int, ∀ ys, frameL j a u ys = frameL j b u ys := fun a b ys => by unfold frameL; rw [if_pos hj, if_pos hj]
    rw [if_pos hj, hf 0 id]
  · rw [if_neg hj]
end Go.Proofs.Ytgagpalffdgjnaa
namespace Go.Proofs.Ytgagpalffdgjnaa
open Go.RowKit

section
variable {w : World} {A : Option Addr} {n c : Nat} {xs : List Int}
set_option maxRecDepth 100000 in
theorem framed_any (j : Nat) (id u fc ad qt to : Int) (hid : 0 ≤ id ∧ id ≤ 65535) (hu : 0 ≤ u ∧ u ≤ 255) (hx : RdI w w.heap.size .u16 A n xs) (hr : ∀ j : Nat, 0 ≤ xs[j]?.getD 0 ∧ xs[j]?.getD 0 ≤ 65535) (hn : n ≤ maxLen) :
    Calls Try.prog 30 #[.int .i64 (j : Int), .int .u16 id, .int .u8 u, .agg #[.int .i64 fc, .int .i64 ad, .int .i64 qt, .slice A n c, .int .i64 to]] w (FreshI .u8 (frameL j id u (putL fc ad qt to xs)) w) := by
  have E0 : Ext w (w.alloc (.cells #[.int .i64 fc, .int .i64 ad, .int .i64 qt, .slice A n c, .int .i64 to] 30)) := (Ext.refl w).goA _
  have hput := refPut_any fc ad qt to A n c xs _ (hx.ext E0) hr hn
  have P0 := heap_alloc_new w (.cells #[.int .i64 fc, .int .i64 ad, .int .i64 qt, .slice A n c, .int .i64 to] 30)
  have c0 : (w.alloc (.cells #[.int .i64 fc, .int .i64 ad, .int .i64 qt, .slice A n c, .int .i64 to] 30)).cell? ⟨w.heap.size, 0, none⟩ = some (.int .i64 fc) := cellsAt P0 0
  have c1 : (w.alloc (.cells #[.int .i64 fc, .int .i64 ad, .int .i64 qt, .slice A n c, .int .i64 to] 30)).cell? ⟨w.heap.size, 1, none⟩ = some (.int .i64 ad) := cellsAt P0 1
  have c2 : (w.alloc (.cells #[.int .i64 fc, .int .i64 ad, .int .i64 qt, .slice A n c, .int .i64 to] 30)).cell? ⟨w.heap.size, 2, none⟩ = some (.int .i64 qt) := cellsAt P0 2
  have c3 : (w.alloc (.cells #[.int .i64 fc, .int .i64 ad, .int .i64 qt, .slice A n c, .int .i64 to] 30)).cell? ⟨w.heap.size, 3, none⟩ = some (.slice A n c) := cellsAt P0 3
  have c4 : (w.alloc (.cells #[.int .i64 fc, .int .i64 ad, .int .i64 qt, .slice A n c, .int .i64 to] 30)).cell? ⟨w.heap.size, 4, none⟩ = some (.int .i64 to) := cellsAt P0 4
  have hb := putL_bytes fc ad qt to xs
  have hpl : (putL fc ad qt to xs).length ≤ 253 := (put_length fc ad qt to xs).2
  have hf1 : j < 2 → frameL j id u (putL fc ad qt to xs) = rtuL u (putL fc ad qt to xs) := fun h => if_pos h
  have hf2 : ¬ j < 2 → frameL j id u (putL fc ad qt to xs) = mbapL id u (putL fc ad qt to xs) := fun h => if_neg h
  have hf1' := Lib.hid hf1
  have hf2' := Lib.hid hf2
  have hb' := Lib.hid hb
  have E0' := Lib.hid E0
  generalize putL fc ad qt to xs = pl at *
  clear hx P0 hb hf1 hf2 E0
  by_cases hj : j < 2
  · have d1 : decide ((j : Int) < 2) = true := by simp; omega
    go_enter Try.func30, Try.ntmps30
    go_wp2_with fail
    refine hput.mono ?_
    rintro e w1 ⟨A1, n1, c1', rfl, g1, g2, r1, E1⟩
    have hr1 := r1.len
    go_wp2_with fail
    refine (ref02Put_any u A1 n1 c1' pl w1 hu.1 hu.2 r1 hb'.out (by omega)).mono ?_
    intro e w2 h2
    obtain ⟨A2, n2, c2', rfl, k1, k2, k3, k4, k5⟩ := h2.from_ (E0'.out.go E1)
    go_wp2_with fail
    go_ret
    rw [hf1'.out hj]
    exact ⟨A2, n2, c2', rfl, k1, k2, k3, k4, k5⟩
  · have d1 : decide ((j : Int) < 2) = false := by simp; omega
    go_enter Try.func30, Try.ntmps30
    go_wp2_with fail
    refine hput.mono ?_
    rintro e w1 ⟨A1, n1, c1', rfl, g1, g2, r1, E1⟩
    have hr1 := r1.len
    go_wp2_with fail
    refine (ref03Put_any id u A1 n1 c1' pl w1 hid.1 hid.2 r1 (by omega)).mono ?_
    intro e w2 h2
    obtain ⟨A2, n2, c2', rfl, k1, k2, k3, k4, k5⟩ := h2.from_ (E0'.out.go E1)
    go_wp2_with fail
    go_ret
    rw [hf2'.out hj]
    exact ⟨A2, n2, c2', rfl, k1, k2, k3, k4, k5⟩
end
end Go.Proofs.Ytgagpalffdgjnaa
namespace Go.Proofs.Ytgagpalffdgjnaa
open Go.RowKit

section
variable {w w' : World} {T U T' : Nat → Prop} {f : Nat} {dev : List (Int × Int)} {F : Fp} {v : Value} {bs : List (List Int)} {base : Nat}
theorem OutAt.left (h : OutAt w T base v bs) (m : Mod T w w') (g : Grew w T T') : OutAt w' T' base v bs := by
  obtain ⟨rs, e, hrow, hok, hoff⟩ := h
  refine ⟨rs, e, own_keep24 hrow fun b hb => m.block b (own_is hrow hb).lt (hoff b hb), fun r hr => ?_, fun b hb ht => ?_⟩
  · have h1 := hok r hr
    refine ⟨h1.rd.modS h1.off m, h1.nc, h1.cm, fun hn b o e ht => ?_⟩
    rcases g b ht with h2 | h2
    · exact h1.off hn b o e h2
    · have := h1.rd.lt_of hn e; omega
  · rcases g b ht with h2 | h2
    · exact hoff b hb h2
    · have := (own_is hrow hb).lt; omega
theorem OutAt.ext (h : OutAt w T base v bs) (E : Ext w w') : OutAt w' T base v bs := by
  obtain ⟨rs, e, hrow, hok, hoff⟩ := h
  exact ⟨rs, e, own_keep24 hrow fun b hb => E.block b (own_is hrow hb).lt, fun r hr => ⟨(hok r hr).rd.ext E, (hok r hr).nc, (hok r hr).cm, (hok r hr).off⟩, hoff⟩
theorem OutAt.shape (h : OutAt w T base v bs) : ∃ A c, v = .slice A bs.length c ∧ bs.length ≤ c ∧ c ≤ maxLen := by
  obtain ⟨rs, e, hrow, _⟩ := h
  obtain ⟨A, c, e2, h1, h2⟩ := (RowAt.of_own hrow).shape
  have : rs.length = bs.length := by rw [e, List.length_map]
  rw [this] at e2 h1
  exact ⟨A, c, e2, h1, h2⟩
/-- An answer that came. -/
theorem OutAt.at_ (h : OutAt w T base v bs) {k : Nat} (hk : k < bs.length) : ∃ b c A n c', v = .slice (some ⟨b, 0, none⟩) bs.length c ∧ w.cell? ⟨b, k, none⟩ = some (.slice A n c') ∧ n ≤ c' ∧ c' ≤ maxLen ∧ RdI w w.heap.size .u8 A n bs[k] := by
  obtain ⟨rs, e, hrow, hok, _⟩ := h
  have hl : rs.length = bs.length := by rw [e, List.length_map]
  rcases hrow.2 with ⟨_, h0⟩ | ⟨g, cap, cur, hv, _, _, _⟩
  · omega
  · subst hv
    have hkr : k < rs.length := by omega
    have hc := hrow.cellAt k (by omega)
    rw [List.getElem?_map, List.getElem?_eq_getElem hkr] at hc
    have h1 := hok rs[k] (List.getElem_mem hkr)
    have hb : bs[k] = (rs[k]).b := by simp [e]
    refine ⟨g, cap, (rs[k]).A, (rs[k]).n, (rs[k]).c, by rw [hl], hc, h1.nc, h1.cm, ?_⟩
    rw [hb]
    exact h1.rd
theorem fresh_off (h : HasFd w T U f dev F) {A : Option Addr} (n : Nat) (hf : ∀ b o, A = some ⟨b, o, none⟩ → w.heap.size ≤ b) : OffB T A n := fun _ b o e hb => by
  have := h.ltT hb; have := hf b o e; omega
end
theorem sealL_bytes {l : List Int} (h : ByteL l) : ByteL (sealL l) := by
  have hc := crcOf_lt h
  refine rng_of (by omega) (by omega) fun y hy => ?_
  unfold sealL at hy
  rcases List.mem_append.1 hy with hy | hy
  · obtain ⟨j, hj, rfl⟩ := List.getElem_of_mem hy
    have := h j
    rw [List.getElem?_eq_getElem hj] at this
    exact this
  · simp only [List.mem_cons, List.not_mem_nil, or_false] at hy
    rcases hy with rfl | rfl <;> omega
theorem frame_bytes {j : Nat} (id : Int) {u : Int} {p : List Int} (hid : 0 ≤ id ∧ id ≤ 65535) (hu : 0 ≤ u ∧ u ≤ 255) (h : ByteL p) : ByteL (frameL j id u p) := by
  unfold frameL rtuL mbapL
  split
  · split
    · exact sealL_bytes (h.cons hu.1 hu.2)
    · exact fun j => by simp
  · split
    · rename_i hl
      refine rng_of (by omega) (by omega) fun y hy => ?_
      rcases List.mem_append.1 hy with hy | hy
      · unfold mbapHead at hy
        simp only [List.mem_cons, List.not_mem_nil, or_false] at hy
        rcases hy with rfl | rfl | rfl | rfl | rfl | rfl | rfl <;> omega
      · obtain ⟨j, hj, rfl⟩ := List.getElem_of_mem hy
        have := h j
        rw [List.getElem?_eq_getElem hj] at this
        exact this
    · exact fun j => by simp
/-- A field that lies in memory that was not there in w0. -/
def FdIn (w0 w : World) (T : Nat → Prop) (f : Nat) (dev : List (Int × Int)) (F : Fp) : Prop := ∃ U, HasFd w T U f dev F ∧ Ext w0 w ∧ ∀ b, U b → w0.heap.size ≤ b
/-- What a call has left. -/
def Went (w0 w w' : World) (T : Nat → Prop) (f : Nat) (dev : List (Int × Int)) (F' : Fp) : Prop := ∃ T', FdIn w0 w' T' f dev F' ∧ Mod T w w' ∧ Grew w T T'
section
variable {w0 w w' : World} {T U : Nat → Prop} {f : Nat} {dev : List (Int × Int)} {F F' : Fp}
theorem FdIn.ext (h : FdIn w0 w T f dev F) (E : Ext w w') : FdIn w0 w' T f dev F := let ⟨U, h1, h2, h3⟩ := h; ⟨U, h1.ext E, h2.go E, h3⟩
theorem FdIn.world (h : FdIn w0 w T f dev F) : Ext w0 w := let ⟨_, _, h2, _⟩ := h; h2
theorem FdIn.up (h : FdIn w0 w T f dev F) {b : Nat} (hb : T b) : w0.heap.size ≤ b := let ⟨_, h1, _, h3⟩ := h; h3 b (h1.sub hb)
theorem FdIn.lt (h : FdIn w0 w T f dev F) {b : Nat} (hb : T b) : b < w.heap.size := let ⟨_, h1, _, _⟩ := h; h1.ltT hb
theorem FdIn.off (h : FdIn w0 w T f dev F) {A : Option Addr} (n : Nat) (hf : ∀ b o, A = some ⟨b, o, none⟩ → w.heap.size ≤ b) : OffB T A n := let ⟨_, h1, _, _⟩ := h; fresh_off h1 n hf
/-- What is older than the field lies off it. -/
theorem FdIn.old (h : FdIn w0 w T f dev F) {A : Option Addr} (n : Nat) (hf : ∀ b o, A = some ⟨b, o, none⟩ → b < w0.heap.size) : OffB T A n := fun _ b o e hb => by
  have := h.up hb; have := hf b o e; omega
theorem FdIn.went (h1 : HasFd w T U f dev F) (h2 : Ext w0 w) (h3 : ∀ b, U b → w0.heap.size ≤ b) (L : Left w w' T U f dev F') : Went w0 w w' T f dev F' := by
  obtain ⟨T', U', k1, k2, k3, k4⟩ := L
  refine ⟨T', ⟨U', k1, h2.goM k2 (fun b hb => h3 b (h1.sub hb)), fun b hb => ?_⟩, k2, k3⟩
  rcases k4 b hb with h | h
  · exact h3 b h
  · have := h2.size; omega
theorem newIn (A : Option Addr) (n c : Nat) (dev : List (Int × Int)) (w : World) (hx : RdDv w A n dev) (hn : n ≤ 1000) (hc : n ≤ c) :
    Calls Try.prog 23 #[.slice A n c] w fun e w' => ∃ f T, e = .returned (.pointer (some ⟨f, 0, none⟩)) ∧ FdIn w w' T f dev newF := by
  refine (newIs A n c dev w hx hn hc).mono ?_
  rintro e w' ⟨f, T, U, rfl, h1, h2, h3⟩
  exact ⟨f, T, rfl, U, h1, h2, h3⟩
theorem setIn (h : FdIn w0 w T f dev F) (i k v : Int) :
    Calls Try.prog 26 #[.pointer (some ⟨f, 0, none⟩), .int .i64 i, .int .i64 k, .int .i64 v] w fun e w' => e = .returned (.bool (setOk dev F i k)) ∧ FdIn w0 w' T f dev (setF dev F i k v) ∧ Mod T w w' := by
  obtain ⟨U, h1, h2, h3⟩ := h
  refine (setIs h1 i k v).mono ?_
  rintro e w' ⟨rfl, k1, k2⟩
  exact ⟨rfl, ⟨U, k1, h2.goM k2 (fun b hb => h3 b (h1.sub hb)), h3⟩, k2⟩
theorem faultIn (h : FdIn w0 w T f dev F) (l k n : Int) :
    Calls Try.prog 28 #[.pointer (some ⟨f, 0, none⟩), .int .i64 l, .int .i64 k, .int .i64 n] w fun e w' => e = .returned (.bool (faultOk F l k n)) ∧ Went w0 w w' T f dev (faultF F l k n) := by
  obtain ⟨U, h1, h2, h3⟩ := h
  refine (faultIs h1 l k n).mono ?_
  rintro e w' ⟨rfl, L⟩
  exact ⟨rfl, FdIn.went h1 h2 h3 L⟩
theorem waitsIn (h : FdIn w0 w T f dev F) (l : Int) :
    Calls Try.prog 39 #[.pointer (some ⟨f, 0, none⟩), .int .i64 l] w fun e w' => e = .returned (.int .i64 (waitsF F l : Int)) ∧ w = w' := let ⟨_, h1, _, _⟩ := h; waitsIs h1 l
theorem coilIn (h : FdIn w0 w T f dev F) (i k : Int) :
    Calls Try.prog 35 #[.pointer (some ⟨f, 0, none⟩), .int .i64 i, .int .i64 k] w fun e w' => e = .returned (.tuple #[.int .i64 (coilF dev F i k), .bool (coilOk dev F i k)]) ∧ w = w' := let ⟨_, h1, _, _⟩ := h; coilIs h1 i k
theorem askIn (h : FdIn w0 w T f dev F) {N : Nat} (hok : FOk F N) (hN : N ≤ 1000000) {A : Option Addr} {n c : Nat} {l : List Int} (hx : RdI w w.heap.size .u8 A n l) (hoff : OffB T A n) (hl : ByteL l) (hnc : n ≤ c) (hcm : c ≤ maxLen) (hn : n ≤ 1000000) (line now : Int) :
    Calls Try.prog 29 #[.pointer (some ⟨f, 0, none⟩), .int .i64 line, .slice A n c, .int .i64 now] w fun e w' => e = .returned (.tuple #[]) ∧ Went w0 w w' T f dev (askF dev F line l now) := by
  obtain ⟨U, h1, h2, h3⟩ := h
  refine (askIs h1 hok hN hx hoff hl hnc hcm hn line now).mono ?_
  rintro e w' ⟨rfl, L⟩
  exact ⟨rfl, FdIn.went h1 h2 h3 L⟩
theorem dueIn (h : FdIn w0 w T f dev F) {N : Nat} (hok : FOk F N) (hN : N ≤ 1000000) (l now : Int) :
    Calls Try.prog 31 #[.pointer (some ⟨f, 0, none⟩), .int .i64 l, .int .i64 now] w fun e w' => ∃ v T', e = .returned v ∧ FdIn w0 w' T' f dev (dueF F l now) ∧ Mod T w w' ∧ Grew w T T' ∧ OutAt w' T' w.heap.size v (dueB F l now) := by
  obtain ⟨U, h1, h2, h3⟩ := h
  refine (dueIs h1 hok hN l now).mono ?_
  rintro e w' ⟨v, T', U', rfl, k1, k2, k3, k4, k5⟩
  refine ⟨v, T', rfl, ⟨U', k1, h2.goM k2 (fun b hb => h3 b (h1.sub hb)), fun b hb => ?_⟩, k2, k3, k5⟩
  rcases k4 b hb with h | h
  · exact h3 b h
  · have := h2.size; omega
end
/-- The states that the head comes through. -/
def hDev : List (Int × Int) := [(0, 3), (2, 3)]
def hF1 : Fp := setF hDev newF 0 5 9
def hF2 : Fp := askF hDev hF1 0 (frameL 0 0 3 (putL 2 5 1 0 [])) 7
def hF3 : Fp := dueF hF2 0 7
def hF4 : Fp := dueF hF3 0 8
def hF5 : Fp := faultF hF4 2 4 4
def hF6 : Fp := askF hDev hF5 2 (frameL 2 9 3 (putL 5 1 0 0 [1])) 10
def hF7 : Fp := dueF hF6 2 14
def hF8 : Fp := dueF hF7 2 15
def hF9 : Fp := faultF hF8 0 1 0
def hF10 : Fp := askF hDev hF9 0 (frameL 0 0 3 (putL 5 0 0 0 [1])) 20
theorem head_set : setOk hDev newF 0 5 = true := by decide +kernel
theorem head_due1 : dueB hF2 0 7 = [] := by decide +kernel
theorem head_due2 : dueB hF3 0 8 = [rtuL 3 [2, 1, 1]] := by decide +kernel
theorem head_fault : faultOk hF4 2 4 4 = true := by decide +kernel
theorem head_waits : waitsF hF6 2 = 1 := by decide +kernel
theorem head_coil1 : coilF hDev hF6 1 1 = 1 ∧ coilOk hDev hF6 1 1 = true := by decide +kernel
theorem head_coil2 : coilF hDev hF6 0 1 = 0 := by decide +kernel
theorem head_due3 : dueB hF6 2 14 = [] := by decide +kernel
theorem head_due4 : dueB hF7 2 15 = [frameL 2 9 3 (putL 5 1 0 0 [1])] := by decide +kernel
theorem head_coil3 : coilF hDev hF10 0 0 = 0 := by decide +kernel
theorem head_none : waitsF hF10 0 = 0 := by decide +kernel
theorem head_nofault : faultOk hF10 4 1 0 = false := by decide +kernel
end Go.Proofs.Ytgagpalffdgjnaa
