/- Layer 24: two fields beside each other; the comparison of answers. -/
import Derived.Test.YtgagpalffdgjnaaFieldP
import Derived.Test.YtgagpalffdgjnaaTk
namespace Go.Proofs.Ytgagpalffdgjnaa
open Go.RowKit

theorem RdDv.ext {w w' : World} {A : Option Addr} {n : Nat} {dev : List (Int × Int)} (h : RdDv w A n dev) (E : Ext w w') : RdDv w' A n dev :=
  ⟨h.1, fun k hk => by
    obtain ⟨b, o, s, e, hb, h1, h2, h3, h4⟩ := h.2 k hk
    exact ⟨b, o, s, e, Nat.lt_of_lt_of_le hb E.size, (E.cell _ hb).trans h1, (E.cell _ hb).trans h2, (E.cell _ hb).trans h3, h4⟩⟩
/-- Two fields that share nothing, in memory that was not there in w0. -/
structure TwoAt (w0 w : World) (T U S V : Nat → Prop) (f g : Nat) (dev : List (Int × Int)) (F G : Fp) : Prop where
  hf : HasFd w T U f dev F
  hg : HasFd w S V g dev G
  tv : ∀ b, T b → ¬ V b
  su : ∀ b, S b → ¬ U b
  old : Ext w0 w
  uu : ∀ b, U b → w0.heap.size ≤ b
  vv : ∀ b, V b → w0.heap.size ≤ b
def Two (w0 w : World) (f g : Nat) (dev : List (Int × Int)) (F G : Fp) : Prop := ∃ T U S V, TwoAt w0 w T U S V f g dev F G
section
variable {w0 w1 w w' : World} {T U S V T' U' : Nat → Prop} {f g : Nat} {dev : List (Int × Int)} {F G F' : Fp}
theorem TwoAt.swap (h : TwoAt w0 w T U S V f g dev F G) : TwoAt w0 w S V T U g f dev G F := ⟨h.hg, h.hf, h.su, h.tv, h.old, h.vv, h.uu⟩
theorem TwoAt.ext (h : TwoAt w0 w T U S V f g dev F G) (E : Ext w w') : TwoAt w0 w' T U S V f g dev F G := ⟨h.hf.ext E, h.hg.ext E, h.tv, h.su, h.old.go E, h.uu, h.vv⟩
theorem TwoAt.turn (h : TwoAt w0 w T U S V f g dev F G) (k1 : HasFd w' T' U' f dev F') (k2 : Mod T w w') (k3 : Grew w T T') (k4 : Grew w U U') : TwoAt w0 w' T' U' S V f g dev F' G := by
  refine ⟨k1, h.hg.modS k2 (fun b hb ht => h.tv b ht hb), fun b ht hv => ?_, fun b hs hu => ?_, h.old.goM k2 (fun b hb => h.uu b (h.hf.sub hb)), fun b hb => ?_, h.vv⟩
  · rcases k3 b ht with h1 | h1
    · exact h.tv b h1 hv
    · have := h.hg.lt hv; omega
  · rcases k4 b hu with h1 | h1
    · exact h.su b hs h1
    · have := h.hg.ltT hs; omega
  · rcases k4 b hb with h1 | h1
    · exact h.uu b h1
    · have := h.old.size; omega
theorem Two.swap (h : Two w0 w f g dev F G) : Two w0 w g f dev G F := let ⟨T, U, S, V, h⟩ := h; ⟨S, V, T, U, h.swap⟩
theorem Two.ext (h : Two w0 w f g dev F G) (E : Ext w w') : Two w0 w' f g dev F G := let ⟨T, U, S, V, h⟩ := h; ⟨T, U, S, V, h.ext E⟩
theorem Two.world (h : Two w0 w f g dev F G) : Ext w0 w := let ⟨_, _, _, _, h⟩ := h; h.old
theorem TwoAt.two (h : TwoAt w0 w T U S V f g dev F G) : Two w0 w f g dev F G := ⟨T, U, S, V, h⟩
theorem Two.left (h : TwoAt w0 w T U S V f g dev F G) (L : Left w w' T U f dev F') : Two w0 w' f g dev F' G := by
  obtain ⟨T', U', k1, k2, k3, k4⟩ := L
  exact ⟨_, _, _, _, h.turn k1 k2 k3 k4⟩
theorem Two.make (h1 : HasFd w1 T U f dev F) (E1 : Ext w0 w1) (u1 : ∀ b, U b → w0.heap.size ≤ b) (h2 : HasFd w S V g dev G) (E2 : Ext w1 w) (u2 : ∀ b, V b → w1.heap.size ≤ b) : Two w0 w f g dev F G := by
  have h3 := E1.size
  refine ⟨T, U, S, V, h1.ext E2, h2, fun b ht hv => ?_, fun b hs hu => ?_, E1.go E2, u1, fun b hb => ?_⟩
  · have := h1.ltT ht; have := u2 b hv; omega
  · have := h1.lt hu; have := u2 b (h2.sub hs); omega
  · have := u2 b hb; omega
/-- A block of neither field. -/
structure QAt (w : World) (U V : Nat → Prop) (q : Nat) (o : Obj) : Prop where
  at_ : w.heap[q]? = some o
  ou : ¬ U q
  ov : ¬ V q
theorem QAt.swap {q : Nat} {o : Obj} (h : QAt w U V q o) : QAt w V U q o := ⟨h.at_, h.ov, h.ou⟩
theorem QAt.turn {q : Nat} {o : Obj} (h : QAt w U V q o) (k2 : Mod T w w') (hT : ∀ b, T b → U b) (k4 : Grew w U U') : QAt w' U' V q o := by
  have hl := lt_of_block h.at_
  refine ⟨(k2.block q hl (fun ht => h.ou (hT q ht))).trans h.at_, fun hu => ?_, h.ov⟩
  rcases k4 q hu with h1 | h1
  · exact h.ou h1
  · omega
def TwoQ (w0 w : World) (f g : Nat) (dev : List (Int × Int)) (F G : Fp) (q : Nat) (o : Obj) : Prop := ∃ T U S V, TwoAt w0 w T U S V f g dev F G ∧ QAt w U V q o
section
variable {q : Nat} {o : Obj}
theorem TwoQ.two (h : TwoQ w0 w f g dev F G q o) : Two w0 w f g dev F G := let ⟨T, U, S, V, h, _⟩ := h; ⟨T, U, S, V, h⟩
theorem TwoQ.at_ (h : TwoQ w0 w f g dev F G q o) : w.heap[q]? = some o := let ⟨_, _, _, _, _, h⟩ := h; h.at_
theorem TwoQ.swap (h : TwoQ w0 w f g dev F G q o) : TwoQ w0 w g f dev G F q o := let ⟨T, U, S, V, h, k⟩ := h; ⟨S, V, T, U, h.swap, k.swap⟩
theorem Two.new (h : Two w0 w f g dev F G) (cs : Array Value) (t : TypeId) : TwoQ w0 (w.alloc (.cells cs t)) f g dev F G w.heap.size (.cells cs t (0, 0)) := by
  obtain ⟨T, U, S, V, h⟩ := h
  exact ⟨T, U, S, V, h.ext ((Ext.refl w).goA _), heap_alloc_new w _, fun hu => by have := h.hf.lt hu; omega, fun hv => by have := h.hg.lt hv; omega⟩
theorem TwoQ.left (h : TwoAt w0 w T U S V f g dev F G) (k : QAt w U V q o) (L : Left w w' T U f dev F') : TwoQ w0 w' f g dev F' G q o := by
  obtain ⟨T', U', k1, k2, k3, k4⟩ := L
  exact ⟨_, _, _, _, h.turn k1 k2 k3 k4, k.turn k2 (fun b hb => h.hf.sub hb) k4⟩
theorem setTwo (h : TwoQ w0 w f g dev F G q o) (i k v : Int) :
    Calls Try.prog 26 #[.pointer (some ⟨f, 0, none⟩), .int .i64 i, .int .i64 k, .int .i64 v] w fun e w' => e = .returned (.bool (setOk dev F i k)) ∧ TwoQ w0 w' f g dev (setF dev F i k v) G q o := by
  obtain ⟨T, U, S, V, h, hq⟩ := h
  refine (setIs h.hf i k v).mono ?_
  rintro e w' ⟨rfl, k1, k2⟩
  exact ⟨rfl, TwoQ.left h hq ⟨_, _, k1, k2, Grew.refl _ _, Grew.refl _ _⟩⟩
theorem faultTwo (h : TwoQ w0 w f g dev F G q o) (l k n : Int) :
    Calls Try.prog 28 #[.pointer (some ⟨f, 0, none⟩), .int .i64 l, .int .i64 k, .int .i64 n] w fun e w' => e = .returned (.bool (faultOk F l k n)) ∧ TwoQ w0 w' f g dev (faultF F l k n) G q o := by
  obtain ⟨T, U, S, V, h, hq⟩ := h
  refine (faultIs h.hf l k n).mono ?_
  rintro e w' ⟨rfl, L⟩
  exact ⟨rfl, TwoQ.left h hq L⟩
theorem waitsTwo (h : Two w0 w f g dev F G) (l : Int) :
    Calls Try.prog 39 #[.pointer (some ⟨f, 0, none⟩), .int .i64 l] w fun e w' => e = .returned (.int .i64 (waitsF F l : Int)) ∧ w = w' := let ⟨_, _, _, _, h⟩ := h; waitsIs h.hf l
theorem coilTwo (h : Two w0 w f g dev F G) (i k : Int) :
    Calls Try.prog 35 #[.pointer (some ⟨f, 0, none⟩), .int .i64 i, .int .i64 k] w fun e w' => e = .returned (.tuple #[.int .i64 (coilF dev F i k), .bool (coilOk dev F i k)]) ∧ w = w' := let ⟨_, _, _, _, h⟩ := h; coilIs h.hf i k
theorem askTwo (h : TwoQ w0 w f g dev F G q o) {N : Nat} (hok : FOk F N) (hN : N ≤ 1000000) {A : Option Addr} {n c : Nat} {l : List Int} (hx : RdI w0 w0.heap.size .u8 A n l) (hl : ByteL l) (hnc : n ≤ c) (hcm : c ≤ maxLen) (hn : n ≤ 1000000) (line now : Int) :
    Calls Try.prog 29 #[.pointer (some ⟨f, 0, none⟩), .int .i64 line, .slice A n c, .int .i64 now] w fun e w' => e = .returned (.tuple #[]) ∧ TwoQ w0 w' f g dev (askF dev F line l now) G q o := by
  obtain ⟨T, U, S, V, h, hq⟩ := h
  refine (askIs h.hf hok hN (hx.ext h.old) (fun hn b o e ht => ?_) hl hnc hcm hn line now).mono ?_
  · have := h.uu b (h.hf.sub ht); have := hx.lt_of hn e; omega
  · rintro e w' ⟨rfl, L⟩
    exact ⟨rfl, TwoQ.left h hq L⟩
/-- Due of the one: its answers lie off what the other may turn. -/
def DueQ (w0 w : World) (f g : Nat) (dev : List (Int × Int)) (F G : Fp) (q : Nat) (o : Obj) (v : Value) (bs : List (List Int)) : Prop := ∃ T U S V b, TwoAt w0 w T U S V f g dev F G ∧ QAt w U V q o ∧ OutAt w S b v bs
theorem DueQ.toQ {v : Value} {bs : List (List Int)} (h : DueQ w0 w f g dev F G q o v bs) : TwoQ w0 w f g dev F G q o := let ⟨T, U, S, V, _, h, k, _⟩ := h; ⟨T, U, S, V, h, k⟩
theorem dueTwo (h : TwoQ w0 w f g dev F G q o) {N : Nat} (hok : FOk F N) (hN : N ≤ 1000000) (l now : Int) :
    Calls Try.prog 31 #[.pointer (some ⟨f, 0, none⟩), .int .i64 l, .int .i64 now] w fun e w' => ∃ v, e = .returned v ∧ DueQ w0 w' f g dev (dueF F l now) G q o v (dueB F l now) := by
  obtain ⟨T, U, S, V, h, hq⟩ := h
  refine (dueIsOff h.hf hok hN l now).mono ?_
  rintro e w' ⟨v, T', U', rfl, k1, k2, k3, k4, k5⟩
  exact ⟨v, rfl, T', U', S, V, _, h.turn k1 k2 k3 k4, hq.turn k2 (fun b hb => h.hf.sub hb) k4, k5.weak fun b hb => .inr ⟨h.hg.ltT hb, h.su b hb⟩⟩
/-- Due of the other: the answers of the one stand. -/
def DueTwo (w0 w : World) (f g : Nat) (dev : List (Int × Int)) (F G : Fp) (v v2 : Value) (bs bs2 : List (List Int)) : Prop := Two w0 w f g dev F G ∧ ∃ S1 b1 S2 b2, OutAt w S1 b1 v bs ∧ OutAt w S2 b2 v2 bs2
theorem dueTwo2 {v : Value} {bs : List (List Int)} (h : DueQ w0 w f g dev F G q o v bs) {N : Nat} (hok : FOk G N) (hN : N ≤ 1000000) (l now : Int) :
    Calls Try.prog 31 #[.pointer (some ⟨g, 0, none⟩), .int .i64 l, .int .i64 now] w fun e w' => ∃ v2, e = .returned v2 ∧ DueTwo w0 w' f g dev F (dueF G l now) v v2 bs (dueB G l now) := by
  obtain ⟨T, U, S, V, b, h, hq, ho⟩ := h
  refine (dueIsOff h.hg hok hN l now).mono ?_
  rintro e w' ⟨v2, S', V', rfl, k1, k2, k3, k4, k5⟩
  exact ⟨v2, rfl, (h.swap.turn k1 k2 k3 k4).swap.two, _, _, _, _, ho.left k2 k3, k5⟩
end
end
section
variable {w : World} {T S : Nat → Prop} {b1 b2 : Nat} {v1 v2 : Value} {xs : List (List Int)}
set_option maxRecDepth 100000 in
set_option maxHeartbeats 3200000 in
theorem same24_any (hx : OutAt w T b1 v1 xs) (hy : OutAt w S b2 v2 xs) :
    Calls Try.prog 38 #[v1, v2] w fun e w' => e = .returned (.bool true) ∧ Ext w w' := by
  obtain ⟨A1, c1, rfl, h1, h2⟩ := hx.shape
  obtain ⟨A2, c2, rfl, h3, h4⟩ := hy.shape
  have hx' := Lib.hid hx
  have hy' := Lib.hid hy
  clear hx hy
  obtain ⟨n1, hn1⟩ : ∃ n1, xs.length = n1 := ⟨_, rfl⟩
  rw [hn1] at h1 h3 ⊢
  have hn1' := Lib.hid hn1
  clear hn1
  go_enter Try.func38, Try.ntmps38
  go_wp2_with fail
  go_loopw [5] (fun i wr => ∃ k : Nat, k ≤ n1 ∧ i = .int .i64 k ∧ Ext w wr) (fun i _ => n1 - (intOf i).toNat)
  case atStart => exact ⟨0, by omega, rfl, Ext.refl w⟩
  case round =>
    obtain ⟨k, hk, rfl, E⟩ := hrel
    by_cases hkn : k < n1
    · have e1 : decide ((k : Int) < (n1 : Int)) = true := by simp; omega
      have e2 : (k : Int) < (n1 : Int) := by omega
      have hw1 : IntKind.i64.wrap ((k : Int) + 1) = (k : Int) + 1 := by rw [IntKind.wrap_i64]; unfold maxLen at h2; omega
      have k1 : k < xs.length := by have := hn1'.out; omega
      obtain ⟨g1, cc1, B1, m1, d1, hv1, x1, _, _, r1⟩ := (hx'.out.ext E).at_ k1
      obtain ⟨g2, cc2, B2, m2, d2, hv2, x2, _, _, r2⟩ := (hy'.out.ext E).at_ k1
      simp only [Value.slice.injEq, hn1'.out, true_and] at hv1 hv2
      obtain ⟨rfl, rfl⟩ := hv1
      obtain ⟨rfl, rfl⟩ := hv2
      have hcvt : ∀ W (A : Option Addr) (n c : Nat) (l : List Int), RdI W W.heap.size .u8 A n l → (Go.convert 34 9 (.slice A n c)).run Try.prog W = .ok (.string (strOfNums l)) W := fun W A n c l r => r.convert Try.underlying34 Try.underlying5 Try.underlying9 c
      generalize xs[k] = x at *
      have C1 : ∀ W, Ext wr W → (Go.convert 34 9 (.slice B1 m1 d1)).run Try.prog W = .ok (.string (strOfNums x)) W := fun W E => hcvt W B1 m1 d1 _ (r1.ext E)
      have C2 : ∀ W, Ext wr W → (Go.convert 34 9 (.slice B2 m2 d2)).run Try.prog W = .ok (.string (strOfNums x)) W := fun W E => hcvt W B2 m2 d2 _ (r2.ext E)
      have X1 := fun W (E : Ext wr W) => (E.cell _ (cell_lt x1)).trans x1
      have X2 := fun W (E : Ext wr W) => (E.cell _ (cell_lt x2)).trans x2
      clear hcvt r1 r2 x1 x2
      go_wp2_with fail
      refine wp_region_held_drew (S := fun W' => Ext wr W') (by kernel_rfl) ((Ext.refl wr).god) (fun hHeld => ?_)
      refine tkH 0 (v := ?_) ?_ ?_
      rotate_left
      · intro w hSw; (try dsimp only at hSw); go_simp; try (with_reducible rfl)
      try simp only [Act.put, gA, gC, List.setIfInBounds_toArray, gE, gF]
      refine tkH 1 (v := ?_) ?_ ?_
      rotate_left
      · intro w hSw; (try dsimp only at hSw); go_simp; try (with_reducible rfl)
      try simp only [Act.put, gA, gB, gC, List.setIfInBounds_toArray, gE, gF]
      refine tkH 2 (v := ?_) ?_ ?_
      rotate_left
      · intro w hSw; (try dsimp only at hSw); go_simp; try (with_reducible rfl)
      try simp only [Act.put, gA, gB, gC, List.setIfInBounds_toArray, gE, gF]
      refine tkH 3 (v := ?_) ?_ ?_
      rotate_left
      · intro w hSw; (try dsimp only at hSw); go_simp; try (with_reducible rfl)
      try simp only [Act.put, gA, gB, gC, List.setIfInBounds_toArray, gE, gF]
      refine tkH 4 (v := ?_) ?_ ?_
      rotate_left
      · intro w hSw; (try dsimp only at hSw); go_simp; try (with_reducible rfl)
      try simp only [Act.put, gA, gB, gC, List.setIfInBounds_toArray, gE, gF]
      refine tkH 5 (v := ?_) ?_ ?_
      rotate_left
      · intro w hSw; (try dsimp only at hSw); go_simp; try (with_reducible rfl)
      try simp only [Act.put, gA, gB, gC, List.setIfInBounds_toArray, gE, gF]
      refine tkH 6 (v := ?_) ?_ ?_
      rotate_left
      · intro w hSw; (try dsimp only at hSw); go_simp; try (with_reducible rfl)
      try simp only [Act.put, gA, gB, gC, List.setIfInBounds_toArray, gE, gF]
      refine tkH 7 (v := ?_) ?_ ?_
      rotate_left
      · intro w hSw; (try dsimp only at hSw); go_simp; try (with_reducible rfl)
      try simp only [Act.put, gA, gB, gC, List.setIfInBounds_toArray, gE, gF]
      refine tkH 8 (v := ?_) ?_ ?_
      rotate_left
      · intro w hSw; (try dsimp only at hSw); go_simp; try (with_reducible rfl)
      try simp only [Act.put, gA, gB, gC, List.setIfInBounds_toArray, gE, gF]
      refine tkH 9 (v := ?_) ?_ ?_
      rotate_left
      · intro w hSw; (try dsimp only at hSw); go_simp; try (with_reducible rfl)
      try simp only [Act.put, gA, gB, gC, List.setIfInBounds_toArray, gE, gF]
      refine tkH 10 (v := ?_) ?_ ?_
      rotate_left
      · intro w hSw; (try dsimp only at hSw); go_simp; try (with_reducible rfl)
      try simp only [Act.put, gA, gB, gC, List.setIfInBounds_toArray, gE, gF]
      refine wpAnyH_done (by kernel_rfl) ?_ _
      have E' := Lib.hid (E.go hHeld)
      clear C1 C2 X1 X2 hHeld
      go_wp2_with fail
      go_roundw
      case rel => exact ⟨k + 1, by omega, by simp, E'.out⟩
      case measure => simp [intOf]; omega
    · have e1 : decide ((k : Int) < (n1 : Int)) = false := by simp; omega
      go_wp2_with fail
      go_ret
      exact ⟨rfl, E⟩
end
end Go.Proofs.Ytgagpalffdgjnaa
