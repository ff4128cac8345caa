/- Layer 24, the walks: Ask. -/
import Derived.Test.YtgagpalffdgjnaaG43f
import Derived.Test.YtgagpalffdgjnaaG61
import Derived.Deep.RegionHeld3
import Derived.Handy
import Derived.Deep.Cut
namespace Go.Proofs.Ytgagpalffdgjnaa
open Go.RowKit

/-- Whose frame it is; and what is answered. -/
def tookF (F : Fp) (j : Nat) : Fp := { F with W := upf F.W j (nextW (F.W j)) }
def doneF (F : Fp) (i : Nat) (pdu : List Int) : Fp := { F with L := upf F.L i (serveL (F.L i) pdu) }
def answF (F : Fp) (j : Nat) (x : Int × Int) (id u now : Int) (ys : List Int) : Fp :=
  { F with W := upf F.W j ⟨(F.W j).fs, (F.W j).ws ++ [(if x.1 = 4 then now + 1 + x.2 else now + 1, if x.1 = 3 then spoilL j (frameL j id u ys) else frameL j id u ys)]⟩ }
def askJ (dev : List (Int × Int)) (F : Fp) (j : Nat) (bs : List Int) (now : Int) : Fp :=
  if (nextX (F.W j)).1 = 1 then tookF F j else
  match openR j bs with
  | none => tookF F j
  | some (id, u, pdu) =>
    match devAt dev j u with
    | none => tookF F j
    | some i => if (nextX (F.W j)).1 = 2 then doneF (tookF F j) i pdu else answF (doneF (tookF F j) i pdu) j (nextX (F.W j)) id u now (serveY (F.L i) pdu)
/-- A frame goes on a line. -/
def askF (dev : List (Int × Int)) (F : Fp) (l : Int) (bs : List Int) (now : Int) : Fp := if 0 ≤ l ∧ l < 4 ∧ 0 ≤ now ∧ now ≤ 1099511627776 then askJ dev F l.toNat bs now else F
section
variable {w w1 w' : World} {f : Nat} {dev : List (Int × Int)} {F F' : Fp} {M M1 : Fdm} {A : Option Addr} {n c : Nat} {l : List Int} {j : Nat} {now : Int}
theorem FdStep.then_ (m1 : Mod (M.T f dev.length) w w1) (g1 : Grew w (M.T f dev.length) (M1.T f dev.length)) (g2 : Grew w (M.U f dev.length) (M1.U f dev.length)) (g3 : M1.G = M.G) (s : FdStep w1 w' f dev M1 F') : FdStep w w' f dev M F' := by
  obtain ⟨M2, h2, m2, k1, k2, k3⟩ := s
  exact ⟨M2, h2, m1.step m2 g1, g1.trans k1 m1.size, g2.trans k2 m1.size, k3.trans g3⟩
theorem devAt_lt {dev : List (Int × Int)} {l u : Int} {i : Nat} (h : devAt dev l u = some i) : i < dev.length := by
  unfold devAt at h
  rw [List.findIdx?_eq_some_iff_findIdx_eq] at h
  exact h.1
theorem wf_i64 {x : Int} (h0 : -9223372036854775808 ≤ x) (h1 : x ≤ 9223372036854775807) : (Lit.int .i64 x).wf = true := by
  have h2 : IntKind.i64.min = -9223372036854775808 := by decide
  have h3 : IntKind.i64.max = 9223372036854775807 := by decide
  simp only [Lit.wf, h2, h3, Bool.and_eq_true, decide_eq_true_eq]
  exact ⟨h0, h1⟩
/-- Bytes, of which there is never one alone, lie in no frame's own block. -/
theorem RdI.notAdu {w : World} {B : Nat} {A A3 : Option Addr} {n n3 c3 b : Nat} {xs : List Int} {id u : Int} {t : TypeId} (h : RdI w B .u8 A n xs) (hn : n ≠ 1) (hb : w.heap[b]? = some (.cells #[.int .u16 id, .int .u8 u, .slice A3 n3 c3] t (0, 0))) : OffB (fun i => i = b) A n := fun h0 b' o e hh => by
  subst hh
  obtain ⟨b2, o2, e2, _, hc⟩ := h.2 h0
  rw [e] at e2
  simp only [Option.some.injEq, Addr.mk.injEq, and_true] at e2
  obtain ⟨rfl, rfl⟩ := e2
  have c0 := hc 0 (by omega)
  have c1 := hc 1 (by omega)
  rw [cellsAt hb] at c0 c1
  match o with
  | 0 => simp at c0
  | 1 => simp at c1
  | 2 => simp at c0
  | o + 3 => simp at c0
/-- One answer more. -/
theorem FdM.answer {W W1 : World} {F2 : Fp} (hW : FdM W f dev F2 M1) (hj : j < 4) (hMod : Mod (M1.T f dev.length) w1 W) (hT : ∀ b, M1.T f dev.length b → b < w1.heap.size) {a : Int} {bytes : List Int} {A8 : Option Addr} {n8 c8 : Nat}
    (rd : RdI W W.heap.size .u8 A8 n8 bytes) (nc : n8 ≤ c8) (cm : c8 ≤ maxLen) (up : ∀ b o, A8 = some ⟨b, o, none⟩ → w1.heap.size ≤ b) {v : Value} (o : Obj) (m : Mod (fun b => (M1.wv j).ownBlock = some b) (W.alloc o) W1)
    (hr : RowAt W1 148 2 v ((M1.rs j).length + 1) ((M1.rs j).flatMap Rm.cells ++ [.int .i64 a, .slice A8 n8 c8])) (hat : v.ownBlock = (M1.wv j).ownBlock ∨ v.ownBlock = some (W.heap.size + 1)) :
    FdStep w1 (W1.setCell ⟨f, 2 + 5 * j + 4, none⟩ v) f dev M1 { F2 with W := upf F2.W j ⟨(F2.W j).fs, (F2.W j).ws ++ [(a, bytes)]⟩ } := by
  have m2 : Mod (fun b => (M1.wv j).ownBlock = some b) W W1 := (((Ext.refl W).goA o).mod _).trans m
  obtain ⟨M', h1, h2, h3, h4, h5⟩ := hW.putWaits (rs := M1.rs j ++ [⟨a, bytes, A8, n8, c8⟩]) hj m2 (by
      rw [List.length_append, List.flatMap_append]
      exact hr) (fun b hb => by
      rcases hat with h | h
      · exact .inl (h.symm.trans hb)
      · rw [hb, Option.some.injEq] at h
        exact .inr (by omega))
    (fun r hr => by
      rcases List.mem_append.1 hr with h | h
      · exact .inl h
      · obtain rfl := List.mem_singleton.1 h
        exact .inr ⟨rd, nc, cm, fun _ b o e hb => by have := hT b hb; have := up b o e; omega⟩) hMod.size
    (fun r hr => by
      rcases List.mem_append.1 hr with h | h
      · exact .inl h
      · obtain rfl := List.mem_singleton.1 h
        exact .inr fun _ b o e => up b o e)
  refine ⟨M', ?_, hMod.trans h2, h3, h4, h5⟩
  have e : (M1.rs j ++ [(⟨a, bytes, A8, n8, c8⟩ : Rm)]).map Rm.p = (F2.W j).ws ++ [(a, bytes)] := by rw [List.map_append, ← hW.wp j hj]; rfl
  rw [e] at h1
  exact h1
theorem frameL_len (j : Nat) (id u : Int) (l : List Int) : (frameL j id u l).length ≤ 1000 := by
  unfold frameL rtuL mbapL
  split
  · split
    · rename_i h; simp [sealL]; omega
    · simp
  · split
    · rename_i h; simp [mbapHead]; omega
    · simp
set_option maxRecDepth 100000 in
set_option maxHeartbeats 3200000 in
theorem ask_core (N1 N2 : Nat) (e1 : ∀ args w, (callFunc N1 args).run Try.prog w = .ok (.enter N1 args) w) (e2 : ∀ args w, (callFunc N2 args).run Try.prog w = .ok (.enter N2 args) w)
    (h : FdM w f dev F M) (hj : j < 4) (hv1 : openV j = .func (.func N1) #[] #[]) (hv2 : frameV j = .func (.func N2) #[] #[])
    (hopen : ∀ W, RdI W W.heap.size .u8 A n l → Calls Try.prog N1 #[.slice A n c] W (WOpen j l W))
    (hframe : ∀ (W : World) (id u : Int) (A : Option Addr) (n c : Nat) (ys : List Int), 0 ≤ id ∧ id ≤ 65535 → 0 ≤ u ∧ u ≤ 255 → RdI W W.heap.size .u8 A n ys → ByteL ys → n ≤ maxLen → Calls Try.prog N2 #[.agg #[.int .u16 id, .int .u8 u, .slice A n c]] W (FreshO (frameL j id u ys) W))
    (hx : RdI w w.heap.size .u8 A n l) (hoff : OffB (M.T f dev.length) A n) (n0 : 0 ≤ now) (n1 : now ≤ 1099511627776)
    (hfs : ∀ x ∈ (F.W j).fs, 0 ≤ x.2 ∧ x.2 ≤ 1099511627776) (hws : (F.W j).ws.length ≤ 1000000) :
    Calls Try.prog 29 #[.pointer (some ⟨f, 0, none⟩), .int .i64 (j : Int), .slice A n c, .int .i64 now] w fun e w' => e = .returned (.tuple #[]) ∧ FdStep w w' f dev M (askJ dev F j l now) := by
  have hw := wire_yes f j w hj
  have hn := next_m h hj
  have t1 : decide (now < 0) = false := by simpa using n0
  have t2 : decide (1099511627776 < now) = false := by simpa using n1
  have hx' := Lib.hid hx
  have hoff' := Lib.hid hoff
  have hopen' := Lib.hid hopen
  have hframe' := Lib.hid hframe
  have hfs' := Lib.hid hfs
  have hws' := Lib.hid hws
  clear hx hoff hopen hframe hfs hws h
  have hX : Hid (nextX (F.W j) = nextX (F.W j)) := Lib.hid rfl
  generalize hxx : nextX (F.W j) = X at *
  obtain ⟨x1, x2⟩ := X
  have hxx' := Lib.hid hxx
  clear hX hxx
  go_enter Try.func29, Try.ntmps29
  go_wp2_with fail
  refine hw.mono ?_
  rintro e w' ⟨rfl, rfl⟩
  go_wp2_with fail
  refine hn.mono ?_
  rintro e w1 ⟨rfl, M1, h1, m1, g1, g2, g3⟩
  have E2 : Ext w1 (w1.alloc (.cells #[.int .i64 x1, .int .i64 x2] 144)) := (Ext.refl w1).goA _
  have P2 := heap_alloc_new w1 (.cells #[.int .i64 x1, .int .i64 x2] 144)
  have k0 : (w1.alloc (.cells #[.int .i64 x1, .int .i64 x2] 144)).cell? ⟨w1.heap.size, 0, none⟩ = some (.int .i64 x1) := cellsAt P2 0
  have h2 := h1.ext E2
  have fin := Lib.hid (fun (w' : World) (F' : Fp) (s : FdStep w1 w' f dev M1 F') => FdStep.then_ m1 g1 g2 g3 s)
  have hx2 := Lib.hid ((hx'.out.modS hoff'.out m1).ext E2)
  clear hw hn g1 g2 g3
  by_cases hk1 : x1 = 1
  · have d1 : (x1 == 1) = true := by simpa using hk1
    have hr : askJ dev F j l now = tookF F j := by unfold askJ; rw [hxx'.out]; exact if_pos hk1
    have hfin := fin.out _ _ (FdStep.stay h1 E2)
    rw [show ({ F with W := upf F.W j (nextW (F.W j)) } : Fp) = tookF F j from rfl, ← hr] at hfin
    have hfin' := Lib.hid hfin
    subst hk1
    clear hfin hr h1 h2 fin m1
    go_wp2_with fail
    refine bodyPost_ret (results_none rfl _ _ _) rfl ?_
    exact ⟨rfl, hfin'.out⟩
  have d1 : (x1 == 1) = false := by simpa using hk1
  obtain ⟨cf, hf⟩ := h2.head
  obtain ⟨q1, q2, q3, _, q4⟩ := h2.wi j hj
  rw [hv1] at q1
  have hop := hopen'.out _ hx2.out
  have h2' := Lib.hid h2
  have P2' := Lib.hid P2
  have hk1' := Lib.hid hk1
  have hv2' := Lib.hid hv2
  have E2' := Lib.hid E2
  have hf' := Lib.hid hf
  have h1' := Lib.hid h1
  have m1' := Lib.hid m1
  clear h2 P2 hk1 E2 hf h1 m1 hv1 hv2
  generalize hq : 2 + 5 * j = q at *
  have hq' := Lib.hid hq
  clear hq
  go_wp2_with fail
  refine hop.mono ?_
  rintro e w3 ⟨E3, ⟨id, u, ys, A3, n3, c3, hO, rfl, g3, g4, r3, hby, hid, hu, hup⟩ | ⟨hO, id, u, A3, n3, c3, rfl⟩⟩
  rotate_left
  · have hr : askJ dev F j l now = tookF F j := by unfold askJ; rw [hxx'.out, hO]; exact if_neg hk1'.out
    have hfin := fin.out _ _ (FdStep.stay h1'.out (((E2'.out).go E3).goA (.cells #[.int .u16 id, .int .u8 u, .slice A3 n3 c3] 48)))
    rw [show ({ F with W := upf F.W j (nextW (F.W j)) } : Fp) = tookF F j from rfl, ← hr] at hfin
    have hfin' := Lib.hid hfin
    clear hfin hr fin hO E3 hop q1 q2 q3 k0
    go_wp2_with fail
    refine bodyPost_ret (results_none rfl _ _ _) rfl ?_
    exact ⟨rfl, hfin'.out⟩
  have E4 : Ext w3 (w3.alloc (.cells #[.int .u16 id, .int .u8 u, .slice A3 n3 c3] 48)) := (Ext.refl w3).goA _
  have P4 := heap_alloc_new w3 (.cells #[.int .u16 id, .int .u8 u, .slice A3 n3 c3] 48)
  have r4 := Lib.hid (r3.ext E4)
  have h4 := h2'.out.ext (E3.go E4)
  have E14 := Lib.hid (E2'.out.go (E3.go E4))
  have P2b := ((E3.go E4).block _ (lt_of_block P2'.out)).trans P2'.out
  have hOO := Lib.hid hO
  have hby' := Lib.hid hby
  have hs3 : w1.heap.size < w3.heap.size := by have := E3.size; have := lt_of_block P2'.out; omega
  have hfl := h4.isF.lt
  have hq5 := fun (w' : World) (E : Ext (w3.alloc (.cells #[.int .u16 id, .int .u8 u, .slice A3 n3 c3] 48)) w') (o : Nat) => E.cell o hfl
  clear hop q1 q2 q3 k0 hO r3 hby hopen' hx2 E3 hf' h2' P2' E2'
  go_upto_region 6 with fail
  have wu : IntKind.i64.wrap u = u := by rw [IntKind.wrap_i64]; omega
  have C1 := fun w' (E : Ext (w3.alloc (.cells #[.int .u16 id, .int .u8 u, .slice A3 n3 c3] 48)) w') => (hq5 w' E 1).trans h4.c1
  have a1 := fun w' (E : Ext (w3.alloc (.cells #[.int .u16 id, .int .u8 u, .slice A3 n3 c3] 48)) w') => (E.cell 1 (lt_of_block P4)).trans (show _ = some (.int .u8 u) from cellsAt P4 1)
  have hlook := fun w' (E : Ext (w3.alloc (.cells #[.int .u16 id, .int .u8 u, .slice A3 n3 c3] 48)) w') => (h4.mp.ext E).look_ok (l := (j : Int)) (u := u) (wf_i64 (by omega) (by omega)) (wf_i64 (by omega) (by omega))
  have h4' := Lib.hid h4
  have P4' := Lib.hid P4
  have P2' := Lib.hid P2b
  have hup' := Lib.hid hup
  clear h4 P4 P2b hup E4 hq5
  generalize hw4 : w3.alloc (.cells #[.int .u16 id, .int .u8 u, .slice A3 n3 c3] 48) = w4 at *
  clear hw4
  cases hdev : devAt dev (j : Int) u with
  | none =>
    have hr : askJ dev F j l now = tookF F j := by unfold askJ; rw [hxx'.out, hOO.out]; dsimp only; rw [if_neg hk1'.out, hdev]
    have hfin := fin.out _ _ (FdStep.stay h1'.out (E14.out.god))
    rw [show ({ F with W := upf F.W j (nextW (F.W j)) } : Fp) = tookF F j from rfl, ← hr] at hfin
    have hfin' := Lib.hid hfin
    have hs : slotOf dev M1.g j u = 0 := by unfold slotOf; rw [hdev]
    rw [hs] at hlook
    have hlook' : ∀ w', Ext w4 w' → (Instr.lookup 119 (.map (some M1.m)) (.agg #[.int .i64 (j : Int), .int .i64 u]) true).run Try.prog w' = .ok (.tuple #[.pointer none, .bool false]) w' := hlook
    clear hfin hr fin hs hlook hdev
    refine wp_region_held_drew (S := fun w' => Ext w4 w') (by kernel_rfl) ((Ext.refl w4).god) (fun hHeld => ?_)
    refine tk 0 ?_
    try simp only [Act.put, gA, gC, List.setIfInBounds_toArray, gE, gF]
    refine tk 1 ?_
    try simp only [Act.put, gA, gB, gC, List.setIfInBounds_toArray, gE, gF]
    refine tk 2 ?_
    try simp only [Act.put, gA, gB, gC, List.setIfInBounds_toArray, gE, gF]
    refine tk 3 ?_
    try simp only [Act.put, gA, gB, gC, List.setIfInBounds_toArray, gE, gF]
    refine tk 4 ?_
    try simp only [Act.put, gA, gB, gC, List.setIfInBounds_toArray, gE, gF]
    refine tk 5 ?_
    try simp only [Act.put, gA, gB, gC, List.setIfInBounds_toArray, gE, gF]
    refine tk 6 ?_
    try simp only [Act.put, gA, gB, gC, List.setIfInBounds_toArray, gE, gF]
    refine tk 7 ?_
    try simp only [Act.put, gA, gB, gC, List.setIfInBounds_toArray, gE, gF]
    refine tk 8 ?_
    try simp only [Act.put, gA, gB, gC, List.setIfInBounds_toArray, gE, gF]
    refine tk 9 ?_
    try simp only [Act.put, gA, gB, gC, List.setIfInBounds_toArray, gE, gF]
    refine tk 10 ?_
    try simp only [Act.put, gA, gB, gC, List.setIfInBounds_toArray, gE, gF]
    refine tk 11 ?_
    try simp only [Act.put, gA, gB, gC, List.setIfInBounds_toArray, gE, gF]
    refine tk 12 ?_
    try simp only [Act.put, gA, gB, gC, List.setIfInBounds_toArray, gE, gF]
    refine tk 13 ?_
    try simp only [Act.put, gA, gB, gC, List.setIfInBounds_toArray, gE, gF]
    refine tk 14 ?_
    try simp only [Act.put, gA, gB, gC, List.setIfInBounds_toArray, gE, gF]
    refine wpAnyH_done (by kernel_rfl) ?_ _
    go_wp2_with fail
    refine bodyPost_ret (results_none rfl _ _ _) rfl ?_
    exact ⟨rfl, hfin'.out⟩
  | some i =>
    have hi := devAt_lt hdev
    have hs : slotOf dev M1.g j u = M1.g i + 1 := by unfold slotOf; rw [hdev]
    rw [hs] at hlook
    have hlook' : ∀ w', Ext w4 w' → (Instr.lookup 119 (.map (some M1.m)) (.agg #[.int .i64 (j : Int), .int .i64 u]) true).run Try.prog w' = .ok (.tuple #[.pointer (some ⟨M1.g i, 0, none⟩), .bool true]) w' := hlook
    have hdev' := Lib.hid hdev
    clear hs hlook hdev
    refine wp_region_held_drew (S := fun w' => Ext w4 w') (by kernel_rfl) ((Ext.refl w4).god) (fun hHeld => ?_)
    refine tk 0 ?_
    try simp only [Act.put, gA, gC, List.setIfInBounds_toArray, gE, gF]
    refine tk 1 ?_
    try simp only [Act.put, gA, gB, gC, List.setIfInBounds_toArray, gE, gF]
    refine tk 2 ?_
    try simp only [Act.put, gA, gB, gC, List.setIfInBounds_toArray, gE, gF]
    refine tk 3 ?_
    try simp only [Act.put, gA, gB, gC, List.setIfInBounds_toArray, gE, gF]
    refine tk 4 ?_
    try simp only [Act.put, gA, gB, gC, List.setIfInBounds_toArray, gE, gF]
    refine tk 5 ?_
    try simp only [Act.put, gA, gB, gC, List.setIfInBounds_toArray, gE, gF]
    refine tk 6 ?_
    try simp only [Act.put, gA, gB, gC, List.setIfInBounds_toArray, gE, gF]
    refine tk 7 ?_
    try simp only [Act.put, gA, gB, gC, List.setIfInBounds_toArray, gE, gF]
    refine tk 8 ?_
    try simp only [Act.put, gA, gB, gC, List.setIfInBounds_toArray, gE, gF]
    refine tk 9 ?_
    try simp only [Act.put, gA, gB, gC, List.setIfInBounds_toArray, gE, gF]
    refine tk 10 ?_
    try simp only [Act.put, gA, gB, gC, List.setIfInBounds_toArray, gE, gF]
    refine tk 11 ?_
    try simp only [Act.put, gA, gB, gC, List.setIfInBounds_toArray, gE, gF]
    refine tk 12 ?_
    try simp only [Act.put, gA, gB, gC, List.setIfInBounds_toArray, gE, gF]
    refine tk 13 ?_
    try simp only [Act.put, gA, gB, gC, List.setIfInBounds_toArray, gE, gF]
    refine tk 14 ?_
    try simp only [Act.put, gA, gB, gC, List.setIfInBounds_toArray, gE, gF]
    refine wpAnyH_done (by kernel_rfl) ?_ _
    clear hlook' C1 a1
    have h5 := h4'.out.ext hHeld
    have r5 := r4.out.ext hHeld
    have P5 := (hHeld.block _ (lt_of_block P4'.out)).trans P4'.out
    have Pf5 := (hHeld.block _ (lt_of_block P2'.out)).trans P2'.out
    have E15 := E14.out.go hHeld
    generalize w4.drew = w5 at *
    have c52 : w5.cell? ⟨w3.heap.size, 2, none⟩ = some (.slice A3 n3 c3) := cellsAt P5 2
    have hserve := bankServe_any (M1.g i) A3 n3 c3 ys (F.L i) (M1.G i) w5 (h5.bk i hi) r5 hby'.out g3 g4
    have h5' := Lib.hid h5
    have P5' := Lib.hid P5
    have Pf5' := Lib.hid Pf5
    clear h5 r5 P5 Pf5 hHeld h4' r4 P4' P2' E14 hfl q4
    go_wp2_with fail
    refine hserve.mono ?_
    rintro e w6 ⟨A6, n6, c6, rfl, g6, g6', r6, b6, m6⟩
    have h6 := h5'.out.turnBank hi b6 m6
    have hrows : ∀ b, RowsOf (M1.G i) b → b < w1.heap.size := fun b hb => by
      obtain ⟨k, hk, rfl⟩ := hb
      exact (h1'.out.isG hi hk).lt
    have P6 := (m6.block _ (lt_of_block P5'.out) (fun hb => by have := hrows _ hb; omega)).trans P5'.out
    have Pf6 := (m6.block _ (lt_of_block Pf5'.out) (fun hb => by have := hrows _ hb; omega)).trans Pf5'.out
    have y2 : w6.cell? ⟨w3.heap.size, 2, none⟩ = some (.slice A3 n3 c3) := cellsAt P6 2
    have z2 := frozen_block P6 2
    have hYl := serveY_len (F.L i) ys
    have hYb := serveY_bytes (F.L i) hby'.out
    have r6l := r6.len
    have r6o := r6.notAdu (by rw [← r6l]; exact hYl) P6
    have M7 : Mod (fun b => b = w3.heap.size) w6 (w6.setCell ⟨w3.heap.size, 2, none⟩ (.slice A6 n6 c6)) := (Mod.refl (fun b => b = w3.heap.size) w6).setCell (.inl rfl) _
    have hUlt : ∀ b, M1.U f dev.length b → b < w1.heap.size := fun b hb => h1'.out.lt hb
    have h7 := h6.keep (fun b hb => M7.block b (h6.lt hb) (fun e => by have := hUlt b hb; omega)) M7.size
    have r7 := r6.modS r6o M7
    have P7 : (w6.setCell ⟨w3.heap.size, 2, none⟩ (.slice A6 n6 c6)).heap[w3.heap.size]? = some (.cells #[.int .u16 id, .int .u8 u, .slice A6 n6 c6] 48 (0, 0)) := crc_block P6 2 _
    have Pf7 := (M7.block _ (lt_of_block Pf6) (by omega)).trans Pf6
    have hMod7 : Mod (M1.T f dev.length) w1 (w6.setCell ⟨w3.heap.size, 2, none⟩ (.slice A6 n6 c6)) := ((E15.mod _).trans (m6.weak (fun b hb => .inr (.inl ⟨i, hi, hb⟩)))).step M7 (fun b hb => .inr (by omega))
    have h7' := Lib.hid h7
    have r7' := Lib.hid r7
    have P7' := Lib.hid P7
    have Pf7' := Lib.hid Pf7
    have hMod7' := Lib.hid hMod7
    have hYb' := Lib.hid hYb
    have hUlt' := Lib.hid hUlt
    clear h6 P6 Pf6 h7 r7 P7 Pf7 hMod7 hYb hYl r6 r6o b6 m6 M7 hrows h5' P5' Pf5' E15 hserve c52 r6l hUlt
    go_upto_region 9 with fail
    generalize hw7 : w6.setCell ⟨w3.heap.size, 2, none⟩ (.slice A6 n6 c6) = w7 at *
    clear hw7 y2 z2
    have hY : Hid (serveY (F.L i) ys = serveY (F.L i) ys) := Lib.hid rfl
    generalize hYY : serveY (F.L i) ys = Y at *
    have hYY' := Lib.hid hYY
    clear hY hYY
    have hfl := h7'.out.isF.lt
    obtain ⟨_, k2, k3, _, k4⟩ := h7'.out.wi j hj
    rw [hq'.out] at k2 k3 k4
    rw [hv2'.out] at k2
    have C2 := fun w' (E : Ext w7 w') => (E.cell (q + 1) hfl).trans k2
    have hal := lt_of_block P7'.out
    have A0 := fun w' (E : Ext w7 w') => (E.cell 0 hal).trans (show _ = some (.int .u16 id) from cellsAt P7'.out 0)
    have A1 := fun w' (E : Ext w7 w') => (E.cell 1 hal).trans (show _ = some (.int .u8 u) from cellsAt P7'.out 1)
    have A2 := fun w' (E : Ext w7 w') => (E.cell 2 hal).trans (show _ = some (.slice A6 n6 c6) from cellsAt P7'.out 2)
    have hfr7 := fun w' (E : Ext w7 w') => hframe'.out w' id u A6 n6 c6 Y hid hu (r7'.out.ext E) hYb'.out (Nat.le_trans g6 g6')
    have hfr7' := Lib.hid hfr7
    have wn : IntKind.i64.wrap (now + 1) = now + 1 := by rw [IntKind.wrap_i64]; omega
    have k3' := Lib.hid k3
    have k4' := Lib.hid k4
    clear k2 k3 k4 hfr7
    refine wp_region_held_drew (S := fun w' => Ext w7 w') (by kernel_rfl) ((Ext.refl w7).god) (fun hHeld => ?_)
    refine tk 0 ?_
    try simp only [Act.put, gA, gC, List.setIfInBounds_toArray, gE, gF]
    refine tk 1 ?_
    try simp only [Act.put, gA, gB, gC, List.setIfInBounds_toArray, gE, gF]
    refine tk 2 ?_
    try simp only [Act.put, gA, gB, gC, List.setIfInBounds_toArray, gE, gF]
    refine tk 3 ?_
    try simp only [Act.put, gA, gB, gC, List.setIfInBounds_toArray, gE, gF]
    refine tk 4 ?_
    try simp only [Act.put, gA, gB, gC, List.setIfInBounds_toArray, gE, gF]
    refine tk 6 ?_
    try simp only [Act.put, gA, gB, gC, List.setIfInBounds_toArray, gE, gF]
    refine tk 7 ?_
    try simp only [Act.put, gA, gB, gC, List.setIfInBounds_toArray, gE, gF]
    refine wpAnyH_ready (rs := [5]) (by kernel_rfl) (by simp) ?_
    refine AllReadyH.cons rfl (fun K hK => ?_) ?_
    rotate_left
    · exact AllReadyH.nil
    go_simp
    refine (hfr7'.out _ hHeld).mono ?_
    rintro e w8 h8
    have h8' := h8.from_ hHeld
    obtain ⟨A8, n8, c8, rfl, own8, E8⟩ := h8'
    clear h8
    try dsimp only
    refine hK.out _ _ ?_ (fun hHeld => ?_)
    · first | assumption | (dsimp only; assumption)
    clear hK K
    try simp only [Act.put, gA, gB, gC, List.setIfInBounds_toArray, gE, gF]
    refine tk 8 ?_
    try simp only [Act.put, gA, gB, gC, List.setIfInBounds_toArray, gE, gF]
    refine tk 9 ?_
    try simp only [Act.put, gA, gB, gC, List.setIfInBounds_toArray, gE, gF]
    refine wpAnyH_done (by kernel_rfl) ?_ _
    have h8 := h7'.out.ext E8
    have Pf8 := (E8.block _ (lt_of_block Pf7'.out)).trans Pf7'.out
    have Mod8 : Mod (M1.T f dev.length) w1 w8 := hMod7'.out.trans (E8.mod _)
    have u0 : w8.cell? ⟨w1.heap.size, 0, none⟩ = some (.int .i64 x1) := cellsAt Pf8 0
    have u1 : w8.cell? ⟨w1.heap.size, 1, none⟩ = some (.int .i64 x2) := cellsAt Pf8 1
    have hask : askJ dev F j l now = if x1 = 2 then doneF (tookF F j) i ys else answF (doneF (tookF F j) i ys) j (x1, x2) id u now Y := by
      unfold askJ
      rw [hxx'.out, hOO.out, ← hYY'.out]
      dsimp only
      rw [if_neg hk1'.out, hdev'.out]
    have h8' := Lib.hid (show FdM w8 f dev (doneF (tookF F j) i ys) M1 from h8)
    have own8' := Lib.hid own8
    have Mod8' := Lib.hid Mod8
    clear h8 own8 Mod8 C2 A0 A1 A2 hHeld
    by_cases hk2 : x1 = 2
    · have hr : askJ dev F j l now = doneF (tookF F j) i ys := by rw [hask, if_pos hk2]
      have hfin := fin.out w8 (doneF (tookF F j) i ys) ⟨M1, h8'.out, Mod8'.out, Grew.refl _ _, Grew.refl _ _, rfl⟩
      rw [← hr] at hfin
      have hfin' := Lib.hid hfin
      have d2 : (x1 == 2) = true := by simpa using hk2
      clear hfin hr hask
      go_wp2_with fail
      refine bodyPost_ret (results_none rfl _ _ _) rfl ?_
      exact ⟨rfl, hfin'.out⟩
    rw [if_neg hk2] at hask
    have d2 : (x1 == 2) = false := by simpa using hk2
    have hlf : n8 ≤ 1000 := by
      have h1 := own8'.out.1
      rw [List.length_map] at h1
      have h2 := frameL_len j id u Y
      omega
    by_cases hk3 : x1 = 3
    · have hr : askJ dev F j l now = { doneF (tookF F j) i ys with W := upf (doneF (tookF F j) i ys).W j ⟨((doneF (tookF F j) i ys).W j).fs, ((doneF (tookF F j) i ys).W j).ws ++ [(now + 1, spoilL j (frameL j id u Y))]⟩ } := by
        rw [hask]; unfold answF; rw [if_neg (by dsimp only; omega), if_pos (by exact hk3)]
      have d3 : (x1 == 3) = true := by simpa using hk3
      obtain ⟨_, _, ks, _, _⟩ := h8'.out.wi j hj
      rw [hq'.out] at ks
      have ks' : w8.cell? ⟨f, q + 2, none⟩ = some (.func (.func 117) #[] #[.pointer (some ⟨M1.t j, 0, none⟩)]) := ks
      have hturn := turn_any (j := j) own8'.out (by omega) (h8'.out.tj j hj)
      clear hask ks
      go_wp2_with fail
      refine hturn.mono ?_
      rintro e w9' ⟨rfl, own9, m9⟩
      have hk9 : ∀ b, (Value.slice A8 n8 c8).ownBlock = some b → w7.heap.size ≤ b := fun b hb => (own8'.out.lt b hb).1
      have hs71 := hMod7'.out.size
      have h9 : FdM w9' f dev (doneF (tookF F j) i ys) M1 := h8'.out.keep (fun b hb => m9.block b (h8'.out.lt hb) (fun e => by have := hk9 b e; have := hUlt'.out b hb; omega)) m9.size
      have Mod9 : Mod (M1.T f dev.length) w1 w9' := Mod8'.out.step m9 (fun b hb => .inr (by have := hk9 b hb; omega))
      have h9' := Lib.hid h9
      have own9' := Lib.hid own9
      have Mod9' := Lib.hid Mod9
      clear h9 own9 Mod9 m9 hk9 hturn u0 u1
      obtain ⟨A8', c8', hs8, ⟨g8, g8'⟩, r8⟩ := own_rd own9'.out
      simp only [Value.slice.injEq, true_and] at hs8
      obtain ⟨rfl, rfl⟩ := hs8
      obtain ⟨Aw, cw, hwv, _, _⟩ := (h9'.out.wa j hj).shape
      have kw : w9'.cell? ⟨f, q + 4, none⟩ = some (.slice Aw (M1.rs j).length cw) := by
        obtain ⟨_, _, _, _, kk⟩ := h9'.out.wi j hj
        rw [hq'.out, hwv] at kk
        exact kk
      have hrow := Lib.hid (((h9'.out.wa j hj).ext ((Ext.refl w9').goA (.cells #[.int .i64 (now + 1), .slice A8 n8 c8] 148))))
      rw [hwv] at hrow
      have hnew := Lib.hid (heap_alloc_new w9' (.cells #[.int .i64 (now + 1), .slice A8 n8 c8] 148))
      have hwv' := Lib.hid hwv
      have nfw := Lib.hid (show ¬ (Value.slice Aw (M1.rs j).length cw).ownBlock = some f from fun e => (h9'.out.isW hj (by rw [hwv]; exact e)).ne h9'.out.isF (by decide) rfl)
      have hflW := h9'.out.isF.lt
      obtain ⟨csf, hhf⟩ := h9'.out.head
      have hhf' := Lib.hid hhf
      have hans := Lib.hid (fun (W1 : World) (v : Value) m hr hat => fin.out _ _ (h9'.out.answer (w1 := w1) (W1 := W1) (a := now + 1) (bytes := spoilL j (frameL j id u Y)) (v := v) hj Mod9'.out (fun b hb => hUlt'.out b (.inl hb)) r8 g8 g8' (fun b o e => by have := (own9'.out.lt b (by rw [e]; rfl)).1; have := hMod7'.out.size; omega) (.cells #[.int .i64 (now + 1), .slice A8 n8 c8] 148) m hr hat))
      have hlen : (M1.rs j).length ≤ 1000000 := by
        have h1 := h9'.out.wp j hj
        have h2 : (M1.rs j).length = (F.W j).ws.length := by
          have h3 := congrArg List.length h1
          rw [List.length_map] at h3
          rw [← h3]
          show (upf F.W j (nextW (F.W j)) j).ws.length = _
          rw [upf_same]; rfl
        rw [h2]; exact hws'.out
      have hF : Hid (askJ dev F j l now = _) := Lib.hid hr
      clear hhf hwv r8 hr
      obtain ⟨ti, hti, htz, ht4, htb⟩ := info_reply
      generalize hnr : (M1.rs j).length = nr at *
      go_wp2_with (at_builtin; refine wpList_append_rowAt rfl (.tmp 94) (.tmp 98) _ rfl 148 ti _ 2 32 Try.underlying124 hti htz ht4 htb rfl (by decide) _ nr _ rfl hrow.out ⟨w9'.heap.size, 0, none⟩ 1 [.int .i64 (now + 1), .slice A8 n8 c8] rfl rfl (cell_two_at hnew.out) ?c1 ?c2 ?c3 ?_)
      case c1 => first | exact ⟨rfl, rfl⟩ | (intro u hu; simp at hu; rcases hu with rfl | rfl <;> rfl)
      case c2 => unfold maxLen; omega
      case c3 => omega
      intro v' w9 hr9 hm9 hat9
      have hm9' : Mod (fun b => (M1.wv j).ownBlock = some b) (w9'.alloc (.cells #[.int .i64 (now + 1), .slice A8 n8 c8] 148)) w9 := by
        rw [hwv'.out]; exact hm9
      have hfin := Lib.hid (hans.out w9 v' hm9' hr9 (by rw [hwv'.out]; exact hat9))
      have mall : Mod (fun b => (M1.wv j).ownBlock = some b) w9' w9 := (((Ext.refl w9').goA _).mod _).trans hm9'
      have nf1 : ¬ (M1.wv j).ownBlock = some f := by rw [hwv'.out]; exact nfw.out
      obtain ⟨Av, cv, rfl, _, _⟩ := hr9.shape
      have kz : w9.cell? ⟨f, q + 4, none⟩ = some (.slice Aw nr cw) := (mall.cell _ hflW nf1).trans kw
      have kf : w9.frozen? ⟨f, q + 4, none⟩ = false := (mall.frozen _ hflW nf1).trans (frozen_block hhf'.out _)
      rw [hq'.out] at hfin
      have hfin' := Lib.hid hfin.out
      clear hans hrow hnew hm9 hm9' hr9 hat9 mall nf1 nfw kw hfin
      go_wp2_with fail
      first | go_end0 | refine bodyPost_ret (results_none rfl _ _ _) rfl ?_
      refine ⟨rfl, ?_⟩
      rw [hF.out]
      exact hfin'.out
    · have d3 : (x1 == 3) = false := by simpa using hk3
      by_cases hk4 : x1 = 4
      · have hx2r : 0 ≤ x2 ∧ x2 ≤ 1099511627776 := by
          have h1 := hxx'.out
          unfold nextX at h1
          cases hfs0 : (F.W j).fs with
          | nil => rw [hfs0] at h1; simp at h1; omega
          | cons y ys =>
            rw [hfs0] at h1
            have h2 := hfs'.out y (by rw [hfs0]; simp)
            simp at h1
            rw [h1] at h2
            exact h2
        have wn2 : IntKind.i64.wrap (now + 1 + x2) = now + 1 + x2 := by rw [IntKind.wrap_i64]; omega
        have hr : askJ dev F j l now = { doneF (tookF F j) i ys with W := upf (doneF (tookF F j) i ys).W j ⟨((doneF (tookF F j) i ys).W j).fs, ((doneF (tookF F j) i ys).W j).ws ++ [(now + 1 + x2, frameL j id u Y)]⟩ } := by
          rw [hask]; unfold answF; rw [if_pos (by exact hk4), if_neg (by exact hk3)]
        have d4 : (x1 == 4) = true := by simpa using hk4
        clear hask
        obtain ⟨A8', c8', hs8, ⟨g8, g8'⟩, r8⟩ := own_rd own8'.out
        simp only [Value.slice.injEq, true_and] at hs8
        obtain ⟨rfl, rfl⟩ := hs8
        obtain ⟨Aw, cw, hwv, _, _⟩ := (h8'.out.wa j hj).shape
        have kw : w8.cell? ⟨f, q + 4, none⟩ = some (.slice Aw (M1.rs j).length cw) := by
          obtain ⟨_, _, _, _, kk⟩ := h8'.out.wi j hj
          rw [hq'.out, hwv] at kk
          exact kk
        have hrow := Lib.hid (((h8'.out.wa j hj).ext ((Ext.refl w8).goA (.cells #[.int .i64 (now + 1 + x2), .slice A8 n8 c8] 148))))
        rw [hwv] at hrow
        have hnew := Lib.hid (heap_alloc_new w8 (.cells #[.int .i64 (now + 1 + x2), .slice A8 n8 c8] 148))
        have hwv' := Lib.hid hwv
        have nfw := Lib.hid (show ¬ (Value.slice Aw (M1.rs j).length cw).ownBlock = some f from fun e => (h8'.out.isW hj (by rw [hwv]; exact e)).ne h8'.out.isF (by decide) rfl)
        have hflW := h8'.out.isF.lt
        obtain ⟨csf, hhf⟩ := h8'.out.head
        have hhf' := Lib.hid hhf
        have hans := Lib.hid (fun (W1 : World) (v : Value) m hr hat => fin.out _ _ (h8'.out.answer (w1 := w1) (W1 := W1) (a := now + 1 + x2) (bytes := frameL j id u Y) (v := v) hj Mod8'.out (fun b hb => hUlt'.out b (.inl hb)) r8 g8 g8' (fun b o e => by have := (own8'.out.lt b (by rw [e]; rfl)).1; have := hMod7'.out.size; omega) (.cells #[.int .i64 (now + 1 + x2), .slice A8 n8 c8] 148) m hr hat))
        have hlen : (M1.rs j).length ≤ 1000000 := by
          have h1 := h8'.out.wp j hj
          have h2 : (M1.rs j).length = (F.W j).ws.length := by
            have h3 := congrArg List.length h1
            rw [List.length_map] at h3
            rw [← h3]
            show (upf F.W j (nextW (F.W j)) j).ws.length = _
            rw [upf_same]; rfl
          rw [h2]; exact hws'.out
        have hF : Hid (askJ dev F j l now = _) := Lib.hid hr
        clear hhf hwv r8 hr
        obtain ⟨ti, hti, htz, ht4, htb⟩ := info_reply
        generalize hnr : (M1.rs j).length = nr at *
        go_wp2_with (at_builtin; refine wpList_append_rowAt rfl (.tmp 94) (.tmp 98) _ rfl 148 ti _ 2 32 Try.underlying124 hti htz ht4 htb rfl (by decide) _ nr _ rfl hrow.out ⟨w8.heap.size, 0, none⟩ 1 [.int .i64 (now + 1 + x2), .slice A8 n8 c8] rfl rfl (cell_two_at hnew.out) ?c1 ?c2 ?c3 ?_)
        case c1 => first | exact ⟨rfl, rfl⟩ | (intro u hu; simp at hu; rcases hu with rfl | rfl <;> rfl)
        case c2 => unfold maxLen; omega
        case c3 => omega
        intro v' w9 hr9 hm9 hat9
        have hm9' : Mod (fun b => (M1.wv j).ownBlock = some b) (w8.alloc (.cells #[.int .i64 (now + 1 + x2), .slice A8 n8 c8] 148)) w9 := by
          rw [hwv'.out]; exact hm9
        have hfin := Lib.hid (hans.out w9 v' hm9' hr9 (by rw [hwv'.out]; exact hat9))
        have mall : Mod (fun b => (M1.wv j).ownBlock = some b) w8 w9 := (((Ext.refl w8).goA _).mod _).trans hm9'
        have nf1 : ¬ (M1.wv j).ownBlock = some f := by rw [hwv'.out]; exact nfw.out
        obtain ⟨Av, cv, rfl, _, _⟩ := hr9.shape
        have kz : w9.cell? ⟨f, q + 4, none⟩ = some (.slice Aw nr cw) := (mall.cell _ hflW nf1).trans kw
        have kf : w9.frozen? ⟨f, q + 4, none⟩ = false := (mall.frozen _ hflW nf1).trans (frozen_block hhf'.out _)
        rw [hq'.out] at hfin
        have hfin' := Lib.hid hfin.out
        clear hans hrow hnew hm9 hm9' hr9 hat9 mall nf1 nfw kw hfin
        go_wp2_with fail
        first | go_end0 | refine bodyPost_ret (results_none rfl _ _ _) rfl ?_
        refine ⟨rfl, ?_⟩
        rw [hF.out]
        exact hfin'.out
      · have hr : askJ dev F j l now = { doneF (tookF F j) i ys with W := upf (doneF (tookF F j) i ys).W j ⟨((doneF (tookF F j) i ys).W j).fs, ((doneF (tookF F j) i ys).W j).ws ++ [(now + 1, frameL j id u Y)]⟩ } := by
          rw [hask]; unfold answF; rw [if_neg (by exact hk4), if_neg (by exact hk3)]
        have d4 : (x1 == 4) = false := by simpa using hk4
        clear hask
        obtain ⟨A8', c8', hs8, ⟨g8, g8'⟩, r8⟩ := own_rd own8'.out
        simp only [Value.slice.injEq, true_and] at hs8
        obtain ⟨rfl, rfl⟩ := hs8
        obtain ⟨Aw, cw, hwv, _, _⟩ := (h8'.out.wa j hj).shape
        have kw : w8.cell? ⟨f, q + 4, none⟩ = some (.slice Aw (M1.rs j).length cw) := by
          obtain ⟨_, _, _, _, kk⟩ := h8'.out.wi j hj
          rw [hq'.out, hwv] at kk
          exact kk
        have hrow := Lib.hid (((h8'.out.wa j hj).ext ((Ext.refl w8).goA (.cells #[.int .i64 (now + 1), .slice A8 n8 c8] 148))))
        rw [hwv] at hrow
        have hnew := Lib.hid (heap_alloc_new w8 (.cells #[.int .i64 (now + 1), .slice A8 n8 c8] 148))
        have hwv' := Lib.hid hwv
        have nfw := Lib.hid (show ¬ (Value.slice Aw (M1.rs j).length cw).ownBlock = some f from fun e => (h8'.out.isW hj (by rw [hwv]; exact e)).ne h8'.out.isF (by decide) rfl)
        have hflW := h8'.out.isF.lt
        obtain ⟨csf, hhf⟩ := h8'.out.head
        have hhf' := Lib.hid hhf
        have hans := Lib.hid (fun (W1 : World) (v : Value) m hr hat => fin.out _ _ (h8'.out.answer (w1 := w1) (W1 := W1) (a := now + 1) (bytes := frameL j id u Y) (v := v) hj Mod8'.out (fun b hb => hUlt'.out b (.inl hb)) r8 g8 g8' (fun b o e => by have := (own8'.out.lt b (by rw [e]; rfl)).1; have := hMod7'.out.size; omega) (.cells #[.int .i64 (now + 1), .slice A8 n8 c8] 148) m hr hat))
        have hlen : (M1.rs j).length ≤ 1000000 := by
          have h1 := h8'.out.wp j hj
          have h2 : (M1.rs j).length = (F.W j).ws.length := by
            have h3 := congrArg List.length h1
            rw [List.length_map] at h3
            rw [← h3]
            show (upf F.W j (nextW (F.W j)) j).ws.length = _
            rw [upf_same]; rfl
          rw [h2]; exact hws'.out
        have hF : Hid (askJ dev F j l now = _) := Lib.hid hr
        clear hhf hwv r8 hr
        obtain ⟨ti, hti, htz, ht4, htb⟩ := info_reply
        generalize hnr : (M1.rs j).length = nr at *
        go_wp2_with (at_builtin; refine wpList_append_rowAt rfl (.tmp 94) (.tmp 98) _ rfl 148 ti _ 2 32 Try.underlying124 hti htz ht4 htb rfl (by decide) _ nr _ rfl hrow.out ⟨w8.heap.size, 0, none⟩ 1 [.int .i64 (now + 1), .slice A8 n8 c8] rfl rfl (cell_two_at hnew.out) ?c1 ?c2 ?c3 ?_)
        case c1 => first | exact ⟨rfl, rfl⟩ | (intro u hu; simp at hu; rcases hu with rfl | rfl <;> rfl)
        case c2 => unfold maxLen; omega
        case c3 => omega
        intro v' w9 hr9 hm9 hat9
        have hm9' : Mod (fun b => (M1.wv j).ownBlock = some b) (w8.alloc (.cells #[.int .i64 (now + 1), .slice A8 n8 c8] 148)) w9 := by
          rw [hwv'.out]; exact hm9
        have hfin := Lib.hid (hans.out w9 v' hm9' hr9 (by rw [hwv'.out]; exact hat9))
        have mall : Mod (fun b => (M1.wv j).ownBlock = some b) w8 w9 := (((Ext.refl w8).goA _).mod _).trans hm9'
        have nf1 : ¬ (M1.wv j).ownBlock = some f := by rw [hwv'.out]; exact nfw.out
        obtain ⟨Av, cv, rfl, _, _⟩ := hr9.shape
        have kz : w9.cell? ⟨f, q + 4, none⟩ = some (.slice Aw nr cw) := (mall.cell _ hflW nf1).trans kw
        have kf : w9.frozen? ⟨f, q + 4, none⟩ = false := (mall.frozen _ hflW nf1).trans (frozen_block hhf'.out _)
        rw [hq'.out] at hfin
        have hfin' := Lib.hid hfin.out
        clear hans hrow hnew hm9 hm9' hr9 hat9 mall nf1 nfw kw hfin
        go_wp2_with fail
        first | go_end0 | refine bodyPost_ret (results_none rfl _ _ _) rfl ?_
        refine ⟨rfl, ?_⟩
        rw [hF.out]
        exact hfin'.out
end
end Go.Proofs.Ytgagpalffdgjnaa
