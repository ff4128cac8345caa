/- The reference of layer 3, the walks: First, of a frame that was put. · Layer 3, the walks: First, of any bytes. · Layer 3, the walks: the frames of bytes, one by one (an iterator). -/
import Derived.Test.YtgagpalffdgjnaaG31
import Derived.Test.YtgagpalffdgjnaaG61
import Derived.Test.YtgagpalffdgjnaaG10
import Derived.Test.YtgagpalffdgjnaaG60
import Derived.Deep.RegionHeld3
import Derived.RangeFuncNested
import Derived.RangeFuncBound
import Derived.RangeFuncCalls
import Derived.RangeFuncLeaves
import Derived.Shelf.Abstract
import Derived.Shelf.RegionOpen
import Derived.OwnWalkIn
import Derived.TacticsInMore
import Derived.LoopNIn
import Derived.LoopIn
namespace Go.Proofs.Ytgagpalffdgjnaa
open Go.RowKit

theorem three_mod (w : World) (i : Nat) (b0 b1 b2 : Value) : Mod (fun j => j = i) w (((w.setCell ⟨i, 0, none⟩ b0).setCell ⟨i, 1, none⟩ b1).setCell ⟨i, 2, none⟩ b2) :=
  (((Mod.refl (fun j => j = i) w).setCell (p := ⟨i, 0, none⟩) (.inl rfl) b0).setCell (p := ⟨i, 1, none⟩) (.inl rfl) b1).setCell (p := ⟨i, 2, none⟩) (.inl rfl) b2
section
variable (id u : Int) (A : Option Addr) (n c : Nat) (p : List Int) (w : World)
set_option maxRecDepth 100000 in
set_option maxHeartbeats 6400000 in
theorem ref03First_put (i0 : 0 ≤ id) (i1 : id ≤ 65535) (n1 : 1 ≤ n) (n2 : n ≤ 253) (hp : p.length = n) (hx : RdI w w.heap.size .u8 A (7 + n) (mbapHead id u n ++ p)) (hc : 7 + n ≤ c) :
    Calls Try.prog 18 #[.slice A (7 + n) c] w fun e w' => ∃ A' c', e = .returned (.tuple #[.agg #[.int .u16 id, .int .u8 u, .slice A' n c'], .int .i64 ((7 + n : Nat) : Int), .int .i64 0]) ∧ n ≤ c' ∧ c' ≤ maxLen ∧ RdI w' w'.heap.size .u8 A' n p ∧ Ext w w' := by
  have X0 := (Ext.refl w).goA (.cells #[.int .u16 0, .int .u8 0, .slice none 0 0] 48)
  have P0 := heap_alloc_new w (.cells #[.int .u16 0, .int .u8 0, .slice none 0 0] 48)
  have P0' := Lib.hid P0
  obtain ⟨b, o, rfl, hb, _⟩ := hx.at_ (show 0 < 7 + n by omega)
  have hcell : ∀ (j : Nat) (x : Int), j < 7 → (mbapHead id u n)[j]? = some x → w.cell? ⟨b, o + j, none⟩ = some (.int .u8 x) := fun j x hj hxj => by
    obtain ⟨b', o', e, _, h⟩ := hx.at_ (show j < 7 + n by omega)
    injection e with e; injection e with e1 e2
    subst e1 e2
    rw [h, List.getD_eq_getElem?_getD, List.getElem?_append_left (by show j < 7; exact hj), hxj]
    rfl
  have h0 := hcell 0 (id / 256) (by omega) rfl
  have h1 := hcell 1 (id % 256) (by omega) rfl
  have h2 := hcell 2 0 (by omega) rfl
  have h3 := hcell 3 0 (by omega) rfl
  have h4 := hcell 4 0 (by omega) rfl
  have h5 := hcell 5 (1 + (n : Int)) (by omega) rfl
  have h6 := hcell 6 u (by omega) rfl
  rw [Nat.add_zero] at h0
  have hd : (mbapHead id u n ++ p).drop 7 = p := rfl
  have hdrop := hx.drop8 (lo := 7) (by omega)
  rw [hd, show 7 + n - 7 = n by omega] at hdrop
  have hdrop' := Lib.hid hdrop
  have hcE : ∀ w', Ext w w' → (w'.cell? ⟨b, o, none⟩ = some (.int .u8 (id / 256)) ∧ w'.cell? ⟨b, o + 1, none⟩ = some (.int .u8 (id % 256)) ∧ w'.cell? ⟨b, o + 2, none⟩ = some (.int .u8 0) ∧ w'.cell? ⟨b, o + 3, none⟩ = some (.int .u8 0) ∧ w'.cell? ⟨b, o + 4, none⟩ = some (.int .u8 0) ∧ w'.cell? ⟨b, o + 5, none⟩ = some (.int .u8 (1 + (n : Int))) ∧ w'.cell? ⟨b, o + 6, none⟩ = some (.int .u8 u)) := fun w' E => ⟨(E.cell _ hb).trans h0, (E.cell _ hb).trans h1, (E.cell _ hb).trans h2, (E.cell _ hb).trans h3, (E.cell _ hb).trans h4, (E.cell _ hb).trans h5, (E.cell _ hb).trans h6⟩
  have hcE' := Lib.hid hcE
  obtain ⟨k0, k1, k2, k3, k4, k5, k6⟩ := hcE _ X0
  clear hx hcell h0 h1 h2 h3 h4 h5 h6 hd hdrop hcE P0 hp
  obtain ⟨N, hN⟩ : ∃ N : Nat, 7 + n = N := ⟨_, rfl⟩
  rw [hN] at hc ⊢
  have hN' := Lib.hid hN
  have g2 : decide (2 < (N : Int)) = true := by simp; omega
  have g3 : decide (3 < (N : Int)) = true := by simp; omega
  have g6 : decide ((N : Int) < 6) = false := by simp; omega
  have b2 : 2 < N := by omega
  have b3 : 3 < N := by omega
  have b4 : 4 < N := by omega
  have b5 : 5 < N := by omega
  have b6 : 6 < N := by omega
  have s1 : decide (1 + (n : Int) < 2) = false := by simp; omega
  have s2 : decide (254 < 1 + (n : Int)) = false := by simp; omega
  have s3 : decide ((N : Int) < 6 + (1 + (n : Int))) = false := by simp; omega
  clear hN
  go_enter Try.func18, Try.ntmps18
  go_upto_region 5 with fail
  go_quiet (fail)
  go_upto_region 10 with fail
  have XU : Ext w ((w.alloc (.cells #[.int .u16 0, .int .u8 0, .slice none 0 0] 48)).drewN nq) := X0.goD nq
  have PU : ((w.alloc (.cells #[.int .u16 0, .int .u8 0, .slice none 0 0] 48)).drewN nq).heap[w.heap.size]? = some (.cells #[.int .u16 0, .int .u8 0, .slice none 0 0] 48 (0, 0)) := P0'.out
  have PU' := Lib.hid PU
  have sU := lt_of_block PU
  have hNN := hN'.out
  have b0 : 0 < N := by omega
  have b1 : 1 < N := by omega
  have ib1 : (1 : Int) < (N : Int) := by omega
  have ib6 : (6 : Int) < (N : Int) := by omega
  have w1 : IntKind.u16.wrap (id / 256) = id / 256 := by rw [IntKind.wrap_u16]; omega
  have w2 : IntKind.u16.wrap (id % 256) = id % 256 := by rw [IntKind.wrap_u16]; omega
  have w3 : IntKind.u16.wrap (256 * (id / 256)) = 256 * (id / 256) := by rw [IntKind.wrap_u16]; omega
  have w4 : 256 * (id / 256) + id % 256 = id := by omega
  have w5 : IntKind.u16.wrap id = id := by rw [IntKind.wrap_u16]; omega
  have w6 : 6 + (1 + (n : Int)) = (N : Int) := by omega
  have w7 : IntKind.i64.wrap (N : Int) = (N : Int) := by rw [IntKind.wrap_i64]; omega
  have w8 : N - 7 = n := by omega
  have w9 : ¬ c = 7 := by omega
  have w10 : (7 : Int) ≤ (N : Int) := by omega
  have w11 : (N : Int) ≤ (c : Int) := by omega
  have w12 : 7 ≤ N := by omega
  clear hNN PU k0 k1 k2 k3 k4 k5 k6 g2 g3 g6 s1 s2 s3
  generalize (w.alloc (.cells #[.int .u16 0, .int .u8 0, .slice none 0 0] 48)).drewN nq = U at *
  have m0 : ∀ w', Mod (fun i => i = w.heap.size) U w' → w'.cell? ⟨b, o, none⟩ = some (.int .u8 (id / 256)) := fun w' M => (M.cell o (Nat.lt_of_lt_of_le hb XU.size) (by omega)).trans (hcE'.out U XU).1
  have m1 : ∀ w', Mod (fun i => i = w.heap.size) U w' → w'.cell? ⟨b, o + 1, none⟩ = some (.int .u8 (id % 256)) := fun w' M => (M.cell (o + 1) (Nat.lt_of_lt_of_le hb XU.size) (by omega)).trans (hcE'.out U XU).2.1
  have m6 : ∀ w', Mod (fun i => i = w.heap.size) U w' → w'.cell? ⟨b, o + 6, none⟩ = some (.int .u8 u) := fun w' M => (M.cell (o + 6) (Nat.lt_of_lt_of_le hb XU.size) (by omega)).trans (hcE'.out U XU).2.2.2.2.2.2
  have d0 : Mod (fun i => i = w.heap.size) U U.drew := (Mod.refl _ _).drew
  have x0 : Ext U U.drew := (Ext.refl _).god
  have hdU := Lib.hid (hdrop'.out.ext XU)
  refine wp_region_held_drew (S := fun w' => Mod (fun i => i = w.heap.size) U w') (by kernel_rfl) d0 (fun hHeld => ?_)
  refine tk 0 ?_
  try simp only [Act.put, gA, gC, List.setIfInBounds_toArray, gE, gF]
  refine tk 1 ?_
  try simp only [Act.put, gA, gB, gC, List.setIfInBounds_toArray, gE, gF]
  refine tk 2 ?_
  try simp only [Act.put, gA, gB, gC, List.setIfInBounds_toArray, gE, gF]
  refine tk 3 ?_
  try simp only [Act.put, gA, gB, gC, List.setIfInBounds_toArray, gE, gF]
  refine tk 4 ?_
  try simp only [Act.put, gA, gB, gC, List.setIfInBounds_toArray, gE, gF]
  refine tk 5 ?_
  try simp only [Act.put, gA, gB, gC, List.setIfInBounds_toArray, gE, gF]
  refine tk 6 ?_
  try simp only [Act.put, gA, gB, gC, List.setIfInBounds_toArray, gE, gF]
  refine tk 7 ?_
  try simp only [Act.put, gA, gB, gC, List.setIfInBounds_toArray, gE, gF]
  refine tk 8 ?_
  try simp only [Act.put, gA, gB, gC, List.setIfInBounds_toArray, gE, gF]
  refine tk 9 ?_
  try simp only [Act.put, gA, gB, gC, List.setIfInBounds_toArray, gE, gF]
  refine tk 10 ?_
  try simp only [Act.put, gA, gB, gC, List.setIfInBounds_toArray, gE, gF]
  refine tk 11 ?_
  try simp only [Act.put, gA, gB, gC, List.setIfInBounds_toArray, gE, gF]
  refine tk 12 ?_
  try simp only [Act.put, gA, gB, gC, List.setIfInBounds_toArray, gE, gF]
  refine tk 14 ?_
  try simp only [Act.put, gA, gB, gC, List.setIfInBounds_toArray, gE, gF]
  refine tk 15 ?_
  try simp only [Act.put, gA, gB, gC, List.setIfInBounds_toArray, gE, gF]
  refine tk 16 ?_
  try simp only [Act.put, gA, gB, gC, List.setIfInBounds_toArray, gE, gF]
  refine tk 17 ?_
  try simp only [Act.put, gA, gB, gC, List.setIfInBounds_toArray, gE, gF]
  refine tk 20 ?_
  try simp only [Act.put, gA, gB, gC, List.setIfInBounds_toArray, gE, gF]
  refine tk 21 ?_
  try simp only [Act.put, gA, gB, gC, List.setIfInBounds_toArray, gE, gF]
  refine wpAnyH_ready (rs := [13]) (by kernel_rfl) (by simp) ?_
  refine AllReadyH.cons rfl (fun K hK => ?_) ?_
  rotate_left
  · exact AllReadyH.nil
  go_simp
  refine hK.out _ _ ?_ (fun hHeld => ?_)
  · exact d0.alloc _
  clear hK K
  try simp only [Act.put, gA, gB, gC, List.setIfInBounds_toArray, gE, gF]
  refine wpAnyH_ready (rs := [18]) (by kernel_rfl) (by simp) ?_
  refine AllReadyH.cons rfl (fun K hK => ?_) ?_
  rotate_left
  · exact AllReadyH.nil
  refine step_appI rfl (.tmp 67) (.tmp 71) _ rfl Try.underlying34 info_u8 (own_empty (w := U.drew) (base := U.heap.size) 5 .u8 rfl (Nat.le_refl _)) rfl (hdU.out.ext (x0.goA (.cells #[] 5))) rfl (by omega) (by omega) (by simp) ?_
  intro v' w8 hown8 hg8 hat8
  have hown8 : w8.ownsRow U.heap.size 5 1 v' n (p.map (Value.int .u8)) := (by simpa using hown8)
  obtain ⟨A8, c8, rfl, hc8, r8⟩ := own_rd hown8
  have x8 : Ext U w8 := (x0.goA (.cells #[] 5)).goG hg8 (fun i hi => by have hi' : some U.heap.size = some i := hi; injection hi' with hi'; omega)
  have d8 : Mod (fun i => i = w.heap.size) U w8 := Mod.ofBelow x8
  have P8 := (x8.block _ (lt_of_block PU'.out)).trans PU'.out
  have p8 := cellsAt P8
  have f8 : ∀ j, w8.frozen? ⟨w.heap.size, j, none⟩ = false := fun j => by simp [World.frozen?, P8]
  try dsimp only
  refine hK.out _ _ ?_ (fun hHeld => ?_)
  · first | assumption | (dsimp only; assumption)
  clear hK K
  try simp only [Act.put, gA, gB, gC, List.setIfInBounds_toArray, gE, gF]
  refine tk 19 ?_
  try simp only [Act.put, gA, gB, gC, List.setIfInBounds_toArray, gE, gF]
  refine wpAnyH_ready (rs := [22]) (by kernel_rfl) (by simp) ?_
  refine AllReadyH.cons rfl (fun K hK => ?_) ?_
  rotate_left
  · exact AllReadyH.nil
  go_simp
  refine hK.out _ _ ?_ (fun hHeld => ?_)
  · exact d8.trans (three_mod _ _ _ _ _)
  clear hK K
  try simp only [Act.put, gA, gB, gC, List.setIfInBounds_toArray, gE, gF]
  refine tk 23 ?_
  try simp only [Act.put, gA, gB, gC, List.setIfInBounds_toArray, gE, gF]
  refine tk 24 ?_
  try simp only [Act.put, gA, gB, gC, List.setIfInBounds_toArray, gE, gF]
  refine wpAnyH_done (by kernel_rfl) ?_ _
  have hb0 := crc_block P8 0 (.int .u16 id)
  have hb1 := crc_block hb0 1 (.int .u8 u)
  have hb2 := crc_block hb1 2 (.slice A8 n c8)
  have z := cellsAt hb2
  have hA8 : ∀ b o, A8 = some ⟨b, o, none⟩ → U.heap.size ≤ b := fun b o e => by subst e; exact (hown8.lt b rfl).1
  have M3 := three_mod w8 w.heap.size (.int .u16 id) (.int .u8 u) (.slice A8 n c8)
  have hf : ∀ bb oo, A8 = some ⟨bb, oo, none⟩ → bb ≠ w.heap.size := fun bb oo e => by have := hA8 bb oo e; omega
  generalize ((w8.setCell ⟨w.heap.size, 0, none⟩ (.int .u16 id)).setCell ⟨w.heap.size, 1, none⟩ (.int .u8 u)).setCell ⟨w.heap.size, 2, none⟩ (.slice A8 n c8) = w9 at *
  go_wp2_with fail
  refine bodyPost_ret (v := .tuple #[.agg #[.int .u16 id, .int .u8 u, .slice A8 n c8], .int .i64 (N : Int), .int .i64 0]) (by simp [results, Try.results18, go_sem, z]) rfl ?_
  refine ⟨A8, c8, rfl, hc8.1, hc8.2, ⟨r8.1, fun hn => ?_⟩, ?_⟩
  · obtain ⟨bb, oo, e, hlt, hc⟩ := r8.2 hn
    exact ⟨bb, oo, e, Nat.lt_of_lt_of_le hlt M3.size, fun j hj => (M3.cell (oo + j) hlt (hf bb oo e)).trans (hc j hj)⟩
  · exact (XU.go x8).goM M3 (fun i hi => by have hi : i = w.heap.size := hi; omega)
end
end Go.Proofs.Ytgagpalffdgjnaa
namespace Go.Proofs.Ytgagpalffdgjnaa
open Go.RowKit

/-- The first frame of bytes, how many bytes it is, and what is wrong. -/
def firstR (l : List Int) : Int × Int × List Int × Nat × Int :=
  if (2 < l.length ∧ l.getD 2 0 ≠ 0) ∨ (3 < l.length ∧ l.getD 3 0 ≠ 0) then (0, 0, [], 0, 31)
  else if l.length < 6 then (0, 0, [], 0, 0)
  else if (l.getD 4 0 * 256 + l.getD 5 0).toNat < 2 ∨ 254 < (l.getD 4 0 * 256 + l.getD 5 0).toNat then (0, 0, [], 0, 31)
  else if l.length < 6 + (l.getD 4 0 * 256 + l.getD 5 0).toNat then (0, 0, [], 0, 0)
  else (256 * l.getD 0 0 + l.getD 1 0, l.getD 6 0, (l.drop 7).take ((l.getD 4 0 * 256 + l.getD 5 0).toNat - 1), 6 + (l.getD 4 0 * 256 + l.getD 5 0).toNat, 0)
theorem firstR_head {l : List Int} (h : (2 < l.length ∧ l.getD 2 0 ≠ 0) ∨ (3 < l.length ∧ l.getD 3 0 ≠ 0)) : firstR l = (0, 0, [], 0, 31) := by unfold firstR; rw [if_pos h]
theorem firstR_short {l : List Int} (h2 : 2 < l.length → l.getD 2 0 = 0) (h3 : 3 < l.length → l.getD 3 0 = 0) (h : l.length < 6) : firstR l = (0, 0, [], 0, 0) := by
  unfold firstR
  rw [if_neg (fun h => by rcases h with ⟨h, h'⟩ | ⟨h, h'⟩; exact h' (h2 h); exact h' (h3 h)), if_pos h]
theorem firstR_long {l : List Int} (h2 : l.getD 2 0 = 0) (h3 : l.getD 3 0 = 0) (h : 6 ≤ l.length) (m : Nat) (hm : l.getD 4 0 * 256 + l.getD 5 0 = (m : Int)) :
    firstR l = if m < 2 ∨ 254 < m then (0, 0, [], 0, 31) else if l.length < 6 + m then (0, 0, [], 0, 0) else (256 * l.getD 0 0 + l.getD 1 0, l.getD 6 0, (l.drop 7).take (m - 1), 6 + m, 0) := by
  unfold firstR
  rw [if_neg (fun h => by rcases h with ⟨h, h'⟩ | ⟨h, h'⟩; exact h' h2; exact h' h3), if_neg (by omega), hm, Int.toNat_natCast]
/-- What First hands back of bytes: something, of which so much is sure. -/
def FirstPost (l : List Int) (w : World) (e : Ending) (w' : World) : Prop :=
  Ext w w' ∧ ∃ (id u : Int) (A : Option Addr) (n c : Nat) (ys : List Int) (k : Nat) (err : Int), e = .returned (.tuple #[.agg #[.int .u16 id, .int .u8 u, .slice A n c], .int .i64 (k : Int), .int .i64 err]) ∧
    (0 ≤ id ∧ id ≤ 65535) ∧ (0 ≤ u ∧ u ≤ 255) ∧ n ≤ c ∧ c ≤ maxLen ∧ RdI w' w'.heap.size .u8 A n ys ∧ ByteL ys ∧ (∀ b o, A = some ⟨b, o, none⟩ → w.heap.size ≤ b) ∧ k ≤ l.length ∧ firstR l = (id, u, ys, k, err)
theorem FirstPost.none {l : List Int} {w w' : World} (E : Ext w w') (err : Int) (hf : firstR l = (0, 0, [], 0, err)) : FirstPost l w (.returned (.tuple #[.agg #[.int .u16 0, .int .u8 0, .slice none 0 0], .int .i64 0, .int .i64 err])) w' :=
  ⟨E, 0, 0, Option.none, 0, 0, [], 0, err, rfl, by omega, by omega, Nat.le_refl _, by unfold maxLen; omega, RdI.nil _, fun j => by simp, (fun b o e => by cases e), Nat.zero_le _, hf⟩
section
variable (A : Option Addr) (n c : Nat) (l : List Int) (w : World)
set_option maxRecDepth 100000 in
set_option maxHeartbeats 3200000 in
theorem mbapFirst_any (hx : RdI w w.heap.size .u8 A n l) (hl : ByteL l) (hnc : n ≤ c) (_hcm : c ≤ maxLen) :
    Calls Try.prog 127 #[.slice A n c] w (FirstPost l w) := by
  have hln := hx.len
  have X0 := (Ext.refl w).goA (.cells #[.int .u16 0, .int .u8 0, .slice none 0 0] 48)
  have P0 := heap_alloc_new w (.cells #[.int .u16 0, .int .u8 0, .slice none 0 0] 48)
  have z0 : (w.alloc (.cells #[.int .u16 0, .int .u8 0, .slice none 0 0] 48)).cell? ⟨w.heap.size, 0, none⟩ = some (.int .u16 0) := cellsAt P0 0
  have z1 : (w.alloc (.cells #[.int .u16 0, .int .u8 0, .slice none 0 0] 48)).cell? ⟨w.heap.size, 1, none⟩ = some (.int .u8 0) := cellsAt P0 1
  have z2 : (w.alloc (.cells #[.int .u16 0, .int .u8 0, .slice none 0 0] 48)).cell? ⟨w.heap.size, 2, none⟩ = some (.slice none 0 0) := cellsAt P0 2
  have hx0 := Lib.hid (hx.ext X0)
  have hcell : ∀ j, j < n → ∃ b o, A = some ⟨b, o, none⟩ ∧ (w.alloc (.cells #[.int .u16 0, .int .u8 0, .slice none 0 0] 48)).cell? ⟨b, o + j, none⟩ = some (.int .u8 (l.getD j 0)) := fun j hj => by
    obtain ⟨b, o, e, _, h⟩ := hx0.out.at_ hj
    exact ⟨b, o, e, h⟩
  have hcell' := Lib.hid hcell
  have P0' := Lib.hid P0
  clear hcell hx P0
  have hlh := Lib.hid hln
  by_cases hn3 : n ≤ 2
  · have g2 : decide (2 < (n : Int)) = false := by simp; omega
    have g3 : decide (3 < (n : Int)) = false := by simp; omega
    have g6 : decide ((n : Int) < 6) = true := by simp; omega
    go_enter Try.func127, Try.ntmps127
    go_wp2_with fail
    refine bodyPost_ret (v := .tuple #[.agg #[.int .u16 0, .int .u8 0, .slice none 0 0], .int .i64 0, .int .i64 0]) (by simp [results, Try.results127, go_sem, z0, z1, z2]) rfl ?_
    exact FirstPost.none X0 0 (firstR_short (fun h => by have := hlh.out; omega) (fun h => by have := hlh.out; omega) (by have := hlh.out; omega))
  obtain ⟨b, o, rfl, k2⟩ := hcell'.out 2 (by omega)
  have g2 : decide (2 < (n : Int)) = true := by simp; omega
  have b2 : (2 : Int) < (n : Int) := by omega
  have b2' : 2 < n := by omega
  by_cases h2 : l.getD 2 0 = 0
  rotate_left
  · have e2 : (l.getD 2 0 != 0) = true := bne_iff_ne.2 h2
    have hF := Lib.hid (firstR_head (l := l) (.inl ⟨by omega, h2⟩))
    generalize l.getD 2 0 = x2 at *
    go_enter Try.func127, Try.ntmps127
    go_wp2_with fail
    refine bodyPost_ret (v := .tuple #[.agg #[.int .u16 0, .int .u8 0, .slice none 0 0], .int .i64 0, .int .i64 31]) (by simp [results, Try.results127, go_sem, z0, z1, z2]) rfl ?_
    exact FirstPost.none X0 31 hF.out
  have e2 : (l.getD 2 0 != 0) = false := by rw [h2]; rfl
  have h2h := Lib.hid h2
  rw [h2] at k2
  clear h2 e2
  by_cases hn4 : n ≤ 3
  · have g3 : decide (3 < (n : Int)) = false := by simp; omega
    have g6 : decide ((n : Int) < 6) = true := by simp; omega
    go_enter Try.func127, Try.ntmps127
    go_wp2_with fail
    refine bodyPost_ret (v := .tuple #[.agg #[.int .u16 0, .int .u8 0, .slice none 0 0], .int .i64 0, .int .i64 0]) (by simp [results, Try.results127, go_sem, z0, z1, z2]) rfl ?_
    exact FirstPost.none X0 0 (firstR_short (fun _ => h2h.out) (fun h => by have := hlh.out; omega) (by have := hlh.out; omega))
  have g3 : decide (3 < (n : Int)) = true := by simp; omega
  have b3 : (3 : Int) < (n : Int) := by omega
  have b3' : 3 < n := by omega
  have k3 : (w.alloc (.cells #[.int .u16 0, .int .u8 0, .slice none 0 0] 48)).cell? ⟨b, o + 3, none⟩ = some (.int .u8 (l.getD 3 0)) := by
    obtain ⟨b', o', e', h⟩ := hcell'.out 3 b3'
    simp only [Option.some.injEq, Addr.mk.injEq, and_true] at e'
    obtain ⟨rfl, rfl⟩ := e'
    exact h
  by_cases h3 : l.getD 3 0 = 0
  rotate_left
  · have e3 : (l.getD 3 0 != 0) = true := bne_iff_ne.2 h3
    have hF := Lib.hid (firstR_head (l := l) (.inr ⟨by omega, h3⟩))
    generalize l.getD 3 0 = x3 at *
    go_enter Try.func127, Try.ntmps127
    go_wp2_with fail
    refine bodyPost_ret (v := .tuple #[.agg #[.int .u16 0, .int .u8 0, .slice none 0 0], .int .i64 0, .int .i64 31]) (by simp [results, Try.results127, go_sem, z0, z1, z2]) rfl ?_
    exact FirstPost.none X0 31 hF.out
  rw [h3] at k3
  have h3h := Lib.hid h3
  clear h3
  by_cases hn6 : n < 6
  · have g6 : decide ((n : Int) < 6) = true := by simp; omega
    go_enter Try.func127, Try.ntmps127
    go_wp2_with fail
    refine bodyPost_ret (v := .tuple #[.agg #[.int .u16 0, .int .u8 0, .slice none 0 0], .int .i64 0, .int .i64 0]) (by simp [results, Try.results127, go_sem, z0, z1, z2]) rfl ?_
    exact FirstPost.none X0 0 (firstR_short (fun _ => h2h.out) (fun _ => h3h.out) (by have := hlh.out; omega))
  have g6 : decide ((n : Int) < 6) = false := by simp; omega
  have kk : ∀ j, j < n → (w.alloc (.cells #[.int .u16 0, .int .u8 0, .slice none 0 0] 48)).cell? ⟨b, o + j, none⟩ = some (.int .u8 (l.getD j 0)) := fun j hj => by
    obtain ⟨b', o', e', h⟩ := hcell'.out j hj
    simp only [Option.some.injEq, Addr.mk.injEq, and_true] at e'
    obtain ⟨rfl, rfl⟩ := e'
    exact h
  have k4 := kk 4 (by omega)
  have k5 := kk 5 (by omega)
  have b4 : (4 : Int) < (n : Int) := by omega
  have b4' : 4 < n := by omega
  have b5 : (5 : Int) < (n : Int) := by omega
  have b5' : 5 < n := by omega
  have hF := Lib.hid (firstR_long h2h.out h3h.out (by omega))
  clear h2h h3h
  have r4 := hl 4
  have r5 := hl 5
  rw [← List.getD_eq_getElem?_getD] at r4 r5
  have kk' := Lib.hid kk
  generalize l.getD 4 0 = x4 at *
  generalize l.getD 5 0 = x5 at *
  have wsh : IntKind.i64.wrap (x4 * 256) = x4 * 256 := by rw [IntKind.wrap_i64]; omega
  have hor : bits .or .i64 (x4 * 256) x5 = x4 * 256 + x5 := by rw [i64_or x4 x5 r4.1 r4.2 r5.1 r5.2]; omega
  clear kk
  obtain ⟨m, hm⟩ : ∃ m : Nat, x4 * 256 + x5 = (m : Int) := ⟨(x4 * 256 + x5).toNat, by omega⟩
  rw [hm] at hor
  have hF2 := Lib.hid (hF.out m hm)
  clear hF
  by_cases hm1 : m < 2 ∨ 254 < m
  · rcases Nat.lt_or_ge m 2 with hm2 | hm2
    · have g7 : decide ((m : Int) < 2) = true := by simp; omega
      go_enter Try.func127, Try.ntmps127
      go_upto_region 5 with fail
      go_quiet (fail)
      go_wp2_with fail
      refine bodyPost_ret (v := .tuple #[.agg #[.int .u16 0, .int .u8 0, .slice none 0 0], .int .i64 0, .int .i64 31]) (by simp [results, Try.results127, go_sem, z0, z1, z2]) rfl ?_
      exact FirstPost.none ((X0.goD nq).goM (three_mod _ w.heap.size _ _ _) (fun i hi => Nat.le_of_eq (Eq.symm hi))) 31 (hF2.out.trans (if_pos (.inl hm2)))
    · have g7 : decide ((m : Int) < 2) = false := by simp; omega
      have g8 : decide (254 < (m : Int)) = true := by simp; omega
      go_enter Try.func127, Try.ntmps127
      go_upto_region 5 with fail
      go_quiet (fail)
      go_wp2_with fail
      refine bodyPost_ret (v := .tuple #[.agg #[.int .u16 0, .int .u8 0, .slice none 0 0], .int .i64 0, .int .i64 31]) (by simp [results, Try.results127, go_sem, z0, z1, z2]) rfl ?_
      exact FirstPost.none ((X0.goD nq).goM (three_mod _ w.heap.size _ _ _) (fun i hi => Nat.le_of_eq (Eq.symm hi))) 31 (hF2.out.trans (if_pos (.inr (by omega))))
  have g7 : decide ((m : Int) < 2) = false := by simp; omega
  have g8 : decide (254 < (m : Int)) = false := by simp; omega
  by_cases hnm : n < 6 + m
  · have g9 : decide ((n : Int) < 6 + (m : Int)) = true := by simp; omega
    go_enter Try.func127, Try.ntmps127
    go_upto_region 5 with fail
    go_quiet (fail)
    go_wp2_with fail
    refine bodyPost_ret (v := .tuple #[.agg #[.int .u16 0, .int .u8 0, .slice none 0 0], .int .i64 0, .int .i64 0]) (by simp [results, Try.results127, go_sem, z0, z1, z2]) rfl ?_
    exact FirstPost.none ((X0.goD nq).goM (three_mod _ w.heap.size _ _ _) (fun i hi => Nat.le_of_eq (Eq.symm hi))) 0 (by rw [hF2.out, if_neg hm1, if_pos (by have := hlh.out; omega)])
  have g9 : decide ((n : Int) < 6 + (m : Int)) = false := by simp; omega
  go_enter Try.func127, Try.ntmps127
  go_upto_region 5 with fail
  go_quiet (fail)
  go_upto_region 10 with fail
  obtain ⟨p, hp⟩ : ∃ p, m = p + 1 := ⟨m - 1, by omega⟩
  have hF3 : Hid (firstR l = (256 * l.getD 0 0 + l.getD 1 0, l.getD 6 0, (l.drop 7).take p, 6 + m, 0)) := Lib.hid (by rw [hF2.out, if_neg hm1, if_neg (by have := hlh.out; omega), show m - 1 = p from by omega])
  clear hF2
  have hp1 : 1 ≤ p ∧ p ≤ 253 := by omega
  have hw1 : IntKind.i64.wrap ((m : Int) - 1) = (p : Int) := by rw [IntKind.wrap_i64]; omega
  have hmk := fun w => run_mkLC Try.underlying34 info_u8 (p : Int) (p : Int) p p rfl rfl (by omega) (by omega) (by omega) w
  have XU : Ext w ((w.alloc (.cells #[.int .u16 0, .int .u8 0, .slice none 0 0] 48)).drewN nq) := X0.goD nq
  have PU : ((w.alloc (.cells #[.int .u16 0, .int .u8 0, .slice none 0 0] 48)).drewN nq).heap[w.heap.size]? = some (.cells #[.int .u16 0, .int .u8 0, .slice none 0 0] 48 (0, 0)) := P0'.out
  have PU' := Lib.hid PU
  have rU := Lib.hid (hx0.out.ext ((Ext.refl (w.alloc (.cells #[.int .u16 0, .int .u8 0, .slice none 0 0] 48))).goD nq))
  have kU : Hid (∀ j, j < n → ((w.alloc (.cells #[.int .u16 0, .int .u8 0, .slice none 0 0] 48)).drewN nq).cell? ⟨b, o + j, none⟩ = some (.int .u8 (l.getD j 0))) := kk'
  have hmn : Hid (n ≥ 7 + p) := Lib.hid (by omega)
  clear z0 z1 z2 k2 k3 k4 k5 PU kk' hcell' hx0 P0' X0 hp g2 g3 g6 g7 g8 g9 hm hor
  generalize (w.alloc (.cells #[.int .u16 0, .int .u8 0, .slice none 0 0] 48)).drewN nq = U at *
  go_upto_region 11 with fail
  have bg := Blk.new U 5 .u8 (zs p)
  have E1 : Ext U (U.alloc (.cells (row .u8 (zs p)) 5)) := (Ext.refl U).goA _
  have r7 := (rU.out.ext E1).drop8 (lo := 7) (by have := hmn.out; omega)
  have r7' := Lib.hid r7
  have bg' := Lib.hid bg
  have hgl : U.heap.size < (U.alloc (.cells (row .u8 (zs p)) 5)).heap.size := bg.lt
  have v9 : ¬ c = 7 := by have := hmn.out; omega
  have v10 : (7 : Int) ≤ (n : Int) := by have := hmn.out; omega
  have v11 : (n : Int) ≤ (c : Int) := by omega
  have v12 : 7 ≤ n := by have := hmn.out; omega
  clear hmk bg r7 rU
  generalize hU1 : U.alloc (.cells (row .u8 (zs p)) 5) = U1 at *
  clear hU1
  go_upto_region 12 with ((with_reducible refine wpList_copyI rfl (.tmp 59) (.tmp 61) 34 34 rfl Try.underlying34 sz_u8 rfl rfl bg'.out (fun _ => rfl) (by rw [zs_length]; omega) r7'.out ?_); intro w2 hb2 m2)
  have hyl : ((l.drop 7).take p).length = p := by rw [List.length_take, List.length_drop]; have := hmn.out; omega
  have hs : splice (zs p) 0 ((l.drop 7).take p) = (l.drop 7).take p := splice_all8 (by rw [hyl, zs_length])
  rw [hs] at hb2
  have hb2' := Lib.hid hb2
  have nb : b < U.heap.size := cell_lt (kU.out 0 (by omega))
  have hkw : ∀ j, j < n → w2.cell? ⟨b, o + j, none⟩ = some (.int .u8 (l.getD j 0)) := fun j hj => (m2.cell _ (Nat.lt_of_lt_of_le nb E1.size) (by omega)).trans ((E1.cell _ nb).trans (kU.out j hj))
  have y0 := hkw 0 (by omega)
  have y1 := hkw 1 (by omega)
  have y6 := hkw 6 (by omega)
  have q0 := hl 0
  have q1 := hl 1
  have q6 := hl 6
  rw [← List.getD_eq_getElem?_getD] at q0 q1 q6
  have hlb := Lib.hid hl
  have hzz : w2.heap[w.heap.size]? = some (.cells #[.int .u16 0, .int .u8 0, .slice none 0 0] 48 (0, 0)) := (m2.block _ (Nat.lt_of_lt_of_le (lt_of_block PU'.out) E1.size) (by have := lt_of_block PU'.out; omega)).trans ((E1.block _ (lt_of_block PU'.out)).trans PU'.out)
  have hzz' := Lib.hid hzz
  have E2 : Ext w w2 := (XU.go E1).goM m2 (fun i hi => by have := XU.size; omega)
  have hyl' := Lib.hid hyl
  rw [Nat.add_zero] at y0
  generalize l.getD 0 0 = x0 at *
  generalize l.getD 1 0 = x1 at *
  generalize l.getD 6 0 = x6 at *
  have a1 : IntKind.u16.wrap x0 = x0 := by rw [IntKind.wrap_u16]; omega
  have a2 : IntKind.u16.wrap (x0 * 256) = x0 * 256 := by rw [IntKind.wrap_u16]; omega
  have a3 : IntKind.u16.wrap x1 = x1 := by rw [IntKind.wrap_u16]; omega
  have a4 : bits .or .u16 (x0 * 256) x1 = 256 * x0 + x1 := u16_or x0 x1 q0.1 q0.2 q1.1 q1.2
  have Y0 : ∀ w', Ext w2 w' → w'.cell? ⟨b, o, none⟩ = some (.int .u8 x0) := fun w' E => (E.cell _ (cell_lt y0)).trans y0
  have Y1 : ∀ w', Ext w2 w' → w'.cell? ⟨b, o + 1, none⟩ = some (.int .u8 x1) := fun w' E => (E.cell _ (cell_lt y1)).trans y1
  have Y6 : ∀ w', Ext w2 w' → w'.cell? ⟨b, o + 6, none⟩ = some (.int .u8 x6) := fun w' E => (E.cell _ (cell_lt y6)).trans y6
  have i0 : 0 < n := by omega
  have i1 : (1 : Int) < (n : Int) := by omega
  have i1' : 1 < n := by omega
  have i6 : (6 : Int) < (n : Int) := by omega
  have i6' : 6 < n := by omega
  have hlw : w.heap.size < U.heap.size := lt_of_block PU'.out
  clear hs hyl hb2 hkw hzz y0 y1 y6 bg' r7' hl kU m2 PU'
  go_upto_region 12 with fail
  refine wp_region_held_drew (S := fun w' => Ext w2 w') (by kernel_rfl) ((Ext.refl w2).god) (fun hHeld => ?_)
  refine tk 0 ?_
  try simp only [Act.put, gA, gC, List.setIfInBounds_toArray, gE, gF]
  refine tk 1 ?_
  try simp only [Act.put, gA, gB, gC, List.setIfInBounds_toArray, gE, gF]
  refine tk 2 ?_
  try simp only [Act.put, gA, gB, gC, List.setIfInBounds_toArray, gE, gF]
  refine tk 3 ?_
  try simp only [Act.put, gA, gB, gC, List.setIfInBounds_toArray, gE, gF]
  refine tk 4 ?_
  try simp only [Act.put, gA, gB, gC, List.setIfInBounds_toArray, gE, gF]
  refine tk 5 ?_
  try simp only [Act.put, gA, gB, gC, List.setIfInBounds_toArray, gE, gF]
  refine tk 6 ?_
  try simp only [Act.put, gA, gB, gC, List.setIfInBounds_toArray, gE, gF]
  refine tk 7 ?_
  try simp only [Act.put, gA, gB, gC, List.setIfInBounds_toArray, gE, gF]
  refine tk 8 ?_
  try simp only [Act.put, gA, gB, gC, List.setIfInBounds_toArray, gE, gF]
  refine tk 9 ?_
  try simp only [Act.put, gA, gB, gC, List.setIfInBounds_toArray, gE, gF]
  refine tk 10 ?_
  try simp only [Act.put, gA, gB, gC, List.setIfInBounds_toArray, gE, gF]
  refine tk 11 ?_
  try simp only [Act.put, gA, gB, gC, List.setIfInBounds_toArray, gE, gF]
  refine tk 12 ?_
  try simp only [Act.put, gA, gB, gC, List.setIfInBounds_toArray, gE, gF]
  refine tk 13 ?_
  try simp only [Act.put, gA, gB, gC, List.setIfInBounds_toArray, gE, gF]
  refine tk 14 ?_
  try simp only [Act.put, gA, gB, gC, List.setIfInBounds_toArray, gE, gF]
  refine wpAnyH_ready (rs := [15]) (by kernel_rfl) (by simp) ?_
  refine AllReadyH.cons rfl (fun K hK => ?_) ?_
  rotate_left
  · exact AllReadyH.nil
  go_simp
  refine hK.out _ _ ?_ (fun hHeld => ?_)
  · exact Ext.goA hHeld _
  clear hK K
  try simp only [Act.put, gA, gB, gC, List.setIfInBounds_toArray, gE, gF]
  refine wpAnyH_ready (rs := [16]) (by kernel_rfl) (by simp) ?_
  refine AllReadyH.cons rfl (fun K hK => ?_) ?_
  rotate_left
  · exact AllReadyH.nil
  go_simp
  refine hK.out _ _ ?_ (fun hHeld => ?_)
  · exact Ext.goA ((Ext.refl w2).god) _
  clear hK K
  try simp only [Act.put, gA, gB, gC, List.setIfInBounds_toArray, gE, gF]
  refine wpAnyH_done (by kernel_rfl) ?_ _
  have h9 : (w2.alloc (.cells #[.int .u16 (256 * x0 + x1), .int .u8 x6, .slice (some ⟨U.heap.size, 0, none⟩) p p] 48)).drew.heap[w2.heap.size]? = some (.cells #[.int .u16 (256 * x0 + x1), .int .u8 x6, .slice (some ⟨U.heap.size, 0, none⟩) p p] 48 (0, 0)) := heap_alloc_new w2 _
  have E9 : Ext w2 (w2.alloc (.cells #[.int .u16 (256 * x0 + x1), .int .u8 x6, .slice (some ⟨U.heap.size, 0, none⟩) p p] 48)).drew := ((Ext.refl w2).goA _).god
  clear hHeld Y0 Y1 Y6
  generalize (w2.alloc (.cells #[.int .u16 (256 * x0 + x1), .int .u8 x6, .slice (some ⟨U.heap.size, 0, none⟩) p p] 48)).drew = w9 at *
  have P9 := (E9.block _ (lt_of_block hzz'.out)).trans hzz'.out
  have d0 : w9.cell? ⟨w2.heap.size, 0, none⟩ = some (.int .u16 (256 * x0 + x1)) := cellsAt h9 0
  have d1 : w9.cell? ⟨w2.heap.size, 1, none⟩ = some (.int .u8 x6) := cellsAt h9 1
  have d2 : w9.cell? ⟨w2.heap.size, 2, none⟩ = some (.slice (some ⟨U.heap.size, 0, none⟩) p p) := cellsAt h9 2
  have e0 : w9.cell? ⟨w.heap.size, 0, none⟩ = some (.int .u16 0) := cellsAt P9 0
  have e1 : w9.cell? ⟨w.heap.size, 1, none⟩ = some (.int .u8 0) := cellsAt P9 1
  have e2 : w9.cell? ⟨w.heap.size, 2, none⟩ = some (.slice none 0 0) := cellsAt P9 2
  have ff := fun j => frozen_block P9 j
  have P9' := Lib.hid P9
  have wk : IntKind.i64.wrap (6 + (m : Int)) = 6 + (m : Int) := by rw [IntKind.wrap_i64]; omega
  clear P9 h9
  go_wp2_with fail
  have hb0 := crc_block P9'.out 0 (.int .u16 (256 * x0 + x1))
  have hb1' := crc_block hb0 1 (.int .u8 x6)
  have hb2'' := crc_block hb1' 2 (.slice (some ⟨U.heap.size, 0, none⟩) p p)
  have M3 := three_mod w9 w.heap.size (.int .u16 (256 * x0 + x1)) (.int .u8 x6) (.slice (some ⟨U.heap.size, 0, none⟩) p p)
  generalize ((w9.setCell ⟨w.heap.size, 0, none⟩ (.int .u16 (256 * x0 + x1))).setCell ⟨w.heap.size, 1, none⟩ (.int .u8 x6)).setCell ⟨w.heap.size, 2, none⟩ (.slice (some ⟨U.heap.size, 0, none⟩) p p) = wf at *
  have u0 : wf.cell? ⟨w.heap.size, 0, none⟩ = some (.int .u16 (256 * x0 + x1)) := cellsAt hb2'' 0
  have u1 : wf.cell? ⟨w.heap.size, 1, none⟩ = some (.int .u8 x6) := cellsAt hb2'' 1
  have u2 : wf.cell? ⟨w.heap.size, 2, none⟩ = some (.slice (some ⟨U.heap.size, 0, none⟩) p p) := cellsAt hb2'' 2
  refine bodyPost_ret (v := .tuple #[.agg #[.int .u16 (256 * x0 + x1), .int .u8 x6, .slice (some ⟨U.heap.size, 0, none⟩) p p], .int .i64 (6 + (m : Int)), .int .i64 0]) (by simp [results, Try.results127, go_sem, u0, u1, u2]) rfl ?_
  have hsU := XU.size
  have hr := ((hb2'.out.rd (B := w2.heap.size) hb2'.out.lt).ext E9)
  rw [hyl'.out] at hr
  refine ⟨(E2.go E9).goM M3 (fun i hi => Nat.le_of_eq (Eq.symm hi)), 256 * x0 + x1, x6, some ⟨U.heap.size, 0, none⟩, p, p, (l.drop 7).take p, 6 + m, 0, by simp, by omega, by omega, Nat.le_refl _, by unfold maxLen; omega, hr.modS (fun _ b o e hb => ?_) M3, ?_, fun b o e => ?_, by omega, hF3.out⟩
  · simp only [Option.some.injEq, Addr.mk.injEq] at e
    omega
  · intro j
    rcases Nat.lt_or_ge j p with hj | hj
    · rw [List.getElem?_take_of_lt hj, List.getElem?_drop]; exact hlb.out _
    · rw [List.getElem?_eq_none (by rw [hyl'.out]; exact hj)]; simp
  · simp only [Option.some.injEq, Addr.mk.injEq] at e
    omega
end
end Go.Proofs.Ytgagpalffdgjnaa
namespace Go.Proofs.Ytgagpalffdgjnaa
open Go.RowKit Go.Shelf
attribute [local go_sem] Oper.semAt_some

/-- How long a slice is. -/
def lenV : Value → Nat
  | .slice _ n _ => n
  | _ => 0
section
variable (n l Bb Be Bq : Nat) (A : Option Addr) (N c : Nat) (xs : List Int) (J : Nat → World → Prop) (JE : Nat → Int → World → Prop)
set_option maxRecDepth 100000 in
set_option maxHeartbeats 3200000 in
theorem frames1_in (hx : ByteL xs) (hNc : N ≤ c) (hcm : c ≤ maxLen)
    (hJin : ∀ m W, J m W → W.cell? ⟨Bb, 0, none⟩ = some (.slice A N c) ∧ W.cell? ⟨Be, 0, none⟩ = some (.pointer (some ⟨Bq, 0, none⟩)) ∧ (∃ v, W.cell? ⟨Bq, 0, none⟩ = some (.int .i64 v)) ∧ W.frozen? ⟨Bq, 0, none⟩ = false ∧ RdI W W.heap.size .u8 A N xs)
    (hJE : ∀ m W W', J m W → Ext W W' → J m W') (hJq : ∀ m W v, J m W → JE m v (W.setCell ⟨Bq, 0, none⟩ (.int .i64 v)))
    (hY : ∀ m W0 W id u A' n' c' ys (k : Nat), J m W0 → Ext W0 W → 0 < k → m + k ≤ N → (0 ≤ id ∧ id ≤ 65535) → (0 ≤ u ∧ u ≤ 255) → RdI W W.heap.size .u8 A' n' ys → ByteL ys → n' ≤ c' → c' ≤ maxLen → (∀ b o, A' = some ⟨b, o, none⟩ → W0.heap.size ≤ b) → firstR (xs.drop m) = (id, u, ys, k, 0) →
      YieldAt Fence.wide (n - 1) Try.prog l #[.agg #[.int .u16 id, .int .u8 u, .slice A' n' c'], .int .i64 (k : Int)] W fun e W' => e = .returned (.bool true) ∧ J (m + k) W')
    (W : World) (h0 : J 0 W) :
    CallsIn Fence.wide n Try.prog 126 #[.func (.yield l) #[] #[], .pointer (some ⟨Bb, 0, none⟩), .pointer (some ⟨Be, 0, none⟩)] W fun e W' => (∃ v, e = .returned v) ∧ ∃ m err, m ≤ N ∧ JE m err W' ∧ ∃ id u ys k, firstR (xs.drop m) = (id, u, ys, k, err) ∧ (err ≠ 0 ∨ k = 0) := by
  refine callsIn_of_wp Try.func126 rfl trivial ?_ rfl
  simp only [Try.ntmps126, List.size_toArray, List.length_cons, List.length_nil, Nat.reduceAdd, Nat.reduceSub, Array.replicate_succ, Array.replicate_zero, List.push_toArray, List.append_toArray, List.nil_append, List.cons_append]
  obtain ⟨cb, _⟩ := hJin 0 W h0
  gi_wp2
  gi_loopw [4] (fun p wr => ∃ (m n4 c4 : Nat) (A4 : Option Addr), p = .slice A4 n4 c4 ∧ n4 = N - m ∧ m ≤ N ∧ n4 ≤ c4 ∧ c4 ≤ maxLen ∧ (0 < n4 → ∃ b o, A = some ⟨b, o, none⟩ ∧ A4 = some ⟨b, o + m, none⟩) ∧ J m wr) (fun p _ => lenV p)
  case atStart =>
    refine ⟨0, N, c, A, rfl, by omega, by omega, hNc, hcm, fun hn => ?_, h0⟩
    obtain ⟨b, o, e, _⟩ := (hJin 0 W h0).2.2.2.2.2 hn
    exact ⟨b, o, e, by rw [e, Nat.add_zero]⟩
  case round =>
    obtain ⟨m, n4, c4, A4, rfl, hn4, hmN, h4c, h4m, hA4, hJ⟩ := hrel
    obtain ⟨hb, he, ⟨vq, hq⟩, hfq, hrd⟩ := hJin m _ hJ
    have hr4 : RdI wr wr.heap.size .u8 A4 n4 (xs.drop m) := ⟨by rw [List.length_drop, hrd.len]; omega, fun hn => by
      obtain ⟨b, o, e1, e2⟩ := hA4 hn
      obtain ⟨b', o', e', hlt, hc⟩ := hrd.2 (by omega)
      rw [e1] at e'
      simp only [Option.some.injEq, Addr.mk.injEq, and_true] at e'
      obtain ⟨rfl, rfl⟩ := e'
      exact ⟨b, o + m, e2, hlt, fun j hj => by rw [Nat.add_assoc, hc (m + j) (by omega), List.getD_eq_getElem?_getD, List.getD_eq_getElem?_getD, List.getElem?_drop]⟩⟩
    have hl4 : ByteL (xs.drop m) := fun j => by rw [List.getElem?_drop]; exact hx _
    have hfirst := callsIn_wide (n := n - 1).2 (mbapFirst_any A4 n4 c4 (xs.drop m) wr hr4 hl4 h4c h4m)
    have hn4' := Lib.hid hn4
    have hA4' := Lib.hid hA4
    have hJ' := Lib.hid hJ
    have hrd' := Lib.hid hrd
    have hx' := Lib.hid hx
    have hJin' := Lib.hid hJin
    have hJE' := Lib.hid hJE
    have hJq' := Lib.hid hJq
    have hY' := Lib.hid hY
    clear hn4 hA4 hJ hrd hr4 hl4 hx hJin hJE hJq hY h0
    gi_wp2
    refine ⟨trivial, fun h => Bool.noConfusion h, ?_⟩
    refine hfirst.mono ?_
    rintro _ w1 ⟨E1, id, u, Af, nf, cf, ys, k, err, rfl, hid, hu, hnf, hcf, rf, hys, hff, hk, hfr⟩
    dsimp only
    have hkn : k ≤ n4 := by have := hn4'.out; have := hrd'.out.len; rw [List.length_drop] at hk; omega
    have E2 : Ext w1 (w1.alloc (.cells #[.int .u16 id, .int .u8 u, .slice Af nf cf] 48)) := (Ext.refl w1).goA _
    have b2 := heap_alloc_new w1 (.cells #[.int .u16 id, .int .u8 u, .slice Af nf cf] 48)
    have J2 := Lib.hid (hJE'.out m wr _ hJ'.out (E1.go E2))
    obtain ⟨hb2, he2, ⟨vq2, hq2⟩, hfq2, hrd2⟩ := hJin'.out m _ J2.out
    have hrd2' := Lib.hid hrd2
    have a0 : (w1.alloc (.cells #[.int .u16 id, .int .u8 u, .slice Af nf cf] 48)).cell? ⟨w1.heap.size, 0, none⟩ = some (.int .u16 id) := cellsAt b2 0
    have a1 : (w1.alloc (.cells #[.int .u16 id, .int .u8 u, .slice Af nf cf] 48)).cell? ⟨w1.heap.size, 1, none⟩ = some (.int .u8 u) := cellsAt b2 1
    have a2 : (w1.alloc (.cells #[.int .u16 id, .int .u8 u, .slice Af nf cf] 48)).cell? ⟨w1.heap.size, 2, none⟩ = some (.slice Af nf cf) := cellsAt b2 2
    have rf2 := Lib.hid (rf.ext E2)
    have hmN' := Lib.hid hmN
    have hfr' := Lib.hid hfr
    clear hfr
    clear b2 hrd2 rf hb he hq hfq hfirst
    by_cases herr : err = 0
    rotate_left
    · have t1 : (err != 0) = true := bne_iff_ne.2 herr
      gi_wp2
      refine bodyPost_ret (results_none rfl _ _ _) rfl ?_
      exact ⟨⟨_, rfl⟩, m, err, hmN'.out, hJq'.out _ _ _ J2.out, id, u, ys, k, hfr'.out, .inl herr⟩
    subst herr
    by_cases hk0 : k = 0
    · subst hk0
      gi_wp2
      refine bodyPost_ret (results_none rfl _ _ _) rfl ?_
      exact ⟨⟨_, rfl⟩, m, 0, hmN'.out, hJq'.out _ _ _ J2.out, id, u, ys, 0, hfr'.out, .inr rfl⟩
    · have tk : (k == 0) = false := by simpa using hk0
      have tk' : ((k : Int) == 0) = false := by simp; exact hk0
      have hn0 : 0 < n4 := by omega
      obtain ⟨b, o, hAe, hA4e⟩ := hA4'.out hn0
      obtain ⟨fn, tmps, assign, body, hy, hR⟩ := hY'.out m wr _ id u Af nf cf ys k hJ'.out (E1.go E2) (Nat.pos_of_ne_zero hk0) (by have := hn4'.out; have := hmN'.out; omega) hid hu rf2.out hys hnf hcf hff hfr'.out
      have s1 : (k : Int) ≤ (n4 : Int) := by omega
      have s2 : (n4 : Int) ≤ (c4 : Int) := by omega
      have s3 : (0 : Int) ≤ (k : Int) := by omega
      have s4 : k ≤ n4 := hkn
      have s5 : k ≤ c4 := by omega
      subst hA4e
      have hAe' := Lib.hid hAe
      clear hAe
      by_cases hck : c4 = k
      · gi_wp2
        refine ⟨fun h => Bool.noConfusion h, hR.mono ?_⟩
        rintro e W3 ⟨rfl, hJ3⟩
        have hJ3' := Lib.hid hJ3
        clear hJ3
        gi_wp2
        go_roundw
        case rel => exact ⟨m + k, n4 - k, 0, some ⟨b, o + m, none⟩, by simp, by have := hn4'.out; omega, by have := hn4'.out; have := hmN'.out; omega, by omega, by unfold maxLen; omega, fun h => by omega, hJ3'.out⟩
        case measure => simp [lenV]; omega
      · gi_wp2
        refine ⟨fun h => Bool.noConfusion h, hR.mono ?_⟩
        rintro e W3 ⟨rfl, hJ3⟩
        have hJ3' := Lib.hid hJ3
        clear hJ3
        gi_wp2
        go_roundw
        case rel => exact ⟨m + k, n4 - k, c4 - k, some ⟨b, o + m + k, none⟩, rfl, by have := hn4'.out; omega, by have := hn4'.out; have := hmN'.out; omega, by omega, by omega, fun h => ⟨b, o, hAe'.out, by rw [Nat.add_assoc]⟩, hJ3'.out⟩
        case measure => simp [lenV]; omega
end
end Go.Proofs.Ytgagpalffdgjnaa
