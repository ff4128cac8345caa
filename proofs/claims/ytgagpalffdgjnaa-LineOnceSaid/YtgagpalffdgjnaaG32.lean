/- Layer 21, the walks: frame, send. · Layer 21, the walks: end. -/
import Derived.Test.YtgagpalffdgjnaaG30
import Derived.Test.YtgagpalffdgjnaaG31
import Derived.Test.YtgagpalffdgjnaaG09
import Derived.Deep.RegionHeld3
import Derived.Handy
namespace Go.Proofs.Ytgagpalffdgjnaa
open Go.RowKit

section
variable (u : Int) (A : Option Addr) (n c : Nat) (l : List Int) (w : World)
set_option maxRecDepth 100000 in
set_option maxHeartbeats 800000 in
theorem serFrame_any (u0 : 0 ≤ u) (u1 : u ≤ 255) (hx : RdI w w.heap.size .u8 A n l) (hl : ByteL l) (hn : n ≤ maxLen) :
    Calls Try.prog 148 #[.agg #[], .int .u8 u, .slice A n c] w (FreshI .u8 (rtuL u l) w) := by
  have E0 := (Ext.refl w).goA (.cells #[] 99)
  have hc := rtuPut_any u A n c l _ u0 u1 (hx.ext E0) hl hn
  go_enter Try.func148, Try.ntmps148
  go_wp2_with (go_at_call 89; refine hc.mono ?_; rintro _ w1 ⟨A1, n1, c1, rfl, g1, g2, r1, E1, fr1⟩; dsimp only)
  go_ret
  exact ⟨A1, n1, c1, rfl, g1, g2, r1, E0.go E1, fun b o e => by have := fr1 b o e; have := E0.size; omega⟩
set_option maxRecDepth 100000 in
set_option maxHeartbeats 800000 in
theorem strFrame_any (s : Nat) (num : Int) (cA : Option Addr) (cn cc : Nat) (hs : w.heap[s]? = some (.cells #[.int .u16 num, .slice cA cn cc] 108 (0, 0))) (hx : RdI w w.heap.size .u8 A n l) (hoff : OffB (fun i => i = s) A n) (hn : n ≤ maxLen) :
    Calls Try.prog 151 #[.pointer (some ⟨s, 0, none⟩), .int .u8 u, .slice A n c] w fun e w' =>
      ∃ A n c, e = .returned (.slice A n c) ∧ n ≤ c ∧ c ≤ maxLen ∧ RdI w' w'.heap.size .u8 A n (mbapL ((num + 1) % 65536) u l) ∧ Mod (fun i => i = s) w w' ∧ w'.heap[s]? = some (.cells #[.int .u16 ((num + 1) % 65536), .slice cA cn cc] 108 (0, 0)) ∧ ∀ b o, A = some ⟨b, o, none⟩ → w.heap.size ≤ b := by
  have c0 := cellsAt hs 0
  have f0 := frozen_block hs 0
  have hw : IntKind.u16.wrap (num + 1) = (num + 1) % 65536 := by rw [IntKind.wrap_u16]
  have hb := sets_block hs 0 (.int .u16 ((num + 1) % 65536))
  have M := (Mod.refl (fun i => i = s) w).setCell (p := ⟨s, 0, none⟩) (.inl rfl) (.int .u16 ((num + 1) % 65536))
  have hx1 := hx.modS hoff M
  have hsz : (w.setCell ⟨s, 0, none⟩ (.int .u16 ((num + 1) % 65536))).heap.size = w.heap.size := by simp [World.setCell]
  have hc := mbapPut_any ((num + 1) % 65536) u A n c l _ (by omega) (by omega) hx1 hn
  have d0 := cellsAt hb 0
  have hb' := Lib.hid hb
  have M' := Lib.hid M
  clear hb hx1 M hs hx hoff
  have hw' := Lib.hid hw
  go_enter Try.func151, Try.ntmps151
  go_wp2_with (go_at_call 93; refine hc.mono ?_; rintro _ w1 ⟨A1, n1, c1, rfl, g1, g2, r1, E1, fr1⟩; dsimp only)
  go_ret
  exact ⟨A1, n1, c1, rfl, g1, g2, r1, M'.out.trans (E1.mod _), (E1.block s (lt_of_block hb'.out)).trans hb'.out, fun b o e => by have := fr1 b o e; omega⟩
end

/-- What is sent. -/
def frameL (k : Bool) (num u : Int) (l : List Int) : List Int := if k then mbapL num u l else rtuL u l
def nextNum (k : Bool) (num : Int) : Int := if k then (num + 1) % 65536 else num
def sentBytes (k : Bool) (L : Lp) : List Int := frameL k (nextNum k L.num) L.J.un (putL L.J.fc L.J.ad L.J.qt L.J.to L.J.xs)
def sentL (k : Bool) (L : Lp) (now : Int) : Lp := { L with sent := now, times := L.times + 1, num := nextNum k L.num }
/-- Bytes that are handed back: new ones. -/
def BytesOut (w w' : World) (e : Value) (l : List Int) : Prop := ∃ A n c, e = .slice A n c ∧ n ≤ c ∧ c ≤ maxLen ∧ RdI w' w'.heap.size .u8 A n l ∧ ∀ b o, A = some ⟨b, o, none⟩ → w.heap.size ≤ b
def SendPost (k : Bool) (a q cu co s : Nat) (re wa : Int) (M : Lm) (now : Int) (w : World) (e : Ending) (w' : World) : Prop :=
  ∃ v, e = .returned v ∧ BytesOut w w' v (sentBytes k M.p) ∧ Mod (LnB k a q cu co s) w w' ∧ ∃ M', M'.p = sentL k M.p now ∧ HasLn k w' a q cu co s re wa M'
def StB (k : Bool) (s : Nat) : Nat → Prop := fun i => k = true ∧ i = s
theorem line_set {k : Bool} {w : World} {a q s : Nat} {re wa now sent times : Int} {busy : Bool} {J : Jm} (h : w.heap[a]? = some (.cells (lineCells k s q re wa busy J sent times) 105 (0, 0))) :
    (w.setCell ⟨a, 13, none⟩ (.int .i64 now)).heap[a]? = some (.cells (lineCells k s q re wa busy J now times) 105 (0, 0)) ∧
    ((w.setCell ⟨a, 13, none⟩ (.int .i64 now)).setCell ⟨a, 14, none⟩ (.int .i64 (times + 1))).heap[a]? = some (.cells (lineCells k s q re wa busy J now (times + 1)) 105 (0, 0)) := by
  have h1 := sets_block h 13 (.int .i64 now)
  exact ⟨h1, sets_block h1 14 (.int .i64 (times + 1))⟩
theorem HasLn.line {k : Bool} {w w' : World} {a q cu co s : Nat} {re wa : Int} {M : Lm} (h : HasLn k w a q cu co s re wa M) (m : Mod (fun i => i = a) w w') (busy : Bool) (J : Jm) (sent times : Int)
    (hh : w'.heap[a]? = some (.cells (lineCells k s q re wa busy J sent times) 105 (0, 0))) (hj : busy = true → OkJ w (LnB k a q cu co s) J ∧ J.p.ok) (ti : 0 ≤ times ∧ times ≤ 8) (se : 0 ≤ sent ∧ sent ≤ 1099511627776) :
    HasLn k w' a q cu co s re wa { M with busy := busy, J := J, sent := sent, times := times } := by
  have mL : Mod (LnB k a q cu co s) w w' := m.weak (fun i hi => .inl hi)
  have hap := h.apart
  refine ⟨hh, h.qu.mod m ?_, ?_, fun hk => (h.tr hk).modS mL (m.block s (h.lt (.inr (.inr (.inr (.inr ⟨hk, rfl⟩))))) (Ne.symm (hap.2.2.2 hk).1)), h.num, h.re, h.wa, h.ul, h.ol, ti, se⟩
  · rintro b (rfl | rfl | rfl)
    · exact Ne.symm hap.1
    · exact Ne.symm hap.2.1
    · exact Ne.symm hap.2.2.1
  · intro j hj'
    rcases hj' with hj' | hj' | ⟨hb, rfl⟩
    · exact ⟨(h.jobs j (.inl hj')).1.modS mL, (h.jobs j (.inl hj')).2⟩
    · exact ⟨(h.jobs j (.inr (.inl hj'))).1.modS mL, (h.jobs j (.inr (.inl hj'))).2⟩
    · exact ⟨(hj hb).1.modS mL, (hj hb).2⟩
theorem off_str {w : World} {s B n cn cc : Nat} {x : Int} {cA A : Option Addr} {l : List Int} {t : TypeId} (hs : w.heap[s]? = some (.cells #[.int .u16 x, .slice cA cn cc] t (0, 0))) (h : RdI w B .u8 A n l) : OffB (fun i => i = s) A n := fun hn b o e hb => by
  obtain ⟨b', o', e', _, hc⟩ := h.2 hn
  rw [e] at e'
  simp only [Option.some.injEq, Addr.mk.injEq, and_true] at e'
  obtain ⟨rfl, rfl⟩ := e'
  subst hb
  have h1 := hc 0 hn
  rw [cellsAt hs] at h1
  rcases o with _ | _ | o <;> simp at h1
theorem HasLn.num_set {w w' : World} {a q cu co s : Nat} {re wa : Int} {M : Lm} (h : HasLn true w a q cu co s re wa M) (m : Mod (fun i => i = s) w w') (num' : Int) (hn : 0 ≤ num' ∧ num' ≤ 65535)
    (hs : ∀ A n c, w.heap[s]? = some (.cells #[.int .u16 M.num, .slice A n c] 108 (0, 0)) → w'.heap[s]? = some (.cells #[.int .u16 num', .slice A n c] 108 (0, 0))) : HasLn true w' a q cu co s re wa { M with num := num' } := by
  have hne := h.apart.2.2.2 rfl
  have mL : Mod (LnB true a q cu co s) w w' := m.weak (fun i hi => .inr (.inr (.inr (.inr ⟨rfl, hi⟩))))
  refine ⟨(m.block a (lt_of_block h.head) hne.1).trans h.head, h.qu.mod m ?_, fun j hj => ⟨(h.jobs j hj).1.modS mL, (h.jobs j hj).2⟩, fun hk => ?_, hn, h.re, h.wa, h.ul, h.ol, h.ti, h.se⟩
  · rintro b (rfl | rfl | rfl)
    · exact hne.2.1
    · exact hne.2.2.1
    · exact hne.2.2.2
  · obtain ⟨A, n, c, hb, hr, hl, h1, h2, h3⟩ := h.tr rfl
    exact ⟨A, n, c, hs A n c hb, hr.modS h3 mL, hl, h1, h2, h3⟩
section
variable (a q cu co s : Nat) (re wa : Int) (M : Lm) (now : Int) (w : World)
set_option maxRecDepth 100000 in
set_option maxHeartbeats 3200000 in
theorem lineSend_ser (h : HasLn false w a q cu co s re wa M) (hb : M.busy = true) (ht : M.times ≤ 7) (n0 : 0 ≤ now) (n1 : now ≤ 1099511627776) :
    Calls Try.prog 47 #[.pointer (some ⟨a, 0, none⟩), .int .i64 now] w (SendPost false a q cu co s re wa M now w) := by
  have h' := Lib.hid h
  obtain ⟨p1, p2⟩ := line_set (now := now) h.head
  have f0 := fun j => frozen_block h.head j
  have f1 := fun j => frozen_block p1 j
  have c14 : (w.setCell ⟨a, 13, none⟩ (.int .i64 now)).cell? ⟨a, 14, none⟩ = some (.int .i64 M.times) := cellsAt p1 14
  have hw : IntKind.i64.wrap (M.times + 1) = M.times + 1 := by rw [IntKind.wrap_i64]; have := h.ti; omega
  have c13 := h.cells.2.2.2.2.2.2.2.2.2.2.2.2.2.1
  have M0 : Mod (fun i => i = a) w ((w.setCell ⟨a, 13, none⟩ (.int .i64 now)).setCell ⟨a, 14, none⟩ (.int .i64 (M.times + 1))) := ((Mod.refl (fun i => i = a) w).setCell (p := ⟨a, 13, none⟩) (.inl rfl) _).setCell (p := ⟨a, 14, none⟩) (.inl rfl) _
  have p2' := Lib.hid p2
  have un := (h.jobs M.J (.inr (.inr ⟨hb, rfl⟩))).2
  have hwu : IntKind.u8.wrap M.J.p.un = M.J.p.un := by rw [IntKind.wrap_u8]; have := un.1; have := un.2.1; omega
  have u0 : 0 ≤ M.J.p.un ∧ M.J.p.un ≤ 255 := by have := un.1; have := un.2.1; omega
  have un' := Lib.hid un
  have h2' := Lib.hid (h.line M0 M.busy M.J now (M.times + 1) p2 (fun _ => ⟨(h.jobs M.J (.inr (.inr ⟨hb, rfl⟩))).1, un⟩) (by have := h.ti; omega) ⟨n0, n1⟩)
  clear p1 p2 h un
  go_enter Try.func47, Try.ntmps47
  go_upto_region 3 with fail
  generalize (w.setCell ⟨a, 13, none⟩ (.int .i64 now)).setCell ⟨a, 14, none⟩ (.int .i64 (M.times + 1)) = w2 at *
  have hcs : ∀ w', Ext w2 w' → _ := fun w' E => (h2'.out.ext E).cells
  have d0 : ∀ w', Ext w2 w' → w'.cell? ⟨a, 0, none⟩ = some (.iface 99 (.agg #[])) := fun w' E => (hcs w' E).1
  have d6 : ∀ w', Ext w2 w' → w'.cell? ⟨a, 6, none⟩ = some (.int .i64 M.J.p.un) := fun w' E => (hcs w' E).2.2.2.2.2.2.1
  have d7 : ∀ w', Ext w2 w' → w'.cell? ⟨a, 7, none⟩ = some (.int .i64 M.J.p.fc) := fun w' E => (hcs w' E).2.2.2.2.2.2.2.1
  have d8 : ∀ w', Ext w2 w' → w'.cell? ⟨a, 8, none⟩ = some (.int .i64 M.J.p.ad) := fun w' E => (hcs w' E).2.2.2.2.2.2.2.2.1
  have d9 : ∀ w', Ext w2 w' → w'.cell? ⟨a, 9, none⟩ = some (.int .i64 M.J.p.qt) := fun w' E => (hcs w' E).2.2.2.2.2.2.2.2.2.1
  have d10 : ∀ w', Ext w2 w' → w'.cell? ⟨a, 10, none⟩ = some (.slice M.J.A M.J.n M.J.c) := fun w' E => (hcs w' E).2.2.2.2.2.2.2.2.2.2.1
  have d11 : ∀ w', Ext w2 w' → w'.cell? ⟨a, 11, none⟩ = some (.int .i64 M.J.p.to) := fun w' E => (hcs w' E).2.2.2.2.2.2.2.2.2.2.2.1
  have hput : ∀ w', Ext w2 w' → _ := fun w' E => pduPut_any M.J.p.fc M.J.p.ad M.J.p.qt M.J.p.to M.J.A M.J.n M.J.c M.J.p.xs w' ((h2'.out.ext E).jobs M.J (.inr (.inr ⟨hb, rfl⟩))).1.rd un'.out.2.2.2 (by have hO := ((h2'.out).jobs M.J (.inr (.inr ⟨hb, rfl⟩))).1; exact Nat.le_trans hO.nc hO.cm)
  clear hcs
  refine wp_region_held_drew (S := fun w' => Ext w2 w') (by kernel_rfl) ((Ext.refl w2).god) (fun hHeld => ?_)
  refine wpAnyH_take (i := 0) (oi := _) (v := ?_) rfl (by kernel_rfl) (by kernel_rfl) (by kernel_rfl) (fun _ _ _ h => h) (Or.inl ⟨by rfl, ?_⟩) (by assumption) ?_
  rotate_left
  · intro w hSw
    (try dsimp only at hSw)
    go_simp
    try (with_reducible rfl)
  try simp only [Act.put, List.getElem_toArray, List.getElem_cons_zero, List.setIfInBounds_toArray, List.set_cons_zero, List.set_cons_succ]
  refine wpAnyH_take (i := 1) (oi := _) (v := ?_) rfl (by kernel_rfl) (by kernel_rfl) (by kernel_rfl) (fun _ _ _ h => h) (Or.inl ⟨by rfl, ?_⟩) (by assumption) ?_
  rotate_left
  · intro w hSw
    (try dsimp only at hSw)
    go_simp
    try (with_reducible rfl)
  try simp only [Act.put, List.getElem_toArray, List.getElem_cons_succ, List.getElem_cons_zero, List.setIfInBounds_toArray, List.set_cons_zero, List.set_cons_succ]
  refine wpAnyH_take (i := 2) (oi := _) (v := ?_) rfl (by kernel_rfl) (by kernel_rfl) (by kernel_rfl) (fun _ _ _ h => h) (Or.inl ⟨by rfl, ?_⟩) (by assumption) ?_
  rotate_left
  · intro w hSw
    (try dsimp only at hSw)
    go_simp
    try (with_reducible rfl)
  try simp only [Act.put, List.getElem_toArray, List.getElem_cons_succ, List.getElem_cons_zero, List.setIfInBounds_toArray, List.set_cons_zero, List.set_cons_succ]
  refine wpAnyH_take (i := 3) (oi := _) (v := ?_) rfl (by kernel_rfl) (by kernel_rfl) (by kernel_rfl) (fun _ _ _ h => h) (Or.inl ⟨by rfl, ?_⟩) (by assumption) ?_
  rotate_left
  · intro w hSw
    (try dsimp only at hSw)
    go_simp
    try (with_reducible rfl)
  try simp only [Act.put, List.getElem_toArray, List.getElem_cons_succ, List.getElem_cons_zero, List.setIfInBounds_toArray, List.set_cons_zero, List.set_cons_succ]
  refine wpAnyH_take (i := 4) (oi := _) (v := ?_) rfl (by kernel_rfl) (by kernel_rfl) (by kernel_rfl) (fun _ _ _ h => h) (Or.inl ⟨by rfl, ?_⟩) (by assumption) ?_
  rotate_left
  · intro w hSw
    (try dsimp only at hSw)
    go_simp
    try (with_reducible rfl)
  try simp only [Act.put, List.getElem_toArray, List.getElem_cons_succ, List.getElem_cons_zero, List.setIfInBounds_toArray, List.set_cons_zero, List.set_cons_succ]
  refine wpAnyH_take (i := 5) (oi := _) (v := ?_) rfl (by kernel_rfl) (by kernel_rfl) (by kernel_rfl) (fun _ _ _ h => h) (Or.inl ⟨by rfl, ?_⟩) (by assumption) ?_
  rotate_left
  · intro w hSw
    (try dsimp only at hSw)
    go_simp
    try (with_reducible rfl)
  try simp only [Act.put, List.getElem_toArray, List.getElem_cons_succ, List.getElem_cons_zero, List.setIfInBounds_toArray, List.set_cons_zero, List.set_cons_succ]
  refine wpAnyH_take (i := 6) (oi := _) (v := ?_) rfl (by kernel_rfl) (by kernel_rfl) (by kernel_rfl) (fun _ _ _ h => h) (Or.inl ⟨by rfl, ?_⟩) (by assumption) ?_
  rotate_left
  · intro w hSw
    (try dsimp only at hSw)
    go_simp
    try (with_reducible rfl)
  try simp only [Act.put, List.getElem_toArray, List.getElem_cons_succ, List.getElem_cons_zero, List.setIfInBounds_toArray, List.set_cons_zero, List.set_cons_succ]
  refine wpAnyH_take (i := 7) (oi := _) (v := ?_) rfl (by kernel_rfl) (by kernel_rfl) (by kernel_rfl) (fun _ _ _ h => h) (Or.inl ⟨by rfl, ?_⟩) (by assumption) ?_
  rotate_left
  · intro w hSw
    (try dsimp only at hSw)
    go_simp
    try (with_reducible rfl)
  try simp only [Act.put, List.getElem_toArray, List.getElem_cons_succ, List.getElem_cons_zero, List.setIfInBounds_toArray, List.set_cons_zero, List.set_cons_succ]
  refine wpAnyH_take (i := 8) (oi := _) (v := ?_) rfl (by kernel_rfl) (by kernel_rfl) (by kernel_rfl) (fun _ _ _ h => h) (Or.inl ⟨by rfl, ?_⟩) (by assumption) ?_
  rotate_left
  · intro w hSw
    (try dsimp only at hSw)
    go_simp
    try (with_reducible rfl)
  try simp only [Act.put, List.getElem_toArray, List.getElem_cons_succ, List.getElem_cons_zero, List.setIfInBounds_toArray, List.set_cons_zero, List.set_cons_succ]
  refine wpAnyH_take (i := 9) (oi := _) (v := ?_) rfl (by kernel_rfl) (by kernel_rfl) (by kernel_rfl) (fun _ _ _ h => h) (Or.inl ⟨by rfl, ?_⟩) (by assumption) ?_
  rotate_left
  · intro w hSw
    (try dsimp only at hSw)
    go_simp
    try (with_reducible rfl)
  try simp only [Act.put, List.getElem_toArray, List.getElem_cons_succ, List.getElem_cons_zero, List.setIfInBounds_toArray, List.set_cons_zero, List.set_cons_succ]
  refine wpAnyH_take (i := 10) (oi := _) (v := ?_) rfl (by kernel_rfl) (by kernel_rfl) (by kernel_rfl) (fun _ _ _ h => h) (Or.inl ⟨by rfl, ?_⟩) (by assumption) ?_
  rotate_left
  · intro w hSw
    (try dsimp only at hSw)
    go_simp
    try (with_reducible rfl)
  try simp only [Act.put, List.getElem_toArray, List.getElem_cons_succ, List.getElem_cons_zero, List.setIfInBounds_toArray, List.set_cons_zero, List.set_cons_succ]
  refine wpAnyH_take (i := 11) (oi := _) (v := ?_) rfl (by kernel_rfl) (by kernel_rfl) (by kernel_rfl) (fun _ _ _ h => h) (Or.inl ⟨by rfl, ?_⟩) (by assumption) ?_
  rotate_left
  · intro w hSw
    (try dsimp only at hSw)
    go_simp
    try (with_reducible rfl)
  try simp only [Act.put, List.getElem_toArray, List.getElem_cons_succ, List.getElem_cons_zero, List.setIfInBounds_toArray, List.set_cons_zero, List.set_cons_succ]
  refine wpAnyH_take (i := 12) (oi := _) (v := ?_) rfl (by kernel_rfl) (by kernel_rfl) (by kernel_rfl) (fun _ _ _ h => h) (Or.inl ⟨by rfl, ?_⟩) (by assumption) ?_
  rotate_left
  · intro w hSw
    (try dsimp only at hSw)
    go_simp
    try (with_reducible rfl)
  try simp only [Act.put, List.getElem_toArray, List.getElem_cons_succ, List.getElem_cons_zero, List.setIfInBounds_toArray, List.set_cons_zero, List.set_cons_succ]
  refine wpAnyH_take (i := 13) (oi := _) (v := ?_) rfl (by kernel_rfl) (by kernel_rfl) (by kernel_rfl) (fun _ _ _ h => h) (Or.inl ⟨by rfl, ?_⟩) (by assumption) ?_
  rotate_left
  · intro w hSw
    (try dsimp only at hSw)
    go_simp
    try (with_reducible rfl)
  try simp only [Act.put, List.getElem_toArray, List.getElem_cons_succ, List.getElem_cons_zero, List.setIfInBounds_toArray, List.set_cons_zero, List.set_cons_succ]
  refine wpAnyH_take (i := 14) (oi := _) (v := ?_) rfl (by kernel_rfl) (by kernel_rfl) (by kernel_rfl) (fun _ _ _ h => h) (Or.inl ⟨by rfl, ?_⟩) (by assumption) ?_
  rotate_left
  · intro w hSw
    (try dsimp only at hSw)
    go_simp
    try (with_reducible rfl)
  try simp only [Act.put, List.getElem_toArray, List.getElem_cons_succ, List.getElem_cons_zero, List.setIfInBounds_toArray, List.set_cons_zero, List.set_cons_succ]
  refine wpAnyH_take (i := 16) (oi := _) (v := ?_) rfl (by kernel_rfl) (by kernel_rfl) (by kernel_rfl) (fun _ _ _ h => h) (Or.inl ⟨by rfl, ?_⟩) (by assumption) ?_
  rotate_left
  · intro w hSw
    (try dsimp only at hSw)
    go_simp
    try (with_reducible rfl)
  try simp only [Act.put, List.getElem_toArray, List.getElem_cons_succ, List.getElem_cons_zero, List.setIfInBounds_toArray, List.set_cons_zero, List.set_cons_succ]
  refine wpAnyH_take (i := 17) (oi := _) (v := ?_) rfl (by kernel_rfl) (by kernel_rfl) (by kernel_rfl) (fun _ _ _ h => h) (Or.inl ⟨by rfl, ?_⟩) (by assumption) ?_
  rotate_left
  · intro w hSw
    (try dsimp only at hSw)
    go_simp
    try (with_reducible rfl)
  try simp only [Act.put, List.getElem_toArray, List.getElem_cons_succ, List.getElem_cons_zero, List.setIfInBounds_toArray, List.set_cons_zero, List.set_cons_succ]
  refine wpAnyH_ready (rs := [15]) (by kernel_rfl) (by simp) ?_
  refine AllReadyH.cons rfl (fun K hK => ?_) ?_
  rotate_left
  · exact AllReadyH.nil
  go_simp
  go_at_call 78
  refine (hput _ hHeld).mono ?_
  rintro _ w3 ⟨A3, n3, c3, rfl, g1, g2, r3, E3⟩
  have hHeld3 := Ext.go hHeld E3
  try dsimp only
  refine hK.out _ _ ?_ (fun hHeld => ?_)
  · first | assumption | (dsimp only; assumption)
  clear hK K
  try simp only [Act.put, List.getElem_toArray, List.getElem_cons_succ, List.getElem_cons_zero, List.setIfInBounds_toArray, List.set_cons_zero, List.set_cons_succ]
  refine wpAnyH_ready (rs := [18]) (by kernel_rfl) (by simp) ?_
  refine AllReadyH.cons rfl (fun K hK => ?_) ?_
  rotate_left
  · exact AllReadyH.nil
  go_simp
  go_invoke
  go_simp
  go_at_call 148
  refine (serFrame_any M.J.p.un A3 n3 c3 _ w3 u0.1 u0.2 r3 (putL_bytes _ _ _ _ _) (Nat.le_trans g1 g2)).mono ?_
  rintro _ w4 ⟨A4, n4, c4, rfl, q1, q2, r4, E4, fr4⟩
  have hHeld4 := Ext.go hHeld3 E4
  try dsimp only
  refine hK.out _ _ ?_ (fun hHeld => ?_)
  · first | assumption | (dsimp only; assumption)
  clear hK K
  try simp only [Act.put, List.getElem_toArray, List.getElem_cons_succ, List.getElem_cons_zero, List.setIfInBounds_toArray, List.set_cons_zero, List.set_cons_succ]
  refine wpAnyH_ready (rs := [19]) (by kernel_rfl) (by simp) ?_
  refine AllReadyH.cons rfl (fun K hK => ?_) ?_
  rotate_left
  · exact AllReadyH.nil
  go_simp
  refine hK.out _ _ ?_ (fun hHeld => ?_)
  · first | assumption | (dsimp only; assumption)
  clear hK K
  try simp only [Act.put, List.getElem_toArray, List.getElem_cons_succ, List.getElem_cons_zero, List.setIfInBounds_toArray, List.set_cons_zero, List.set_cons_succ]
  refine wpAnyH_done (by kernel_rfl) ?_ _
  go_wp2_with fail
  go_ret
  refine ⟨_, rfl, ⟨A4, n4, c4, rfl, q1, q2, r4, fun b o e => ?_⟩, ?_, _, rfl, h2'.out.ext hHeld4⟩
  · have := fr4 b o e
    have := M0.size
    have := hHeld3.size
    omega
  · exact (M0.weak (fun i hi => .inl hi)).trans (hHeld4.mod _)
set_option maxRecDepth 100000 in
set_option maxHeartbeats 3200000 in
theorem lineSend_str (h : HasLn true w a q cu co s re wa M) (hb : M.busy = true) (ht : M.times ≤ 7) (n0 : 0 ≤ now) (n1 : now ≤ 1099511627776) :
    Calls Try.prog 47 #[.pointer (some ⟨a, 0, none⟩), .int .i64 now] w (SendPost true a q cu co s re wa M now w) := by
  have h' := Lib.hid h
  obtain ⟨p1, p2⟩ := line_set (now := now) h.head
  have f0 := fun j => frozen_block h.head j
  have f1 := fun j => frozen_block p1 j
  have c14 : (w.setCell ⟨a, 13, none⟩ (.int .i64 now)).cell? ⟨a, 14, none⟩ = some (.int .i64 M.times) := cellsAt p1 14
  have hw : IntKind.i64.wrap (M.times + 1) = M.times + 1 := by rw [IntKind.wrap_i64]; have := h.ti; omega
  have c13 := h.cells.2.2.2.2.2.2.2.2.2.2.2.2.2.1
  have M0 : Mod (fun i => i = a) w ((w.setCell ⟨a, 13, none⟩ (.int .i64 now)).setCell ⟨a, 14, none⟩ (.int .i64 (M.times + 1))) := ((Mod.refl (fun i => i = a) w).setCell (p := ⟨a, 13, none⟩) (.inl rfl) _).setCell (p := ⟨a, 14, none⟩) (.inl rfl) _
  have p2' := Lib.hid p2
  have un := (h.jobs M.J (.inr (.inr ⟨hb, rfl⟩))).2
  have hwu : IntKind.u8.wrap M.J.p.un = M.J.p.un := by rw [IntKind.wrap_u8]; have := un.1; have := un.2.1; omega
  have u0 : 0 ≤ M.J.p.un ∧ M.J.p.un ≤ 255 := by have := un.1; have := un.2.1; omega
  have un' := Lib.hid un
  have h2' := Lib.hid (h.line M0 M.busy M.J now (M.times + 1) p2 (fun _ => ⟨(h.jobs M.J (.inr (.inr ⟨hb, rfl⟩))).1, un⟩) (by have := h.ti; omega) ⟨n0, n1⟩)
  clear p1 p2 h un
  go_enter Try.func47, Try.ntmps47
  go_upto_region 3 with fail
  generalize (w.setCell ⟨a, 13, none⟩ (.int .i64 now)).setCell ⟨a, 14, none⟩ (.int .i64 (M.times + 1)) = w2 at *
  have hne := h2'.out.apart.2.2.2 rfl
  have hcs : ∀ w', Mod (fun i => i = s) w2 w' → _ := fun w' E => cellsAt ((E.block a (lt_of_block h2'.out.head) hne.1).trans h2'.out.head)
  have d0 : ∀ w', Mod (fun i => i = s) w2 w' → w'.cell? ⟨a, 0, none⟩ = some (.iface 106 (.pointer (some ⟨s, 0, none⟩))) := fun w' E => (hcs w' E 0)
  have d6 : ∀ w', Mod (fun i => i = s) w2 w' → w'.cell? ⟨a, 6, none⟩ = some (.int .i64 M.J.p.un) := fun w' E => (hcs w' E 6)
  have d7 : ∀ w', Mod (fun i => i = s) w2 w' → w'.cell? ⟨a, 7, none⟩ = some (.int .i64 M.J.p.fc) := fun w' E => (hcs w' E 7)
  have d8 : ∀ w', Mod (fun i => i = s) w2 w' → w'.cell? ⟨a, 8, none⟩ = some (.int .i64 M.J.p.ad) := fun w' E => (hcs w' E 8)
  have d9 : ∀ w', Mod (fun i => i = s) w2 w' → w'.cell? ⟨a, 9, none⟩ = some (.int .i64 M.J.p.qt) := fun w' E => (hcs w' E 9)
  have d10 : ∀ w', Mod (fun i => i = s) w2 w' → w'.cell? ⟨a, 10, none⟩ = some (.slice M.J.A M.J.n M.J.c) := fun w' E => (hcs w' E 10)
  have d11 : ∀ w', Mod (fun i => i = s) w2 w' → w'.cell? ⟨a, 11, none⟩ = some (.int .i64 M.J.p.to) := fun w' E => (hcs w' E 11)
  have hput : ∀ w', Mod (fun i => i = s) w2 w' → _ := fun w' E => pduPut_any M.J.p.fc M.J.p.ad M.J.p.qt M.J.p.to M.J.A M.J.n M.J.c M.J.p.xs w' ((h2'.out.jobs M.J (.inr (.inr ⟨hb, rfl⟩))).1.modS (E.weak (fun i hi => .inr (.inr (.inr (.inr ⟨rfl, hi⟩)))))).rd un'.out.2.2.2 (by have hO := ((h2'.out).jobs M.J (.inr (.inr ⟨hb, rfl⟩))).1; exact Nat.le_trans hO.nc hO.cm)
  clear hcs
  refine wp_region_held_drew (S := fun w' => Mod (fun i => i = s) w2 w') (by kernel_rfl) ((Mod.refl _ w2).drew) (fun hHeld => ?_)
  refine wpAnyH_take (i := 0) (oi := _) (v := ?_) rfl (by kernel_rfl) (by kernel_rfl) (by kernel_rfl) (fun _ _ _ h => h) (Or.inl ⟨by rfl, ?_⟩) (by assumption) ?_
  rotate_left
  · intro w hSw
    (try dsimp only at hSw)
    go_simp
    try (with_reducible rfl)
  try simp only [Act.put, List.getElem_toArray, List.getElem_cons_zero, List.setIfInBounds_toArray, List.set_cons_zero, List.set_cons_succ]
  refine wpAnyH_take (i := 1) (oi := _) (v := ?_) rfl (by kernel_rfl) (by kernel_rfl) (by kernel_rfl) (fun _ _ _ h => h) (Or.inl ⟨by rfl, ?_⟩) (by assumption) ?_
  rotate_left
  · intro w hSw
    (try dsimp only at hSw)
    go_simp
    try (with_reducible rfl)
  try simp only [Act.put, List.getElem_toArray, List.getElem_cons_succ, List.getElem_cons_zero, List.setIfInBounds_toArray, List.set_cons_zero, List.set_cons_succ]
  refine wpAnyH_take (i := 2) (oi := _) (v := ?_) rfl (by kernel_rfl) (by kernel_rfl) (by kernel_rfl) (fun _ _ _ h => h) (Or.inl ⟨by rfl, ?_⟩) (by assumption) ?_
  rotate_left
  · intro w hSw
    (try dsimp only at hSw)
    go_simp
    try (with_reducible rfl)
  try simp only [Act.put, List.getElem_toArray, List.getElem_cons_succ, List.getElem_cons_zero, List.setIfInBounds_toArray, List.set_cons_zero, List.set_cons_succ]
  refine wpAnyH_take (i := 3) (oi := _) (v := ?_) rfl (by kernel_rfl) (by kernel_rfl) (by kernel_rfl) (fun _ _ _ h => h) (Or.inl ⟨by rfl, ?_⟩) (by assumption) ?_
  rotate_left
  · intro w hSw
    (try dsimp only at hSw)
    go_simp
    try (with_reducible rfl)
  try simp only [Act.put, List.getElem_toArray, List.getElem_cons_succ, List.getElem_cons_zero, List.setIfInBounds_toArray, List.set_cons_zero, List.set_cons_succ]
  refine wpAnyH_take (i := 4) (oi := _) (v := ?_) rfl (by kernel_rfl) (by kernel_rfl) (by kernel_rfl) (fun _ _ _ h => h) (Or.inl ⟨by rfl, ?_⟩) (by assumption) ?_
  rotate_left
  · intro w hSw
    (try dsimp only at hSw)
    go_simp
    try (with_reducible rfl)
  try simp only [Act.put, List.getElem_toArray, List.getElem_cons_succ, List.getElem_cons_zero, List.setIfInBounds_toArray, List.set_cons_zero, List.set_cons_succ]
  refine wpAnyH_take (i := 5) (oi := _) (v := ?_) rfl (by kernel_rfl) (by kernel_rfl) (by kernel_rfl) (fun _ _ _ h => h) (Or.inl ⟨by rfl, ?_⟩) (by assumption) ?_
  rotate_left
  · intro w hSw
    (try dsimp only at hSw)
    go_simp
    try (with_reducible rfl)
  try simp only [Act.put, List.getElem_toArray, List.getElem_cons_succ, List.getElem_cons_zero, List.setIfInBounds_toArray, List.set_cons_zero, List.set_cons_succ]
  refine wpAnyH_take (i := 6) (oi := _) (v := ?_) rfl (by kernel_rfl) (by kernel_rfl) (by kernel_rfl) (fun _ _ _ h => h) (Or.inl ⟨by rfl, ?_⟩) (by assumption) ?_
  rotate_left
  · intro w hSw
    (try dsimp only at hSw)
    go_simp
    try (with_reducible rfl)
  try simp only [Act.put, List.getElem_toArray, List.getElem_cons_succ, List.getElem_cons_zero, List.setIfInBounds_toArray, List.set_cons_zero, List.set_cons_succ]
  refine wpAnyH_take (i := 7) (oi := _) (v := ?_) rfl (by kernel_rfl) (by kernel_rfl) (by kernel_rfl) (fun _ _ _ h => h) (Or.inl ⟨by rfl, ?_⟩) (by assumption) ?_
  rotate_left
  · intro w hSw
    (try dsimp only at hSw)
    go_simp
    try (with_reducible rfl)
  try simp only [Act.put, List.getElem_toArray, List.getElem_cons_succ, List.getElem_cons_zero, List.setIfInBounds_toArray, List.set_cons_zero, List.set_cons_succ]
  refine wpAnyH_take (i := 8) (oi := _) (v := ?_) rfl (by kernel_rfl) (by kernel_rfl) (by kernel_rfl) (fun _ _ _ h => h) (Or.inl ⟨by rfl, ?_⟩) (by assumption) ?_
  rotate_left
  · intro w hSw
    (try dsimp only at hSw)
    go_simp
    try (with_reducible rfl)
  try simp only [Act.put, List.getElem_toArray, List.getElem_cons_succ, List.getElem_cons_zero, List.setIfInBounds_toArray, List.set_cons_zero, List.set_cons_succ]
  refine wpAnyH_take (i := 9) (oi := _) (v := ?_) rfl (by kernel_rfl) (by kernel_rfl) (by kernel_rfl) (fun _ _ _ h => h) (Or.inl ⟨by rfl, ?_⟩) (by assumption) ?_
  rotate_left
  · intro w hSw
    (try dsimp only at hSw)
    go_simp
    try (with_reducible rfl)
  try simp only [Act.put, List.getElem_toArray, List.getElem_cons_succ, List.getElem_cons_zero, List.setIfInBounds_toArray, List.set_cons_zero, List.set_cons_succ]
  refine wpAnyH_take (i := 10) (oi := _) (v := ?_) rfl (by kernel_rfl) (by kernel_rfl) (by kernel_rfl) (fun _ _ _ h => h) (Or.inl ⟨by rfl, ?_⟩) (by assumption) ?_
  rotate_left
  · intro w hSw
    (try dsimp only at hSw)
    go_simp
    try (with_reducible rfl)
  try simp only [Act.put, List.getElem_toArray, List.getElem_cons_succ, List.getElem_cons_zero, List.setIfInBounds_toArray, List.set_cons_zero, List.set_cons_succ]
  refine wpAnyH_take (i := 11) (oi := _) (v := ?_) rfl (by kernel_rfl) (by kernel_rfl) (by kernel_rfl) (fun _ _ _ h => h) (Or.inl ⟨by rfl, ?_⟩) (by assumption) ?_
  rotate_left
  · intro w hSw
    (try dsimp only at hSw)
    go_simp
    try (with_reducible rfl)
  try simp only [Act.put, List.getElem_toArray, List.getElem_cons_succ, List.getElem_cons_zero, List.setIfInBounds_toArray, List.set_cons_zero, List.set_cons_succ]
  refine wpAnyH_take (i := 12) (oi := _) (v := ?_) rfl (by kernel_rfl) (by kernel_rfl) (by kernel_rfl) (fun _ _ _ h => h) (Or.inl ⟨by rfl, ?_⟩) (by assumption) ?_
  rotate_left
  · intro w hSw
    (try dsimp only at hSw)
    go_simp
    try (with_reducible rfl)
  try simp only [Act.put, List.getElem_toArray, List.getElem_cons_succ, List.getElem_cons_zero, List.setIfInBounds_toArray, List.set_cons_zero, List.set_cons_succ]
  refine wpAnyH_take (i := 13) (oi := _) (v := ?_) rfl (by kernel_rfl) (by kernel_rfl) (by kernel_rfl) (fun _ _ _ h => h) (Or.inl ⟨by rfl, ?_⟩) (by assumption) ?_
  rotate_left
  · intro w hSw
    (try dsimp only at hSw)
    go_simp
    try (with_reducible rfl)
  try simp only [Act.put, List.getElem_toArray, List.getElem_cons_succ, List.getElem_cons_zero, List.setIfInBounds_toArray, List.set_cons_zero, List.set_cons_succ]
  refine wpAnyH_take (i := 14) (oi := _) (v := ?_) rfl (by kernel_rfl) (by kernel_rfl) (by kernel_rfl) (fun _ _ _ h => h) (Or.inl ⟨by rfl, ?_⟩) (by assumption) ?_
  rotate_left
  · intro w hSw
    (try dsimp only at hSw)
    go_simp
    try (with_reducible rfl)
  try simp only [Act.put, List.getElem_toArray, List.getElem_cons_succ, List.getElem_cons_zero, List.setIfInBounds_toArray, List.set_cons_zero, List.set_cons_succ]
  refine wpAnyH_take (i := 16) (oi := _) (v := ?_) rfl (by kernel_rfl) (by kernel_rfl) (by kernel_rfl) (fun _ _ _ h => h) (Or.inl ⟨by rfl, ?_⟩) (by assumption) ?_
  rotate_left
  · intro w hSw
    (try dsimp only at hSw)
    go_simp
    try (with_reducible rfl)
  try simp only [Act.put, List.getElem_toArray, List.getElem_cons_succ, List.getElem_cons_zero, List.setIfInBounds_toArray, List.set_cons_zero, List.set_cons_succ]
  refine wpAnyH_take (i := 17) (oi := _) (v := ?_) rfl (by kernel_rfl) (by kernel_rfl) (by kernel_rfl) (fun _ _ _ h => h) (Or.inl ⟨by rfl, ?_⟩) (by assumption) ?_
  rotate_left
  · intro w hSw
    (try dsimp only at hSw)
    go_simp
    try (with_reducible rfl)
  try simp only [Act.put, List.getElem_toArray, List.getElem_cons_succ, List.getElem_cons_zero, List.setIfInBounds_toArray, List.set_cons_zero, List.set_cons_succ]
  refine wpAnyH_ready (rs := [15]) (by kernel_rfl) (by simp) ?_
  refine AllReadyH.cons rfl (fun K hK => ?_) ?_
  rotate_left
  · exact AllReadyH.nil
  go_simp
  go_at_call 78
  refine (hput _ hHeld).mono ?_
  rintro _ w3 ⟨A3, n3, c3, rfl, g1, g2, r3, E3⟩
  have hHeld3 := Mod.trans hHeld (E3.mod _)
  try dsimp only
  refine hK.out _ _ ?_ (fun hHeld => ?_)
  · first | assumption | (dsimp only; assumption)
  clear hK K
  try simp only [Act.put, List.getElem_toArray, List.getElem_cons_succ, List.getElem_cons_zero, List.setIfInBounds_toArray, List.set_cons_zero, List.set_cons_succ]
  have F3 : Ext w2 w3 := ((Ext.refl w2).god).go E3
  have h3 := h2'.out.ext F3
  obtain ⟨cA, cn, cc, hs, hsr⟩ := h3.tr rfl
  have hs' := Lib.hid hs
  have hfr := strFrame_any M.J.p.un A3 n3 c3 _ w3 s M.num cA cn cc hs r3 (off_str hs r3) (Nat.le_trans g1 g2)
  clear hs
  refine wpAnyH_ready (rs := [18]) (by kernel_rfl) (by simp) ?_
  refine AllReadyH.cons rfl (fun K hK => ?_) ?_
  rotate_left
  · exact AllReadyH.nil
  go_simp
  go_invoke
  go_simp
  go_at_call 151
  refine hfr.mono ?_
  rintro _ w4 ⟨A4, n4, c4, rfl, q1, q2, r4, M4, hs4, fr4⟩
  have hHeld4 := Mod.trans hHeld3 M4
  try dsimp only
  refine hK.out _ _ ?_ (fun hHeld => ?_)
  · first | assumption | (dsimp only; assumption)
  clear hK K
  try simp only [Act.put, List.getElem_toArray, List.getElem_cons_succ, List.getElem_cons_zero, List.setIfInBounds_toArray, List.set_cons_zero, List.set_cons_succ]
  refine wpAnyH_ready (rs := [19]) (by kernel_rfl) (by simp) ?_
  refine AllReadyH.cons rfl (fun K hK => ?_) ?_
  rotate_left
  · exact AllReadyH.nil
  go_simp
  refine hK.out _ _ ?_ (fun hHeld => ?_)
  · first | assumption | (dsimp only; assumption)
  clear hK K
  try simp only [Act.put, List.getElem_toArray, List.getElem_cons_succ, List.getElem_cons_zero, List.setIfInBounds_toArray, List.set_cons_zero, List.set_cons_succ]
  refine wpAnyH_done (by kernel_rfl) ?_ _
  go_wp2_with fail
  go_ret
  refine ⟨_, rfl, ⟨A4, n4, c4, rfl, q1, q2, r4, fun b o e => ?_⟩, ?_, _, rfl, h3.num_set M4 _ ⟨by omega, by omega⟩ (fun A' n' c' e => ?_)⟩
  · have := fr4 b o e
    have := M0.size
    have := hHeld3.size
    omega
  · exact (M0.weak (fun i hi => .inl hi)).trans (hHeld4.weak (fun i hi => .inr (.inr (.inr (.inr ⟨rfl, hi⟩)))))
  · have hh := hs'.out.symm.trans e
    simp only [Option.some.injEq, Obj.cells.injEq, Array.mk.injEq, List.cons.injEq, Value.slice.injEq, true_and, and_true] at hh
    obtain ⟨rfl, rfl, rfl⟩ := hh
    exact hs4
end
theorem lineSend_any (k : Bool) (a q cu co s : Nat) (re wa : Int) (M : Lm) (now : Int) (w : World) (h : HasLn k w a q cu co s re wa M) (hb : M.busy = true) (ht : M.times ≤ 7) (n0 : 0 ≤ now) (n1 : now ≤ 1099511627776) :
    Calls Try.prog 47 #[.pointer (some ⟨a, 0, none⟩), .int .i64 now] w (SendPost k a q cu co s re wa M now w) := by
  cases k
  · exact lineSend_ser a q cu co s re wa M now w h hb ht n0 n1
  · exact lineSend_str a q cu co s re wa M now w h hb ht n0 n1
end Go.Proofs.Ytgagpalffdgjnaa
namespace Go.Proofs.Ytgagpalffdgjnaa
open Go.RowKit

def jpZ : Jp := ⟨0, 0, 0, 0, 0, [], 0, false⟩
def jmZ : Jm := ⟨jpZ, none, 0, 0⟩
/-- It is busy no more. -/
def endL (L : Lp) : Lp := { L with busy := false, J := jpZ }
def doneV (id err code : Int) (A : Option Addr) (n c : Nat) : Value := .agg #[.int .i64 id, .int .i64 err, .int .i64 code, .slice A n c]
def EndPost (k : Bool) (a q cu co s : Nat) (re wa : Int) (M : Lm) (err code : Int) (A : Option Addr) (n c : Nat) (w : World) (e : Ending) (w' : World) : Prop :=
  e = .returned (doneV M.J.p.id err code A n c) ∧ Mod (fun i => i = a) w w' ∧ HasLn k w' a q cu co s re wa { M with busy := false, J := jmZ }
theorem four_set {w : World} {i : Nat} {t : TypeId} {a0 a1 a2 a3 : Value} (h : w.heap[i]? = some (.cells #[a0, a1, a2, a3] t (0, 0))) (b0 b1 b2 b3 : Value) :
    ((((w.setCell ⟨i, 0, none⟩ b0).setCell ⟨i, 1, none⟩ b1).setCell ⟨i, 2, none⟩ b2).setCell ⟨i, 3, none⟩ b3).heap[i]? = some (.cells #[b0, b1, b2, b3] t (0, 0)) := by
  simp [World.setCell, Array.getElem?_modify, h]
theorem four_setM (w : World) (i : Nat) (b0 b1 b2 b3 : Value) : Mod (fun j => j = i) w ((((w.setCell ⟨i, 0, none⟩ b0).setCell ⟨i, 1, none⟩ b1).setCell ⟨i, 2, none⟩ b2).setCell ⟨i, 3, none⟩ b3) :=
  (((((Mod.refl (fun j => j = i) w).setCell (p := ⟨i, 0, none⟩) (.inl rfl) b0).setCell (p := ⟨i, 1, none⟩) (.inl rfl) b1).setCell (p := ⟨i, 2, none⟩) (.inl rfl) b2).setCell (p := ⟨i, 3, none⟩) (.inl rfl) b3)
theorem eight_at {w : World} {i : Nat} {Q : Array Value} {t : TypeId} (h : w.heap[i]? = some (.cells Q t (0, 0))) (d : Nat) (b0 b1 b2 b3 b4 b5 b6 b7 : Value) :
    ((((((((w.setCell ⟨i, d, none⟩ b0).setCell ⟨i, d + 1, none⟩ b1).setCell ⟨i, d + 2, none⟩ b2).setCell ⟨i, d + 3, none⟩ b3).setCell ⟨i, d + 4, none⟩ b4).setCell ⟨i, d + 5, none⟩ b5).setCell ⟨i, d + 6, none⟩ b6).setCell ⟨i, d + 7, none⟩ b7).heap[i]? = some (.cells ((((((((Q.setIfInBounds (d) b0).setIfInBounds (d + 1) b1).setIfInBounds (d + 2) b2).setIfInBounds (d + 3) b3).setIfInBounds (d + 4) b4).setIfInBounds (d + 5) b5).setIfInBounds (d + 6) b6).setIfInBounds (d + 7) b7) t (0, 0)) := by
  have h0 := sets_block h (d) b0
  have h1 := sets_block h0 (d + 1) b1
  have h2 := sets_block h1 (d + 2) b2
  have h3 := sets_block h2 (d + 3) b3
  have h4 := sets_block h3 (d + 4) b4
  have h5 := sets_block h4 (d + 5) b5
  have h6 := sets_block h5 (d + 6) b6
  have h7 := sets_block h6 (d + 7) b7
  exact h7
theorem eight_mod_at (w : World) (i d : Nat) (b0 b1 b2 b3 b4 b5 b6 b7 : Value) : Mod (fun j => j = i) w ((((((((w.setCell ⟨i, d, none⟩ b0).setCell ⟨i, d + 1, none⟩ b1).setCell ⟨i, d + 2, none⟩ b2).setCell ⟨i, d + 3, none⟩ b3).setCell ⟨i, d + 4, none⟩ b4).setCell ⟨i, d + 5, none⟩ b5).setCell ⟨i, d + 6, none⟩ b6).setCell ⟨i, d + 7, none⟩ b7) :=
  ((((((((Mod.refl (fun j => j = i) w).setCell (p := ⟨i, d, none⟩) (.inl rfl) b0).setCell (p := ⟨i, d + 1, none⟩) (.inl rfl) b1).setCell (p := ⟨i, d + 2, none⟩) (.inl rfl) b2).setCell (p := ⟨i, d + 3, none⟩) (.inl rfl) b3).setCell (p := ⟨i, d + 4, none⟩) (.inl rfl) b4).setCell (p := ⟨i, d + 5, none⟩) (.inl rfl) b5).setCell (p := ⟨i, d + 6, none⟩) (.inl rfl) b6).setCell (p := ⟨i, d + 7, none⟩) (.inl rfl) b7
theorem line_end {k : Bool} {w : World} {a q s : Nat} {re wa sent times : Int} {busy : Bool} {J : Jm} (h : w.heap[a]? = some (.cells (lineCells k s q re wa busy J sent times) 105 (0, 0))) :
    (((((((((w.setCell ⟨a, 4, none⟩ (.bool false)).setCell ⟨a, 5, none⟩ (.int .i64 0)).setCell ⟨a, 6, none⟩ (.int .i64 0)).setCell ⟨a, 7, none⟩ (.int .i64 0)).setCell ⟨a, 8, none⟩ (.int .i64 0)).setCell ⟨a, 9, none⟩ (.int .i64 0)).setCell ⟨a, 10, none⟩ (.slice none 0 0)).setCell ⟨a, 11, none⟩ (.int .i64 0)).setCell ⟨a, 12, none⟩ (.bool false)).heap[a]? = some (.cells (lineCells k s q re wa false jmZ sent times) 105 (0, 0)) := by
  simp [World.setCell, Array.getElem?_modify, h, lineCells, jmZ, jpZ]
theorem line_end_mod (w : World) (a : Nat) : Mod (fun i => i = a) w (((((((((w.setCell ⟨a, 4, none⟩ (.bool false)).setCell ⟨a, 5, none⟩ (.int .i64 0)).setCell ⟨a, 6, none⟩ (.int .i64 0)).setCell ⟨a, 7, none⟩ (.int .i64 0)).setCell ⟨a, 8, none⟩ (.int .i64 0)).setCell ⟨a, 9, none⟩ (.int .i64 0)).setCell ⟨a, 10, none⟩ (.slice none 0 0)).setCell ⟨a, 11, none⟩ (.int .i64 0)).setCell ⟨a, 12, none⟩ (.bool false)) :=
  ((Mod.refl (fun i => i = a) w).setCell (p := ⟨a, 4, none⟩) (.inl rfl) _).trans (eight_mod_at _ a 5 _ _ _ _ _ _ _ _)
section
variable (k : Bool) (a q cu co s : Nat) (re wa : Int) (M : Lm) (err code : Int) (A : Option Addr) (n c : Nat) (w : World)
set_option maxRecDepth 100000 in
set_option maxHeartbeats 3200000 in
theorem lineEnd_any (h : HasLn k w a q cu co s re wa M) :
    Calls Try.prog 48 #[.pointer (some ⟨a, 0, none⟩), .int .i64 err, .agg #[.int .i64 code, .slice A n c]] w (EndPost k a q cu co s re wa M err code A n c w) := by
  have h' := Lib.hid h
  clear h
  go_enter Try.func48, Try.ntmps48
  go_upto_region 1 with fail
  have E1 : Ext w ((w.alloc (.cells #[.int .i64 code, .slice A n c] 54)).alloc (.cells #[.int .i64 0, .int .i64 0, .int .i64 0, .slice none 0 0] 56)) := ((Ext.refl w).goA _).goA _
  have b0 : ((w.alloc (.cells #[.int .i64 code, .slice A n c] 54)).alloc (.cells #[.int .i64 0, .int .i64 0, .int .i64 0, .slice none 0 0] 56)).heap[w.heap.size]? = some (.cells #[.int .i64 code, .slice A n c] 54 (0, 0)) := by rw [alloc_get, if_neg (by simp), alloc_get, if_pos rfl]
  have b1 : ((w.alloc (.cells #[.int .i64 code, .slice A n c] 54)).alloc (.cells #[.int .i64 0, .int .i64 0, .int .i64 0, .slice none 0 0] 56)).heap[w.heap.size + 1]? = some (.cells #[.int .i64 0, .int .i64 0, .int .i64 0, .slice none 0 0] 56 (0, 0)) := by rw [alloc_get, if_pos (by simp)]
  generalize (w.alloc (.cells #[.int .i64 code, .slice A n c] 54)).alloc (.cells #[.int .i64 0, .int .i64 0, .int .i64 0, .slice none 0 0] 56) = w1 at *
  have h1 := Lib.hid (h'.out.ext E1)
  have d5 : ∀ w', Ext w1 w' → w'.cell? ⟨a, 5, none⟩ = some (.int .i64 M.J.p.id) := fun w' E => (h1.out.ext E).cells.2.2.2.2.2.1
  have e0 : ∀ w', Ext w1 w' → w'.cell? ⟨w.heap.size, 0, none⟩ = some (.int .i64 code) := fun w' E => (E.cell 0 (lt_of_block b0)).trans (cellsAt b0 0)
  have e1 : ∀ w', Ext w1 w' → w'.cell? ⟨w.heap.size, 1, none⟩ = some (.slice A n c) := fun w' E => (E.cell 1 (lt_of_block b0)).trans (cellsAt b0 1)
  have b1' := Lib.hid b1
  clear b0 b1
  refine wp_region_held_drew (S := fun w' => Ext w1 w') (by kernel_rfl) ((Ext.refl w1).god) (fun hHeld => ?_)
  refine wpAnyH_take (i := 0) (oi := _) (v := ?_) rfl (by kernel_rfl) (by kernel_rfl) (by kernel_rfl) (fun _ _ _ h => h) (Or.inl ⟨by rfl, ?_⟩) (by assumption) ?_
  rotate_left
  · intro w hSw
    (try dsimp only at hSw)
    go_simp
    try (with_reducible rfl)
  try simp only [Act.put, List.getElem_toArray, List.getElem_cons_zero, List.setIfInBounds_toArray, List.set_cons_zero, List.set_cons_succ]
  refine wpAnyH_take (i := 1) (oi := _) (v := ?_) rfl (by kernel_rfl) (by kernel_rfl) (by kernel_rfl) (fun _ _ _ h => h) (Or.inl ⟨by rfl, ?_⟩) (by assumption) ?_
  rotate_left
  · intro w hSw
    (try dsimp only at hSw)
    go_simp
    try (with_reducible rfl)
  try simp only [Act.put, List.getElem_toArray, List.getElem_cons_succ, List.getElem_cons_zero, List.setIfInBounds_toArray, List.set_cons_zero, List.set_cons_succ]
  refine wpAnyH_take (i := 2) (oi := _) (v := ?_) rfl (by kernel_rfl) (by kernel_rfl) (by kernel_rfl) (fun _ _ _ h => h) (Or.inl ⟨by rfl, ?_⟩) (by assumption) ?_
  rotate_left
  · intro w hSw
    (try dsimp only at hSw)
    go_simp
    try (with_reducible rfl)
  try simp only [Act.put, List.getElem_toArray, List.getElem_cons_succ, List.getElem_cons_zero, List.setIfInBounds_toArray, List.set_cons_zero, List.set_cons_succ]
  refine wpAnyH_take (i := 3) (oi := _) (v := ?_) rfl (by kernel_rfl) (by kernel_rfl) (by kernel_rfl) (fun _ _ _ h => h) (Or.inl ⟨by rfl, ?_⟩) (by assumption) ?_
  rotate_left
  · intro w hSw
    (try dsimp only at hSw)
    go_simp
    try (with_reducible rfl)
  try simp only [Act.put, List.getElem_toArray, List.getElem_cons_succ, List.getElem_cons_zero, List.setIfInBounds_toArray, List.set_cons_zero, List.set_cons_succ]
  refine wpAnyH_take (i := 4) (oi := _) (v := ?_) rfl (by kernel_rfl) (by kernel_rfl) (by kernel_rfl) (fun _ _ _ h => h) (Or.inl ⟨by rfl, ?_⟩) (by assumption) ?_
  rotate_left
  · intro w hSw
    (try dsimp only at hSw)
    go_simp
    try (with_reducible rfl)
  try simp only [Act.put, List.getElem_toArray, List.getElem_cons_succ, List.getElem_cons_zero, List.setIfInBounds_toArray, List.set_cons_zero, List.set_cons_succ]
  refine wpAnyH_take (i := 5) (oi := _) (v := ?_) rfl (by kernel_rfl) (by kernel_rfl) (by kernel_rfl) (fun _ _ _ h => h) (Or.inl ⟨by rfl, ?_⟩) (by assumption) ?_
  rotate_left
  · intro w hSw
    (try dsimp only at hSw)
    go_simp
    try (with_reducible rfl)
  try simp only [Act.put, List.getElem_toArray, List.getElem_cons_succ, List.getElem_cons_zero, List.setIfInBounds_toArray, List.set_cons_zero, List.set_cons_succ]
  refine wpAnyH_take (i := 6) (oi := _) (v := ?_) rfl (by kernel_rfl) (by kernel_rfl) (by kernel_rfl) (fun _ _ _ h => h) (Or.inl ⟨by rfl, ?_⟩) (by assumption) ?_
  rotate_left
  · intro w hSw
    (try dsimp only at hSw)
    go_simp
    try (with_reducible rfl)
  try simp only [Act.put, List.getElem_toArray, List.getElem_cons_succ, List.getElem_cons_zero, List.setIfInBounds_toArray, List.set_cons_zero, List.set_cons_succ]
  refine wpAnyH_take (i := 7) (oi := _) (v := ?_) rfl (by kernel_rfl) (by kernel_rfl) (by kernel_rfl) (fun _ _ _ h => h) (Or.inl ⟨by rfl, ?_⟩) (by assumption) ?_
  rotate_left
  · intro w hSw
    (try dsimp only at hSw)
    go_simp
    try (with_reducible rfl)
  try simp only [Act.put, List.getElem_toArray, List.getElem_cons_succ, List.getElem_cons_zero, List.setIfInBounds_toArray, List.set_cons_zero, List.set_cons_succ]
  refine wpAnyH_ready (rs := [8]) (by kernel_rfl) (by simp) ?_
  refine AllReadyH.cons rfl (fun K hK => ?_) ?_
  rotate_left
  · exact AllReadyH.nil
  go_simp
  refine hK.out _ _ ?_ (fun hHeld => ?_)
  · exact Ext.goA hHeld _
  clear hK K
  try simp only [Act.put, List.getElem_toArray, List.getElem_cons_succ, List.getElem_cons_zero, List.setIfInBounds_toArray, List.set_cons_zero, List.set_cons_succ]
  refine wpAnyH_ready (rs := [9]) (by kernel_rfl) (by simp) ?_
  refine AllReadyH.cons rfl (fun K hK => ?_) ?_
  rotate_left
  · exact AllReadyH.nil
  go_simp
  refine hK.out _ _ ?_ (fun hHeld => ?_)
  · exact Ext.goA ((Ext.refl w1).god) _
  clear hK K
  try simp only [Act.put, List.getElem_toArray, List.getElem_cons_succ, List.getElem_cons_zero, List.setIfInBounds_toArray, List.set_cons_zero, List.set_cons_succ]
  refine wpAnyH_done (by kernel_rfl) ?_ _
  have b2 : (w1.alloc (.cells #[.int .i64 M.J.p.id, .int .i64 err, .int .i64 code, .slice A n c] 56)).drew.heap[w1.heap.size]? = some (.cells #[.int .i64 M.J.p.id, .int .i64 err, .int .i64 code, .slice A n c] 56 (0, 0)) := heap_alloc_new w1 _
  generalize (w1.alloc (.cells #[.int .i64 M.J.p.id, .int .i64 err, .int .i64 code, .slice A n c] 56)).drew = w2 at *
  have h2 := Lib.hid (h1.out.ext hHeld)
  have z2 := (hHeld.block _ (lt_of_block b1'.out)).trans b1'.out
  have fz := fun j => frozen_block h2.out.head j
  have cz := h2.out.cells
  obtain ⟨_, _, _, _, c4, c5, c6, c7, c8, c9, c10, c11, c12, _, _⟩ := cz
  have Z2 := Lib.hid z2
  have B2 := Lib.hid b2
  have na : a < w.heap.size := h'.out.lt (.inl rfl)
  have nb := lt_of_block b1'.out
  clear d5 e0 e1 z2 b2
  go_upto_region 3 with fail
  have p3 := line_end h2.out.head
  have M3 := line_end_mod w2 a
  generalize hw3 : ((((((((w2.setCell ⟨a, 4, none⟩ (.bool false)).setCell ⟨a, 5, none⟩ (.int .i64 0)).setCell ⟨a, 6, none⟩ (.int .i64 0)).setCell ⟨a, 7, none⟩ (.int .i64 0)).setCell ⟨a, 8, none⟩ (.int .i64 0)).setCell ⟨a, 9, none⟩ (.int .i64 0)).setCell ⟨a, 10, none⟩ (.slice none 0 0)).setCell ⟨a, 11, none⟩ (.int .i64 0)).setCell ⟨a, 12, none⟩ (.bool false) = w3 at *
  have p3' := Lib.hid p3
  have B3 := (M3.block w1.heap.size (lt_of_block B2.out) (by omega)).trans B2.out
  have Z3 := (M3.block (w.heap.size + 1) (lt_of_block Z2.out) (by omega)).trans Z2.out
  have q0 : w3.cell? ⟨w1.heap.size, 0, none⟩ = some (.int .i64 M.J.p.id) := cellsAt B3 0
  have q1 : w3.cell? ⟨w1.heap.size, 1, none⟩ = some (.int .i64 err) := cellsAt B3 1
  have q2 : w3.cell? ⟨w1.heap.size, 2, none⟩ = some (.int .i64 code) := cellsAt B3 2
  have q3 : w3.cell? ⟨w1.heap.size, 3, none⟩ = some (.slice A n c) := cellsAt B3 3
  have y0 : w3.cell? ⟨w.heap.size + 1, 0, none⟩ = some (.int .i64 0) := cellsAt Z3 0
  have y1 : w3.cell? ⟨w.heap.size + 1, 1, none⟩ = some (.int .i64 0) := cellsAt Z3 1
  have y2 : w3.cell? ⟨w.heap.size + 1, 2, none⟩ = some (.int .i64 0) := cellsAt Z3 2
  have y3 : w3.cell? ⟨w.heap.size + 1, 3, none⟩ = some (.slice none 0 0) := cellsAt Z3 3
  have fy := fun j => frozen_block Z3 j
  have Z3' := Lib.hid Z3
  have E2 : Ext w w2 := E1.go hHeld
  clear hw3 p3 B3 Z3 fz c4 c5 c6 c7 c8 c9 c10 c11 c12
  go_wp2_with fail
  have p4 := four_set Z3'.out (.int .i64 M.J.p.id) (.int .i64 err) (.int .i64 code) (.slice A n c)
  have M4 := four_setM w3 (w.heap.size + 1) (.int .i64 M.J.p.id) (.int .i64 err) (.int .i64 code) (.slice A n c)
  generalize (((w3.setCell ⟨w.heap.size + 1, 0, none⟩ (.int .i64 M.J.p.id)).setCell ⟨w.heap.size + 1, 1, none⟩ (.int .i64 err)).setCell ⟨w.heap.size + 1, 2, none⟩ (.int .i64 code)).setCell ⟨w.heap.size + 1, 3, none⟩ (.slice A n c) = w4 at *
  have u0 : w4.cell? ⟨w.heap.size + 1, 0, none⟩ = some (.int .i64 M.J.p.id) := cellsAt p4 0
  have u1 : w4.cell? ⟨w.heap.size + 1, 1, none⟩ = some (.int .i64 err) := cellsAt p4 1
  have u2 : w4.cell? ⟨w.heap.size + 1, 2, none⟩ = some (.int .i64 code) := cellsAt p4 2
  have u3 : w4.cell? ⟨w.heap.size + 1, 3, none⟩ = some (.slice A n c) := cellsAt p4 3
  refine bodyPost_ret (v := doneV M.J.p.id err code A n c) (by simp [results, Try.results48, go_sem, doneV, u0, u1, u2, u3]) rfl ?_
  have m4 : Mod (fun i => i = a) w w4 := ((E2.mod _).trans M3).step M4 (fun i hi => .inr (by omega))
  exact ⟨rfl, m4, h'.out.line m4 false jmZ M.sent M.times ((M4.block a (lt_of_block p3'.out) (by omega)).trans p3'.out) (fun h => by cases h) h'.out.ti h'.out.se⟩
end
end Go.Proofs.Ytgagpalffdgjnaa
