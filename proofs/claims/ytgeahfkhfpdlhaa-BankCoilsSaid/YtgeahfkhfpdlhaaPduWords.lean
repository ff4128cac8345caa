
/- Layer 4, the walks: words puts words behind bytes. -/
import Derived.Test.YtgeahfkhfpdlhaaPduMap
import Derived.Test.YtgeahfkhfpdlhaaInfo
namespace Go.Proofs.Ytgeahfkhfpdlhaa
open Go.RowKit

/-- What words leaves. -/
def WordsPost (w : World) (base : Nat) (v : Value) (n : Nat) (bs : List Int) (e : Ending) (w' : World) : Prop :=
  ∃ v', e = .returned v' ∧ w'.ownsRow base 5 1 v' n (bs.map (Value.int .u8)) ∧ Mod (fun i => v.ownBlock = some i) w w' ∧ (v'.ownBlock = v.ownBlock ∨ ∃ g, v'.ownBlock = some g ∧ w.heap.size ≤ g)

theorem RdI.pair (w : World) (e : TypeId) (k : IntKind) (x y : Int) : RdI (w.alloc (.cells #[.int k x, .int k y] e)) (w.heap.size + 1) k (some ⟨w.heap.size, 0, none⟩) 2 [x, y] :=
  RdI.new [x, y] rfl rfl rfl

set_option maxRecDepth 100000 in
set_option maxHeartbeats 1000000 in
theorem words16_any (v : Value) (n base B m c : Nat) (bs ys : List Int) (A : Option Addr) (w : World) (hown : w.ownsRow base 5 1 v n (bs.map (Value.int .u8))) (hbase : base ≤ w.heap.size) (hy : RdI w B .u16 A m ys)
    (hne : 0 < m → ∀ b o, A = some ⟨b, o, none⟩ → v.ownBlock ≠ some b) (hn : n + 2 * m ≤ 1048576) :
    Calls Try.prog 135 #[v, .slice A m c] w (WordsPost w base v (n + 2 * m) (bs ++ wordsL ys)) := by
  have hl := Lib.hid hy.len
  go_enter Try.func135, Try.ntmps135
  go_wp2
  go_loopw [0, 9] (fun u i wr => ∃ k : Nat, k ≤ m ∧ i = .int .i64 k ∧ wr.ownsRow base 5 1 u (n + 2 * k) ((bs ++ wordsL (ys.take k)).map (Value.int .u8)) ∧ Mod (fun i => v.ownBlock = some i) w wr ∧ (u.ownBlock = v.ownBlock ∨ ∃ g, u.ownBlock = some g ∧ w.heap.size ≤ g)) (fun _ i _ => m - (intOf i).toNat)
  case atStart => exact ⟨0, by omega, rfl, by simpa [wordsL] using hown, Mod.refl _ _, .inl rfl⟩
  case round =>
    obtain ⟨k, hk, rfl, hown', hmod, hat⟩ := hrel
    by_cases hlt : k < m
    · obtain ⟨b, o, rfl, hb, hc0⟩ := hy.at_ hlt
      have hlb := World.block_lt_of_cell? w _ hc0
      have hc := (hmod.cell (o + k) hlb (hne (by omega) b o rfl)).trans hc0
      have hc0' := Lib.hid hc0
      clear hc0
      go_wp2_with (at_builtin; refine wpList_appI rfl (.tmp 13) (.tmp 19) _ rfl Try.underlying33 info_u8 (hown'.alloc _) rfl (RdI.pair _ _ _ _ _) rfl (by omega) (by omega) (by have := hmod.size; simp; omega) ?_; intro v' w1 hown1 hg1 hat1)
      go_roundw
      case rel =>
        refine ⟨k + 1, by omega, by go_num, ?_, ?_, ?_⟩
        · rw [wordsL_take ys k (by rw [hl.out]; exact hlt), List.getD_eq_getElem?_getD, ← List.append_assoc, show n + 2 * (k + 1) = n + 2 * k + 2 by omega]; exact hown1
        · refine (hmod.alloc _).grown hg1 (fun i hi => ?_)
          rcases hat with h | ⟨g, h, hge⟩
          · exact .inl (by rw [← h]; exact hi)
          · rw [h] at hi; injection hi with hi; subst hi; exact .inr hge
        · rcases hat1 with h | h
          · rw [h]; exact hat
          · exact .inr ⟨_, h, by have := hmod.size; simp; omega⟩
      case measure => simp [intOf]; omega
    · obtain rfl : k = m := by omega
      go_wp2
      go_ret
      refine ⟨_, rfl, ?_, hmod, hat⟩
      rw [List.take_of_length_le (by rw [hl.out]; exact Nat.le_refl _)] at hown'
      exact hown'
set_option maxRecDepth 100000 in
set_option maxHeartbeats 1000000 in
theorem wordsInt_any (v : Value) (n base B m c : Nat) (bs ys : List Int) (A : Option Addr) (w : World) (hown : w.ownsRow base 5 1 v n (bs.map (Value.int .u8))) (hbase : base ≤ w.heap.size) (hy : RdI w B .i64 A m ys) (hys : ∀ j : Nat, 0 ≤ ys[j]?.getD 0 ∧ ys[j]?.getD 0 ≤ 65535)
    (hne : 0 < m → ∀ b o, A = some ⟨b, o, none⟩ → v.ownBlock ≠ some b) (hn : n + 2 * m ≤ 1048576) :
    Calls Try.prog 134 #[v, .slice A m c] w (WordsPost w base v (n + 2 * m) (bs ++ wordsL ys)) := by
  have hl := Lib.hid hy.len
  have hys' := Lib.hid hys
  clear hys
  go_enter Try.func134, Try.ntmps134
  go_wp2
  go_loopw [0, 9] (fun u i wr => ∃ k : Nat, k ≤ m ∧ i = .int .i64 k ∧ wr.ownsRow base 5 1 u (n + 2 * k) ((bs ++ wordsL (ys.take k)).map (Value.int .u8)) ∧ Mod (fun i => v.ownBlock = some i) w wr ∧ (u.ownBlock = v.ownBlock ∨ ∃ g, u.ownBlock = some g ∧ w.heap.size ≤ g)) (fun _ i _ => m - (intOf i).toNat)
  case atStart => exact ⟨0, by omega, rfl, by simpa [wordsL] using hown, Mod.refl _ _, .inl rfl⟩
  case round =>
    obtain ⟨k, hk, rfl, hown', hmod, hat⟩ := hrel
    by_cases hlt : k < m
    · obtain ⟨b, o, rfl, hb, hc0⟩ := hy.at_ hlt
      obtain ⟨hy0, hy1⟩ := hys'.out k
      have hlb := World.block_lt_of_cell? w _ hc0
      have hc := (hmod.cell (o + k) hlb (hne (by omega) b o rfl)).trans hc0
      have hc0' := Lib.hid hc0
      clear hc0
      go_wp2_with (at_builtin; refine wpList_appI rfl (.tmp 13) (.tmp 19) _ rfl Try.underlying33 info_u8 (hown'.alloc _) rfl (RdI.pair _ _ _ _ _) rfl (by omega) (by omega) (by have := hmod.size; simp; omega) ?_; intro v' w1 hown1 hg1 hat1)
      go_roundw
      case rel =>
        refine ⟨k + 1, by omega, by go_num, ?_, ?_, ?_⟩
        · rw [wordsL_take ys k (by rw [hl.out]; exact hlt), List.getD_eq_getElem?_getD, ← List.append_assoc, show n + 2 * (k + 1) = n + 2 * k + 2 by omega, hiLo_small _ hy0 hy1]; exact hown1
        · refine (hmod.alloc _).grown hg1 (fun i hi => ?_)
          rcases hat with h | ⟨g, h, hge⟩
          · exact .inl (by rw [← h]; exact hi)
          · rw [h] at hi; injection hi with hi; subst hi; exact .inr hge
        · rcases hat1 with h | h
          · rw [h]; exact hat
          · exact .inr ⟨_, h, by have := hmod.size; simp; omega⟩
      case measure => simp [intOf]; omega
    · obtain rfl : k = m := by omega
      go_wp2
      go_ret
      refine ⟨_, rfl, ?_, hmod, hat⟩
      rw [List.take_of_length_le (by rw [hl.out]; exact Nat.le_refl _)] at hown'
      exact hown'
end Go.Proofs.Ytgeahfkhfpdlhaa
