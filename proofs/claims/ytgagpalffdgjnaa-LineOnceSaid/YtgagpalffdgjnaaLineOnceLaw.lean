/- Layer 21: what was put is done, or waits, or is what one is busy with. -/
import Derived.Test.YtgagpalffdgjnaaG37
import Derived.Test.YtgagpalffdgjnaaG15
namespace Go.Proofs.Ytgagpalffdgjnaa
open Go.RowKit

def tot (L : Lp) : Nat := L.U.length + L.O.length + (if L.busy = true then 1 else 0)
/-- Nothing was done, or what one was busy with. -/
def OnceC (L : Lp) (ds : List Dn) (L' : Lp) : Prop :=
  (ds = [] ∧ tot L' = tot L) ∨ ∃ x, ds = [x] ∧ L.busy = true ∧ x.id = L.J.id ∧ tot L' + 1 = tot L ∧ (x.err = 211 ∨ (x.err ≠ 211 ∧ ansR L.J.fc L.J.ad L.J.qt L.J.to L.J.xs x.code x.xs = true))
theorem take_tot {α : Type} {U O U' O' : List α} {j : α} (h : takeL U O = some (j, U', O')) : U'.length + O'.length + 1 = U.length + O.length := by
  rcases U with _ | ⟨u, U⟩
  · rcases O with _ | ⟨o, O⟩
    · cases h
    · simp only [takeL, Option.some.injEq, Prod.mk.injEq] at h
      obtain ⟨rfl, rfl, rfl⟩ := h
      simp
  · simp only [takeL, Option.some.injEq, Prod.mk.injEq] at h
    obtain ⟨rfl, rfl, rfl⟩ := h
    simp; omega
theorem next_tot (k : Bool) (L : Lp) (now : Int) (b : List Int) (ds : List Dn) (hb : L.busy = false) : tot (nextR k L now b ds).2.2 = tot L ∧ (nextR k L now b ds).2.1 = ds ∧ (nextR k L now b ds).2.2.cm = L.cm := by
  unfold nextR
  cases ht : takeL L.U L.O with
  | none => exact ⟨rfl, rfl, rfl⟩
  | some x =>
    obtain ⟨j, U, O⟩ := x
    have := take_tot ht
    refine ⟨?_, rfl, rfl⟩
    unfold tot
    simp [sentL, takenL, hb]
    omega
theorem tick_once (k : Bool) (re wa : Int) (L : Lp) (now : Int) : OnceC L (tickR k re wa L now).2.1 (tickR k re wa L now).2.2 ∧ (tickR k re wa L now).2.2.cm = L.cm := by
  unfold tickR
  split
  · exact ⟨.inl ⟨rfl, rfl⟩, rfl⟩
  · split
    · rename_i hd
      have hb : L.busy = true := by unfold dueB at hd; simp at hd; exact hd.1
      split
      · exact ⟨.inl ⟨rfl, rfl⟩, rfl⟩
      · obtain ⟨h1, h2, h3⟩ := next_tot k (endL L) now [] [⟨L.J.id, 211, 0, []⟩] rfl
        refine ⟨.inr ⟨_, h2, hb, rfl, ?_, .inl rfl⟩, h3⟩
        rw [h1]
        unfold tot
        simp [endL, hb]
    · split
      · exact ⟨.inl ⟨rfl, rfl⟩, rfl⟩
      · rename_i hb
        obtain ⟨h1, h2, h3⟩ := next_tot k L now [] [] (by simpa using hb)
        exact ⟨.inl ⟨h2, h1⟩, h3⟩
theorem hear_once (L : Lp) (xa : List (Int × List Int)) (cm : List Int) : OnceC L (hearF { L with cm := cm } xa).2 (hearF { L with cm := cm } xa).1 := by
  rcases hearF_cases xa { L with cm := cm } with h | ⟨hb, bs, _, hne, h⟩
  · rw [h]; exact .inl ⟨rfl, rfl⟩
  · rw [h]
    refine .inr ⟨_, rfl, hb, rfl, ?_, .inr ?_⟩
    · have hb' : L.busy = true := hb
      unfold tot
      simp [endL, hb']
    · rcases rgot_any L.J.fc L.J.ad L.J.qt L.J.to L.J.xs bs with ⟨h1, _⟩ | ⟨h1, _, h2⟩
      · exact absurd h1 hne
      · refine ⟨?_, h1⟩
        rcases h2 with ⟨h2, _⟩ | ⟨h2, _⟩
        · show (rgetR L.J.fc L.J.ad L.J.qt L.J.to L.J.xs bs).2.2 ≠ 211
          rw [h2]; decide
        · show (rgetR L.J.fc L.J.ad L.J.qt L.J.to L.J.xs bs).2.2 ≠ 211
          rw [h2]; decide
section
variable {k : Bool} {w : World} {a q cu co s : Nat} {re wa : Int} {L : Lp}
def OncePost (k : Bool) (a q cu co s : Nat) (re wa : Int) (L : Lp) (N : Nat) (w : World) (d : Value) (w' : World) : Prop :=
  ∃ ds L', DonesAt w' w.heap.size d ds ∧ Mod (LnB k a q cu co s) w w' ∧ HasL k w' a q cu co s re wa L' ∧ L'.cm.length ≤ L.cm.length + N ∧ OnceC L ds L'
theorem hearOnce (h : HasL k w a q cu co s re wa L) {A : Option Addr} {n c : Nat} {l : List Int} (hN : L.cm.length + n ≤ 1000000) (hx : RdI w w.heap.size .u8 A n l) (hl : ByteL l) (hnc : n ≤ c) (hcm : c ≤ maxLen) :
    Calls Try.prog 17 #[.pointer (some ⟨a, 0, none⟩), .slice A n c] w fun e w' => ∃ d, e = .returned d ∧ OncePost k a q cu co s re wa L n w d w' := by
  cases k
  · refine (hearSer h hx hl hnc hcm (xa := serHeard l) (L' := (hearF L (serHeard l)).1) (ds := (hearF L (serHeard l)).2) rfl rfl).mono ?_
    rintro e w' ⟨d, rfl, hD, m, h'⟩
    have hk := (hearF_keep L (serHeard l)).2
    exact ⟨d, rfl, _, _, hD, m, h', by rw [hk]; omega, hear_once L (serHeard l) L.cm⟩
  · refine (hearStr h hN hx hl).mono ?_
    rintro e w' ⟨d, xa, cm, rfl, hD, m, h', hlen⟩
    have hk := (hearF_keep { L with cm := cm } xa).2
    exact ⟨d, rfl, _, _, hD, m, h', by rw [hk]; exact hlen, hear_once L xa cm⟩
theorem tickOnce (h : HasL k w a q cu co s re wa L) (now : Int) :
    Calls Try.prog 14 #[.pointer (some ⟨a, 0, none⟩), .int .i64 now] w fun e w' => ∃ v d, e = .returned (.tuple #[v, d]) ∧ OncePost k a q cu co s re wa L 0 w d w' := by
  refine (tickIs h (b := (tickR k re wa L now).1) (ds := (tickR k re wa L now).2.1) (L' := (tickR k re wa L now).2.2) rfl).mono ?_
  rintro e w' ⟨v, d, rfl, _, hD, m, h'⟩
  obtain ⟨h1, h2⟩ := tick_once k re wa L now
  exact ⟨v, d, rfl, _, _, hD, m, h', by rw [h2]; omega, h1⟩
end
end Go.Proofs.Ytgagpalffdgjnaa
