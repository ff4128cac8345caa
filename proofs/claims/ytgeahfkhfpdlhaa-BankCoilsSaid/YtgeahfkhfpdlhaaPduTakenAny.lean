
/- Layer 4, the walks: what bytes ask for, of any shape. -/
import Derived.Test.YtgeahfkhfpdlhaaPduTakenA
import Derived.Test.YtgeahfkhfpdlhaaPduTakenB
import Derived.Test.YtgeahfkhfpdlhaaPduTakenC
import Derived.Test.YtgeahfkhfpdlhaaPduTakenD
import Derived.Test.YtgeahfkhfpdlhaaPduTakenE
namespace Go.Proofs.Ytgeahfkhfpdlhaa
open Go.RowKit

/-- What bytes ask for. -/
def takQ (s : Shape) (l : List Int) : Int := if s.form = 1 then 0 else wordAt l 3
def takT (s : Shape) (l : List Int) : Int := if s.form = 3 then wordAt l 5 else 0
def takL (s : Shape) (l : List Int) : List Int :=
  if s.form = 0 then []
  else if s.form = 1 then (if s.bits then [wordAt l 3 / 65280] else wordsAt l 3 s.vals.toNat)
  else if s.form = 2 then (if s.bits then unbitsL (l.drop 6) (min (wordAt l 3) s.qty).toNat else wordsAt l 6 (min (wordAt l 3) s.qty).toNat)
  else wordsAt l 10 (min (wordAt l 7) s.vals).toNat

theorem taken_any (s : Shape) (k : Int) (hs : shapeOf k = some s) (A : Option Addr) (n c : Nat) (l : List Int) (w : World) (hx : RdI w w.heap.size .u8 A n l) (hl : ByteL l) (hn : 0 < n) (hnc : n ≤ c) (hc : c ≤ maxLen) :
    Calls Try.prog 113 #[s.val, .slice A n c] w (TakenPost (l.getD 0 0) (wordAt l 1) (takQ s l) (takT s l) (takL s l) w) := by
  rcases shape_cases hs with ⟨_, rfl⟩ | ⟨_, rfl⟩ | ⟨_, rfl⟩ | ⟨_, rfl⟩ | ⟨_, rfl⟩ | ⟨_, rfl⟩ | ⟨_, rfl⟩ | ⟨_, rfl⟩
  · exact taken_reads _ _ _ A n c l w hx hl hn
  · exact taken_reads _ _ _ A n c l w hx hl hn
  · exact taken_bit _ _ A n c l w hx hl hn
  · exact taken_regs _ A n c l w hx hl hn 1 (by omega)
  · exact taken_wbits _ _ A n c l w hx hl hn hnc hc (by decide) (by decide)
  · exact taken_wregs _ _ A n c l w hx hl hn (by decide) (by decide)
  · exact taken_regs _ A n c l w hx hl hn 2 (by omega)
  · exact taken_swaps _ _ A n c l w hx hl hn (by decide) (by decide)
end Go.Proofs.Ytgeahfkhfpdlhaa
