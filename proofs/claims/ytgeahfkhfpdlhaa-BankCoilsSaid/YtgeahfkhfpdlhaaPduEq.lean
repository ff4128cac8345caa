
/- Layer 4, the walks: are bytes the same? -/
import Derived.Test.YtgeahfkhfpdlhaaPduTakenAny
namespace Go.Proofs.Ytgeahfkhfpdlhaa
open Go.RowKit

theorem equal_any (A A' : Option Addr) (n c n' c' B : Nat) (l l' : List Int) (w : World) (hx : RdI w B .u8 A n l) (hy : RdI w B .u8 A' n' l') :
    Calls Try.prog 114 #[.slice A n c, .slice A' n' c'] w fun e w' => e = .returned (.bool ((strOfNums l).toList == (strOfNums l').toList)) ∧ Ext w w' := by
  have e1 := hx.convert Try.underlying33 Try.underlying5 Try.underlying9 c
  have e2 := hy.convert Try.underlying33 Try.underlying5 Try.underlying9 c'
  clear hx hy
  go_enter Try.func114, Try.ntmps114
  go_wp2_with fail
  go_ret
  exact ⟨rfl, Ext.refl _⟩
end Go.Proofs.Ytgeahfkhfpdlhaa
