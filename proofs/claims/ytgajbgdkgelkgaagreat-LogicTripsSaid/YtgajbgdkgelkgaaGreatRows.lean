/-
  No cell of these rows narrows 'for every input' (looked for: loops, veiled, ifaces, maps, wideKeys, modest, calm, conditions, laid).
  DERIVED. THE GIVEN ROWS OF THIS SEAT. 5 by the template 'for every input the law returns true; each argument reads behind the call as it read before'; 0 by the template 'total and deterministic' (their statements: YtgajbgdkgelkgaaGreatTotals.lean).
  GIVEN WITH THE SEED: the statements are not yours to turn. If you find one false, say at which input.
  Laid BY PROGRAM, IN A SANDBOX (cutbox-rows.mjs): the forced cells as the released guide's own fill.sh prints them over the translation 2db2a82ebb940450… (all of the seat's roots in one cut). By AI agents, Wed Nov 11 2026. No macro, syntax, notation, axiom, sorry.
-/
import Derived.Test.YtgajbgdkgelkgaaGreatChecked
import GoSem.Claim
import GoSem.ClaimJoined
import GoSem.ClaimMapViews
import Derived.JoinedTies
import Derived.KernelRfl
namespace Go.Proofs.YtgajbgdkgelkgaaGreat
/- THE CELL 'sum', in the pinned program and in every row, IS THE sha256 OF THE DUMP (.gsa) THAT YtgajbgdkgelkgaaGreatProg.lean LOADS. Nothing in Lean hashes anything: it is a label: what it is worth is what the hold of that sum in a sandbox is worth. -/
noncomputable def Tryz.pinned : Pinned := { name := "ytgajbgdkgelkgaagreat", sum := "2db2a82ebb940450f3afd027c6147514b1d0c6f7b07d935d1eb0e202e9a419ba", checked := Tryz.checked }
namespace Rows
def none {H : Type} : Left H := { results := [], args := [] }

/-- 'watchkeeperlaw17.LogicUnknown': WHATEVER THE INPUT: true; the input reads as it did. -/
def logicUnknownSpec : ChangeSpec := { name := "logicUnknown", fn := fun _ => fun
  | [d1, d2] => { results := [.lit (.bool true)], args := [d1, d2] }
  | _ => none }
def logicUnknownRow : OpenClaim := { program := "ytgajbgdkgelkgaagreat", sum := "2db2a82ebb940450f3afd027c6147514b1d0c6f7b07d935d1eb0e202e9a419ba", func := "watchkeeper/watchkeeperlaw17.LogicUnknown", spec := "logicUnknown", inPlace := ["internal/bytealg.IndexByteString"], unfollowed := true, recurses := true, apart := false }
def LogicUnknownSaid : Prop := logicUnknownRow.holds Tryz.pinned (OpenSpec.ofChange logicUnknownSpec)

/-- ITS FALSE NEIGHBOUR: 'it returns false'. Refute it at one input. -/
def logicUnknownWrong : ChangeSpec := { name := "logicUnknown", fn := fun _ => fun
  | [d1, d2] => { results := [.lit (.bool false)], args := [d1, d2] }
  | _ => none }
def LogicUnknownWrongFalsely : Prop := logicUnknownRow.holds Tryz.pinned (OpenSpec.ofChange logicUnknownWrong)

/-- 'watchkeeperlaw17.LogicTrips': WHATEVER THE INPUT: true; the input reads as it did. -/
def logicTripsSpec : ChangeSpec := { name := "logicTrips", fn := fun _ => fun
  | [d1, d2] => { results := [.lit (.bool true)], args := [d1, d2] }
  | _ => none }
def logicTripsRow : OpenClaim := { program := "ytgajbgdkgelkgaagreat", sum := "2db2a82ebb940450f3afd027c6147514b1d0c6f7b07d935d1eb0e202e9a419ba", func := "watchkeeper/watchkeeperlaw17.LogicTrips", spec := "logicTrips", inPlace := ["internal/bytealg.IndexByteString"], unfollowed := true, recurses := true, apart := false }
def LogicTripsSaid : Prop := logicTripsRow.holds Tryz.pinned (OpenSpec.ofChange logicTripsSpec)

/-- ITS FALSE NEIGHBOUR: 'it returns false'. Refute it at one input. -/
def logicTripsWrong : ChangeSpec := { name := "logicTrips", fn := fun _ => fun
  | [d1, d2] => { results := [.lit (.bool false)], args := [d1, d2] }
  | _ => none }
def LogicTripsWrongFalsely : Prop := logicTripsRow.holds Tryz.pinned (OpenSpec.ofChange logicTripsWrong)

/-- 'watchkeeperlaw17.LogicQuiet': WHATEVER THE INPUT: true; the input reads as it did. -/
def logicQuietSpec : ChangeSpec := { name := "logicQuiet", fn := fun _ => fun
  | [d1, d2, d3, d4] => { results := [.lit (.bool true)], args := [d1, d2, d3, d4] }
  | _ => none }
def logicQuietRow : OpenClaim := { program := "ytgajbgdkgelkgaagreat", sum := "2db2a82ebb940450f3afd027c6147514b1d0c6f7b07d935d1eb0e202e9a419ba", func := "watchkeeper/watchkeeperlaw17.LogicQuiet", spec := "logicQuiet", inPlace := ["internal/bytealg.IndexByteString"], unfollowed := true, recurses := true, apart := false }
def LogicQuietSaid : Prop := logicQuietRow.holds Tryz.pinned (OpenSpec.ofChange logicQuietSpec)

/-- ITS FALSE NEIGHBOUR: 'it returns false'. Refute it at one input. -/
def logicQuietWrong : ChangeSpec := { name := "logicQuiet", fn := fun _ => fun
  | [d1, d2, d3, d4] => { results := [.lit (.bool false)], args := [d1, d2, d3, d4] }
  | _ => none }
def LogicQuietWrongFalsely : Prop := logicQuietRow.holds Tryz.pinned (OpenSpec.ofChange logicQuietWrong)

/-- 'watchkeeperlaw17.LogicKey': WHATEVER THE INPUT: true; the input reads as it did. -/
def logicKeySpec : ChangeSpec := { name := "logicKey", fn := fun _ => fun
  | [d1, d2, d3, d4] => { results := [.lit (.bool true)], args := [d1, d2, d3, d4] }
  | _ => none }
def logicKeyRow : OpenClaim := { program := "ytgajbgdkgelkgaagreat", sum := "2db2a82ebb940450f3afd027c6147514b1d0c6f7b07d935d1eb0e202e9a419ba", func := "watchkeeper/watchkeeperlaw17.LogicKey", spec := "logicKey", inPlace := ["internal/bytealg.IndexByteString"], unfollowed := true, recurses := true, apart := false }
def LogicKeySaid : Prop := logicKeyRow.holds Tryz.pinned (OpenSpec.ofChange logicKeySpec)

/-- ITS FALSE NEIGHBOUR: 'it returns false'. Refute it at one input. -/
def logicKeyWrong : ChangeSpec := { name := "logicKey", fn := fun _ => fun
  | [d1, d2, d3, d4] => { results := [.lit (.bool false)], args := [d1, d2, d3, d4] }
  | _ => none }
def LogicKeyWrongFalsely : Prop := logicKeyRow.holds Tryz.pinned (OpenSpec.ofChange logicKeyWrong)

/-- 'watchkeeperlaw17.LogicLoads': WHATEVER THE INPUT: true; the input reads as it did. -/
def logicLoadsSpec : ChangeSpec := { name := "logicLoads", fn := fun _ => fun
  | [d1, d2, d3] => { results := [.lit (.bool true)], args := [d1, d2, d3] }
  | _ => none }
def logicLoadsRow : OpenClaim := { program := "ytgajbgdkgelkgaagreat", sum := "2db2a82ebb940450f3afd027c6147514b1d0c6f7b07d935d1eb0e202e9a419ba", func := "watchkeeper/watchkeeperlaw17.LogicLoads", spec := "logicLoads", inPlace := ["internal/bytealg.IndexByteString"], unfollowed := true, recurses := true, apart := false }
def LogicLoadsSaid : Prop := logicLoadsRow.holds Tryz.pinned (OpenSpec.ofChange logicLoadsSpec)

/-- ITS FALSE NEIGHBOUR: 'it returns false'. Refute it at one input. -/
def logicLoadsWrong : ChangeSpec := { name := "logicLoads", fn := fun _ => fun
  | [d1, d2, d3] => { results := [.lit (.bool false)], args := [d1, d2, d3] }
  | _ => none }
def LogicLoadsWrongFalsely : Prop := logicLoadsRow.holds Tryz.pinned (OpenSpec.ofChange logicLoadsWrong)

/- THE SECOND FORM. 'bulk': how many values and letters a reading holds, each counted each time it is reached (what is shared counts as often as it is met; a slice's spare places count too). A statement '..UptoSaid' is the law's where the arguments, and the package variables that the reading takes, are together of bulk at most 1048576: NARROWER than '..Said'. Prove '..Said' where nothing that the law and all that it calls make is longer than what came in: it says more and counts as full. Else prove '..UptoSaid'. A law counts once. -/
mutual
def uptoBulk {H : Type} : DataW H → Nat
  | .lit (.string bytes) => bytes.length + 1
  | .lit _ => 1
  | .nil => 1
  | .ptr d => uptoBulk d + 1
  | .slice elems spare => uptoBulkAll elems + uptoBulkAll spare + 1
  | .agg parts => uptoBulkAll parts + 1
  | .iface _ d => uptoBulk d + 1
  | .map entries => uptoBulkEntries entries + 1
  | .held _ => 1
def uptoBulkAll {H : Type} : List (DataW H) → Nat
  | [] => 0
  | d :: r => uptoBulk d + uptoBulkAll r
def uptoBulkEntries {H : Type} : List (Lit × DataW H) → Nat
  | [] => 0
  | x :: r => uptoBulkEntry x + uptoBulkEntries r
def uptoBulkEntry {H : Type} : Lit × DataW H → Nat
  | (.string bytes, d) => bytes.length + uptoBulk d + 1
  | (_, d) => uptoBulk d + 1
 end
def uptoSmall : (H : Type) → List (DataW H) → Bool := fun _ ds => decide (uptoBulkAll ds ≤ 1048576)
def OpenSpec.upto (s : _root_.Go.ChangeSpec) : _root_.Go.OpenSpec := { _root_.Go.OpenSpec.ofChange s with cond := some uptoSmall }

/-- 'watchkeeperlaw17.LogicUnknown', WHERE WHAT IT READS IS OF BULK AT MOST 1048576: true; the input reads as it did. -/
def logicUnknownUptoRow : OpenClaim := { program := "ytgajbgdkgelkgaagreat", sum := "2db2a82ebb940450f3afd027c6147514b1d0c6f7b07d935d1eb0e202e9a419ba", func := "watchkeeper/watchkeeperlaw17.LogicUnknown", spec := "logicUnknown", inPlace := ["internal/bytealg.IndexByteString"], unfollowed := true, recurses := true, apart := false, narrowed := true }
def LogicUnknownUptoSaid : Prop := logicUnknownUptoRow.holds Tryz.pinned (OpenSpec.upto logicUnknownSpec)

/-- 'watchkeeperlaw17.LogicTrips', WHERE WHAT IT READS IS OF BULK AT MOST 1048576: true; the input reads as it did. -/
def logicTripsUptoRow : OpenClaim := { program := "ytgajbgdkgelkgaagreat", sum := "2db2a82ebb940450f3afd027c6147514b1d0c6f7b07d935d1eb0e202e9a419ba", func := "watchkeeper/watchkeeperlaw17.LogicTrips", spec := "logicTrips", inPlace := ["internal/bytealg.IndexByteString"], unfollowed := true, recurses := true, apart := false, narrowed := true }
def LogicTripsUptoSaid : Prop := logicTripsUptoRow.holds Tryz.pinned (OpenSpec.upto logicTripsSpec)

/-- 'watchkeeperlaw17.LogicQuiet', WHERE WHAT IT READS IS OF BULK AT MOST 1048576: true; the input reads as it did. -/
def logicQuietUptoRow : OpenClaim := { program := "ytgajbgdkgelkgaagreat", sum := "2db2a82ebb940450f3afd027c6147514b1d0c6f7b07d935d1eb0e202e9a419ba", func := "watchkeeper/watchkeeperlaw17.LogicQuiet", spec := "logicQuiet", inPlace := ["internal/bytealg.IndexByteString"], unfollowed := true, recurses := true, apart := false, narrowed := true }
def LogicQuietUptoSaid : Prop := logicQuietUptoRow.holds Tryz.pinned (OpenSpec.upto logicQuietSpec)

/-- 'watchkeeperlaw17.LogicKey', WHERE WHAT IT READS IS OF BULK AT MOST 1048576: true; the input reads as it did. -/
def logicKeyUptoRow : OpenClaim := { program := "ytgajbgdkgelkgaagreat", sum := "2db2a82ebb940450f3afd027c6147514b1d0c6f7b07d935d1eb0e202e9a419ba", func := "watchkeeper/watchkeeperlaw17.LogicKey", spec := "logicKey", inPlace := ["internal/bytealg.IndexByteString"], unfollowed := true, recurses := true, apart := false, narrowed := true }
def LogicKeyUptoSaid : Prop := logicKeyUptoRow.holds Tryz.pinned (OpenSpec.upto logicKeySpec)

/-- 'watchkeeperlaw17.LogicLoads', WHERE WHAT IT READS IS OF BULK AT MOST 1048576: true; the input reads as it did. -/
def logicLoadsUptoRow : OpenClaim := { program := "ytgajbgdkgelkgaagreat", sum := "2db2a82ebb940450f3afd027c6147514b1d0c6f7b07d935d1eb0e202e9a419ba", func := "watchkeeper/watchkeeperlaw17.LogicLoads", spec := "logicLoads", inPlace := ["internal/bytealg.IndexByteString"], unfollowed := true, recurses := true, apart := false, narrowed := true }
def LogicLoadsUptoSaid : Prop := logicLoadsUptoRow.holds Tryz.pinned (OpenSpec.upto logicLoadsSpec)

end Rows
end Go.Proofs.YtgajbgdkgelkgaaGreat
