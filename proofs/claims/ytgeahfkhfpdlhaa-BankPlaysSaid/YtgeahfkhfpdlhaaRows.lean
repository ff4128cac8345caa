/-
  No cell of these rows narrows 'for every input' (looked for: loops, veiled, ifaces, maps, wideKeys, modest, calm, conditions, laid).
  DERIVED. THE GIVEN ROWS OF THIS SEAT. 13 by the template 'for every input the law returns true; each argument reads behind the call as it read before'; 0 by the template 'total and deterministic' (their statements: YtgeahfkhfpdlhaaTotals.lean).
  GIVEN WITH THE SEED: the statements are not yours to turn. If you find one false, say at which input.
  Laid BY PROGRAM, IN A SANDBOX (cutbox-rows.mjs): the forced cells as the released guide's own fill.sh prints them over the translation fb9781c795087573… (all of the seat's roots in one cut). By AI agents, Wed Nov 11 2026. No macro, syntax, notation, axiom, sorry.
-/
import Derived.Test.YtgeahfkhfpdlhaaChecked
import GoSem.Claim
import GoSem.ClaimJoined
import GoSem.ClaimMapViews
import Derived.JoinedTies
import Derived.KernelRfl
namespace Go.Proofs.Ytgeahfkhfpdlhaa
/- THE CELL 'sum', in the pinned program and in every row, IS THE sha256 OF THE DUMP (.gsa) THAT YtgeahfkhfpdlhaaProg.lean LOADS. Nothing in Lean hashes anything: it is a label: what it is worth is what the hold of that sum in a sandbox is worth. -/
noncomputable def Try.pinned : Pinned := { name := "ytgeahfkhfpdlhaa", sum := "fb9781c79508757311970fd014fd2eec46c762c5c4d2ee511cd148d868de78d0", checked := Try.checked }
namespace Rows
def none {H : Type} : Left H := { results := [], args := [] }

/-- 'watchkeeperlaw06.BankPlays': WHATEVER THE INPUT: true; the input reads as it did. -/
def bankPlaysSpec : ChangeSpec := { name := "bankPlays", fn := fun _ => fun
  | [d1, d2] => { results := [.lit (.bool true)], args := [d1, d2] }
  | _ => none }
def bankPlaysRow : OpenClaim := { program := "ytgeahfkhfpdlhaa", sum := "fb9781c79508757311970fd014fd2eec46c762c5c4d2ee511cd148d868de78d0", func := "watchkeeper/watchkeeperlaw06.BankPlays", spec := "bankPlays", unfollowed := true, recurses := true, apart := false }
def BankPlaysSaid : Prop := bankPlaysRow.holds Try.pinned (OpenSpec.ofChange bankPlaysSpec)

/-- ITS FALSE NEIGHBOUR: 'it returns false'. Refute it at one input. -/
def bankPlaysWrong : ChangeSpec := { name := "bankPlays", fn := fun _ => fun
  | [d1, d2] => { results := [.lit (.bool false)], args := [d1, d2] }
  | _ => none }
def BankPlaysWrongFalsely : Prop := bankPlaysRow.holds Try.pinned (OpenSpec.ofChange bankPlaysWrong)

/-- 'watchkeeperlaw06.BankWrites': WHATEVER THE INPUT: true; the input reads as it did. -/
def bankWritesSpec : ChangeSpec := { name := "bankWrites", fn := fun _ => fun
  | [d1, d2, d3, d4] => { results := [.lit (.bool true)], args := [d1, d2, d3, d4] }
  | _ => none }
def bankWritesRow : OpenClaim := { program := "ytgeahfkhfpdlhaa", sum := "fb9781c79508757311970fd014fd2eec46c762c5c4d2ee511cd148d868de78d0", func := "watchkeeper/watchkeeperlaw06.BankWrites", spec := "bankWrites", unfollowed := true, recurses := true, apart := false }
def BankWritesSaid : Prop := bankWritesRow.holds Try.pinned (OpenSpec.ofChange bankWritesSpec)

/-- ITS FALSE NEIGHBOUR: 'it returns false'. Refute it at one input. -/
def bankWritesWrong : ChangeSpec := { name := "bankWrites", fn := fun _ => fun
  | [d1, d2, d3, d4] => { results := [.lit (.bool false)], args := [d1, d2, d3, d4] }
  | _ => none }
def BankWritesWrongFalsely : Prop := bankWritesRow.holds Try.pinned (OpenSpec.ofChange bankWritesWrong)

/-- 'watchkeeperlaw06.BankServes': WHATEVER THE INPUT: true; the input reads as it did. -/
def bankServesSpec : ChangeSpec := { name := "bankServes", fn := fun _ => fun
  | [d1, d2] => { results := [.lit (.bool true)], args := [d1, d2] }
  | _ => none }
def bankServesRow : OpenClaim := { program := "ytgeahfkhfpdlhaa", sum := "fb9781c79508757311970fd014fd2eec46c762c5c4d2ee511cd148d868de78d0", func := "watchkeeper/watchkeeperlaw06.BankServes", spec := "bankServes", unfollowed := true, recurses := true, apart := false }
def BankServesSaid : Prop := bankServesRow.holds Try.pinned (OpenSpec.ofChange bankServesSpec)

/-- ITS FALSE NEIGHBOUR: 'it returns false'. Refute it at one input. -/
def bankServesWrong : ChangeSpec := { name := "bankServes", fn := fun _ => fun
  | [d1, d2] => { results := [.lit (.bool false)], args := [d1, d2] }
  | _ => none }
def BankServesWrongFalsely : Prop := bankServesRow.holds Try.pinned (OpenSpec.ofChange bankServesWrong)

/-- 'watchkeeperlaw06.BankMasks': WHATEVER THE INPUT: true; the input reads as it did. -/
def bankMasksSpec : ChangeSpec := { name := "bankMasks", fn := fun _ => fun
  | [d1, d2, d3] => { results := [.lit (.bool true)], args := [d1, d2, d3] }
  | _ => none }
def bankMasksRow : OpenClaim := { program := "ytgeahfkhfpdlhaa", sum := "fb9781c79508757311970fd014fd2eec46c762c5c4d2ee511cd148d868de78d0", func := "watchkeeper/watchkeeperlaw06.BankMasks", spec := "bankMasks", unfollowed := true, recurses := true, apart := false }
def BankMasksSaid : Prop := bankMasksRow.holds Try.pinned (OpenSpec.ofChange bankMasksSpec)

/-- ITS FALSE NEIGHBOUR: 'it returns false'. Refute it at one input. -/
def bankMasksWrong : ChangeSpec := { name := "bankMasks", fn := fun _ => fun
  | [d1, d2, d3] => { results := [.lit (.bool false)], args := [d1, d2, d3] }
  | _ => none }
def BankMasksWrongFalsely : Prop := bankMasksRow.holds Try.pinned (OpenSpec.ofChange bankMasksWrong)

/-- 'watchkeeperlaw06.BankSwaps': WHATEVER THE INPUT: true; the input reads as it did. -/
def bankSwapsSpec : ChangeSpec := { name := "bankSwaps", fn := fun _ => fun
  | [d1, d2, d3, d4, d5] => { results := [.lit (.bool true)], args := [d1, d2, d3, d4, d5] }
  | _ => none }
def bankSwapsRow : OpenClaim := { program := "ytgeahfkhfpdlhaa", sum := "fb9781c79508757311970fd014fd2eec46c762c5c4d2ee511cd148d868de78d0", func := "watchkeeper/watchkeeperlaw06.BankSwaps", spec := "bankSwaps", unfollowed := true, recurses := true, apart := false }
def BankSwapsSaid : Prop := bankSwapsRow.holds Try.pinned (OpenSpec.ofChange bankSwapsSpec)

/-- ITS FALSE NEIGHBOUR: 'it returns false'. Refute it at one input. -/
def bankSwapsWrong : ChangeSpec := { name := "bankSwaps", fn := fun _ => fun
  | [d1, d2, d3, d4, d5] => { results := [.lit (.bool false)], args := [d1, d2, d3, d4, d5] }
  | _ => none }
def BankSwapsWrongFalsely : Prop := bankSwapsRow.holds Try.pinned (OpenSpec.ofChange bankSwapsWrong)

/-- 'watchkeeperlaw06.BankCoils': WHATEVER THE INPUT: true; the input reads as it did. -/
def bankCoilsSpec : ChangeSpec := { name := "bankCoils", fn := fun _ => fun
  | [d1, d2, d3, d4] => { results := [.lit (.bool true)], args := [d1, d2, d3, d4] }
  | _ => none }
def bankCoilsRow : OpenClaim := { program := "ytgeahfkhfpdlhaa", sum := "fb9781c79508757311970fd014fd2eec46c762c5c4d2ee511cd148d868de78d0", func := "watchkeeper/watchkeeperlaw06.BankCoils", spec := "bankCoils", unfollowed := true, recurses := true, apart := false }
def BankCoilsSaid : Prop := bankCoilsRow.holds Try.pinned (OpenSpec.ofChange bankCoilsSpec)

/-- ITS FALSE NEIGHBOUR: 'it returns false'. Refute it at one input. -/
def bankCoilsWrong : ChangeSpec := { name := "bankCoils", fn := fun _ => fun
  | [d1, d2, d3, d4] => { results := [.lit (.bool false)], args := [d1, d2, d3, d4] }
  | _ => none }
def BankCoilsWrongFalsely : Prop := bankCoilsRow.holds Try.pinned (OpenSpec.ofChange bankCoilsWrong)

/-- 'watchkeeperlaw15.BypassPlays': WHATEVER THE INPUT: true; the input reads as it did. -/
def bypassPlaysSpec : ChangeSpec := { name := "bypassPlays", fn := fun _ => fun
  | [d1, d2] => { results := [.lit (.bool true)], args := [d1, d2] }
  | _ => none }
def bypassPlaysRow : OpenClaim := { program := "ytgeahfkhfpdlhaa", sum := "fb9781c79508757311970fd014fd2eec46c762c5c4d2ee511cd148d868de78d0", func := "watchkeeper/watchkeeperlaw15.BypassPlays", spec := "bypassPlays", unfollowed := true, recurses := true, apart := false }
def BypassPlaysSaid : Prop := bypassPlaysRow.holds Try.pinned (OpenSpec.ofChange bypassPlaysSpec)

/-- ITS FALSE NEIGHBOUR: 'it returns false'. Refute it at one input. -/
def bypassPlaysWrong : ChangeSpec := { name := "bypassPlays", fn := fun _ => fun
  | [d1, d2] => { results := [.lit (.bool false)], args := [d1, d2] }
  | _ => none }
def BypassPlaysWrongFalsely : Prop := bypassPlaysRow.holds Try.pinned (OpenSpec.ofChange bypassPlaysWrong)

/-- 'watchkeeperlaw15.BypassLapses': WHATEVER THE INPUT: true; the input reads as it did. -/
def bypassLapsesSpec : ChangeSpec := { name := "bypassLapses", fn := fun _ => fun
  | [d1, d2] => { results := [.lit (.bool true)], args := [d1, d2] }
  | _ => none }
def bypassLapsesRow : OpenClaim := { program := "ytgeahfkhfpdlhaa", sum := "fb9781c79508757311970fd014fd2eec46c762c5c4d2ee511cd148d868de78d0", func := "watchkeeper/watchkeeperlaw15.BypassLapses", spec := "bypassLapses", unfollowed := true, recurses := true, apart := false }
def BypassLapsesSaid : Prop := bypassLapsesRow.holds Try.pinned (OpenSpec.ofChange bypassLapsesSpec)

/-- ITS FALSE NEIGHBOUR: 'it returns false'. Refute it at one input. -/
def bypassLapsesWrong : ChangeSpec := { name := "bypassLapses", fn := fun _ => fun
  | [d1, d2] => { results := [.lit (.bool false)], args := [d1, d2] }
  | _ => none }
def BypassLapsesWrongFalsely : Prop := bypassLapsesRow.holds Try.pinned (OpenSpec.ofChange bypassLapsesWrong)

/-- 'watchkeeperlaw15.BypassApart': WHATEVER THE INPUT: true; the input reads as it did. -/
def bypassApartSpec : ChangeSpec := { name := "bypassApart", fn := fun _ => fun
  | [d1, d2, d3] => { results := [.lit (.bool true)], args := [d1, d2, d3] }
  | _ => none }
def bypassApartRow : OpenClaim := { program := "ytgeahfkhfpdlhaa", sum := "fb9781c79508757311970fd014fd2eec46c762c5c4d2ee511cd148d868de78d0", func := "watchkeeper/watchkeeperlaw15.BypassApart", spec := "bypassApart", unfollowed := true, recurses := true, apart := false }
def BypassApartSaid : Prop := bypassApartRow.holds Try.pinned (OpenSpec.ofChange bypassApartSpec)

/-- ITS FALSE NEIGHBOUR: 'it returns false'. Refute it at one input. -/
def bypassApartWrong : ChangeSpec := { name := "bypassApart", fn := fun _ => fun
  | [d1, d2, d3] => { results := [.lit (.bool false)], args := [d1, d2, d3] }
  | _ => none }
def BypassApartWrongFalsely : Prop := bypassApartRow.holds Try.pinned (OpenSpec.ofChange bypassApartWrong)

/-- 'watchkeeperlaw15.BypassAgain': WHATEVER THE INPUT: true; the input reads as it did. -/
def bypassAgainSpec : ChangeSpec := { name := "bypassAgain", fn := fun _ => fun
  | [d1, d2, d3, d4] => { results := [.lit (.bool true)], args := [d1, d2, d3, d4] }
  | _ => none }
def bypassAgainRow : OpenClaim := { program := "ytgeahfkhfpdlhaa", sum := "fb9781c79508757311970fd014fd2eec46c762c5c4d2ee511cd148d868de78d0", func := "watchkeeper/watchkeeperlaw15.BypassAgain", spec := "bypassAgain", unfollowed := true, recurses := true, apart := false }
def BypassAgainSaid : Prop := bypassAgainRow.holds Try.pinned (OpenSpec.ofChange bypassAgainSpec)

/-- ITS FALSE NEIGHBOUR: 'it returns false'. Refute it at one input. -/
def bypassAgainWrong : ChangeSpec := { name := "bypassAgain", fn := fun _ => fun
  | [d1, d2, d3, d4] => { results := [.lit (.bool false)], args := [d1, d2, d3, d4] }
  | _ => none }
def BypassAgainWrongFalsely : Prop := bypassAgainRow.holds Try.pinned (OpenSpec.ofChange bypassAgainWrong)

/-- 'watchkeeperlaw23.SlaveShows': WHATEVER THE INPUT: true; the input reads as it did. -/
def slaveShowsSpec : ChangeSpec := { name := "slaveShows", fn := fun _ => fun
  | [d1, d2, d3] => { results := [.lit (.bool true)], args := [d1, d2, d3] }
  | _ => none }
def slaveShowsRow : OpenClaim := { program := "ytgeahfkhfpdlhaa", sum := "fb9781c79508757311970fd014fd2eec46c762c5c4d2ee511cd148d868de78d0", func := "watchkeeper/watchkeeperlaw23.SlaveShows", spec := "slaveShows", inPlace := ["internal/bytealg.IndexByteString"], unfollowed := true, recurses := true, apart := false }
def SlaveShowsSaid : Prop := slaveShowsRow.holds Try.pinned (OpenSpec.ofChange slaveShowsSpec)

/-- ITS FALSE NEIGHBOUR: 'it returns false'. Refute it at one input. -/
def slaveShowsWrong : ChangeSpec := { name := "slaveShows", fn := fun _ => fun
  | [d1, d2, d3] => { results := [.lit (.bool false)], args := [d1, d2, d3] }
  | _ => none }
def SlaveShowsWrongFalsely : Prop := slaveShowsRow.holds Try.pinned (OpenSpec.ofChange slaveShowsWrong)

/-- 'watchkeeperlaw23.SlaveRefuses': WHATEVER THE INPUT: true; the input reads as it did. -/
def slaveRefusesSpec : ChangeSpec := { name := "slaveRefuses", fn := fun _ => fun
  | [d] => { results := [.lit (.bool true)], args := [d] }
  | _ => none }
def slaveRefusesRow : OpenClaim := { program := "ytgeahfkhfpdlhaa", sum := "fb9781c79508757311970fd014fd2eec46c762c5c4d2ee511cd148d868de78d0", func := "watchkeeper/watchkeeperlaw23.SlaveRefuses", spec := "slaveRefuses", inPlace := ["internal/bytealg.IndexByteString"], unfollowed := true, recurses := true, apart := false }
def SlaveRefusesSaid : Prop := slaveRefusesRow.holds Try.pinned (OpenSpec.ofChange slaveRefusesSpec)

/-- ITS FALSE NEIGHBOUR: 'it returns false'. Refute it at one input. -/
def slaveRefusesWrong : ChangeSpec := { name := "slaveRefuses", fn := fun _ => fun
  | [d] => { results := [.lit (.bool false)], args := [d] }
  | _ => none }
def SlaveRefusesWrongFalsely : Prop := slaveRefusesRow.holds Try.pinned (OpenSpec.ofChange slaveRefusesWrong)

/-- 'watchkeeperlaw23.SlaveCuts': WHATEVER THE INPUT: true; the input reads as it did. -/
def slaveCutsSpec : ChangeSpec := { name := "slaveCuts", fn := fun _ => fun
  | [d] => { results := [.lit (.bool true)], args := [d] }
  | _ => none }
def slaveCutsRow : OpenClaim := { program := "ytgeahfkhfpdlhaa", sum := "fb9781c79508757311970fd014fd2eec46c762c5c4d2ee511cd148d868de78d0", func := "watchkeeper/watchkeeperlaw23.SlaveCuts", spec := "slaveCuts", inPlace := ["internal/bytealg.IndexByteString"], unfollowed := true, recurses := true, apart := false }
def SlaveCutsSaid : Prop := slaveCutsRow.holds Try.pinned (OpenSpec.ofChange slaveCutsSpec)

/-- ITS FALSE NEIGHBOUR: 'it returns false'. Refute it at one input. -/
def slaveCutsWrong : ChangeSpec := { name := "slaveCuts", fn := fun _ => fun
  | [d] => { results := [.lit (.bool false)], args := [d] }
  | _ => none }
def SlaveCutsWrongFalsely : Prop := slaveCutsRow.holds Try.pinned (OpenSpec.ofChange slaveCutsWrong)

/- THE SECOND FORM. 'bulk': how many values and letters a reading holds, each counted each time it is reached (what is shared counts as often as it is met; a slice's spare places count too). A statement '..UptoSaid' is the law's where the arguments, and the package variables that the reading takes, are together of bulk at most 1048576: NARROWER than '..Said'. Prove '..Said' where nothing that the law and all that it calls make is longer than what came in: it says more and counts as full. Else prove '..UptoSaid'. A law counts once. -/
mutual
def uptoBulk {H : Type} : DataW H → Nat
  | .lit (.string bytes) => bytes.length + 1
  | .lit _ => 1
  | .nil => 1
  | .ptr d => uptoBulk d + 1
  | .slice elems spare => uptoBulkAll elems + uptoBulkAll spare + 1
  | .agg parts => uptoBulkAll parts + 1
  | .iface _ d => uptoBulk d + 1
  | .map entries => uptoBulkEntries entries + 1
  | .held _ => 1
def uptoBulkAll {H : Type} : List (DataW H) → Nat
  | [] => 0
  | d :: r => uptoBulk d + uptoBulkAll r
def uptoBulkEntries {H : Type} : List (Lit × DataW H) → Nat
  | [] => 0
  | x :: r => uptoBulkEntry x + uptoBulkEntries r
def uptoBulkEntry {H : Type} : Lit × DataW H → Nat
  | (.string bytes, d) => bytes.length + uptoBulk d + 1
  | (_, d) => uptoBulk d + 1
 end
def uptoSmall : (H : Type) → List (DataW H) → Bool := fun _ ds => decide (uptoBulkAll ds ≤ 1048576)
def OpenSpec.upto (s : _root_.Go.ChangeSpec) : _root_.Go.OpenSpec := { _root_.Go.OpenSpec.ofChange s with cond := some uptoSmall }

/-- 'watchkeeperlaw06.BankPlays', WHERE WHAT IT READS IS OF BULK AT MOST 1048576: true; the input reads as it did. -/
def bankPlaysUptoRow : OpenClaim := { program := "ytgeahfkhfpdlhaa", sum := "fb9781c79508757311970fd014fd2eec46c762c5c4d2ee511cd148d868de78d0", func := "watchkeeper/watchkeeperlaw06.BankPlays", spec := "bankPlays", unfollowed := true, recurses := true, apart := false, narrowed := true }
def BankPlaysUptoSaid : Prop := bankPlaysUptoRow.holds Try.pinned (OpenSpec.upto bankPlaysSpec)

/-- 'watchkeeperlaw06.BankWrites', WHERE WHAT IT READS IS OF BULK AT MOST 1048576: true; the input reads as it did. -/
def bankWritesUptoRow : OpenClaim := { program := "ytgeahfkhfpdlhaa", sum := "fb9781c79508757311970fd014fd2eec46c762c5c4d2ee511cd148d868de78d0", func := "watchkeeper/watchkeeperlaw06.BankWrites", spec := "bankWrites", unfollowed := true, recurses := true, apart := false, narrowed := true }
def BankWritesUptoSaid : Prop := bankWritesUptoRow.holds Try.pinned (OpenSpec.upto bankWritesSpec)

/-- 'watchkeeperlaw06.BankServes', WHERE WHAT IT READS IS OF BULK AT MOST 1048576: true; the input reads as it did. -/
def bankServesUptoRow : OpenClaim := { program := "ytgeahfkhfpdlhaa", sum := "fb9781c79508757311970fd014fd2eec46c762c5c4d2ee511cd148d868de78d0", func := "watchkeeper/watchkeeperlaw06.BankServes", spec := "bankServes", unfollowed := true, recurses := true, apart := false, narrowed := true }
def BankServesUptoSaid : Prop := bankServesUptoRow.holds Try.pinned (OpenSpec.upto bankServesSpec)

/-- 'watchkeeperlaw06.BankMasks', WHERE WHAT IT READS IS OF BULK AT MOST 1048576: true; the input reads as it did. -/
def bankMasksUptoRow : OpenClaim := { program := "ytgeahfkhfpdlhaa", sum := "fb9781c79508757311970fd014fd2eec46c762c5c4d2ee511cd148d868de78d0", func := "watchkeeper/watchkeeperlaw06.BankMasks", spec := "bankMasks", unfollowed := true, recurses := true, apart := false, narrowed := true }
def BankMasksUptoSaid : Prop := bankMasksUptoRow.holds Try.pinned (OpenSpec.upto bankMasksSpec)

/-- 'watchkeeperlaw06.BankSwaps', WHERE WHAT IT READS IS OF BULK AT MOST 1048576: true; the input reads as it did. -/
def bankSwapsUptoRow : OpenClaim := { program := "ytgeahfkhfpdlhaa", sum := "fb9781c79508757311970fd014fd2eec46c762c5c4d2ee511cd148d868de78d0", func := "watchkeeper/watchkeeperlaw06.BankSwaps", spec := "bankSwaps", unfollowed := true, recurses := true, apart := false, narrowed := true }
def BankSwapsUptoSaid : Prop := bankSwapsUptoRow.holds Try.pinned (OpenSpec.upto bankSwapsSpec)

/-- 'watchkeeperlaw06.BankCoils', WHERE WHAT IT READS IS OF BULK AT MOST 1048576: true; the input reads as it did. -/
def bankCoilsUptoRow : OpenClaim := { program := "ytgeahfkhfpdlhaa", sum := "fb9781c79508757311970fd014fd2eec46c762c5c4d2ee511cd148d868de78d0", func := "watchkeeper/watchkeeperlaw06.BankCoils", spec := "bankCoils", unfollowed := true, recurses := true, apart := false, narrowed := true }
def BankCoilsUptoSaid : Prop := bankCoilsUptoRow.holds Try.pinned (OpenSpec.upto bankCoilsSpec)

/-- 'watchkeeperlaw15.BypassPlays', WHERE WHAT IT READS IS OF BULK AT MOST 1048576: true; the input reads as it did. -/
def bypassPlaysUptoRow : OpenClaim := { program := "ytgeahfkhfpdlhaa", sum := "fb9781c79508757311970fd014fd2eec46c762c5c4d2ee511cd148d868de78d0", func := "watchkeeper/watchkeeperlaw15.BypassPlays", spec := "bypassPlays", unfollowed := true, recurses := true, apart := false, narrowed := true }
def BypassPlaysUptoSaid : Prop := bypassPlaysUptoRow.holds Try.pinned (OpenSpec.upto bypassPlaysSpec)

/-- 'watchkeeperlaw15.BypassLapses', WHERE WHAT IT READS IS OF BULK AT MOST 1048576: true; the input reads as it did. -/
def bypassLapsesUptoRow : OpenClaim := { program := "ytgeahfkhfpdlhaa", sum := "fb9781c79508757311970fd014fd2eec46c762c5c4d2ee511cd148d868de78d0", func := "watchkeeper/watchkeeperlaw15.BypassLapses", spec := "bypassLapses", unfollowed := true, recurses := true, apart := false, narrowed := true }
def BypassLapsesUptoSaid : Prop := bypassLapsesUptoRow.holds Try.pinned (OpenSpec.upto bypassLapsesSpec)

/-- 'watchkeeperlaw15.BypassApart', WHERE WHAT IT READS IS OF BULK AT MOST 1048576: true; the input reads as it did. -/
def bypassApartUptoRow : OpenClaim := { program := "ytgeahfkhfpdlhaa", sum := "fb9781c79508757311970fd014fd2eec46c762c5c4d2ee511cd148d868de78d0", func := "watchkeeper/watchkeeperlaw15.BypassApart", spec := "bypassApart", unfollowed := true, recurses := true, apart := false, narrowed := true }
def BypassApartUptoSaid : Prop := bypassApartUptoRow.holds Try.pinned (OpenSpec.upto bypassApartSpec)

/-- 'watchkeeperlaw15.BypassAgain', WHERE WHAT IT READS IS OF BULK AT MOST 1048576: true; the input reads as it did. -/
def bypassAgainUptoRow : OpenClaim := { program := "ytgeahfkhfpdlhaa", sum := "fb9781c79508757311970fd014fd2eec46c762c5c4d2ee511cd148d868de78d0", func := "watchkeeper/watchkeeperlaw15.BypassAgain", spec := "bypassAgain", unfollowed := true, recurses := true, apart := false, narrowed := true }
def BypassAgainUptoSaid : Prop := bypassAgainUptoRow.holds Try.pinned (OpenSpec.upto bypassAgainSpec)

/-- 'watchkeeperlaw23.SlaveShows', WHERE WHAT IT READS IS OF BULK AT MOST 1048576: true; the input reads as it did. -/
def slaveShowsUptoRow : OpenClaim := { program := "ytgeahfkhfpdlhaa", sum := "fb9781c79508757311970fd014fd2eec46c762c5c4d2ee511cd148d868de78d0", func := "watchkeeper/watchkeeperlaw23.SlaveShows", spec := "slaveShows", inPlace := ["internal/bytealg.IndexByteString"], unfollowed := true, recurses := true, apart := false, narrowed := true }
def SlaveShowsUptoSaid : Prop := slaveShowsUptoRow.holds Try.pinned (OpenSpec.upto slaveShowsSpec)

/-- 'watchkeeperlaw23.SlaveRefuses', WHERE WHAT IT READS IS OF BULK AT MOST 1048576: true; the input reads as it did. -/
def slaveRefusesUptoRow : OpenClaim := { program := "ytgeahfkhfpdlhaa", sum := "fb9781c79508757311970fd014fd2eec46c762c5c4d2ee511cd148d868de78d0", func := "watchkeeper/watchkeeperlaw23.SlaveRefuses", spec := "slaveRefuses", inPlace := ["internal/bytealg.IndexByteString"], unfollowed := true, recurses := true, apart := false, narrowed := true }
def SlaveRefusesUptoSaid : Prop := slaveRefusesUptoRow.holds Try.pinned (OpenSpec.upto slaveRefusesSpec)

/-- 'watchkeeperlaw23.SlaveCuts', WHERE WHAT IT READS IS OF BULK AT MOST 1048576: true; the input reads as it did. -/
def slaveCutsUptoRow : OpenClaim := { program := "ytgeahfkhfpdlhaa", sum := "fb9781c79508757311970fd014fd2eec46c762c5c4d2ee511cd148d868de78d0", func := "watchkeeper/watchkeeperlaw23.SlaveCuts", spec := "slaveCuts", inPlace := ["internal/bytealg.IndexByteString"], unfollowed := true, recurses := true, apart := false, narrowed := true }
def SlaveCutsUptoSaid : Prop := slaveCutsUptoRow.holds Try.pinned (OpenSpec.upto slaveCutsSpec)

end Rows
end Go.Proofs.Ytgeahfkhfpdlhaa
