/-
  No cell of these rows narrows 'for every input' (looked for: loops, veiled, ifaces, maps, wideKeys, modest, calm, conditions, laid).
  DERIVED. THE GIVEN ROWS OF THIS SEAT. 7 by the template 'for every input the law returns true; each argument reads behind the call as it read before'; 0 by the template 'total and deterministic' (their statements: YtgagpalffdgjnaaTotals.lean).
  GIVEN WITH THE SEED: the statements are not yours to turn. If you find one false, say at which input.
  Laid BY PROGRAM, IN A SANDBOX (cutbox-rows.mjs): the forced cells as the released guide's own fill.sh prints them over the translation 085d7d57c2dc9588… (all of the seat's roots in one cut). By AI agents, Wed Nov 11 2026. No macro, syntax, notation, axiom, sorry.
-/
import Derived.Test.YtgagpalffdgjnaaChecked
import GoSem.Claim
import GoSem.ClaimJoined
import GoSem.ClaimMapViews
import Derived.JoinedTies
import Derived.KernelRfl
namespace Go.Proofs.Ytgagpalffdgjnaa
/- THE CELL 'sum', in the pinned program and in every row, IS THE sha256 OF THE DUMP (.gsa) THAT YtgagpalffdgjnaaProg.lean LOADS. Nothing in Lean hashes anything: it is a label: what it is worth is what the hold of that sum in a sandbox is worth. -/
noncomputable def Try.pinned : Pinned := { name := "ytgagpalffdgjnaa", sum := "085d7d57c2dc95885e440e32a4fc9b2d952c81057b2637aa792c9242537e9f08", checked := Try.checked }
namespace Rows
def none {H : Type} : Left H := { results := [], args := [] }

/-- 'watchkeeperlaw21.LineAhead': WHATEVER THE INPUT: true; the input reads as it did. -/
def lineAheadSpec : ChangeSpec := { name := "lineAhead", fn := fun _ => fun
  | [d] => { results := [.lit (.bool true)], args := [d] }
  | _ => none }
def lineAheadRow : OpenClaim := { program := "ytgagpalffdgjnaa", sum := "085d7d57c2dc95885e440e32a4fc9b2d952c81057b2637aa792c9242537e9f08", func := "watchkeeper/watchkeeperlaw21.LineAhead", spec := "lineAhead", unfollowed := true, recurses := true, plainKeys := false, apart := false }
def LineAheadSaid : Prop := lineAheadRow.holds Try.pinned (OpenSpec.ofChange lineAheadSpec)

/-- ITS FALSE NEIGHBOUR: 'it returns false'. Refute it at one input. -/
def lineAheadWrong : ChangeSpec := { name := "lineAhead", fn := fun _ => fun
  | [d] => { results := [.lit (.bool false)], args := [d] }
  | _ => none }
def LineAheadWrongFalsely : Prop := lineAheadRow.holds Try.pinned (OpenSpec.ofChange lineAheadWrong)

/-- 'watchkeeperlaw21.LineIds': WHATEVER THE INPUT: true; the input reads as it did. -/
def lineIdsSpec : ChangeSpec := { name := "lineIds", fn := fun _ => fun
  | [d] => { results := [.lit (.bool true)], args := [d] }
  | _ => none }
def lineIdsRow : OpenClaim := { program := "ytgagpalffdgjnaa", sum := "085d7d57c2dc95885e440e32a4fc9b2d952c81057b2637aa792c9242537e9f08", func := "watchkeeper/watchkeeperlaw21.LineIds", spec := "lineIds", unfollowed := true, recurses := true, plainKeys := false, apart := false }
def LineIdsSaid : Prop := lineIdsRow.holds Try.pinned (OpenSpec.ofChange lineIdsSpec)

/-- ITS FALSE NEIGHBOUR: 'it returns false'. Refute it at one input. -/
def lineIdsWrong : ChangeSpec := { name := "lineIds", fn := fun _ => fun
  | [d] => { results := [.lit (.bool false)], args := [d] }
  | _ => none }
def LineIdsWrongFalsely : Prop := lineIdsRow.holds Try.pinned (OpenSpec.ofChange lineIdsWrong)

/-- 'watchkeeperlaw21.LineOnce': WHATEVER THE INPUT: true; the input reads as it did. -/
def lineOnceSpec : ChangeSpec := { name := "lineOnce", fn := fun _ => fun
  | [d1, d2, d3] => { results := [.lit (.bool true)], args := [d1, d2, d3] }
  | _ => none }
def lineOnceRow : OpenClaim := { program := "ytgagpalffdgjnaa", sum := "085d7d57c2dc95885e440e32a4fc9b2d952c81057b2637aa792c9242537e9f08", func := "watchkeeper/watchkeeperlaw21.LineOnce", spec := "lineOnce", unfollowed := true, recurses := true, plainKeys := false, apart := false }
def LineOnceSaid : Prop := lineOnceRow.holds Try.pinned (OpenSpec.ofChange lineOnceSpec)

/-- ITS FALSE NEIGHBOUR: 'it returns false'. Refute it at one input. -/
def lineOnceWrong : ChangeSpec := { name := "lineOnce", fn := fun _ => fun
  | [d1, d2, d3] => { results := [.lit (.bool false)], args := [d1, d2, d3] }
  | _ => none }
def LineOnceWrongFalsely : Prop := lineOnceRow.holds Try.pinned (OpenSpec.ofChange lineOnceWrong)

/-- 'watchkeeperlaw24.FieldAsked': WHATEVER THE INPUT: true; the input reads as it did. -/
def fieldAskedSpec : ChangeSpec := { name := "fieldAsked", fn := fun _ => fun
  | [d1, d2, d3, d4, d5] => { results := [.lit (.bool true)], args := [d1, d2, d3, d4, d5] }
  | _ => none }
def fieldAskedRow : OpenClaim := { program := "ytgagpalffdgjnaa", sum := "085d7d57c2dc95885e440e32a4fc9b2d952c81057b2637aa792c9242537e9f08", func := "watchkeeper/watchkeeperlaw24.FieldAsked", spec := "fieldAsked", unfollowed := true, recurses := true, plainKeys := false, apart := false }
def FieldAskedSaid : Prop := fieldAskedRow.holds Try.pinned (OpenSpec.ofChange fieldAskedSpec)

/-- ITS FALSE NEIGHBOUR: 'it returns false'. Refute it at one input. -/
def fieldAskedWrong : ChangeSpec := { name := "fieldAsked", fn := fun _ => fun
  | [d1, d2, d3, d4, d5] => { results := [.lit (.bool false)], args := [d1, d2, d3, d4, d5] }
  | _ => none }
def FieldAskedWrongFalsely : Prop := fieldAskedRow.holds Try.pinned (OpenSpec.ofChange fieldAskedWrong)

/-- 'watchkeeperlaw24.FieldApart': WHATEVER THE INPUT: true; the input reads as it did. -/
def fieldApartSpec : ChangeSpec := { name := "fieldApart", fn := fun _ => fun
  | [d] => { results := [.lit (.bool true)], args := [d] }
  | _ => none }
def fieldApartRow : OpenClaim := { program := "ytgagpalffdgjnaa", sum := "085d7d57c2dc95885e440e32a4fc9b2d952c81057b2637aa792c9242537e9f08", func := "watchkeeper/watchkeeperlaw24.FieldApart", spec := "fieldApart", unfollowed := true, recurses := true, plainKeys := false, apart := false }
def FieldApartSaid : Prop := fieldApartRow.holds Try.pinned (OpenSpec.ofChange fieldApartSpec)

/-- ITS FALSE NEIGHBOUR: 'it returns false'. Refute it at one input. -/
def fieldApartWrong : ChangeSpec := { name := "fieldApart", fn := fun _ => fun
  | [d] => { results := [.lit (.bool false)], args := [d] }
  | _ => none }
def FieldApartWrongFalsely : Prop := fieldApartRow.holds Try.pinned (OpenSpec.ofChange fieldApartWrong)

/-- 'watchkeeperlaw24.FieldDue': WHATEVER THE INPUT: true; the input reads as it did. -/
def fieldDueSpec : ChangeSpec := { name := "fieldDue", fn := fun _ => fun
  | [d1, d2, d3] => { results := [.lit (.bool true)], args := [d1, d2, d3] }
  | _ => none }
def fieldDueRow : OpenClaim := { program := "ytgagpalffdgjnaa", sum := "085d7d57c2dc95885e440e32a4fc9b2d952c81057b2637aa792c9242537e9f08", func := "watchkeeper/watchkeeperlaw24.FieldDue", spec := "fieldDue", unfollowed := true, recurses := true, plainKeys := false, apart := false }
def FieldDueSaid : Prop := fieldDueRow.holds Try.pinned (OpenSpec.ofChange fieldDueSpec)

/-- ITS FALSE NEIGHBOUR: 'it returns false'. Refute it at one input. -/
def fieldDueWrong : ChangeSpec := { name := "fieldDue", fn := fun _ => fun
  | [d1, d2, d3] => { results := [.lit (.bool false)], args := [d1, d2, d3] }
  | _ => none }
def FieldDueWrongFalsely : Prop := fieldDueRow.holds Try.pinned (OpenSpec.ofChange fieldDueWrong)

/-- 'watchkeeperlaw24.FieldInputs': WHATEVER THE INPUT: true; the input reads as it did. -/
def fieldInputsSpec : ChangeSpec := { name := "fieldInputs", fn := fun _ => fun
  | [d1, d2, d3] => { results := [.lit (.bool true)], args := [d1, d2, d3] }
  | _ => none }
def fieldInputsRow : OpenClaim := { program := "ytgagpalffdgjnaa", sum := "085d7d57c2dc95885e440e32a4fc9b2d952c81057b2637aa792c9242537e9f08", func := "watchkeeper/watchkeeperlaw24.FieldInputs", spec := "fieldInputs", unfollowed := true, recurses := true, plainKeys := false, apart := false }
def FieldInputsSaid : Prop := fieldInputsRow.holds Try.pinned (OpenSpec.ofChange fieldInputsSpec)

/-- ITS FALSE NEIGHBOUR: 'it returns false'. Refute it at one input. -/
def fieldInputsWrong : ChangeSpec := { name := "fieldInputs", fn := fun _ => fun
  | [d1, d2, d3] => { results := [.lit (.bool false)], args := [d1, d2, d3] }
  | _ => none }
def FieldInputsWrongFalsely : Prop := fieldInputsRow.holds Try.pinned (OpenSpec.ofChange fieldInputsWrong)

/- THE SECOND FORM. 'bulk': how many values and letters a reading holds, each counted each time it is reached (what is shared counts as often as it is met; a slice's spare places count too). A statement '..UptoSaid' is the law's where the arguments, and the package variables that the reading takes, are together of bulk at most 1048576: NARROWER than '..Said'. Prove '..Said' where nothing that the law and all that it calls make is longer than what came in: it says more and counts as full. Else prove '..UptoSaid'. A law counts once. -/
mutual
def uptoBulk {H : Type} : DataW H → Nat
  | .lit (.string bytes) => bytes.length + 1
  | .lit _ => 1
  | .nil => 1
  | .ptr d => uptoBulk d + 1
  | .slice elems spare => uptoBulkAll elems + uptoBulkAll spare + 1
  | .agg parts => uptoBulkAll parts + 1
  | .iface _ d => uptoBulk d + 1
  | .map entries => uptoBulkEntries entries + 1
  | .held _ => 1
def uptoBulkAll {H : Type} : List (DataW H) → Nat
  | [] => 0
  | d :: r => uptoBulk d + uptoBulkAll r
def uptoBulkEntries {H : Type} : List (Lit × DataW H) → Nat
  | [] => 0
  | x :: r => uptoBulkEntry x + uptoBulkEntries r
def uptoBulkEntry {H : Type} : Lit × DataW H → Nat
  | (.string bytes, d) => bytes.length + uptoBulk d + 1
  | (_, d) => uptoBulk d + 1
 end
def uptoSmall : (H : Type) → List (DataW H) → Bool := fun _ ds => decide (uptoBulkAll ds ≤ 1048576)
def OpenSpec.upto (s : _root_.Go.ChangeSpec) : _root_.Go.OpenSpec := { _root_.Go.OpenSpec.ofChange s with cond := some uptoSmall }

/-- 'watchkeeperlaw21.LineAhead', WHERE WHAT IT READS IS OF BULK AT MOST 1048576: true; the input reads as it did. -/
def lineAheadUptoRow : OpenClaim := { program := "ytgagpalffdgjnaa", sum := "085d7d57c2dc95885e440e32a4fc9b2d952c81057b2637aa792c9242537e9f08", func := "watchkeeper/watchkeeperlaw21.LineAhead", spec := "lineAhead", unfollowed := true, recurses := true, plainKeys := false, apart := false, narrowed := true }
def LineAheadUptoSaid : Prop := lineAheadUptoRow.holds Try.pinned (OpenSpec.upto lineAheadSpec)

/-- 'watchkeeperlaw21.LineIds', WHERE WHAT IT READS IS OF BULK AT MOST 1048576: true; the input reads as it did. -/
def lineIdsUptoRow : OpenClaim := { program := "ytgagpalffdgjnaa", sum := "085d7d57c2dc95885e440e32a4fc9b2d952c81057b2637aa792c9242537e9f08", func := "watchkeeper/watchkeeperlaw21.LineIds", spec := "lineIds", unfollowed := true, recurses := true, plainKeys := false, apart := false, narrowed := true }
def LineIdsUptoSaid : Prop := lineIdsUptoRow.holds Try.pinned (OpenSpec.upto lineIdsSpec)

/-- 'watchkeeperlaw21.LineOnce', WHERE WHAT IT READS IS OF BULK AT MOST 1048576: true; the input reads as it did. -/
def lineOnceUptoRow : OpenClaim := { program := "ytgagpalffdgjnaa", sum := "085d7d57c2dc95885e440e32a4fc9b2d952c81057b2637aa792c9242537e9f08", func := "watchkeeper/watchkeeperlaw21.LineOnce", spec := "lineOnce", unfollowed := true, recurses := true, plainKeys := false, apart := false, narrowed := true }
def LineOnceUptoSaid : Prop := lineOnceUptoRow.holds Try.pinned (OpenSpec.upto lineOnceSpec)

/-- 'watchkeeperlaw24.FieldAsked', WHERE WHAT IT READS IS OF BULK AT MOST 1048576: true; the input reads as it did. -/
def fieldAskedUptoRow : OpenClaim := { program := "ytgagpalffdgjnaa", sum := "085d7d57c2dc95885e440e32a4fc9b2d952c81057b2637aa792c9242537e9f08", func := "watchkeeper/watchkeeperlaw24.FieldAsked", spec := "fieldAsked", unfollowed := true, recurses := true, plainKeys := false, apart := false, narrowed := true }
def FieldAskedUptoSaid : Prop := fieldAskedUptoRow.holds Try.pinned (OpenSpec.upto fieldAskedSpec)

/-- 'watchkeeperlaw24.FieldApart', WHERE WHAT IT READS IS OF BULK AT MOST 1048576: true; the input reads as it did. -/
def fieldApartUptoRow : OpenClaim := { program := "ytgagpalffdgjnaa", sum := "085d7d57c2dc95885e440e32a4fc9b2d952c81057b2637aa792c9242537e9f08", func := "watchkeeper/watchkeeperlaw24.FieldApart", spec := "fieldApart", unfollowed := true, recurses := true, plainKeys := false, apart := false, narrowed := true }
def FieldApartUptoSaid : Prop := fieldApartUptoRow.holds Try.pinned (OpenSpec.upto fieldApartSpec)

/-- 'watchkeeperlaw24.FieldDue', WHERE WHAT IT READS IS OF BULK AT MOST 1048576: true; the input reads as it did. -/
def fieldDueUptoRow : OpenClaim := { program := "ytgagpalffdgjnaa", sum := "085d7d57c2dc95885e440e32a4fc9b2d952c81057b2637aa792c9242537e9f08", func := "watchkeeper/watchkeeperlaw24.FieldDue", spec := "fieldDue", unfollowed := true, recurses := true, plainKeys := false, apart := false, narrowed := true }
def FieldDueUptoSaid : Prop := fieldDueUptoRow.holds Try.pinned (OpenSpec.upto fieldDueSpec)

/-- 'watchkeeperlaw24.FieldInputs', WHERE WHAT IT READS IS OF BULK AT MOST 1048576: true; the input reads as it did. -/
def fieldInputsUptoRow : OpenClaim := { program := "ytgagpalffdgjnaa", sum := "085d7d57c2dc95885e440e32a4fc9b2d952c81057b2637aa792c9242537e9f08", func := "watchkeeper/watchkeeperlaw24.FieldInputs", spec := "fieldInputs", unfollowed := true, recurses := true, plainKeys := false, apart := false, narrowed := true }
def FieldInputsUptoSaid : Prop := fieldInputsUptoRow.holds Try.pinned (OpenSpec.upto fieldInputsSpec)

end Rows
end Go.Proofs.Ytgagpalffdgjnaa
