/-
  No cell of these rows narrows 'for every input' (looked for: loops, veiled, ifaces, maps, wideKeys, modest, calm, conditions, laid).
  DERIVED. THE GIVEN ROWS OF THIS SEAT. 12 by the template 'for every input the law returns true; each argument reads behind the call as it read before'; 0 by the template 'total and deterministic' (their statements: YtkkbjchoilcjlaaTotals.lean).
  GIVEN WITH THE SEED: the statements are not yours to turn. If you find one false, say at which input.
  Laid BY PROGRAM, IN A SANDBOX (cutbox-rows.mjs): the forced cells as the released guide's own fill.sh prints them over the translation 993cfd6d34473d55… (all of the seat's roots in one cut). By AI agents, Wed Nov 11 2026. No macro, syntax, notation, axiom, sorry.
-/
import Derived.Test.YtkkbjchoilcjlaaChecked
import GoSem.Claim
import GoSem.ClaimJoined
import GoSem.ClaimMapViews
import Derived.JoinedTies
import Derived.KernelRfl
namespace Go.Proofs.Ytkkbjchoilcjlaa
/- THE CELL 'sum', in the pinned program and in every row, IS THE sha256 OF THE DUMP (.gsa) THAT YtkkbjchoilcjlaaProg.lean LOADS. Nothing in Lean hashes anything: it is a label: what it is worth is what the hold of that sum in a sandbox is worth. -/
noncomputable def Try.pinned : Pinned := { name := "ytkkbjchoilcjlaa", sum := "993cfd6d34473d555af1114dc4cee0ef1890919b121cd78ece0e69a54814e438", checked := Try.checked }
namespace Rows
def none {H : Type} : Left H := { results := [], args := [] }

/-- 'watchkeeperlaw16.KeyBack': WHATEVER THE INPUT: true; the input reads as it did. -/
def keyBackSpec : ChangeSpec := { name := "keyBack", fn := fun _ => fun
  | [d1, d2] => { results := [.lit (.bool true)], args := [d1, d2] }
  | _ => none }
def keyBackRow : OpenClaim := { program := "ytkkbjchoilcjlaa", sum := "993cfd6d34473d555af1114dc4cee0ef1890919b121cd78ece0e69a54814e438", func := "watchkeeper/watchkeeperlaw16.KeyBack", spec := "keyBack", inPlace := ["internal/bytealg.IndexByteString"], unfollowed := true, recurses := true, apart := false }
def KeyBackSaid : Prop := keyBackRow.holds Try.pinned (OpenSpec.ofChange keyBackSpec)

/-- ITS FALSE NEIGHBOUR: 'it returns false'. Refute it at one input. -/
def keyBackWrong : ChangeSpec := { name := "keyBack", fn := fun _ => fun
  | [d1, d2] => { results := [.lit (.bool false)], args := [d1, d2] }
  | _ => none }
def KeyBackWrongFalsely : Prop := keyBackRow.holds Try.pinned (OpenSpec.ofChange keyBackWrong)

/-- 'watchkeeperlaw16.KeyDigits': WHATEVER THE INPUT: true; the input reads as it did. -/
def keyDigitsSpec : ChangeSpec := { name := "keyDigits", fn := fun _ => fun
  | [d1, d2] => { results := [.lit (.bool true)], args := [d1, d2] }
  | _ => none }
def keyDigitsRow : OpenClaim := { program := "ytkkbjchoilcjlaa", sum := "993cfd6d34473d555af1114dc4cee0ef1890919b121cd78ece0e69a54814e438", func := "watchkeeper/watchkeeperlaw16.KeyDigits", spec := "keyDigits", inPlace := ["internal/bytealg.IndexByteString"], unfollowed := true, recurses := true, apart := false }
def KeyDigitsSaid : Prop := keyDigitsRow.holds Try.pinned (OpenSpec.ofChange keyDigitsSpec)

/-- ITS FALSE NEIGHBOUR: 'it returns false'. Refute it at one input. -/
def keyDigitsWrong : ChangeSpec := { name := "keyDigits", fn := fun _ => fun
  | [d1, d2] => { results := [.lit (.bool false)], args := [d1, d2] }
  | _ => none }
def KeyDigitsWrongFalsely : Prop := keyDigitsRow.holds Try.pinned (OpenSpec.ofChange keyDigitsWrong)

/-- 'watchkeeperlaw16.KeyBounds': WHATEVER THE INPUT: true; the input reads as it did. -/
def keyBoundsSpec : ChangeSpec := { name := "keyBounds", fn := fun _ => fun
  | [d1, d2, d3] => { results := [.lit (.bool true)], args := [d1, d2, d3] }
  | _ => none }
def keyBoundsRow : OpenClaim := { program := "ytkkbjchoilcjlaa", sum := "993cfd6d34473d555af1114dc4cee0ef1890919b121cd78ece0e69a54814e438", func := "watchkeeper/watchkeeperlaw16.KeyBounds", spec := "keyBounds", inPlace := ["internal/bytealg.IndexByteString"], unfollowed := true, recurses := true, apart := false }
def KeyBoundsSaid : Prop := keyBoundsRow.holds Try.pinned (OpenSpec.ofChange keyBoundsSpec)

/-- ITS FALSE NEIGHBOUR: 'it returns false'. Refute it at one input. -/
def keyBoundsWrong : ChangeSpec := { name := "keyBounds", fn := fun _ => fun
  | [d1, d2, d3] => { results := [.lit (.bool false)], args := [d1, d2, d3] }
  | _ => none }
def KeyBoundsWrongFalsely : Prop := keyBoundsRow.holds Try.pinned (OpenSpec.ofChange keyBoundsWrong)

/-- 'watchkeeperlaw04.PduBack': WHATEVER THE INPUT: true; the input reads as it did. -/
def pduBackSpec : ChangeSpec := { name := "pduBack", fn := fun _ => fun
  | [d1, d2] => { results := [.lit (.bool true)], args := [d1, d2] }
  | _ => none }
def pduBackRow : OpenClaim := { program := "ytkkbjchoilcjlaa", sum := "993cfd6d34473d555af1114dc4cee0ef1890919b121cd78ece0e69a54814e438", func := "watchkeeper/watchkeeperlaw04.PduBack", spec := "pduBack", unfollowed := true, recurses := true, apart := false }
def PduBackSaid : Prop := pduBackRow.holds Try.pinned (OpenSpec.ofChange pduBackSpec)

/-- ITS FALSE NEIGHBOUR: 'it returns false'. Refute it at one input. -/
def pduBackWrong : ChangeSpec := { name := "pduBack", fn := fun _ => fun
  | [d1, d2] => { results := [.lit (.bool false)], args := [d1, d2] }
  | _ => none }
def PduBackWrongFalsely : Prop := pduBackRow.holds Try.pinned (OpenSpec.ofChange pduBackWrong)

/-- 'watchkeeperlaw04.PduWrong': WHATEVER THE INPUT: true; the input reads as it did. -/
def pduWrongSpec : ChangeSpec := { name := "pduWrong", fn := fun _ => fun
  | [d1, d2, d3] => { results := [.lit (.bool true)], args := [d1, d2, d3] }
  | _ => none }
def pduWrongRow : OpenClaim := { program := "ytkkbjchoilcjlaa", sum := "993cfd6d34473d555af1114dc4cee0ef1890919b121cd78ece0e69a54814e438", func := "watchkeeper/watchkeeperlaw04.PduWrong", spec := "pduWrong", unfollowed := true, recurses := true, apart := false }
def PduWrongSaid : Prop := pduWrongRow.holds Try.pinned (OpenSpec.ofChange pduWrongSpec)

/-- ITS FALSE NEIGHBOUR: 'it returns false'. Refute it at one input. -/
def pduWrongWrong : ChangeSpec := { name := "pduWrong", fn := fun _ => fun
  | [d1, d2, d3] => { results := [.lit (.bool false)], args := [d1, d2, d3] }
  | _ => none }
def PduWrongWrongFalsely : Prop := pduWrongRow.holds Try.pinned (OpenSpec.ofChange pduWrongWrong)

/-- 'watchkeeperlaw04.PduBits': WHATEVER THE INPUT: true; the input reads as it did. -/
def pduBitsSpec : ChangeSpec := { name := "pduBits", fn := fun _ => fun
  | [d1, d2] => { results := [.lit (.bool true)], args := [d1, d2] }
  | _ => none }
def pduBitsRow : OpenClaim := { program := "ytkkbjchoilcjlaa", sum := "993cfd6d34473d555af1114dc4cee0ef1890919b121cd78ece0e69a54814e438", func := "watchkeeper/watchkeeperlaw04.PduBits", spec := "pduBits", unfollowed := true, recurses := true, apart := false }
def PduBitsSaid : Prop := pduBitsRow.holds Try.pinned (OpenSpec.ofChange pduBitsSpec)

/-- ITS FALSE NEIGHBOUR: 'it returns false'. Refute it at one input. -/
def pduBitsWrong : ChangeSpec := { name := "pduBits", fn := fun _ => fun
  | [d1, d2] => { results := [.lit (.bool false)], args := [d1, d2] }
  | _ => none }
def PduBitsWrongFalsely : Prop := pduBitsRow.holds Try.pinned (OpenSpec.ofChange pduBitsWrong)

/-- 'watchkeeperlaw04.PduBounds': WHATEVER THE INPUT: true; the input reads as it did. -/
def pduBoundsSpec : ChangeSpec := { name := "pduBounds", fn := fun _ => fun
  | [d1, d2, d3] => { results := [.lit (.bool true)], args := [d1, d2, d3] }
  | _ => none }
def pduBoundsRow : OpenClaim := { program := "ytkkbjchoilcjlaa", sum := "993cfd6d34473d555af1114dc4cee0ef1890919b121cd78ece0e69a54814e438", func := "watchkeeper/watchkeeperlaw04.PduBounds", spec := "pduBounds", unfollowed := true, recurses := true, apart := false }
def PduBoundsSaid : Prop := pduBoundsRow.holds Try.pinned (OpenSpec.ofChange pduBoundsSpec)

/-- ITS FALSE NEIGHBOUR: 'it returns false'. Refute it at one input. -/
def pduBoundsWrong : ChangeSpec := { name := "pduBounds", fn := fun _ => fun
  | [d1, d2, d3] => { results := [.lit (.bool false)], args := [d1, d2, d3] }
  | _ => none }
def PduBoundsWrongFalsely : Prop := pduBoundsRow.holds Try.pinned (OpenSpec.ofChange pduBoundsWrong)

/-- 'watchkeeperlaw04.PduKinds': WHATEVER THE INPUT: true; the input reads as it did. -/
def pduKindsSpec : ChangeSpec := { name := "pduKinds", fn := fun _ => fun
  | [d] => { results := [.lit (.bool true)], args := [d] }
  | _ => none }
def pduKindsRow : OpenClaim := { program := "ytkkbjchoilcjlaa", sum := "993cfd6d34473d555af1114dc4cee0ef1890919b121cd78ece0e69a54814e438", func := "watchkeeper/watchkeeperlaw04.PduKinds", spec := "pduKinds", unfollowed := true, recurses := true, apart := false }
def PduKindsSaid : Prop := pduKindsRow.holds Try.pinned (OpenSpec.ofChange pduKindsSpec)

/-- ITS FALSE NEIGHBOUR: 'it returns false'. Refute it at one input. -/
def pduKindsWrong : ChangeSpec := { name := "pduKinds", fn := fun _ => fun
  | [d] => { results := [.lit (.bool false)], args := [d] }
  | _ => none }
def PduKindsWrongFalsely : Prop := pduKindsRow.holds Try.pinned (OpenSpec.ofChange pduKindsWrong)

/-- 'watchkeeperlaw05.ReplyBack': WHATEVER THE INPUT: true; the input reads as it did. -/
def replyBackSpec : ChangeSpec := { name := "replyBack", fn := fun _ => fun
  | [d1, d2, d3] => { results := [.lit (.bool true)], args := [d1, d2, d3] }
  | _ => none }
def replyBackRow : OpenClaim := { program := "ytkkbjchoilcjlaa", sum := "993cfd6d34473d555af1114dc4cee0ef1890919b121cd78ece0e69a54814e438", func := "watchkeeper/watchkeeperlaw05.ReplyBack", spec := "replyBack", unfollowed := true, recurses := true, apart := false }
def ReplyBackSaid : Prop := replyBackRow.holds Try.pinned (OpenSpec.ofChange replyBackSpec)

/-- ITS FALSE NEIGHBOUR: 'it returns false'. Refute it at one input. -/
def replyBackWrong : ChangeSpec := { name := "replyBack", fn := fun _ => fun
  | [d1, d2, d3] => { results := [.lit (.bool false)], args := [d1, d2, d3] }
  | _ => none }
def ReplyBackWrongFalsely : Prop := replyBackRow.holds Try.pinned (OpenSpec.ofChange replyBackWrong)

/-- 'watchkeeperlaw05.ReplyOther': WHATEVER THE INPUT: true; the input reads as it did. -/
def replyOtherSpec : ChangeSpec := { name := "replyOther", fn := fun _ => fun
  | [d1, d2, d3] => { results := [.lit (.bool true)], args := [d1, d2, d3] }
  | _ => none }
def replyOtherRow : OpenClaim := { program := "ytkkbjchoilcjlaa", sum := "993cfd6d34473d555af1114dc4cee0ef1890919b121cd78ece0e69a54814e438", func := "watchkeeper/watchkeeperlaw05.ReplyOther", spec := "replyOther", unfollowed := true, recurses := true, apart := false }
def ReplyOtherSaid : Prop := replyOtherRow.holds Try.pinned (OpenSpec.ofChange replyOtherSpec)

/-- ITS FALSE NEIGHBOUR: 'it returns false'. Refute it at one input. -/
def replyOtherWrong : ChangeSpec := { name := "replyOther", fn := fun _ => fun
  | [d1, d2, d3] => { results := [.lit (.bool false)], args := [d1, d2, d3] }
  | _ => none }
def ReplyOtherWrongFalsely : Prop := replyOtherRow.holds Try.pinned (OpenSpec.ofChange replyOtherWrong)

/-- 'watchkeeperlaw05.ReplyAlarms': WHATEVER THE INPUT: true; the input reads as it did. -/
def replyAlarmsSpec : ChangeSpec := { name := "replyAlarms", fn := fun _ => fun
  | [d1, d2] => { results := [.lit (.bool true)], args := [d1, d2] }
  | _ => none }
def replyAlarmsRow : OpenClaim := { program := "ytkkbjchoilcjlaa", sum := "993cfd6d34473d555af1114dc4cee0ef1890919b121cd78ece0e69a54814e438", func := "watchkeeper/watchkeeperlaw05.ReplyAlarms", spec := "replyAlarms", unfollowed := true, recurses := true, apart := false }
def ReplyAlarmsSaid : Prop := replyAlarmsRow.holds Try.pinned (OpenSpec.ofChange replyAlarmsSpec)

/-- ITS FALSE NEIGHBOUR: 'it returns false'. Refute it at one input. -/
def replyAlarmsWrong : ChangeSpec := { name := "replyAlarms", fn := fun _ => fun
  | [d1, d2] => { results := [.lit (.bool false)], args := [d1, d2] }
  | _ => none }
def ReplyAlarmsWrongFalsely : Prop := replyAlarmsRow.holds Try.pinned (OpenSpec.ofChange replyAlarmsWrong)

/-- 'watchkeeperlaw05.ReplySizes': WHATEVER THE INPUT: true; the input reads as it did. -/
def replySizesSpec : ChangeSpec := { name := "replySizes", fn := fun _ => fun
  | [d1, d2] => { results := [.lit (.bool true)], args := [d1, d2] }
  | _ => none }
def replySizesRow : OpenClaim := { program := "ytkkbjchoilcjlaa", sum := "993cfd6d34473d555af1114dc4cee0ef1890919b121cd78ece0e69a54814e438", func := "watchkeeper/watchkeeperlaw05.ReplySizes", spec := "replySizes", unfollowed := true, recurses := true, apart := false }
def ReplySizesSaid : Prop := replySizesRow.holds Try.pinned (OpenSpec.ofChange replySizesSpec)

/-- ITS FALSE NEIGHBOUR: 'it returns false'. Refute it at one input. -/
def replySizesWrong : ChangeSpec := { name := "replySizes", fn := fun _ => fun
  | [d1, d2] => { results := [.lit (.bool false)], args := [d1, d2] }
  | _ => none }
def ReplySizesWrongFalsely : Prop := replySizesRow.holds Try.pinned (OpenSpec.ofChange replySizesWrong)

/- THE SECOND FORM. 'bulk': how many values and letters a reading holds, each counted each time it is reached (what is shared counts as often as it is met; a slice's spare places count too). A statement '..UptoSaid' is the law's where the arguments, and the package variables that the reading takes, are together of bulk at most 1048576: NARROWER than '..Said'. Prove '..Said' where nothing that the law and all that it calls make is longer than what came in: it says more and counts as full. Else prove '..UptoSaid'. A law counts once. -/
mutual
def uptoBulk {H : Type} : DataW H → Nat
  | .lit (.string bytes) => bytes.length + 1
  | .lit _ => 1
  | .nil => 1
  | .ptr d => uptoBulk d + 1
  | .slice elems spare => uptoBulkAll elems + uptoBulkAll spare + 1
  | .agg parts => uptoBulkAll parts + 1
  | .iface _ d => uptoBulk d + 1
  | .map entries => uptoBulkEntries entries + 1
  | .held _ => 1
def uptoBulkAll {H : Type} : List (DataW H) → Nat
  | [] => 0
  | d :: r => uptoBulk d + uptoBulkAll r
def uptoBulkEntries {H : Type} : List (Lit × DataW H) → Nat
  | [] => 0
  | x :: r => uptoBulkEntry x + uptoBulkEntries r
def uptoBulkEntry {H : Type} : Lit × DataW H → Nat
  | (.string bytes, d) => bytes.length + uptoBulk d + 1
  | (_, d) => uptoBulk d + 1
 end
def uptoSmall : (H : Type) → List (DataW H) → Bool := fun _ ds => decide (uptoBulkAll ds ≤ 1048576)
def OpenSpec.upto (s : _root_.Go.ChangeSpec) : _root_.Go.OpenSpec := { _root_.Go.OpenSpec.ofChange s with cond := some uptoSmall }

/-- 'watchkeeperlaw16.KeyBack', WHERE WHAT IT READS IS OF BULK AT MOST 1048576: true; the input reads as it did. -/
def keyBackUptoRow : OpenClaim := { program := "ytkkbjchoilcjlaa", sum := "993cfd6d34473d555af1114dc4cee0ef1890919b121cd78ece0e69a54814e438", func := "watchkeeper/watchkeeperlaw16.KeyBack", spec := "keyBack", inPlace := ["internal/bytealg.IndexByteString"], unfollowed := true, recurses := true, apart := false, narrowed := true }
def KeyBackUptoSaid : Prop := keyBackUptoRow.holds Try.pinned (OpenSpec.upto keyBackSpec)

/-- 'watchkeeperlaw16.KeyDigits', WHERE WHAT IT READS IS OF BULK AT MOST 1048576: true; the input reads as it did. -/
def keyDigitsUptoRow : OpenClaim := { program := "ytkkbjchoilcjlaa", sum := "993cfd6d34473d555af1114dc4cee0ef1890919b121cd78ece0e69a54814e438", func := "watchkeeper/watchkeeperlaw16.KeyDigits", spec := "keyDigits", inPlace := ["internal/bytealg.IndexByteString"], unfollowed := true, recurses := true, apart := false, narrowed := true }
def KeyDigitsUptoSaid : Prop := keyDigitsUptoRow.holds Try.pinned (OpenSpec.upto keyDigitsSpec)

/-- 'watchkeeperlaw16.KeyBounds', WHERE WHAT IT READS IS OF BULK AT MOST 1048576: true; the input reads as it did. -/
def keyBoundsUptoRow : OpenClaim := { program := "ytkkbjchoilcjlaa", sum := "993cfd6d34473d555af1114dc4cee0ef1890919b121cd78ece0e69a54814e438", func := "watchkeeper/watchkeeperlaw16.KeyBounds", spec := "keyBounds", inPlace := ["internal/bytealg.IndexByteString"], unfollowed := true, recurses := true, apart := false, narrowed := true }
def KeyBoundsUptoSaid : Prop := keyBoundsUptoRow.holds Try.pinned (OpenSpec.upto keyBoundsSpec)

/-- 'watchkeeperlaw04.PduBack', WHERE WHAT IT READS IS OF BULK AT MOST 1048576: true; the input reads as it did. -/
def pduBackUptoRow : OpenClaim := { program := "ytkkbjchoilcjlaa", sum := "993cfd6d34473d555af1114dc4cee0ef1890919b121cd78ece0e69a54814e438", func := "watchkeeper/watchkeeperlaw04.PduBack", spec := "pduBack", unfollowed := true, recurses := true, apart := false, narrowed := true }
def PduBackUptoSaid : Prop := pduBackUptoRow.holds Try.pinned (OpenSpec.upto pduBackSpec)

/-- 'watchkeeperlaw04.PduWrong', WHERE WHAT IT READS IS OF BULK AT MOST 1048576: true; the input reads as it did. -/
def pduWrongUptoRow : OpenClaim := { program := "ytkkbjchoilcjlaa", sum := "993cfd6d34473d555af1114dc4cee0ef1890919b121cd78ece0e69a54814e438", func := "watchkeeper/watchkeeperlaw04.PduWrong", spec := "pduWrong", unfollowed := true, recurses := true, apart := false, narrowed := true }
def PduWrongUptoSaid : Prop := pduWrongUptoRow.holds Try.pinned (OpenSpec.upto pduWrongSpec)

/-- 'watchkeeperlaw04.PduBits', WHERE WHAT IT READS IS OF BULK AT MOST 1048576: true; the input reads as it did. -/
def pduBitsUptoRow : OpenClaim := { program := "ytkkbjchoilcjlaa", sum := "993cfd6d34473d555af1114dc4cee0ef1890919b121cd78ece0e69a54814e438", func := "watchkeeper/watchkeeperlaw04.PduBits", spec := "pduBits", unfollowed := true, recurses := true, apart := false, narrowed := true }
def PduBitsUptoSaid : Prop := pduBitsUptoRow.holds Try.pinned (OpenSpec.upto pduBitsSpec)

/-- 'watchkeeperlaw04.PduBounds', WHERE WHAT IT READS IS OF BULK AT MOST 1048576: true; the input reads as it did. -/
def pduBoundsUptoRow : OpenClaim := { program := "ytkkbjchoilcjlaa", sum := "993cfd6d34473d555af1114dc4cee0ef1890919b121cd78ece0e69a54814e438", func := "watchkeeper/watchkeeperlaw04.PduBounds", spec := "pduBounds", unfollowed := true, recurses := true, apart := false, narrowed := true }
def PduBoundsUptoSaid : Prop := pduBoundsUptoRow.holds Try.pinned (OpenSpec.upto pduBoundsSpec)

/-- 'watchkeeperlaw04.PduKinds', WHERE WHAT IT READS IS OF BULK AT MOST 1048576: true; the input reads as it did. -/
def pduKindsUptoRow : OpenClaim := { program := "ytkkbjchoilcjlaa", sum := "993cfd6d34473d555af1114dc4cee0ef1890919b121cd78ece0e69a54814e438", func := "watchkeeper/watchkeeperlaw04.PduKinds", spec := "pduKinds", unfollowed := true, recurses := true, apart := false, narrowed := true }
def PduKindsUptoSaid : Prop := pduKindsUptoRow.holds Try.pinned (OpenSpec.upto pduKindsSpec)

/-- 'watchkeeperlaw05.ReplyBack', WHERE WHAT IT READS IS OF BULK AT MOST 1048576: true; the input reads as it did. -/
def replyBackUptoRow : OpenClaim := { program := "ytkkbjchoilcjlaa", sum := "993cfd6d34473d555af1114dc4cee0ef1890919b121cd78ece0e69a54814e438", func := "watchkeeper/watchkeeperlaw05.ReplyBack", spec := "replyBack", unfollowed := true, recurses := true, apart := false, narrowed := true }
def ReplyBackUptoSaid : Prop := replyBackUptoRow.holds Try.pinned (OpenSpec.upto replyBackSpec)

/-- 'watchkeeperlaw05.ReplyOther', WHERE WHAT IT READS IS OF BULK AT MOST 1048576: true; the input reads as it did. -/
def replyOtherUptoRow : OpenClaim := { program := "ytkkbjchoilcjlaa", sum := "993cfd6d34473d555af1114dc4cee0ef1890919b121cd78ece0e69a54814e438", func := "watchkeeper/watchkeeperlaw05.ReplyOther", spec := "replyOther", unfollowed := true, recurses := true, apart := false, narrowed := true }
def ReplyOtherUptoSaid : Prop := replyOtherUptoRow.holds Try.pinned (OpenSpec.upto replyOtherSpec)

/-- 'watchkeeperlaw05.ReplyAlarms', WHERE WHAT IT READS IS OF BULK AT MOST 1048576: true; the input reads as it did. -/
def replyAlarmsUptoRow : OpenClaim := { program := "ytkkbjchoilcjlaa", sum := "993cfd6d34473d555af1114dc4cee0ef1890919b121cd78ece0e69a54814e438", func := "watchkeeper/watchkeeperlaw05.ReplyAlarms", spec := "replyAlarms", unfollowed := true, recurses := true, apart := false, narrowed := true }
def ReplyAlarmsUptoSaid : Prop := replyAlarmsUptoRow.holds Try.pinned (OpenSpec.upto replyAlarmsSpec)

/-- 'watchkeeperlaw05.ReplySizes', WHERE WHAT IT READS IS OF BULK AT MOST 1048576: true; the input reads as it did. -/
def replySizesUptoRow : OpenClaim := { program := "ytkkbjchoilcjlaa", sum := "993cfd6d34473d555af1114dc4cee0ef1890919b121cd78ece0e69a54814e438", func := "watchkeeper/watchkeeperlaw05.ReplySizes", spec := "replySizes", unfollowed := true, recurses := true, apart := false, narrowed := true }
def ReplySizesUptoSaid : Prop := replySizesUptoRow.holds Try.pinned (OpenSpec.upto replySizesSpec)

end Rows
end Go.Proofs.Ytkkbjchoilcjlaa
