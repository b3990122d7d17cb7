/-
  No cell of these rows narrows 'for every input' (looked for: loops, veiled, ifaces, maps, wideKeys, modest, calm, conditions, laid).
  DERIVED. THE GIVEN ROWS OF THIS SEAT. 8 by the template 'for every input the law returns true; each argument reads behind the call as it read before'; 0 by the template 'total and deterministic' (their statements: YtnpbhlojkjbabaaTotals.lean).
  GIVEN WITH THE SEED: the statements are not yours to turn. If you find one false, say at which input.
  Laid BY PROGRAM, IN A SANDBOX (cutbox-rows.mjs): the forced cells as the released guide's own fill.sh prints them over the translation 0143858bc56b55c6… (all of the seat's roots in one cut). By AI agents, Wed Nov 11 2026. No macro, syntax, notation, axiom, sorry.
-/
import Derived.Test.YtnpbhlojkjbabaaChecked
import GoSem.Claim
import GoSem.ClaimJoined
import GoSem.ClaimMapViews
import Derived.JoinedTies
import Derived.KernelRfl
namespace Go.Proofs.Ytnpbhlojkjbabaa
/- THE CELL 'sum', in the pinned program and in every row, IS THE sha256 OF THE DUMP (.gsa) THAT YtnpbhlojkjbabaaProg.lean LOADS. Nothing in Lean hashes anything: it is a label: what it is worth is what the hold of that sum in a sandbox is worth. -/
noncomputable def Try.pinned : Pinned := { name := "ytnpbhlojkjbabaa", sum := "0143858bc56b55c6c9705838c633b9a2a48f0e3cf80e465051952b8a275923e1", checked := Try.checked }
namespace Rows
def none {H : Type} : Left H := { results := [], args := [] }

/-- 'tapsterlaw06.WindowEnvelope': WHATEVER THE INPUT: true; the input reads as it did. -/
def windowEnvelopeSpec : ChangeSpec := { name := "windowEnvelope", fn := fun _ => fun
  | [d1, d2, d3, d4] => { results := [.lit (.bool true)], args := [d1, d2, d3, d4] }
  | _ => none }
def windowEnvelopeRow : OpenClaim := { program := "ytnpbhlojkjbabaa", sum := "0143858bc56b55c6c9705838c633b9a2a48f0e3cf80e465051952b8a275923e1", func := "tapster/tapsterlaw06.WindowEnvelope", spec := "windowEnvelope", unfollowed := true, recurses := true, apart := false }
def WindowEnvelopeSaid : Prop := windowEnvelopeRow.holds Try.pinned (OpenSpec.ofChange windowEnvelopeSpec)

/-- ITS FALSE NEIGHBOUR: 'it returns false'. Refute it at one input. -/
def windowEnvelopeWrong : ChangeSpec := { name := "windowEnvelope", fn := fun _ => fun
  | [d1, d2, d3, d4] => { results := [.lit (.bool false)], args := [d1, d2, d3, d4] }
  | _ => none }
def WindowEnvelopeWrongFalsely : Prop := windowEnvelopeRow.holds Try.pinned (OpenSpec.ofChange windowEnvelopeWrong)

/-- 'tapsterlaw06.WindowTakes': WHATEVER THE INPUT: true; the input reads as it did. -/
def windowTakesSpec : ChangeSpec := { name := "windowTakes", fn := fun _ => fun
  | [d1, d2, d3] => { results := [.lit (.bool true)], args := [d1, d2, d3] }
  | _ => none }
def windowTakesRow : OpenClaim := { program := "ytnpbhlojkjbabaa", sum := "0143858bc56b55c6c9705838c633b9a2a48f0e3cf80e465051952b8a275923e1", func := "tapster/tapsterlaw06.WindowTakes", spec := "windowTakes", unfollowed := true, recurses := true, apart := false }
def WindowTakesSaid : Prop := windowTakesRow.holds Try.pinned (OpenSpec.ofChange windowTakesSpec)

/-- ITS FALSE NEIGHBOUR: 'it returns false'. Refute it at one input. -/
def windowTakesWrong : ChangeSpec := { name := "windowTakes", fn := fun _ => fun
  | [d1, d2, d3] => { results := [.lit (.bool false)], args := [d1, d2, d3] }
  | _ => none }
def WindowTakesWrongFalsely : Prop := windowTakesRow.holds Try.pinned (OpenSpec.ofChange windowTakesWrong)

/-- 'tapsterlaw06.WindowHalves': WHATEVER THE INPUT: true; the input reads as it did. -/
def windowHalvesSpec : ChangeSpec := { name := "windowHalves", fn := fun _ => fun
  | [d1, d2, d3, d4, d5, d6] => { results := [.lit (.bool true)], args := [d1, d2, d3, d4, d5, d6] }
  | _ => none }
def windowHalvesRow : OpenClaim := { program := "ytnpbhlojkjbabaa", sum := "0143858bc56b55c6c9705838c633b9a2a48f0e3cf80e465051952b8a275923e1", func := "tapster/tapsterlaw06.WindowHalves", spec := "windowHalves", unfollowed := true, recurses := true, apart := false }
def WindowHalvesSaid : Prop := windowHalvesRow.holds Try.pinned (OpenSpec.ofChange windowHalvesSpec)

/-- ITS FALSE NEIGHBOUR: 'it returns false'. Refute it at one input. -/
def windowHalvesWrong : ChangeSpec := { name := "windowHalves", fn := fun _ => fun
  | [d1, d2, d3, d4, d5, d6] => { results := [.lit (.bool false)], args := [d1, d2, d3, d4, d5, d6] }
  | _ => none }
def WindowHalvesWrongFalsely : Prop := windowHalvesRow.holds Try.pinned (OpenSpec.ofChange windowHalvesWrong)

/-- 'tapsterlaw06.WindowBacks': WHATEVER THE INPUT: true; the input reads as it did. -/
def windowBacksSpec : ChangeSpec := { name := "windowBacks", fn := fun _ => fun
  | [d1, d2, d3, d4, d5, d6] => { results := [.lit (.bool true)], args := [d1, d2, d3, d4, d5, d6] }
  | _ => none }
def windowBacksRow : OpenClaim := { program := "ytnpbhlojkjbabaa", sum := "0143858bc56b55c6c9705838c633b9a2a48f0e3cf80e465051952b8a275923e1", func := "tapster/tapsterlaw06.WindowBacks", spec := "windowBacks", unfollowed := true, recurses := true, apart := false }
def WindowBacksSaid : Prop := windowBacksRow.holds Try.pinned (OpenSpec.ofChange windowBacksSpec)

/-- ITS FALSE NEIGHBOUR: 'it returns false'. Refute it at one input. -/
def windowBacksWrong : ChangeSpec := { name := "windowBacks", fn := fun _ => fun
  | [d1, d2, d3, d4, d5, d6] => { results := [.lit (.bool false)], args := [d1, d2, d3, d4, d5, d6] }
  | _ => none }
def WindowBacksWrongFalsely : Prop := windowBacksRow.holds Try.pinned (OpenSpec.ofChange windowBacksWrong)

/-- 'tapsterlaw06.WindowWaits': WHATEVER THE INPUT: true; the input reads as it did. -/
def windowWaitsSpec : ChangeSpec := { name := "windowWaits", fn := fun _ => fun
  | [d1, d2, d3, d4, d5, d6] => { results := [.lit (.bool true)], args := [d1, d2, d3, d4, d5, d6] }
  | _ => none }
def windowWaitsRow : OpenClaim := { program := "ytnpbhlojkjbabaa", sum := "0143858bc56b55c6c9705838c633b9a2a48f0e3cf80e465051952b8a275923e1", func := "tapster/tapsterlaw06.WindowWaits", spec := "windowWaits", unfollowed := true, recurses := true, apart := false }
def WindowWaitsSaid : Prop := windowWaitsRow.holds Try.pinned (OpenSpec.ofChange windowWaitsSpec)

/-- ITS FALSE NEIGHBOUR: 'it returns false'. Refute it at one input. -/
def windowWaitsWrong : ChangeSpec := { name := "windowWaits", fn := fun _ => fun
  | [d1, d2, d3, d4, d5, d6] => { results := [.lit (.bool false)], args := [d1, d2, d3, d4, d5, d6] }
  | _ => none }
def WindowWaitsWrongFalsely : Prop := windowWaitsRow.holds Try.pinned (OpenSpec.ofChange windowWaitsWrong)

/-- 'tapsterlaw06.WindowRetries': WHATEVER THE INPUT: true; the input reads as it did. -/
def windowRetriesSpec : ChangeSpec := { name := "windowRetries", fn := fun _ => fun
  | [d1, d2, d3, d4, d5] => { results := [.lit (.bool true)], args := [d1, d2, d3, d4, d5] }
  | _ => none }
def windowRetriesRow : OpenClaim := { program := "ytnpbhlojkjbabaa", sum := "0143858bc56b55c6c9705838c633b9a2a48f0e3cf80e465051952b8a275923e1", func := "tapster/tapsterlaw06.WindowRetries", spec := "windowRetries", unfollowed := true, recurses := true, apart := false }
def WindowRetriesSaid : Prop := windowRetriesRow.holds Try.pinned (OpenSpec.ofChange windowRetriesSpec)

/-- ITS FALSE NEIGHBOUR: 'it returns false'. Refute it at one input. -/
def windowRetriesWrong : ChangeSpec := { name := "windowRetries", fn := fun _ => fun
  | [d1, d2, d3, d4, d5] => { results := [.lit (.bool false)], args := [d1, d2, d3, d4, d5] }
  | _ => none }
def WindowRetriesWrongFalsely : Prop := windowRetriesRow.holds Try.pinned (OpenSpec.ofChange windowRetriesWrong)

/-- 'tapsterlaw06.WindowSteps': WHATEVER THE INPUT: true; the input reads as it did. -/
def windowStepsSpec : ChangeSpec := { name := "windowSteps", fn := fun _ => fun
  | [d1, d2, d3, d4, d5] => { results := [.lit (.bool true)], args := [d1, d2, d3, d4, d5] }
  | _ => none }
def windowStepsRow : OpenClaim := { program := "ytnpbhlojkjbabaa", sum := "0143858bc56b55c6c9705838c633b9a2a48f0e3cf80e465051952b8a275923e1", func := "tapster/tapsterlaw06.WindowSteps", spec := "windowSteps", unfollowed := true, recurses := true, apart := false }
def WindowStepsSaid : Prop := windowStepsRow.holds Try.pinned (OpenSpec.ofChange windowStepsSpec)

/-- ITS FALSE NEIGHBOUR: 'it returns false'. Refute it at one input. -/
def windowStepsWrong : ChangeSpec := { name := "windowSteps", fn := fun _ => fun
  | [d1, d2, d3, d4, d5] => { results := [.lit (.bool false)], args := [d1, d2, d3, d4, d5] }
  | _ => none }
def WindowStepsWrongFalsely : Prop := windowStepsRow.holds Try.pinned (OpenSpec.ofChange windowStepsWrong)

/-- 'tapsterlaw06.WindowStates': WHATEVER THE INPUT: true; the input reads as it did. -/
def windowStatesSpec : ChangeSpec := { name := "windowStates", fn := fun _ => fun
  | [d1, d2, d3, d4, d5] => { results := [.lit (.bool true)], args := [d1, d2, d3, d4, d5] }
  | _ => none }
def windowStatesRow : OpenClaim := { program := "ytnpbhlojkjbabaa", sum := "0143858bc56b55c6c9705838c633b9a2a48f0e3cf80e465051952b8a275923e1", func := "tapster/tapsterlaw06.WindowStates", spec := "windowStates", unfollowed := true, recurses := true, apart := false }
def WindowStatesSaid : Prop := windowStatesRow.holds Try.pinned (OpenSpec.ofChange windowStatesSpec)

/-- ITS FALSE NEIGHBOUR: 'it returns false'. Refute it at one input. -/
def windowStatesWrong : ChangeSpec := { name := "windowStates", fn := fun _ => fun
  | [d1, d2, d3, d4, d5] => { results := [.lit (.bool false)], args := [d1, d2, d3, d4, d5] }
  | _ => none }
def WindowStatesWrongFalsely : Prop := windowStatesRow.holds Try.pinned (OpenSpec.ofChange windowStatesWrong)

/- THE SECOND FORM. 'bulk': how many values and letters a reading holds, each counted each time it is reached (what is shared counts as often as it is met; a slice's spare places count too). A statement '..UptoSaid' is the law's where the arguments, and the package variables that the reading takes, are together of bulk at most 1048576: NARROWER than '..Said'. Prove '..Said' where nothing that the law and all that it calls make is longer than what came in: it says more and counts as full. Else prove '..UptoSaid'. A law counts once. -/
mutual
def uptoBulk {H : Type} : DataW H → Nat
  | .lit (.string bytes) => bytes.length + 1
  | .lit _ => 1
  | .nil => 1
  | .ptr d => uptoBulk d + 1
  | .slice elems spare => uptoBulkAll elems + uptoBulkAll spare + 1
  | .agg parts => uptoBulkAll parts + 1
  | .iface _ d => uptoBulk d + 1
  | .map entries => uptoBulkEntries entries + 1
  | .held _ => 1
def uptoBulkAll {H : Type} : List (DataW H) → Nat
  | [] => 0
  | d :: r => uptoBulk d + uptoBulkAll r
def uptoBulkEntries {H : Type} : List (Lit × DataW H) → Nat
  | [] => 0
  | x :: r => uptoBulkEntry x + uptoBulkEntries r
def uptoBulkEntry {H : Type} : Lit × DataW H → Nat
  | (.string bytes, d) => bytes.length + uptoBulk d + 1
  | (_, d) => uptoBulk d + 1
 end
def uptoSmall : (H : Type) → List (DataW H) → Bool := fun _ ds => decide (uptoBulkAll ds ≤ 1048576)
def OpenSpec.upto (s : _root_.Go.ChangeSpec) : _root_.Go.OpenSpec := { _root_.Go.OpenSpec.ofChange s with cond := some uptoSmall }

/-- 'tapsterlaw06.WindowEnvelope', WHERE WHAT IT READS IS OF BULK AT MOST 1048576: true; the input reads as it did. -/
def windowEnvelopeUptoRow : OpenClaim := { program := "ytnpbhlojkjbabaa", sum := "0143858bc56b55c6c9705838c633b9a2a48f0e3cf80e465051952b8a275923e1", func := "tapster/tapsterlaw06.WindowEnvelope", spec := "windowEnvelope", unfollowed := true, recurses := true, apart := false, narrowed := true }
def WindowEnvelopeUptoSaid : Prop := windowEnvelopeUptoRow.holds Try.pinned (OpenSpec.upto windowEnvelopeSpec)

/-- 'tapsterlaw06.WindowTakes', WHERE WHAT IT READS IS OF BULK AT MOST 1048576: true; the input reads as it did. -/
def windowTakesUptoRow : OpenClaim := { program := "ytnpbhlojkjbabaa", sum := "0143858bc56b55c6c9705838c633b9a2a48f0e3cf80e465051952b8a275923e1", func := "tapster/tapsterlaw06.WindowTakes", spec := "windowTakes", unfollowed := true, recurses := true, apart := false, narrowed := true }
def WindowTakesUptoSaid : Prop := windowTakesUptoRow.holds Try.pinned (OpenSpec.upto windowTakesSpec)

/-- 'tapsterlaw06.WindowHalves', WHERE WHAT IT READS IS OF BULK AT MOST 1048576: true; the input reads as it did. -/
def windowHalvesUptoRow : OpenClaim := { program := "ytnpbhlojkjbabaa", sum := "0143858bc56b55c6c9705838c633b9a2a48f0e3cf80e465051952b8a275923e1", func := "tapster/tapsterlaw06.WindowHalves", spec := "windowHalves", unfollowed := true, recurses := true, apart := false, narrowed := true }
def WindowHalvesUptoSaid : Prop := windowHalvesUptoRow.holds Try.pinned (OpenSpec.upto windowHalvesSpec)

/-- 'tapsterlaw06.WindowBacks', WHERE WHAT IT READS IS OF BULK AT MOST 1048576: true; the input reads as it did. -/
def windowBacksUptoRow : OpenClaim := { program := "ytnpbhlojkjbabaa", sum := "0143858bc56b55c6c9705838c633b9a2a48f0e3cf80e465051952b8a275923e1", func := "tapster/tapsterlaw06.WindowBacks", spec := "windowBacks", unfollowed := true, recurses := true, apart := false, narrowed := true }
def WindowBacksUptoSaid : Prop := windowBacksUptoRow.holds Try.pinned (OpenSpec.upto windowBacksSpec)

/-- 'tapsterlaw06.WindowWaits', WHERE WHAT IT READS IS OF BULK AT MOST 1048576: true; the input reads as it did. -/
def windowWaitsUptoRow : OpenClaim := { program := "ytnpbhlojkjbabaa", sum := "0143858bc56b55c6c9705838c633b9a2a48f0e3cf80e465051952b8a275923e1", func := "tapster/tapsterlaw06.WindowWaits", spec := "windowWaits", unfollowed := true, recurses := true, apart := false, narrowed := true }
def WindowWaitsUptoSaid : Prop := windowWaitsUptoRow.holds Try.pinned (OpenSpec.upto windowWaitsSpec)

/-- 'tapsterlaw06.WindowRetries', WHERE WHAT IT READS IS OF BULK AT MOST 1048576: true; the input reads as it did. -/
def windowRetriesUptoRow : OpenClaim := { program := "ytnpbhlojkjbabaa", sum := "0143858bc56b55c6c9705838c633b9a2a48f0e3cf80e465051952b8a275923e1", func := "tapster/tapsterlaw06.WindowRetries", spec := "windowRetries", unfollowed := true, recurses := true, apart := false, narrowed := true }
def WindowRetriesUptoSaid : Prop := windowRetriesUptoRow.holds Try.pinned (OpenSpec.upto windowRetriesSpec)

/-- 'tapsterlaw06.WindowSteps', WHERE WHAT IT READS IS OF BULK AT MOST 1048576: true; the input reads as it did. -/
def windowStepsUptoRow : OpenClaim := { program := "ytnpbhlojkjbabaa", sum := "0143858bc56b55c6c9705838c633b9a2a48f0e3cf80e465051952b8a275923e1", func := "tapster/tapsterlaw06.WindowSteps", spec := "windowSteps", unfollowed := true, recurses := true, apart := false, narrowed := true }
def WindowStepsUptoSaid : Prop := windowStepsUptoRow.holds Try.pinned (OpenSpec.upto windowStepsSpec)

/-- 'tapsterlaw06.WindowStates', WHERE WHAT IT READS IS OF BULK AT MOST 1048576: true; the input reads as it did. -/
def windowStatesUptoRow : OpenClaim := { program := "ytnpbhlojkjbabaa", sum := "0143858bc56b55c6c9705838c633b9a2a48f0e3cf80e465051952b8a275923e1", func := "tapster/tapsterlaw06.WindowStates", spec := "windowStates", unfollowed := true, recurses := true, apart := false, narrowed := true }
def WindowStatesUptoSaid : Prop := windowStatesUptoRow.holds Try.pinned (OpenSpec.upto windowStatesSpec)

end Rows
end Go.Proofs.Ytnpbhlojkjbabaa
