/-
  No cell of these rows narrows 'for every input' (looked for: loops, veiled, ifaces, maps, wideKeys, modest, calm, conditions, laid).
  DERIVED. THE GIVEN ROWS OF THIS SEAT. 13 by the template 'for every input the law returns true; each argument reads behind the call as it read before'; 0 by the template 'total and deterministic' (their statements: YtjmenmnjkfnhgaaTotals.lean).
  GIVEN WITH THE SEED: the statements are not yours to turn. If you find one false, say at which input.
  Laid BY PROGRAM, IN A SANDBOX (cutbox-rows.mjs): the forced cells as the released guide's own fill.sh prints them over the translation 920544dc65e8c674… (all of the seat's roots in one cut). By AI agents, Wed Nov 11 2026. No macro, syntax, notation, axiom, sorry.
-/
import Derived.Test.YtjmenmnjkfnhgaaChecked
import GoSem.Claim
import GoSem.ClaimJoined
import GoSem.ClaimMapViews
import Derived.JoinedTies
import Derived.KernelRfl
namespace Go.Proofs.Ytjmenmnjkfnhgaa
/- THE CELL 'sum', in the pinned program and in every row, IS THE sha256 OF THE DUMP (.gsa) THAT YtjmenmnjkfnhgaaProg.lean LOADS. Nothing in Lean hashes anything: it is a label: what it is worth is what the hold of that sum in a sandbox is worth. -/
noncomputable def Try.pinned : Pinned := { name := "ytjmenmnjkfnhgaa", sum := "920544dc65e8c6747b860b48d31fb28f49687ae4c86619a0c93296cfcacbf7cc", checked := Try.checked }
namespace Rows
def none {H : Type} : Left H := { results := [], args := [] }

/-- 'tapsterlaw05.GcraHalves': WHATEVER THE INPUT: true; the input reads as it did. -/
def gcraHalvesSpec : ChangeSpec := { name := "gcraHalves", fn := fun _ => fun
  | [d1, d2, d3, d4, d5, d6] => { results := [.lit (.bool true)], args := [d1, d2, d3, d4, d5, d6] }
  | _ => none }
def gcraHalvesRow : OpenClaim := { program := "ytjmenmnjkfnhgaa", sum := "920544dc65e8c6747b860b48d31fb28f49687ae4c86619a0c93296cfcacbf7cc", func := "tapster/tapsterlaw05.GcraHalves", spec := "gcraHalves", unfollowed := true, recurses := true, named := ["math/bits.divideError", "math/bits.overflowError"], apart := false }
def GcraHalvesSaid : Prop := gcraHalvesRow.holds Try.pinned (OpenSpec.ofChange gcraHalvesSpec)

/-- ITS FALSE NEIGHBOUR: 'it returns false'. Refute it at one input. -/
def gcraHalvesWrong : ChangeSpec := { name := "gcraHalves", fn := fun _ => fun
  | [d1, d2, d3, d4, d5, d6] => { results := [.lit (.bool false)], args := [d1, d2, d3, d4, d5, d6] }
  | _ => none }
def GcraHalvesWrongFalsely : Prop := gcraHalvesRow.holds Try.pinned (OpenSpec.ofChange gcraHalvesWrong)

/-- 'tapsterlaw05.GcraRetries': WHATEVER THE INPUT: true; the input reads as it did. -/
def gcraRetriesSpec : ChangeSpec := { name := "gcraRetries", fn := fun _ => fun
  | [d1, d2, d3, d4, d5] => { results := [.lit (.bool true)], args := [d1, d2, d3, d4, d5] }
  | _ => none }
def gcraRetriesRow : OpenClaim := { program := "ytjmenmnjkfnhgaa", sum := "920544dc65e8c6747b860b48d31fb28f49687ae4c86619a0c93296cfcacbf7cc", func := "tapster/tapsterlaw05.GcraRetries", spec := "gcraRetries", unfollowed := true, recurses := true, named := ["math/bits.divideError", "math/bits.overflowError"], apart := false }
def GcraRetriesSaid : Prop := gcraRetriesRow.holds Try.pinned (OpenSpec.ofChange gcraRetriesSpec)

/-- ITS FALSE NEIGHBOUR: 'it returns false'. Refute it at one input. -/
def gcraRetriesWrong : ChangeSpec := { name := "gcraRetries", fn := fun _ => fun
  | [d1, d2, d3, d4, d5] => { results := [.lit (.bool false)], args := [d1, d2, d3, d4, d5] }
  | _ => none }
def GcraRetriesWrongFalsely : Prop := gcraRetriesRow.holds Try.pinned (OpenSpec.ofChange gcraRetriesWrong)

/-- 'tapsterlaw05.GcraBacks': WHATEVER THE INPUT: true; the input reads as it did. -/
def gcraBacksSpec : ChangeSpec := { name := "gcraBacks", fn := fun _ => fun
  | [d1, d2, d3, d4, d5, d6] => { results := [.lit (.bool true)], args := [d1, d2, d3, d4, d5, d6] }
  | _ => none }
def gcraBacksRow : OpenClaim := { program := "ytjmenmnjkfnhgaa", sum := "920544dc65e8c6747b860b48d31fb28f49687ae4c86619a0c93296cfcacbf7cc", func := "tapster/tapsterlaw05.GcraBacks", spec := "gcraBacks", unfollowed := true, recurses := true, named := ["math/bits.divideError", "math/bits.overflowError"], apart := false }
def GcraBacksSaid : Prop := gcraBacksRow.holds Try.pinned (OpenSpec.ofChange gcraBacksSpec)

/-- ITS FALSE NEIGHBOUR: 'it returns false'. Refute it at one input. -/
def gcraBacksWrong : ChangeSpec := { name := "gcraBacks", fn := fun _ => fun
  | [d1, d2, d3, d4, d5, d6] => { results := [.lit (.bool false)], args := [d1, d2, d3, d4, d5, d6] }
  | _ => none }
def GcraBacksWrongFalsely : Prop := gcraBacksRow.holds Try.pinned (OpenSpec.ofChange gcraBacksWrong)

/-- 'tapsterlaw05.GcraWaits': WHATEVER THE INPUT: true; the input reads as it did. -/
def gcraWaitsSpec : ChangeSpec := { name := "gcraWaits", fn := fun _ => fun
  | [d1, d2, d3, d4, d5, d6] => { results := [.lit (.bool true)], args := [d1, d2, d3, d4, d5, d6] }
  | _ => none }
def gcraWaitsRow : OpenClaim := { program := "ytjmenmnjkfnhgaa", sum := "920544dc65e8c6747b860b48d31fb28f49687ae4c86619a0c93296cfcacbf7cc", func := "tapster/tapsterlaw05.GcraWaits", spec := "gcraWaits", unfollowed := true, recurses := true, named := ["math/bits.divideError", "math/bits.overflowError"], apart := false }
def GcraWaitsSaid : Prop := gcraWaitsRow.holds Try.pinned (OpenSpec.ofChange gcraWaitsSpec)

/-- ITS FALSE NEIGHBOUR: 'it returns false'. Refute it at one input. -/
def gcraWaitsWrong : ChangeSpec := { name := "gcraWaits", fn := fun _ => fun
  | [d1, d2, d3, d4, d5, d6] => { results := [.lit (.bool false)], args := [d1, d2, d3, d4, d5, d6] }
  | _ => none }
def GcraWaitsWrongFalsely : Prop := gcraWaitsRow.holds Try.pinned (OpenSpec.ofChange gcraWaitsWrong)

/-- 'tapsterlaw04.BucketHalves': WHATEVER THE INPUT: true; the input reads as it did. -/
def bucketHalvesSpec : ChangeSpec := { name := "bucketHalves", fn := fun _ => fun
  | [d1, d2, d3, d4, d5, d6] => { results := [.lit (.bool true)], args := [d1, d2, d3, d4, d5, d6] }
  | _ => none }
def bucketHalvesRow : OpenClaim := { program := "ytjmenmnjkfnhgaa", sum := "920544dc65e8c6747b860b48d31fb28f49687ae4c86619a0c93296cfcacbf7cc", func := "tapster/tapsterlaw04.BucketHalves", spec := "bucketHalves", unfollowed := true, recurses := true, named := ["math/bits.divideError", "math/bits.overflowError"], apart := false }
def BucketHalvesSaid : Prop := bucketHalvesRow.holds Try.pinned (OpenSpec.ofChange bucketHalvesSpec)

/-- ITS FALSE NEIGHBOUR: 'it returns false'. Refute it at one input. -/
def bucketHalvesWrong : ChangeSpec := { name := "bucketHalves", fn := fun _ => fun
  | [d1, d2, d3, d4, d5, d6] => { results := [.lit (.bool false)], args := [d1, d2, d3, d4, d5, d6] }
  | _ => none }
def BucketHalvesWrongFalsely : Prop := bucketHalvesRow.holds Try.pinned (OpenSpec.ofChange bucketHalvesWrong)

/-- 'tapsterlaw05.GcraSteps': WHATEVER THE INPUT: true; the input reads as it did. -/
def gcraStepsSpec : ChangeSpec := { name := "gcraSteps", fn := fun _ => fun
  | [d1, d2, d3, d4, d5] => { results := [.lit (.bool true)], args := [d1, d2, d3, d4, d5] }
  | _ => none }
def gcraStepsRow : OpenClaim := { program := "ytjmenmnjkfnhgaa", sum := "920544dc65e8c6747b860b48d31fb28f49687ae4c86619a0c93296cfcacbf7cc", func := "tapster/tapsterlaw05.GcraSteps", spec := "gcraSteps", unfollowed := true, recurses := true, named := ["math/bits.divideError", "math/bits.overflowError"], apart := false }
def GcraStepsSaid : Prop := gcraStepsRow.holds Try.pinned (OpenSpec.ofChange gcraStepsSpec)

/-- ITS FALSE NEIGHBOUR: 'it returns false'. Refute it at one input. -/
def gcraStepsWrong : ChangeSpec := { name := "gcraSteps", fn := fun _ => fun
  | [d1, d2, d3, d4, d5] => { results := [.lit (.bool false)], args := [d1, d2, d3, d4, d5] }
  | _ => none }
def GcraStepsWrongFalsely : Prop := gcraStepsRow.holds Try.pinned (OpenSpec.ofChange gcraStepsWrong)

/-- 'tapsterlaw05.GcraStates': WHATEVER THE INPUT: true; the input reads as it did. -/
def gcraStatesSpec : ChangeSpec := { name := "gcraStates", fn := fun _ => fun
  | [d1, d2, d3, d4, d5] => { results := [.lit (.bool true)], args := [d1, d2, d3, d4, d5] }
  | _ => none }
def gcraStatesRow : OpenClaim := { program := "ytjmenmnjkfnhgaa", sum := "920544dc65e8c6747b860b48d31fb28f49687ae4c86619a0c93296cfcacbf7cc", func := "tapster/tapsterlaw05.GcraStates", spec := "gcraStates", unfollowed := true, recurses := true, named := ["math/bits.divideError", "math/bits.overflowError"], apart := false }
def GcraStatesSaid : Prop := gcraStatesRow.holds Try.pinned (OpenSpec.ofChange gcraStatesSpec)

/-- ITS FALSE NEIGHBOUR: 'it returns false'. Refute it at one input. -/
def gcraStatesWrong : ChangeSpec := { name := "gcraStates", fn := fun _ => fun
  | [d1, d2, d3, d4, d5] => { results := [.lit (.bool false)], args := [d1, d2, d3, d4, d5] }
  | _ => none }
def GcraStatesWrongFalsely : Prop := gcraStatesRow.holds Try.pinned (OpenSpec.ofChange gcraStatesWrong)

/-- 'tapsterlaw05.GcraDual': WHATEVER THE INPUT: true; the input reads as it did. -/
def gcraDualSpec : ChangeSpec := { name := "gcraDual", fn := fun _ => fun
  | [d1, d2, d3, d4, d5] => { results := [.lit (.bool true)], args := [d1, d2, d3, d4, d5] }
  | _ => none }
def gcraDualRow : OpenClaim := { program := "ytjmenmnjkfnhgaa", sum := "920544dc65e8c6747b860b48d31fb28f49687ae4c86619a0c93296cfcacbf7cc", func := "tapster/tapsterlaw05.GcraDual", spec := "gcraDual", unfollowed := true, recurses := true, named := ["math/bits.divideError", "math/bits.overflowError"], apart := false }
def GcraDualSaid : Prop := gcraDualRow.holds Try.pinned (OpenSpec.ofChange gcraDualSpec)

/-- ITS FALSE NEIGHBOUR: 'it returns false'. Refute it at one input. -/
def gcraDualWrong : ChangeSpec := { name := "gcraDual", fn := fun _ => fun
  | [d1, d2, d3, d4, d5] => { results := [.lit (.bool false)], args := [d1, d2, d3, d4, d5] }
  | _ => none }
def GcraDualWrongFalsely : Prop := gcraDualRow.holds Try.pinned (OpenSpec.ofChange gcraDualWrong)

/-- 'tapsterlaw04.BucketRetries': WHATEVER THE INPUT: true; the input reads as it did. -/
def bucketRetriesSpec : ChangeSpec := { name := "bucketRetries", fn := fun _ => fun
  | [d1, d2, d3, d4, d5] => { results := [.lit (.bool true)], args := [d1, d2, d3, d4, d5] }
  | _ => none }
def bucketRetriesRow : OpenClaim := { program := "ytjmenmnjkfnhgaa", sum := "920544dc65e8c6747b860b48d31fb28f49687ae4c86619a0c93296cfcacbf7cc", func := "tapster/tapsterlaw04.BucketRetries", spec := "bucketRetries", unfollowed := true, recurses := true, named := ["math/bits.divideError", "math/bits.overflowError"], apart := false }
def BucketRetriesSaid : Prop := bucketRetriesRow.holds Try.pinned (OpenSpec.ofChange bucketRetriesSpec)

/-- ITS FALSE NEIGHBOUR: 'it returns false'. Refute it at one input. -/
def bucketRetriesWrong : ChangeSpec := { name := "bucketRetries", fn := fun _ => fun
  | [d1, d2, d3, d4, d5] => { results := [.lit (.bool false)], args := [d1, d2, d3, d4, d5] }
  | _ => none }
def BucketRetriesWrongFalsely : Prop := bucketRetriesRow.holds Try.pinned (OpenSpec.ofChange bucketRetriesWrong)

/-- 'tapsterlaw04.BucketBacks': WHATEVER THE INPUT: true; the input reads as it did. -/
def bucketBacksSpec : ChangeSpec := { name := "bucketBacks", fn := fun _ => fun
  | [d1, d2, d3, d4, d5, d6] => { results := [.lit (.bool true)], args := [d1, d2, d3, d4, d5, d6] }
  | _ => none }
def bucketBacksRow : OpenClaim := { program := "ytjmenmnjkfnhgaa", sum := "920544dc65e8c6747b860b48d31fb28f49687ae4c86619a0c93296cfcacbf7cc", func := "tapster/tapsterlaw04.BucketBacks", spec := "bucketBacks", unfollowed := true, recurses := true, named := ["math/bits.divideError", "math/bits.overflowError"], apart := false }
def BucketBacksSaid : Prop := bucketBacksRow.holds Try.pinned (OpenSpec.ofChange bucketBacksSpec)

/-- ITS FALSE NEIGHBOUR: 'it returns false'. Refute it at one input. -/
def bucketBacksWrong : ChangeSpec := { name := "bucketBacks", fn := fun _ => fun
  | [d1, d2, d3, d4, d5, d6] => { results := [.lit (.bool false)], args := [d1, d2, d3, d4, d5, d6] }
  | _ => none }
def BucketBacksWrongFalsely : Prop := bucketBacksRow.holds Try.pinned (OpenSpec.ofChange bucketBacksWrong)

/-- 'tapsterlaw04.BucketWaits': WHATEVER THE INPUT: true; the input reads as it did. -/
def bucketWaitsSpec : ChangeSpec := { name := "bucketWaits", fn := fun _ => fun
  | [d1, d2, d3, d4, d5, d6] => { results := [.lit (.bool true)], args := [d1, d2, d3, d4, d5, d6] }
  | _ => none }
def bucketWaitsRow : OpenClaim := { program := "ytjmenmnjkfnhgaa", sum := "920544dc65e8c6747b860b48d31fb28f49687ae4c86619a0c93296cfcacbf7cc", func := "tapster/tapsterlaw04.BucketWaits", spec := "bucketWaits", unfollowed := true, recurses := true, named := ["math/bits.divideError", "math/bits.overflowError"], apart := false }
def BucketWaitsSaid : Prop := bucketWaitsRow.holds Try.pinned (OpenSpec.ofChange bucketWaitsSpec)

/-- ITS FALSE NEIGHBOUR: 'it returns false'. Refute it at one input. -/
def bucketWaitsWrong : ChangeSpec := { name := "bucketWaits", fn := fun _ => fun
  | [d1, d2, d3, d4, d5, d6] => { results := [.lit (.bool false)], args := [d1, d2, d3, d4, d5, d6] }
  | _ => none }
def BucketWaitsWrongFalsely : Prop := bucketWaitsRow.holds Try.pinned (OpenSpec.ofChange bucketWaitsWrong)

/-- 'tapsterlaw04.BucketSteps': WHATEVER THE INPUT: true; the input reads as it did. -/
def bucketStepsSpec : ChangeSpec := { name := "bucketSteps", fn := fun _ => fun
  | [d1, d2, d3, d4, d5] => { results := [.lit (.bool true)], args := [d1, d2, d3, d4, d5] }
  | _ => none }
def bucketStepsRow : OpenClaim := { program := "ytjmenmnjkfnhgaa", sum := "920544dc65e8c6747b860b48d31fb28f49687ae4c86619a0c93296cfcacbf7cc", func := "tapster/tapsterlaw04.BucketSteps", spec := "bucketSteps", unfollowed := true, recurses := true, named := ["math/bits.divideError", "math/bits.overflowError"], apart := false }
def BucketStepsSaid : Prop := bucketStepsRow.holds Try.pinned (OpenSpec.ofChange bucketStepsSpec)

/-- ITS FALSE NEIGHBOUR: 'it returns false'. Refute it at one input. -/
def bucketStepsWrong : ChangeSpec := { name := "bucketSteps", fn := fun _ => fun
  | [d1, d2, d3, d4, d5] => { results := [.lit (.bool false)], args := [d1, d2, d3, d4, d5] }
  | _ => none }
def BucketStepsWrongFalsely : Prop := bucketStepsRow.holds Try.pinned (OpenSpec.ofChange bucketStepsWrong)

/-- 'tapsterlaw04.BucketStates': WHATEVER THE INPUT: true; the input reads as it did. -/
def bucketStatesSpec : ChangeSpec := { name := "bucketStates", fn := fun _ => fun
  | [d1, d2, d3, d4, d5] => { results := [.lit (.bool true)], args := [d1, d2, d3, d4, d5] }
  | _ => none }
def bucketStatesRow : OpenClaim := { program := "ytjmenmnjkfnhgaa", sum := "920544dc65e8c6747b860b48d31fb28f49687ae4c86619a0c93296cfcacbf7cc", func := "tapster/tapsterlaw04.BucketStates", spec := "bucketStates", unfollowed := true, recurses := true, named := ["math/bits.divideError", "math/bits.overflowError"], apart := false }
def BucketStatesSaid : Prop := bucketStatesRow.holds Try.pinned (OpenSpec.ofChange bucketStatesSpec)

/-- ITS FALSE NEIGHBOUR: 'it returns false'. Refute it at one input. -/
def bucketStatesWrong : ChangeSpec := { name := "bucketStates", fn := fun _ => fun
  | [d1, d2, d3, d4, d5] => { results := [.lit (.bool false)], args := [d1, d2, d3, d4, d5] }
  | _ => none }
def BucketStatesWrongFalsely : Prop := bucketStatesRow.holds Try.pinned (OpenSpec.ofChange bucketStatesWrong)

/- THE SECOND FORM. 'bulk': how many values and letters a reading holds, each counted each time it is reached (what is shared counts as often as it is met; a slice's spare places count too). A statement '..UptoSaid' is the law's where the arguments, and the package variables that the reading takes, are together of bulk at most 1048576: NARROWER than '..Said'. Prove '..Said' where nothing that the law and all that it calls make is longer than what came in: it says more and counts as full. Else prove '..UptoSaid'. A law counts once. -/
mutual
def uptoBulk {H : Type} : DataW H → Nat
  | .lit (.string bytes) => bytes.length + 1
  | .lit _ => 1
  | .nil => 1
  | .ptr d => uptoBulk d + 1
  | .slice elems spare => uptoBulkAll elems + uptoBulkAll spare + 1
  | .agg parts => uptoBulkAll parts + 1
  | .iface _ d => uptoBulk d + 1
  | .map entries => uptoBulkEntries entries + 1
  | .held _ => 1
def uptoBulkAll {H : Type} : List (DataW H) → Nat
  | [] => 0
  | d :: r => uptoBulk d + uptoBulkAll r
def uptoBulkEntries {H : Type} : List (Lit × DataW H) → Nat
  | [] => 0
  | x :: r => uptoBulkEntry x + uptoBulkEntries r
def uptoBulkEntry {H : Type} : Lit × DataW H → Nat
  | (.string bytes, d) => bytes.length + uptoBulk d + 1
  | (_, d) => uptoBulk d + 1
 end
def uptoSmall : (H : Type) → List (DataW H) → Bool := fun _ ds => decide (uptoBulkAll ds ≤ 1048576)
def OpenSpec.upto (s : _root_.Go.ChangeSpec) : _root_.Go.OpenSpec := { _root_.Go.OpenSpec.ofChange s with cond := some uptoSmall }

/-- 'tapsterlaw05.GcraHalves', WHERE WHAT IT READS IS OF BULK AT MOST 1048576: true; the input reads as it did. -/
def gcraHalvesUptoRow : OpenClaim := { program := "ytjmenmnjkfnhgaa", sum := "920544dc65e8c6747b860b48d31fb28f49687ae4c86619a0c93296cfcacbf7cc", func := "tapster/tapsterlaw05.GcraHalves", spec := "gcraHalves", unfollowed := true, recurses := true, named := ["math/bits.divideError", "math/bits.overflowError"], apart := false, narrowed := true }
def GcraHalvesUptoSaid : Prop := gcraHalvesUptoRow.holds Try.pinned (OpenSpec.upto gcraHalvesSpec)

/-- 'tapsterlaw05.GcraRetries', WHERE WHAT IT READS IS OF BULK AT MOST 1048576: true; the input reads as it did. -/
def gcraRetriesUptoRow : OpenClaim := { program := "ytjmenmnjkfnhgaa", sum := "920544dc65e8c6747b860b48d31fb28f49687ae4c86619a0c93296cfcacbf7cc", func := "tapster/tapsterlaw05.GcraRetries", spec := "gcraRetries", unfollowed := true, recurses := true, named := ["math/bits.divideError", "math/bits.overflowError"], apart := false, narrowed := true }
def GcraRetriesUptoSaid : Prop := gcraRetriesUptoRow.holds Try.pinned (OpenSpec.upto gcraRetriesSpec)

/-- 'tapsterlaw05.GcraBacks', WHERE WHAT IT READS IS OF BULK AT MOST 1048576: true; the input reads as it did. -/
def gcraBacksUptoRow : OpenClaim := { program := "ytjmenmnjkfnhgaa", sum := "920544dc65e8c6747b860b48d31fb28f49687ae4c86619a0c93296cfcacbf7cc", func := "tapster/tapsterlaw05.GcraBacks", spec := "gcraBacks", unfollowed := true, recurses := true, named := ["math/bits.divideError", "math/bits.overflowError"], apart := false, narrowed := true }
def GcraBacksUptoSaid : Prop := gcraBacksUptoRow.holds Try.pinned (OpenSpec.upto gcraBacksSpec)

/-- 'tapsterlaw05.GcraWaits', WHERE WHAT IT READS IS OF BULK AT MOST 1048576: true; the input reads as it did. -/
def gcraWaitsUptoRow : OpenClaim := { program := "ytjmenmnjkfnhgaa", sum := "920544dc65e8c6747b860b48d31fb28f49687ae4c86619a0c93296cfcacbf7cc", func := "tapster/tapsterlaw05.GcraWaits", spec := "gcraWaits", unfollowed := true, recurses := true, named := ["math/bits.divideError", "math/bits.overflowError"], apart := false, narrowed := true }
def GcraWaitsUptoSaid : Prop := gcraWaitsUptoRow.holds Try.pinned (OpenSpec.upto gcraWaitsSpec)

/-- 'tapsterlaw04.BucketHalves', WHERE WHAT IT READS IS OF BULK AT MOST 1048576: true; the input reads as it did. -/
def bucketHalvesUptoRow : OpenClaim := { program := "ytjmenmnjkfnhgaa", sum := "920544dc65e8c6747b860b48d31fb28f49687ae4c86619a0c93296cfcacbf7cc", func := "tapster/tapsterlaw04.BucketHalves", spec := "bucketHalves", unfollowed := true, recurses := true, named := ["math/bits.divideError", "math/bits.overflowError"], apart := false, narrowed := true }
def BucketHalvesUptoSaid : Prop := bucketHalvesUptoRow.holds Try.pinned (OpenSpec.upto bucketHalvesSpec)

/-- 'tapsterlaw05.GcraSteps', WHERE WHAT IT READS IS OF BULK AT MOST 1048576: true; the input reads as it did. -/
def gcraStepsUptoRow : OpenClaim := { program := "ytjmenmnjkfnhgaa", sum := "920544dc65e8c6747b860b48d31fb28f49687ae4c86619a0c93296cfcacbf7cc", func := "tapster/tapsterlaw05.GcraSteps", spec := "gcraSteps", unfollowed := true, recurses := true, named := ["math/bits.divideError", "math/bits.overflowError"], apart := false, narrowed := true }
def GcraStepsUptoSaid : Prop := gcraStepsUptoRow.holds Try.pinned (OpenSpec.upto gcraStepsSpec)

/-- 'tapsterlaw05.GcraStates', WHERE WHAT IT READS IS OF BULK AT MOST 1048576: true; the input reads as it did. -/
def gcraStatesUptoRow : OpenClaim := { program := "ytjmenmnjkfnhgaa", sum := "920544dc65e8c6747b860b48d31fb28f49687ae4c86619a0c93296cfcacbf7cc", func := "tapster/tapsterlaw05.GcraStates", spec := "gcraStates", unfollowed := true, recurses := true, named := ["math/bits.divideError", "math/bits.overflowError"], apart := false, narrowed := true }
def GcraStatesUptoSaid : Prop := gcraStatesUptoRow.holds Try.pinned (OpenSpec.upto gcraStatesSpec)

/-- 'tapsterlaw05.GcraDual', WHERE WHAT IT READS IS OF BULK AT MOST 1048576: true; the input reads as it did. -/
def gcraDualUptoRow : OpenClaim := { program := "ytjmenmnjkfnhgaa", sum := "920544dc65e8c6747b860b48d31fb28f49687ae4c86619a0c93296cfcacbf7cc", func := "tapster/tapsterlaw05.GcraDual", spec := "gcraDual", unfollowed := true, recurses := true, named := ["math/bits.divideError", "math/bits.overflowError"], apart := false, narrowed := true }
def GcraDualUptoSaid : Prop := gcraDualUptoRow.holds Try.pinned (OpenSpec.upto gcraDualSpec)

/-- 'tapsterlaw04.BucketRetries', WHERE WHAT IT READS IS OF BULK AT MOST 1048576: true; the input reads as it did. -/
def bucketRetriesUptoRow : OpenClaim := { program := "ytjmenmnjkfnhgaa", sum := "920544dc65e8c6747b860b48d31fb28f49687ae4c86619a0c93296cfcacbf7cc", func := "tapster/tapsterlaw04.BucketRetries", spec := "bucketRetries", unfollowed := true, recurses := true, named := ["math/bits.divideError", "math/bits.overflowError"], apart := false, narrowed := true }
def BucketRetriesUptoSaid : Prop := bucketRetriesUptoRow.holds Try.pinned (OpenSpec.upto bucketRetriesSpec)

/-- 'tapsterlaw04.BucketBacks', WHERE WHAT IT READS IS OF BULK AT MOST 1048576: true; the input reads as it did. -/
def bucketBacksUptoRow : OpenClaim := { program := "ytjmenmnjkfnhgaa", sum := "920544dc65e8c6747b860b48d31fb28f49687ae4c86619a0c93296cfcacbf7cc", func := "tapster/tapsterlaw04.BucketBacks", spec := "bucketBacks", unfollowed := true, recurses := true, named := ["math/bits.divideError", "math/bits.overflowError"], apart := false, narrowed := true }
def BucketBacksUptoSaid : Prop := bucketBacksUptoRow.holds Try.pinned (OpenSpec.upto bucketBacksSpec)

/-- 'tapsterlaw04.BucketWaits', WHERE WHAT IT READS IS OF BULK AT MOST 1048576: true; the input reads as it did. -/
def bucketWaitsUptoRow : OpenClaim := { program := "ytjmenmnjkfnhgaa", sum := "920544dc65e8c6747b860b48d31fb28f49687ae4c86619a0c93296cfcacbf7cc", func := "tapster/tapsterlaw04.BucketWaits", spec := "bucketWaits", unfollowed := true, recurses := true, named := ["math/bits.divideError", "math/bits.overflowError"], apart := false, narrowed := true }
def BucketWaitsUptoSaid : Prop := bucketWaitsUptoRow.holds Try.pinned (OpenSpec.upto bucketWaitsSpec)

/-- 'tapsterlaw04.BucketSteps', WHERE WHAT IT READS IS OF BULK AT MOST 1048576: true; the input reads as it did. -/
def bucketStepsUptoRow : OpenClaim := { program := "ytjmenmnjkfnhgaa", sum := "920544dc65e8c6747b860b48d31fb28f49687ae4c86619a0c93296cfcacbf7cc", func := "tapster/tapsterlaw04.BucketSteps", spec := "bucketSteps", unfollowed := true, recurses := true, named := ["math/bits.divideError", "math/bits.overflowError"], apart := false, narrowed := true }
def BucketStepsUptoSaid : Prop := bucketStepsUptoRow.holds Try.pinned (OpenSpec.upto bucketStepsSpec)

/-- 'tapsterlaw04.BucketStates', WHERE WHAT IT READS IS OF BULK AT MOST 1048576: true; the input reads as it did. -/
def bucketStatesUptoRow : OpenClaim := { program := "ytjmenmnjkfnhgaa", sum := "920544dc65e8c6747b860b48d31fb28f49687ae4c86619a0c93296cfcacbf7cc", func := "tapster/tapsterlaw04.BucketStates", spec := "bucketStates", unfollowed := true, recurses := true, named := ["math/bits.divideError", "math/bits.overflowError"], apart := false, narrowed := true }
def BucketStatesUptoSaid : Prop := bucketStatesUptoRow.holds Try.pinned (OpenSpec.upto bucketStatesSpec)

end Rows
end Go.Proofs.Ytjmenmnjkfnhgaa
