-- PRINTED BY print.sh 35421559b90ae4d0a3588c463048766b98c2df88dd9212a6774a882060cdf62d: not written by this session
import Derived.Test.YtmhfooalcohpgaaProg
import Derived.Below
import Derived.Deep.Draws
import Derived.Deep.AppendLies
import Derived.Maps.AppendAt
import Derived.OwnWalk
import Derived.Laws.BytesArg
import Derived.Laws.MakeOwn
import Derived.Laws.OwnMore
import Derived.Deep.OwnRows
import Derived.Tactics
import Derived.Lib.ConvBytes
import Derived.Laws.Slices
import Derived.WalkKit
import Derived.KernelRfl
import Derived.RowKit3
import Derived.Deep.LoopGhost
import Derived.Deep.QuietTactic
import Derived.BigQuiet
import Derived.WideLaws
import Derived.Deep.DeepCutAuto
import Derived.Deep.CutBlock
import Derived.Deep.RegionHeld3
import Derived.Laws.Rows
import Derived.Lib.AppendStr
import Derived.ArgAppend
import Derived.Laws.IdiomCopy
import Derived.OrdersHeld
import Derived.Laws.BitsLemmas
import Derived.RowKit
import Derived.Test.YtmhfooalcohpgaaWWords
import Derived.Test.YtmhfooalcohpgaaWLast
import Derived.Test.YtmhfooalcohpgaaWTab
import Derived.Test.YtmhfooalcohpgaaWFour
import Derived.Test.YtmhfooalcohpgaaWQPut
import Derived.Test.YtmhfooalcohpgaaWApart
import Derived.Test.YtmhfooalcohpgaaWArr
import Derived.Test.YtmhfooalcohpgaaWZeros
import Derived.Test.YtmhfooalcohpgaaWFoot
import Derived.Test.YtmhfooalcohpgaaWKept
import Derived.Test.YtmhfooalcohpgaaWShare
import Derived.Test.YtmhfooalcohpgaaWN
import Derived.Test.YtmhfooalcohpgaaWFootNe
import Derived.Test.YtmhfooalcohpgaaWAt
import Derived.Test.YtmhfooalcohpgaaWEqStruct
import Derived.Test.YtmhfooalcohpgaaWRepsOne
import Derived.Test.YtmhfooalcohpgaaWInv
import Derived.Test.YtmhfooalcohpgaaWInvWords
import Derived.Test.YtmhfooalcohpgaaWGuard
import Derived.Test.YtmhfooalcohpgaaWNEv
import Derived.Test.YtmhfooalcohpgaaWMore
namespace Go.Proofs.Ytmhfooalcohpgaa.PNumParts
open Go.RowKit Go.Proofs.YtmhfooalcohpgaaW.PrintWords Go.Proofs.YtmhfooalcohpgaaW.PrintLast Go.Proofs.YtmhfooalcohpgaaW.PrintMore
attribute [local go_sem] max2_int min2_int max_two min_two max_three min_three max_four min_four   -- for this text's walks alone
set_option linter.unusedVariables false
set_option linter.unusedSimpArgs false



def errW : Option Int → Value
  | none => .nilIface
  | some c => .iface 0 (.int .i64 c)
theorem errW_none : errW none = .nilIface := rfl
theorem errW_some (c : Int) : errW (some c) = .iface 0 (.int .i64 c) := rfl

theorem info3 : (Try.prog.info? 3).map (fun i => (i.zero, i.size, i.bytes)) = some (some (.int .i64 0), 1, 8) := by kernel_rfl
-- the values' own types

end Go.Proofs.Ytmhfooalcohpgaa.PNumParts
