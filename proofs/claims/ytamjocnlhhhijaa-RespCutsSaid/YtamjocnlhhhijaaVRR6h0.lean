import Derived.Test.YtamjocnlhhhijaaVRR6g
import Derived.WalkKit
set_option linter.unusedSimpArgs false
set_option linter.unusedVariables false
set_option maxRecDepth 1000000
set_option linter.unusedVariables false
namespace Go.Proofs.YtamjocnlhhhijaaK
open Go Go.Proofs.YtamjocnlhhhijaaV Go.Proofs
theorem c6 : cu6_17 = r6 := by kernel_rfl
end Go.Proofs.YtamjocnlhhhijaaK
