import Derived.Test.YtamjocnlhhhijaaVRR4cg
import Derived.WalkKit
set_option linter.unusedSimpArgs false
set_option linter.unusedVariables false
set_option maxRecDepth 1000000
set_option linter.unusedVariables false
namespace Go.Proofs.YtamjocnlhhhijaaK
open Go Go.Proofs.YtamjocnlhhhijaaV Go.Proofs
theorem c4 : cu4_14 = r4 := by kernel_rfl
end Go.Proofs.YtamjocnlhhhijaaK
