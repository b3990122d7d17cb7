import Derived.Test.YtamjocnlhhhijaaVRR4cg
import Derived.WalkKit
set_option linter.unusedSimpArgs false
set_option linter.unusedVariables false
set_option maxRecDepth 1000000
set_option linter.unusedVariables false
namespace Go.Proofs.YtamjocnlhhhijaaK
open Go Go.Proofs.YtamjocnlhhhijaaV Go.Proofs
theorem s4_0 : T.sub [false, false, false, true, true] cu4_0 = t4v1 := by kernel_rfl
theorem s4_3 : T.sub [false, false, false, true, false, true, false, true, true, false] cu4_3 = t4v4 := by kernel_rfl
theorem s4_6 : T.sub [false, false, false, true, false, true, false, false, true] cu4_6 = t4v7 := by kernel_rfl
theorem s4_9 : T.sub [false, false, false, true, false, true, false, false, false, false, true, true, false] cu4_9 = t4v10 := by kernel_rfl
theorem s4_12 : T.sub [false, false, false, true, false, true, false, false, false, false, false, false] cu4_12 = t4v13 := by kernel_rfl
end Go.Proofs.YtamjocnlhhhijaaK
