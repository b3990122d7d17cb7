import Derived.Test.YtamjocnlhhhijaaVRR6g
import Derived.WalkKit
set_option linter.unusedSimpArgs false
set_option linter.unusedVariables false
set_option maxRecDepth 1000000
set_option linter.unusedVariables false
namespace Go.Proofs.YtamjocnlhhhijaaK
open Go Go.Proofs.YtamjocnlhhhijaaV Go.Proofs
theorem s6_0 : T.sub [false, false, true, true, false, true, false, true, true] cu6_0 = t6v1 := by kernel_rfl
theorem s6_3 : T.sub [false, false, true, true, false, true, false, false, false, false, true, false] cu6_3 = t6v4 := by kernel_rfl
theorem s6_6 : T.sub [false, false, false, false, true, false, true, false] cu6_6 = t6_1u2 := by kernel_rfl
theorem s6_9 : T.sub [false, false, false, false, true, false, false, false, false, false] cu6_9 = t6_1u5 := by kernel_rfl
theorem s6_12 : T.sub [false, false, true, false, false, true, false, false, false, false, true, true] cu6_12 = t6_1u3 := by kernel_rfl
theorem s6_15 : T.sub [false, false, false] cu6_15 = t6r := by kernel_rfl
end Go.Proofs.YtamjocnlhhhijaaK
