import Derived.Test.YtamjocnlhhhijaaVRR6g
import Derived.WalkKit
set_option linter.unusedSimpArgs false
set_option linter.unusedVariables false
set_option maxRecDepth 1000000
set_option linter.unusedVariables false
namespace Go.Proofs.YtamjocnlhhhijaaK
open Go Go.Proofs.YtamjocnlhhhijaaV Go.Proofs
theorem s6_2 : T.sub [false, false, true, true, false, true, false, false, false, false, true, true] cu6_2 = t6v3 := by kernel_rfl
theorem s6_5 : T.sub [false, false, false, false, true, false, true, true] cu6_5 = t6_1u1 := by kernel_rfl
theorem s6_8 : T.sub [false, false, false, false, true, false, false, false, false, true, false] cu6_8 = t6_1u4 := by kernel_rfl
theorem s6_11 : T.sub [false, false, true, false, false, true, false, true, false] cu6_11 = t6_1u2 := by kernel_rfl
theorem s6_14 : T.sub [false, false, true, false, false, true, false, false, false, false, false] cu6_14 = t6_1u5 := by kernel_rfl
end Go.Proofs.YtamjocnlhhhijaaK
