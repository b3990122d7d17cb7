import Derived.Test.YtamjocnlhhhijaaVRR6g
import Derived.WalkKit
set_option linter.unusedSimpArgs false
set_option linter.unusedVariables false
set_option maxRecDepth 1000000
set_option linter.unusedVariables false
namespace Go.Proofs.YtamjocnlhhhijaaK
open Go Go.Proofs.YtamjocnlhhhijaaV Go.Proofs
theorem s6_1 : T.sub [false, false, true, true, false, true, false, true, false] cu6_1 = t6v2 := by kernel_rfl
theorem s6_4 : T.sub [false, false, true, true, false, true, false, false, false, false, false] cu6_4 = t6v5 := by kernel_rfl
theorem s6_7 : T.sub [false, false, false, false, true, false, false, false, false, true, true] cu6_7 = t6_1u3 := by kernel_rfl
theorem s6_10 : T.sub [false, false, true, false, false, true, false, true, true] cu6_10 = t6_1u1 := by kernel_rfl
theorem s6_13 : T.sub [false, false, true, false, false, true, false, false, false, false, true, false] cu6_13 = t6_1u4 := by kernel_rfl
theorem s6_16 : T.sub [false, false, true, false] cu6_16 = t6r := by kernel_rfl
end Go.Proofs.YtamjocnlhhhijaaK
