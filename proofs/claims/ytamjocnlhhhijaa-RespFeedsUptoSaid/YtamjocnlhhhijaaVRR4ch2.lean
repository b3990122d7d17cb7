import Derived.Test.YtamjocnlhhhijaaVRR4cg
import Derived.WalkKit
set_option linter.unusedSimpArgs false
set_option linter.unusedVariables false
set_option maxRecDepth 1000000
set_option linter.unusedVariables false
namespace Go.Proofs.YtamjocnlhhhijaaK
open Go Go.Proofs.YtamjocnlhhhijaaV Go.Proofs
theorem s4_1 : T.sub [false, false, false, true, false, true, true] cu4_1 = t4v2 := by kernel_rfl
theorem s4_4 : T.sub [false, false, false, true, false, true, false, true, false, false, false, true] cu4_4 = t4v5 := by kernel_rfl
theorem s4_7 : T.sub [false, false, false, true, false, true, false, false, false, true] cu4_7 = t4v8 := by kernel_rfl
theorem s4_10 : T.sub [false, false, false, true, false, true, false, false, false, false, true, false, false, false] cu4_10 = t4v11 := by kernel_rfl
theorem s4_13 : T.sub [false, false, false, true, false, false] cu4_13 = t4v14 := by kernel_rfl
end Go.Proofs.YtamjocnlhhhijaaK
