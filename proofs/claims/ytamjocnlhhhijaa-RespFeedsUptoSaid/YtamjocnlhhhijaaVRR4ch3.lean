import Derived.Test.YtamjocnlhhhijaaVRR4cg
import Derived.WalkKit
set_option linter.unusedSimpArgs false
set_option linter.unusedVariables false
set_option maxRecDepth 1000000
set_option linter.unusedVariables false
namespace Go.Proofs.YtamjocnlhhhijaaK
open Go Go.Proofs.YtamjocnlhhhijaaV Go.Proofs
theorem s4_2 : T.sub [false, false, false, true, false, true, false, true, true, true, false, false] cu4_2 = t4v3 := by kernel_rfl
theorem s4_5 : T.sub [false, false, false, true, false, true, false, true, false, false, false, false] cu4_5 = t4v6 := by kernel_rfl
theorem s4_8 : T.sub [false, false, false, true, false, true, false, false, false, false, true, true, true] cu4_8 = t4v9 := by kernel_rfl
theorem s4_11 : T.sub [false, false, false, true, false, true, false, false, false, false, false, true] cu4_11 = t4v12 := by kernel_rfl
end Go.Proofs.YtamjocnlhhhijaaK
