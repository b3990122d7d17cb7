/-  -/
import Derived.Test.YtbcbjgomnhajdaaDoorVRDd
import Derived.Test.YtbcbjgomnhajdaaDoorVC
import Derived.WalkKit
set_option linter.unusedSimpArgs false
set_option linter.unusedVariables false
section
set_option maxRecDepth 1000000
set_option linter.unusedVariables false
namespace Go.Proofs.YtbcbjgomnhajdaaDoorK
open Go Go.Proofs.YtbcbjgomnhajdaaDoorV Go.Proofs
theorem s8_1 : T.sub [true, true, false, true, false, false, false] (se42) = l8_1 := rfl
theorem s8_2 : T.sub [true, true, false, false, false, false] (T.put (.bad 0) [true, true, false, true, false, false, false] (se42)) = l8_2 := by kernel_rfl
end Go.Proofs.YtbcbjgomnhajdaaDoorK
end

section
set_option maxRecDepth 1000000
set_option linter.unusedVariables false
namespace Go.Proofs.YtbcbjgomnhajdaaDoorK
open Go Go.Proofs.YtbcbjgomnhajdaaDoorV Go.Proofs
theorem s8_3 : T.sub [false, true, false, true, false, false, false] (T.put (.bad 0) [true, true, false, false, false, false] (T.put (.bad 0) [true, true, false, true, false, false, false] (se42))) = l8_3 := rfl
theorem s8_4 : T.sub [false, true, false, false, false, false] (T.put (.bad 0) [false, true, false, true, false, false, false] (T.put (.bad 0) [true, true, false, false, false, false] (T.put (.bad 0) [true, true, false, true, false, false, false] (se42)))) = l8_4 := rfl
theorem c8 : T.put (.bad 0) [false, true, false, false, false, false] (T.put (.bad 0) [false, true, false, true, false, false, false] (T.put (.bad 0) [true, true, false, false, false, false] (T.put (.bad 0) [true, true, false, true, false, false, false] (se42)))) = r8 := by kernel_rfl
end Go.Proofs.YtbcbjgomnhajdaaDoorK
end

section
set_option maxRecDepth 1000000
set_option linter.unusedVariables false
namespace Go.Proofs.YtbcbjgomnhajdaaDoorK
open Go Go.Proofs.YtbcbjgomnhajdaaDoorV Go.Proofs
theorem top8 : T.put (.bad 0) [false, true, false, false, false, false, true] se8 = c8t := by kernel_rfl
theorem j8_4 : T.put (.bad 0) [false, true, false, true, false, false, false] (T.put (.bad 0) [true, true, false, false, false, false] (T.put (.bad 0) [true, true, false, true, false, false, false] (se42))) = T.put l8_4 [false, true, false, false, false, false] (r8) := T.split [false, true, false, false, false, false] s8_4 c8 rfl
theorem j8_3 : T.put (.bad 0) [true, true, false, false, false, false] (T.put (.bad 0) [true, true, false, true, false, false, false] (se42)) = T.put l8_3 [false, true, false, true, false, false, false] (T.put l8_4 [false, true, false, false, false, false] (r8)) := T.split [false, true, false, true, false, false, false] s8_3 j8_4 rfl
theorem j8_2 : T.put (.bad 0) [true, true, false, true, false, false, false] (se42) = T.put l8_2 [true, true, false, false, false, false] (T.put l8_3 [false, true, false, true, false, false, false] (T.put l8_4 [false, true, false, false, false, false] (r8))) := T.split [true, true, false, false, false, false] s8_2 j8_3 rfl
theorem j8_1 : se42 = T.put l8_1 [true, true, false, true, false, false, false] (T.put l8_2 [true, true, false, false, false, false] (T.put l8_3 [false, true, false, true, false, false, false] (T.put l8_4 [false, true, false, false, false, false] (r8)))) := T.split [true, true, false, true, false, false, false] s8_1 j8_2 rfl
theorem e42 : se42 = t8_42 := j8_1.trans (by kernel_rfl)
theorem ht8 : se8 = t8 := T.split [false, true, false, false, false, false, true] e42 top8 (by kernel_rfl)
end Go.Proofs.YtbcbjgomnhajdaaDoorK
end
