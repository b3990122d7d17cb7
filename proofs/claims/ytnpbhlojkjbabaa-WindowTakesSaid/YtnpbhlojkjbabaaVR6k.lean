/- A policy out of small numbers is fit. -/
import Derived.Test.YtnpbhlojkjbabaaVR6w9
set_option linter.unusedSimpArgs false
set_option linter.unusedVariables false
namespace Go.Proofs.YtnpbhlojkjbabaaK
open Go Go.Proofs.YtnpbhlojkjbabaaV
theorem ok_of {a b c : Int} (u1 : 0 ≤ a) (u2 : a < 65536) (u3 : 0 ≤ b) (u4 : b < 65536) (u5 : 0 ≤ c) (u6 : c < 256) : okW (ofW a b c) := by
  refine ⟨rfl, ?_, ?_, ?_, ?_, ?_, ?_, rfl⟩ <;> simp only [ofW] <;> omega
end Go.Proofs.YtnpbhlojkjbabaaK
