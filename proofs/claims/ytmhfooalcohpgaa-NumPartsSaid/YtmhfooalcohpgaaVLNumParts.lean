/- Proved: any two numbers' product by any third one, rounded down and up, is what the chapter says; so are times: the law returns true for every input. No condition. -/
import Derived.Test.YtmhfooalcohpgaaVR1k
import Derived.Test.YtmhfooalcohpgaaRows
import Derived.Test.YtmhfooalcohpgaaVD
import Derived.Test.YtmhfooalcohpgaaVC0
import Derived.WalkKit
import Derived.ProofKit
import Derived.OpenShut
import Derived.ShutString
import Derived.ChangeOld
import Derived.Below
import Derived.SizedLaws
set_option linter.unusedVariables false
set_option linter.unusedSimpArgs false
namespace Go.Proofs.Ytmhfooalcohpgaa
open Go.ChangeShapes Go.WideShapes Go.ChangeAt Go.RowKit Go.Proofs.YtmhfooalcohpgaaV Go.Proofs.YtmhfooalcohpgaaK
namespace numParts
theorem own : ownKnob Try.prog.godebug = none := by kernel_rfl
theorem inp (r : List Atom) (h : FitsAll [.int .i64, .int .i64, .int .i64] r) : ∃ x, r = (fun x : Int × Int × Int => ([aI x.1, aI x.2.1, aI x.2.2] : List Atom)) x ∧ (fun x : Int × Int × Int => in64 x.1 ∧ in64 x.2.1 ∧ in64 x.2.2) x := by
  obtain ⟨_, _, rfl, f0, g0⟩ := fits_cons h
  obtain ⟨x0, rfl, o0⟩ := fits_int f0
  obtain ⟨_, _, rfl, f1, g1⟩ := fits_cons g0
  obtain ⟨x1, rfl, o1⟩ := fits_int f1
  obtain ⟨_, _, rfl, f2, g2⟩ := fits_cons g1
  obtain ⟨x2, rfl, o2⟩ := fits_int f2
  obtain rfl := fits_nil g2
  exact ⟨(x0, x1, x2), rfl, ⟨(i64_of o0), (i64_of o1), (i64_of o2)⟩⟩
theorem lifted (os : Os) (started : os.Started) (H : Type) (enc : TypeId × Value → H) :
    ReturnsInHanded {} Try.checked os 4 .any (Rows.numPartsSpec.pre6 enc Try.prog Try.f4 Rows.numPartsRow.domain false) (Rows.numPartsSpec.post enc Try.prog Try.f4 false true false false) := by
  refine returnsInHanded_of_change_sized (C := Try.checked) own started (by kernel_rfl) Try.func4
    (ChangeSpec.witness6 (enc := enc) (C := Try.checked) false ⟨#[], #[.int .i64 0, .int .i64 0, .int .i64 0], []⟩ 8 (by kernel_rfl) (by kernel_rfl) (by kernel_rfl) (by kernel_rfl)) ?_
  intro W base args ds gs before hval hW _ _ _
  exact run_of (C := Try.checked) (s := Rows.numPartsSpec) (d := 8) (kss := [[.int .i64], [.int .i64], [.int .i64]]) h4 rfl rfl rfl (by kernel_rfl) (by kernel_rfl) (fun r hr => inp r hr) (by kernel_rfl) (by kernel_rfl) (rt := 4) (by kernel_rfl) (by kernel_rfl) rfl (fun ds hd => by
    match ds, hd with
    | [d0, d1, d2], _ => rfl) W base args ds gs before hval hW
theorem over : Rows.numPartsRow.holds Try.pinned (OpenSpec.ofChange Rows.numPartsSpec) :=
  OpenClaim.holds_of_wide 4 Try.f4 rfl rfl rfl rfl rfl rfl rfl ⟨rfl, rfl, rfl, rfl, rfl⟩ rfl rfl rfl rfl rfl (by kernel_rfl) Try.func4 (by kernel_rfl)
    (of_decide_eq_true (by kernel_rfl)) (by unfold Func.isWrapper; first | (rw [if_pos (by decide +kernel)]; kernel_rfl) | (rw [if_neg (by decide +kernel)]; exact ⟨rfl, rfl⟩))
    (fun os started H enc _ => lifted os started H enc)
end numParts
/-- The row. -/
theorem numParts_holds : Rows.NumPartsSaid := numParts.over
#print axioms numParts_holds
end Go.Proofs.Ytmhfooalcohpgaa
