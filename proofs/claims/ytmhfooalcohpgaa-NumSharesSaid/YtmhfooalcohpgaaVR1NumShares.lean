/- Proved: roundings of a share: the law returns true for every input. No condition. -/
import Derived.Test.YtmhfooalcohpgaaVR1L
import Derived.Test.YtmhfooalcohpgaaRows
import Derived.Test.YtmhfooalcohpgaaVOp2
import Derived.Test.YtmhfooalcohpgaaVC0
import Derived.WalkKit
import Derived.ProofKit
import Derived.OpenShut
import Derived.ShutString
import Derived.ChangeOld
import Derived.Below
import Derived.SizedLaws
set_option linter.unusedVariables false
set_option linter.unusedSimpArgs false
namespace Go.Proofs.Ytmhfooalcohpgaa
open Go.ChangeShapes Go.WideShapes Go.ChangeAt Go.RowKit Go.Proofs.YtmhfooalcohpgaaV Go.Proofs.YtmhfooalcohpgaaK
namespace numShares
theorem own : ownKnob Try.prog.godebug = none := by kernel_rfl
theorem inp (r : List Atom) (h : FitsAll [.int .u32, .int .u32, .int .u32] r) : ∃ x, r = (fun x : Int × Int × Int => ([aK .u32 x.1, aK .u32 x.2.1, aK .u32 x.2.2] : List Atom)) x ∧ (fun x : Int × Int × Int => (0 ≤ x.1 ∧ x.1 < 4294967296) ∧ (0 ≤ x.2.1 ∧ x.2.1 < 4294967296) ∧ 0 ≤ x.2.2 ∧ x.2.2 < 4294967296) x := by
  obtain ⟨_, _, rfl, f0, g0⟩ := fits_cons h
  obtain ⟨x0, rfl, o0⟩ := fits_int f0
  obtain ⟨_, _, rfl, f1, g1⟩ := fits_cons g0
  obtain ⟨x1, rfl, o1⟩ := fits_int f1
  obtain ⟨_, _, rfl, f2, g2⟩ := fits_cons g1
  obtain ⟨x2, rfl, o2⟩ := fits_int f2
  obtain rfl := fits_nil g2
  exact ⟨(x0, x1, x2), rfl, ⟨(u32_of o0), ⟨(u32_of o1), (u32_of o2)⟩⟩⟩
theorem lifted (os : Os) (started : os.Started) (H : Type) (enc : TypeId × Value → H) :
    ReturnsInHanded {} Try.checked os 3 .any (Rows.numSharesSpec.pre6 enc Try.prog Try.f3 Rows.numSharesRow.domain false) (Rows.numSharesSpec.post enc Try.prog Try.f3 false true false false) := by
  refine returnsInHanded_of_change_sized (C := Try.checked) own started (by kernel_rfl) Try.func3
    (ChangeSpec.witness6 (enc := enc) (C := Try.checked) false ⟨#[], #[.int .u32 0, .int .u32 0, .int .u32 0], []⟩ 8 (by kernel_rfl) (by kernel_rfl) (by kernel_rfl) (by kernel_rfl)) ?_
  intro W base args ds gs before hval hW _ _ _
  exact run_of (C := Try.checked) (s := Rows.numSharesSpec) (d := 8) (kss := [[.int .u32], [.int .u32], [.int .u32]]) h3 rfl rfl rfl (by kernel_rfl) (by kernel_rfl) (fun r hr => inp r hr) (by kernel_rfl) (by kernel_rfl) (rt := 4) (by kernel_rfl) (by kernel_rfl) rfl (fun ds hd => by
    match ds, hd with
    | [d0, d1, d2], _ => rfl) W base args ds gs before hval hW
theorem over : Rows.numSharesRow.holds Try.pinned (OpenSpec.ofChange Rows.numSharesSpec) :=
  OpenClaim.holds_of_wide 3 Try.f3 rfl rfl rfl rfl rfl rfl rfl ⟨rfl, rfl, rfl, rfl, rfl⟩ rfl rfl rfl rfl rfl (by kernel_rfl) Try.func3 (by kernel_rfl)
    (of_decide_eq_true (by kernel_rfl)) (by unfold Func.isWrapper; first | (rw [if_pos (by decide +kernel)]; kernel_rfl) | (rw [if_neg (by decide +kernel)]; exact ⟨rfl, rfl⟩))
    (fun os started H enc _ => lifted os started H enc)
end numShares
/-- The row. -/
theorem numShares_holds : Rows.NumSharesSaid := numShares.over
#print axioms numShares_holds
end Go.Proofs.Ytmhfooalcohpgaa
