/- Proved: with a greater number a sum, a share, and a time, is no less: the law returns true for every input. No condition. -/
import Derived.Test.YtmhfooalcohpgaaVR1L
import Derived.Test.YtmhfooalcohpgaaRows
import Derived.Test.YtmhfooalcohpgaaVOp2
import Derived.Test.YtmhfooalcohpgaaVC0
import Derived.WalkKit
import Derived.ProofKit
import Derived.OpenShut
import Derived.ShutString
import Derived.ChangeOld
import Derived.Below
import Derived.SizedLaws
set_option linter.unusedVariables false
set_option linter.unusedSimpArgs false
namespace Go.Proofs.Ytmhfooalcohpgaa
open Go.ChangeShapes Go.WideShapes Go.ChangeAt Go.RowKit Go.Proofs.YtmhfooalcohpgaaV Go.Proofs.YtmhfooalcohpgaaK
namespace numOrders
theorem own : ownKnob Try.prog.godebug = none := by kernel_rfl
theorem inp (r : List Atom) (h : FitsAll [.int .u32, .int .u32, .int .u16, .int .u16] r) : ∃ x, r = (fun x : Int × Int × Int × Int => ([aK .u32 x.1, aK .u32 x.2.1, aK .u16 x.2.2.1, aK .u16 x.2.2.2] : List Atom)) x ∧ (fun x : Int × Int × Int × Int => (0 ≤ x.1 ∧ x.1 < 4294967296) ∧ (0 ≤ x.2.1 ∧ x.2.1 < 4294967296) ∧ (0 ≤ x.2.2.1 ∧ x.2.2.1 < 65536) ∧ 0 ≤ x.2.2.2 ∧ x.2.2.2 < 65536) x := by
  obtain ⟨_, _, rfl, f0, g0⟩ := fits_cons h
  obtain ⟨x0, rfl, o0⟩ := fits_int f0
  obtain ⟨_, _, rfl, f1, g1⟩ := fits_cons g0
  obtain ⟨x1, rfl, o1⟩ := fits_int f1
  obtain ⟨_, _, rfl, f2, g2⟩ := fits_cons g1
  obtain ⟨x2, rfl, o2⟩ := fits_int f2
  obtain ⟨_, _, rfl, f3, g3⟩ := fits_cons g2
  obtain ⟨x3, rfl, o3⟩ := fits_int f3
  obtain rfl := fits_nil g3
  exact ⟨(x0, x1, x2, x3), rfl, ⟨(u32_of o0), ⟨(u32_of o1), ⟨(u16_of o2), (u16_of o3)⟩⟩⟩⟩
theorem lifted (os : Os) (started : os.Started) (H : Type) (enc : TypeId × Value → H) :
    ReturnsInHanded {} Try.checked os 6 .any (Rows.numOrdersSpec.pre6 enc Try.prog Try.f6 Rows.numOrdersRow.domain false) (Rows.numOrdersSpec.post enc Try.prog Try.f6 false true false false) := by
  refine returnsInHanded_of_change_sized (C := Try.checked) own started (by kernel_rfl) Try.func6
    (ChangeSpec.witness6 (enc := enc) (C := Try.checked) false ⟨#[], #[.int .u32 0, .int .u32 0, .int .u16 0, .int .u16 0], []⟩ 8 (by kernel_rfl) (by kernel_rfl) (by kernel_rfl) (by kernel_rfl)) ?_
  intro W base args ds gs before hval hW _ _ _
  exact run_of (C := Try.checked) (s := Rows.numOrdersSpec) (d := 8) (kss := [[.int .u32], [.int .u32], [.int .u16], [.int .u16]]) h6 rfl rfl rfl (by kernel_rfl) (by kernel_rfl) (fun r hr => inp r hr) (by kernel_rfl) (by kernel_rfl) (rt := 4) (by kernel_rfl) (by kernel_rfl) rfl (fun ds hd => by
    match ds, hd with
    | [d0, d1, d2, d3], _ => rfl) W base args ds gs before hval hW
theorem over : Rows.numOrdersRow.holds Try.pinned (OpenSpec.ofChange Rows.numOrdersSpec) :=
  OpenClaim.holds_of_wide 6 Try.f6 rfl rfl rfl rfl rfl rfl rfl ⟨rfl, rfl, rfl, rfl, rfl⟩ rfl rfl rfl rfl rfl (by kernel_rfl) Try.func6 (by kernel_rfl)
    (of_decide_eq_true (by kernel_rfl)) (by unfold Func.isWrapper; first | (rw [if_pos (by decide +kernel)]; kernel_rfl) | (rw [if_neg (by decide +kernel)]; exact ⟨rfl, rfl⟩))
    (fun os started H enc _ => lifted os started H enc)
end numOrders
/-- The row. -/
theorem numOrders_holds : Rows.NumOrdersSaid := numOrders.over
#print axioms numOrders_holds
end Go.Proofs.Ytmhfooalcohpgaa
