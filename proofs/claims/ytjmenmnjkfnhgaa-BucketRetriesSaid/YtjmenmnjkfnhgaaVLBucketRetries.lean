/- Proved: what is told to have room some time later has it then, and not before; what is as new some time later is so then, and not before: the law returns true for every input. No condition. -/
import Derived.Test.YtjmenmnjkfnhgaaVB11
import Derived.Test.YtjmenmnjkfnhgaaVD
import Derived.Test.YtjmenmnjkfnhgaaRows
import Derived.WalkKit
import Derived.ProofKit
import Derived.OpenShut
import Derived.ShutString
import Derived.ChangeOld
import Derived.Below
import Derived.SizedLaws
set_option linter.unusedVariables false
set_option linter.unusedSimpArgs false
namespace Go.Proofs.Ytjmenmnjkfnhgaa
open Go.ChangeShapes Go.WideShapes Go.ChangeAt Go.RowKit Go.Proofs.YtjmenmnjkfnhgaaV Go.Proofs.YtjmenmnjkfnhgaaK
namespace bucketRetries
theorem own : ownKnob Try.prog.godebug = none := by kernel_rfl
theorem inp (r : List Atom) (h : FitsAll [.int .u16, .int .u16, .int .u16, .slc [.int .i64, .int .i64, .int .i64], .int .u8] r) : ∃ x, r = (fun x : Int × Int × Int × Sl × Int => ([aK .u16 x.1, aK .u16 x.2.1, aK .u16 x.2.2.1, Sl.atom x.2.2.2.1, aK .u8 x.2.2.2.2] : List Atom)) x ∧ (fun x : Int × Int × Int × Sl × Int => actsOk x.2.2.2.1 ∧ pre16 (x.1, x.2.1, x.2.2.1) ∧ 0 ≤ x.2.2.2.2 ∧ x.2.2.2.2 < 256) x := by
  obtain ⟨_, _, rfl, f0, g0⟩ := fits_cons h
  obtain ⟨x0, rfl, o0⟩ := fits_int f0
  obtain ⟨_, _, rfl, f1, g1⟩ := fits_cons g0
  obtain ⟨x1, rfl, o1⟩ := fits_int f1
  obtain ⟨_, _, rfl, f2, g2⟩ := fits_cons g1
  obtain ⟨x2, rfl, o2⟩ := fits_int f2
  obtain ⟨_, _, rfl, f3, g3⟩ := fits_cons g2
  obtain ⟨x3, rfl, o3⟩ := fits_slc f3
  obtain ⟨_, _, rfl, f4, g4⟩ := fits_cons g3
  obtain ⟨x4, rfl, o4⟩ := fits_int f4
  obtain rfl := fits_nil g4
  exact ⟨(x0, x1, x2, x3, x4), rfl, ⟨acts_of o3, ⟨(u16_of o0), (u16_of o1), (u16_of o2)⟩, u8_of o4⟩⟩
theorem lifted (os : Os) (started : os.Started) (H : Type) (enc : TypeId × Value → H) :
    ReturnsInHanded {} Try.checked os 11 .any (Rows.bucketRetriesSpec.pre6 enc Try.prog Try.f11 Rows.bucketRetriesRow.domain false) (Rows.bucketRetriesSpec.post enc Try.prog Try.f11 false true false false) := by
  refine returnsInHanded_of_change_sized (C := Try.checked) own started (by kernel_rfl) Try.func11
    (ChangeSpec.witness6 (enc := enc) (C := Try.checked) false ⟨#[], #[.int .u16 0, .int .u16 0, .int .u16 0, .slice none 0 0, .int .u8 0], []⟩ 8 (by kernel_rfl) (by kernel_rfl) (by kernel_rfl) (by kernel_rfl)) ?_
  intro W base args ds gs before hval hW _ _ _
  exact run_of (C := Try.checked) (s := Rows.bucketRetriesSpec) (d := 8) (kss := [[.int .u16], [.int .u16], [.int .u16], [.slc [.int .i64, .int .i64, .int .i64]], [.int .u8]]) h11 rfl rfl rfl (by kernel_rfl) (by kernel_rfl) (fun r hr => inp r hr) (by kernel_rfl) (by kernel_rfl) (rt := 4) (by kernel_rfl) (by kernel_rfl) rfl (fun ds hd => by
    match ds, hd with
    | [d0, d1, d2, d3, d4], _ => rfl) W base args ds gs before hval hW
theorem over : Rows.bucketRetriesRow.holds Try.pinned (OpenSpec.ofChange Rows.bucketRetriesSpec) :=
  OpenClaim.holds_of_wide 11 Try.f11 rfl rfl rfl rfl rfl rfl rfl ⟨rfl, rfl, rfl, rfl, rfl⟩ rfl rfl rfl rfl rfl (by kernel_rfl) Try.func11 (by kernel_rfl)
    (of_decide_eq_true (by kernel_rfl)) (by unfold Func.isWrapper; first | (rw [if_pos (by decide +kernel)]; kernel_rfl) | (rw [if_neg (by decide +kernel)]; exact ⟨rfl, rfl⟩))
    (fun os started H enc _ => lifted os started H enc)
end bucketRetries
/-- The row. -/
theorem bucketRetries_holds : Rows.BucketRetriesSaid := bucketRetries.over
#print axioms bucketRetries_holds
end Go.Proofs.Ytjmenmnjkfnhgaa
