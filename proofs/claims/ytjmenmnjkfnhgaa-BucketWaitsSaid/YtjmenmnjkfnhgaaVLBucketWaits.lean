/- Proved: as time goes by there is never less room; advanced to two times it is as to the later one: the law returns true for every input. No condition. -/
import Derived.Test.YtjmenmnjkfnhgaaVB13
import Derived.Test.YtjmenmnjkfnhgaaVD
import Derived.Test.YtjmenmnjkfnhgaaRows
import Derived.WalkKit
import Derived.ProofKit
import Derived.OpenShut
import Derived.ShutString
import Derived.ChangeOld
import Derived.Below
import Derived.SizedLaws
set_option linter.unusedVariables false
set_option linter.unusedSimpArgs false
namespace Go.Proofs.Ytjmenmnjkfnhgaa
open Go.ChangeShapes Go.WideShapes Go.ChangeAt Go.RowKit Go.Proofs.YtjmenmnjkfnhgaaV Go.Proofs.YtjmenmnjkfnhgaaK
namespace bucketWaits
theorem own : ownKnob Try.prog.godebug = none := by kernel_rfl
theorem inp (r : List Atom) (h : FitsAll [.int .u16, .int .u16, .int .u16, .slc [.int .i64, .int .i64, .int .i64], .int .u32, .int .u32] r) : ∃ x, r = (fun x : Int × Int × Int × Sl × Int × Int => ([aK .u16 x.1, aK .u16 x.2.1, aK .u16 x.2.2.1, Sl.atom x.2.2.2.1, aK .u32 x.2.2.2.2.1, aK .u32 x.2.2.2.2.2] : List Atom)) x ∧ (fun x : Int × Int × Int × Sl × Int × Int => actsOk x.2.2.2.1 ∧ pre16 (x.1, x.2.1, x.2.2.1) ∧ (0 ≤ x.2.2.2.2.1 ∧ x.2.2.2.2.1 < 4294967296) ∧ 0 ≤ x.2.2.2.2.2 ∧ x.2.2.2.2.2 < 4294967296) x := by
  obtain ⟨_, _, rfl, f0, g0⟩ := fits_cons h
  obtain ⟨x0, rfl, o0⟩ := fits_int f0
  obtain ⟨_, _, rfl, f1, g1⟩ := fits_cons g0
  obtain ⟨x1, rfl, o1⟩ := fits_int f1
  obtain ⟨_, _, rfl, f2, g2⟩ := fits_cons g1
  obtain ⟨x2, rfl, o2⟩ := fits_int f2
  obtain ⟨_, _, rfl, f3, g3⟩ := fits_cons g2
  obtain ⟨x3, rfl, o3⟩ := fits_slc f3
  obtain ⟨_, _, rfl, f4, g4⟩ := fits_cons g3
  obtain ⟨x4, rfl, o4⟩ := fits_int f4
  obtain ⟨_, _, rfl, f5, g5⟩ := fits_cons g4
  obtain ⟨x5, rfl, o5⟩ := fits_int f5
  obtain rfl := fits_nil g5
  exact ⟨(x0, x1, x2, x3, x4, x5), rfl, ⟨acts_of o3, ⟨(u16_of o0), (u16_of o1), (u16_of o2)⟩, u32_of o4, u32_of o5⟩⟩
theorem lifted (os : Os) (started : os.Started) (H : Type) (enc : TypeId × Value → H) :
    ReturnsInHanded {} Try.checked os 13 .any (Rows.bucketWaitsSpec.pre6 enc Try.prog Try.f13 Rows.bucketWaitsRow.domain false) (Rows.bucketWaitsSpec.post enc Try.prog Try.f13 false true false false) := by
  refine returnsInHanded_of_change_sized (C := Try.checked) own started (by kernel_rfl) Try.func13
    (ChangeSpec.witness6 (enc := enc) (C := Try.checked) false ⟨#[], #[.int .u16 0, .int .u16 0, .int .u16 0, .slice none 0 0, .int .u32 0, .int .u32 0], []⟩ 8 (by kernel_rfl) (by kernel_rfl) (by kernel_rfl) (by kernel_rfl)) ?_
  intro W base args ds gs before hval hW _ _ _
  exact run_of (C := Try.checked) (s := Rows.bucketWaitsSpec) (d := 8) (kss := [[.int .u16], [.int .u16], [.int .u16], [.slc [.int .i64, .int .i64, .int .i64]], [.int .u32], [.int .u32]]) h13 rfl rfl rfl (by kernel_rfl) (by kernel_rfl) (fun r hr => inp r hr) (by kernel_rfl) (by kernel_rfl) (rt := 4) (by kernel_rfl) (by kernel_rfl) rfl (fun ds hd => by
    match ds, hd with
    | [d0, d1, d2, d3, d4, d5], _ => rfl) W base args ds gs before hval hW
theorem over : Rows.bucketWaitsRow.holds Try.pinned (OpenSpec.ofChange Rows.bucketWaitsSpec) :=
  OpenClaim.holds_of_wide 13 Try.f13 rfl rfl rfl rfl rfl rfl rfl ⟨rfl, rfl, rfl, rfl, rfl⟩ rfl rfl rfl rfl rfl (by kernel_rfl) Try.func13 (by kernel_rfl)
    (of_decide_eq_true (by kernel_rfl)) (by unfold Func.isWrapper; first | (rw [if_pos (by decide +kernel)]; kernel_rfl) | (rw [if_neg (by decide +kernel)]; exact ⟨rfl, rfl⟩))
    (fun os started H enc _ => lifted os started H enc)
end bucketWaits
/-- The row. -/
theorem bucketWaits_holds : Rows.BucketWaitsSaid := bucketWaits.over
#print axioms bucketWaits_holds
end Go.Proofs.Ytjmenmnjkfnhgaa
