/- Proved: of any policy and any state, all that is told of it, and what any act makes of it, is what the chapter says: the law returns true for every input. No condition. -/
import Derived.Test.YtjmenmnjkfnhgaaVB15
import Derived.Test.YtjmenmnjkfnhgaaVD
import Derived.Test.YtjmenmnjkfnhgaaRows
import Derived.WalkKit
import Derived.ProofKit
import Derived.OpenShut
import Derived.ShutString
import Derived.ChangeOld
import Derived.Below
import Derived.SizedLaws
set_option linter.unusedVariables false
set_option linter.unusedSimpArgs false
namespace Go.Proofs.Ytjmenmnjkfnhgaa
open Go.ChangeShapes Go.WideShapes Go.ChangeAt Go.RowKit Go.Proofs.YtjmenmnjkfnhgaaV Go.Proofs.YtjmenmnjkfnhgaaK
namespace bucketStates
theorem own : ownKnob Try.prog.godebug = none := by kernel_rfl
theorem inp (r : List Atom) (h : FitsAll [.int .i64, .int .i64, .int .i64, .int .i64, .int .i64, .bool, .int .i64, .int .i64, .int .i64, .slc [.int .i64, .int .i64], .int .i64, .int .i64, .int .i64, .int .i64, .int .i64] r) : ∃ x, r = (fun x : Pol × Stt × Ac × Int × Int => ([aI x.1.k, aI x.1.l, aI x.1.p, aI x.1.b, aI x.1.c, aB x.1.o, aI x.2.1.t, aI x.2.1.v, aI x.2.1.h, Sl.atom x.2.1.g, aI x.2.2.1.k, aI x.2.2.1.t, aI x.2.2.1.c, aI x.2.2.2.1, aI x.2.2.2.2] : List Atom)) x ∧ (fun x : Pol × Stt × Ac × Int × Int => lgOk9 x.2.1.g) x := by
  obtain ⟨_, _, rfl, f0, g0⟩ := fits_cons h
  obtain ⟨x0, rfl, o0⟩ := fits_int f0
  obtain ⟨_, _, rfl, f1, g1⟩ := fits_cons g0
  obtain ⟨x1, rfl, o1⟩ := fits_int f1
  obtain ⟨_, _, rfl, f2, g2⟩ := fits_cons g1
  obtain ⟨x2, rfl, o2⟩ := fits_int f2
  obtain ⟨_, _, rfl, f3, g3⟩ := fits_cons g2
  obtain ⟨x3, rfl, o3⟩ := fits_int f3
  obtain ⟨_, _, rfl, f4, g4⟩ := fits_cons g3
  obtain ⟨x4, rfl, o4⟩ := fits_int f4
  obtain ⟨_, _, rfl, f5, g5⟩ := fits_cons g4
  obtain ⟨x5, rfl⟩ := fits_bool f5
  obtain ⟨_, _, rfl, f6, g6⟩ := fits_cons g5
  obtain ⟨x6, rfl, o6⟩ := fits_int f6
  obtain ⟨_, _, rfl, f7, g7⟩ := fits_cons g6
  obtain ⟨x7, rfl, o7⟩ := fits_int f7
  obtain ⟨_, _, rfl, f8, g8⟩ := fits_cons g7
  obtain ⟨x8, rfl, o8⟩ := fits_int f8
  obtain ⟨_, _, rfl, f9, g9⟩ := fits_cons g8
  obtain ⟨x9, rfl, o9⟩ := fits_slc f9
  obtain ⟨_, _, rfl, f10, g10⟩ := fits_cons g9
  obtain ⟨x10, rfl, o10⟩ := fits_int f10
  obtain ⟨_, _, rfl, f11, g11⟩ := fits_cons g10
  obtain ⟨x11, rfl, o11⟩ := fits_int f11
  obtain ⟨_, _, rfl, f12, g12⟩ := fits_cons g11
  obtain ⟨x12, rfl, o12⟩ := fits_int f12
  obtain ⟨_, _, rfl, f13, g13⟩ := fits_cons g12
  obtain ⟨x13, rfl, o13⟩ := fits_int f13
  obtain ⟨_, _, rfl, f14, g14⟩ := fits_cons g13
  obtain ⟨x14, rfl, o14⟩ := fits_int f14
  obtain rfl := fits_nil g14
  exact ⟨((⟨x0, x1, x2, x3, x4, x5⟩ : Pol), (⟨x6, x7, x8, x9⟩ : Stt), (⟨x10, x11, x12⟩ : Ac), x13, x14), rfl, log_of o9⟩
theorem lifted (os : Os) (started : os.Started) (H : Type) (enc : TypeId × Value → H) :
    ReturnsInHanded {} Try.checked os 15 .any (Rows.bucketStatesSpec.pre6 enc Try.prog Try.f15 Rows.bucketStatesRow.domain false) (Rows.bucketStatesSpec.post enc Try.prog Try.f15 false true false false) := by
  refine returnsInHanded_of_change_sized (C := Try.checked) own started (by kernel_rfl) Try.func15
    (ChangeSpec.witness6 (enc := enc) (C := Try.checked) false ⟨#[], #[.agg #[.int .i64 0, .int .i64 0, .int .i64 0, .int .i64 0, .int .i64 0, .bool false], .agg #[.int .i64 0, .int .i64 0, .int .i64 0, .slice none 0 0], .agg #[.int .i64 0, .int .i64 0, .int .i64 0], .int .i64 0, .int .i64 0], []⟩ 8 (by kernel_rfl) (by kernel_rfl) (by kernel_rfl) (by kernel_rfl)) ?_
  intro W base args ds gs before hval hW _ _ _
  exact run_of (C := Try.checked) (s := Rows.bucketStatesSpec) (d := 8) (kss := [[.int .i64, .int .i64, .int .i64, .int .i64, .int .i64, .bool], [.int .i64, .int .i64, .int .i64, .slc [.int .i64, .int .i64]], [.int .i64, .int .i64, .int .i64], [.int .i64], [.int .i64]]) h15 rfl rfl rfl (by kernel_rfl) (by kernel_rfl) (fun r hr => inp r hr) (by kernel_rfl) (by kernel_rfl) (rt := 4) (by kernel_rfl) (by kernel_rfl) rfl (fun ds hd => by
    match ds, hd with
    | [d0, d1, d2, d3, d4], _ => rfl) W base args ds gs before hval hW
theorem over : Rows.bucketStatesRow.holds Try.pinned (OpenSpec.ofChange Rows.bucketStatesSpec) :=
  OpenClaim.holds_of_wide 15 Try.f15 rfl rfl rfl rfl rfl rfl rfl ⟨rfl, rfl, rfl, rfl, rfl⟩ rfl rfl rfl rfl rfl (by kernel_rfl) Try.func15 (by kernel_rfl)
    (of_decide_eq_true (by kernel_rfl)) (by unfold Func.isWrapper; first | (rw [if_pos (by decide +kernel)]; kernel_rfl) | (rw [if_neg (by decide +kernel)]; exact ⟨rfl, rfl⟩))
    (fun os started H enc _ => lifted os started H enc)
end bucketStates
/-- The row. -/
theorem bucketStates_holds : Rows.BucketStatesSaid := bucketStates.over
#print axioms bucketStates_holds
end Go.Proofs.Ytjmenmnjkfnhgaa
