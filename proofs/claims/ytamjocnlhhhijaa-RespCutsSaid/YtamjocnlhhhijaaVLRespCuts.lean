/- Proved: However bytes are cut, the same commands come, and it is wrong, or not, alike: the law returns true for every input. No condition. -/
import Derived.Test.YtamjocnlhhhijaaVRRR
import Derived.Test.YtamjocnlhhhijaaVRR6
import Derived.Test.YtamjocnlhhhijaaRows
import Derived.WalkKit
import Derived.ProofKit
import Derived.OpenShut
import Derived.ShutString
import Derived.ChangeOld
import Derived.Below
import Derived.SizedLaws
set_option linter.unusedVariables false
set_option linter.unusedSimpArgs false
namespace Go.Proofs.Ytamjocnlhhhijaa
open Go.ChangeShapes Go.WideShapes Go.ChangeAt Go.RowKit Go.Proofs.YtamjocnlhhhijaaV Go.Proofs.YtamjocnlhhhijaaK Go.Proofs.YtamjocnlhhhijaaK Go.Proofs.YtamjocnlhhhijaaS Go.Proofs.YtamjocnlhhhijaaK
namespace respCuts
theorem own : ownKnob Try.prog.godebug = none := by kernel_rfl
theorem inp (r : List Atom) (h : FitsAll [.slc [.int .u8], .slc [.int .u8]] r) : ∃ x, r = (fun x : Rw Int × Rw Int => ([Rw.atom eB x.1, Rw.atom eB x.2] : List Atom)) x ∧ (fun x => (x.1.ok 1 ∧ isB x.1.l) ∧ x.2.ok 1 ∧ isB x.2.l) x := by
  obtain ⟨_, _, rfl, f0, g0⟩ := fits_cons h
  obtain ⟨x0, rfl, o0⟩ := bytes_in f0
  obtain ⟨_, _, rfl, f1, g1⟩ := fits_cons g0
  obtain ⟨x1, rfl, o1⟩ := bytes_in f1
  obtain rfl := fits_nil g1
  exact ⟨(x0, x1), rfl, ⟨o0, o1⟩⟩
theorem lifted (os : Os) (started : os.Started) (H : Type) (enc : TypeId × Value → H) :
    ReturnsInHanded {} Try.checked os 6 .any (Rows.respCutsSpec.pre6 enc Try.prog Try.f6 Rows.respCutsRow.domain false) (Rows.respCutsSpec.post enc Try.prog Try.f6 false true false false) := by
  refine returnsInHanded_of_change_sized (C := Try.checked) own started (by kernel_rfl) Try.func6
    (ChangeSpec.witness6 (enc := enc) (C := Try.checked) false ⟨#[], #[.slice none 0 0, .slice none 0 0], []⟩ 8 (by kernel_rfl) (by kernel_rfl) (by kernel_rfl) (by kernel_rfl)) ?_
  intro W base args ds gs before hval hW _ _ _
  exact run_of (C := Try.checked) (s := Rows.respCutsSpec) (d := 8) (kss := [[.slc [.int .u8]], [.slc [.int .u8]]]) h6 rfl rfl rfl (by kernel_rfl) (by kernel_rfl) (fun r hr => inp r hr) (by kernel_rfl) (by kernel_rfl) (rt := 4) (by kernel_rfl) (by kernel_rfl) rfl (fun ds hd => by
    match ds, hd with
    | [d0, d1], _ => rfl) W base args ds gs before hval hW
theorem over : Rows.respCutsRow.holds Try.pinned (OpenSpec.ofChange Rows.respCutsSpec) :=
  OpenClaim.holds_of_wide 6 Try.f6 rfl rfl rfl rfl rfl rfl rfl ⟨rfl, rfl, rfl, rfl, rfl⟩ rfl rfl rfl rfl rfl (by kernel_rfl) Try.func6 (by kernel_rfl)
    (of_decide_eq_true (by kernel_rfl)) (by unfold Func.isWrapper; first | (rw [if_pos (by decide +kernel)]; kernel_rfl) | (rw [if_neg (by decide +kernel)]; exact ⟨rfl, rfl⟩))
    (fun os started H enc _ => lifted os started H enc)
end respCuts
/-- The row. -/
theorem respCuts_holds : Rows.RespCutsSaid := respCuts.over
#print axioms respCuts_holds
end Go.Proofs.Ytamjocnlhhhijaa
