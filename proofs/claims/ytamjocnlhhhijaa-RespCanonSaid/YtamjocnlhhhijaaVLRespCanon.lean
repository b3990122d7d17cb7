/- Proved: The commands that came, put together again, are what the bytes begin with; each may be: the law returns true for every input. No condition. -/
import Derived.Test.YtamjocnlhhhijaaVRRR
import Derived.Test.YtamjocnlhhhijaaVRR9
import Derived.Test.YtamjocnlhhhijaaRows
import Derived.WalkKit
import Derived.ProofKit
import Derived.OpenShut
import Derived.ShutString
import Derived.ChangeOld
import Derived.Below
import Derived.SizedLaws
set_option linter.unusedVariables false
set_option linter.unusedSimpArgs false
namespace Go.Proofs.Ytamjocnlhhhijaa
open Go.ChangeShapes Go.WideShapes Go.ChangeAt Go.RowKit Go.Proofs.YtamjocnlhhhijaaV Go.Proofs.YtamjocnlhhhijaaK Go.Proofs.YtamjocnlhhhijaaK Go.Proofs.YtamjocnlhhhijaaS Go.Proofs.YtamjocnlhhhijaaK
namespace respCanon
theorem own : ownKnob Try.prog.godebug = none := by kernel_rfl
theorem inp (r : List Atom) (h : FitsAll [.slc [.int .u8]] r) : ∃ x, r = (fun x : Rw Int => ([Rw.atom eB x] : List Atom)) x ∧ (fun x => x.ok 1 ∧ isB x.l) x := by
  obtain ⟨_, _, rfl, f0, g0⟩ := fits_cons h
  obtain ⟨x0, rfl, o0⟩ := bytes_in f0
  obtain rfl := fits_nil g0
  exact ⟨x0, rfl, o0⟩
theorem lifted (os : Os) (started : os.Started) (H : Type) (enc : TypeId × Value → H) :
    ReturnsInHanded {} Try.checked os 9 .any (Rows.respCanonSpec.pre6 enc Try.prog Try.f9 Rows.respCanonRow.domain false) (Rows.respCanonSpec.post enc Try.prog Try.f9 false true false false) := by
  refine returnsInHanded_of_change_sized (C := Try.checked) own started (by kernel_rfl) Try.func9
    (ChangeSpec.witness6 (enc := enc) (C := Try.checked) false ⟨#[], #[.slice none 0 0], []⟩ 8 (by kernel_rfl) (by kernel_rfl) (by kernel_rfl) (by kernel_rfl)) ?_
  intro W base args ds gs before hval hW _ _ _
  exact run_of (C := Try.checked) (s := Rows.respCanonSpec) (d := 8) (kss := [[.slc [.int .u8]]]) h9 rfl rfl rfl (by kernel_rfl) (by kernel_rfl) (fun r hr => inp r hr) (by kernel_rfl) (by kernel_rfl) (rt := 4) (by kernel_rfl) (by kernel_rfl) rfl (fun ds hd => by
    match ds, hd with
    | [d0], _ => rfl) W base args ds gs before hval hW
theorem over : Rows.respCanonRow.holds Try.pinned (OpenSpec.ofChange Rows.respCanonSpec) :=
  OpenClaim.holds_of_wide 9 Try.f9 rfl rfl rfl rfl rfl rfl rfl ⟨rfl, rfl, rfl, rfl, rfl⟩ rfl rfl rfl rfl rfl (by kernel_rfl) Try.func9 (by kernel_rfl)
    (of_decide_eq_true (by kernel_rfl)) (by unfold Func.isWrapper; first | (rw [if_pos (by decide +kernel)]; kernel_rfl) | (rw [if_neg (by decide +kernel)]; exact ⟨rfl, rfl⟩))
    (fun os started H enc _ => lifted os started H enc)
end respCanon
/-- The row. -/
theorem respCanon_holds : Rows.RespCanonSaid := respCanon.over
#print axioms respCanon_holds
end Go.Proofs.Ytamjocnlhhhijaa
