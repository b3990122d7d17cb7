/- Proved: Of bytes that are not wrong no begin is wrong; of bytes that are, with whatever behind them, all are: the law returns true for every input. No condition. -/
import Derived.Test.YtamjocnlhhhijaaVRRR
import Derived.Test.YtamjocnlhhhijaaVRR5
import Derived.Test.YtamjocnlhhhijaaRows
import Derived.WalkKit
import Derived.ProofKit
import Derived.OpenShut
import Derived.ShutString
import Derived.ChangeOld
import Derived.Below
import Derived.SizedLaws
set_option linter.unusedVariables false
set_option linter.unusedSimpArgs false
namespace Go.Proofs.Ytamjocnlhhhijaa
open Go.ChangeShapes Go.WideShapes Go.ChangeAt Go.RowKit Go.Proofs.YtamjocnlhhhijaaV Go.Proofs.YtamjocnlhhhijaaK Go.Proofs.YtamjocnlhhhijaaK Go.Proofs.YtamjocnlhhhijaaS Go.Proofs.YtamjocnlhhhijaaK
namespace respBegins
theorem own : ownKnob Try.prog.godebug = none := by kernel_rfl
theorem inp (r : List Atom) (h : FitsAll [.slc [.int .u8], .slc [.int .u8], .int .u16] r) : ∃ x, r = (fun x : Rw Int × Rw Int × Int => ([Rw.atom eB x.1, Rw.atom eB x.2.1, aK .u16 x.2.2] : List Atom)) x ∧ (fun x => (x.1.ok 1 ∧ isB x.1.l) ∧ (x.2.1.ok 1 ∧ isB x.2.1.l) ∧ 0 ≤ x.2.2 ∧ x.2.2 < 65536) x := by
  obtain ⟨_, _, rfl, f0, g0⟩ := fits_cons h
  obtain ⟨x0, rfl, o0⟩ := bytes_in f0
  obtain ⟨_, _, rfl, f1, g1⟩ := fits_cons g0
  obtain ⟨x1, rfl, o1⟩ := bytes_in f1
  obtain ⟨_, _, rfl, f2, g2⟩ := fits_cons g1
  obtain ⟨x2, rfl, o2⟩ := fits_int f2
  obtain rfl := fits_nil g2
  exact ⟨(x0, x1, x2), rfl, ⟨o0, o1, u16_of o2⟩⟩
theorem lifted (os : Os) (started : os.Started) (H : Type) (enc : TypeId × Value → H) :
    ReturnsInHanded {} Try.checked os 5 .any (Rows.respBeginsSpec.pre6 enc Try.prog Try.f5 Rows.respBeginsRow.domain false) (Rows.respBeginsSpec.post enc Try.prog Try.f5 false true false false) := by
  refine returnsInHanded_of_change_sized (C := Try.checked) own started (by kernel_rfl) Try.func5
    (ChangeSpec.witness6 (enc := enc) (C := Try.checked) false ⟨#[], #[.slice none 0 0, .slice none 0 0, .int .u16 0], []⟩ 8 (by kernel_rfl) (by kernel_rfl) (by kernel_rfl) (by kernel_rfl)) ?_
  intro W base args ds gs before hval hW _ _ _
  exact run_of (C := Try.checked) (s := Rows.respBeginsSpec) (d := 8) (kss := [[.slc [.int .u8]], [.slc [.int .u8]], [.int .u16]]) h5 rfl rfl rfl (by kernel_rfl) (by kernel_rfl) (fun r hr => inp r hr) (by kernel_rfl) (by kernel_rfl) (rt := 4) (by kernel_rfl) (by kernel_rfl) rfl (fun ds hd => by
    match ds, hd with
    | [d0, d1, d2], _ => rfl) W base args ds gs before hval hW
theorem over : Rows.respBeginsRow.holds Try.pinned (OpenSpec.ofChange Rows.respBeginsSpec) :=
  OpenClaim.holds_of_wide 5 Try.f5 rfl rfl rfl rfl rfl rfl rfl ⟨rfl, rfl, rfl, rfl, rfl⟩ rfl rfl rfl rfl rfl (by kernel_rfl) Try.func5 (by kernel_rfl)
    (of_decide_eq_true (by kernel_rfl)) (by unfold Func.isWrapper; first | (rw [if_pos (by decide +kernel)]; kernel_rfl) | (rw [if_neg (by decide +kernel)]; exact ⟨rfl, rfl⟩))
    (fun os started H enc _ => lifted os started H enc)
end respBegins
/-- The row. -/
theorem respBegins_holds : Rows.RespBeginsSaid := respBegins.over
#print axioms respBegins_holds
end Go.Proofs.Ytamjocnlhhhijaa
