/- Proved: Of a reader that is fed any pieces, one behind the other, the commands that come, whether it is wrong, and how many bytes are left, is what the chapter says: the law returns true for every input that holds at most 1048576 values and letters. Condition: that bound alone. -/
import Derived.Test.YtamjocnlhhhijaaVRR4u
import Derived.Test.YtamjocnlhhhijaaVRR4
import Derived.Test.YtamjocnlhhhijaaRows
import Derived.WalkKit
import Derived.ProofKit
import Derived.OpenShut
import Derived.JoinedCond
set_option linter.unusedVariables false
set_option linter.unusedSimpArgs false
namespace Go.Proofs.Ytamjocnlhhhijaa
open Go.ChangeShapes Go.WideShapes Go.ChangeAt Go.RowKit Go.Proofs.YtamjocnlhhhijaaV Go.Proofs.YtamjocnlhhhijaaK Go.Proofs.YtamjocnlhhhijaaK Go.Proofs.YtamjocnlhhhijaaS Go.Proofs.YtamjocnlhhhijaaK
namespace respFeeds
theorem own : ownKnob Try.prog.godebug = none := by kernel_rfl
/-- The rows' count of what is held. -/
def held (H : Type) : Bulk H where
  β := Rows.uptoBulk
  βA := Rows.uptoBulkAll
  nil := by simp [Rows.uptoBulkAll]
  cons d r := by simp [Rows.uptoBulkAll]
  lit l := by cases l <;> simp [Rows.uptoBulk]
  str b := by simp [Rows.uptoBulk]
  nl := by simp [Rows.uptoBulk]
  slc e s := by simp only [Rows.uptoBulk]; omega
  agg p := by simp only [Rows.uptoBulk]; omega
set_option maxRecDepth 100000 in
theorem lifted (os : Os) (started : os.Started) (H : Type) (enc : TypeId × Value → H) (F : Stop.Interp) :
    ReturnsInHanded {} Try.checked os 4 .any ((Rows.OpenSpec.upto Rows.respFeedsSpec).pre6 enc Try.prog Try.f4 Rows.respFeedsUptoRow.domain false) (((Rows.OpenSpec.upto Rows.respFeedsSpec).at F).post enc Try.prog Try.f4 false true false false) := by
  refine returnsInHanded_of_cond (C := Try.checked) (s := Rows.OpenSpec.upto Rows.respFeedsSpec) (k := Rows.uptoSmall) rfl own started (by kernel_rfl) Try.func4
    (OpenSpec.witness (enc := enc) (C := Try.checked) (s := Rows.OpenSpec.upto Rows.respFeedsSpec) (k := Rows.uptoSmall) rfl false ⟨#[], #[.slice none 0 0], []⟩ 8 (by kernel_rfl) (by kernel_rfl) (by kernel_rfl)
      (x := ([.nil], [], [])) (by kernel_rfl) rfl (by kernel_rfl)) ?_
  intro W base args ds gs before hval hW _ hk _
  have hb : Rows.uptoBulkAll (ds ++ gs) ≤ 1048576 := of_decide_eq_true hk
  exact run_ofB (C := Try.checked) (s := Rows.respFeedsSpec) (d := 8) (kss := [[.slc [.slc [.int .u8]]]]) h4 rfl rfl rfl (by kernel_rfl) (by kernel_rfl) (held H) (M := 1048576) (fun r n hr hb hn => in4 r n hr hb hn) (by kernel_rfl) (by kernel_rfl) (rt := 4) (by kernel_rfl) (by kernel_rfl) rfl (fun ds hd => by
    match ds, hd with
    | [d0], _ => rfl) W base args ds gs before hval hW hb
theorem over : Rows.respFeedsUptoRow.holds Try.pinned (Rows.OpenSpec.upto Rows.respFeedsSpec) :=
  OpenClaim.holds_of_cond 4 Try.f4 rfl rfl rfl rfl rfl rfl rfl ⟨rfl, rfl, rfl, rfl, rfl⟩ rfl rfl rfl rfl rfl (by kernel_rfl) Try.func4 (by kernel_rfl)
    (of_decide_eq_true (by kernel_rfl)) (by unfold Func.isWrapper; first | (rw [if_pos (by decide +kernel)]; kernel_rfl) | (rw [if_neg (by decide +kernel)]; exact ⟨rfl, rfl⟩))
    (fun os started H enc _ F => lifted os started H enc F)
end respFeeds
/-- The row. -/
theorem respFeedsUpto_holds : Rows.RespFeedsUptoSaid := respFeeds.over
#print axioms respFeedsUpto_holds
end Go.Proofs.Ytamjocnlhhhijaa
