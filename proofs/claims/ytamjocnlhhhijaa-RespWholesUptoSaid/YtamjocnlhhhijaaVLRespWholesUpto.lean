/- Proved: Of any bytes the commands that they begin with, how many bytes these take, and whether they are wrong, is what the chapter says; so are any arguments' bytes, and whether they may be: the law returns true for every input that holds at most 1048576 values and letters. Condition: that bound alone. -/
import Derived.Test.YtamjocnlhhhijaaVRRU
import Derived.Test.YtamjocnlhhhijaaVRR7
import Derived.Test.YtamjocnlhhhijaaRows
import Derived.WalkKit
import Derived.ProofKit
import Derived.OpenShut
import Derived.JoinedCond
set_option linter.unusedVariables false
set_option linter.unusedSimpArgs false
namespace Go.Proofs.Ytamjocnlhhhijaa
open Go.ChangeShapes Go.WideShapes Go.ChangeAt Go.RowKit Go.Proofs.YtamjocnlhhhijaaV Go.Proofs.YtamjocnlhhhijaaK Go.Proofs.YtamjocnlhhhijaaK Go.Proofs.YtamjocnlhhhijaaS Go.Proofs.YtamjocnlhhhijaaK
namespace respWholes
theorem own : ownKnob Try.prog.godebug = none := by kernel_rfl
/-- The rows' count of what is held. -/
def held (H : Type) : Bulk H where
  β := Rows.uptoBulk
  βA := Rows.uptoBulkAll
  nil := by simp [Rows.uptoBulkAll]
  cons d r := by simp [Rows.uptoBulkAll]
  lit l := by cases l <;> simp [Rows.uptoBulk]
  str b := by simp [Rows.uptoBulk]
  nl := by simp [Rows.uptoBulk]
  slc e s := by simp only [Rows.uptoBulk]; omega
  agg p := by simp only [Rows.uptoBulk]; omega
set_option maxRecDepth 100000 in
theorem lifted (os : Os) (started : os.Started) (H : Type) (enc : TypeId × Value → H) (F : Stop.Interp) :
    ReturnsInHanded {} Try.checked os 7 .any ((Rows.OpenSpec.upto Rows.respWholesSpec).pre6 enc Try.prog Try.f7 Rows.respWholesUptoRow.domain false) (((Rows.OpenSpec.upto Rows.respWholesSpec).at F).post enc Try.prog Try.f7 false true false false) := by
  refine returnsInHanded_of_cond (C := Try.checked) (s := Rows.OpenSpec.upto Rows.respWholesSpec) (k := Rows.uptoSmall) rfl own started (by kernel_rfl) Try.func7
    (OpenSpec.witness (enc := enc) (C := Try.checked) (s := Rows.OpenSpec.upto Rows.respWholesSpec) (k := Rows.uptoSmall) rfl false ⟨#[], #[.slice none 0 0, .slice none 0 0], []⟩ 8 (by kernel_rfl) (by kernel_rfl) (by kernel_rfl)
      (x := ([.nil, .nil], [], [])) (by kernel_rfl) rfl (by kernel_rfl)) ?_
  intro W base args ds gs before hval hW _ hk _
  have hb : Rows.uptoBulkAll (ds ++ gs) ≤ 1048576 := of_decide_eq_true hk
  exact run_ofB (C := Try.checked) (s := Rows.respWholesSpec) (d := 8) (kss := [[.slc [.int .u8]], [.slc [.str]]]) h7 rfl rfl rfl (by kernel_rfl) (by kernel_rfl) (held H) (M := 1048576) (fun r n hr hb hn => in7 r n hr hb hn) (by kernel_rfl) (by kernel_rfl) (rt := 4) (by kernel_rfl) (by kernel_rfl) rfl (fun ds hd => by
    match ds, hd with
    | [d0, d1], _ => rfl) W base args ds gs before hval hW hb
theorem over : Rows.respWholesUptoRow.holds Try.pinned (Rows.OpenSpec.upto Rows.respWholesSpec) :=
  OpenClaim.holds_of_cond 7 Try.f7 rfl rfl rfl rfl rfl rfl rfl ⟨rfl, rfl, rfl, rfl, rfl⟩ rfl rfl rfl rfl rfl (by kernel_rfl) Try.func7 (by kernel_rfl)
    (of_decide_eq_true (by kernel_rfl)) (by unfold Func.isWrapper; first | (rw [if_pos (by decide +kernel)]; kernel_rfl) | (rw [if_neg (by decide +kernel)]; exact ⟨rfl, rfl⟩))
    (fun os started H enc _ F => lifted os started H enc F)
end respWholes
/-- The row. -/
theorem respWholesUpto_holds : Rows.RespWholesUptoSaid := respWholes.over
#print axioms respWholesUpto_holds
end Go.Proofs.Ytamjocnlhhhijaa
