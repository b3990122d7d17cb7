/- Proved: Any replies' bytes, what of each its kind has, and whether that is all, is what the chapter says: the law returns true for every input that holds at most 1048576 values and letters. Condition: that bound alone. -/
import Derived.Test.YtbcbjgomnhajdaaVRPR
import Derived.Test.YtbcbjgomnhajdaaVRPC3
import Derived.Test.YtbcbjgomnhajdaaRows
import Derived.WalkKit
import Derived.ProofKit
import Derived.OpenShut
import Derived.JoinedCond
set_option linter.unusedVariables false
set_option linter.unusedSimpArgs false
namespace Go.Proofs.Ytbcbjgomnhajdaa
open Go.ChangeShapes Go.WideShapes Go.ChangeAt Go.RowKit Go.Proofs.YtbcbjgomnhajdaaV Go.Proofs.YtbcbjgomnhajdaaK
namespace replyEncodes
theorem own : ownKnob Try.prog.godebug = none := by kernel_rfl
/-- The rows' count of what is held. -/
def held (H : Type) : Bulk H where
  β := Rows.uptoBulk
  βA := Rows.uptoBulkAll
  nil := by simp [Rows.uptoBulkAll]
  cons d r := by simp [Rows.uptoBulkAll]
  lit l := by cases l <;> simp [Rows.uptoBulk]
  str b := by simp [Rows.uptoBulk]
  nl := by simp [Rows.uptoBulk]
  slc e s := by simp only [Rows.uptoBulk]; omega
  agg p := by simp only [Rows.uptoBulk]; omega
set_option maxRecDepth 100000 in
theorem lifted (os : Os) (started : os.Started) (H : Type) (enc : TypeId × Value → H) (F : Stop.Interp) :
    ReturnsInHanded {} Try.checked os 3 .any ((Rows.OpenSpec.upto Rows.replyEncodesSpec).pre6 enc Try.prog Try.f3 Rows.replyEncodesUptoRow.domain false) (((Rows.OpenSpec.upto Rows.replyEncodesSpec).at F).post enc Try.prog Try.f3 false true false false) := by
  refine returnsInHanded_of_cond (C := Try.checked) (s := Rows.OpenSpec.upto Rows.replyEncodesSpec) (k := Rows.uptoSmall) rfl own started (by kernel_rfl) Try.func3
    (OpenSpec.witness (enc := enc) (C := Try.checked) (s := Rows.OpenSpec.upto Rows.replyEncodesSpec) (k := Rows.uptoSmall) rfl false ⟨#[], #[.slice none 0 0, .agg #[.int .i64 0, .string ByteArray.empty, .int .i64 0, .slice none 0 0], .agg #[.int .i64 0, .string ByteArray.empty, .int .i64 0, .slice none 0 0]], []⟩ 8 (by kernel_rfl) (by kernel_rfl) (by kernel_rfl)
      (x := ([.nil, .agg [.lit (.int .i64 0), .lit (.string []), .lit (.int .i64 0), .nil], .agg [.lit (.int .i64 0), .lit (.string []), .lit (.int .i64 0), .nil]], [], [])) (by kernel_rfl) rfl (by kernel_rfl)) ?_
  intro W base args ds gs before hval hW _ hk _
  have hb : Rows.uptoBulkAll (ds ++ gs) ≤ 1048576 := of_decide_eq_true hk
  exact run_ofB (C := Try.checked) (s := Rows.replyEncodesSpec) (d := 8) (kss := [[.slc [.int .i64, .str, .int .i64, .slc [.str]]], [.int .i64, .str, .int .i64, .slc [.str]], [.int .i64, .str, .int .i64, .slc [.str]]]) h3 rfl rfl rfl (by kernel_rfl) (by kernel_rfl) (held H) (M := 1048576) (fun r n hr hb hn => inA r n hr hb hn) (by kernel_rfl) (by kernel_rfl) (rt := 4) (by kernel_rfl) (by kernel_rfl) rfl (fun ds hd => by
    match ds, hd with
    | [d1, d2, d3], _ => rfl) W base args ds gs before hval hW hb
theorem over : Rows.replyEncodesUptoRow.holds Try.pinned (Rows.OpenSpec.upto Rows.replyEncodesSpec) :=
  OpenClaim.holds_of_cond 3 Try.f3 rfl rfl rfl rfl rfl rfl rfl ⟨rfl, rfl, rfl, rfl, rfl⟩ rfl rfl rfl rfl rfl (by kernel_rfl) Try.func3 (by kernel_rfl)
    (of_decide_eq_true (by kernel_rfl)) (by unfold Func.isWrapper; first | (rw [if_pos (by decide +kernel)]; kernel_rfl) | (rw [if_neg (by decide +kernel)]; exact ⟨rfl, rfl⟩))
    (fun os started H enc _ F => lifted os started H enc F)
end replyEncodes
/-- The row. -/
theorem replyEncodesUpto_holds : Rows.ReplyEncodesUptoSaid := replyEncodes.over
#print axioms replyEncodesUpto_holds
end Go.Proofs.Ytbcbjgomnhajdaa
