/- Proved: any bytes are the reply that the chapter says, so long, or none, and why; so are all that they have: the law returns true for every input. No condition. -/
import Derived.Test.YtbcbjgomnhajdaaDoorVRDR
import Derived.Test.YtbcbjgomnhajdaaDoorVRDL5
set_option linter.unusedVariables false
set_option linter.unusedSimpArgs false
namespace Go.Proofs.YtbcbjgomnhajdaaDoor
open Go.ChangeShapes Go.WideShapes Go.ChangeAt Go.RowKit Go.Proofs.YtbcbjgomnhajdaaDoorV Go.Proofs.YtbcbjgomnhajdaaDoorK Go.Proofs.YtbcbjgomnhajdaaDoorK Go.Proofs.YtbcbjgomnhajdaaDoorK
namespace replyDecodes
theorem inp {q : Gh} (hq : pG q) (r : List Atom) (h : FitsAll [.slc [.int .u8]] r) : ∃ x, (fun x : Rw Int × Gh => ([Rw.atom eB x.1, Rw.atom eF x.2.a, Rw.atom eF x.2.b] : List Atom)) x = r ++ [Rw.atom eF q.a, Rw.atom eF q.b] ∧ (fun x : Rw Int × Gh => (x.1.ok 1 ∧ isB x.1.l) ∧ pG x.2) x ∧ mkVals sg5.ash (((fun x : Rw Int × Gh => ([Rw.atom eB x.1, Rw.atom eF x.2.a, Rw.atom eF x.2.b] : List Atom)) x).map (·.1)) = mkVals sg5.ash (r.map (·.1)) := by
  obtain ⟨_, _, rfl, f0, g0⟩ := fits_cons h
  obtain ⟨x0, rfl, k0, b0⟩ := bytes_in f0
  obtain rfl := fits_nil g0
  exact ⟨(x0, q), rfl, ⟨⟨k0, b0⟩, hq⟩, rfl⟩
theorem reads (os : Os) {H : Type} (enc : TypeId × Value → H) : ∃ places, DataW.whole enc Tryd.prog ((World.doorLaid Tryd.prog 4000 os).forCall (fun _ _ => 0) ⟨#[], #[.slice none 0 0], []⟩).memory Tryd.f5.params.toList Rows.replyDecodesSpec.vars false (#[.slice none 0 0] : Array Value).toList 8 = some ([.nil], [], places) :=
  ⟨[], by kernel_rfl⟩
set_option maxRecDepth 100000 in
theorem lifted (os : Os) (started : os.Started) (H : Type) (enc : TypeId × Value → H) (F : Stop.Interp) :
    ReturnsInHanded {} Tryd.checked os 5 .any ((OpenSpec.ofChange Rows.replyDecodesSpec).preRow enc Tryd.prog Tryd.f5 Rows.replyDecodesRow.domain false Rows.replyDecodesRow.laid) (((OpenSpec.ofChange Rows.replyDecodesSpec).at F).post enc Tryd.prog Tryd.f5 false true false false) := by
  obtain ⟨places, hx⟩ := reads os enc
  refine returnsInHanded_of_row (C := Tryd.checked) (s := (OpenSpec.ofChange Rows.replyDecodesSpec)) own started (by kernel_rfl) Tryd.func5
    (witness_row_atRef (enc := enc) (C := Tryd.checked) false (World.doorLaid Tryd.prog 4000 os) #[.slice none 0 0] rfl (by kernel_rfl) (by kernel_rfl) (by kernel_rfl)
      (OpenSpec.preRow_of_cond 8 hx (by kernel_rfl) (fun k hk => by cases hk) (by kernel_rfl) (door_met os _))) ?_
  intro W base args ds gs before hval hW _ hk _ hL _ _
  obtain ⟨q, hq, hg⟩ := two_laid hL
  exact run_ofG (C := Tryd.checked) (s := Rows.replyDecodesSpec) (d := 8) (kss := [[.slc [.int .u8]]]) h5 rfl rfl rfl (by kernel_rfl) (by kernel_rfl) hg (fun r hr => inp hq r hr) (by kernel_rfl) (by kernel_rfl) (rt := 4) (by kernel_rfl) (by kernel_rfl) rfl (fun ds hd => by
    match ds, hd with
    | [d0], _ => rfl) base args ds gs before hval hW
theorem over : Rows.ReplyDecodesSaid :=
  OpenClaim.holds_of_cond 5 Tryd.f5 rfl rfl rfl rfl rfl rfl rfl ⟨rfl, rfl, rfl, rfl, rfl⟩ rfl rfl rfl rfl rfl (by kernel_rfl) Tryd.func5 (by kernel_rfl)
    (of_decide_eq_true (by kernel_rfl)) (by unfold Func.isWrapper; first | (rw [if_pos (by decide +kernel)]; kernel_rfl) | (rw [if_neg (by decide +kernel)]; exact ⟨rfl, rfl⟩))
    (fun os started H enc _ F => by rw [OpenClaim.pre_eq_preRow]; exact lifted os started H enc F)
end replyDecodes
/-- The card. -/
theorem replyDecodesCard_holds : Rows.ReplyDecodesCardSaid :=
  Claim7.holds_tied_plain_at .later [] [.data, .data, .data, .sentinel, .sentinel] true (true, "01086c836f446222f180b5fe3708aa61bbf7275e64ae696099772e49cd26963b") true
    replyDecodes.over (fun _ h => by cases h) (by kernel_rfl) (fun _ h => by cases h) replyDecodes_row_tie rfl ⟨rfl, rfl⟩ (by kernel_rfl) rfl
    (fun f fn hf hfn => by
      obtain rfl : f = 5 := Option.some.inj ((show Tryd.prog.funcNamed Rows.replyDecodesRow.func = some 5 by kernel_rfl).symm.trans hf) |>.symm
      obtain rfl : fn = Tryd.f5 := (Option.some.inj (Tryd.func5.symm.trans hfn)).symm
      exact ⟨by kernel_rfl, fun j t ht => by
        rw [Tryd.params5] at ht
        have hm : t ∈ [22] := by simpa using Array.mem_of_getElem? ht
        have hall : ([22].all fun u => !Tryd.prog.wantsStandIn u) = true := by kernel_rfl
        exact (show Tryd.prog.wantsStandIn t = false by simpa using List.all_eq_true.1 hall t hm)⟩)
    (by kernel_rfl)
#print axioms replyDecodesCard_holds
end Go.Proofs.YtbcbjgomnhajdaaDoor
