/- Proved: a number below 0 has one byte more than it has with the other sign; ten times as much has one more: the law returns true for every input. No condition. -/
import Derived.Test.YtlcbhmkmadfabaaDoorVR2L5
import Derived.Test.YtlcbhmkmadfabaaDoorVR2R
set_option linter.unusedVariables false
set_option linter.unusedSimpArgs false
namespace Go.Proofs.YtlcbhmkmadfabaaDoor
open Go.ChangeShapes Go.WideShapes Go.ChangeAt Go.RowKit Go.Proofs.YtlcbhmkmadfabaaDoorV Go.Proofs.YtlcbhmkmadfabaaDoorK
namespace digitsCounts
theorem inp {q : Gh} (hq : pG q) (r : List Atom) (h : FitsAll [.int .u32, .int .u8] r) : ∃ x, (fun x : Int × Int × Gh => ([aK .u32 x.1, aK .u8 x.2.1, Rw.atom eF x.2.2.a, Rw.atom eF x.2.2.b] : List Atom)) x = r ++ [Rw.atom eF q.a, Rw.atom eF q.b] ∧ (fun x : Int × Int × Gh => (0 ≤ x.1 ∧ x.1 < 4294967296) ∧ (0 ≤ x.2.1 ∧ x.2.1 < 256) ∧ pG x.2.2) x ∧ mkVals sg5.ash (((fun x : Int × Int × Gh => ([aK .u32 x.1, aK .u8 x.2.1, Rw.atom eF x.2.2.a, Rw.atom eF x.2.2.b] : List Atom)) x).map (·.1)) = mkVals sg5.ash (r.map (·.1)) := by
  obtain ⟨_, _, rfl, f0, g0⟩ := fits_cons h
  obtain ⟨x0, rfl, o0⟩ := fits_int f0
  obtain ⟨_, _, rfl, f1, g1⟩ := fits_cons g0
  obtain ⟨x1, rfl, o1⟩ := fits_int f1
  obtain rfl := fits_nil g1
  exact ⟨(x0, x1, q), rfl, ⟨u32_of o0, u8_of o1, hq⟩, rfl⟩
theorem lifted (os : Os) (started : os.Started) (H : Type) (enc : TypeId × Value → H) :
    ReturnsInHanded {} Tryd.checked os 5 .any (fun w args => (Rows.digitsCountsSpec.pre enc Tryd.prog Tryd.f5 [] false w args ∧ laidMetH Tryd.prog Rows.digitsCountsRow.laid w) ∧ sizedMet enc Tryd.prog Tryd.f5 (OpenSpec.ofChange Rows.digitsCountsSpec) false w args)
      (Rows.digitsCountsSpec.post enc Tryd.prog Tryd.f5 false true false false) := by
  refine returnsInHanded_of_change_and (C := Tryd.checked) (X := fun w _ => laidMetH Tryd.prog Rows.digitsCountsRow.laid w) (fun _ _ _ hh h => h.of_heap hh) own started (by kernel_rfl) Tryd.func5
    (ChangeSpec.witness_shaped (enc := enc) (C := Tryd.checked) (os := os) (X := fun w _ => laidMetH Tryd.prog Rows.digitsCountsRow.laid w) false (World.doorLaid Tryd.prog 4000 os) #[.int .u32 0, .int .u8 0] 8 rfl (World.shaped_of_RefB (by kernel_rfl) (by kernel_rfl)) (by kernel_rfl) (by kernel_rfl) (by kernel_rfl) (door_met os _)) ?_
  intro W base args ds gs before hval hW _ _ hL _
  obtain ⟨q, hq, hg⟩ := two_laid hL
  exact run_ofG (C := Tryd.checked) (s := Rows.digitsCountsSpec) (d := 8) (kss := [[.int .u32], [.int .u8]]) h5 rfl rfl rfl (by kernel_rfl) (by kernel_rfl) hg (fun r hr => inp hq r hr) (by kernel_rfl) (by kernel_rfl) (rt := 4) (by kernel_rfl) (by kernel_rfl) rfl (fun ds hd => by
    match ds, hd with
    | [d0, d1], _ => rfl) base args ds gs before hval hW
theorem over : Rows.DigitsCountsSaid :=
  OpenClaim.holds_of_wide 5 Tryd.f5 rfl rfl rfl rfl rfl rfl rfl ⟨rfl, rfl, rfl, rfl, rfl⟩ rfl rfl rfl rfl rfl (by kernel_rfl) Tryd.func5 (by kernel_rfl)
    (of_decide_eq_true (by kernel_rfl)) (by unfold Func.isWrapper; first | (rw [if_pos (by decide +kernel)]; kernel_rfl) | (rw [if_neg (by decide +kernel)]; exact ⟨rfl, rfl⟩))
    (fun os started H enc _ => lifted os started H enc)
end digitsCounts
/-- The card. -/
theorem digitsCountsCard_holds : Rows.DigitsCountsCardSaid :=
  Claim7.holds_tied_plain_at .later [] [.data, .data, .data, .sentinel, .sentinel] true (true, "172f283ec3acd979c31ab4a2618f53148aed06690400a86f8cca937bc85bca54") true
    digitsCounts.over (fun _ h => by cases h) (by kernel_rfl) (fun _ h => by cases h) digitsCounts_row_tie rfl ⟨rfl, rfl⟩ (by kernel_rfl) rfl
    (fun f fn hf hfn => by
      obtain rfl : f = 5 := Option.some.inj ((show Tryd.prog.funcNamed Rows.digitsCountsRow.func = some 5 by kernel_rfl).symm.trans hf) |>.symm
      obtain rfl : fn = Tryd.f5 := (Option.some.inj (Tryd.func5.symm.trans hfn)).symm
      exact ⟨by kernel_rfl, fun j t ht => by
        rw [Tryd.params5] at ht
        have hm : t ∈ [29, 5] := by simpa using Array.mem_of_getElem? ht
        have hall : ([29, 5].all fun u => !Tryd.prog.wantsStandIn u) = true := by kernel_rfl
        exact (show Tryd.prog.wantsStandIn t = false by simpa using List.all_eq_true.1 hall t hm)⟩)
    (by kernel_rfl)
#print axioms digitsCountsCard_holds
end Go.Proofs.YtlcbhmkmadfabaaDoor
