/- Proved: any number's digits, and how many bytes they have, are what the chapter says: the law returns true for every input. No condition. -/
import Derived.Test.YtlcbhmkmadfabaaDoorVR2L4
import Derived.Test.YtlcbhmkmadfabaaDoorVR2R
set_option linter.unusedVariables false
set_option linter.unusedSimpArgs false
namespace Go.Proofs.YtlcbhmkmadfabaaDoor
open Go.ChangeShapes Go.WideShapes Go.ChangeAt Go.RowKit Go.Proofs.YtlcbhmkmadfabaaDoorV Go.Proofs.YtlcbhmkmadfabaaDoorK
namespace digitsPrints
theorem inp {q : Gh} (hq : pG q) (r : List Atom) (h : FitsAll [.int .i64] r) : ∃ x, (fun x : Int × Gh => ([aI x.1, Rw.atom eF x.2.a, Rw.atom eF x.2.b] : List Atom)) x = r ++ [Rw.atom eF q.a, Rw.atom eF q.b] ∧ (fun x : Int × Gh => in64 x.1 ∧ pG x.2) x ∧ mkVals sg4.ash (((fun x : Int × Gh => ([aI x.1, Rw.atom eF x.2.a, Rw.atom eF x.2.b] : List Atom)) x).map (·.1)) = mkVals sg4.ash (r.map (·.1)) := by
  obtain ⟨_, _, rfl, f0, g0⟩ := fits_cons h
  obtain ⟨x0, rfl, o0⟩ := fits_int f0
  obtain rfl := fits_nil g0
  exact ⟨(x0, q), rfl, ⟨o0, hq⟩, rfl⟩
theorem lifted (os : Os) (started : os.Started) (H : Type) (enc : TypeId × Value → H) :
    ReturnsInHanded {} Tryd.checked os 4 .any (fun w args => (Rows.digitsPrintsSpec.pre enc Tryd.prog Tryd.f4 [] false w args ∧ laidMetH Tryd.prog Rows.digitsPrintsRow.laid w) ∧ sizedMet enc Tryd.prog Tryd.f4 (OpenSpec.ofChange Rows.digitsPrintsSpec) false w args)
      (Rows.digitsPrintsSpec.post enc Tryd.prog Tryd.f4 false true false false) := by
  refine returnsInHanded_of_change_and (C := Tryd.checked) (X := fun w _ => laidMetH Tryd.prog Rows.digitsPrintsRow.laid w) (fun _ _ _ hh h => h.of_heap hh) own started (by kernel_rfl) Tryd.func4
    (ChangeSpec.witness_shaped (enc := enc) (C := Tryd.checked) (os := os) (X := fun w _ => laidMetH Tryd.prog Rows.digitsPrintsRow.laid w) false (World.doorLaid Tryd.prog 4000 os) #[.int .i64 0] 8 rfl (World.shaped_of_RefB (by kernel_rfl) (by kernel_rfl)) (by kernel_rfl) (by kernel_rfl) (by kernel_rfl) (door_met os _)) ?_
  intro W base args ds gs before hval hW _ _ hL _
  obtain ⟨q, hq, hg⟩ := two_laid hL
  exact run_ofG (C := Tryd.checked) (s := Rows.digitsPrintsSpec) (d := 8) (kss := [[.int .i64]]) h4 rfl rfl rfl (by kernel_rfl) (by kernel_rfl) hg (fun r hr => inp hq r hr) (by kernel_rfl) (by kernel_rfl) (rt := 4) (by kernel_rfl) (by kernel_rfl) rfl (fun ds hd => by
    match ds, hd with
    | [d0], _ => rfl) base args ds gs before hval hW
theorem over : Rows.DigitsPrintsSaid :=
  OpenClaim.holds_of_wide 4 Tryd.f4 rfl rfl rfl rfl rfl rfl rfl ⟨rfl, rfl, rfl, rfl, rfl⟩ rfl rfl rfl rfl rfl (by kernel_rfl) Tryd.func4 (by kernel_rfl)
    (of_decide_eq_true (by kernel_rfl)) (by unfold Func.isWrapper; first | (rw [if_pos (by decide +kernel)]; kernel_rfl) | (rw [if_neg (by decide +kernel)]; exact ⟨rfl, rfl⟩))
    (fun os started H enc _ => lifted os started H enc)
end digitsPrints
/-- The card. -/
theorem digitsPrintsCard_holds : Rows.DigitsPrintsCardSaid :=
  Claim7.holds_tied_plain_at .later [] [.data, .data, .data, .sentinel, .sentinel] true (true, "172f283ec3acd979c31ab4a2618f53148aed06690400a86f8cca937bc85bca54") true
    digitsPrints.over (fun _ h => by cases h) (by kernel_rfl) (fun _ h => by cases h) digitsPrints_row_tie rfl ⟨rfl, rfl⟩ (by kernel_rfl) rfl
    (fun f fn hf hfn => by
      obtain rfl : f = 4 := Option.some.inj ((show Tryd.prog.funcNamed Rows.digitsPrintsRow.func = some 4 by kernel_rfl).symm.trans hf) |>.symm
      obtain rfl : fn = Tryd.f4 := (Option.some.inj (Tryd.func4.symm.trans hfn)).symm
      exact ⟨by kernel_rfl, fun j t ht => by
        rw [Tryd.params4] at ht
        have hm : t ∈ [3] := by simpa using Array.mem_of_getElem? ht
        have hall : ([3].all fun u => !Tryd.prog.wantsStandIn u) = true := by kernel_rfl
        exact (show Tryd.prog.wantsStandIn t = false by simpa using List.all_eq_true.1 hall t hm)⟩)
    (by kernel_rfl)
#print axioms digitsPrintsCard_holds
end Go.Proofs.YtlcbhmkmadfabaaDoor
