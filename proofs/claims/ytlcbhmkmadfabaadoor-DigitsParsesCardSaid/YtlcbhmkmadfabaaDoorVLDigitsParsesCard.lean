/- Proved: any text is the number that the chapter says, in any bounds, or none: the law returns true for every input. No condition. -/
import Derived.Test.YtlcbhmkmadfabaaDoorVR2L6
import Derived.Test.YtlcbhmkmadfabaaDoorVR2R
set_option linter.unusedVariables false
set_option linter.unusedSimpArgs false
namespace Go.Proofs.YtlcbhmkmadfabaaDoor
open Go.ChangeShapes Go.WideShapes Go.ChangeAt Go.RowKit Go.Proofs.YtlcbhmkmadfabaaDoorV Go.Proofs.YtlcbhmkmadfabaaDoorK
namespace digitsParses
theorem inp {q : Gh} (hq : pG q) (r : List Atom) (h : FitsAll [.str, .int .i64, .int .i64] r) : ∃ x, (fun x : ByteArray × Int × Int × Gh => ([aS x.1, aI x.2.1, aI x.2.2.1, Rw.atom eF x.2.2.2.a, Rw.atom eF x.2.2.2.b] : List Atom)) x = r ++ [Rw.atom eF q.a, Rw.atom eF q.b] ∧ (fun x : ByteArray × Int × Int × Gh => pG x.2.2.2) x ∧ mkVals sg6.ash (((fun x : ByteArray × Int × Int × Gh => ([aS x.1, aI x.2.1, aI x.2.2.1, Rw.atom eF x.2.2.2.a, Rw.atom eF x.2.2.2.b] : List Atom)) x).map (·.1)) = mkVals sg6.ash (r.map (·.1)) := by
  obtain ⟨_, _, rfl, f0, g0⟩ := fits_cons h
  obtain ⟨x0, rfl, o0⟩ := fits_str f0
  obtain ⟨_, _, rfl, f1, g1⟩ := fits_cons g0
  obtain ⟨x1, rfl, o1⟩ := fits_int f1
  obtain ⟨_, _, rfl, f2, g2⟩ := fits_cons g1
  obtain ⟨x2, rfl, o2⟩ := fits_int f2
  obtain rfl := fits_nil g2
  exact ⟨(x0, x1, x2, q), rfl, hq, rfl⟩
theorem lifted (os : Os) (started : os.Started) (H : Type) (enc : TypeId × Value → H) :
    ReturnsInHanded {} Tryd.checked os 6 .any (fun w args => (Rows.digitsParsesSpec.pre enc Tryd.prog Tryd.f6 [] false w args ∧ laidMetH Tryd.prog Rows.digitsParsesRow.laid w) ∧ sizedMet enc Tryd.prog Tryd.f6 (OpenSpec.ofChange Rows.digitsParsesSpec) false w args)
      (Rows.digitsParsesSpec.post enc Tryd.prog Tryd.f6 false true false false) := by
  refine returnsInHanded_of_change_and (C := Tryd.checked) (X := fun w _ => laidMetH Tryd.prog Rows.digitsParsesRow.laid w) (fun _ _ _ hh h => h.of_heap hh) own started (by kernel_rfl) Tryd.func6
    (ChangeSpec.witness_shaped (enc := enc) (C := Tryd.checked) (os := os) (X := fun w _ => laidMetH Tryd.prog Rows.digitsParsesRow.laid w) false (World.doorLaid Tryd.prog 4000 os) #[.string ByteArray.empty, .int .i64 0, .int .i64 0] 8 rfl (World.shaped_of_RefB (by kernel_rfl) (by kernel_rfl)) (by kernel_rfl) (by kernel_rfl) (by kernel_rfl) (door_met os _)) ?_
  intro W base args ds gs before hval hW _ _ hL _
  obtain ⟨q, hq, hg⟩ := two_laid hL
  exact run_ofG (C := Tryd.checked) (s := Rows.digitsParsesSpec) (d := 8) (kss := [[.str], [.int .i64], [.int .i64]]) h6 rfl rfl rfl (by kernel_rfl) (by kernel_rfl) hg (fun r hr => inp hq r hr) (by kernel_rfl) (by kernel_rfl) (rt := 4) (by kernel_rfl) (by kernel_rfl) rfl (fun ds hd => by
    match ds, hd with
    | [d0, d1, d2], _ => rfl) base args ds gs before hval hW
theorem over : Rows.DigitsParsesSaid :=
  OpenClaim.holds_of_wide 6 Tryd.f6 rfl rfl rfl rfl rfl rfl rfl ⟨rfl, rfl, rfl, rfl, rfl⟩ rfl rfl rfl rfl rfl (by kernel_rfl) Tryd.func6 (by kernel_rfl)
    (of_decide_eq_true (by kernel_rfl)) (by unfold Func.isWrapper; first | (rw [if_pos (by decide +kernel)]; kernel_rfl) | (rw [if_neg (by decide +kernel)]; exact ⟨rfl, rfl⟩))
    (fun os started H enc _ => lifted os started H enc)
end digitsParses
/-- The card. -/
theorem digitsParsesCard_holds : Rows.DigitsParsesCardSaid :=
  Claim7.holds_tied_plain_at .later [] [.data, .data, .data, .sentinel, .sentinel] true (true, "172f283ec3acd979c31ab4a2618f53148aed06690400a86f8cca937bc85bca54") true
    digitsParses.over (fun _ h => by cases h) (by kernel_rfl) (fun _ h => by cases h) digitsParses_row_tie rfl ⟨rfl, rfl⟩ (by kernel_rfl) rfl
    (fun f fn hf hfn => by
      obtain rfl : f = 6 := Option.some.inj ((show Tryd.prog.funcNamed Rows.digitsParsesRow.func = some 6 by kernel_rfl).symm.trans hf) |>.symm
      obtain rfl : fn = Tryd.f6 := (Option.some.inj (Tryd.func6.symm.trans hfn)).symm
      exact ⟨by kernel_rfl, fun j t ht => by
        rw [Tryd.params6] at ht
        have hm : t ∈ [9, 3, 3] := by simpa using Array.mem_of_getElem? ht
        have hall : ([9, 3, 3].all fun u => !Tryd.prog.wantsStandIn u) = true := by kernel_rfl
        exact (show Tryd.prog.wantsStandIn t = false by simpa using List.all_eq_true.1 hall t hm)⟩)
    (by kernel_rfl)
#print axioms digitsParsesCard_holds
end Go.Proofs.YtlcbhmkmadfabaaDoor
