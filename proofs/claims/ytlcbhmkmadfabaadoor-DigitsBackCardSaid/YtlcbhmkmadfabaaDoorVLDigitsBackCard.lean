/- Proved: a number is read from its digits; with a nought ahead, or anything behind, it is none; in bounds it is told just if it is in them: the law returns true for every input. No condition. -/
import Derived.Test.YtlcbhmkmadfabaaDoorVR2L7
import Derived.Test.YtlcbhmkmadfabaaDoorVR2R
set_option linter.unusedVariables false
set_option linter.unusedSimpArgs false
namespace Go.Proofs.YtlcbhmkmadfabaaDoor
open Go.ChangeShapes Go.WideShapes Go.ChangeAt Go.RowKit Go.Proofs.YtlcbhmkmadfabaaDoorV Go.Proofs.YtlcbhmkmadfabaaDoorK
namespace digitsBack
theorem inp {q : Gh} (hq : pG q) (r : List Atom) (h : FitsAll [.int .i64, .int .u8, .int .i64, .int .i64] r) : ∃ x, (fun x : Int × Int × Int × Int × Gh => ([aI x.1, aK .u8 x.2.1, aI x.2.2.1, aI x.2.2.2.1, Rw.atom eF x.2.2.2.2.a, Rw.atom eF x.2.2.2.2.b] : List Atom)) x = r ++ [Rw.atom eF q.a, Rw.atom eF q.b] ∧ (fun x : Int × Int × Int × Int × Gh => in64 x.1 ∧ (0 ≤ x.2.1 ∧ x.2.1 < 256) ∧ pG x.2.2.2.2) x ∧ mkVals sg7.ash (((fun x : Int × Int × Int × Int × Gh => ([aI x.1, aK .u8 x.2.1, aI x.2.2.1, aI x.2.2.2.1, Rw.atom eF x.2.2.2.2.a, Rw.atom eF x.2.2.2.2.b] : List Atom)) x).map (·.1)) = mkVals sg7.ash (r.map (·.1)) := by
  obtain ⟨_, _, rfl, f0, g0⟩ := fits_cons h
  obtain ⟨x0, rfl, o0⟩ := fits_int f0
  obtain ⟨_, _, rfl, f1, g1⟩ := fits_cons g0
  obtain ⟨x1, rfl, o1⟩ := fits_int f1
  obtain ⟨_, _, rfl, f2, g2⟩ := fits_cons g1
  obtain ⟨x2, rfl, o2⟩ := fits_int f2
  obtain ⟨_, _, rfl, f3, g3⟩ := fits_cons g2
  obtain ⟨x3, rfl, o3⟩ := fits_int f3
  obtain rfl := fits_nil g3
  exact ⟨(x0, x1, x2, x3, q), rfl, ⟨o0, u8_of o1, hq⟩, rfl⟩
theorem lifted (os : Os) (started : os.Started) (H : Type) (enc : TypeId × Value → H) :
    ReturnsInHanded {} Tryd.checked os 7 .any (fun w args => (Rows.digitsBackSpec.pre enc Tryd.prog Tryd.f7 [] false w args ∧ laidMetH Tryd.prog Rows.digitsBackRow.laid w) ∧ sizedMet enc Tryd.prog Tryd.f7 (OpenSpec.ofChange Rows.digitsBackSpec) false w args)
      (Rows.digitsBackSpec.post enc Tryd.prog Tryd.f7 false true false false) := by
  refine returnsInHanded_of_change_and (C := Tryd.checked) (X := fun w _ => laidMetH Tryd.prog Rows.digitsBackRow.laid w) (fun _ _ _ hh h => h.of_heap hh) own started (by kernel_rfl) Tryd.func7
    (ChangeSpec.witness_shaped (enc := enc) (C := Tryd.checked) (os := os) (X := fun w _ => laidMetH Tryd.prog Rows.digitsBackRow.laid w) false (World.doorLaid Tryd.prog 4000 os) #[.int .i64 0, .int .u8 0, .int .i64 0, .int .i64 0] 8 rfl (World.shaped_of_RefB (by kernel_rfl) (by kernel_rfl)) (by kernel_rfl) (by kernel_rfl) (by kernel_rfl) (door_met os _)) ?_
  intro W base args ds gs before hval hW _ _ hL _
  obtain ⟨q, hq, hg⟩ := two_laid hL
  exact run_ofG (C := Tryd.checked) (s := Rows.digitsBackSpec) (d := 8) (kss := [[.int .i64], [.int .u8], [.int .i64], [.int .i64]]) h7 rfl rfl rfl (by kernel_rfl) (by kernel_rfl) hg (fun r hr => inp hq r hr) (by kernel_rfl) (by kernel_rfl) (rt := 4) (by kernel_rfl) (by kernel_rfl) rfl (fun ds hd => by
    match ds, hd with
    | [d0, d1, d2, d3], _ => rfl) base args ds gs before hval hW
theorem over : Rows.DigitsBackSaid :=
  OpenClaim.holds_of_wide 7 Tryd.f7 rfl rfl rfl rfl rfl rfl rfl ⟨rfl, rfl, rfl, rfl, rfl⟩ rfl rfl rfl rfl rfl (by kernel_rfl) Tryd.func7 (by kernel_rfl)
    (of_decide_eq_true (by kernel_rfl)) (by unfold Func.isWrapper; first | (rw [if_pos (by decide +kernel)]; kernel_rfl) | (rw [if_neg (by decide +kernel)]; exact ⟨rfl, rfl⟩))
    (fun os started H enc _ => lifted os started H enc)
end digitsBack
/-- The card. -/
theorem digitsBackCard_holds : Rows.DigitsBackCardSaid :=
  Claim7.holds_tied_plain_at .later [] [.data, .data, .data, .sentinel, .sentinel] true (true, "172f283ec3acd979c31ab4a2618f53148aed06690400a86f8cca937bc85bca54") true
    digitsBack.over (fun _ h => by cases h) (by kernel_rfl) (fun _ h => by cases h) digitsBack_row_tie rfl ⟨rfl, rfl⟩ (by kernel_rfl) rfl
    (fun f fn hf hfn => by
      obtain rfl : f = 7 := Option.some.inj ((show Tryd.prog.funcNamed Rows.digitsBackRow.func = some 7 by kernel_rfl).symm.trans hf) |>.symm
      obtain rfl : fn = Tryd.f7 := (Option.some.inj (Tryd.func7.symm.trans hfn)).symm
      exact ⟨by kernel_rfl, fun j t ht => by
        rw [Tryd.params7] at ht
        have hm : t ∈ [3, 5, 3, 3] := by simpa using Array.mem_of_getElem? ht
        have hall : ([3, 5, 3, 3].all fun u => !Tryd.prog.wantsStandIn u) = true := by kernel_rfl
        exact (show Tryd.prog.wantsStandIn t = false by simpa using List.all_eq_true.1 hall t hm)⟩)
    (by kernel_rfl)
#print axioms digitsBackCard_holds
end Go.Proofs.YtlcbhmkmadfabaaDoor
