/- Proved: within wider bounds all is read that is within narrower ones, alike; within none nothing is: the law returns true for every input. No condition. -/
import Derived.Test.YtlcbhmkmadfabaaDoorVR2L8
import Derived.Test.YtlcbhmkmadfabaaDoorVR2R
set_option linter.unusedVariables false
set_option linter.unusedSimpArgs false
namespace Go.Proofs.YtlcbhmkmadfabaaDoor
open Go.ChangeShapes Go.WideShapes Go.ChangeAt Go.RowKit Go.Proofs.YtlcbhmkmadfabaaDoorV Go.Proofs.YtlcbhmkmadfabaaDoorK
namespace digitsBounds
theorem inp {q : Gh} (hq : pG q) (r : List Atom) (h : FitsAll [.str, .int .i64, .int .i64, .int .u16, .int .u16] r) : ∃ x, (fun x : ByteArray × Int × Int × Int × Int × Gh => ([aS x.1, aI x.2.1, aI x.2.2.1, aK .u16 x.2.2.2.1, aK .u16 x.2.2.2.2.1, Rw.atom eF x.2.2.2.2.2.a, Rw.atom eF x.2.2.2.2.2.b] : List Atom)) x = r ++ [Rw.atom eF q.a, Rw.atom eF q.b] ∧ (fun x : ByteArray × Int × Int × Int × Int × Gh => (in64 x.2.1 ∧ in64 x.2.2.1) ∧ ((0 ≤ x.2.2.2.1 ∧ x.2.2.2.1 < 65536) ∧ (0 ≤ x.2.2.2.2.1 ∧ x.2.2.2.2.1 < 65536)) ∧ pG x.2.2.2.2.2) x ∧ mkVals sg8.ash (((fun x : ByteArray × Int × Int × Int × Int × Gh => ([aS x.1, aI x.2.1, aI x.2.2.1, aK .u16 x.2.2.2.1, aK .u16 x.2.2.2.2.1, Rw.atom eF x.2.2.2.2.2.a, Rw.atom eF x.2.2.2.2.2.b] : List Atom)) x).map (·.1)) = mkVals sg8.ash (r.map (·.1)) := by
  obtain ⟨_, _, rfl, f0, g0⟩ := fits_cons h
  obtain ⟨x0, rfl, o0⟩ := fits_str f0
  obtain ⟨_, _, rfl, f1, g1⟩ := fits_cons g0
  obtain ⟨x1, rfl, o1⟩ := fits_int f1
  obtain ⟨_, _, rfl, f2, g2⟩ := fits_cons g1
  obtain ⟨x2, rfl, o2⟩ := fits_int f2
  obtain ⟨_, _, rfl, f3, g3⟩ := fits_cons g2
  obtain ⟨x3, rfl, o3⟩ := fits_int f3
  obtain ⟨_, _, rfl, f4, g4⟩ := fits_cons g3
  obtain ⟨x4, rfl, o4⟩ := fits_int f4
  obtain rfl := fits_nil g4
  exact ⟨(x0, x1, x2, x3, x4, q), rfl, ⟨⟨o1, o2⟩, ⟨u16_of o3, u16_of o4⟩, hq⟩, rfl⟩
theorem lifted (os : Os) (started : os.Started) (H : Type) (enc : TypeId × Value → H) :
    ReturnsInHanded {} Tryd.checked os 8 .any (fun w args => (Rows.digitsBoundsSpec.pre enc Tryd.prog Tryd.f8 [] false w args ∧ laidMetH Tryd.prog Rows.digitsBoundsRow.laid w) ∧ sizedMet enc Tryd.prog Tryd.f8 (OpenSpec.ofChange Rows.digitsBoundsSpec) false w args)
      (Rows.digitsBoundsSpec.post enc Tryd.prog Tryd.f8 false true false false) := by
  refine returnsInHanded_of_change_and (C := Tryd.checked) (X := fun w _ => laidMetH Tryd.prog Rows.digitsBoundsRow.laid w) (fun _ _ _ hh h => h.of_heap hh) own started (by kernel_rfl) Tryd.func8
    (ChangeSpec.witness_shaped (enc := enc) (C := Tryd.checked) (os := os) (X := fun w _ => laidMetH Tryd.prog Rows.digitsBoundsRow.laid w) false (World.doorLaid Tryd.prog 4000 os) #[.string ByteArray.empty, .int .i64 0, .int .i64 0, .int .u16 0, .int .u16 0] 8 rfl (World.shaped_of_RefB (by kernel_rfl) (by kernel_rfl)) (by kernel_rfl) (by kernel_rfl) (by kernel_rfl) (door_met os _)) ?_
  intro W base args ds gs before hval hW _ _ hL _
  obtain ⟨q, hq, hg⟩ := two_laid hL
  exact run_ofG (C := Tryd.checked) (s := Rows.digitsBoundsSpec) (d := 8) (kss := [[.str], [.int .i64], [.int .i64], [.int .u16], [.int .u16]]) h8 rfl rfl rfl (by kernel_rfl) (by kernel_rfl) hg (fun r hr => inp hq r hr) (by kernel_rfl) (by kernel_rfl) (rt := 4) (by kernel_rfl) (by kernel_rfl) rfl (fun ds hd => by
    match ds, hd with
    | [d0, d1, d2, d3, d4], _ => rfl) base args ds gs before hval hW
theorem over : Rows.DigitsBoundsSaid :=
  OpenClaim.holds_of_wide 8 Tryd.f8 rfl rfl rfl rfl rfl rfl rfl ⟨rfl, rfl, rfl, rfl, rfl⟩ rfl rfl rfl rfl rfl (by kernel_rfl) Tryd.func8 (by kernel_rfl)
    (of_decide_eq_true (by kernel_rfl)) (by unfold Func.isWrapper; first | (rw [if_pos (by decide +kernel)]; kernel_rfl) | (rw [if_neg (by decide +kernel)]; exact ⟨rfl, rfl⟩))
    (fun os started H enc _ => lifted os started H enc)
end digitsBounds
/-- The card. -/
theorem digitsBoundsCard_holds : Rows.DigitsBoundsCardSaid :=
  Claim7.holds_tied_plain_at .later [] [.data, .data, .data, .sentinel, .sentinel] true (true, "172f283ec3acd979c31ab4a2618f53148aed06690400a86f8cca937bc85bca54") true
    digitsBounds.over (fun _ h => by cases h) (by kernel_rfl) (fun _ h => by cases h) digitsBounds_row_tie rfl ⟨rfl, rfl⟩ (by kernel_rfl) rfl
    (fun f fn hf hfn => by
      obtain rfl : f = 8 := Option.some.inj ((show Tryd.prog.funcNamed Rows.digitsBoundsRow.func = some 8 by kernel_rfl).symm.trans hf) |>.symm
      obtain rfl : fn = Tryd.f8 := (Option.some.inj (Tryd.func8.symm.trans hfn)).symm
      exact ⟨by kernel_rfl, fun j t ht => by
        rw [Tryd.params8] at ht
        have hm : t ∈ [9, 3, 3, 35, 35] := by simpa using Array.mem_of_getElem? ht
        have hall : ([9, 3, 3, 35, 35].all fun u => !Tryd.prog.wantsStandIn u) = true := by kernel_rfl
        exact (show Tryd.prog.wantsStandIn t = false by simpa using List.all_eq_true.1 hall t hm)⟩)
    (by kernel_rfl)
#print axioms digitsBoundsCard_holds
end Go.Proofs.YtlcbhmkmadfabaaDoor
