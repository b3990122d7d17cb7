import Derived.Test.YtlcbhmkmadfabaaDoorVR2C
set_option linter.unusedSimpArgs false
set_option linter.unusedVariables false
set_option linter.unnecessarySimpa false
namespace Go.Proofs.YtlcbhmkmadfabaaDoorK
open Go Go.Proofs.YtlcbhmkmadfabaaDoorV Go.Proofs
def kLaw4 (sg : Sig) : Sig × Con := (sg, mkFun (fun x : Int × Gh => ([aI x.1, Rw.atom eF x.2.a, Rw.atom eF x.2.b] : List Atom)) (fun x => in64 x.1 ∧ pG x.2) (fun _ => [aB true]))
set_option maxHeartbeats 1000000 in
theorem h4 : holds Tryd.prog (kLaw4 sg4) := by
  refine fn_holdsH (inl := []) (l := [kPrint sg11, kPrint sg12, kCount sg13, kKnown sg9]) ⟨h11, h12, h13, h9, trivial⟩ trivial hP gh4 rs4 (inj_of (fun l : List Atom => ((vi (l.getD 0 atom0).1, (⟨Rw.un unF (l.getD 1 atom0), Rw.un unF (l.getD 2 atom0)⟩ : Gh)) : Int × Gh)) (fun _ => by simp [List.getD_cons_zero, List.getD_cons_succ, unA_atom, unF_at])) Tryd.func4 (by kernel_rfl) (c := code Tryd.f4) (by kernel_rfl) (an := an4) (by kernel_rfl) (pk := pk4g) rfl (t := t4) (by kernel_rfl) ?_
  rintro ⟨n, q⟩ hnil ⟨hn, hq⟩
  refine ⟨by simp [pk4g, pk4, KindsOk, RK.ok, Rw.atom, Sl.atom], ?_⟩
  unfold t4
  dsimp only at hn hq
  refine call_fun (n) rfl (by simp only [vd1, vd2, vd3, vd4, vd5, vd6, vd7, reduceCtorEq, Option.some.injEq, vn_rw, va_rw, isNone_f, isNone_t, vi_cell_I, vi_cell_E0, vi_cell_E1, vi_cell_A0, vi_cell_A1, vi_cell_A2, vb_ite, vi_ite, updD, seq_b, byD_rw, ofBytes_one]) hn ?_
  refine call_fun (n) rfl (by simp only [vd1, vd2, vd3, vd4, vd5, vd6, vd7, reduceCtorEq, Option.some.injEq, vn_rw, va_rw, isNone_f, isNone_t, vi_cell_I, vi_cell_E0, vi_cell_E1, vi_cell_A0, vi_cell_A1, vi_cell_A2, vb_ite, vi_ite, updD, seq_b, byD_rw, ofBytes_one]) hn ?_
  refine br_wp (fun c1 => ?_) (fun c1 => ?_)
  · replace c1 : (prt n) = (prt n) := by first | simpa only [vd1, vd2, vd3, vd4, vd5, vd6, vd7, reduceCtorEq, Option.some.injEq, vn_rw, va_rw, isNone_f, isNone_t, vi_cell_I, vi_cell_E0, vi_cell_E1, vi_cell_A0, vi_cell_A1, vi_cell_A2, vb_ite, vi_ite, updD, seq_b, byD_rw, ofBytes_one] using c1 | (simp only [vd1, vd2, vd3, vd4, vd5, vd6, vd7, reduceCtorEq, Option.some.injEq, vn_rw, va_rw, isNone_f, isNone_t, vi_cell_I, vi_cell_E0, vi_cell_E1, vi_cell_A0, vi_cell_A1, vi_cell_A2, vb_ite, vi_ite, updD, seq_b, byD_rw, ofBytes_one] at c1; grind)
    refine call_fun (n) rfl (by simp only [vd1, vd2, vd3, vd4, vd5, vd6, vd7, reduceCtorEq, Option.some.injEq, vn_rw, va_rw, isNone_f, isNone_t, vi_cell_I, vi_cell_E0, vi_cell_E1, vi_cell_A0, vi_cell_A1, vi_cell_A2, vb_ite, vi_ite, updD, seq_b, byD_rw, ofBytes_one]) hn ?_
    refine call_fun (n) rfl (by simp only [vd1, vd2, vd3, vd4, vd5, vd6, vd7, reduceCtorEq, Option.some.injEq, vn_rw, va_rw, isNone_f, isNone_t, vi_cell_I, vi_cell_E0, vi_cell_E1, vi_cell_A0, vi_cell_A1, vi_cell_A2, vb_ite, vi_ite, updD, seq_b, byD_rw, ofBytes_one]) hn ?_
    refine br_wp (fun c2 => ?_) (fun c2 => ?_)
    · replace c2 : ((prt n).size : Int) = ((prt n).size : Int) := by first | simpa only [vd1, vd2, vd3, vd4, vd5, vd6, vd7, reduceCtorEq, Option.some.injEq, vn_rw, va_rw, isNone_f, isNone_t, vi_cell_I, vi_cell_E0, vi_cell_E1, vi_cell_A0, vi_cell_A1, vi_cell_A2, vb_ite, vi_ite, updD, seq_b, byD_rw, ofBytes_one] using c2 | (simp only [vd1, vd2, vd3, vd4, vd5, vd6, vd7, reduceCtorEq, Option.some.injEq, vn_rw, va_rw, isNone_f, isNone_t, vi_cell_I, vi_cell_E0, vi_cell_E1, vi_cell_A0, vi_cell_A1, vi_cell_A2, vb_ite, vi_ite, updD, seq_b, byD_rw, ofBytes_one] at c2; grind)
      refine call_fun (q) rfl (by simp only [vd1, vd2, vd3, vd4, vd5, vd6, vd7, reduceCtorEq, Option.some.injEq, vn_rw, va_rw, isNone_f, isNone_t, vi_cell_I, vi_cell_E0, vi_cell_E1, vi_cell_A0, vi_cell_A1, vi_cell_A2, vb_ite, vi_ite, updD, seq_b, byD_rw, ofBytes_one]) hq ?_
      refine ret_wp ?_
      try dsimp only
      rfl
    · replace c2 : ¬(((prt n).size : Int) = ((prt n).size : Int)) := by first | simpa only [vd1, vd2, vd3, vd4, vd5, vd6, vd7, reduceCtorEq, Option.some.injEq, vn_rw, va_rw, isNone_f, isNone_t, vi_cell_I, vi_cell_E0, vi_cell_E1, vi_cell_A0, vi_cell_A1, vi_cell_A2, vb_ite, vi_ite, updD, seq_b, byD_rw, ofBytes_one] using c2 | (simp only [vd1, vd2, vd3, vd4, vd5, vd6, vd7, reduceCtorEq, Option.some.injEq, vn_rw, va_rw, isNone_f, isNone_t, vi_cell_I, vi_cell_E0, vi_cell_E1, vi_cell_A0, vi_cell_A1, vi_cell_A2, vb_ite, vi_ite, updD, seq_b, byD_rw, ofBytes_one] at c2; grind)
      exfalso; exact c2 rfl
  · replace c1 : ¬((prt n) = (prt n)) := by first | simpa only [vd1, vd2, vd3, vd4, vd5, vd6, vd7, reduceCtorEq, Option.some.injEq, vn_rw, va_rw, isNone_f, isNone_t, vi_cell_I, vi_cell_E0, vi_cell_E1, vi_cell_A0, vi_cell_A1, vi_cell_A2, vb_ite, vi_ite, updD, seq_b, byD_rw, ofBytes_one] using c1 | (simp only [vd1, vd2, vd3, vd4, vd5, vd6, vd7, reduceCtorEq, Option.some.injEq, vn_rw, va_rw, isNone_f, isNone_t, vi_cell_I, vi_cell_E0, vi_cell_E1, vi_cell_A0, vi_cell_A1, vi_cell_A2, vb_ite, vi_ite, updD, seq_b, byD_rw, ofBytes_one] at c1; grind)
    exfalso; exact c1 rfl
end Go.Proofs.YtlcbhmkmadfabaaDoorK
