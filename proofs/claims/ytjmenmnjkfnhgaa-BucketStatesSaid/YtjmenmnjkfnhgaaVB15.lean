import Derived.Test.YtjmenmnjkfnhgaaVB2
import Derived.Test.YtjmenmnjkfnhgaaVBT15
set_option linter.unusedSimpArgs false
set_option linter.unusedVariables false
namespace Go.Proofs.YtjmenmnjkfnhgaaK
open Go Go.Proofs.YtjmenmnjkfnhgaaV Go.Proofs
def kLaw15 (sg : Sig) : Sig × Con := (sg, mkFun (fun x : Pol × Stt × Ac × Int × Int => ([aI x.1.k, aI x.1.l, aI x.1.p, aI x.1.b, aI x.1.c, aB x.1.o, aI x.2.1.t, aI x.2.1.v, aI x.2.1.h, Sl.atom x.2.1.g, aI x.2.2.1.k, aI x.2.2.1.t, aI x.2.2.1.c, aI x.2.2.2.1, aI x.2.2.2.2] : List Atom)) (fun x => lgOk9 x.2.1.g) (fun _ => [aB true]))
set_option maxHeartbeats 4000000 in
theorem h15 : holds Try.prog (kLaw15 sg15) := by
  refine fn_holds (l := [kKnown sg28, kDoB sg31, kDoBR sg38, kToldB sg49, kSame sg21]) ⟨h28, h31, h38, h49, h21, trivial⟩ hP rs15 (inj_of (fun l : List Atom => (((⟨vi (l.getD 0 atom0).1, vi (l.getD 1 atom0).1, vi (l.getD 2 atom0).1, vi (l.getD 3 atom0).1, vi (l.getD 4 atom0).1, vb (l.getD 5 atom0).1⟩ : Pol), (⟨vi (l.getD 6 atom0).1, vi (l.getD 7 atom0).1, vi (l.getD 8 atom0).1, (⟨va (l.getD 9 atom0).1, vn (l.getD 9 atom0).1, vc (l.getD 9 atom0).1, (l.getD 9 atom0).2⟩ : Sl)⟩ : Stt), (⟨vi (l.getD 10 atom0).1, vi (l.getD 11 atom0).1, vi (l.getD 12 atom0).1⟩ : Ac), vi (l.getD 13 atom0).1, vi (l.getD 14 atom0).1) : Pol × Stt × Ac × Int × Int)) (fun _ => rfl)) Try.func15 (by kernel_rfl) (c := code Try.f15) (by kernel_rfl) (an := an15) (by kernel_rfl) (pk := pk15) rfl (t := t15) (by kernel_rfl) ?_
  rintro ⟨p, s, a, n, c⟩ ho
  refine ⟨by simp [pk15, KindsOk, encPS, encPSn, encPSnc, encPSA, encPn, encSS, encI, Pol.enc, Stt.enc, Ac.enc, Sl.atom, Sl.nil, Stt.zero, RK.ok], ?_⟩
  unfold t15
  have f0 : same s s = true := same_yes ⟨rfl, rfl, rfl⟩ (lgE_refl _)
  have f1 := did_cB p a (sim_of f0)
  have f2 := same_doB p a (sim_of f0)
  refine need_wp ?_ ?_
  · exact ⟨_, _, _, rfl⟩
  refine br_wp (fun c1 => ?_) (fun c1 => ?_)
  · refine call_fun (()) rfl (by simp only [vd1, vd2, vd3, vd4, vd5, vd6, vd7, reduceCtorEq, Option.some.injEq, vb_ite, vi_ite, List.getD_cons_zero, List.getD_cons_succ]) trivial ?_
    refine ret_wp ?_
    (first | rfl | (exfalso; (simp only [vd1, vd2, vd3, vd4, vd5, vd6, vd7, reduceCtorEq, Option.some.injEq, vb_ite, vi_ite, List.getD_cons_zero, List.getD_cons_succ] at *) <;> grind))
  · have ho2 : lgOk s.g := lgOk_of ho (by simp only [vd1, vd2, vd3, vd4, vd5, vd6, vd7, reduceCtorEq, Option.some.injEq, vb_ite, vi_ite, List.getD_cons_zero, List.getD_cons_succ] at c1; show s.g.n ≤ 150; grind)
    refine call_fun ((p, s, a)) rfl (by simp only [vd1, vd2, vd3, vd4, vd5, vd6, vd7, reduceCtorEq, Option.some.injEq, vb_ite, vi_ite, List.getD_cons_zero, List.getD_cons_succ]) trivial ?_
    refine call_fun ((p, s, a)) rfl (by simp only [vd1, vd2, vd3, vd4, vd5, vd6, vd7, reduceCtorEq, Option.some.injEq, vb_ite, vi_ite, List.getD_cons_zero, List.getD_cons_succ]) trivial ?_
    refine call_fun ((p, s, s, n, c)) rfl (by simp only [vd1, vd2, vd3, vd4, vd5, vd6, vd7, reduceCtorEq, Option.some.injEq, vb_ite, vi_ite, List.getD_cons_zero, List.getD_cons_succ]) ⟨ho2, ho2, f0⟩ ?_
    refine br_wp (fun c2 => ?_) (fun c2 => ?_)
    · refine call_fun (((doB p s a), (doBR p s a))) rfl (by simp only [vd1, vd2, vd3, vd4, vd5, vd6, vd7, reduceCtorEq, Option.some.injEq, vb_ite, vi_ite, List.getD_cons_zero, List.getD_cons_succ]) ⟨lgOk_nil (doBG_n a), lgOk_nil (doBL_n p s a)⟩ ?_
      refine br_wp (fun c3 => ?_) (fun c3 => ?_)
      · refine br_wp (fun c4 => ?_) (fun c4 => ?_)
        · refine call_fun (()) rfl (by simp only [vd1, vd2, vd3, vd4, vd5, vd6, vd7, reduceCtorEq, Option.some.injEq, vb_ite, vi_ite, List.getD_cons_zero, List.getD_cons_succ]) trivial ?_
          refine ret_wp ?_
          (first | rfl | (exfalso; (simp only [vd1, vd2, vd3, vd4, vd5, vd6, vd7, reduceCtorEq, Option.some.injEq, vb_ite, vi_ite, List.getD_cons_zero, List.getD_cons_succ] at *) <;> grind))
        · refine ret_wp ?_
          (first | rfl | (exfalso; (simp only [vd1, vd2, vd3, vd4, vd5, vd6, vd7, reduceCtorEq, Option.some.injEq, vb_ite, vi_ite, List.getD_cons_zero, List.getD_cons_succ] at *) <;> grind))
      · refine ret_wp ?_
        (first | rfl | (exfalso; (simp only [vd1, vd2, vd3, vd4, vd5, vd6, vd7, reduceCtorEq, Option.some.injEq, vb_ite, vi_ite, List.getD_cons_zero, List.getD_cons_succ] at *) <;> grind))
    · refine ret_wp ?_
      (first | rfl | (exfalso; (simp only [vd1, vd2, vd3, vd4, vd5, vd6, vd7, reduceCtorEq, Option.some.injEq, vb_ite, vi_ite, List.getD_cons_zero, List.getD_cons_succ] at *) <;> grind))
end Go.Proofs.YtjmenmnjkfnhgaaK
