import Derived.Test.YtjmenmnjkfnhgaaVB8
import Derived.Test.YtjmenmnjkfnhgaaVG5t
import Derived.Test.YtjmenmnjkfnhgaaVR4x
import Derived.Test.YtjmenmnjkfnhgaaVR4d
import Derived.Test.YtjmenmnjkfnhgaaVBTc
set_option linter.unusedSimpArgs false
set_option linter.unusedVariables false
namespace Go.Proofs.YtjmenmnjkfnhgaaK
open Go Go.Proofs.YtjmenmnjkfnhgaaV Go.Proofs
def kSame (sg : Sig) : Sig × Con := (sg, mkFun encSS (fun x => lgOk x.1.g ∧ lgOk x.2.g) (fun x => [aB (same x.1 x.2)]))
set_option maxHeartbeats 4000000 in
theorem h21 : holds Try.prog (kSame sg21) := by
  refine fn_holds (l := []) trivial hP rs21 (inj_of (fun l : List Atom => (((⟨vi (l.getD 0 atom0).1, vi (l.getD 1 atom0).1, vi (l.getD 2 atom0).1, (⟨va (l.getD 3 atom0).1, vn (l.getD 3 atom0).1, vc (l.getD 3 atom0).1, (l.getD 3 atom0).2⟩ : Sl)⟩ : Stt), (⟨vi (l.getD 4 atom0).1, vi (l.getD 5 atom0).1, vi (l.getD 6 atom0).1, (⟨va (l.getD 7 atom0).1, vn (l.getD 7 atom0).1, vc (l.getD 7 atom0).1, (l.getD 7 atom0).2⟩ : Sl)⟩ : Stt)) : Stt × Stt)) (fun _ => rfl)) Try.func21 (by kernel_rfl) (c := code Try.f21) (by kernel_rfl) (an := an21) (by kernel_rfl) (pk := pk21) rfl (t := t21) (by kernel_rfl) ?_
  rintro ⟨s, t⟩ ⟨o1, o2⟩
  refine ⟨by simp [pk21, KindsOk, encPS, encPSn, encPSnc, encPSA, encPn, encSS, encI, Pol.enc, Stt.enc, Ac.enc, Sl.atom, Sl.nil, Stt.zero, RK.ok], ?_⟩
  unfold t21
  refine br_wp (fun c1 => ?_) (fun c1 => ?_)
  · refine ret_wp ?_
    first | (exact congrArg (fun b => [aB b]) (same_no i0 hi (by simp only [vd1, vd2, vd3, vd4, vd5, vd6, vd7, reduceCtorEq, Option.some.injEq, vb_ite, vi_ite, List.getD_cons_zero, List.getD_cons_succ] at c6 ⊢; grind)).symm) | (simp only [vd1, vd2, vd3, vd4, vd5, vd6, vd7, reduceCtorEq, Option.some.injEq, vb_ite, vi_ite, List.getD_cons_zero, List.getD_cons_succ] at c1 c2 c3 c5; exact congrArg (fun b => [aB b]) (same_yes ⟨c1, c2, c3⟩ (lgE_all i2 (fun j a b => i3 j a (by omega)))).symm) | ((simp only [vd1, vd2, vd3, vd4, vd5, vd6, vd7, reduceCtorEq, Option.some.injEq, vb_ite, vi_ite, List.getD_cons_zero, List.getD_cons_succ] at *) <;> grind [same_ne, same_nn])
  · refine br_wp (fun c2 => ?_) (fun c2 => ?_)
    · refine ret_wp ?_
      first | (exact congrArg (fun b => [aB b]) (same_no i0 hi (by simp only [vd1, vd2, vd3, vd4, vd5, vd6, vd7, reduceCtorEq, Option.some.injEq, vb_ite, vi_ite, List.getD_cons_zero, List.getD_cons_succ] at c6 ⊢; grind)).symm) | (simp only [vd1, vd2, vd3, vd4, vd5, vd6, vd7, reduceCtorEq, Option.some.injEq, vb_ite, vi_ite, List.getD_cons_zero, List.getD_cons_succ] at c1 c2 c3 c5; exact congrArg (fun b => [aB b]) (same_yes ⟨c1, c2, c3⟩ (lgE_all i2 (fun j a b => i3 j a (by omega)))).symm) | ((simp only [vd1, vd2, vd3, vd4, vd5, vd6, vd7, reduceCtorEq, Option.some.injEq, vb_ite, vi_ite, List.getD_cons_zero, List.getD_cons_succ] at *) <;> grind [same_ne, same_nn])
    · refine br_wp (fun c3 => ?_) (fun c3 => ?_)
      · refine ret_wp ?_
        first | (exact congrArg (fun b => [aB b]) (same_no i0 hi (by simp only [vd1, vd2, vd3, vd4, vd5, vd6, vd7, reduceCtorEq, Option.some.injEq, vb_ite, vi_ite, List.getD_cons_zero, List.getD_cons_succ] at c6 ⊢; grind)).symm) | (simp only [vd1, vd2, vd3, vd4, vd5, vd6, vd7, reduceCtorEq, Option.some.injEq, vb_ite, vi_ite, List.getD_cons_zero, List.getD_cons_succ] at c1 c2 c3 c5; exact congrArg (fun b => [aB b]) (same_yes ⟨c1, c2, c3⟩ (lgE_all i2 (fun j a b => i3 j a (by omega)))).symm) | ((simp only [vd1, vd2, vd3, vd4, vd5, vd6, vd7, reduceCtorEq, Option.some.injEq, vb_ite, vi_ite, List.getD_cons_zero, List.getD_cons_succ] at *) <;> grind [same_ne, same_nn])
      · refine need_wp ?_ ?_
        · first | exact ⟨_, _, _, rfl⟩ | exact ⟨_, _, r1⟩ | exact ⟨_, r1⟩ | exact ⟨_, _, r2⟩ | exact ⟨_, r2⟩ | exact a0 | exact a1 | exact b0 | exact b1 | (simp only [vd1, vd2, vd3, vd4, vd5, vd6, vd7, reduceCtorEq, Option.some.injEq, vb_ite, vi_ite, List.getD_cons_zero, List.getD_cons_succ] at *; grind)
        refine need_wp ?_ ?_
        · first | exact ⟨_, _, _, rfl⟩ | exact ⟨_, _, r1⟩ | exact ⟨_, r1⟩ | exact ⟨_, _, r2⟩ | exact ⟨_, r2⟩ | exact a0 | exact a1 | exact b0 | exact b1 | (simp only [vd1, vd2, vd3, vd4, vd5, vd6, vd7, reduceCtorEq, Option.some.injEq, vb_ite, vi_ite, List.getD_cons_zero, List.getD_cons_succ] at *; grind)
        refine br_wp (fun c4 => ?_) (fun c4 => ?_)
        · refine ret_wp ?_
          first | (exact congrArg (fun b => [aB b]) (same_no i0 hi (by simp only [vd1, vd2, vd3, vd4, vd5, vd6, vd7, reduceCtorEq, Option.some.injEq, vb_ite, vi_ite, List.getD_cons_zero, List.getD_cons_succ] at c6 ⊢; grind)).symm) | (simp only [vd1, vd2, vd3, vd4, vd5, vd6, vd7, reduceCtorEq, Option.some.injEq, vb_ite, vi_ite, List.getD_cons_zero, List.getD_cons_succ] at c1 c2 c3 c5; exact congrArg (fun b => [aB b]) (same_yes ⟨c1, c2, c3⟩ (lgE_all i2 (fun j a b => i3 j a (by omega)))).symm) | ((simp only [vd1, vd2, vd3, vd4, vd5, vd6, vd7, reduceCtorEq, Option.some.injEq, vb_ite, vi_ite, List.getD_cons_zero, List.getD_cons_succ] at *) <;> grind [same_ne, same_nn])
        · refine loop_wp (fun bs0 => ∃ (i : Int), bs0 = [aI i] ∧ (0 ≤ i ∧ i ≤ s.g.n ∧ s.g.n = t.g.n ∧ ∀ j : Int, 0 ≤ j → j < i → vi (cellD s.g.atom j 0).1 = vi (cellD t.g.atom j 0).1 ∧ vi (cellD s.g.atom j 1).1 = vi (cellD t.g.atom j 1).1)) (fun bs0 => (s.g.n - vi (bs0.getD 0 atom0).1).toNat) ?_ ?_
          · refine ⟨0, by simp only [vd1, vd2, vd3, vd4, vd5, vd6, vd7, reduceCtorEq, Option.some.injEq, vb_ite, vi_ite, List.getD_cons_zero, List.getD_cons_succ], ?_⟩
            simp only [vd1, vd2, vd3, vd4, vd5, vd6, vd7, reduceCtorEq, Option.some.injEq, vb_ite, vi_ite, List.getD_cons_zero, List.getD_cons_succ] at *; exact ⟨by omega, by omega, by omega, fun j _ _ => by omega⟩
          rintro _ _ ⟨i, rfl, ⟨i0, i1, i2, i3⟩⟩
          refine need_wp ?_ ?_
          · first | exact ⟨_, _, _, rfl⟩ | exact ⟨_, _, r1⟩ | exact ⟨_, r1⟩ | exact ⟨_, _, r2⟩ | exact ⟨_, r2⟩ | exact a0 | exact a1 | exact b0 | exact b1 | (simp only [vd1, vd2, vd3, vd4, vd5, vd6, vd7, reduceCtorEq, Option.some.injEq, vb_ite, vi_ite, List.getD_cons_zero, List.getD_cons_succ] at *; grind)
          refine br_wp (fun c5 => ?_) (fun c5 => ?_)
          · have hi : i < s.g.n := by simp only [vd1, vd2, vd3, vd4, vd5, vd6, vd7, reduceCtorEq, Option.some.injEq, vb_ite, vi_ite, List.getD_cons_zero, List.getD_cons_succ] at c5; grind
            obtain ⟨⟨m1, e1, r1⟩, k1⟩ := o1.resolve_left (fun h0 => by simp only at h0; omega)
            obtain ⟨⟨m2, e2, r2⟩, k2⟩ := o2.resolve_left (fun h0 => by simp only at h0; omega)
            obtain ⟨a0, a1⟩ := k1 i i0 hi
            obtain ⟨b0, b1⟩ := k2 i i0 (by simp only; omega)
            refine need_wp ?_ ?_
            · first | exact ⟨_, _, _, rfl⟩ | exact ⟨_, _, r1⟩ | exact ⟨_, r1⟩ | exact ⟨_, _, r2⟩ | exact ⟨_, r2⟩ | exact a0 | exact a1 | exact b0 | exact b1 | (simp only [vd1, vd2, vd3, vd4, vd5, vd6, vd7, reduceCtorEq, Option.some.injEq, vb_ite, vi_ite, List.getD_cons_zero, List.getD_cons_succ] at *; grind)
            refine need_wp ?_ ?_
            · first | exact ⟨_, _, _, rfl⟩ | exact ⟨_, _, r1⟩ | exact ⟨_, r1⟩ | exact ⟨_, _, r2⟩ | exact ⟨_, r2⟩ | exact a0 | exact a1 | exact b0 | exact b1 | (simp only [vd1, vd2, vd3, vd4, vd5, vd6, vd7, reduceCtorEq, Option.some.injEq, vb_ite, vi_ite, List.getD_cons_zero, List.getD_cons_succ] at *; grind)
            refine need_wp ?_ ?_
            · first | exact ⟨_, _, _, rfl⟩ | exact ⟨_, _, r1⟩ | exact ⟨_, r1⟩ | exact ⟨_, _, r2⟩ | exact ⟨_, r2⟩ | exact a0 | exact a1 | exact b0 | exact b1 | (simp only [vd1, vd2, vd3, vd4, vd5, vd6, vd7, reduceCtorEq, Option.some.injEq, vb_ite, vi_ite, List.getD_cons_zero, List.getD_cons_succ] at *; grind)
            refine need_wp ?_ ?_
            · first | exact ⟨_, _, _, rfl⟩ | exact ⟨_, _, r1⟩ | exact ⟨_, r1⟩ | exact ⟨_, _, r2⟩ | exact ⟨_, r2⟩ | exact a0 | exact a1 | exact b0 | exact b1 | (simp only [vd1, vd2, vd3, vd4, vd5, vd6, vd7, reduceCtorEq, Option.some.injEq, vb_ite, vi_ite, List.getD_cons_zero, List.getD_cons_succ] at *; grind)
            refine need_wp ?_ ?_
            · first | exact ⟨_, _, _, rfl⟩ | exact ⟨_, _, r1⟩ | exact ⟨_, r1⟩ | exact ⟨_, _, r2⟩ | exact ⟨_, r2⟩ | exact a0 | exact a1 | exact b0 | exact b1 | (simp only [vd1, vd2, vd3, vd4, vd5, vd6, vd7, reduceCtorEq, Option.some.injEq, vb_ite, vi_ite, List.getD_cons_zero, List.getD_cons_succ] at *; grind)
            refine need_wp ?_ ?_
            · first | exact ⟨_, _, _, rfl⟩ | exact ⟨_, _, r1⟩ | exact ⟨_, r1⟩ | exact ⟨_, _, r2⟩ | exact ⟨_, r2⟩ | exact a0 | exact a1 | exact b0 | exact b1 | (simp only [vd1, vd2, vd3, vd4, vd5, vd6, vd7, reduceCtorEq, Option.some.injEq, vb_ite, vi_ite, List.getD_cons_zero, List.getD_cons_succ] at *; grind)
            refine need_wp ?_ ?_
            · first | exact ⟨_, _, _, rfl⟩ | exact ⟨_, _, r1⟩ | exact ⟨_, r1⟩ | exact ⟨_, _, r2⟩ | exact ⟨_, r2⟩ | exact a0 | exact a1 | exact b0 | exact b1 | (simp only [vd1, vd2, vd3, vd4, vd5, vd6, vd7, reduceCtorEq, Option.some.injEq, vb_ite, vi_ite, List.getD_cons_zero, List.getD_cons_succ] at *; grind)
            refine need_wp ?_ ?_
            · first | exact ⟨_, _, _, rfl⟩ | exact ⟨_, _, r1⟩ | exact ⟨_, r1⟩ | exact ⟨_, _, r2⟩ | exact ⟨_, r2⟩ | exact a0 | exact a1 | exact b0 | exact b1 | (simp only [vd1, vd2, vd3, vd4, vd5, vd6, vd7, reduceCtorEq, Option.some.injEq, vb_ite, vi_ite, List.getD_cons_zero, List.getD_cons_succ] at *; grind)
            refine need_wp ?_ ?_
            · first | exact ⟨_, _, _, rfl⟩ | exact ⟨_, _, r1⟩ | exact ⟨_, r1⟩ | exact ⟨_, _, r2⟩ | exact ⟨_, r2⟩ | exact a0 | exact a1 | exact b0 | exact b1 | (simp only [vd1, vd2, vd3, vd4, vd5, vd6, vd7, reduceCtorEq, Option.some.injEq, vb_ite, vi_ite, List.getD_cons_zero, List.getD_cons_succ] at *; grind)
            refine need_wp ?_ ?_
            · first | exact ⟨_, _, _, rfl⟩ | exact ⟨_, _, r1⟩ | exact ⟨_, r1⟩ | exact ⟨_, _, r2⟩ | exact ⟨_, r2⟩ | exact a0 | exact a1 | exact b0 | exact b1 | (simp only [vd1, vd2, vd3, vd4, vd5, vd6, vd7, reduceCtorEq, Option.some.injEq, vb_ite, vi_ite, List.getD_cons_zero, List.getD_cons_succ] at *; grind)
            refine need_wp ?_ ?_
            · first | exact ⟨_, _, _, rfl⟩ | exact ⟨_, _, r1⟩ | exact ⟨_, r1⟩ | exact ⟨_, _, r2⟩ | exact ⟨_, r2⟩ | exact a0 | exact a1 | exact b0 | exact b1 | (simp only [vd1, vd2, vd3, vd4, vd5, vd6, vd7, reduceCtorEq, Option.some.injEq, vb_ite, vi_ite, List.getD_cons_zero, List.getD_cons_succ] at *; grind)
            refine need_wp ?_ ?_
            · first | exact ⟨_, _, _, rfl⟩ | exact ⟨_, _, r1⟩ | exact ⟨_, r1⟩ | exact ⟨_, _, r2⟩ | exact ⟨_, r2⟩ | exact a0 | exact a1 | exact b0 | exact b1 | (simp only [vd1, vd2, vd3, vd4, vd5, vd6, vd7, reduceCtorEq, Option.some.injEq, vb_ite, vi_ite, List.getD_cons_zero, List.getD_cons_succ] at *; grind)
            refine need_wp ?_ ?_
            · first | exact ⟨_, _, _, rfl⟩ | exact ⟨_, _, r1⟩ | exact ⟨_, r1⟩ | exact ⟨_, _, r2⟩ | exact ⟨_, r2⟩ | exact a0 | exact a1 | exact b0 | exact b1 | (simp only [vd1, vd2, vd3, vd4, vd5, vd6, vd7, reduceCtorEq, Option.some.injEq, vb_ite, vi_ite, List.getD_cons_zero, List.getD_cons_succ] at *; grind)
            refine need_wp ?_ ?_
            · first | exact ⟨_, _, _, rfl⟩ | exact ⟨_, _, r1⟩ | exact ⟨_, r1⟩ | exact ⟨_, _, r2⟩ | exact ⟨_, r2⟩ | exact a0 | exact a1 | exact b0 | exact b1 | (simp only [vd1, vd2, vd3, vd4, vd5, vd6, vd7, reduceCtorEq, Option.some.injEq, vb_ite, vi_ite, List.getD_cons_zero, List.getD_cons_succ] at *; grind)
            refine need_wp ?_ ?_
            · first | exact ⟨_, _, _, rfl⟩ | exact ⟨_, _, r1⟩ | exact ⟨_, r1⟩ | exact ⟨_, _, r2⟩ | exact ⟨_, r2⟩ | exact a0 | exact a1 | exact b0 | exact b1 | (simp only [vd1, vd2, vd3, vd4, vd5, vd6, vd7, reduceCtorEq, Option.some.injEq, vb_ite, vi_ite, List.getD_cons_zero, List.getD_cons_succ] at *; grind)
            refine need_wp ?_ ?_
            · first | exact ⟨_, _, _, rfl⟩ | exact ⟨_, _, r1⟩ | exact ⟨_, r1⟩ | exact ⟨_, _, r2⟩ | exact ⟨_, r2⟩ | exact a0 | exact a1 | exact b0 | exact b1 | (simp only [vd1, vd2, vd3, vd4, vd5, vd6, vd7, reduceCtorEq, Option.some.injEq, vb_ite, vi_ite, List.getD_cons_zero, List.getD_cons_succ] at *; grind)
            refine br_wp (fun c6 => ?_) (fun c6 => ?_)
            · refine again_wp rfl ⟨(IntKind.i64.wrap (i + 1)), by simp only [vd1, vd2, vd3, vd4, vd5, vd6, vd7, reduceCtorEq, Option.some.injEq, vb_ite, vi_ite, List.getD_cons_zero, List.getD_cons_succ], ?_⟩ ?_
              · simp only [vd1, vd2, vd3, vd4, vd5, vd6, vd7, reduceCtorEq, Option.some.injEq, vb_ite, vi_ite, List.getD_cons_zero, List.getD_cons_succ] at c5; simp only at m1; have hw := wrap_id (i + 1) (by omega) (by omega); simp only [vd1, vd2, vd3, vd4, vd5, vd6, vd7, reduceCtorEq, Option.some.injEq, vb_ite, vi_ite, List.getD_cons_zero, List.getD_cons_succ, hw]; refine ⟨by omega, by omega, i2, lg_step i0 (by omega) i2 i3 ?_⟩; simp only [vd1, vd2, vd3, vd4, vd5, vd6, vd7, reduceCtorEq, Option.some.injEq, vb_ite, vi_ite, List.getD_cons_zero, List.getD_cons_succ] at c6 ⊢; grind
              · simp only [vd1, vd2, vd3, vd4, vd5, vd6, vd7, reduceCtorEq, Option.some.injEq, vb_ite, vi_ite, List.getD_cons_zero, List.getD_cons_succ] at c5; simp only at m1; have hw := wrap_id (i + 1) (by omega) (by omega); simp only [vd1, vd2, vd3, vd4, vd5, vd6, vd7, reduceCtorEq, Option.some.injEq, vb_ite, vi_ite, List.getD_cons_zero, List.getD_cons_succ, hw]; omega
            · refine pop_wp ?_
              refine ret_wp ?_
              first | (exact congrArg (fun b => [aB b]) (same_no i0 hi (by simp only [vd1, vd2, vd3, vd4, vd5, vd6, vd7, reduceCtorEq, Option.some.injEq, vb_ite, vi_ite, List.getD_cons_zero, List.getD_cons_succ] at c6 ⊢; grind)).symm) | (simp only [vd1, vd2, vd3, vd4, vd5, vd6, vd7, reduceCtorEq, Option.some.injEq, vb_ite, vi_ite, List.getD_cons_zero, List.getD_cons_succ] at c1 c2 c3 c5; exact congrArg (fun b => [aB b]) (same_yes ⟨c1, c2, c3⟩ (lgE_all i2 (fun j a b => i3 j a (by omega)))).symm) | ((simp only [vd1, vd2, vd3, vd4, vd5, vd6, vd7, reduceCtorEq, Option.some.injEq, vb_ite, vi_ite, List.getD_cons_zero, List.getD_cons_succ] at *) <;> grind [same_ne, same_nn])
          · refine pop_wp ?_
            refine ret_wp ?_
            first | (exact congrArg (fun b => [aB b]) (same_no i0 hi (by simp only [vd1, vd2, vd3, vd4, vd5, vd6, vd7, reduceCtorEq, Option.some.injEq, vb_ite, vi_ite, List.getD_cons_zero, List.getD_cons_succ] at c6 ⊢; grind)).symm) | (simp only [vd1, vd2, vd3, vd4, vd5, vd6, vd7, reduceCtorEq, Option.some.injEq, vb_ite, vi_ite, List.getD_cons_zero, List.getD_cons_succ] at c1 c2 c3 c5; exact congrArg (fun b => [aB b]) (same_yes ⟨c1, c2, c3⟩ (lgE_all i2 (fun j a b => i3 j a (by omega)))).symm) | ((simp only [vd1, vd2, vd3, vd4, vd5, vd6, vd7, reduceCtorEq, Option.some.injEq, vb_ite, vi_ite, List.getD_cons_zero, List.getD_cons_succ] at *) <;> grind [same_ne, same_nn])
def kOf4 (sg : Sig) : Sig × Con := (sg, mkFun (fun x : Int × Int × Int => ([aK .u16 x.1, aK .u16 x.2.1, aK .u16 x.2.2] : List Atom)) pre16 (fun x => (of4 x.1 x.2.1 x.2.2).enc))
set_option maxHeartbeats 4000000 in
theorem h29 : holds Try.prog (kOf4 sg29) := by
  refine fn_holds (l := []) trivial hP rs29 (inj_of (fun l : List Atom => ((vi (l.getD 0 atom0).1, vi (l.getD 1 atom0).1, vi (l.getD 2 atom0).1) : Int × Int × Int)) (fun _ => rfl)) Try.func29 (by kernel_rfl) (c := code Try.f29) (by kernel_rfl) (an := an29) (by kernel_rfl) (pk := pk29) rfl (t := t29) (by kernel_rfl) ?_
  rintro ⟨n, m, b⟩ ⟨⟨u1, u2⟩, ⟨u3, u4⟩, u5, u6⟩
  refine ⟨by simp [pk29, KindsOk, encPS, encPSn, encPSnc, encPSA, encPn, encSS, encI, Pol.enc, Stt.enc, Ac.enc, Sl.atom, Sl.nil, Stt.zero, RK.ok], ?_⟩
  unfold t29
  obtain ⟨w1, w2⟩ := w16 u1 u2
  obtain ⟨w3, w4⟩ := w16 u3 u4
  obtain ⟨w5, w6⟩ := w16 u5 u6
  simp only at w1 w2 w3 w4 w5 w6
  refine ret_wp ?_
  (simp only [vd1, vd2, vd3, vd4, vd5, vd6, vd7, reduceCtorEq, Option.some.injEq, vb_ite, vi_ite, List.getD_cons_zero, List.getD_cons_succ, of4, w1, w2, w3, w4, w5, w6])
def kKnown (sg : Sig) : Sig × Con := (sg, mkFun (fun _ : Unit => []) (fun _ => True) (fun _ => [aB true]))
theorem clamp_iff (n : Int) : clamp n = n ↔ 0 ≤ n ∧ n ≤ 9007199254740992 := by unfold clamp; grind
theorem ml_comm (a b : Int) : ml a b = ml b a := Int.mul_comm _ _
theorem min_add (a b c : Int) : a + min b (c - a) = min c (a + b) := by omega
theorem lstB_is {p : Pol} {n : Int} (h : okB p) : (if dvO (max n 0) 1 p.l then cdv (ml (max n 0) 1) p.l else 0) = lst p n := by
  have e := lst_is (p := pD p) (n := n) (okD h)
  have e2 : dvO (max n 0) 1 p.l ↔ dvO 1 (max n 0) (pD p).l := by unfold dvO; show _ ↔ _ ∧ _ ∧ 0 < p.l; omega
  rw [ml_comm (max n 0) 1]
  have e3 : lst (pD p) n = lst p n := rfl
  rw [← e3, ← e]
  by_cases hd : dvO (max n 0) 1 p.l
  · rw [if_pos hd, if_pos (e2.1 hd)]; rfl
  · rw [if_neg hd, if_neg (fun h => hd (e2.2 h))]
theorem okOfB {m q b : Int} (h : pre16 (m, q, b)) : okB (of4 m q b) := by
  obtain ⟨⟨h1, h2⟩, ⟨h3, h4⟩, h5, h6⟩ := h
  simp only at h1 h2 h3 h4 h5 h6
  exact ⟨rfl, by show 1 ≤ m + 1; omega, by show m + 1 ≤ 1048576; omega, by show 1 ≤ b + 1; omega, by show b + 1 ≤ 1048576; omega, by show 1 ≤ q + 1; omega, by show q + 1 ≤ 1099511627776; omega, rfl⟩
theorem ml_of4 {m q b : Int} (h : pre16 (m, q, b)) : ml (of4 m q b).b (of4 m q b).p ≤ 4294967296 := by
  obtain ⟨_, ⟨h3, h4⟩, h5, h6⟩ := h
  simp only at h3 h4 h5 h6
  have h7 : (b + 1) * (q + 1) ≤ 65536 * 65536 := Int.mul_le_mul (by omega) (by omega) (by omega) (by omega)
  exact h7
theorem right_cB (p : Pol) {s t : Stt} (h : sim s t) : rightB p s = rightB p t := by
  obtain ⟨h1, h2, h3, h4⟩ := h
  unfold rightB; rw [h1, h2, h3, h4]
theorem ltr_cB {s t : Stt} (n : Int) (h : sim s t) : ltr s n = ltr t n := by unfold ltr; rw [h.1]
theorem av_cB (p : Pol) {s t : Stt} (n : Int) (h : sim s t) : avB p s n = avB p t n := by unfold avB; rw [ltr_cB n h, h.1, h.2.1, h.2.2.1]
theorem may_cB (p : Pol) {s t : Stt} (c : Int) (h : sim s t) : mayB p s c = mayB p t c := by unfold mayB; rw [right_cB p h, h.2.2.1]
theorem did_cB (p : Pol) {s t : Stt} (a : Ac) (h : sim s t) : didB p s a = didB p t a := by unfold didB; rw [right_cB p h, av_cB p a.t h, h.2.2.1]
theorem toldB (p : Pol) {s t : Stt} (n c : Int) (h : sim s t) : rightB p s = rightB p t ∧ roomB p s n = roomB p t n ∧ untB p s n = untB p t n ∧ retB p s n c = retB p t n c ∧ mayB p s c = mayB p t c := by
  have h1 := right_cB p h
  have h3 := av_cB p n h
  have h4 := may_cB p c h
  refine ⟨h1, ?_, ?_, ?_, h4⟩
  · unfold roomB; simp only [h1, h3]
  · unfold untB; simp only [h1, h3, h.2.2.1]
  · unfold retB; simp only [h3, h4]
theorem advBL_n (p : Pol) (s : Stt) : (advBL p s).n = 0 := by
  unfold advBL; split
  · rename_i h; exact rgB h
  · rfl
theorem same_advB (p : Pol) {s t : Stt} (n : Int) (h : sim s t) : same (advB p s n) (advBR p t n) = true := by
  refine same_of ⟨?_, ?_, ?_⟩ rfl (advBL_n p t)
  · show advBT p s n = advBT p t n; unfold advBT; simp only [right_cB p h, ltr_cB n h]
  · show advBV p s n = advBV p t n; unfold advBV; simp only [right_cB p h, av_cB p n h]
  · show advBH p s = advBH p t; unfold advBH; simp only [right_cB p h, h.2.2.1]
theorem doBL_n (p : Pol) (s : Stt) (a : Ac) : (doBL p s a).n = 0 := by
  unfold doBL; split
  · rename_i h; exact rgB h
  · rfl
theorem same_doB (p : Pol) {s t : Stt} (a : Ac) (h : sim s t) : same (doB p s a) (doBR p t a) = true := by
  refine same_of ⟨?_, ?_, ?_⟩ (doBG_n a) (doBL_n p t a)
  · show doBT p s a = doBT p t a; unfold doBT; simp only [right_cB p h, did_cB p a h, ltr_cB a.t h, h.1]
  · show doBV p s a = doBV p t a; unfold doBV; simp only [right_cB p h, did_cB p a h, av_cB p a.t h, h.2.1]
  · show doBH p s a = doBH p t a; unfold doBH; simp only [right_cB p h, did_cB p a h, h.2.2.1]
def preToldB (x : Pol × Stt × Stt × Int × Int) : Prop := lgOk x.2.1.g ∧ lgOk x.2.2.1.g ∧ same x.2.1 x.2.2.1 = true
def kChk4 (sg : Sig) : Sig × Con := (sg, mkFun (fun x : Pol => ([aI x.k, aI x.l, aI x.p, aI x.b, aI x.c, aB x.o] : List Atom)) (fun _ => True) (fun p => [aI (chk4 p)]))
def kNewB (sg : Sig) : Sig × Con := (sg, mkFun (fun x : Pol × Int => ([aI x.1.k, aI x.1.l, aI x.1.p, aI x.1.b, aI x.1.c, aB x.1.o, aI x.2] : List Atom)) (fun _ => True) (fun x => (newB x.1 x.2).enc))
def kRightB (sg : Sig) : Sig × Con := (sg, mkFun (fun x : Pol × Stt => ([aI x.1.k, aI x.1.l, aI x.1.p, aI x.1.b, aI x.1.c, aB x.1.o, aI x.2.t, aI x.2.v, aI x.2.h, Sl.atom x.2.g] : List Atom)) (fun _ => True) (fun x => [aB (decide (rightB x.1 x.2))]))
def kRoomB (sg : Sig) : Sig × Con := (sg, mkFun (fun x : Pol × Stt × Int => ([aI x.1.k, aI x.1.l, aI x.1.p, aI x.1.b, aI x.1.c, aB x.1.o, aI x.2.1.t, aI x.2.1.v, aI x.2.1.h, Sl.atom x.2.1.g, aI x.2.2] : List Atom)) (fun _ => True) (fun x => [aI (roomB x.1 x.2.1 x.2.2)]))
def kLastsB (sg : Sig) : Sig × Con := (sg, mkFun (fun x : Pol × Int => ([aI x.1.k, aI x.1.l, aI x.1.p, aI x.1.b, aI x.1.c, aB x.1.o, aI x.2] : List Atom)) (fun x => okB x.1 ∧ x.2 ≤ 1152921504606846976) (fun x => [aI (lst x.1 x.2)]))
def kUntB (sg : Sig) : Sig × Con := (sg, mkFun (fun x : Pol × Stt × Int => ([aI x.1.k, aI x.1.l, aI x.1.p, aI x.1.b, aI x.1.c, aB x.1.o, aI x.2.1.t, aI x.2.1.v, aI x.2.1.h, Sl.atom x.2.1.g, aI x.2.2] : List Atom)) (fun _ => True) (fun x => [aI (untB x.1 x.2.1 x.2.2)]))
def kRetB (sg : Sig) : Sig × Con := (sg, mkFun (fun x : Pol × Stt × Int × Int => ([aI x.1.k, aI x.1.l, aI x.1.p, aI x.1.b, aI x.1.c, aB x.1.o, aI x.2.1.t, aI x.2.1.v, aI x.2.1.h, Sl.atom x.2.1.g, aI x.2.2.1, aI x.2.2.2] : List Atom)) (fun _ => True) (fun x => [aI (retB x.1 x.2.1 x.2.2.1 x.2.2.2), aB (decide (mayB x.1 x.2.1 x.2.2.2))]))
set_option maxHeartbeats 4000000 in
theorem h48 : holds Try.prog (kChk4 sg48) := by
  refine fn_holds (l := []) trivial hP rs48 (inj_of (fun l : List Atom => ((⟨vi (l.getD 0 atom0).1, vi (l.getD 1 atom0).1, vi (l.getD 2 atom0).1, vi (l.getD 3 atom0).1, vi (l.getD 4 atom0).1, vb (l.getD 5 atom0).1⟩ : Pol) : Pol)) (fun _ => rfl)) Try.func48 (by kernel_rfl) (c := code Try.f48) (by kernel_rfl) (an := an48) (by kernel_rfl) (pk := pk48) rfl (t := t48) (by kernel_rfl) ?_
  rintro p hpre
  refine ⟨by simp [pk48, KindsOk, encPS, encPSn, encPSnc, encPSA, encPn, encSS, encI, Pol.enc, Stt.enc, Ac.enc, Sl.atom, Sl.nil, Stt.zero, RK.ok], ?_⟩
  unfold t48
  refine br_wp (fun c1 => ?_) (fun c1 => ?_)
  · refine ret_wp ?_
    ((try simp only [vd1, vd2, vd3, vd4, vd5, vd6, vd7, reduceCtorEq, Option.some.injEq, vb_ite, vi_ite, List.getD_cons_zero, List.getD_cons_succ] at *) <;> grind (splits := 40) [chk4, okB])
  · refine br_wp (fun c2 => ?_) (fun c2 => ?_)
    · refine ret_wp ?_
      ((try simp only [vd1, vd2, vd3, vd4, vd5, vd6, vd7, reduceCtorEq, Option.some.injEq, vb_ite, vi_ite, List.getD_cons_zero, List.getD_cons_succ] at *) <;> grind (splits := 40) [chk4, okB])
    · refine br_wp (fun c3 => ?_) (fun c3 => ?_)
      · refine ret_wp ?_
        ((try simp only [vd1, vd2, vd3, vd4, vd5, vd6, vd7, reduceCtorEq, Option.some.injEq, vb_ite, vi_ite, List.getD_cons_zero, List.getD_cons_succ] at *) <;> grind (splits := 40) [chk4, okB])
      · refine br_wp (fun c4 => ?_) (fun c4 => ?_)
        · refine ret_wp ?_
          ((try simp only [vd1, vd2, vd3, vd4, vd5, vd6, vd7, reduceCtorEq, Option.some.injEq, vb_ite, vi_ite, List.getD_cons_zero, List.getD_cons_succ] at *) <;> grind (splits := 40) [chk4, okB])
        · refine br_wp (fun c5 => ?_) (fun c5 => ?_)
          · refine ret_wp ?_
            ((try simp only [vd1, vd2, vd3, vd4, vd5, vd6, vd7, reduceCtorEq, Option.some.injEq, vb_ite, vi_ite, List.getD_cons_zero, List.getD_cons_succ] at *) <;> grind (splits := 40) [chk4, okB])
          · refine ret_wp ?_
            ((try simp only [vd1, vd2, vd3, vd4, vd5, vd6, vd7, reduceCtorEq, Option.some.injEq, vb_ite, vi_ite, List.getD_cons_zero, List.getD_cons_succ] at *) <;> grind (splits := 40) [chk4, okB])
set_option maxHeartbeats 4000000 in
theorem h30 : holds Try.prog (kNewB sg30) := by
  refine fn_holds (l := [kChk4 sg48, kClamp sg50]) ⟨h48, h50, trivial⟩ hP rs30 (inj_of (fun l : List Atom => (((⟨vi (l.getD 0 atom0).1, vi (l.getD 1 atom0).1, vi (l.getD 2 atom0).1, vi (l.getD 3 atom0).1, vi (l.getD 4 atom0).1, vb (l.getD 5 atom0).1⟩ : Pol), vi (l.getD 6 atom0).1) : Pol × Int)) (fun _ => rfl)) Try.func30 (by kernel_rfl) (c := code Try.f30) (by kernel_rfl) (an := an30) (by kernel_rfl) (pk := pk30) rfl (t := t30) (by kernel_rfl) ?_
  rintro ⟨p, n⟩ hpre
  refine ⟨by simp [pk30, KindsOk, encPS, encPSn, encPSnc, encPSA, encPn, encSS, encI, Pol.enc, Stt.enc, Ac.enc, Sl.atom, Sl.nil, Stt.zero, RK.ok], ?_⟩
  unfold t30
  refine call_fun (p) rfl (by simp only [vd1, vd2, vd3, vd4, vd5, vd6, vd7, reduceCtorEq, Option.some.injEq, vb_ite, vi_ite, List.getD_cons_zero, List.getD_cons_succ, advBR, newB, doBR, advB, doB]) trivial ?_
  refine br_wp (fun c1 => ?_) (fun c1 => ?_)
  · have ok : ¬okB p := by simp only [vd1, vd2, vd3, vd4, vd5, vd6, vd7, reduceCtorEq, Option.some.injEq, vb_ite, vi_ite, List.getD_cons_zero, List.getD_cons_succ, advBR, newB, doBR, advB, doB] at c1; unfold chk4 at c1; grind
    refine need_wp ?_ ?_
    · exact ⟨_, _, _, rfl⟩
    refine ret_wp ?_
    ((try simp only [vd1, vd2, vd3, vd4, vd5, vd6, vd7, reduceCtorEq, Option.some.injEq, vb_ite, vi_ite, List.getD_cons_zero, List.getD_cons_succ, advBR, newB, doBR, advB, doB] at *) <;> grind (splits := 40) [chk4, Sl.nil])
  · have ok : okB p := by simp only [vd1, vd2, vd3, vd4, vd5, vd6, vd7, reduceCtorEq, Option.some.injEq, vb_ite, vi_ite, List.getD_cons_zero, List.getD_cons_succ, advBR, newB, doBR, advB, doB] at c1; unfold chk4 at c1; grind
    have ok2 := ok
    unfold okB at ok2
    have w2 := (mul_fit (x := p.b) (y := p.p) (by omega) (by omega) (by omega) (by omega)).1
    refine call_fun (n) rfl (by simp only [vd1, vd2, vd3, vd4, vd5, vd6, vd7, reduceCtorEq, Option.some.injEq, vb_ite, vi_ite, List.getD_cons_zero, List.getD_cons_succ, advBR, newB, doBR, advB, doB, w2]) trivial ?_
    refine need_wp ?_ ?_
    · exact ⟨_, _, _, rfl⟩
    refine ret_wp ?_
    ((try simp only [vd1, vd2, vd3, vd4, vd5, vd6, vd7, reduceCtorEq, Option.some.injEq, vb_ite, vi_ite, List.getD_cons_zero, List.getD_cons_succ, advBR, newB, doBR, advB, doB, w2] at *) <;> grind (splits := 40) [chk4, Sl.nil])
set_option maxHeartbeats 4000000 in
theorem h44 : holds Try.prog (kRightB sg44) := by
  refine fn_holds (l := [kChk4 sg48, kClamp sg50]) ⟨h48, h50, trivial⟩ hP rs44 (inj_of (fun l : List Atom => (((⟨vi (l.getD 0 atom0).1, vi (l.getD 1 atom0).1, vi (l.getD 2 atom0).1, vi (l.getD 3 atom0).1, vi (l.getD 4 atom0).1, vb (l.getD 5 atom0).1⟩ : Pol), (⟨vi (l.getD 6 atom0).1, vi (l.getD 7 atom0).1, vi (l.getD 8 atom0).1, (⟨va (l.getD 9 atom0).1, vn (l.getD 9 atom0).1, vc (l.getD 9 atom0).1, (l.getD 9 atom0).2⟩ : Sl)⟩ : Stt)) : Pol × Stt)) (fun _ => rfl)) Try.func44 (by kernel_rfl) (c := code Try.f44) (by kernel_rfl) (an := an44) (by kernel_rfl) (pk := pk44) rfl (t := t44) (by kernel_rfl) ?_
  rintro ⟨p, s⟩ hpre
  refine ⟨by simp [pk44, KindsOk, encPS, encPSn, encPSnc, encPSA, encPn, encSS, encI, Pol.enc, Stt.enc, Ac.enc, Sl.atom, Sl.nil, Stt.zero, RK.ok], ?_⟩
  unfold t44
  refine call_fun (p) rfl (by simp only [vd1, vd2, vd3, vd4, vd5, vd6, vd7, reduceCtorEq, Option.some.injEq, vb_ite, vi_ite, List.getD_cons_zero, List.getD_cons_succ]) trivial ?_
  refine br_wp (fun c1 => ?_) (fun c1 => ?_)
  · have ok : okB p := by simp only [vd1, vd2, vd3, vd4, vd5, vd6, vd7, reduceCtorEq, Option.some.injEq, vb_ite, vi_ite, List.getD_cons_zero, List.getD_cons_succ] at c1; unfold chk4 at c1; grind
    have ok2 := ok
    unfold okB at ok2
    refine call_fun (s.t) rfl (by simp only [vd1, vd2, vd3, vd4, vd5, vd6, vd7, reduceCtorEq, Option.some.injEq, vb_ite, vi_ite, List.getD_cons_zero, List.getD_cons_succ]) trivial ?_
    refine br_wp (fun c2 => ?_) (fun c2 => ?_)
    · have ht := (clamp_iff s.t).1 (by simp only [vd1, vd2, vd3, vd4, vd5, vd6, vd7, reduceCtorEq, Option.some.injEq, vb_ite, vi_ite, List.getD_cons_zero, List.getD_cons_succ] at c2; simpa using c2)
      refine br_wp (fun c3 => ?_) (fun c3 => ?_)
      · refine br_wp (fun c4 => ?_) (fun c4 => ?_)
        · have hh : 0 ≤ s.h ∧ s.h ≤ p.b := by simp only [vd1, vd2, vd3, vd4, vd5, vd6, vd7, reduceCtorEq, Option.some.injEq, vb_ite, vi_ite, List.getD_cons_zero, List.getD_cons_succ] at c3 c4; simp at c3 c4; exact ⟨c3, c4⟩
          have w0 : IntKind.i64.wrap (p.b - s.h) = p.b - s.h := wrap_id _ (by omega) (by omega)
          have w1 := (mul_fit (x := p.b - s.h) (y := p.p) (by omega) (by omega) (by omega) (by omega)).1
          refine br_wp (fun c5 => ?_) (fun c5 => ?_)
          · refine br_wp (fun c6 => ?_) (fun c6 => ?_)
            · refine need_wp ?_ ?_
              · exact ⟨_, _, _, rfl⟩
              refine ret_wp ?_
              ((try simp only [vd1, vd2, vd3, vd4, vd5, vd6, vd7, reduceCtorEq, Option.some.injEq, vb_ite, vi_ite, List.getD_cons_zero, List.getD_cons_succ, w0, w1] at *) <;> grind (splits := 40) [rightB, clamp_iff])
            · refine ret_wp ?_
              ((try simp only [vd1, vd2, vd3, vd4, vd5, vd6, vd7, reduceCtorEq, Option.some.injEq, vb_ite, vi_ite, List.getD_cons_zero, List.getD_cons_succ, w0, w1] at *) <;> grind (splits := 40) [rightB, clamp_iff])
          · refine ret_wp ?_
            ((try simp only [vd1, vd2, vd3, vd4, vd5, vd6, vd7, reduceCtorEq, Option.some.injEq, vb_ite, vi_ite, List.getD_cons_zero, List.getD_cons_succ, w0, w1] at *) <;> grind (splits := 40) [rightB, clamp_iff])
        · refine ret_wp ?_
          ((try simp only [vd1, vd2, vd3, vd4, vd5, vd6, vd7, reduceCtorEq, Option.some.injEq, vb_ite, vi_ite, List.getD_cons_zero, List.getD_cons_succ] at *) <;> grind (splits := 40) [rightB, clamp_iff])
      · refine ret_wp ?_
        ((try simp only [vd1, vd2, vd3, vd4, vd5, vd6, vd7, reduceCtorEq, Option.some.injEq, vb_ite, vi_ite, List.getD_cons_zero, List.getD_cons_succ] at *) <;> grind (splits := 40) [rightB, clamp_iff])
    · refine ret_wp ?_
      ((try simp only [vd1, vd2, vd3, vd4, vd5, vd6, vd7, reduceCtorEq, Option.some.injEq, vb_ite, vi_ite, List.getD_cons_zero, List.getD_cons_succ] at *) <;> grind (splits := 40) [rightB, clamp_iff])
  · have ok : ¬okB p := by simp only [vd1, vd2, vd3, vd4, vd5, vd6, vd7, reduceCtorEq, Option.some.injEq, vb_ite, vi_ite, List.getD_cons_zero, List.getD_cons_succ] at c1; unfold chk4 at c1; grind
    refine ret_wp ?_
    ((try simp only [vd1, vd2, vd3, vd4, vd5, vd6, vd7, reduceCtorEq, Option.some.injEq, vb_ite, vi_ite, List.getD_cons_zero, List.getD_cons_succ] at *) <;> grind (splits := 40) [rightB, clamp_iff])
def kDrops (sg : Sig) : Sig × Con := (sg, mkFun (fun x : Pol × Int × Int => ([aI x.1.k, aI x.1.l, aI x.1.p, aI x.1.b, aI x.1.c, aB x.1.o, aI x.2.1, aI x.2.2] : List Atom)) (fun x => in64 x.1.l ∧ in64 x.2.1 ∧ 0 ≤ ml x.2.1 x.1.l ∧ x.2.2 ≤ 1152921504606846976) (fun x => [aI (min (ml x.2.1 x.1.l) x.2.2)]))
set_option maxHeartbeats 4000000 in
theorem h66 : holds Try.prog (kDrops sg66) := by
  refine fn_holds (l := [kMul sg68]) ⟨h68, trivial⟩ hP rs66 (inj_of (fun l : List Atom => (((⟨vi (l.getD 0 atom0).1, vi (l.getD 1 atom0).1, vi (l.getD 2 atom0).1, vi (l.getD 3 atom0).1, vi (l.getD 4 atom0).1, vb (l.getD 5 atom0).1⟩ : Pol), vi (l.getD 6 atom0).1, vi (l.getD 7 atom0).1) : Pol × Int × Int)) (fun _ => rfl)) Try.func66 (by kernel_rfl) (c := code Try.f66) (by kernel_rfl) (an := an66) (by kernel_rfl) (pk := pk66) rfl (t := t66) (by kernel_rfl) ?_
  rintro ⟨p, d, m⟩ ⟨u1, u2, u3, u4⟩
  refine ⟨by simp [pk66, KindsOk, encPS, encPSn, encPSnc, encPSA, encPn, encSS, encI, Pol.enc, Stt.enc, Ac.enc, Sl.atom, Sl.nil, Stt.zero, RK.ok], ?_⟩
  unfold t66
  simp only at u1 u2 u3 u4
  have mc := ml_comm p.l d
  refine call_fun ((p.l, d)) rfl (by simp only [vd1, vd2, vd3, vd4, vd5, vd6, vd7, reduceCtorEq, Option.some.injEq, vb_ite, vi_ite, List.getD_cons_zero, List.getD_cons_succ]) ⟨u1, u2⟩ ?_
  refine br_wp (fun c1 => ?_) (fun c1 => ?_)
  · refine ret_wp ?_
    ((try simp only [vd1, vd2, vd3, vd4, vd5, vd6, vd7, reduceCtorEq, Option.some.injEq, vb_ite, vi_ite, List.getD_cons_zero, List.getD_cons_succ] at *) <;> grind (splits := 40) [mulV, mulO])
  · refine ret_wp ?_
    ((try simp only [vd1, vd2, vd3, vd4, vd5, vd6, vd7, reduceCtorEq, Option.some.injEq, vb_ite, vi_ite, List.getD_cons_zero, List.getD_cons_succ] at *) <;> grind (splits := 40) [mulV, mulO])
def kAdvB (sg : Sig) : Sig × Con := (sg, mkFun (fun x : Pol × Stt × Int => ([aI x.1.k, aI x.1.l, aI x.1.p, aI x.1.b, aI x.1.c, aB x.1.o, aI x.2.1.t, aI x.2.1.v, aI x.2.1.h, Sl.atom x.2.1.g, aI x.2.2] : List Atom)) (fun _ => True) (fun x => (advB x.1 x.2.1 x.2.2).enc))
set_option maxHeartbeats 4000000 in
theorem h46 : holds Try.prog (kAdvB sg46) := by
  refine fn_holds (l := [kRightB sg44, kClamp sg50, kDrops sg66]) ⟨h44, h50, h66, trivial⟩ hP rs46 (inj_of (fun l : List Atom => (((⟨vi (l.getD 0 atom0).1, vi (l.getD 1 atom0).1, vi (l.getD 2 atom0).1, vi (l.getD 3 atom0).1, vi (l.getD 4 atom0).1, vb (l.getD 5 atom0).1⟩ : Pol), (⟨vi (l.getD 6 atom0).1, vi (l.getD 7 atom0).1, vi (l.getD 8 atom0).1, (⟨va (l.getD 9 atom0).1, vn (l.getD 9 atom0).1, vc (l.getD 9 atom0).1, (l.getD 9 atom0).2⟩ : Sl)⟩ : Stt), vi (l.getD 10 atom0).1) : Pol × Stt × Int)) (fun _ => rfl)) Try.func46 (by kernel_rfl) (c := code Try.f46) (by kernel_rfl) (an := an46) (by kernel_rfl) (pk := pk46) rfl (t := t46) (by kernel_rfl) ?_
  rintro ⟨p, s, n⟩ hpre
  refine ⟨by simp [pk46, KindsOk, encPS, encPSn, encPSnc, encPSA, encPn, encSS, encI, Pol.enc, Stt.enc, Ac.enc, Sl.atom, Sl.nil, Stt.zero, RK.ok], ?_⟩
  unfold t46
  refine call_fun ((p, s)) rfl (by simp only [vd1, vd2, vd3, vd4, vd5, vd6, vd7, reduceCtorEq, Option.some.injEq, vb_ite, vi_ite, List.getD_cons_zero, List.getD_cons_succ, advBR, newB, doBR, advB, doB]) trivial ?_
  refine br_wp (fun c1 => ?_) (fun c1 => ?_)
  · have hr : rightB p s := by simp only [vd1, vd2, vd3, vd4, vd5, vd6, vd7, reduceCtorEq, Option.some.injEq, vb_ite, vi_ite, List.getD_cons_zero, List.getD_cons_succ, advBR, newB, doBR, advB, doB] at c1; exact c1
    obtain ⟨b1, b2, b3, b4, w0, w1, w2, b5⟩ := rightB_bd hr
    have hr2 := hr
    unfold rightB okB at hr2
    have l1 := ltr_ge s n
    have l2 := ltr_le n hr.2.2.1
    unfold ltr at l1 l2
    have w3 : IntKind.i64.wrap ((max s.t (clamp n)) - s.t) = (max s.t (clamp n)) - s.t := wrap_id _ (by omega) (by omega)
    have w4 : IntKind.i64.wrap (ml (p.b - s.h) p.p - s.v) = ml (p.b - s.h) p.p - s.v := wrap_id _ (by omega) (by omega)
    have hd0 : 0 ≤ ml ((max s.t (clamp n)) - s.t) p.l := Int.mul_nonneg (by omega) (by omega)
    have w5 : IntKind.i64.wrap (s.v + min (ml ((max s.t (clamp n)) - s.t) p.l) (ml (p.b - s.h) p.p - s.v)) = min (ml (p.b - s.h) p.p) (s.v + ml ((max s.t (clamp n)) - s.t) p.l) := by rw [min_add]; exact wrap_id _ (by omega) (by omega)
    refine call_fun (n) rfl (by simp only [vd1, vd2, vd3, vd4, vd5, vd6, vd7, reduceCtorEq, Option.some.injEq, vb_ite, vi_ite, List.getD_cons_zero, List.getD_cons_succ, advBR, newB, doBR, advB, doB, w0, w1, w3, w4, w5]) trivial ?_
    refine call_fun ((p, ((max s.t (clamp n)) - s.t), (ml (p.b - s.h) p.p - s.v))) rfl (by simp only [vd1, vd2, vd3, vd4, vd5, vd6, vd7, reduceCtorEq, Option.some.injEq, vb_ite, vi_ite, List.getD_cons_zero, List.getD_cons_succ, advBR, newB, doBR, advB, doB, w0, w1, w3, w4, w5]) (by refine ⟨⟨?_, ?_⟩, ⟨?_, ?_⟩, ?_, ?_⟩ <;> simp only <;> first | omega | exact Int.mul_nonneg (by omega) (by omega)) ?_
    refine need_wp ?_ ?_
    · exact ⟨_, _, _, rfl⟩
    refine ret_wp ?_
    ((try simp only [vd1, vd2, vd3, vd4, vd5, vd6, vd7, reduceCtorEq, Option.some.injEq, vb_ite, vi_ite, List.getD_cons_zero, List.getD_cons_succ, advBR, newB, doBR, advB, doB, w0, w1, w3, w4, w5] at *) <;> grind (splits := 40) [advBT, advBV, advBH, ltr, avB, Sl.nil])
  · refine need_wp ?_ ?_
    · exact ⟨_, _, _, rfl⟩
    refine ret_wp ?_
    ((try simp only [vd1, vd2, vd3, vd4, vd5, vd6, vd7, reduceCtorEq, Option.some.injEq, vb_ite, vi_ite, List.getD_cons_zero, List.getD_cons_succ, advBR, newB, doBR, advB, doB] at *) <;> grind (splits := 40) [advBT, advBV, advBH, ltr, avB, Sl.nil])
set_option maxHeartbeats 4000000 in
theorem h45 : holds Try.prog (kRoomB sg45) := by
  refine fn_holds (l := [kRightB sg44, kAdvB sg46]) ⟨h44, h46, trivial⟩ hP rs45 (inj_of (fun l : List Atom => (((⟨vi (l.getD 0 atom0).1, vi (l.getD 1 atom0).1, vi (l.getD 2 atom0).1, vi (l.getD 3 atom0).1, vi (l.getD 4 atom0).1, vb (l.getD 5 atom0).1⟩ : Pol), (⟨vi (l.getD 6 atom0).1, vi (l.getD 7 atom0).1, vi (l.getD 8 atom0).1, (⟨va (l.getD 9 atom0).1, vn (l.getD 9 atom0).1, vc (l.getD 9 atom0).1, (l.getD 9 atom0).2⟩ : Sl)⟩ : Stt), vi (l.getD 10 atom0).1) : Pol × Stt × Int)) (fun _ => rfl)) Try.func45 (by kernel_rfl) (c := code Try.f45) (by kernel_rfl) (an := an45) (by kernel_rfl) (pk := pk45) rfl (t := t45) (by kernel_rfl) ?_
  rintro ⟨p, s, n⟩ hpre
  refine ⟨by simp [pk45, KindsOk, encPS, encPSn, encPSnc, encPSA, encPn, encSS, encI, Pol.enc, Stt.enc, Ac.enc, Sl.atom, Sl.nil, Stt.zero, RK.ok], ?_⟩
  unfold t45
  refine call_fun ((p, s)) rfl (by simp only [vd1, vd2, vd3, vd4, vd5, vd6, vd7, reduceCtorEq, Option.some.injEq, vb_ite, vi_ite, List.getD_cons_zero, List.getD_cons_succ, advBR, newB, doBR, advB, doB]) trivial ?_
  refine br_wp (fun c1 => ?_) (fun c1 => ?_)
  · have hr : rightB p s := by simp only [vd1, vd2, vd3, vd4, vd5, vd6, vd7, reduceCtorEq, Option.some.injEq, vb_ite, vi_ite, List.getD_cons_zero, List.getD_cons_succ, advBR, newB, doBR, advB, doB] at c1; exact c1
    obtain ⟨b1, b2, b3, b4, w0, w1, w2, b5⟩ := rightB_bd hr
    have hr2 := hr
    unfold rightB okB at hr2
    have bd := avB_bd n hr
    have av : advBV p s n = avB p s n := by unfold advBV; rw [if_pos hr]
    have hp : 1 ≤ p.p := hr.1.2.2.2.2.2.1
    have q3 := quo_id (avB p s n) p.p (by omega) (by omega) hp
    refine call_fun ((p, s, n)) rfl (by simp only [vd1, vd2, vd3, vd4, vd5, vd6, vd7, reduceCtorEq, Option.some.injEq, vb_ite, vi_ite, List.getD_cons_zero, List.getD_cons_succ, advBR, newB, doBR, advB, doB, av, q3]) trivial ?_
    refine need_wp ?_ ?_
    · (simp only [vd1, vd2, vd3, vd4, vd5, vd6, vd7, reduceCtorEq, Option.some.injEq, vb_ite, vi_ite, List.getD_cons_zero, List.getD_cons_succ, advBR, newB, doBR, advB, doB, av, q3] at *; grind)
    refine ret_wp ?_
    ((try simp only [vd1, vd2, vd3, vd4, vd5, vd6, vd7, reduceCtorEq, Option.some.injEq, vb_ite, vi_ite, List.getD_cons_zero, List.getD_cons_succ, advBR, newB, doBR, advB, doB, av, q3] at *) <;> grind (splits := 40) [roomB])
  · refine ret_wp ?_
    ((try simp only [vd1, vd2, vd3, vd4, vd5, vd6, vd7, reduceCtorEq, Option.some.injEq, vb_ite, vi_ite, List.getD_cons_zero, List.getD_cons_succ, advBR, newB, doBR, advB, doB] at *) <;> grind (splits := 40) [roomB])
set_option maxHeartbeats 4000000 in
theorem h65 : holds Try.prog (kLastsB sg65) := by
  refine fn_holds (l := [kWhole sg67]) ⟨h67, trivial⟩ hP rs65 (inj_of (fun l : List Atom => (((⟨vi (l.getD 0 atom0).1, vi (l.getD 1 atom0).1, vi (l.getD 2 atom0).1, vi (l.getD 3 atom0).1, vi (l.getD 4 atom0).1, vb (l.getD 5 atom0).1⟩ : Pol), vi (l.getD 6 atom0).1) : Pol × Int)) (fun _ => rfl)) Try.func65 (by kernel_rfl) (c := code Try.f65) (by kernel_rfl) (an := an65) (by kernel_rfl) (pk := pk65) rfl (t := t65) (by kernel_rfl) ?_
  rintro ⟨p, n⟩ ⟨u1, u2⟩
  refine ⟨by simp [pk65, KindsOk, encPS, encPSn, encPSnc, encPSA, encPn, encSS, encI, Pol.enc, Stt.enc, Ac.enc, Sl.atom, Sl.nil, Stt.zero, RK.ok], ?_⟩
  unfold t65
  simp only at u1 u2
  have u3 := u1
  unfold okB at u3
  refine call_fun (((max n 0), 1, p.l)) rfl (by simp only [vd1, vd2, vd3, vd4, vd5, vd6, vd7, reduceCtorEq, Option.some.injEq, vb_ite, vi_ite, List.getD_cons_zero, List.getD_cons_succ]) (by refine ⟨⟨⟨?_, ?_⟩, ⟨?_, ?_⟩, ?_, ?_⟩, fun _ => ?_⟩ <;> simp only [ml] <;> omega) ?_
  refine ret_wp ?_
  ((simp only [vd1, vd2, vd3, vd4, vd5, vd6, vd7, reduceCtorEq, Option.some.injEq, vb_ite, vi_ite, List.getD_cons_zero, List.getD_cons_succ] at *) <;> exact lstB_is u1)
set_option maxHeartbeats 4000000 in
theorem h43 : holds Try.prog (kUntB sg43) := by
  refine fn_holds (l := [kRightB sg44, kAdvB sg46, kLastsB sg65]) ⟨h44, h46, h65, trivial⟩ hP rs43 (inj_of (fun l : List Atom => (((⟨vi (l.getD 0 atom0).1, vi (l.getD 1 atom0).1, vi (l.getD 2 atom0).1, vi (l.getD 3 atom0).1, vi (l.getD 4 atom0).1, vb (l.getD 5 atom0).1⟩ : Pol), (⟨vi (l.getD 6 atom0).1, vi (l.getD 7 atom0).1, vi (l.getD 8 atom0).1, (⟨va (l.getD 9 atom0).1, vn (l.getD 9 atom0).1, vc (l.getD 9 atom0).1, (l.getD 9 atom0).2⟩ : Sl)⟩ : Stt), vi (l.getD 10 atom0).1) : Pol × Stt × Int)) (fun _ => rfl)) Try.func43 (by kernel_rfl) (c := code Try.f43) (by kernel_rfl) (an := an43) (by kernel_rfl) (pk := pk43) rfl (t := t43) (by kernel_rfl) ?_
  rintro ⟨p, s, n⟩ hpre
  refine ⟨by simp [pk43, KindsOk, encPS, encPSn, encPSnc, encPSA, encPn, encSS, encI, Pol.enc, Stt.enc, Ac.enc, Sl.atom, Sl.nil, Stt.zero, RK.ok], ?_⟩
  unfold t43
  refine call_fun ((p, s)) rfl (by simp only [vd1, vd2, vd3, vd4, vd5, vd6, vd7, reduceCtorEq, Option.some.injEq, vb_ite, vi_ite, List.getD_cons_zero, List.getD_cons_succ, advBR, newB, doBR, advB, doB]) trivial ?_
  refine br_wp (fun c1 => ?_) (fun c1 => ?_)
  · have hr : rightB p s := by simp only [vd1, vd2, vd3, vd4, vd5, vd6, vd7, reduceCtorEq, Option.some.injEq, vb_ite, vi_ite, List.getD_cons_zero, List.getD_cons_succ, advBR, newB, doBR, advB, doB] at c1; exact c1
    obtain ⟨b1, b2, b3, b4, w0, w1, w2, b5⟩ := rightB_bd hr
    have hr2 := hr
    unfold rightB okB at hr2
    have bd := avB_bd n hr
    have av : advBV p s n = avB p s n := by unfold advBV; rw [if_pos hr]
    have w3 : IntKind.i64.wrap (ml p.b p.p - advBV p s n) = ml p.b p.p - avB p s n := by rw [av]; exact wrap_id _ (by omega) (by omega)
    refine br_wp (fun c2 => ?_) (fun c2 => ?_)
    · refine ret_wp ?_
      ((try simp only [vd1, vd2, vd3, vd4, vd5, vd6, vd7, reduceCtorEq, Option.some.injEq, vb_ite, vi_ite, List.getD_cons_zero, List.getD_cons_succ, advBR, newB, doBR, advB, doB, w2, w3] at *) <;> grind (splits := 40) [untB, advBV])
    · refine call_fun ((p, s, n)) rfl (by simp only [vd1, vd2, vd3, vd4, vd5, vd6, vd7, reduceCtorEq, Option.some.injEq, vb_ite, vi_ite, List.getD_cons_zero, List.getD_cons_succ, advBR, newB, doBR, advB, doB, w2, w3]) trivial ?_
      refine call_fun ((p, (ml p.b p.p - avB p s n))) rfl (by simp only [vd1, vd2, vd3, vd4, vd5, vd6, vd7, reduceCtorEq, Option.some.injEq, vb_ite, vi_ite, List.getD_cons_zero, List.getD_cons_succ, advBR, newB, doBR, advB, doB, w2, w3]) (by refine ⟨hr.1, ?_⟩; simp only; omega) ?_
      refine ret_wp ?_
      ((try simp only [vd1, vd2, vd3, vd4, vd5, vd6, vd7, reduceCtorEq, Option.some.injEq, vb_ite, vi_ite, List.getD_cons_zero, List.getD_cons_succ, advBR, newB, doBR, advB, doB, w2, w3] at *) <;> grind (splits := 40) [untB, advBV])
  · refine ret_wp ?_
    ((try simp only [vd1, vd2, vd3, vd4, vd5, vd6, vd7, reduceCtorEq, Option.some.injEq, vb_ite, vi_ite, List.getD_cons_zero, List.getD_cons_succ, advBR, newB, doBR, advB, doB] at *) <;> grind (splits := 40) [untB, advBV])
set_option maxHeartbeats 4000000 in
theorem h42 : holds Try.prog (kRetB sg42) := by
  refine fn_holds (l := [kRightB sg44, kAdvB sg46, kLastsB sg65]) ⟨h44, h46, h65, trivial⟩ hP rs42 (inj_of (fun l : List Atom => (((⟨vi (l.getD 0 atom0).1, vi (l.getD 1 atom0).1, vi (l.getD 2 atom0).1, vi (l.getD 3 atom0).1, vi (l.getD 4 atom0).1, vb (l.getD 5 atom0).1⟩ : Pol), (⟨vi (l.getD 6 atom0).1, vi (l.getD 7 atom0).1, vi (l.getD 8 atom0).1, (⟨va (l.getD 9 atom0).1, vn (l.getD 9 atom0).1, vc (l.getD 9 atom0).1, (l.getD 9 atom0).2⟩ : Sl)⟩ : Stt), vi (l.getD 10 atom0).1, vi (l.getD 11 atom0).1) : Pol × Stt × Int × Int)) (fun _ => rfl)) Try.func42 (by kernel_rfl) (c := code Try.f42) (by kernel_rfl) (an := an42) (by kernel_rfl) (pk := pk42) rfl (t := t42) (by kernel_rfl) ?_
  rintro ⟨p, s, n, c⟩ hpre
  refine ⟨by simp [pk42, KindsOk, encPS, encPSn, encPSnc, encPSA, encPn, encSS, encI, Pol.enc, Stt.enc, Ac.enc, Sl.atom, Sl.nil, Stt.zero, RK.ok], ?_⟩
  unfold t42
  refine call_fun ((p, s)) rfl (by simp only [vd1, vd2, vd3, vd4, vd5, vd6, vd7, reduceCtorEq, Option.some.injEq, vb_ite, vi_ite, List.getD_cons_zero, List.getD_cons_succ, advBR, newB, doBR, advB, doB]) trivial ?_
  refine br_wp (fun c1 => ?_) (fun c1 => ?_)
  · have hr : rightB p s := by simp only [vd1, vd2, vd3, vd4, vd5, vd6, vd7, reduceCtorEq, Option.some.injEq, vb_ite, vi_ite, List.getD_cons_zero, List.getD_cons_succ, advBR, newB, doBR, advB, doB] at c1; exact c1
    obtain ⟨b1, b2, b3, b4, w0, w1, w2, b5⟩ := rightB_bd hr
    have hr2 := hr
    unfold rightB okB at hr2
    have bd := avB_bd n hr
    have av : advBV p s n = avB p s n := by unfold advBV; rw [if_pos hr]
    refine br_wp (fun c2 => ?_) (fun c2 => ?_)
    · refine ret_wp ?_
      ((try simp only [vd1, vd2, vd3, vd4, vd5, vd6, vd7, reduceCtorEq, Option.some.injEq, vb_ite, vi_ite, List.getD_cons_zero, List.getD_cons_succ, advBR, newB, doBR, advB, doB, w0] at *) <;> grind (splits := 40) [retB, mayB, advBV])
    · refine br_wp (fun c3 => ?_) (fun c3 => ?_)
      · refine ret_wp ?_
        ((try simp only [vd1, vd2, vd3, vd4, vd5, vd6, vd7, reduceCtorEq, Option.some.injEq, vb_ite, vi_ite, List.getD_cons_zero, List.getD_cons_succ, advBR, newB, doBR, advB, doB, w0] at *) <;> grind (splits := 40) [retB, mayB, advBV])
      · have hc : 1 ≤ c ∧ c ≤ p.b - s.h := by simp only [vd1, vd2, vd3, vd4, vd5, vd6, vd7, reduceCtorEq, Option.some.injEq, vb_ite, vi_ite, List.getD_cons_zero, List.getD_cons_succ, advBR, newB, doBR, advB, doB, w0] at c2 c3; simp at c2 c3; exact ⟨c2, c3⟩
        obtain ⟨w5, d1, d2⟩ := mul_fit (x := c) (y := p.p) (by omega) (by omega) (by omega) (by omega)
        have w4 : IntKind.i64.wrap (ml c p.p - advBV p s n) = ml c p.p - avB p s n := by rw [av]; exact wrap_id _ (by omega) (by omega)
        refine call_fun ((p, s, n)) rfl (by simp only [vd1, vd2, vd3, vd4, vd5, vd6, vd7, reduceCtorEq, Option.some.injEq, vb_ite, vi_ite, List.getD_cons_zero, List.getD_cons_succ, advBR, newB, doBR, advB, doB, w0, w4, w5]) trivial ?_
        refine call_fun ((p, (ml c p.p - avB p s n))) rfl (by simp only [vd1, vd2, vd3, vd4, vd5, vd6, vd7, reduceCtorEq, Option.some.injEq, vb_ite, vi_ite, List.getD_cons_zero, List.getD_cons_succ, advBR, newB, doBR, advB, doB, w0, w4, w5]) (by refine ⟨hr.1, ?_⟩; simp only; omega) ?_
        refine ret_wp ?_
        ((try simp only [vd1, vd2, vd3, vd4, vd5, vd6, vd7, reduceCtorEq, Option.some.injEq, vb_ite, vi_ite, List.getD_cons_zero, List.getD_cons_succ, advBR, newB, doBR, advB, doB, w0, w4, w5] at *) <;> grind (splits := 40) [retB, mayB, advBV])
  · refine ret_wp ?_
    ((try simp only [vd1, vd2, vd3, vd4, vd5, vd6, vd7, reduceCtorEq, Option.some.injEq, vb_ite, vi_ite, List.getD_cons_zero, List.getD_cons_succ, advBR, newB, doBR, advB, doB] at *) <;> grind (splits := 40) [retB, mayB, advBV])
def kDoB (sg : Sig) : Sig × Con := (sg, mkFun (fun x : Pol × Stt × Ac => ([aI x.1.k, aI x.1.l, aI x.1.p, aI x.1.b, aI x.1.c, aB x.1.o, aI x.2.1.t, aI x.2.1.v, aI x.2.1.h, Sl.atom x.2.1.g, aI x.2.2.k, aI x.2.2.t, aI x.2.2.c] : List Atom)) (fun _ => True) (fun x => (doB x.1 x.2.1 x.2.2).enc ++ [aB (decide (didB x.1 x.2.1 x.2.2))]))
set_option maxHeartbeats 8000000 in
theorem h31 : holds Try.prog (kDoB sg31) := by
  refine fn_holdsI (l := [kRightB sg44, kAdvB sg46]) ⟨h44, h46, trivial⟩ (inl := [in31_54, in31_69, in31_70, in31_71, in31_72]) (by refine ⟨⟨Try.func54, by kernel_rfl, by kernel_rfl, by kernel_rfl⟩, ⟨Try.func69, by kernel_rfl, by kernel_rfl, by kernel_rfl⟩, ⟨Try.func70, by kernel_rfl, by kernel_rfl, by kernel_rfl⟩, ⟨Try.func71, by kernel_rfl, by kernel_rfl, by kernel_rfl⟩, ⟨Try.func72, by kernel_rfl, by kernel_rfl, by kernel_rfl⟩, trivial⟩) hP rs31 (inj_of (fun l : List Atom => (((⟨vi (l.getD 0 atom0).1, vi (l.getD 1 atom0).1, vi (l.getD 2 atom0).1, vi (l.getD 3 atom0).1, vi (l.getD 4 atom0).1, vb (l.getD 5 atom0).1⟩ : Pol), (⟨vi (l.getD 6 atom0).1, vi (l.getD 7 atom0).1, vi (l.getD 8 atom0).1, (⟨va (l.getD 9 atom0).1, vn (l.getD 9 atom0).1, vc (l.getD 9 atom0).1, (l.getD 9 atom0).2⟩ : Sl)⟩ : Stt), (⟨vi (l.getD 10 atom0).1, vi (l.getD 11 atom0).1, vi (l.getD 12 atom0).1⟩ : Ac)) : Pol × Stt × Ac)) (fun _ => rfl)) Try.func31 (by kernel_rfl) (c := code Try.f31) (by kernel_rfl) (an := an31) (by kernel_rfl) (pk := pk31) rfl (t := t31) (by kernel_rfl) ?_
  rintro ⟨p, s, a⟩ hpre
  refine ⟨by simp [pk31, KindsOk, encPS, encPSn, encPSnc, encPSA, encPn, encSS, encI, Pol.enc, Stt.enc, Ac.enc, Sl.atom, Sl.nil, Stt.zero, RK.ok], ?_⟩
  unfold t31
  refine br_wp (fun c1 => ?_) (fun c1 => ?_)
  · refine call_fun ((p, s)) rfl (by simp only [vd1, vd2, vd3, vd4, vd5, vd6, vd7, reduceCtorEq, Option.some.injEq, vb_ite, vi_ite, List.getD_cons_zero, List.getD_cons_succ, advBR, newB, doBR, advB, doB]) trivial ?_
    refine br_wp (fun c2 => ?_) (fun c2 => ?_)
    · have hr : rightB p s := by simp only [vd1, vd2, vd3, vd4, vd5, vd6, vd7, reduceCtorEq, Option.some.injEq, vb_ite, vi_ite, List.getD_cons_zero, List.getD_cons_succ, advBR, newB, doBR, advB, doB] at c2; exact c2
      obtain ⟨b1, b2, b3, b4, w0, w1, w2, b5⟩ := rightB_bd hr
      have hr2 := hr
      unfold rightB okB at hr2
      have bd := avB_bd a.t hr
      have av : advBV p s a.t = avB p s a.t := by unfold advBV; rw [if_pos hr]
      have ah : advBH p s = s.h := by unfold advBH; rw [if_pos hr]
      have wm := fun (h : 1 ≤ a.c ∧ a.c ≤ p.b) => mul_fit (x := a.c) (y := p.p) (by omega) (by omega) (by omega) (by omega)
      have hcb : ml a.c p.p ≤ avB p s a.t → a.c ≤ p.b - s.h := fun h => ml_leq (p := p.p) (by omega) (by omega)
      refine br_wp (fun c3 => ?_) (fun c3 => ?_)
      · refine need_wp ?_ ?_
        · exact ⟨_, _, _, rfl⟩
        refine ret_wp ?_
        ((try simp only [vd1, vd2, vd3, vd4, vd5, vd6, vd7, reduceCtorEq, Option.some.injEq, vb_ite, vi_ite, List.getD_cons_zero, List.getD_cons_succ, advBR, newB, doBR, advB, doB] at *) <;> grind (splits := 40) [doBT, doBV, doBH, doBG, didB, advBT, advBV, advBH, Sl.nil])
      · refine br_wp (fun c4 => ?_) (fun c4 => ?_)
        · refine need_wp ?_ ?_
          · exact ⟨_, _, _, rfl⟩
          refine ret_wp ?_
          ((try simp only [vd1, vd2, vd3, vd4, vd5, vd6, vd7, reduceCtorEq, Option.some.injEq, vb_ite, vi_ite, List.getD_cons_zero, List.getD_cons_succ, advBR, newB, doBR, advB, doB] at *) <;> grind (splits := 40) [doBT, doBV, doBH, doBG, didB, advBT, advBV, advBH, Sl.nil])
        · have hc : 1 ≤ a.c ∧ a.c ≤ p.b := by simp only [vd1, vd2, vd3, vd4, vd5, vd6, vd7, reduceCtorEq, Option.some.injEq, vb_ite, vi_ite, List.getD_cons_zero, List.getD_cons_succ, advBR, newB, doBR, advB, doB] at c3 c4; simp at c3 c4; exact ⟨c3, c4⟩
          obtain ⟨w3, d1, d2⟩ := wm hc
          have w4 : IntKind.i64.wrap (avB p s a.t - ml a.c p.p) = avB p s a.t - ml a.c p.p := wrap_id _ (by omega) (by omega)
          have w5 : IntKind.i64.wrap (avB p s a.t + ml a.c p.p) = avB p s a.t + ml a.c p.p := wrap_id _ (by omega) (by omega)
          have w6 : IntKind.i64.wrap (s.h - a.c) = s.h - a.c := wrap_id _ (by omega) (by omega)
          have w7 : IntKind.i64.wrap (s.h + a.c) = s.h + a.c := wrap_id _ (by omega) (by omega)
          refine call_fun ((p, s, a.t)) rfl (by simp only [vd1, vd2, vd3, vd4, vd5, vd6, vd7, reduceCtorEq, Option.some.injEq, vb_ite, vi_ite, List.getD_cons_zero, List.getD_cons_succ, advBR, newB, doBR, advB, doB, av, ah, w3, w4, w5, w6, w7]) trivial ?_
          refine br_wp (fun c5 => ?_) (fun c5 => ?_)
          · refine need_wp ?_ ?_
            · exact ⟨_, _, _, rfl⟩
            refine ret_wp ?_
            ((try simp only [vd1, vd2, vd3, vd4, vd5, vd6, vd7, reduceCtorEq, Option.some.injEq, vb_ite, vi_ite, List.getD_cons_zero, List.getD_cons_succ, advBR, newB, doBR, advB, doB, av, ah, w3, w4, w5, w6, w7] at *) <;> grind (splits := 40) [doBT, doBV, doBH, doBG, didB, advBT, advBV, advBH, Sl.nil])
          · refine need_wp ?_ ?_
            · exact ⟨_, _, _, rfl⟩
            refine ret_wp ?_
            ((try simp only [vd1, vd2, vd3, vd4, vd5, vd6, vd7, reduceCtorEq, Option.some.injEq, vb_ite, vi_ite, List.getD_cons_zero, List.getD_cons_succ, advBR, newB, doBR, advB, doB, av, ah, w3, w4, w5, w6, w7] at *) <;> grind (splits := 40) [doBT, doBV, doBH, doBG, didB, advBT, advBV, advBH, Sl.nil])
    · refine need_wp ?_ ?_
      · exact ⟨_, _, _, rfl⟩
      refine ret_wp ?_
      ((try simp only [vd1, vd2, vd3, vd4, vd5, vd6, vd7, reduceCtorEq, Option.some.injEq, vb_ite, vi_ite, List.getD_cons_zero, List.getD_cons_succ, advBR, newB, doBR, advB, doB] at *) <;> grind (splits := 40) [doBT, doBV, doBH, doBG, didB, advBT, advBV, advBH, Sl.nil])
  · refine br_wp (fun c6 => ?_) (fun c6 => ?_)
    · refine call_fun ((p, s)) rfl (by simp only [vd1, vd2, vd3, vd4, vd5, vd6, vd7, reduceCtorEq, Option.some.injEq, vb_ite, vi_ite, List.getD_cons_zero, List.getD_cons_succ, advBR, newB, doBR, advB, doB]) trivial ?_
      refine br_wp (fun c7 => ?_) (fun c7 => ?_)
      · have hr : rightB p s := by simp only [vd1, vd2, vd3, vd4, vd5, vd6, vd7, reduceCtorEq, Option.some.injEq, vb_ite, vi_ite, List.getD_cons_zero, List.getD_cons_succ, advBR, newB, doBR, advB, doB] at c7; exact c7
        obtain ⟨b1, b2, b3, b4, w0, w1, w2, b5⟩ := rightB_bd hr
        have hr2 := hr
        unfold rightB okB at hr2
        have bd := avB_bd a.t hr
        have av : advBV p s a.t = avB p s a.t := by unfold advBV; rw [if_pos hr]
        have ah : advBH p s = s.h := by unfold advBH; rw [if_pos hr]
        have wm := fun (h : 1 ≤ a.c ∧ a.c ≤ p.b) => mul_fit (x := a.c) (y := p.p) (by omega) (by omega) (by omega) (by omega)
        have hcb : ml a.c p.p ≤ avB p s a.t → a.c ≤ p.b - s.h := fun h => ml_leq (p := p.p) (by omega) (by omega)
        refine br_wp (fun c8 => ?_) (fun c8 => ?_)
        · refine need_wp ?_ ?_
          · exact ⟨_, _, _, rfl⟩
          refine ret_wp ?_
          ((try simp only [vd1, vd2, vd3, vd4, vd5, vd6, vd7, reduceCtorEq, Option.some.injEq, vb_ite, vi_ite, List.getD_cons_zero, List.getD_cons_succ, advBR, newB, doBR, advB, doB] at *) <;> grind (splits := 40) [doBT, doBV, doBH, doBG, didB, advBT, advBV, advBH, Sl.nil])
        · refine br_wp (fun c9 => ?_) (fun c9 => ?_)
          · refine need_wp ?_ ?_
            · exact ⟨_, _, _, rfl⟩
            refine ret_wp ?_
            ((try simp only [vd1, vd2, vd3, vd4, vd5, vd6, vd7, reduceCtorEq, Option.some.injEq, vb_ite, vi_ite, List.getD_cons_zero, List.getD_cons_succ, advBR, newB, doBR, advB, doB] at *) <;> grind (splits := 40) [doBT, doBV, doBH, doBG, didB, advBT, advBV, advBH, Sl.nil])
          · have hc : 1 ≤ a.c ∧ a.c ≤ p.b := by simp only [vd1, vd2, vd3, vd4, vd5, vd6, vd7, reduceCtorEq, Option.some.injEq, vb_ite, vi_ite, List.getD_cons_zero, List.getD_cons_succ, advBR, newB, doBR, advB, doB] at c8 c9; simp at c8 c9; exact ⟨c8, c9⟩
            obtain ⟨w3, d1, d2⟩ := wm hc
            have w4 : IntKind.i64.wrap (avB p s a.t - ml a.c p.p) = avB p s a.t - ml a.c p.p := wrap_id _ (by omega) (by omega)
            have w5 : IntKind.i64.wrap (avB p s a.t + ml a.c p.p) = avB p s a.t + ml a.c p.p := wrap_id _ (by omega) (by omega)
            have w6 : IntKind.i64.wrap (s.h - a.c) = s.h - a.c := wrap_id _ (by omega) (by omega)
            have w7 : IntKind.i64.wrap (s.h + a.c) = s.h + a.c := wrap_id _ (by omega) (by omega)
            refine call_fun ((p, s, a.t)) rfl (by simp only [vd1, vd2, vd3, vd4, vd5, vd6, vd7, reduceCtorEq, Option.some.injEq, vb_ite, vi_ite, List.getD_cons_zero, List.getD_cons_succ, advBR, newB, doBR, advB, doB, av, ah, w3, w4, w5, w6, w7]) trivial ?_
            refine br_wp (fun c10 => ?_) (fun c10 => ?_)
            · refine need_wp ?_ ?_
              · exact ⟨_, _, _, rfl⟩
              refine ret_wp ?_
              ((try simp only [vd1, vd2, vd3, vd4, vd5, vd6, vd7, reduceCtorEq, Option.some.injEq, vb_ite, vi_ite, List.getD_cons_zero, List.getD_cons_succ, advBR, newB, doBR, advB, doB, av, ah, w3, w4, w5, w6, w7] at *) <;> grind (splits := 40) [doBT, doBV, doBH, doBG, didB, advBT, advBV, advBH, Sl.nil])
            · refine need_wp ?_ ?_
              · exact ⟨_, _, _, rfl⟩
              refine ret_wp ?_
              ((try simp only [vd1, vd2, vd3, vd4, vd5, vd6, vd7, reduceCtorEq, Option.some.injEq, vb_ite, vi_ite, List.getD_cons_zero, List.getD_cons_succ, advBR, newB, doBR, advB, doB, av, ah, w3, w4, w5, w6, w7] at *) <;> grind (splits := 40) [doBT, doBV, doBH, doBG, didB, advBT, advBV, advBH, Sl.nil])
      · refine need_wp ?_ ?_
        · exact ⟨_, _, _, rfl⟩
        refine ret_wp ?_
        ((try simp only [vd1, vd2, vd3, vd4, vd5, vd6, vd7, reduceCtorEq, Option.some.injEq, vb_ite, vi_ite, List.getD_cons_zero, List.getD_cons_succ, advBR, newB, doBR, advB, doB] at *) <;> grind (splits := 40) [doBT, doBV, doBH, doBG, didB, advBT, advBV, advBH, Sl.nil])
    · refine br_wp (fun c11 => ?_) (fun c11 => ?_)
      · refine call_fun ((p, s)) rfl (by simp only [vd1, vd2, vd3, vd4, vd5, vd6, vd7, reduceCtorEq, Option.some.injEq, vb_ite, vi_ite, List.getD_cons_zero, List.getD_cons_succ, advBR, newB, doBR, advB, doB]) trivial ?_
        refine br_wp (fun c12 => ?_) (fun c12 => ?_)
        · have hr : rightB p s := by simp only [vd1, vd2, vd3, vd4, vd5, vd6, vd7, reduceCtorEq, Option.some.injEq, vb_ite, vi_ite, List.getD_cons_zero, List.getD_cons_succ, advBR, newB, doBR, advB, doB] at c12; exact c12
          obtain ⟨b1, b2, b3, b4, w0, w1, w2, b5⟩ := rightB_bd hr
          have hr2 := hr
          unfold rightB okB at hr2
          have bd := avB_bd a.t hr
          have av : advBV p s a.t = avB p s a.t := by unfold advBV; rw [if_pos hr]
          have ah : advBH p s = s.h := by unfold advBH; rw [if_pos hr]
          have wm := fun (h : 1 ≤ a.c ∧ a.c ≤ p.b) => mul_fit (x := a.c) (y := p.p) (by omega) (by omega) (by omega) (by omega)
          have hcb : ml a.c p.p ≤ avB p s a.t → a.c ≤ p.b - s.h := fun h => ml_leq (p := p.p) (by omega) (by omega)
          refine br_wp (fun c13 => ?_) (fun c13 => ?_)
          · refine need_wp ?_ ?_
            · exact ⟨_, _, _, rfl⟩
            refine ret_wp ?_
            ((try simp only [vd1, vd2, vd3, vd4, vd5, vd6, vd7, reduceCtorEq, Option.some.injEq, vb_ite, vi_ite, List.getD_cons_zero, List.getD_cons_succ, advBR, newB, doBR, advB, doB] at *) <;> grind (splits := 40) [doBT, doBV, doBH, doBG, didB, advBT, advBV, advBH, Sl.nil])
          · refine br_wp (fun c14 => ?_) (fun c14 => ?_)
            · refine need_wp ?_ ?_
              · exact ⟨_, _, _, rfl⟩
              refine ret_wp ?_
              ((try simp only [vd1, vd2, vd3, vd4, vd5, vd6, vd7, reduceCtorEq, Option.some.injEq, vb_ite, vi_ite, List.getD_cons_zero, List.getD_cons_succ, advBR, newB, doBR, advB, doB] at *) <;> grind (splits := 40) [doBT, doBV, doBH, doBG, didB, advBT, advBV, advBH, Sl.nil])
            · have hc : 1 ≤ a.c ∧ a.c ≤ p.b := by simp only [vd1, vd2, vd3, vd4, vd5, vd6, vd7, reduceCtorEq, Option.some.injEq, vb_ite, vi_ite, List.getD_cons_zero, List.getD_cons_succ, advBR, newB, doBR, advB, doB] at c13 c14; simp at c13 c14; exact ⟨c13, c14⟩
              obtain ⟨w3, d1, d2⟩ := wm hc
              have w4 : IntKind.i64.wrap (avB p s a.t - ml a.c p.p) = avB p s a.t - ml a.c p.p := wrap_id _ (by omega) (by omega)
              have w5 : IntKind.i64.wrap (avB p s a.t + ml a.c p.p) = avB p s a.t + ml a.c p.p := wrap_id _ (by omega) (by omega)
              have w6 : IntKind.i64.wrap (s.h - a.c) = s.h - a.c := wrap_id _ (by omega) (by omega)
              have w7 : IntKind.i64.wrap (s.h + a.c) = s.h + a.c := wrap_id _ (by omega) (by omega)
              refine call_fun ((p, s, a.t)) rfl (by simp only [vd1, vd2, vd3, vd4, vd5, vd6, vd7, reduceCtorEq, Option.some.injEq, vb_ite, vi_ite, List.getD_cons_zero, List.getD_cons_succ, advBR, newB, doBR, advB, doB, av, ah, w3, w4, w5, w6, w7]) trivial ?_
              refine br_wp (fun c15 => ?_) (fun c15 => ?_)
              · refine need_wp ?_ ?_
                · exact ⟨_, _, _, rfl⟩
                refine ret_wp ?_
                ((try simp only [vd1, vd2, vd3, vd4, vd5, vd6, vd7, reduceCtorEq, Option.some.injEq, vb_ite, vi_ite, List.getD_cons_zero, List.getD_cons_succ, advBR, newB, doBR, advB, doB, av, ah, w3, w4, w5, w6, w7] at *) <;> grind (splits := 40) [doBT, doBV, doBH, doBG, didB, advBT, advBV, advBH, Sl.nil])
              · refine need_wp ?_ ?_
                · exact ⟨_, _, _, rfl⟩
                refine ret_wp ?_
                ((try simp only [vd1, vd2, vd3, vd4, vd5, vd6, vd7, reduceCtorEq, Option.some.injEq, vb_ite, vi_ite, List.getD_cons_zero, List.getD_cons_succ, advBR, newB, doBR, advB, doB, av, ah, w3, w4, w5, w6, w7] at *) <;> grind (splits := 40) [doBT, doBV, doBH, doBG, didB, advBT, advBV, advBH, Sl.nil])
        · refine need_wp ?_ ?_
          · exact ⟨_, _, _, rfl⟩
          refine ret_wp ?_
          ((try simp only [vd1, vd2, vd3, vd4, vd5, vd6, vd7, reduceCtorEq, Option.some.injEq, vb_ite, vi_ite, List.getD_cons_zero, List.getD_cons_succ, advBR, newB, doBR, advB, doB] at *) <;> grind (splits := 40) [doBT, doBV, doBH, doBG, didB, advBT, advBV, advBH, Sl.nil])
      · refine br_wp (fun c16 => ?_) (fun c16 => ?_)
        · refine call_fun ((p, s)) rfl (by simp only [vd1, vd2, vd3, vd4, vd5, vd6, vd7, reduceCtorEq, Option.some.injEq, vb_ite, vi_ite, List.getD_cons_zero, List.getD_cons_succ, advBR, newB, doBR, advB, doB]) trivial ?_
          refine br_wp (fun c17 => ?_) (fun c17 => ?_)
          · have hr : rightB p s := by simp only [vd1, vd2, vd3, vd4, vd5, vd6, vd7, reduceCtorEq, Option.some.injEq, vb_ite, vi_ite, List.getD_cons_zero, List.getD_cons_succ, advBR, newB, doBR, advB, doB] at c17; exact c17
            obtain ⟨b1, b2, b3, b4, w0, w1, w2, b5⟩ := rightB_bd hr
            have hr2 := hr
            unfold rightB okB at hr2
            have bd := avB_bd a.t hr
            have av : advBV p s a.t = avB p s a.t := by unfold advBV; rw [if_pos hr]
            have ah : advBH p s = s.h := by unfold advBH; rw [if_pos hr]
            have wm := fun (h : 1 ≤ a.c ∧ a.c ≤ p.b) => mul_fit (x := a.c) (y := p.p) (by omega) (by omega) (by omega) (by omega)
            have hcb : ml a.c p.p ≤ avB p s a.t → a.c ≤ p.b - s.h := fun h => ml_leq (p := p.p) (by omega) (by omega)
            refine br_wp (fun c18 => ?_) (fun c18 => ?_)
            · refine need_wp ?_ ?_
              · exact ⟨_, _, _, rfl⟩
              refine ret_wp ?_
              ((try simp only [vd1, vd2, vd3, vd4, vd5, vd6, vd7, reduceCtorEq, Option.some.injEq, vb_ite, vi_ite, List.getD_cons_zero, List.getD_cons_succ, advBR, newB, doBR, advB, doB] at *) <;> grind (splits := 40) [doBT, doBV, doBH, doBG, didB, advBT, advBV, advBH, Sl.nil])
            · refine br_wp (fun c19 => ?_) (fun c19 => ?_)
              · refine need_wp ?_ ?_
                · exact ⟨_, _, _, rfl⟩
                refine ret_wp ?_
                ((try simp only [vd1, vd2, vd3, vd4, vd5, vd6, vd7, reduceCtorEq, Option.some.injEq, vb_ite, vi_ite, List.getD_cons_zero, List.getD_cons_succ, advBR, newB, doBR, advB, doB] at *) <;> grind (splits := 40) [doBT, doBV, doBH, doBG, didB, advBT, advBV, advBH, Sl.nil])
              · have hc : 1 ≤ a.c ∧ a.c ≤ p.b := by simp only [vd1, vd2, vd3, vd4, vd5, vd6, vd7, reduceCtorEq, Option.some.injEq, vb_ite, vi_ite, List.getD_cons_zero, List.getD_cons_succ, advBR, newB, doBR, advB, doB] at c18 c19; simp at c18 c19; exact ⟨c18, c19⟩
                obtain ⟨w3, d1, d2⟩ := wm hc
                have w4 : IntKind.i64.wrap (avB p s a.t - ml a.c p.p) = avB p s a.t - ml a.c p.p := wrap_id _ (by omega) (by omega)
                have w5 : IntKind.i64.wrap (avB p s a.t + ml a.c p.p) = avB p s a.t + ml a.c p.p := wrap_id _ (by omega) (by omega)
                have w6 : IntKind.i64.wrap (s.h - a.c) = s.h - a.c := wrap_id _ (by omega) (by omega)
                have w7 : IntKind.i64.wrap (s.h + a.c) = s.h + a.c := wrap_id _ (by omega) (by omega)
                refine call_fun ((p, s, a.t)) rfl (by simp only [vd1, vd2, vd3, vd4, vd5, vd6, vd7, reduceCtorEq, Option.some.injEq, vb_ite, vi_ite, List.getD_cons_zero, List.getD_cons_succ, advBR, newB, doBR, advB, doB, av, ah, w3, w4, w5, w6, w7]) trivial ?_
                refine br_wp (fun c20 => ?_) (fun c20 => ?_)
                · refine need_wp ?_ ?_
                  · exact ⟨_, _, _, rfl⟩
                  refine ret_wp ?_
                  ((try simp only [vd1, vd2, vd3, vd4, vd5, vd6, vd7, reduceCtorEq, Option.some.injEq, vb_ite, vi_ite, List.getD_cons_zero, List.getD_cons_succ, advBR, newB, doBR, advB, doB, av, ah, w3, w4, w5, w6, w7] at *) <;> grind (splits := 40) [doBT, doBV, doBH, doBG, didB, advBT, advBV, advBH, Sl.nil])
                · refine need_wp ?_ ?_
                  · exact ⟨_, _, _, rfl⟩
                  refine ret_wp ?_
                  ((try simp only [vd1, vd2, vd3, vd4, vd5, vd6, vd7, reduceCtorEq, Option.some.injEq, vb_ite, vi_ite, List.getD_cons_zero, List.getD_cons_succ, advBR, newB, doBR, advB, doB, av, ah, w3, w4, w5, w6, w7] at *) <;> grind (splits := 40) [doBT, doBV, doBH, doBG, didB, advBT, advBV, advBH, Sl.nil])
          · refine need_wp ?_ ?_
            · exact ⟨_, _, _, rfl⟩
            refine ret_wp ?_
            ((try simp only [vd1, vd2, vd3, vd4, vd5, vd6, vd7, reduceCtorEq, Option.some.injEq, vb_ite, vi_ite, List.getD_cons_zero, List.getD_cons_succ, advBR, newB, doBR, advB, doB] at *) <;> grind (splits := 40) [doBT, doBV, doBH, doBG, didB, advBT, advBV, advBH, Sl.nil])
        · refine call_fun ((p, s)) rfl (by simp only [vd1, vd2, vd3, vd4, vd5, vd6, vd7, reduceCtorEq, Option.some.injEq, vb_ite, vi_ite, List.getD_cons_zero, List.getD_cons_succ, advBR, newB, doBR, advB, doB]) trivial ?_
          refine br_wp (fun c21 => ?_) (fun c21 => ?_)
          · have hr : rightB p s := by simp only [vd1, vd2, vd3, vd4, vd5, vd6, vd7, reduceCtorEq, Option.some.injEq, vb_ite, vi_ite, List.getD_cons_zero, List.getD_cons_succ, advBR, newB, doBR, advB, doB] at c21; exact c21
            obtain ⟨b1, b2, b3, b4, w0, w1, w2, b5⟩ := rightB_bd hr
            have hr2 := hr
            unfold rightB okB at hr2
            have bd := avB_bd a.t hr
            have av : advBV p s a.t = avB p s a.t := by unfold advBV; rw [if_pos hr]
            have ah : advBH p s = s.h := by unfold advBH; rw [if_pos hr]
            have wm := fun (h : 1 ≤ a.c ∧ a.c ≤ p.b) => mul_fit (x := a.c) (y := p.p) (by omega) (by omega) (by omega) (by omega)
            have hcb : ml a.c p.p ≤ avB p s a.t → a.c ≤ p.b - s.h := fun h => ml_leq (p := p.p) (by omega) (by omega)
            refine need_wp ?_ ?_
            · exact ⟨_, _, _, rfl⟩
            refine ret_wp ?_
            ((try simp only [vd1, vd2, vd3, vd4, vd5, vd6, vd7, reduceCtorEq, Option.some.injEq, vb_ite, vi_ite, List.getD_cons_zero, List.getD_cons_succ, advBR, newB, doBR, advB, doB] at *) <;> grind (splits := 40) [doBT, doBV, doBH, doBG, didB, advBT, advBV, advBH, Sl.nil])
          · refine need_wp ?_ ?_
            · exact ⟨_, _, _, rfl⟩
            refine ret_wp ?_
            ((try simp only [vd1, vd2, vd3, vd4, vd5, vd6, vd7, reduceCtorEq, Option.some.injEq, vb_ite, vi_ite, List.getD_cons_zero, List.getD_cons_succ, advBR, newB, doBR, advB, doB] at *) <;> grind (splits := 40) [doBT, doBV, doBH, doBG, didB, advBT, advBV, advBH, Sl.nil])
set_option maxHeartbeats 4000000 in
theorem h27 : holds Try.prog (kSmall sg27) := by
  refine fn_holds (l := []) trivial hP rs27 (inj_of (fun l : List Atom => ((⟨va (l.getD 0 atom0).1, vn (l.getD 0 atom0).1, vc (l.getD 0 atom0).1, (l.getD 0 atom0).2⟩ : Sl) : Sl)) (fun _ => rfl)) Try.func27 (by kernel_rfl) (c := code Try.f27) (by kernel_rfl) (an := an27) (by kernel_rfl) (pk := pk27) rfl (t := t27) (by kernel_rfl) ?_
  rintro l hpre
  refine ⟨by simp [pk27, KindsOk, encPS, encPSn, encPSnc, encPSA, encPn, encSS, encI, Pol.enc, Stt.enc, Ac.enc, Sl.atom, Sl.nil, Stt.zero, RK.ok], ?_⟩
  unfold t27
  refine need_wp ?_ ?_
  · exact ⟨_, _, _, rfl⟩
  refine ret_wp ?_
  simp only [vd1, vd2, vd3, vd4, vd5, vd6, vd7, reduceCtorEq, Option.some.injEq, vb_ite, vi_ite, List.getD_cons_zero, List.getD_cons_succ]
set_option maxHeartbeats 4000000 in
theorem h28 : holds Try.prog (kKnown sg28) := by
  refine fn_holds (l := [kNewB sg30, kDoB sg31, kRetB sg42, kChk4 sg48]) ⟨h30, h31, h42, h48, trivial⟩ hP rs28 (inj_of (fun l : List Atom => (() : Unit)) (fun _ => rfl)) Try.func28 (by kernel_rfl) (c := code Try.f28) (by kernel_rfl) (an := an28) (by kernel_rfl) (pk := pk28) rfl (t := t28) (by kernel_rfl) ?_
  rintro _ hpre
  refine ⟨by simp [pk28, KindsOk, encPS, encPSn, encPSnc, encPSA, encPn, encSS, encI, Pol.enc, Stt.enc, Ac.enc, Sl.atom, Sl.nil, Stt.zero, RK.ok], ?_⟩
  unfold t28
  refine call_fun (((⟨1, 10, 1000, 5, 0, false⟩ : Pol), 0)) rfl (by simp only [vd1, vd2, vd3, vd4, vd5, vd6, vd7, reduceCtorEq, Option.some.injEq, vb_ite, vi_ite, List.getD_cons_zero, List.getD_cons_succ, advBR, newB, doBR, advB, doB]) trivial ?_
  refine call_fun (((⟨1, 10, 1000, 5, 0, false⟩ : Pol), (newB (⟨1, 10, 1000, 5, 0, false⟩ : Pol) 0), (⟨1, 0, 5⟩ : Ac))) rfl (by simp only [vd1, vd2, vd3, vd4, vd5, vd6, vd7, reduceCtorEq, Option.some.injEq, vb_ite, vi_ite, List.getD_cons_zero, List.getD_cons_succ, advBR, newB, doBR, advB, doB]) trivial ?_
  refine call_fun (((⟨1, 10, 1000, 5, 0, false⟩ : Pol), (doB (⟨1, 10, 1000, 5, 0, false⟩ : Pol) (newB (⟨1, 10, 1000, 5, 0, false⟩ : Pol) 0) (⟨1, 0, 5⟩ : Ac)), (⟨1, 0, 1⟩ : Ac))) rfl (by simp only [vd1, vd2, vd3, vd4, vd5, vd6, vd7, reduceCtorEq, Option.some.injEq, vb_ite, vi_ite, List.getD_cons_zero, List.getD_cons_succ, advBR, newB, doBR, advB, doB]) trivial ?_
  refine call_fun (((⟨1, 10, 1000, 5, 0, false⟩ : Pol), (doB (⟨1, 10, 1000, 5, 0, false⟩ : Pol) (newB (⟨1, 10, 1000, 5, 0, false⟩ : Pol) 0) (⟨1, 0, 5⟩ : Ac)), 0, 1)) rfl (by simp only [vd1, vd2, vd3, vd4, vd5, vd6, vd7, reduceCtorEq, Option.some.injEq, vb_ite, vi_ite, List.getD_cons_zero, List.getD_cons_succ, advBR, newB, doBR, advB, doB]) trivial ?_
  refine br_wp (fun c1 => ?_) (fun c1 => ?_)
  · refine br_wp (fun c2 => ?_) (fun c2 => ?_)
    · refine ret_wp ?_
      first | rfl | (exfalso; revert c1; simp only [vd1, vd2, vd3, vd4, vd5, vd6, vd7, reduceCtorEq, Option.some.injEq, vb_ite, vi_ite, List.getD_cons_zero, List.getD_cons_succ, advBR, newB, doBR, advB, doB]; decide +kernel) | (exfalso; revert c2; simp only [vd1, vd2, vd3, vd4, vd5, vd6, vd7, reduceCtorEq, Option.some.injEq, vb_ite, vi_ite, List.getD_cons_zero, List.getD_cons_succ, advBR, newB, doBR, advB, doB]; decide +kernel) | (exfalso; revert c3; simp only [vd1, vd2, vd3, vd4, vd5, vd6, vd7, reduceCtorEq, Option.some.injEq, vb_ite, vi_ite, List.getD_cons_zero, List.getD_cons_succ, advBR, newB, doBR, advB, doB]; decide +kernel) | (exfalso; revert c4; simp only [vd1, vd2, vd3, vd4, vd5, vd6, vd7, reduceCtorEq, Option.some.injEq, vb_ite, vi_ite, List.getD_cons_zero, List.getD_cons_succ, advBR, newB, doBR, advB, doB]; decide +kernel) | (exfalso; revert c5; simp only [vd1, vd2, vd3, vd4, vd5, vd6, vd7, reduceCtorEq, Option.some.injEq, vb_ite, vi_ite, List.getD_cons_zero, List.getD_cons_succ, advBR, newB, doBR, advB, doB]; decide +kernel) | (exfalso; revert c6; simp only [vd1, vd2, vd3, vd4, vd5, vd6, vd7, reduceCtorEq, Option.some.injEq, vb_ite, vi_ite, List.getD_cons_zero, List.getD_cons_succ, advBR, newB, doBR, advB, doB]; decide +kernel) | (simp only [vd1, vd2, vd3, vd4, vd5, vd6, vd7, reduceCtorEq, Option.some.injEq, vb_ite, vi_ite, List.getD_cons_zero, List.getD_cons_succ, advBR, newB, doBR, advB, doB]; decide +kernel)
    · refine br_wp (fun c3 => ?_) (fun c3 => ?_)
      · refine br_wp (fun c4 => ?_) (fun c4 => ?_)
        · refine call_fun ((⟨0, 0, 0, 0, 0, false⟩ : Pol)) rfl (by simp only [vd1, vd2, vd3, vd4, vd5, vd6, vd7, reduceCtorEq, Option.some.injEq, vb_ite, vi_ite, List.getD_cons_zero, List.getD_cons_succ, advBR, newB, doBR, advB, doB]) trivial ?_
          refine ret_wp ?_
          first | rfl | (exfalso; revert c1; simp only [vd1, vd2, vd3, vd4, vd5, vd6, vd7, reduceCtorEq, Option.some.injEq, vb_ite, vi_ite, List.getD_cons_zero, List.getD_cons_succ, advBR, newB, doBR, advB, doB]; decide +kernel) | (exfalso; revert c2; simp only [vd1, vd2, vd3, vd4, vd5, vd6, vd7, reduceCtorEq, Option.some.injEq, vb_ite, vi_ite, List.getD_cons_zero, List.getD_cons_succ, advBR, newB, doBR, advB, doB]; decide +kernel) | (exfalso; revert c3; simp only [vd1, vd2, vd3, vd4, vd5, vd6, vd7, reduceCtorEq, Option.some.injEq, vb_ite, vi_ite, List.getD_cons_zero, List.getD_cons_succ, advBR, newB, doBR, advB, doB]; decide +kernel) | (exfalso; revert c4; simp only [vd1, vd2, vd3, vd4, vd5, vd6, vd7, reduceCtorEq, Option.some.injEq, vb_ite, vi_ite, List.getD_cons_zero, List.getD_cons_succ, advBR, newB, doBR, advB, doB]; decide +kernel) | (exfalso; revert c5; simp only [vd1, vd2, vd3, vd4, vd5, vd6, vd7, reduceCtorEq, Option.some.injEq, vb_ite, vi_ite, List.getD_cons_zero, List.getD_cons_succ, advBR, newB, doBR, advB, doB]; decide +kernel) | (exfalso; revert c6; simp only [vd1, vd2, vd3, vd4, vd5, vd6, vd7, reduceCtorEq, Option.some.injEq, vb_ite, vi_ite, List.getD_cons_zero, List.getD_cons_succ, advBR, newB, doBR, advB, doB]; decide +kernel) | (simp only [vd1, vd2, vd3, vd4, vd5, vd6, vd7, reduceCtorEq, Option.some.injEq, vb_ite, vi_ite, List.getD_cons_zero, List.getD_cons_succ, advBR, newB, doBR, advB, doB]; decide +kernel)
        · refine ret_wp ?_
          first | rfl | (exfalso; revert c1; simp only [vd1, vd2, vd3, vd4, vd5, vd6, vd7, reduceCtorEq, Option.some.injEq, vb_ite, vi_ite, List.getD_cons_zero, List.getD_cons_succ, advBR, newB, doBR, advB, doB]; decide +kernel) | (exfalso; revert c2; simp only [vd1, vd2, vd3, vd4, vd5, vd6, vd7, reduceCtorEq, Option.some.injEq, vb_ite, vi_ite, List.getD_cons_zero, List.getD_cons_succ, advBR, newB, doBR, advB, doB]; decide +kernel) | (exfalso; revert c3; simp only [vd1, vd2, vd3, vd4, vd5, vd6, vd7, reduceCtorEq, Option.some.injEq, vb_ite, vi_ite, List.getD_cons_zero, List.getD_cons_succ, advBR, newB, doBR, advB, doB]; decide +kernel) | (exfalso; revert c4; simp only [vd1, vd2, vd3, vd4, vd5, vd6, vd7, reduceCtorEq, Option.some.injEq, vb_ite, vi_ite, List.getD_cons_zero, List.getD_cons_succ, advBR, newB, doBR, advB, doB]; decide +kernel) | (exfalso; revert c5; simp only [vd1, vd2, vd3, vd4, vd5, vd6, vd7, reduceCtorEq, Option.some.injEq, vb_ite, vi_ite, List.getD_cons_zero, List.getD_cons_succ, advBR, newB, doBR, advB, doB]; decide +kernel) | (exfalso; revert c6; simp only [vd1, vd2, vd3, vd4, vd5, vd6, vd7, reduceCtorEq, Option.some.injEq, vb_ite, vi_ite, List.getD_cons_zero, List.getD_cons_succ, advBR, newB, doBR, advB, doB]; decide +kernel) | (simp only [vd1, vd2, vd3, vd4, vd5, vd6, vd7, reduceCtorEq, Option.some.injEq, vb_ite, vi_ite, List.getD_cons_zero, List.getD_cons_succ, advBR, newB, doBR, advB, doB]; decide +kernel)
      · refine ret_wp ?_
        first | rfl | (exfalso; revert c1; simp only [vd1, vd2, vd3, vd4, vd5, vd6, vd7, reduceCtorEq, Option.some.injEq, vb_ite, vi_ite, List.getD_cons_zero, List.getD_cons_succ, advBR, newB, doBR, advB, doB]; decide +kernel) | (exfalso; revert c2; simp only [vd1, vd2, vd3, vd4, vd5, vd6, vd7, reduceCtorEq, Option.some.injEq, vb_ite, vi_ite, List.getD_cons_zero, List.getD_cons_succ, advBR, newB, doBR, advB, doB]; decide +kernel) | (exfalso; revert c3; simp only [vd1, vd2, vd3, vd4, vd5, vd6, vd7, reduceCtorEq, Option.some.injEq, vb_ite, vi_ite, List.getD_cons_zero, List.getD_cons_succ, advBR, newB, doBR, advB, doB]; decide +kernel) | (exfalso; revert c4; simp only [vd1, vd2, vd3, vd4, vd5, vd6, vd7, reduceCtorEq, Option.some.injEq, vb_ite, vi_ite, List.getD_cons_zero, List.getD_cons_succ, advBR, newB, doBR, advB, doB]; decide +kernel) | (exfalso; revert c5; simp only [vd1, vd2, vd3, vd4, vd5, vd6, vd7, reduceCtorEq, Option.some.injEq, vb_ite, vi_ite, List.getD_cons_zero, List.getD_cons_succ, advBR, newB, doBR, advB, doB]; decide +kernel) | (exfalso; revert c6; simp only [vd1, vd2, vd3, vd4, vd5, vd6, vd7, reduceCtorEq, Option.some.injEq, vb_ite, vi_ite, List.getD_cons_zero, List.getD_cons_succ, advBR, newB, doBR, advB, doB]; decide +kernel) | (simp only [vd1, vd2, vd3, vd4, vd5, vd6, vd7, reduceCtorEq, Option.some.injEq, vb_ite, vi_ite, List.getD_cons_zero, List.getD_cons_succ, advBR, newB, doBR, advB, doB]; decide +kernel)
  · refine ret_wp ?_
    first | rfl | (exfalso; revert c1; simp only [vd1, vd2, vd3, vd4, vd5, vd6, vd7, reduceCtorEq, Option.some.injEq, vb_ite, vi_ite, List.getD_cons_zero, List.getD_cons_succ, advBR, newB, doBR, advB, doB]; decide +kernel) | (exfalso; revert c2; simp only [vd1, vd2, vd3, vd4, vd5, vd6, vd7, reduceCtorEq, Option.some.injEq, vb_ite, vi_ite, List.getD_cons_zero, List.getD_cons_succ, advBR, newB, doBR, advB, doB]; decide +kernel) | (exfalso; revert c3; simp only [vd1, vd2, vd3, vd4, vd5, vd6, vd7, reduceCtorEq, Option.some.injEq, vb_ite, vi_ite, List.getD_cons_zero, List.getD_cons_succ, advBR, newB, doBR, advB, doB]; decide +kernel) | (exfalso; revert c4; simp only [vd1, vd2, vd3, vd4, vd5, vd6, vd7, reduceCtorEq, Option.some.injEq, vb_ite, vi_ite, List.getD_cons_zero, List.getD_cons_succ, advBR, newB, doBR, advB, doB]; decide +kernel) | (exfalso; revert c5; simp only [vd1, vd2, vd3, vd4, vd5, vd6, vd7, reduceCtorEq, Option.some.injEq, vb_ite, vi_ite, List.getD_cons_zero, List.getD_cons_succ, advBR, newB, doBR, advB, doB]; decide +kernel) | (exfalso; revert c6; simp only [vd1, vd2, vd3, vd4, vd5, vd6, vd7, reduceCtorEq, Option.some.injEq, vb_ite, vi_ite, List.getD_cons_zero, List.getD_cons_succ, advBR, newB, doBR, advB, doB]; decide +kernel) | (simp only [vd1, vd2, vd3, vd4, vd5, vd6, vd7, reduceCtorEq, Option.some.injEq, vb_ite, vi_ite, List.getD_cons_zero, List.getD_cons_succ, advBR, newB, doBR, advB, doB]; decide +kernel)
end Go.Proofs.YtjmenmnjkfnhgaaK
