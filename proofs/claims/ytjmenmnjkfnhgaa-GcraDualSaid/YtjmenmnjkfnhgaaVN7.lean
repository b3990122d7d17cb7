import Derived.Test.YtjmenmnjkfnhgaaVN6
import Derived.Test.YtjmenmnjkfnhgaaVC0
set_option linter.unusedSimpArgs false
set_option linter.unusedVariables false
namespace Go.Proofs.YtjmenmnjkfnhgaaK
open Go Go.Proofs.YtjmenmnjkfnhgaaV Go.Proofs
def of4 (n m b : Int) : Pol := ⟨1, n + 1, m + 1, b + 1, 0, false⟩
def ofP (n m b : Int) : Pol := ⟨2, n + 1, m + 1, b + 1, 0, false⟩
def pre16 (x : Int × Int × Int) : Prop := (0 ≤ x.1 ∧ x.1 < 65536) ∧ (0 ≤ x.2.1 ∧ x.2.1 < 65536) ∧ 0 ≤ x.2.2 ∧ x.2.2 < 65536
theorem w16 {n : Int} (h : 0 ≤ n) (h2 : n < 65536) : IntKind.i64.wrap n = n ∧ IntKind.i64.wrap (1 + n) = n + 1 := ⟨wrap_id _ (by omega) (by omega), by rw [wrap_id _ (by omega) (by omega)]; omega⟩
def kSmall (sg : Sig) : Sig × Con := (sg, mkFun (fun l : Sl => [l.atom]) (fun _ => True) (fun l => [aB (decide ((l.n : Int) ≤ 60))]))
set_option maxHeartbeats 4000000 in
theorem h16 : holds Try.prog (kSmall sg16) := by
  refine fn_holds (l := []) trivial hP rs16 (inj_of (fun l : List Atom => ((⟨va (l.getD 0 atom0).1, vn (l.getD 0 atom0).1, vc (l.getD 0 atom0).1, (l.getD 0 atom0).2⟩ : Sl) : Sl)) (fun _ => rfl)) Try.func16 (by kernel_rfl) (c := code Try.f16) (by kernel_rfl) (an := an16) (by kernel_rfl) (pk := pk16) rfl (t := t16) (by kernel_rfl) ?_
  rintro l hpre
  refine ⟨by simp [pk16, KindsOk, encPS, encPSn, encPSnc, encPSA, encPn, encSS, encI, Pol.enc, Stt.enc, Ac.enc, Sl.atom, Sl.nil, Stt.zero, RK.ok], ?_⟩
  unfold t16
  refine need_wp ?_ ?_
  · exact ⟨_, _, _, rfl⟩
  refine ret_wp ?_
  simp only [vd1, vd2, vd3, vd4, vd5, vd6, reduceCtorEq, Option.some.injEq, vb_ite, vi_ite, List.getD_cons_zero, List.getD_cons_succ]
def kSame (sg : Sig) : Sig × Con := (sg, mkFun encSS (fun x => lgOk x.1.g ∧ lgOk x.2.g) (fun x => [aB (same x.1 x.2)]))
set_option maxHeartbeats 4000000 in
theorem h21 : holds Try.prog (kSame sg21) := by
  refine fn_holds (l := []) trivial hP rs21 (inj_of (fun l : List Atom => (((⟨vi (l.getD 0 atom0).1, vi (l.getD 1 atom0).1, vi (l.getD 2 atom0).1, (⟨va (l.getD 3 atom0).1, vn (l.getD 3 atom0).1, vc (l.getD 3 atom0).1, (l.getD 3 atom0).2⟩ : Sl)⟩ : Stt), (⟨vi (l.getD 4 atom0).1, vi (l.getD 5 atom0).1, vi (l.getD 6 atom0).1, (⟨va (l.getD 7 atom0).1, vn (l.getD 7 atom0).1, vc (l.getD 7 atom0).1, (l.getD 7 atom0).2⟩ : Sl)⟩ : Stt)) : Stt × Stt)) (fun _ => rfl)) Try.func21 (by kernel_rfl) (c := code Try.f21) (by kernel_rfl) (an := an21) (by kernel_rfl) (pk := pk21) rfl (t := t21) (by kernel_rfl) ?_
  rintro ⟨s, t⟩ ⟨o1, o2⟩
  refine ⟨by simp [pk21, KindsOk, encPS, encPSn, encPSnc, encPSA, encPn, encSS, encI, Pol.enc, Stt.enc, Ac.enc, Sl.atom, Sl.nil, Stt.zero, RK.ok], ?_⟩
  unfold t21
  refine br_wp (fun c1 => ?_) (fun c1 => ?_)
  · refine ret_wp ?_
    first | (exact congrArg (fun b => [aB b]) (same_no i0 hi (by simp only [vd1, vd2, vd3, vd4, vd5, vd6, reduceCtorEq, Option.some.injEq, vb_ite, vi_ite, List.getD_cons_zero, List.getD_cons_succ] at c6 ⊢; grind)).symm) | (simp only [vd1, vd2, vd3, vd4, vd5, vd6, reduceCtorEq, Option.some.injEq, vb_ite, vi_ite, List.getD_cons_zero, List.getD_cons_succ] at c1 c2 c3 c5; exact congrArg (fun b => [aB b]) (same_yes ⟨c1, c2, c3⟩ (lgE_all i2 (fun j a b => i3 j a (by omega)))).symm) | ((simp only [vd1, vd2, vd3, vd4, vd5, vd6, reduceCtorEq, Option.some.injEq, vb_ite, vi_ite, List.getD_cons_zero, List.getD_cons_succ] at *) <;> grind [same_ne, same_nn])
  · refine br_wp (fun c2 => ?_) (fun c2 => ?_)
    · refine ret_wp ?_
      first | (exact congrArg (fun b => [aB b]) (same_no i0 hi (by simp only [vd1, vd2, vd3, vd4, vd5, vd6, reduceCtorEq, Option.some.injEq, vb_ite, vi_ite, List.getD_cons_zero, List.getD_cons_succ] at c6 ⊢; grind)).symm) | (simp only [vd1, vd2, vd3, vd4, vd5, vd6, reduceCtorEq, Option.some.injEq, vb_ite, vi_ite, List.getD_cons_zero, List.getD_cons_succ] at c1 c2 c3 c5; exact congrArg (fun b => [aB b]) (same_yes ⟨c1, c2, c3⟩ (lgE_all i2 (fun j a b => i3 j a (by omega)))).symm) | ((simp only [vd1, vd2, vd3, vd4, vd5, vd6, reduceCtorEq, Option.some.injEq, vb_ite, vi_ite, List.getD_cons_zero, List.getD_cons_succ] at *) <;> grind [same_ne, same_nn])
    · refine br_wp (fun c3 => ?_) (fun c3 => ?_)
      · refine ret_wp ?_
        first | (exact congrArg (fun b => [aB b]) (same_no i0 hi (by simp only [vd1, vd2, vd3, vd4, vd5, vd6, reduceCtorEq, Option.some.injEq, vb_ite, vi_ite, List.getD_cons_zero, List.getD_cons_succ] at c6 ⊢; grind)).symm) | (simp only [vd1, vd2, vd3, vd4, vd5, vd6, reduceCtorEq, Option.some.injEq, vb_ite, vi_ite, List.getD_cons_zero, List.getD_cons_succ] at c1 c2 c3 c5; exact congrArg (fun b => [aB b]) (same_yes ⟨c1, c2, c3⟩ (lgE_all i2 (fun j a b => i3 j a (by omega)))).symm) | ((simp only [vd1, vd2, vd3, vd4, vd5, vd6, reduceCtorEq, Option.some.injEq, vb_ite, vi_ite, List.getD_cons_zero, List.getD_cons_succ] at *) <;> grind [same_ne, same_nn])
      · refine need_wp ?_ ?_
        · first | exact ⟨_, _, _, rfl⟩ | exact ⟨_, _, r1⟩ | exact ⟨_, r1⟩ | exact ⟨_, _, r2⟩ | exact ⟨_, r2⟩ | exact a0 | exact a1 | exact b0 | exact b1 | (simp only [vd1, vd2, vd3, vd4, vd5, vd6, reduceCtorEq, Option.some.injEq, vb_ite, vi_ite, List.getD_cons_zero, List.getD_cons_succ] at *; grind)
        refine need_wp ?_ ?_
        · first | exact ⟨_, _, _, rfl⟩ | exact ⟨_, _, r1⟩ | exact ⟨_, r1⟩ | exact ⟨_, _, r2⟩ | exact ⟨_, r2⟩ | exact a0 | exact a1 | exact b0 | exact b1 | (simp only [vd1, vd2, vd3, vd4, vd5, vd6, reduceCtorEq, Option.some.injEq, vb_ite, vi_ite, List.getD_cons_zero, List.getD_cons_succ] at *; grind)
        refine br_wp (fun c4 => ?_) (fun c4 => ?_)
        · refine ret_wp ?_
          first | (exact congrArg (fun b => [aB b]) (same_no i0 hi (by simp only [vd1, vd2, vd3, vd4, vd5, vd6, reduceCtorEq, Option.some.injEq, vb_ite, vi_ite, List.getD_cons_zero, List.getD_cons_succ] at c6 ⊢; grind)).symm) | (simp only [vd1, vd2, vd3, vd4, vd5, vd6, reduceCtorEq, Option.some.injEq, vb_ite, vi_ite, List.getD_cons_zero, List.getD_cons_succ] at c1 c2 c3 c5; exact congrArg (fun b => [aB b]) (same_yes ⟨c1, c2, c3⟩ (lgE_all i2 (fun j a b => i3 j a (by omega)))).symm) | ((simp only [vd1, vd2, vd3, vd4, vd5, vd6, reduceCtorEq, Option.some.injEq, vb_ite, vi_ite, List.getD_cons_zero, List.getD_cons_succ] at *) <;> grind [same_ne, same_nn])
        · refine loop_wp (fun bs0 => ∃ (i : Int), bs0 = [aI i] ∧ (0 ≤ i ∧ i ≤ s.g.n ∧ s.g.n = t.g.n ∧ ∀ j : Int, 0 ≤ j → j < i → vi (cellD s.g.atom j 0).1 = vi (cellD t.g.atom j 0).1 ∧ vi (cellD s.g.atom j 1).1 = vi (cellD t.g.atom j 1).1)) (fun bs0 => (s.g.n - vi (bs0.getD 0 atom0).1).toNat) ?_ ?_
          · refine ⟨0, by simp only [vd1, vd2, vd3, vd4, vd5, vd6, reduceCtorEq, Option.some.injEq, vb_ite, vi_ite, List.getD_cons_zero, List.getD_cons_succ], ?_⟩
            simp only [vd1, vd2, vd3, vd4, vd5, vd6, reduceCtorEq, Option.some.injEq, vb_ite, vi_ite, List.getD_cons_zero, List.getD_cons_succ] at *; exact ⟨by omega, by omega, by omega, fun j _ _ => by omega⟩
          rintro _ _ ⟨i, rfl, ⟨i0, i1, i2, i3⟩⟩
          refine need_wp ?_ ?_
          · first | exact ⟨_, _, _, rfl⟩ | exact ⟨_, _, r1⟩ | exact ⟨_, r1⟩ | exact ⟨_, _, r2⟩ | exact ⟨_, r2⟩ | exact a0 | exact a1 | exact b0 | exact b1 | (simp only [vd1, vd2, vd3, vd4, vd5, vd6, reduceCtorEq, Option.some.injEq, vb_ite, vi_ite, List.getD_cons_zero, List.getD_cons_succ] at *; grind)
          refine br_wp (fun c5 => ?_) (fun c5 => ?_)
          · have hi : i < s.g.n := by simp only [vd1, vd2, vd3, vd4, vd5, vd6, reduceCtorEq, Option.some.injEq, vb_ite, vi_ite, List.getD_cons_zero, List.getD_cons_succ] at c5; grind
            obtain ⟨⟨m1, e1, r1⟩, k1⟩ := o1.resolve_left (fun h0 => by simp only at h0; omega)
            obtain ⟨⟨m2, e2, r2⟩, k2⟩ := o2.resolve_left (fun h0 => by simp only at h0; omega)
            obtain ⟨a0, a1⟩ := k1 i i0 hi
            obtain ⟨b0, b1⟩ := k2 i i0 (by simp only; omega)
            refine need_wp ?_ ?_
            · first | exact ⟨_, _, _, rfl⟩ | exact ⟨_, _, r1⟩ | exact ⟨_, r1⟩ | exact ⟨_, _, r2⟩ | exact ⟨_, r2⟩ | exact a0 | exact a1 | exact b0 | exact b1 | (simp only [vd1, vd2, vd3, vd4, vd5, vd6, reduceCtorEq, Option.some.injEq, vb_ite, vi_ite, List.getD_cons_zero, List.getD_cons_succ] at *; grind)
            refine need_wp ?_ ?_
            · first | exact ⟨_, _, _, rfl⟩ | exact ⟨_, _, r1⟩ | exact ⟨_, r1⟩ | exact ⟨_, _, r2⟩ | exact ⟨_, r2⟩ | exact a0 | exact a1 | exact b0 | exact b1 | (simp only [vd1, vd2, vd3, vd4, vd5, vd6, reduceCtorEq, Option.some.injEq, vb_ite, vi_ite, List.getD_cons_zero, List.getD_cons_succ] at *; grind)
            refine need_wp ?_ ?_
            · first | exact ⟨_, _, _, rfl⟩ | exact ⟨_, _, r1⟩ | exact ⟨_, r1⟩ | exact ⟨_, _, r2⟩ | exact ⟨_, r2⟩ | exact a0 | exact a1 | exact b0 | exact b1 | (simp only [vd1, vd2, vd3, vd4, vd5, vd6, reduceCtorEq, Option.some.injEq, vb_ite, vi_ite, List.getD_cons_zero, List.getD_cons_succ] at *; grind)
            refine need_wp ?_ ?_
            · first | exact ⟨_, _, _, rfl⟩ | exact ⟨_, _, r1⟩ | exact ⟨_, r1⟩ | exact ⟨_, _, r2⟩ | exact ⟨_, r2⟩ | exact a0 | exact a1 | exact b0 | exact b1 | (simp only [vd1, vd2, vd3, vd4, vd5, vd6, reduceCtorEq, Option.some.injEq, vb_ite, vi_ite, List.getD_cons_zero, List.getD_cons_succ] at *; grind)
            refine need_wp ?_ ?_
            · first | exact ⟨_, _, _, rfl⟩ | exact ⟨_, _, r1⟩ | exact ⟨_, r1⟩ | exact ⟨_, _, r2⟩ | exact ⟨_, r2⟩ | exact a0 | exact a1 | exact b0 | exact b1 | (simp only [vd1, vd2, vd3, vd4, vd5, vd6, reduceCtorEq, Option.some.injEq, vb_ite, vi_ite, List.getD_cons_zero, List.getD_cons_succ] at *; grind)
            refine need_wp ?_ ?_
            · first | exact ⟨_, _, _, rfl⟩ | exact ⟨_, _, r1⟩ | exact ⟨_, r1⟩ | exact ⟨_, _, r2⟩ | exact ⟨_, r2⟩ | exact a0 | exact a1 | exact b0 | exact b1 | (simp only [vd1, vd2, vd3, vd4, vd5, vd6, reduceCtorEq, Option.some.injEq, vb_ite, vi_ite, List.getD_cons_zero, List.getD_cons_succ] at *; grind)
            refine need_wp ?_ ?_
            · first | exact ⟨_, _, _, rfl⟩ | exact ⟨_, _, r1⟩ | exact ⟨_, r1⟩ | exact ⟨_, _, r2⟩ | exact ⟨_, r2⟩ | exact a0 | exact a1 | exact b0 | exact b1 | (simp only [vd1, vd2, vd3, vd4, vd5, vd6, reduceCtorEq, Option.some.injEq, vb_ite, vi_ite, List.getD_cons_zero, List.getD_cons_succ] at *; grind)
            refine need_wp ?_ ?_
            · first | exact ⟨_, _, _, rfl⟩ | exact ⟨_, _, r1⟩ | exact ⟨_, r1⟩ | exact ⟨_, _, r2⟩ | exact ⟨_, r2⟩ | exact a0 | exact a1 | exact b0 | exact b1 | (simp only [vd1, vd2, vd3, vd4, vd5, vd6, reduceCtorEq, Option.some.injEq, vb_ite, vi_ite, List.getD_cons_zero, List.getD_cons_succ] at *; grind)
            refine need_wp ?_ ?_
            · first | exact ⟨_, _, _, rfl⟩ | exact ⟨_, _, r1⟩ | exact ⟨_, r1⟩ | exact ⟨_, _, r2⟩ | exact ⟨_, r2⟩ | exact a0 | exact a1 | exact b0 | exact b1 | (simp only [vd1, vd2, vd3, vd4, vd5, vd6, reduceCtorEq, Option.some.injEq, vb_ite, vi_ite, List.getD_cons_zero, List.getD_cons_succ] at *; grind)
            refine need_wp ?_ ?_
            · first | exact ⟨_, _, _, rfl⟩ | exact ⟨_, _, r1⟩ | exact ⟨_, r1⟩ | exact ⟨_, _, r2⟩ | exact ⟨_, r2⟩ | exact a0 | exact a1 | exact b0 | exact b1 | (simp only [vd1, vd2, vd3, vd4, vd5, vd6, reduceCtorEq, Option.some.injEq, vb_ite, vi_ite, List.getD_cons_zero, List.getD_cons_succ] at *; grind)
            refine need_wp ?_ ?_
            · first | exact ⟨_, _, _, rfl⟩ | exact ⟨_, _, r1⟩ | exact ⟨_, r1⟩ | exact ⟨_, _, r2⟩ | exact ⟨_, r2⟩ | exact a0 | exact a1 | exact b0 | exact b1 | (simp only [vd1, vd2, vd3, vd4, vd5, vd6, reduceCtorEq, Option.some.injEq, vb_ite, vi_ite, List.getD_cons_zero, List.getD_cons_succ] at *; grind)
            refine need_wp ?_ ?_
            · first | exact ⟨_, _, _, rfl⟩ | exact ⟨_, _, r1⟩ | exact ⟨_, r1⟩ | exact ⟨_, _, r2⟩ | exact ⟨_, r2⟩ | exact a0 | exact a1 | exact b0 | exact b1 | (simp only [vd1, vd2, vd3, vd4, vd5, vd6, reduceCtorEq, Option.some.injEq, vb_ite, vi_ite, List.getD_cons_zero, List.getD_cons_succ] at *; grind)
            refine need_wp ?_ ?_
            · first | exact ⟨_, _, _, rfl⟩ | exact ⟨_, _, r1⟩ | exact ⟨_, r1⟩ | exact ⟨_, _, r2⟩ | exact ⟨_, r2⟩ | exact a0 | exact a1 | exact b0 | exact b1 | (simp only [vd1, vd2, vd3, vd4, vd5, vd6, reduceCtorEq, Option.some.injEq, vb_ite, vi_ite, List.getD_cons_zero, List.getD_cons_succ] at *; grind)
            refine need_wp ?_ ?_
            · first | exact ⟨_, _, _, rfl⟩ | exact ⟨_, _, r1⟩ | exact ⟨_, r1⟩ | exact ⟨_, _, r2⟩ | exact ⟨_, r2⟩ | exact a0 | exact a1 | exact b0 | exact b1 | (simp only [vd1, vd2, vd3, vd4, vd5, vd6, reduceCtorEq, Option.some.injEq, vb_ite, vi_ite, List.getD_cons_zero, List.getD_cons_succ] at *; grind)
            refine need_wp ?_ ?_
            · first | exact ⟨_, _, _, rfl⟩ | exact ⟨_, _, r1⟩ | exact ⟨_, r1⟩ | exact ⟨_, _, r2⟩ | exact ⟨_, r2⟩ | exact a0 | exact a1 | exact b0 | exact b1 | (simp only [vd1, vd2, vd3, vd4, vd5, vd6, reduceCtorEq, Option.some.injEq, vb_ite, vi_ite, List.getD_cons_zero, List.getD_cons_succ] at *; grind)
            refine need_wp ?_ ?_
            · first | exact ⟨_, _, _, rfl⟩ | exact ⟨_, _, r1⟩ | exact ⟨_, r1⟩ | exact ⟨_, _, r2⟩ | exact ⟨_, r2⟩ | exact a0 | exact a1 | exact b0 | exact b1 | (simp only [vd1, vd2, vd3, vd4, vd5, vd6, reduceCtorEq, Option.some.injEq, vb_ite, vi_ite, List.getD_cons_zero, List.getD_cons_succ] at *; grind)
            refine br_wp (fun c6 => ?_) (fun c6 => ?_)
            · refine again_wp rfl ⟨(IntKind.i64.wrap (i + 1)), by simp only [vd1, vd2, vd3, vd4, vd5, vd6, reduceCtorEq, Option.some.injEq, vb_ite, vi_ite, List.getD_cons_zero, List.getD_cons_succ], ?_⟩ ?_
              · simp only [vd1, vd2, vd3, vd4, vd5, vd6, reduceCtorEq, Option.some.injEq, vb_ite, vi_ite, List.getD_cons_zero, List.getD_cons_succ] at c5; simp only at m1; have hw := wrap_id (i + 1) (by omega) (by omega); simp only [vd1, vd2, vd3, vd4, vd5, vd6, reduceCtorEq, Option.some.injEq, vb_ite, vi_ite, List.getD_cons_zero, List.getD_cons_succ, hw]; refine ⟨by omega, by omega, i2, lg_step i0 (by omega) i2 i3 ?_⟩; simp only [vd1, vd2, vd3, vd4, vd5, vd6, reduceCtorEq, Option.some.injEq, vb_ite, vi_ite, List.getD_cons_zero, List.getD_cons_succ] at c6 ⊢; grind
              · simp only [vd1, vd2, vd3, vd4, vd5, vd6, reduceCtorEq, Option.some.injEq, vb_ite, vi_ite, List.getD_cons_zero, List.getD_cons_succ] at c5; simp only at m1; have hw := wrap_id (i + 1) (by omega) (by omega); simp only [vd1, vd2, vd3, vd4, vd5, vd6, reduceCtorEq, Option.some.injEq, vb_ite, vi_ite, List.getD_cons_zero, List.getD_cons_succ, hw]; omega
            · refine pop_wp ?_
              refine ret_wp ?_
              first | (exact congrArg (fun b => [aB b]) (same_no i0 hi (by simp only [vd1, vd2, vd3, vd4, vd5, vd6, reduceCtorEq, Option.some.injEq, vb_ite, vi_ite, List.getD_cons_zero, List.getD_cons_succ] at c6 ⊢; grind)).symm) | (simp only [vd1, vd2, vd3, vd4, vd5, vd6, reduceCtorEq, Option.some.injEq, vb_ite, vi_ite, List.getD_cons_zero, List.getD_cons_succ] at c1 c2 c3 c5; exact congrArg (fun b => [aB b]) (same_yes ⟨c1, c2, c3⟩ (lgE_all i2 (fun j a b => i3 j a (by omega)))).symm) | ((simp only [vd1, vd2, vd3, vd4, vd5, vd6, reduceCtorEq, Option.some.injEq, vb_ite, vi_ite, List.getD_cons_zero, List.getD_cons_succ] at *) <;> grind [same_ne, same_nn])
          · refine pop_wp ?_
            refine ret_wp ?_
            first | (exact congrArg (fun b => [aB b]) (same_no i0 hi (by simp only [vd1, vd2, vd3, vd4, vd5, vd6, reduceCtorEq, Option.some.injEq, vb_ite, vi_ite, List.getD_cons_zero, List.getD_cons_succ] at c6 ⊢; grind)).symm) | (simp only [vd1, vd2, vd3, vd4, vd5, vd6, reduceCtorEq, Option.some.injEq, vb_ite, vi_ite, List.getD_cons_zero, List.getD_cons_succ] at c1 c2 c3 c5; exact congrArg (fun b => [aB b]) (same_yes ⟨c1, c2, c3⟩ (lgE_all i2 (fun j a b => i3 j a (by omega)))).symm) | ((simp only [vd1, vd2, vd3, vd4, vd5, vd6, reduceCtorEq, Option.some.injEq, vb_ite, vi_ite, List.getD_cons_zero, List.getD_cons_succ] at *) <;> grind [same_ne, same_nn])
def kOf4 (sg : Sig) : Sig × Con := (sg, mkFun (fun x : Int × Int × Int => ([aK .u16 x.1, aK .u16 x.2.1, aK .u16 x.2.2] : List Atom)) pre16 (fun x => (of4 x.1 x.2.1 x.2.2).enc))
set_option maxHeartbeats 4000000 in
theorem h29 : holds Try.prog (kOf4 sg29) := by
  refine fn_holds (l := []) trivial hP rs29 (inj_of (fun l : List Atom => ((vi (l.getD 0 atom0).1, vi (l.getD 1 atom0).1, vi (l.getD 2 atom0).1) : Int × Int × Int)) (fun _ => rfl)) Try.func29 (by kernel_rfl) (c := code Try.f29) (by kernel_rfl) (an := an29) (by kernel_rfl) (pk := pk29) rfl (t := t29) (by kernel_rfl) ?_
  rintro ⟨n, m, b⟩ ⟨⟨u1, u2⟩, ⟨u3, u4⟩, u5, u6⟩
  refine ⟨by simp [pk29, KindsOk, encPS, encPSn, encPSnc, encPSA, encPn, encSS, encI, Pol.enc, Stt.enc, Ac.enc, Sl.atom, Sl.nil, Stt.zero, RK.ok], ?_⟩
  unfold t29
  obtain ⟨w1, w2⟩ := w16 u1 u2
  obtain ⟨w3, w4⟩ := w16 u3 u4
  obtain ⟨w5, w6⟩ := w16 u5 u6
  simp only at w1 w2 w3 w4 w5 w6
  refine ret_wp ?_
  (simp only [vd1, vd2, vd3, vd4, vd5, vd6, reduceCtorEq, Option.some.injEq, vb_ite, vi_ite, List.getD_cons_zero, List.getD_cons_succ, of4, w1, w2, w3, w4, w5, w6])
def kOf (sg : Sig) : Sig × Con := (sg, mkFun (fun x : Int × Int × Int => ([aK .u16 x.1, aK .u16 x.2.1, aK .u16 x.2.2] : List Atom)) pre16 (fun x => (ofP x.1 x.2.1 x.2.2).enc))
set_option maxHeartbeats 4000000 in
theorem h18 : holds Try.prog (kOf sg18) := by
  refine fn_holds (l := [kOf4 sg29]) ⟨h29, trivial⟩ hP rs18 (inj_of (fun l : List Atom => ((vi (l.getD 0 atom0).1, vi (l.getD 1 atom0).1, vi (l.getD 2 atom0).1) : Int × Int × Int)) (fun _ => rfl)) Try.func18 (by kernel_rfl) (c := code Try.f18) (by kernel_rfl) (an := an18) (by kernel_rfl) (pk := pk18) rfl (t := t18) (by kernel_rfl) ?_
  rintro ⟨n, m, b⟩ hpre
  refine ⟨by simp [pk18, KindsOk, encPS, encPSn, encPSnc, encPSA, encPn, encSS, encI, Pol.enc, Stt.enc, Ac.enc, Sl.atom, Sl.nil, Stt.zero, RK.ok], ?_⟩
  unfold t18
  refine call_fun ((n, m, b)) rfl (by simp only [vd1, vd2, vd3, vd4, vd5, vd6, reduceCtorEq, Option.some.injEq, vb_ite, vi_ite, List.getD_cons_zero, List.getD_cons_succ]) hpre ?_
  refine ret_wp ?_
  rfl
def kKnown (sg : Sig) : Sig × Con := (sg, mkFun (fun _ : Unit => []) (fun _ => True) (fun _ => [aB true]))
set_option maxHeartbeats 4000000 in
theorem h17 : holds Try.prog (kKnown sg17) := by
  refine fn_holds (l := [kNewG sg19, kDoG sg20, kRetG sg22, kCheckG sg33]) ⟨h19, h20, h22, h33, trivial⟩ hP rs17 (inj_of (fun l : List Atom => (() : Unit)) (fun _ => rfl)) Try.func17 (by kernel_rfl) (c := code Try.f17) (by kernel_rfl) (an := an17) (by kernel_rfl) (pk := pk17) rfl (t := t17) (by kernel_rfl) ?_
  rintro _ hpre
  refine ⟨by simp [pk17, KindsOk, encPS, encPSn, encPSnc, encPSA, encPn, encSS, encI, Pol.enc, Stt.enc, Ac.enc, Sl.atom, Sl.nil, Stt.zero, RK.ok], ?_⟩
  unfold t17
  refine call_fun (((⟨2, 10, 1000, 5, 0, false⟩ : Pol), 0)) rfl (by simp only [vd1, vd2, vd3, vd4, vd5, vd6, reduceCtorEq, Option.some.injEq, vb_ite, vi_ite, List.getD_cons_zero, List.getD_cons_succ, advG, newG, doN]) trivial ?_
  refine call_fun (((⟨2, 10, 1000, 5, 0, false⟩ : Pol), (newG (⟨2, 10, 1000, 5, 0, false⟩ : Pol) 0), (⟨1, 0, 5⟩ : Ac))) rfl (by simp only [vd1, vd2, vd3, vd4, vd5, vd6, reduceCtorEq, Option.some.injEq, vb_ite, vi_ite, List.getD_cons_zero, List.getD_cons_succ, advG, newG, doN]) trivial ?_
  refine call_fun (((⟨2, 10, 1000, 5, 0, false⟩ : Pol), (doN (⟨2, 10, 1000, 5, 0, false⟩ : Pol) (newG (⟨2, 10, 1000, 5, 0, false⟩ : Pol) 0) (⟨1, 0, 5⟩ : Ac)), (⟨1, 0, 1⟩ : Ac))) rfl (by simp only [vd1, vd2, vd3, vd4, vd5, vd6, reduceCtorEq, Option.some.injEq, vb_ite, vi_ite, List.getD_cons_zero, List.getD_cons_succ, advG, newG, doN]) trivial ?_
  refine call_fun (((⟨2, 10, 1000, 5, 0, false⟩ : Pol), (doN (⟨2, 10, 1000, 5, 0, false⟩ : Pol) (newG (⟨2, 10, 1000, 5, 0, false⟩ : Pol) 0) (⟨1, 0, 5⟩ : Ac)), 0, 1)) rfl (by simp only [vd1, vd2, vd3, vd4, vd5, vd6, reduceCtorEq, Option.some.injEq, vb_ite, vi_ite, List.getD_cons_zero, List.getD_cons_succ, advG, newG, doN]) trivial ?_
  refine br_wp (fun c1 => ?_) (fun c1 => ?_)
  · refine br_wp (fun c2 => ?_) (fun c2 => ?_)
    · refine ret_wp ?_
      first | rfl | (exfalso; revert c1; simp only [vd1, vd2, vd3, vd4, vd5, vd6, reduceCtorEq, Option.some.injEq, vb_ite, vi_ite, List.getD_cons_zero, List.getD_cons_succ, advG, newG, doN]; decide +kernel) | (exfalso; revert c2; simp only [vd1, vd2, vd3, vd4, vd5, vd6, reduceCtorEq, Option.some.injEq, vb_ite, vi_ite, List.getD_cons_zero, List.getD_cons_succ, advG, newG, doN]; decide +kernel) | (exfalso; revert c3; simp only [vd1, vd2, vd3, vd4, vd5, vd6, reduceCtorEq, Option.some.injEq, vb_ite, vi_ite, List.getD_cons_zero, List.getD_cons_succ, advG, newG, doN]; decide +kernel) | (exfalso; revert c4; simp only [vd1, vd2, vd3, vd4, vd5, vd6, reduceCtorEq, Option.some.injEq, vb_ite, vi_ite, List.getD_cons_zero, List.getD_cons_succ, advG, newG, doN]; decide +kernel) | (exfalso; revert c5; simp only [vd1, vd2, vd3, vd4, vd5, vd6, reduceCtorEq, Option.some.injEq, vb_ite, vi_ite, List.getD_cons_zero, List.getD_cons_succ, advG, newG, doN]; decide +kernel) | (exfalso; revert c6; simp only [vd1, vd2, vd3, vd4, vd5, vd6, reduceCtorEq, Option.some.injEq, vb_ite, vi_ite, List.getD_cons_zero, List.getD_cons_succ, advG, newG, doN]; decide +kernel) | (simp only [vd1, vd2, vd3, vd4, vd5, vd6, reduceCtorEq, Option.some.injEq, vb_ite, vi_ite, List.getD_cons_zero, List.getD_cons_succ, advG, newG, doN]; decide +kernel)
    · refine br_wp (fun c3 => ?_) (fun c3 => ?_)
      · refine br_wp (fun c4 => ?_) (fun c4 => ?_)
        · refine br_wp (fun c5 => ?_) (fun c5 => ?_)
          · refine call_fun ((⟨0, 0, 0, 0, 0, false⟩ : Pol)) rfl (by simp only [vd1, vd2, vd3, vd4, vd5, vd6, reduceCtorEq, Option.some.injEq, vb_ite, vi_ite, List.getD_cons_zero, List.getD_cons_succ, advG, newG, doN]) trivial ?_
            refine ret_wp ?_
            first | rfl | (exfalso; revert c1; simp only [vd1, vd2, vd3, vd4, vd5, vd6, reduceCtorEq, Option.some.injEq, vb_ite, vi_ite, List.getD_cons_zero, List.getD_cons_succ, advG, newG, doN]; decide +kernel) | (exfalso; revert c2; simp only [vd1, vd2, vd3, vd4, vd5, vd6, reduceCtorEq, Option.some.injEq, vb_ite, vi_ite, List.getD_cons_zero, List.getD_cons_succ, advG, newG, doN]; decide +kernel) | (exfalso; revert c3; simp only [vd1, vd2, vd3, vd4, vd5, vd6, reduceCtorEq, Option.some.injEq, vb_ite, vi_ite, List.getD_cons_zero, List.getD_cons_succ, advG, newG, doN]; decide +kernel) | (exfalso; revert c4; simp only [vd1, vd2, vd3, vd4, vd5, vd6, reduceCtorEq, Option.some.injEq, vb_ite, vi_ite, List.getD_cons_zero, List.getD_cons_succ, advG, newG, doN]; decide +kernel) | (exfalso; revert c5; simp only [vd1, vd2, vd3, vd4, vd5, vd6, reduceCtorEq, Option.some.injEq, vb_ite, vi_ite, List.getD_cons_zero, List.getD_cons_succ, advG, newG, doN]; decide +kernel) | (exfalso; revert c6; simp only [vd1, vd2, vd3, vd4, vd5, vd6, reduceCtorEq, Option.some.injEq, vb_ite, vi_ite, List.getD_cons_zero, List.getD_cons_succ, advG, newG, doN]; decide +kernel) | (simp only [vd1, vd2, vd3, vd4, vd5, vd6, reduceCtorEq, Option.some.injEq, vb_ite, vi_ite, List.getD_cons_zero, List.getD_cons_succ, advG, newG, doN]; decide +kernel)
          · refine ret_wp ?_
            first | rfl | (exfalso; revert c1; simp only [vd1, vd2, vd3, vd4, vd5, vd6, reduceCtorEq, Option.some.injEq, vb_ite, vi_ite, List.getD_cons_zero, List.getD_cons_succ, advG, newG, doN]; decide +kernel) | (exfalso; revert c2; simp only [vd1, vd2, vd3, vd4, vd5, vd6, reduceCtorEq, Option.some.injEq, vb_ite, vi_ite, List.getD_cons_zero, List.getD_cons_succ, advG, newG, doN]; decide +kernel) | (exfalso; revert c3; simp only [vd1, vd2, vd3, vd4, vd5, vd6, reduceCtorEq, Option.some.injEq, vb_ite, vi_ite, List.getD_cons_zero, List.getD_cons_succ, advG, newG, doN]; decide +kernel) | (exfalso; revert c4; simp only [vd1, vd2, vd3, vd4, vd5, vd6, reduceCtorEq, Option.some.injEq, vb_ite, vi_ite, List.getD_cons_zero, List.getD_cons_succ, advG, newG, doN]; decide +kernel) | (exfalso; revert c5; simp only [vd1, vd2, vd3, vd4, vd5, vd6, reduceCtorEq, Option.some.injEq, vb_ite, vi_ite, List.getD_cons_zero, List.getD_cons_succ, advG, newG, doN]; decide +kernel) | (exfalso; revert c6; simp only [vd1, vd2, vd3, vd4, vd5, vd6, reduceCtorEq, Option.some.injEq, vb_ite, vi_ite, List.getD_cons_zero, List.getD_cons_succ, advG, newG, doN]; decide +kernel) | (simp only [vd1, vd2, vd3, vd4, vd5, vd6, reduceCtorEq, Option.some.injEq, vb_ite, vi_ite, List.getD_cons_zero, List.getD_cons_succ, advG, newG, doN]; decide +kernel)
        · refine ret_wp ?_
          first | rfl | (exfalso; revert c1; simp only [vd1, vd2, vd3, vd4, vd5, vd6, reduceCtorEq, Option.some.injEq, vb_ite, vi_ite, List.getD_cons_zero, List.getD_cons_succ, advG, newG, doN]; decide +kernel) | (exfalso; revert c2; simp only [vd1, vd2, vd3, vd4, vd5, vd6, reduceCtorEq, Option.some.injEq, vb_ite, vi_ite, List.getD_cons_zero, List.getD_cons_succ, advG, newG, doN]; decide +kernel) | (exfalso; revert c3; simp only [vd1, vd2, vd3, vd4, vd5, vd6, reduceCtorEq, Option.some.injEq, vb_ite, vi_ite, List.getD_cons_zero, List.getD_cons_succ, advG, newG, doN]; decide +kernel) | (exfalso; revert c4; simp only [vd1, vd2, vd3, vd4, vd5, vd6, reduceCtorEq, Option.some.injEq, vb_ite, vi_ite, List.getD_cons_zero, List.getD_cons_succ, advG, newG, doN]; decide +kernel) | (exfalso; revert c5; simp only [vd1, vd2, vd3, vd4, vd5, vd6, reduceCtorEq, Option.some.injEq, vb_ite, vi_ite, List.getD_cons_zero, List.getD_cons_succ, advG, newG, doN]; decide +kernel) | (exfalso; revert c6; simp only [vd1, vd2, vd3, vd4, vd5, vd6, reduceCtorEq, Option.some.injEq, vb_ite, vi_ite, List.getD_cons_zero, List.getD_cons_succ, advG, newG, doN]; decide +kernel) | (simp only [vd1, vd2, vd3, vd4, vd5, vd6, reduceCtorEq, Option.some.injEq, vb_ite, vi_ite, List.getD_cons_zero, List.getD_cons_succ, advG, newG, doN]; decide +kernel)
      · refine ret_wp ?_
        first | rfl | (exfalso; revert c1; simp only [vd1, vd2, vd3, vd4, vd5, vd6, reduceCtorEq, Option.some.injEq, vb_ite, vi_ite, List.getD_cons_zero, List.getD_cons_succ, advG, newG, doN]; decide +kernel) | (exfalso; revert c2; simp only [vd1, vd2, vd3, vd4, vd5, vd6, reduceCtorEq, Option.some.injEq, vb_ite, vi_ite, List.getD_cons_zero, List.getD_cons_succ, advG, newG, doN]; decide +kernel) | (exfalso; revert c3; simp only [vd1, vd2, vd3, vd4, vd5, vd6, reduceCtorEq, Option.some.injEq, vb_ite, vi_ite, List.getD_cons_zero, List.getD_cons_succ, advG, newG, doN]; decide +kernel) | (exfalso; revert c4; simp only [vd1, vd2, vd3, vd4, vd5, vd6, reduceCtorEq, Option.some.injEq, vb_ite, vi_ite, List.getD_cons_zero, List.getD_cons_succ, advG, newG, doN]; decide +kernel) | (exfalso; revert c5; simp only [vd1, vd2, vd3, vd4, vd5, vd6, reduceCtorEq, Option.some.injEq, vb_ite, vi_ite, List.getD_cons_zero, List.getD_cons_succ, advG, newG, doN]; decide +kernel) | (exfalso; revert c6; simp only [vd1, vd2, vd3, vd4, vd5, vd6, reduceCtorEq, Option.some.injEq, vb_ite, vi_ite, List.getD_cons_zero, List.getD_cons_succ, advG, newG, doN]; decide +kernel) | (simp only [vd1, vd2, vd3, vd4, vd5, vd6, reduceCtorEq, Option.some.injEq, vb_ite, vi_ite, List.getD_cons_zero, List.getD_cons_succ, advG, newG, doN]; decide +kernel)
  · refine ret_wp ?_
    first | rfl | (exfalso; revert c1; simp only [vd1, vd2, vd3, vd4, vd5, vd6, reduceCtorEq, Option.some.injEq, vb_ite, vi_ite, List.getD_cons_zero, List.getD_cons_succ, advG, newG, doN]; decide +kernel) | (exfalso; revert c2; simp only [vd1, vd2, vd3, vd4, vd5, vd6, reduceCtorEq, Option.some.injEq, vb_ite, vi_ite, List.getD_cons_zero, List.getD_cons_succ, advG, newG, doN]; decide +kernel) | (exfalso; revert c3; simp only [vd1, vd2, vd3, vd4, vd5, vd6, reduceCtorEq, Option.some.injEq, vb_ite, vi_ite, List.getD_cons_zero, List.getD_cons_succ, advG, newG, doN]; decide +kernel) | (exfalso; revert c4; simp only [vd1, vd2, vd3, vd4, vd5, vd6, reduceCtorEq, Option.some.injEq, vb_ite, vi_ite, List.getD_cons_zero, List.getD_cons_succ, advG, newG, doN]; decide +kernel) | (exfalso; revert c5; simp only [vd1, vd2, vd3, vd4, vd5, vd6, reduceCtorEq, Option.some.injEq, vb_ite, vi_ite, List.getD_cons_zero, List.getD_cons_succ, advG, newG, doN]; decide +kernel) | (exfalso; revert c6; simp only [vd1, vd2, vd3, vd4, vd5, vd6, reduceCtorEq, Option.some.injEq, vb_ite, vi_ite, List.getD_cons_zero, List.getD_cons_succ, advG, newG, doN]; decide +kernel) | (simp only [vd1, vd2, vd3, vd4, vd5, vd6, reduceCtorEq, Option.some.injEq, vb_ite, vi_ite, List.getD_cons_zero, List.getD_cons_succ, advG, newG, doN]; decide +kernel)
end Go.Proofs.YtjmenmnjkfnhgaaK
