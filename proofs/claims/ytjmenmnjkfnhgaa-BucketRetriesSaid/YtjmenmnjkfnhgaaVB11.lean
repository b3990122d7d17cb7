import Derived.Test.YtjmenmnjkfnhgaaVB1
import Derived.Test.YtjmenmnjkfnhgaaVBT11
set_option linter.unusedSimpArgs false
set_option linter.unusedVariables false
namespace Go.Proofs.YtjmenmnjkfnhgaaK
open Go Go.Proofs.YtjmenmnjkfnhgaaV Go.Proofs
def kLaw11 (sg : Sig) : Sig × Con := (sg, mkFun (fun x : Int × Int × Int × Sl × Int => ([aK .u16 x.1, aK .u16 x.2.1, aK .u16 x.2.2.1, Sl.atom x.2.2.2.1, aK .u8 x.2.2.2.2] : List Atom)) (fun x => actsOk x.2.2.2.1 ∧ pre16 (x.1, x.2.1, x.2.2.1) ∧ 0 ≤ x.2.2.2.2 ∧ x.2.2.2.2 < 256) (fun _ => [aB true]))
set_option maxHeartbeats 4000000 in
theorem h11 : holds Try.prog (kLaw11 sg11) := by
  refine fn_holds (l := [kSmall sg27, kKnown sg28, kOf4 sg29, kNewB sg30, kDoB sg31, kRetB sg42, kUntB sg43]) ⟨h27, h28, h29, h30, h31, h42, h43, trivial⟩ hP rs11 (inj_of (fun l : List Atom => ((vi (l.getD 0 atom0).1, vi (l.getD 1 atom0).1, vi (l.getD 2 atom0).1, (⟨va (l.getD 3 atom0).1, vn (l.getD 3 atom0).1, vc (l.getD 3 atom0).1, (l.getD 3 atom0).2⟩ : Sl), vi (l.getD 4 atom0).1) : Int × Int × Int × Sl × Int)) (fun _ => rfl)) Try.func11 (by kernel_rfl) (c := code Try.f11) (by kernel_rfl) (an := an11) (by kernel_rfl) (pk := pk11) rfl (t := t11) (by kernel_rfl) ?_
  rintro ⟨m, q, b, l, k⟩ ⟨hl, hu, u7, u8⟩
  refine ⟨by simp [pk11, KindsOk, encPS, encPSn, encPSnc, encPSA, encPn, encSS, encI, Pol.enc, Stt.enc, Ac.enc, Sl.atom, Sl.nil, Stt.zero, RK.ok], ?_⟩
  unfold t11
  simp only at hl hu u7 u8
  have hwk := wrap_id k (by omega) (by omega)
  obtain ⟨c, hc⟩ : ∃ c : Int, c = 1 + k := ⟨_, rfl⟩
  have hwc : IntKind.i64.wrap (1 + k) = c := by rw [hc]; exact wrap_id _ (by omega) (by omega)
  have hb : ml (of4 m q b).b (of4 m q b).p ≤ 4294967296 := ml_of4 hu
  refine call_fun (l) rfl (by simp only [vd1, vd2, vd3, vd4, vd5, vd6, vd7, reduceCtorEq, Option.some.injEq, vb_ite, vi_ite, List.getD_cons_zero, List.getD_cons_succ, hwk, hwc]) trivial ?_
  refine br_wp (fun c1 => ?_) (fun c1 => ?_)
  · have hn : l.n ≤ 60 := by simp only [vd1, vd2, vd3, vd4, vd5, vd6, vd7, reduceCtorEq, Option.some.injEq, vb_ite, vi_ite, List.getD_cons_zero, List.getD_cons_succ, hwk, hwc] at c1; omega
    refine call_fun ((m, q, b)) rfl (by simp only [vd1, vd2, vd3, vd4, vd5, vd6, vd7, reduceCtorEq, Option.some.injEq, vb_ite, vi_ite, List.getD_cons_zero, List.getD_cons_succ, hwk, hwc]) hu ?_
    refine call_fun (((of4 m q b), 0)) rfl (by simp only [vd1, vd2, vd3, vd4, vd5, vd6, vd7, reduceCtorEq, Option.some.injEq, vb_ite, vi_ite, List.getD_cons_zero, List.getD_cons_succ, hwk, hwc]) trivial ?_
    refine need_wp ?_ ?_
    · first | exact ⟨_, _, _, rfl⟩ | exact acts_row hl | exact acts_sz hl | (simp only [vd1, vd2, vd3, vd4, vd5, vd6, vd7, reduceCtorEq, Option.some.injEq, vb_ite, vi_ite, List.getD_cons_zero, List.getD_cons_succ, hwk, hwc]; exact ⟨_, rfl⟩) | (simp only [vd1, vd2, vd3, vd4, vd5, vd6, vd7, reduceCtorEq, Option.some.injEq, vb_ite, vi_ite, List.getD_cons_zero, List.getD_cons_succ, hwk, hwc] at *; grind)
    refine loop_wp (fun bs0 => ∃ (i : Int) (s : Stt), bs0 = [aI i, aI s.t, aI s.v, aI s.h, Sl.atom s.g] ∧ (0 ≤ i ∧ i ≤ l.n ∧ rightB (of4 m q b) s)) (fun bs0 => (l.n - vi (bs0.getD 0 atom0).1).toNat) ?_ ?_
    · refine ⟨0, (newB (of4 m q b) 0), by simp only [vd1, vd2, vd3, vd4, vd5, vd6, vd7, reduceCtorEq, Option.some.injEq, vb_ite, vi_ite, List.getD_cons_zero, List.getD_cons_succ, hwk, hwc], ?_⟩
      exact ⟨by omega, by omega, right_newB (okOfB hu)⟩
    rintro _ _ ⟨i, s, rfl, ⟨i0, i1, hr⟩⟩
    refine need_wp ?_ ?_
    · first | exact ⟨_, _, _, rfl⟩ | exact acts_row hl | exact acts_sz hl | (simp only [vd1, vd2, vd3, vd4, vd5, vd6, vd7, reduceCtorEq, Option.some.injEq, vb_ite, vi_ite, List.getD_cons_zero, List.getD_cons_succ, hwk, hwc]; exact ⟨_, rfl⟩) | (simp only [vd1, vd2, vd3, vd4, vd5, vd6, vd7, reduceCtorEq, Option.some.injEq, vb_ite, vi_ite, List.getD_cons_zero, List.getD_cons_succ, hwk, hwc] at *; grind)
    refine br_wp (fun c2 => ?_) (fun c2 => ?_)
    · have hi : i < l.n := by simp only [vd1, vd2, vd3, vd4, vd5, vd6, vd7, reduceCtorEq, Option.some.injEq, vb_ite, vi_ite, List.getD_cons_zero, List.getD_cons_succ, hwk, hwc] at c2; omega
      obtain ⟨a0, z0, z1, z2⟩ := acts_at hl i0 hi
      refine need_wp ?_ ?_
      · first | exact ⟨_, _, _, rfl⟩ | exact acts_row hl | exact acts_sz hl | (simp only [vd1, vd2, vd3, vd4, vd5, vd6, vd7, reduceCtorEq, Option.some.injEq, vb_ite, vi_ite, List.getD_cons_zero, List.getD_cons_succ, hwk, hwc, z0, z1, z2]; exact ⟨_, rfl⟩) | (simp only [vd1, vd2, vd3, vd4, vd5, vd6, vd7, reduceCtorEq, Option.some.injEq, vb_ite, vi_ite, List.getD_cons_zero, List.getD_cons_succ, hwk, hwc, z0, z1, z2] at *; grind)
      refine need_wp ?_ ?_
      · first | exact ⟨_, _, _, rfl⟩ | exact acts_row hl | exact acts_sz hl | (simp only [vd1, vd2, vd3, vd4, vd5, vd6, vd7, reduceCtorEq, Option.some.injEq, vb_ite, vi_ite, List.getD_cons_zero, List.getD_cons_succ, hwk, hwc, z0, z1, z2]; exact ⟨_, rfl⟩) | (simp only [vd1, vd2, vd3, vd4, vd5, vd6, vd7, reduceCtorEq, Option.some.injEq, vb_ite, vi_ite, List.getD_cons_zero, List.getD_cons_succ, hwk, hwc, z0, z1, z2] at *; grind)
      refine need_wp ?_ ?_
      · first | exact ⟨_, _, _, rfl⟩ | exact acts_row hl | exact acts_sz hl | (simp only [vd1, vd2, vd3, vd4, vd5, vd6, vd7, reduceCtorEq, Option.some.injEq, vb_ite, vi_ite, List.getD_cons_zero, List.getD_cons_succ, hwk, hwc, z0, z1, z2]; exact ⟨_, rfl⟩) | (simp only [vd1, vd2, vd3, vd4, vd5, vd6, vd7, reduceCtorEq, Option.some.injEq, vb_ite, vi_ite, List.getD_cons_zero, List.getD_cons_succ, hwk, hwc, z0, z1, z2] at *; grind)
      refine need_wp ?_ ?_
      · first | exact ⟨_, _, _, rfl⟩ | exact acts_row hl | exact acts_sz hl | (simp only [vd1, vd2, vd3, vd4, vd5, vd6, vd7, reduceCtorEq, Option.some.injEq, vb_ite, vi_ite, List.getD_cons_zero, List.getD_cons_succ, hwk, hwc, z0, z1, z2]; exact ⟨_, rfl⟩) | (simp only [vd1, vd2, vd3, vd4, vd5, vd6, vd7, reduceCtorEq, Option.some.injEq, vb_ite, vi_ite, List.getD_cons_zero, List.getD_cons_succ, hwk, hwc, z0, z1, z2] at *; grind)
      refine need_wp ?_ ?_
      · first | exact ⟨_, _, _, rfl⟩ | exact acts_row hl | exact acts_sz hl | (simp only [vd1, vd2, vd3, vd4, vd5, vd6, vd7, reduceCtorEq, Option.some.injEq, vb_ite, vi_ite, List.getD_cons_zero, List.getD_cons_succ, hwk, hwc, z0, z1, z2]; exact ⟨_, rfl⟩) | (simp only [vd1, vd2, vd3, vd4, vd5, vd6, vd7, reduceCtorEq, Option.some.injEq, vb_ite, vi_ite, List.getD_cons_zero, List.getD_cons_succ, hwk, hwc, z0, z1, z2] at *; grind)
      refine need_wp ?_ ?_
      · first | exact ⟨_, _, _, rfl⟩ | exact acts_row hl | exact acts_sz hl | (simp only [vd1, vd2, vd3, vd4, vd5, vd6, vd7, reduceCtorEq, Option.some.injEq, vb_ite, vi_ite, List.getD_cons_zero, List.getD_cons_succ, hwk, hwc, z0, z1, z2]; exact ⟨_, rfl⟩) | (simp only [vd1, vd2, vd3, vd4, vd5, vd6, vd7, reduceCtorEq, Option.some.injEq, vb_ite, vi_ite, List.getD_cons_zero, List.getD_cons_succ, hwk, hwc, z0, z1, z2] at *; grind)
      refine need_wp ?_ ?_
      · first | exact ⟨_, _, _, rfl⟩ | exact acts_row hl | exact acts_sz hl | (simp only [vd1, vd2, vd3, vd4, vd5, vd6, vd7, reduceCtorEq, Option.some.injEq, vb_ite, vi_ite, List.getD_cons_zero, List.getD_cons_succ, hwk, hwc, z0, z1, z2]; exact ⟨_, rfl⟩) | (simp only [vd1, vd2, vd3, vd4, vd5, vd6, vd7, reduceCtorEq, Option.some.injEq, vb_ite, vi_ite, List.getD_cons_zero, List.getD_cons_succ, hwk, hwc, z0, z1, z2] at *; grind)
      refine need_wp ?_ ?_
      · first | exact ⟨_, _, _, rfl⟩ | exact acts_row hl | exact acts_sz hl | (simp only [vd1, vd2, vd3, vd4, vd5, vd6, vd7, reduceCtorEq, Option.some.injEq, vb_ite, vi_ite, List.getD_cons_zero, List.getD_cons_succ, hwk, hwc, z0, z1, z2]; exact ⟨_, rfl⟩) | (simp only [vd1, vd2, vd3, vd4, vd5, vd6, vd7, reduceCtorEq, Option.some.injEq, vb_ite, vi_ite, List.getD_cons_zero, List.getD_cons_succ, hwk, hwc, z0, z1, z2] at *; grind)
      refine need_wp ?_ ?_
      · first | exact ⟨_, _, _, rfl⟩ | exact acts_row hl | exact acts_sz hl | (simp only [vd1, vd2, vd3, vd4, vd5, vd6, vd7, reduceCtorEq, Option.some.injEq, vb_ite, vi_ite, List.getD_cons_zero, List.getD_cons_succ, hwk, hwc, z0, z1, z2]; exact ⟨_, rfl⟩) | (simp only [vd1, vd2, vd3, vd4, vd5, vd6, vd7, reduceCtorEq, Option.some.injEq, vb_ite, vi_ite, List.getD_cons_zero, List.getD_cons_succ, hwk, hwc, z0, z1, z2] at *; grind)
      refine call_fun (((of4 m q b), s, a0)) rfl (by simp only [vd1, vd2, vd3, vd4, vd5, vd6, vd7, reduceCtorEq, Option.some.injEq, vb_ite, vi_ite, List.getD_cons_zero, List.getD_cons_succ, hwk, hwc, z0, z1, z2]) trivial ?_
      refine need_wp ?_ ?_
      · first | exact ⟨_, _, _, rfl⟩ | exact acts_row hl | exact acts_sz hl | (simp only [vd1, vd2, vd3, vd4, vd5, vd6, vd7, reduceCtorEq, Option.some.injEq, vb_ite, vi_ite, List.getD_cons_zero, List.getD_cons_succ, hwk, hwc, z0, z1, z2]; exact ⟨_, rfl⟩) | (simp only [vd1, vd2, vd3, vd4, vd5, vd6, vd7, reduceCtorEq, Option.some.injEq, vb_ite, vi_ite, List.getD_cons_zero, List.getD_cons_succ, hwk, hwc, z0, z1, z2] at *; grind)
      refine again_wp rfl ⟨(IntKind.i64.wrap (i + 1)), (doB (of4 m q b) s a0), by simp only [vd1, vd2, vd3, vd4, vd5, vd6, vd7, reduceCtorEq, Option.some.injEq, vb_ite, vi_ite, List.getD_cons_zero, List.getD_cons_succ, hwk, hwc, z0, z1, z2], ?_⟩ ?_
      · have hw := wrap_id (i + 1) (by omega) (by omega); simp only [vd1, vd2, vd3, vd4, vd5, vd6, vd7, reduceCtorEq, Option.some.injEq, vb_ite, vi_ite, List.getD_cons_zero, List.getD_cons_succ, hwk, hwc, z0, z1, z2, hw]; exact ⟨by omega, by omega, right_doB a0 hr⟩
      · have hw := wrap_id (i + 1) (by omega) (by omega); simp only [vd1, vd2, vd3, vd4, vd5, vd6, vd7, reduceCtorEq, Option.some.injEq, vb_ite, vi_ite, List.getD_cons_zero, List.getD_cons_succ, hwk, hwc, z0, z1, z2, hw]; omega
    · have hws : IntKind.i64.wrap ((of4 m q b).b - s.h) = (of4 m q b).b - s.h := by have h0 := hr; unfold rightB at h0; have h1 : (of4 m q b).b = b + 1 := rfl; have h2 := hu.2.2; simp only at h2; exact wrap_id _ (by omega) (by omega)
      have f1 : mayB (of4 m q b) s c ↔ c ≤ (of4 m q b).b - s.h := ⟨fun h => h.2.2, fun h => ⟨hr, by omega, h⟩⟩
      refine pop_wp ?_
      refine call_fun (((of4 m q b), s, 0, c)) rfl (by simp only [vd1, vd2, vd3, vd4, vd5, vd6, vd7, reduceCtorEq, Option.some.injEq, vb_ite, vi_ite, List.getD_cons_zero, List.getD_cons_succ, hwk, hwc, hws]) trivial ?_
      refine br_wp (fun c3 => ?_) (fun c3 => ?_)
      · refine br_wp (fun c4 => ?_) (fun c4 => ?_)
        · refine call_fun (()) rfl (by simp only [vd1, vd2, vd3, vd4, vd5, vd6, vd7, reduceCtorEq, Option.some.injEq, vb_ite, vi_ite, List.getD_cons_zero, List.getD_cons_succ, hwk, hwc, hws]) trivial ?_
          refine ret_wp ?_
          first | rfl | ((simp only [vd1, vd2, vd3, vd4, vd5, vd6, vd7, reduceCtorEq, Option.some.injEq, vb_ite, vi_ite, List.getD_cons_zero, List.getD_cons_succ, hwk, hwc, hws] at *) <;> grind)
        · have ht : s.t ≤ 4503599627370496 := by simp only [vd1, vd2, vd3, vd4, vd5, vd6, vd7, reduceCtorEq, Option.some.injEq, vb_ite, vi_ite, List.getD_cons_zero, List.getD_cons_succ, hwk, hwc, hws] at c4; grind
          have ht0 : 0 ≤ s.t := hr.2.1
          have f2 := fun h => retriesB (c := c) hr ht hb h
          obtain ⟨f3, f5⟩ := untilsB hr ht hb
          obtain ⟨f6, f4⟩ := until_bdB hr hb
          have f7 := retry_bdB (c := c) hr hb
          have hw1 : IntKind.i64.wrap (s.t + (retB (of4 m q b) s 0 c)) = s.t + (retB (of4 m q b) s 0 c) := wrap_id _ (by omega) (by omega)
          have hw2 : IntKind.i64.wrap (s.t + (retB (of4 m q b) s 0 c) - 1) = s.t + (retB (of4 m q b) s 0 c) - 1 := wrap_id _ (by omega) (by omega)
          have hw3 : IntKind.i64.wrap (s.t + (untB (of4 m q b) s 0)) = s.t + (untB (of4 m q b) s 0) := wrap_id _ (by omega) (by omega)
          have hw4 : IntKind.i64.wrap (s.t + (untB (of4 m q b) s 0) - 1) = s.t + (untB (of4 m q b) s 0) - 1 := wrap_id _ (by omega) (by omega)
          refine br_wp (fun c5 => ?_) (fun c5 => ?_)
          · refine call_fun (((of4 m q b), s, (⟨1, (s.t + (retB (of4 m q b) s 0 c)), c⟩ : Ac))) rfl (by simp only [vd1, vd2, vd3, vd4, vd5, vd6, vd7, reduceCtorEq, Option.some.injEq, vb_ite, vi_ite, List.getD_cons_zero, List.getD_cons_succ, hwk, hwc, hws, hw1, hw2, hw3, hw4]) trivial ?_
            refine call_fun (((of4 m q b), s, (⟨1, (s.t + (retB (of4 m q b) s 0 c) - 1), c⟩ : Ac))) rfl (by simp only [vd1, vd2, vd3, vd4, vd5, vd6, vd7, reduceCtorEq, Option.some.injEq, vb_ite, vi_ite, List.getD_cons_zero, List.getD_cons_succ, hwk, hwc, hws, hw1, hw2, hw3, hw4]) trivial ?_
            refine br_wp (fun c6 => ?_) (fun c6 => ?_)
            · refine br_wp (fun c7 => ?_) (fun c7 => ?_)
              · refine br_wp (fun c8 => ?_) (fun c8 => ?_)
                · refine ret_wp ?_
                  first | rfl | ((simp only [vd1, vd2, vd3, vd4, vd5, vd6, vd7, reduceCtorEq, Option.some.injEq, vb_ite, vi_ite, List.getD_cons_zero, List.getD_cons_succ, hwk, hwc, hws, hw1, hw2, hw3, hw4] at *) <;> grind)
                · refine call_fun (((of4 m q b), s, 0)) rfl (by simp only [vd1, vd2, vd3, vd4, vd5, vd6, vd7, reduceCtorEq, Option.some.injEq, vb_ite, vi_ite, List.getD_cons_zero, List.getD_cons_succ, hwk, hwc, hws, hw1, hw2, hw3, hw4]) trivial ?_
                  refine br_wp (fun c9 => ?_) (fun c9 => ?_)
                  · refine br_wp (fun c10 => ?_) (fun c10 => ?_)
                    · refine call_fun (()) rfl (by simp only [vd1, vd2, vd3, vd4, vd5, vd6, vd7, reduceCtorEq, Option.some.injEq, vb_ite, vi_ite, List.getD_cons_zero, List.getD_cons_succ, hwk, hwc, hws, hw1, hw2, hw3, hw4]) trivial ?_
                      refine ret_wp ?_
                      first | rfl | ((simp only [vd1, vd2, vd3, vd4, vd5, vd6, vd7, reduceCtorEq, Option.some.injEq, vb_ite, vi_ite, List.getD_cons_zero, List.getD_cons_succ, hwk, hwc, hws, hw1, hw2, hw3, hw4] at *) <;> grind)
                    · refine call_fun (((of4 m q b), s, (s.t + (untB (of4 m q b) s 0)))) rfl (by simp only [vd1, vd2, vd3, vd4, vd5, vd6, vd7, reduceCtorEq, Option.some.injEq, vb_ite, vi_ite, List.getD_cons_zero, List.getD_cons_succ, hwk, hwc, hws, hw1, hw2, hw3, hw4]) trivial ?_
                      refine br_wp (fun c11 => ?_) (fun c11 => ?_)
                      · refine br_wp (fun c12 => ?_) (fun c12 => ?_)
                        · refine call_fun (()) rfl (by simp only [vd1, vd2, vd3, vd4, vd5, vd6, vd7, reduceCtorEq, Option.some.injEq, vb_ite, vi_ite, List.getD_cons_zero, List.getD_cons_succ, hwk, hwc, hws, hw1, hw2, hw3, hw4]) trivial ?_
                          refine ret_wp ?_
                          first | rfl | ((simp only [vd1, vd2, vd3, vd4, vd5, vd6, vd7, reduceCtorEq, Option.some.injEq, vb_ite, vi_ite, List.getD_cons_zero, List.getD_cons_succ, hwk, hwc, hws, hw1, hw2, hw3, hw4] at *) <;> grind)
                        · refine call_fun (((of4 m q b), s, (s.t + (untB (of4 m q b) s 0) - 1))) rfl (by simp only [vd1, vd2, vd3, vd4, vd5, vd6, vd7, reduceCtorEq, Option.some.injEq, vb_ite, vi_ite, List.getD_cons_zero, List.getD_cons_succ, hwk, hwc, hws, hw1, hw2, hw3, hw4]) trivial ?_
                          refine br_wp (fun c13 => ?_) (fun c13 => ?_)
                          · refine call_fun (()) rfl (by simp only [vd1, vd2, vd3, vd4, vd5, vd6, vd7, reduceCtorEq, Option.some.injEq, vb_ite, vi_ite, List.getD_cons_zero, List.getD_cons_succ, hwk, hwc, hws, hw1, hw2, hw3, hw4]) trivial ?_
                            refine ret_wp ?_
                            first | rfl | ((simp only [vd1, vd2, vd3, vd4, vd5, vd6, vd7, reduceCtorEq, Option.some.injEq, vb_ite, vi_ite, List.getD_cons_zero, List.getD_cons_succ, hwk, hwc, hws, hw1, hw2, hw3, hw4] at *) <;> grind)
                          · refine ret_wp ?_
                            first | rfl | ((simp only [vd1, vd2, vd3, vd4, vd5, vd6, vd7, reduceCtorEq, Option.some.injEq, vb_ite, vi_ite, List.getD_cons_zero, List.getD_cons_succ, hwk, hwc, hws, hw1, hw2, hw3, hw4] at *) <;> grind)
                      · refine ret_wp ?_
                        first | rfl | ((simp only [vd1, vd2, vd3, vd4, vd5, vd6, vd7, reduceCtorEq, Option.some.injEq, vb_ite, vi_ite, List.getD_cons_zero, List.getD_cons_succ, hwk, hwc, hws, hw1, hw2, hw3, hw4] at *) <;> grind)
                  · refine ret_wp ?_
                    first | rfl | ((simp only [vd1, vd2, vd3, vd4, vd5, vd6, vd7, reduceCtorEq, Option.some.injEq, vb_ite, vi_ite, List.getD_cons_zero, List.getD_cons_succ, hwk, hwc, hws, hw1, hw2, hw3, hw4] at *) <;> grind)
              · refine call_fun (((of4 m q b), s, 0)) rfl (by simp only [vd1, vd2, vd3, vd4, vd5, vd6, vd7, reduceCtorEq, Option.some.injEq, vb_ite, vi_ite, List.getD_cons_zero, List.getD_cons_succ, hwk, hwc, hws, hw1, hw2, hw3, hw4]) trivial ?_
                refine br_wp (fun c14 => ?_) (fun c14 => ?_)
                · refine br_wp (fun c15 => ?_) (fun c15 => ?_)
                  · refine call_fun (()) rfl (by simp only [vd1, vd2, vd3, vd4, vd5, vd6, vd7, reduceCtorEq, Option.some.injEq, vb_ite, vi_ite, List.getD_cons_zero, List.getD_cons_succ, hwk, hwc, hws, hw1, hw2, hw3, hw4]) trivial ?_
                    refine ret_wp ?_
                    first | rfl | ((simp only [vd1, vd2, vd3, vd4, vd5, vd6, vd7, reduceCtorEq, Option.some.injEq, vb_ite, vi_ite, List.getD_cons_zero, List.getD_cons_succ, hwk, hwc, hws, hw1, hw2, hw3, hw4] at *) <;> grind)
                  · refine call_fun (((of4 m q b), s, (s.t + (untB (of4 m q b) s 0)))) rfl (by simp only [vd1, vd2, vd3, vd4, vd5, vd6, vd7, reduceCtorEq, Option.some.injEq, vb_ite, vi_ite, List.getD_cons_zero, List.getD_cons_succ, hwk, hwc, hws, hw1, hw2, hw3, hw4]) trivial ?_
                    refine br_wp (fun c16 => ?_) (fun c16 => ?_)
                    · refine br_wp (fun c17 => ?_) (fun c17 => ?_)
                      · refine call_fun (()) rfl (by simp only [vd1, vd2, vd3, vd4, vd5, vd6, vd7, reduceCtorEq, Option.some.injEq, vb_ite, vi_ite, List.getD_cons_zero, List.getD_cons_succ, hwk, hwc, hws, hw1, hw2, hw3, hw4]) trivial ?_
                        refine ret_wp ?_
                        first | rfl | ((simp only [vd1, vd2, vd3, vd4, vd5, vd6, vd7, reduceCtorEq, Option.some.injEq, vb_ite, vi_ite, List.getD_cons_zero, List.getD_cons_succ, hwk, hwc, hws, hw1, hw2, hw3, hw4] at *) <;> grind)
                      · refine call_fun (((of4 m q b), s, (s.t + (untB (of4 m q b) s 0) - 1))) rfl (by simp only [vd1, vd2, vd3, vd4, vd5, vd6, vd7, reduceCtorEq, Option.some.injEq, vb_ite, vi_ite, List.getD_cons_zero, List.getD_cons_succ, hwk, hwc, hws, hw1, hw2, hw3, hw4]) trivial ?_
                        refine br_wp (fun c18 => ?_) (fun c18 => ?_)
                        · refine call_fun (()) rfl (by simp only [vd1, vd2, vd3, vd4, vd5, vd6, vd7, reduceCtorEq, Option.some.injEq, vb_ite, vi_ite, List.getD_cons_zero, List.getD_cons_succ, hwk, hwc, hws, hw1, hw2, hw3, hw4]) trivial ?_
                          refine ret_wp ?_
                          first | rfl | ((simp only [vd1, vd2, vd3, vd4, vd5, vd6, vd7, reduceCtorEq, Option.some.injEq, vb_ite, vi_ite, List.getD_cons_zero, List.getD_cons_succ, hwk, hwc, hws, hw1, hw2, hw3, hw4] at *) <;> grind)
                        · refine ret_wp ?_
                          first | rfl | ((simp only [vd1, vd2, vd3, vd4, vd5, vd6, vd7, reduceCtorEq, Option.some.injEq, vb_ite, vi_ite, List.getD_cons_zero, List.getD_cons_succ, hwk, hwc, hws, hw1, hw2, hw3, hw4] at *) <;> grind)
                    · refine ret_wp ?_
                      first | rfl | ((simp only [vd1, vd2, vd3, vd4, vd5, vd6, vd7, reduceCtorEq, Option.some.injEq, vb_ite, vi_ite, List.getD_cons_zero, List.getD_cons_succ, hwk, hwc, hws, hw1, hw2, hw3, hw4] at *) <;> grind)
                · refine ret_wp ?_
                  first | rfl | ((simp only [vd1, vd2, vd3, vd4, vd5, vd6, vd7, reduceCtorEq, Option.some.injEq, vb_ite, vi_ite, List.getD_cons_zero, List.getD_cons_succ, hwk, hwc, hws, hw1, hw2, hw3, hw4] at *) <;> grind)
            · refine ret_wp ?_
              first | rfl | ((simp only [vd1, vd2, vd3, vd4, vd5, vd6, vd7, reduceCtorEq, Option.some.injEq, vb_ite, vi_ite, List.getD_cons_zero, List.getD_cons_succ, hwk, hwc, hws, hw1, hw2, hw3, hw4] at *) <;> grind)
          · refine call_fun (((of4 m q b), s, 0)) rfl (by simp only [vd1, vd2, vd3, vd4, vd5, vd6, vd7, reduceCtorEq, Option.some.injEq, vb_ite, vi_ite, List.getD_cons_zero, List.getD_cons_succ, hwk, hwc, hws, hw1, hw2, hw3, hw4]) trivial ?_
            refine br_wp (fun c19 => ?_) (fun c19 => ?_)
            · refine br_wp (fun c20 => ?_) (fun c20 => ?_)
              · refine call_fun (()) rfl (by simp only [vd1, vd2, vd3, vd4, vd5, vd6, vd7, reduceCtorEq, Option.some.injEq, vb_ite, vi_ite, List.getD_cons_zero, List.getD_cons_succ, hwk, hwc, hws, hw1, hw2, hw3, hw4]) trivial ?_
                refine ret_wp ?_
                first | rfl | ((simp only [vd1, vd2, vd3, vd4, vd5, vd6, vd7, reduceCtorEq, Option.some.injEq, vb_ite, vi_ite, List.getD_cons_zero, List.getD_cons_succ, hwk, hwc, hws, hw1, hw2, hw3, hw4] at *) <;> grind)
              · refine call_fun (((of4 m q b), s, (s.t + (untB (of4 m q b) s 0)))) rfl (by simp only [vd1, vd2, vd3, vd4, vd5, vd6, vd7, reduceCtorEq, Option.some.injEq, vb_ite, vi_ite, List.getD_cons_zero, List.getD_cons_succ, hwk, hwc, hws, hw1, hw2, hw3, hw4]) trivial ?_
                refine br_wp (fun c21 => ?_) (fun c21 => ?_)
                · refine br_wp (fun c22 => ?_) (fun c22 => ?_)
                  · refine call_fun (()) rfl (by simp only [vd1, vd2, vd3, vd4, vd5, vd6, vd7, reduceCtorEq, Option.some.injEq, vb_ite, vi_ite, List.getD_cons_zero, List.getD_cons_succ, hwk, hwc, hws, hw1, hw2, hw3, hw4]) trivial ?_
                    refine ret_wp ?_
                    first | rfl | ((simp only [vd1, vd2, vd3, vd4, vd5, vd6, vd7, reduceCtorEq, Option.some.injEq, vb_ite, vi_ite, List.getD_cons_zero, List.getD_cons_succ, hwk, hwc, hws, hw1, hw2, hw3, hw4] at *) <;> grind)
                  · refine call_fun (((of4 m q b), s, (s.t + (untB (of4 m q b) s 0) - 1))) rfl (by simp only [vd1, vd2, vd3, vd4, vd5, vd6, vd7, reduceCtorEq, Option.some.injEq, vb_ite, vi_ite, List.getD_cons_zero, List.getD_cons_succ, hwk, hwc, hws, hw1, hw2, hw3, hw4]) trivial ?_
                    refine br_wp (fun c23 => ?_) (fun c23 => ?_)
                    · refine call_fun (()) rfl (by simp only [vd1, vd2, vd3, vd4, vd5, vd6, vd7, reduceCtorEq, Option.some.injEq, vb_ite, vi_ite, List.getD_cons_zero, List.getD_cons_succ, hwk, hwc, hws, hw1, hw2, hw3, hw4]) trivial ?_
                      refine ret_wp ?_
                      first | rfl | ((simp only [vd1, vd2, vd3, vd4, vd5, vd6, vd7, reduceCtorEq, Option.some.injEq, vb_ite, vi_ite, List.getD_cons_zero, List.getD_cons_succ, hwk, hwc, hws, hw1, hw2, hw3, hw4] at *) <;> grind)
                    · refine ret_wp ?_
                      first | rfl | ((simp only [vd1, vd2, vd3, vd4, vd5, vd6, vd7, reduceCtorEq, Option.some.injEq, vb_ite, vi_ite, List.getD_cons_zero, List.getD_cons_succ, hwk, hwc, hws, hw1, hw2, hw3, hw4] at *) <;> grind)
                · refine ret_wp ?_
                  first | rfl | ((simp only [vd1, vd2, vd3, vd4, vd5, vd6, vd7, reduceCtorEq, Option.some.injEq, vb_ite, vi_ite, List.getD_cons_zero, List.getD_cons_succ, hwk, hwc, hws, hw1, hw2, hw3, hw4] at *) <;> grind)
            · refine ret_wp ?_
              first | rfl | ((simp only [vd1, vd2, vd3, vd4, vd5, vd6, vd7, reduceCtorEq, Option.some.injEq, vb_ite, vi_ite, List.getD_cons_zero, List.getD_cons_succ, hwk, hwc, hws, hw1, hw2, hw3, hw4] at *) <;> grind)
      · refine ret_wp ?_
        first | rfl | ((simp only [vd1, vd2, vd3, vd4, vd5, vd6, vd7, reduceCtorEq, Option.some.injEq, vb_ite, vi_ite, List.getD_cons_zero, List.getD_cons_succ, hwk, hwc, hws] at *) <;> grind)
  · refine call_fun (()) rfl (by simp only [vd1, vd2, vd3, vd4, vd5, vd6, vd7, reduceCtorEq, Option.some.injEq, vb_ite, vi_ite, List.getD_cons_zero, List.getD_cons_succ, hwk, hwc]) trivial ?_
    refine ret_wp ?_
    first | rfl | ((simp only [vd1, vd2, vd3, vd4, vd5, vd6, vd7, reduceCtorEq, Option.some.injEq, vb_ite, vi_ite, List.getD_cons_zero, List.getD_cons_succ, hwk, hwc] at *) <;> grind)
end Go.Proofs.YtjmenmnjkfnhgaaK
