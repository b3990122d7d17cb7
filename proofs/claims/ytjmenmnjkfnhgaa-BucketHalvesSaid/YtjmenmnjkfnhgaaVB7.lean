import Derived.Test.YtjmenmnjkfnhgaaVB1
import Derived.Test.YtjmenmnjkfnhgaaVBT7
set_option linter.unusedSimpArgs false
set_option linter.unusedVariables false
namespace Go.Proofs.YtjmenmnjkfnhgaaK
open Go Go.Proofs.YtjmenmnjkfnhgaaV Go.Proofs
def kLaw7 (sg : Sig) : Sig × Con := (sg, mkFun (fun x : Int × Int × Int × Sl × Int × Int => ([aK .u16 x.1, aK .u16 x.2.1, aK .u16 x.2.2.1, Sl.atom x.2.2.2.1, aK .u8 x.2.2.2.2.1, aK .u8 x.2.2.2.2.2] : List Atom)) (fun x => actsOk x.2.2.2.1 ∧ pre16 (x.1, x.2.1, x.2.2.1) ∧ (0 ≤ x.2.2.2.2.1 ∧ x.2.2.2.2.1 < 256) ∧ 0 ≤ x.2.2.2.2.2 ∧ x.2.2.2.2.2 < 256) (fun _ => [aB true]))
set_option maxHeartbeats 4000000 in
theorem h7 : holds Try.prog (kLaw7 sg7) := by
  refine fn_holds (l := [kSmall sg27, kKnown sg28, kOf4 sg29, kNewB sg30, kDoB sg31, kSame sg21]) ⟨h27, h28, h29, h30, h31, h21, trivial⟩ hP rs7 (inj_of (fun l : List Atom => ((vi (l.getD 0 atom0).1, vi (l.getD 1 atom0).1, vi (l.getD 2 atom0).1, (⟨va (l.getD 3 atom0).1, vn (l.getD 3 atom0).1, vc (l.getD 3 atom0).1, (l.getD 3 atom0).2⟩ : Sl), vi (l.getD 4 atom0).1, vi (l.getD 5 atom0).1) : Int × Int × Int × Sl × Int × Int)) (fun _ => rfl)) Try.func7 (by kernel_rfl) (c := code Try.f7) (by kernel_rfl) (an := an7) (by kernel_rfl) (pk := pk7) rfl (t := t7) (by kernel_rfl) ?_
  rintro ⟨m, q, b, l, d, e⟩ ⟨hl, hu, ⟨u5, u6⟩, u7, u8⟩
  refine ⟨by simp [pk7, KindsOk, encPS, encPSn, encPSnc, encPSA, encPn, encSS, encI, Pol.enc, Stt.enc, Ac.enc, Sl.atom, Sl.nil, Stt.zero, RK.ok], ?_⟩
  unfold t7
  simp only at hl hu u5 u6 u7 u8
  have hwa := wrap_id d (by omega) (by omega)
  have hwb := wrap_id e (by omega) (by omega)
  obtain ⟨x, hx⟩ : ∃ x : Int, x = 1 + d := ⟨_, rfl⟩
  obtain ⟨y, hy⟩ : ∃ y : Int, y = 1 + e := ⟨_, rfl⟩
  have hwx : IntKind.i64.wrap (1 + d) = x := by rw [hx]; exact wrap_id _ (by omega) (by omega)
  have hwy : IntKind.i64.wrap (1 + e) = y := by rw [hy]; exact wrap_id _ (by omega) (by omega)
  have hwxy : IntKind.i64.wrap (x + y) = x + y := wrap_id _ (by omega) (by omega)
  refine call_fun (l) rfl (by simp only [vd1, vd2, vd3, vd4, vd5, vd6, vd7, reduceCtorEq, Option.some.injEq, vb_ite, vi_ite, List.getD_cons_zero, List.getD_cons_succ, hwa, hwb, hwx, hwy, hwxy]) trivial ?_
  refine br_wp (fun c1 => ?_) (fun c1 => ?_)
  · have hn : l.n ≤ 60 := by simp only [vd1, vd2, vd3, vd4, vd5, vd6, vd7, reduceCtorEq, Option.some.injEq, vb_ite, vi_ite, List.getD_cons_zero, List.getD_cons_succ, hwa, hwb, hwx, hwy, hwxy] at c1; omega
    refine call_fun ((m, q, b)) rfl (by simp only [vd1, vd2, vd3, vd4, vd5, vd6, vd7, reduceCtorEq, Option.some.injEq, vb_ite, vi_ite, List.getD_cons_zero, List.getD_cons_succ, hwa, hwb, hwx, hwy, hwxy]) hu ?_
    refine call_fun (((of4 m q b), 0)) rfl (by simp only [vd1, vd2, vd3, vd4, vd5, vd6, vd7, reduceCtorEq, Option.some.injEq, vb_ite, vi_ite, List.getD_cons_zero, List.getD_cons_succ, hwa, hwb, hwx, hwy, hwxy]) trivial ?_
    refine need_wp ?_ ?_
    · first | exact ⟨_, _, _, rfl⟩ | exact acts_row hl | exact acts_sz hl | (simp only [vd1, vd2, vd3, vd4, vd5, vd6, vd7, reduceCtorEq, Option.some.injEq, vb_ite, vi_ite, List.getD_cons_zero, List.getD_cons_succ, hwa, hwb, hwx, hwy, hwxy]; exact ⟨_, rfl⟩) | (simp only [vd1, vd2, vd3, vd4, vd5, vd6, vd7, reduceCtorEq, Option.some.injEq, vb_ite, vi_ite, List.getD_cons_zero, List.getD_cons_succ, hwa, hwb, hwx, hwy, hwxy] at *; grind)
    refine loop_wp (fun bs0 => ∃ (i : Int) (s : Stt), bs0 = [aI i, aI s.t, aI s.v, aI s.h, Sl.atom s.g] ∧ (0 ≤ i ∧ i ≤ l.n ∧ rightB (of4 m q b) s)) (fun bs0 => (l.n - vi (bs0.getD 0 atom0).1).toNat) ?_ ?_
    · refine ⟨0, (newB (of4 m q b) 0), by simp only [vd1, vd2, vd3, vd4, vd5, vd6, vd7, reduceCtorEq, Option.some.injEq, vb_ite, vi_ite, List.getD_cons_zero, List.getD_cons_succ, hwa, hwb, hwx, hwy, hwxy], ?_⟩
      exact ⟨by omega, by omega, right_newB (okOfB hu)⟩
    rintro _ _ ⟨i, s, rfl, ⟨i0, i1, hr⟩⟩
    refine need_wp ?_ ?_
    · first | exact ⟨_, _, _, rfl⟩ | exact acts_row hl | exact acts_sz hl | (simp only [vd1, vd2, vd3, vd4, vd5, vd6, vd7, reduceCtorEq, Option.some.injEq, vb_ite, vi_ite, List.getD_cons_zero, List.getD_cons_succ, hwa, hwb, hwx, hwy, hwxy]; exact ⟨_, rfl⟩) | (simp only [vd1, vd2, vd3, vd4, vd5, vd6, vd7, reduceCtorEq, Option.some.injEq, vb_ite, vi_ite, List.getD_cons_zero, List.getD_cons_succ, hwa, hwb, hwx, hwy, hwxy] at *; grind)
    refine br_wp (fun c2 => ?_) (fun c2 => ?_)
    · have hi : i < l.n := by simp only [vd1, vd2, vd3, vd4, vd5, vd6, vd7, reduceCtorEq, Option.some.injEq, vb_ite, vi_ite, List.getD_cons_zero, List.getD_cons_succ, hwa, hwb, hwx, hwy, hwxy] at c2; omega
      obtain ⟨a0, z0, z1, z2⟩ := acts_at hl i0 hi
      refine need_wp ?_ ?_
      · first | exact ⟨_, _, _, rfl⟩ | exact acts_row hl | exact acts_sz hl | (simp only [vd1, vd2, vd3, vd4, vd5, vd6, vd7, reduceCtorEq, Option.some.injEq, vb_ite, vi_ite, List.getD_cons_zero, List.getD_cons_succ, hwa, hwb, hwx, hwy, hwxy, z0, z1, z2]; exact ⟨_, rfl⟩) | (simp only [vd1, vd2, vd3, vd4, vd5, vd6, vd7, reduceCtorEq, Option.some.injEq, vb_ite, vi_ite, List.getD_cons_zero, List.getD_cons_succ, hwa, hwb, hwx, hwy, hwxy, z0, z1, z2] at *; grind)
      refine need_wp ?_ ?_
      · first | exact ⟨_, _, _, rfl⟩ | exact acts_row hl | exact acts_sz hl | (simp only [vd1, vd2, vd3, vd4, vd5, vd6, vd7, reduceCtorEq, Option.some.injEq, vb_ite, vi_ite, List.getD_cons_zero, List.getD_cons_succ, hwa, hwb, hwx, hwy, hwxy, z0, z1, z2]; exact ⟨_, rfl⟩) | (simp only [vd1, vd2, vd3, vd4, vd5, vd6, vd7, reduceCtorEq, Option.some.injEq, vb_ite, vi_ite, List.getD_cons_zero, List.getD_cons_succ, hwa, hwb, hwx, hwy, hwxy, z0, z1, z2] at *; grind)
      refine need_wp ?_ ?_
      · first | exact ⟨_, _, _, rfl⟩ | exact acts_row hl | exact acts_sz hl | (simp only [vd1, vd2, vd3, vd4, vd5, vd6, vd7, reduceCtorEq, Option.some.injEq, vb_ite, vi_ite, List.getD_cons_zero, List.getD_cons_succ, hwa, hwb, hwx, hwy, hwxy, z0, z1, z2]; exact ⟨_, rfl⟩) | (simp only [vd1, vd2, vd3, vd4, vd5, vd6, vd7, reduceCtorEq, Option.some.injEq, vb_ite, vi_ite, List.getD_cons_zero, List.getD_cons_succ, hwa, hwb, hwx, hwy, hwxy, z0, z1, z2] at *; grind)
      refine need_wp ?_ ?_
      · first | exact ⟨_, _, _, rfl⟩ | exact acts_row hl | exact acts_sz hl | (simp only [vd1, vd2, vd3, vd4, vd5, vd6, vd7, reduceCtorEq, Option.some.injEq, vb_ite, vi_ite, List.getD_cons_zero, List.getD_cons_succ, hwa, hwb, hwx, hwy, hwxy, z0, z1, z2]; exact ⟨_, rfl⟩) | (simp only [vd1, vd2, vd3, vd4, vd5, vd6, vd7, reduceCtorEq, Option.some.injEq, vb_ite, vi_ite, List.getD_cons_zero, List.getD_cons_succ, hwa, hwb, hwx, hwy, hwxy, z0, z1, z2] at *; grind)
      refine need_wp ?_ ?_
      · first | exact ⟨_, _, _, rfl⟩ | exact acts_row hl | exact acts_sz hl | (simp only [vd1, vd2, vd3, vd4, vd5, vd6, vd7, reduceCtorEq, Option.some.injEq, vb_ite, vi_ite, List.getD_cons_zero, List.getD_cons_succ, hwa, hwb, hwx, hwy, hwxy, z0, z1, z2]; exact ⟨_, rfl⟩) | (simp only [vd1, vd2, vd3, vd4, vd5, vd6, vd7, reduceCtorEq, Option.some.injEq, vb_ite, vi_ite, List.getD_cons_zero, List.getD_cons_succ, hwa, hwb, hwx, hwy, hwxy, z0, z1, z2] at *; grind)
      refine need_wp ?_ ?_
      · first | exact ⟨_, _, _, rfl⟩ | exact acts_row hl | exact acts_sz hl | (simp only [vd1, vd2, vd3, vd4, vd5, vd6, vd7, reduceCtorEq, Option.some.injEq, vb_ite, vi_ite, List.getD_cons_zero, List.getD_cons_succ, hwa, hwb, hwx, hwy, hwxy, z0, z1, z2]; exact ⟨_, rfl⟩) | (simp only [vd1, vd2, vd3, vd4, vd5, vd6, vd7, reduceCtorEq, Option.some.injEq, vb_ite, vi_ite, List.getD_cons_zero, List.getD_cons_succ, hwa, hwb, hwx, hwy, hwxy, z0, z1, z2] at *; grind)
      refine need_wp ?_ ?_
      · first | exact ⟨_, _, _, rfl⟩ | exact acts_row hl | exact acts_sz hl | (simp only [vd1, vd2, vd3, vd4, vd5, vd6, vd7, reduceCtorEq, Option.some.injEq, vb_ite, vi_ite, List.getD_cons_zero, List.getD_cons_succ, hwa, hwb, hwx, hwy, hwxy, z0, z1, z2]; exact ⟨_, rfl⟩) | (simp only [vd1, vd2, vd3, vd4, vd5, vd6, vd7, reduceCtorEq, Option.some.injEq, vb_ite, vi_ite, List.getD_cons_zero, List.getD_cons_succ, hwa, hwb, hwx, hwy, hwxy, z0, z1, z2] at *; grind)
      refine need_wp ?_ ?_
      · first | exact ⟨_, _, _, rfl⟩ | exact acts_row hl | exact acts_sz hl | (simp only [vd1, vd2, vd3, vd4, vd5, vd6, vd7, reduceCtorEq, Option.some.injEq, vb_ite, vi_ite, List.getD_cons_zero, List.getD_cons_succ, hwa, hwb, hwx, hwy, hwxy, z0, z1, z2]; exact ⟨_, rfl⟩) | (simp only [vd1, vd2, vd3, vd4, vd5, vd6, vd7, reduceCtorEq, Option.some.injEq, vb_ite, vi_ite, List.getD_cons_zero, List.getD_cons_succ, hwa, hwb, hwx, hwy, hwxy, z0, z1, z2] at *; grind)
      refine need_wp ?_ ?_
      · first | exact ⟨_, _, _, rfl⟩ | exact acts_row hl | exact acts_sz hl | (simp only [vd1, vd2, vd3, vd4, vd5, vd6, vd7, reduceCtorEq, Option.some.injEq, vb_ite, vi_ite, List.getD_cons_zero, List.getD_cons_succ, hwa, hwb, hwx, hwy, hwxy, z0, z1, z2]; exact ⟨_, rfl⟩) | (simp only [vd1, vd2, vd3, vd4, vd5, vd6, vd7, reduceCtorEq, Option.some.injEq, vb_ite, vi_ite, List.getD_cons_zero, List.getD_cons_succ, hwa, hwb, hwx, hwy, hwxy, z0, z1, z2] at *; grind)
      refine call_fun (((of4 m q b), s, a0)) rfl (by simp only [vd1, vd2, vd3, vd4, vd5, vd6, vd7, reduceCtorEq, Option.some.injEq, vb_ite, vi_ite, List.getD_cons_zero, List.getD_cons_succ, hwa, hwb, hwx, hwy, hwxy, z0, z1, z2]) trivial ?_
      refine need_wp ?_ ?_
      · first | exact ⟨_, _, _, rfl⟩ | exact acts_row hl | exact acts_sz hl | (simp only [vd1, vd2, vd3, vd4, vd5, vd6, vd7, reduceCtorEq, Option.some.injEq, vb_ite, vi_ite, List.getD_cons_zero, List.getD_cons_succ, hwa, hwb, hwx, hwy, hwxy, z0, z1, z2]; exact ⟨_, rfl⟩) | (simp only [vd1, vd2, vd3, vd4, vd5, vd6, vd7, reduceCtorEq, Option.some.injEq, vb_ite, vi_ite, List.getD_cons_zero, List.getD_cons_succ, hwa, hwb, hwx, hwy, hwxy, z0, z1, z2] at *; grind)
      refine again_wp rfl ⟨(IntKind.i64.wrap (i + 1)), (doB (of4 m q b) s a0), by simp only [vd1, vd2, vd3, vd4, vd5, vd6, vd7, reduceCtorEq, Option.some.injEq, vb_ite, vi_ite, List.getD_cons_zero, List.getD_cons_succ, hwa, hwb, hwx, hwy, hwxy, z0, z1, z2], ?_⟩ ?_
      · have hw := wrap_id (i + 1) (by omega) (by omega); simp only [vd1, vd2, vd3, vd4, vd5, vd6, vd7, reduceCtorEq, Option.some.injEq, vb_ite, vi_ite, List.getD_cons_zero, List.getD_cons_succ, hwa, hwb, hwx, hwy, hwxy, z0, z1, z2, hw]; exact ⟨by omega, by omega, right_doB a0 hr⟩
      · have hw := wrap_id (i + 1) (by omega) (by omega); simp only [vd1, vd2, vd3, vd4, vd5, vd6, vd7, reduceCtorEq, Option.some.injEq, vb_ite, vi_ite, List.getD_cons_zero, List.getD_cons_succ, hwa, hwb, hwx, hwy, hwxy, z0, z1, z2, hw]; omega
    · have f1 := halves1B (x := x) (y := y) hr (by omega) (by omega)
      have f2 := halves2B (x := x) (y := y) hr (by omega) (by omega)
      have f3 := halves3B (p := of4 m q b) (s := s) (c := x + y)
      have f4 := halves4B (x := x) (y := y) hr (by omega) (by omega)
      refine pop_wp ?_
      refine call_fun (((of4 m q b), s, (⟨1, s.t, (x + y)⟩ : Ac))) rfl (by simp only [vd1, vd2, vd3, vd4, vd5, vd6, vd7, reduceCtorEq, Option.some.injEq, vb_ite, vi_ite, List.getD_cons_zero, List.getD_cons_succ, hwa, hwb, hwx, hwy, hwxy]) trivial ?_
      refine call_fun (((of4 m q b), s, (⟨1, s.t, x⟩ : Ac))) rfl (by simp only [vd1, vd2, vd3, vd4, vd5, vd6, vd7, reduceCtorEq, Option.some.injEq, vb_ite, vi_ite, List.getD_cons_zero, List.getD_cons_succ, hwa, hwb, hwx, hwy, hwxy]) trivial ?_
      refine call_fun (((of4 m q b), (doB (of4 m q b) s (⟨1, s.t, x⟩ : Ac)), (⟨1, s.t, y⟩ : Ac))) rfl (by simp only [vd1, vd2, vd3, vd4, vd5, vd6, vd7, reduceCtorEq, Option.some.injEq, vb_ite, vi_ite, List.getD_cons_zero, List.getD_cons_succ, hwa, hwb, hwx, hwy, hwxy]) trivial ?_
      refine br_wp (fun c3 => ?_) (fun c3 => ?_)
      · refine br_wp (fun c4 => ?_) (fun c4 => ?_)
        · refine br_wp (fun c5 => ?_) (fun c5 => ?_)
          · refine call_fun (((doB (of4 m q b) s (⟨1, s.t, (x + y)⟩ : Ac)), (doB (of4 m q b) (doB (of4 m q b) s (⟨1, s.t, x⟩ : Ac)) (⟨1, s.t, y⟩ : Ac)))) rfl (by simp only [vd1, vd2, vd3, vd4, vd5, vd6, vd7, reduceCtorEq, Option.some.injEq, vb_ite, vi_ite, List.getD_cons_zero, List.getD_cons_succ, hwa, hwb, hwx, hwy, hwxy]) ⟨lgOk_nil (rgB (p := of4 m q b) (by repeat (first | exact hr | apply right_doB | apply right_advB))), lgOk_nil (rgB (p := of4 m q b) (by repeat (first | exact hr | apply right_doB | apply right_advB)))⟩ ?_
            refine br_wp (fun c6 => ?_) (fun c6 => ?_)
            · refine call_fun (((of4 m q b), s, (⟨2, s.t, (x + y)⟩ : Ac))) rfl (by simp only [vd1, vd2, vd3, vd4, vd5, vd6, vd7, reduceCtorEq, Option.some.injEq, vb_ite, vi_ite, List.getD_cons_zero, List.getD_cons_succ, hwa, hwb, hwx, hwy, hwxy]) trivial ?_
              refine br_wp (fun c7 => ?_) (fun c7 => ?_)
              · refine br_wp (fun c8 => ?_) (fun c8 => ?_)
                · refine call_fun (((of4 m q b), (doB (of4 m q b) s (⟨2, s.t, (x + y)⟩ : Ac)), (⟨4, s.t, x⟩ : Ac))) rfl (by simp only [vd1, vd2, vd3, vd4, vd5, vd6, vd7, reduceCtorEq, Option.some.injEq, vb_ite, vi_ite, List.getD_cons_zero, List.getD_cons_succ, hwa, hwb, hwx, hwy, hwxy]) trivial ?_
                  refine call_fun (((of4 m q b), (doB (of4 m q b) (doB (of4 m q b) s (⟨2, s.t, (x + y)⟩ : Ac)) (⟨4, s.t, x⟩ : Ac)), (⟨3, s.t, y⟩ : Ac))) rfl (by simp only [vd1, vd2, vd3, vd4, vd5, vd6, vd7, reduceCtorEq, Option.some.injEq, vb_ite, vi_ite, List.getD_cons_zero, List.getD_cons_succ, hwa, hwb, hwx, hwy, hwxy]) trivial ?_
                  refine br_wp (fun c9 => ?_) (fun c9 => ?_)
                  · refine br_wp (fun c10 => ?_) (fun c10 => ?_)
                    · refine call_fun (((doB (of4 m q b) (doB (of4 m q b) (doB (of4 m q b) s (⟨2, s.t, (x + y)⟩ : Ac)) (⟨4, s.t, x⟩ : Ac)) (⟨3, s.t, y⟩ : Ac)), (doB (of4 m q b) s (⟨1, s.t, x⟩ : Ac)))) rfl (by simp only [vd1, vd2, vd3, vd4, vd5, vd6, vd7, reduceCtorEq, Option.some.injEq, vb_ite, vi_ite, List.getD_cons_zero, List.getD_cons_succ, hwa, hwb, hwx, hwy, hwxy]) ⟨lgOk_nil (rgB (p := of4 m q b) (by repeat (first | exact hr | apply right_doB | apply right_advB))), lgOk_nil (rgB (p := of4 m q b) (by repeat (first | exact hr | apply right_doB | apply right_advB)))⟩ ?_
                      refine br_wp (fun c11 => ?_) (fun c11 => ?_)
                      · refine call_fun (()) rfl (by simp only [vd1, vd2, vd3, vd4, vd5, vd6, vd7, reduceCtorEq, Option.some.injEq, vb_ite, vi_ite, List.getD_cons_zero, List.getD_cons_succ, hwa, hwb, hwx, hwy, hwxy]) trivial ?_
                        refine ret_wp ?_
                        first | rfl | ((simp only [vd1, vd2, vd3, vd4, vd5, vd6, vd7, reduceCtorEq, Option.some.injEq, vb_ite, vi_ite, List.getD_cons_zero, List.getD_cons_succ, hwa, hwb, hwx, hwy, hwxy] at *) <;> grind)
                      · refine ret_wp ?_
                        first | rfl | ((simp only [vd1, vd2, vd3, vd4, vd5, vd6, vd7, reduceCtorEq, Option.some.injEq, vb_ite, vi_ite, List.getD_cons_zero, List.getD_cons_succ, hwa, hwb, hwx, hwy, hwxy] at *) <;> grind)
                    · refine ret_wp ?_
                      first | rfl | ((simp only [vd1, vd2, vd3, vd4, vd5, vd6, vd7, reduceCtorEq, Option.some.injEq, vb_ite, vi_ite, List.getD_cons_zero, List.getD_cons_succ, hwa, hwb, hwx, hwy, hwxy] at *) <;> grind)
                  · refine ret_wp ?_
                    first | rfl | ((simp only [vd1, vd2, vd3, vd4, vd5, vd6, vd7, reduceCtorEq, Option.some.injEq, vb_ite, vi_ite, List.getD_cons_zero, List.getD_cons_succ, hwa, hwb, hwx, hwy, hwxy] at *) <;> grind)
                · refine call_fun (()) rfl (by simp only [vd1, vd2, vd3, vd4, vd5, vd6, vd7, reduceCtorEq, Option.some.injEq, vb_ite, vi_ite, List.getD_cons_zero, List.getD_cons_succ, hwa, hwb, hwx, hwy, hwxy]) trivial ?_
                  refine ret_wp ?_
                  first | rfl | ((simp only [vd1, vd2, vd3, vd4, vd5, vd6, vd7, reduceCtorEq, Option.some.injEq, vb_ite, vi_ite, List.getD_cons_zero, List.getD_cons_succ, hwa, hwb, hwx, hwy, hwxy] at *) <;> grind)
              · refine ret_wp ?_
                first | rfl | ((simp only [vd1, vd2, vd3, vd4, vd5, vd6, vd7, reduceCtorEq, Option.some.injEq, vb_ite, vi_ite, List.getD_cons_zero, List.getD_cons_succ, hwa, hwb, hwx, hwy, hwxy] at *) <;> grind)
            · refine ret_wp ?_
              first | rfl | ((simp only [vd1, vd2, vd3, vd4, vd5, vd6, vd7, reduceCtorEq, Option.some.injEq, vb_ite, vi_ite, List.getD_cons_zero, List.getD_cons_succ, hwa, hwb, hwx, hwy, hwxy] at *) <;> grind)
          · refine call_fun (((of4 m q b), s, (⟨2, s.t, (x + y)⟩ : Ac))) rfl (by simp only [vd1, vd2, vd3, vd4, vd5, vd6, vd7, reduceCtorEq, Option.some.injEq, vb_ite, vi_ite, List.getD_cons_zero, List.getD_cons_succ, hwa, hwb, hwx, hwy, hwxy]) trivial ?_
            refine br_wp (fun c12 => ?_) (fun c12 => ?_)
            · refine br_wp (fun c13 => ?_) (fun c13 => ?_)
              · refine call_fun (((of4 m q b), (doB (of4 m q b) s (⟨2, s.t, (x + y)⟩ : Ac)), (⟨4, s.t, x⟩ : Ac))) rfl (by simp only [vd1, vd2, vd3, vd4, vd5, vd6, vd7, reduceCtorEq, Option.some.injEq, vb_ite, vi_ite, List.getD_cons_zero, List.getD_cons_succ, hwa, hwb, hwx, hwy, hwxy]) trivial ?_
                refine call_fun (((of4 m q b), (doB (of4 m q b) (doB (of4 m q b) s (⟨2, s.t, (x + y)⟩ : Ac)) (⟨4, s.t, x⟩ : Ac)), (⟨3, s.t, y⟩ : Ac))) rfl (by simp only [vd1, vd2, vd3, vd4, vd5, vd6, vd7, reduceCtorEq, Option.some.injEq, vb_ite, vi_ite, List.getD_cons_zero, List.getD_cons_succ, hwa, hwb, hwx, hwy, hwxy]) trivial ?_
                refine br_wp (fun c14 => ?_) (fun c14 => ?_)
                · refine br_wp (fun c15 => ?_) (fun c15 => ?_)
                  · refine call_fun (((doB (of4 m q b) (doB (of4 m q b) (doB (of4 m q b) s (⟨2, s.t, (x + y)⟩ : Ac)) (⟨4, s.t, x⟩ : Ac)) (⟨3, s.t, y⟩ : Ac)), (doB (of4 m q b) s (⟨1, s.t, x⟩ : Ac)))) rfl (by simp only [vd1, vd2, vd3, vd4, vd5, vd6, vd7, reduceCtorEq, Option.some.injEq, vb_ite, vi_ite, List.getD_cons_zero, List.getD_cons_succ, hwa, hwb, hwx, hwy, hwxy]) ⟨lgOk_nil (rgB (p := of4 m q b) (by repeat (first | exact hr | apply right_doB | apply right_advB))), lgOk_nil (rgB (p := of4 m q b) (by repeat (first | exact hr | apply right_doB | apply right_advB)))⟩ ?_
                    refine br_wp (fun c16 => ?_) (fun c16 => ?_)
                    · refine call_fun (()) rfl (by simp only [vd1, vd2, vd3, vd4, vd5, vd6, vd7, reduceCtorEq, Option.some.injEq, vb_ite, vi_ite, List.getD_cons_zero, List.getD_cons_succ, hwa, hwb, hwx, hwy, hwxy]) trivial ?_
                      refine ret_wp ?_
                      first | rfl | ((simp only [vd1, vd2, vd3, vd4, vd5, vd6, vd7, reduceCtorEq, Option.some.injEq, vb_ite, vi_ite, List.getD_cons_zero, List.getD_cons_succ, hwa, hwb, hwx, hwy, hwxy] at *) <;> grind)
                    · refine ret_wp ?_
                      first | rfl | ((simp only [vd1, vd2, vd3, vd4, vd5, vd6, vd7, reduceCtorEq, Option.some.injEq, vb_ite, vi_ite, List.getD_cons_zero, List.getD_cons_succ, hwa, hwb, hwx, hwy, hwxy] at *) <;> grind)
                  · refine ret_wp ?_
                    first | rfl | ((simp only [vd1, vd2, vd3, vd4, vd5, vd6, vd7, reduceCtorEq, Option.some.injEq, vb_ite, vi_ite, List.getD_cons_zero, List.getD_cons_succ, hwa, hwb, hwx, hwy, hwxy] at *) <;> grind)
                · refine ret_wp ?_
                  first | rfl | ((simp only [vd1, vd2, vd3, vd4, vd5, vd6, vd7, reduceCtorEq, Option.some.injEq, vb_ite, vi_ite, List.getD_cons_zero, List.getD_cons_succ, hwa, hwb, hwx, hwy, hwxy] at *) <;> grind)
              · refine call_fun (()) rfl (by simp only [vd1, vd2, vd3, vd4, vd5, vd6, vd7, reduceCtorEq, Option.some.injEq, vb_ite, vi_ite, List.getD_cons_zero, List.getD_cons_succ, hwa, hwb, hwx, hwy, hwxy]) trivial ?_
                refine ret_wp ?_
                first | rfl | ((simp only [vd1, vd2, vd3, vd4, vd5, vd6, vd7, reduceCtorEq, Option.some.injEq, vb_ite, vi_ite, List.getD_cons_zero, List.getD_cons_succ, hwa, hwb, hwx, hwy, hwxy] at *) <;> grind)
            · refine ret_wp ?_
              first | rfl | ((simp only [vd1, vd2, vd3, vd4, vd5, vd6, vd7, reduceCtorEq, Option.some.injEq, vb_ite, vi_ite, List.getD_cons_zero, List.getD_cons_succ, hwa, hwb, hwx, hwy, hwxy] at *) <;> grind)
        · refine ret_wp ?_
          first | rfl | ((simp only [vd1, vd2, vd3, vd4, vd5, vd6, vd7, reduceCtorEq, Option.some.injEq, vb_ite, vi_ite, List.getD_cons_zero, List.getD_cons_succ, hwa, hwb, hwx, hwy, hwxy] at *) <;> grind)
      · refine br_wp (fun c17 => ?_) (fun c17 => ?_)
        · refine br_wp (fun c18 => ?_) (fun c18 => ?_)
          · refine call_fun (((doB (of4 m q b) s (⟨1, s.t, (x + y)⟩ : Ac)), (doB (of4 m q b) (doB (of4 m q b) s (⟨1, s.t, x⟩ : Ac)) (⟨1, s.t, y⟩ : Ac)))) rfl (by simp only [vd1, vd2, vd3, vd4, vd5, vd6, vd7, reduceCtorEq, Option.some.injEq, vb_ite, vi_ite, List.getD_cons_zero, List.getD_cons_succ, hwa, hwb, hwx, hwy, hwxy]) ⟨lgOk_nil (rgB (p := of4 m q b) (by repeat (first | exact hr | apply right_doB | apply right_advB))), lgOk_nil (rgB (p := of4 m q b) (by repeat (first | exact hr | apply right_doB | apply right_advB)))⟩ ?_
            refine br_wp (fun c19 => ?_) (fun c19 => ?_)
            · refine call_fun (((of4 m q b), s, (⟨2, s.t, (x + y)⟩ : Ac))) rfl (by simp only [vd1, vd2, vd3, vd4, vd5, vd6, vd7, reduceCtorEq, Option.some.injEq, vb_ite, vi_ite, List.getD_cons_zero, List.getD_cons_succ, hwa, hwb, hwx, hwy, hwxy]) trivial ?_
              refine br_wp (fun c20 => ?_) (fun c20 => ?_)
              · refine br_wp (fun c21 => ?_) (fun c21 => ?_)
                · refine call_fun (((of4 m q b), (doB (of4 m q b) s (⟨2, s.t, (x + y)⟩ : Ac)), (⟨4, s.t, x⟩ : Ac))) rfl (by simp only [vd1, vd2, vd3, vd4, vd5, vd6, vd7, reduceCtorEq, Option.some.injEq, vb_ite, vi_ite, List.getD_cons_zero, List.getD_cons_succ, hwa, hwb, hwx, hwy, hwxy]) trivial ?_
                  refine call_fun (((of4 m q b), (doB (of4 m q b) (doB (of4 m q b) s (⟨2, s.t, (x + y)⟩ : Ac)) (⟨4, s.t, x⟩ : Ac)), (⟨3, s.t, y⟩ : Ac))) rfl (by simp only [vd1, vd2, vd3, vd4, vd5, vd6, vd7, reduceCtorEq, Option.some.injEq, vb_ite, vi_ite, List.getD_cons_zero, List.getD_cons_succ, hwa, hwb, hwx, hwy, hwxy]) trivial ?_
                  refine br_wp (fun c22 => ?_) (fun c22 => ?_)
                  · refine br_wp (fun c23 => ?_) (fun c23 => ?_)
                    · refine call_fun (((doB (of4 m q b) (doB (of4 m q b) (doB (of4 m q b) s (⟨2, s.t, (x + y)⟩ : Ac)) (⟨4, s.t, x⟩ : Ac)) (⟨3, s.t, y⟩ : Ac)), (doB (of4 m q b) s (⟨1, s.t, x⟩ : Ac)))) rfl (by simp only [vd1, vd2, vd3, vd4, vd5, vd6, vd7, reduceCtorEq, Option.some.injEq, vb_ite, vi_ite, List.getD_cons_zero, List.getD_cons_succ, hwa, hwb, hwx, hwy, hwxy]) ⟨lgOk_nil (rgB (p := of4 m q b) (by repeat (first | exact hr | apply right_doB | apply right_advB))), lgOk_nil (rgB (p := of4 m q b) (by repeat (first | exact hr | apply right_doB | apply right_advB)))⟩ ?_
                      refine br_wp (fun c24 => ?_) (fun c24 => ?_)
                      · refine call_fun (()) rfl (by simp only [vd1, vd2, vd3, vd4, vd5, vd6, vd7, reduceCtorEq, Option.some.injEq, vb_ite, vi_ite, List.getD_cons_zero, List.getD_cons_succ, hwa, hwb, hwx, hwy, hwxy]) trivial ?_
                        refine ret_wp ?_
                        first | rfl | ((simp only [vd1, vd2, vd3, vd4, vd5, vd6, vd7, reduceCtorEq, Option.some.injEq, vb_ite, vi_ite, List.getD_cons_zero, List.getD_cons_succ, hwa, hwb, hwx, hwy, hwxy] at *) <;> grind)
                      · refine ret_wp ?_
                        first | rfl | ((simp only [vd1, vd2, vd3, vd4, vd5, vd6, vd7, reduceCtorEq, Option.some.injEq, vb_ite, vi_ite, List.getD_cons_zero, List.getD_cons_succ, hwa, hwb, hwx, hwy, hwxy] at *) <;> grind)
                    · refine ret_wp ?_
                      first | rfl | ((simp only [vd1, vd2, vd3, vd4, vd5, vd6, vd7, reduceCtorEq, Option.some.injEq, vb_ite, vi_ite, List.getD_cons_zero, List.getD_cons_succ, hwa, hwb, hwx, hwy, hwxy] at *) <;> grind)
                  · refine ret_wp ?_
                    first | rfl | ((simp only [vd1, vd2, vd3, vd4, vd5, vd6, vd7, reduceCtorEq, Option.some.injEq, vb_ite, vi_ite, List.getD_cons_zero, List.getD_cons_succ, hwa, hwb, hwx, hwy, hwxy] at *) <;> grind)
                · refine call_fun (()) rfl (by simp only [vd1, vd2, vd3, vd4, vd5, vd6, vd7, reduceCtorEq, Option.some.injEq, vb_ite, vi_ite, List.getD_cons_zero, List.getD_cons_succ, hwa, hwb, hwx, hwy, hwxy]) trivial ?_
                  refine ret_wp ?_
                  first | rfl | ((simp only [vd1, vd2, vd3, vd4, vd5, vd6, vd7, reduceCtorEq, Option.some.injEq, vb_ite, vi_ite, List.getD_cons_zero, List.getD_cons_succ, hwa, hwb, hwx, hwy, hwxy] at *) <;> grind)
              · refine ret_wp ?_
                first | rfl | ((simp only [vd1, vd2, vd3, vd4, vd5, vd6, vd7, reduceCtorEq, Option.some.injEq, vb_ite, vi_ite, List.getD_cons_zero, List.getD_cons_succ, hwa, hwb, hwx, hwy, hwxy] at *) <;> grind)
            · refine ret_wp ?_
              first | rfl | ((simp only [vd1, vd2, vd3, vd4, vd5, vd6, vd7, reduceCtorEq, Option.some.injEq, vb_ite, vi_ite, List.getD_cons_zero, List.getD_cons_succ, hwa, hwb, hwx, hwy, hwxy] at *) <;> grind)
          · refine call_fun (((of4 m q b), s, (⟨2, s.t, (x + y)⟩ : Ac))) rfl (by simp only [vd1, vd2, vd3, vd4, vd5, vd6, vd7, reduceCtorEq, Option.some.injEq, vb_ite, vi_ite, List.getD_cons_zero, List.getD_cons_succ, hwa, hwb, hwx, hwy, hwxy]) trivial ?_
            refine br_wp (fun c25 => ?_) (fun c25 => ?_)
            · refine br_wp (fun c26 => ?_) (fun c26 => ?_)
              · refine call_fun (((of4 m q b), (doB (of4 m q b) s (⟨2, s.t, (x + y)⟩ : Ac)), (⟨4, s.t, x⟩ : Ac))) rfl (by simp only [vd1, vd2, vd3, vd4, vd5, vd6, vd7, reduceCtorEq, Option.some.injEq, vb_ite, vi_ite, List.getD_cons_zero, List.getD_cons_succ, hwa, hwb, hwx, hwy, hwxy]) trivial ?_
                refine call_fun (((of4 m q b), (doB (of4 m q b) (doB (of4 m q b) s (⟨2, s.t, (x + y)⟩ : Ac)) (⟨4, s.t, x⟩ : Ac)), (⟨3, s.t, y⟩ : Ac))) rfl (by simp only [vd1, vd2, vd3, vd4, vd5, vd6, vd7, reduceCtorEq, Option.some.injEq, vb_ite, vi_ite, List.getD_cons_zero, List.getD_cons_succ, hwa, hwb, hwx, hwy, hwxy]) trivial ?_
                refine br_wp (fun c27 => ?_) (fun c27 => ?_)
                · refine br_wp (fun c28 => ?_) (fun c28 => ?_)
                  · refine call_fun (((doB (of4 m q b) (doB (of4 m q b) (doB (of4 m q b) s (⟨2, s.t, (x + y)⟩ : Ac)) (⟨4, s.t, x⟩ : Ac)) (⟨3, s.t, y⟩ : Ac)), (doB (of4 m q b) s (⟨1, s.t, x⟩ : Ac)))) rfl (by simp only [vd1, vd2, vd3, vd4, vd5, vd6, vd7, reduceCtorEq, Option.some.injEq, vb_ite, vi_ite, List.getD_cons_zero, List.getD_cons_succ, hwa, hwb, hwx, hwy, hwxy]) ⟨lgOk_nil (rgB (p := of4 m q b) (by repeat (first | exact hr | apply right_doB | apply right_advB))), lgOk_nil (rgB (p := of4 m q b) (by repeat (first | exact hr | apply right_doB | apply right_advB)))⟩ ?_
                    refine br_wp (fun c29 => ?_) (fun c29 => ?_)
                    · refine call_fun (()) rfl (by simp only [vd1, vd2, vd3, vd4, vd5, vd6, vd7, reduceCtorEq, Option.some.injEq, vb_ite, vi_ite, List.getD_cons_zero, List.getD_cons_succ, hwa, hwb, hwx, hwy, hwxy]) trivial ?_
                      refine ret_wp ?_
                      first | rfl | ((simp only [vd1, vd2, vd3, vd4, vd5, vd6, vd7, reduceCtorEq, Option.some.injEq, vb_ite, vi_ite, List.getD_cons_zero, List.getD_cons_succ, hwa, hwb, hwx, hwy, hwxy] at *) <;> grind)
                    · refine ret_wp ?_
                      first | rfl | ((simp only [vd1, vd2, vd3, vd4, vd5, vd6, vd7, reduceCtorEq, Option.some.injEq, vb_ite, vi_ite, List.getD_cons_zero, List.getD_cons_succ, hwa, hwb, hwx, hwy, hwxy] at *) <;> grind)
                  · refine ret_wp ?_
                    first | rfl | ((simp only [vd1, vd2, vd3, vd4, vd5, vd6, vd7, reduceCtorEq, Option.some.injEq, vb_ite, vi_ite, List.getD_cons_zero, List.getD_cons_succ, hwa, hwb, hwx, hwy, hwxy] at *) <;> grind)
                · refine ret_wp ?_
                  first | rfl | ((simp only [vd1, vd2, vd3, vd4, vd5, vd6, vd7, reduceCtorEq, Option.some.injEq, vb_ite, vi_ite, List.getD_cons_zero, List.getD_cons_succ, hwa, hwb, hwx, hwy, hwxy] at *) <;> grind)
              · refine call_fun (()) rfl (by simp only [vd1, vd2, vd3, vd4, vd5, vd6, vd7, reduceCtorEq, Option.some.injEq, vb_ite, vi_ite, List.getD_cons_zero, List.getD_cons_succ, hwa, hwb, hwx, hwy, hwxy]) trivial ?_
                refine ret_wp ?_
                first | rfl | ((simp only [vd1, vd2, vd3, vd4, vd5, vd6, vd7, reduceCtorEq, Option.some.injEq, vb_ite, vi_ite, List.getD_cons_zero, List.getD_cons_succ, hwa, hwb, hwx, hwy, hwxy] at *) <;> grind)
            · refine ret_wp ?_
              first | rfl | ((simp only [vd1, vd2, vd3, vd4, vd5, vd6, vd7, reduceCtorEq, Option.some.injEq, vb_ite, vi_ite, List.getD_cons_zero, List.getD_cons_succ, hwa, hwb, hwx, hwy, hwxy] at *) <;> grind)
        · refine ret_wp ?_
          first | rfl | ((simp only [vd1, vd2, vd3, vd4, vd5, vd6, vd7, reduceCtorEq, Option.some.injEq, vb_ite, vi_ite, List.getD_cons_zero, List.getD_cons_succ, hwa, hwb, hwx, hwy, hwxy] at *) <;> grind)
  · refine call_fun (()) rfl (by simp only [vd1, vd2, vd3, vd4, vd5, vd6, vd7, reduceCtorEq, Option.some.injEq, vb_ite, vi_ite, List.getD_cons_zero, List.getD_cons_succ, hwa, hwb, hwx, hwy, hwxy]) trivial ?_
    refine ret_wp ?_
    first | rfl | ((simp only [vd1, vd2, vd3, vd4, vd5, vd6, vd7, reduceCtorEq, Option.some.injEq, vb_ite, vi_ite, List.getD_cons_zero, List.getD_cons_succ, hwa, hwb, hwx, hwy, hwxy] at *) <;> grind)
end Go.Proofs.YtjmenmnjkfnhgaaK
