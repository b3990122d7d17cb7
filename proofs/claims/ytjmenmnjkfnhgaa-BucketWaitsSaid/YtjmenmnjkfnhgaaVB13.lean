import Derived.Test.YtjmenmnjkfnhgaaVB1
import Derived.Test.YtjmenmnjkfnhgaaVBT13
set_option linter.unusedSimpArgs false
set_option linter.unusedVariables false
namespace Go.Proofs.YtjmenmnjkfnhgaaK
open Go Go.Proofs.YtjmenmnjkfnhgaaV Go.Proofs
def kLaw13 (sg : Sig) : Sig × Con := (sg, mkFun (fun x : Int × Int × Int × Sl × Int × Int => ([aK .u16 x.1, aK .u16 x.2.1, aK .u16 x.2.2.1, Sl.atom x.2.2.2.1, aK .u32 x.2.2.2.2.1, aK .u32 x.2.2.2.2.2] : List Atom)) (fun x => actsOk x.2.2.2.1 ∧ pre16 (x.1, x.2.1, x.2.2.1) ∧ (0 ≤ x.2.2.2.2.1 ∧ x.2.2.2.2.1 < 4294967296) ∧ 0 ≤ x.2.2.2.2.2 ∧ x.2.2.2.2.2 < 4294967296) (fun _ => [aB true]))
set_option maxHeartbeats 4000000 in
theorem h13 : holds Try.prog (kLaw13 sg13) := by
  refine fn_holds (l := [kSmall sg27, kKnown sg28, kOf4 sg29, kNewB sg30, kDoB sg31, kAdvB sg46, kSame sg21, kRoomB sg45, kRightB sg44]) ⟨h27, h28, h29, h30, h31, h46, h21, h45, h44, trivial⟩ hP rs13 (inj_of (fun l : List Atom => ((vi (l.getD 0 atom0).1, vi (l.getD 1 atom0).1, vi (l.getD 2 atom0).1, (⟨va (l.getD 3 atom0).1, vn (l.getD 3 atom0).1, vc (l.getD 3 atom0).1, (l.getD 3 atom0).2⟩ : Sl), vi (l.getD 4 atom0).1, vi (l.getD 5 atom0).1) : Int × Int × Int × Sl × Int × Int)) (fun _ => rfl)) Try.func13 (by kernel_rfl) (c := code Try.f13) (by kernel_rfl) (an := an13) (by kernel_rfl) (pk := pk13) rfl (t := t13) (by kernel_rfl) ?_
  rintro ⟨m, q, b, l, d, e⟩ ⟨hl, hu, ⟨u5, u6⟩, u7, u8⟩
  refine ⟨by simp [pk13, KindsOk, encPS, encPSn, encPSnc, encPSA, encPn, encSS, encI, Pol.enc, Stt.enc, Ac.enc, Sl.atom, Sl.nil, Stt.zero, RK.ok], ?_⟩
  unfold t13
  simp only at hl hu u5 u6 u7 u8
  have hwa := wrap_id d (by omega) (by omega)
  have hwb := wrap_id e (by omega) (by omega)
  refine call_fun (l) rfl (by simp only [vd1, vd2, vd3, vd4, vd5, vd6, vd7, reduceCtorEq, Option.some.injEq, vb_ite, vi_ite, List.getD_cons_zero, List.getD_cons_succ, hwa, hwb]) trivial ?_
  refine br_wp (fun c1 => ?_) (fun c1 => ?_)
  · have hn : l.n ≤ 60 := by simp only [vd1, vd2, vd3, vd4, vd5, vd6, vd7, reduceCtorEq, Option.some.injEq, vb_ite, vi_ite, List.getD_cons_zero, List.getD_cons_succ, hwa, hwb] at c1; omega
    refine call_fun ((m, q, b)) rfl (by simp only [vd1, vd2, vd3, vd4, vd5, vd6, vd7, reduceCtorEq, Option.some.injEq, vb_ite, vi_ite, List.getD_cons_zero, List.getD_cons_succ, hwa, hwb]) hu ?_
    refine call_fun (((of4 m q b), 0)) rfl (by simp only [vd1, vd2, vd3, vd4, vd5, vd6, vd7, reduceCtorEq, Option.some.injEq, vb_ite, vi_ite, List.getD_cons_zero, List.getD_cons_succ, hwa, hwb]) trivial ?_
    refine need_wp ?_ ?_
    · first | exact ⟨_, _, _, rfl⟩ | exact acts_row hl | exact acts_sz hl | (simp only [vd1, vd2, vd3, vd4, vd5, vd6, vd7, reduceCtorEq, Option.some.injEq, vb_ite, vi_ite, List.getD_cons_zero, List.getD_cons_succ, hwa, hwb]; exact ⟨_, rfl⟩) | (simp only [vd1, vd2, vd3, vd4, vd5, vd6, vd7, reduceCtorEq, Option.some.injEq, vb_ite, vi_ite, List.getD_cons_zero, List.getD_cons_succ, hwa, hwb] at *; grind)
    refine loop_wp (fun bs0 => ∃ (i : Int) (s : Stt), bs0 = [aI i, aI s.t, aI s.v, aI s.h, Sl.atom s.g] ∧ (0 ≤ i ∧ i ≤ l.n ∧ rightB (of4 m q b) s)) (fun bs0 => (l.n - vi (bs0.getD 0 atom0).1).toNat) ?_ ?_
    · refine ⟨0, (newB (of4 m q b) 0), by simp only [vd1, vd2, vd3, vd4, vd5, vd6, vd7, reduceCtorEq, Option.some.injEq, vb_ite, vi_ite, List.getD_cons_zero, List.getD_cons_succ, hwa, hwb], ?_⟩
      exact ⟨by omega, by omega, right_newB (okOfB hu)⟩
    rintro _ _ ⟨i, s, rfl, ⟨i0, i1, hr⟩⟩
    refine need_wp ?_ ?_
    · first | exact ⟨_, _, _, rfl⟩ | exact acts_row hl | exact acts_sz hl | (simp only [vd1, vd2, vd3, vd4, vd5, vd6, vd7, reduceCtorEq, Option.some.injEq, vb_ite, vi_ite, List.getD_cons_zero, List.getD_cons_succ, hwa, hwb]; exact ⟨_, rfl⟩) | (simp only [vd1, vd2, vd3, vd4, vd5, vd6, vd7, reduceCtorEq, Option.some.injEq, vb_ite, vi_ite, List.getD_cons_zero, List.getD_cons_succ, hwa, hwb] at *; grind)
    refine br_wp (fun c2 => ?_) (fun c2 => ?_)
    · have hi : i < l.n := by simp only [vd1, vd2, vd3, vd4, vd5, vd6, vd7, reduceCtorEq, Option.some.injEq, vb_ite, vi_ite, List.getD_cons_zero, List.getD_cons_succ, hwa, hwb] at c2; omega
      obtain ⟨a0, z0, z1, z2⟩ := acts_at hl i0 hi
      refine need_wp ?_ ?_
      · first | exact ⟨_, _, _, rfl⟩ | exact acts_row hl | exact acts_sz hl | (simp only [vd1, vd2, vd3, vd4, vd5, vd6, vd7, reduceCtorEq, Option.some.injEq, vb_ite, vi_ite, List.getD_cons_zero, List.getD_cons_succ, hwa, hwb, z0, z1, z2]; exact ⟨_, rfl⟩) | (simp only [vd1, vd2, vd3, vd4, vd5, vd6, vd7, reduceCtorEq, Option.some.injEq, vb_ite, vi_ite, List.getD_cons_zero, List.getD_cons_succ, hwa, hwb, z0, z1, z2] at *; grind)
      refine need_wp ?_ ?_
      · first | exact ⟨_, _, _, rfl⟩ | exact acts_row hl | exact acts_sz hl | (simp only [vd1, vd2, vd3, vd4, vd5, vd6, vd7, reduceCtorEq, Option.some.injEq, vb_ite, vi_ite, List.getD_cons_zero, List.getD_cons_succ, hwa, hwb, z0, z1, z2]; exact ⟨_, rfl⟩) | (simp only [vd1, vd2, vd3, vd4, vd5, vd6, vd7, reduceCtorEq, Option.some.injEq, vb_ite, vi_ite, List.getD_cons_zero, List.getD_cons_succ, hwa, hwb, z0, z1, z2] at *; grind)
      refine need_wp ?_ ?_
      · first | exact ⟨_, _, _, rfl⟩ | exact acts_row hl | exact acts_sz hl | (simp only [vd1, vd2, vd3, vd4, vd5, vd6, vd7, reduceCtorEq, Option.some.injEq, vb_ite, vi_ite, List.getD_cons_zero, List.getD_cons_succ, hwa, hwb, z0, z1, z2]; exact ⟨_, rfl⟩) | (simp only [vd1, vd2, vd3, vd4, vd5, vd6, vd7, reduceCtorEq, Option.some.injEq, vb_ite, vi_ite, List.getD_cons_zero, List.getD_cons_succ, hwa, hwb, z0, z1, z2] at *; grind)
      refine need_wp ?_ ?_
      · first | exact ⟨_, _, _, rfl⟩ | exact acts_row hl | exact acts_sz hl | (simp only [vd1, vd2, vd3, vd4, vd5, vd6, vd7, reduceCtorEq, Option.some.injEq, vb_ite, vi_ite, List.getD_cons_zero, List.getD_cons_succ, hwa, hwb, z0, z1, z2]; exact ⟨_, rfl⟩) | (simp only [vd1, vd2, vd3, vd4, vd5, vd6, vd7, reduceCtorEq, Option.some.injEq, vb_ite, vi_ite, List.getD_cons_zero, List.getD_cons_succ, hwa, hwb, z0, z1, z2] at *; grind)
      refine need_wp ?_ ?_
      · first | exact ⟨_, _, _, rfl⟩ | exact acts_row hl | exact acts_sz hl | (simp only [vd1, vd2, vd3, vd4, vd5, vd6, vd7, reduceCtorEq, Option.some.injEq, vb_ite, vi_ite, List.getD_cons_zero, List.getD_cons_succ, hwa, hwb, z0, z1, z2]; exact ⟨_, rfl⟩) | (simp only [vd1, vd2, vd3, vd4, vd5, vd6, vd7, reduceCtorEq, Option.some.injEq, vb_ite, vi_ite, List.getD_cons_zero, List.getD_cons_succ, hwa, hwb, z0, z1, z2] at *; grind)
      refine need_wp ?_ ?_
      · first | exact ⟨_, _, _, rfl⟩ | exact acts_row hl | exact acts_sz hl | (simp only [vd1, vd2, vd3, vd4, vd5, vd6, vd7, reduceCtorEq, Option.some.injEq, vb_ite, vi_ite, List.getD_cons_zero, List.getD_cons_succ, hwa, hwb, z0, z1, z2]; exact ⟨_, rfl⟩) | (simp only [vd1, vd2, vd3, vd4, vd5, vd6, vd7, reduceCtorEq, Option.some.injEq, vb_ite, vi_ite, List.getD_cons_zero, List.getD_cons_succ, hwa, hwb, z0, z1, z2] at *; grind)
      refine need_wp ?_ ?_
      · first | exact ⟨_, _, _, rfl⟩ | exact acts_row hl | exact acts_sz hl | (simp only [vd1, vd2, vd3, vd4, vd5, vd6, vd7, reduceCtorEq, Option.some.injEq, vb_ite, vi_ite, List.getD_cons_zero, List.getD_cons_succ, hwa, hwb, z0, z1, z2]; exact ⟨_, rfl⟩) | (simp only [vd1, vd2, vd3, vd4, vd5, vd6, vd7, reduceCtorEq, Option.some.injEq, vb_ite, vi_ite, List.getD_cons_zero, List.getD_cons_succ, hwa, hwb, z0, z1, z2] at *; grind)
      refine need_wp ?_ ?_
      · first | exact ⟨_, _, _, rfl⟩ | exact acts_row hl | exact acts_sz hl | (simp only [vd1, vd2, vd3, vd4, vd5, vd6, vd7, reduceCtorEq, Option.some.injEq, vb_ite, vi_ite, List.getD_cons_zero, List.getD_cons_succ, hwa, hwb, z0, z1, z2]; exact ⟨_, rfl⟩) | (simp only [vd1, vd2, vd3, vd4, vd5, vd6, vd7, reduceCtorEq, Option.some.injEq, vb_ite, vi_ite, List.getD_cons_zero, List.getD_cons_succ, hwa, hwb, z0, z1, z2] at *; grind)
      refine need_wp ?_ ?_
      · first | exact ⟨_, _, _, rfl⟩ | exact acts_row hl | exact acts_sz hl | (simp only [vd1, vd2, vd3, vd4, vd5, vd6, vd7, reduceCtorEq, Option.some.injEq, vb_ite, vi_ite, List.getD_cons_zero, List.getD_cons_succ, hwa, hwb, z0, z1, z2]; exact ⟨_, rfl⟩) | (simp only [vd1, vd2, vd3, vd4, vd5, vd6, vd7, reduceCtorEq, Option.some.injEq, vb_ite, vi_ite, List.getD_cons_zero, List.getD_cons_succ, hwa, hwb, z0, z1, z2] at *; grind)
      refine call_fun (((of4 m q b), s, a0)) rfl (by simp only [vd1, vd2, vd3, vd4, vd5, vd6, vd7, reduceCtorEq, Option.some.injEq, vb_ite, vi_ite, List.getD_cons_zero, List.getD_cons_succ, hwa, hwb, z0, z1, z2]) trivial ?_
      refine need_wp ?_ ?_
      · first | exact ⟨_, _, _, rfl⟩ | exact acts_row hl | exact acts_sz hl | (simp only [vd1, vd2, vd3, vd4, vd5, vd6, vd7, reduceCtorEq, Option.some.injEq, vb_ite, vi_ite, List.getD_cons_zero, List.getD_cons_succ, hwa, hwb, z0, z1, z2]; exact ⟨_, rfl⟩) | (simp only [vd1, vd2, vd3, vd4, vd5, vd6, vd7, reduceCtorEq, Option.some.injEq, vb_ite, vi_ite, List.getD_cons_zero, List.getD_cons_succ, hwa, hwb, z0, z1, z2] at *; grind)
      refine again_wp rfl ⟨(IntKind.i64.wrap (i + 1)), (doB (of4 m q b) s a0), by simp only [vd1, vd2, vd3, vd4, vd5, vd6, vd7, reduceCtorEq, Option.some.injEq, vb_ite, vi_ite, List.getD_cons_zero, List.getD_cons_succ, hwa, hwb, z0, z1, z2], ?_⟩ ?_
      · have hw := wrap_id (i + 1) (by omega) (by omega); simp only [vd1, vd2, vd3, vd4, vd5, vd6, vd7, reduceCtorEq, Option.some.injEq, vb_ite, vi_ite, List.getD_cons_zero, List.getD_cons_succ, hwa, hwb, z0, z1, z2, hw]; exact ⟨by omega, by omega, right_doB a0 hr⟩
      · have hw := wrap_id (i + 1) (by omega) (by omega); simp only [vd1, vd2, vd3, vd4, vd5, vd6, vd7, reduceCtorEq, Option.some.injEq, vb_ite, vi_ite, List.getD_cons_zero, List.getD_cons_succ, hwa, hwb, z0, z1, z2, hw]; omega
    · refine pop_wp ?_
      refine br_wp (fun c3 => ?_) (fun c3 => ?_)
      · refine call_fun (()) rfl (by simp only [vd1, vd2, vd3, vd4, vd5, vd6, vd7, reduceCtorEq, Option.some.injEq, vb_ite, vi_ite, List.getD_cons_zero, List.getD_cons_succ, hwa, hwb]) trivial ?_
        refine ret_wp ?_
        first | rfl | ((simp only [vd1, vd2, vd3, vd4, vd5, vd6, vd7, reduceCtorEq, Option.some.injEq, vb_ite, vi_ite, List.getD_cons_zero, List.getD_cons_succ, hwa, hwb] at *) <;> grind)
      · have ht : s.t ≤ 4503599627370496 := by simp only [vd1, vd2, vd3, vd4, vd5, vd6, vd7, reduceCtorEq, Option.some.injEq, vb_ite, vi_ite, List.getD_cons_zero, List.getD_cons_succ, hwa, hwb] at c3; grind
        have ht0 : 0 ≤ s.t := hr.2.1
        obtain ⟨x, hx⟩ : ∃ x : Int, x = s.t + d := ⟨_, rfl⟩
        obtain ⟨y, hy⟩ : ∃ y : Int, y = x + e := ⟨_, rfl⟩
        have hwx : IntKind.i64.wrap (s.t + d) = x := by rw [hx]; exact wrap_id _ (by omega) (by omega)
        have hwy : IntKind.i64.wrap (x + e) = y := by rw [hy]; exact wrap_id _ (by omega) (by omega)
        obtain ⟨f1, f2, f3, f4, f5, f6, f7⟩ := waitsB (x := x) (y := y) hr (by omega) (by omega) (by omega)
        refine call_fun (((of4 m q b), s, x)) rfl (by simp only [vd1, vd2, vd3, vd4, vd5, vd6, vd7, reduceCtorEq, Option.some.injEq, vb_ite, vi_ite, List.getD_cons_zero, List.getD_cons_succ, hwa, hwb, hwx, hwy]) trivial ?_
        refine call_fun (((of4 m q b), s, y)) rfl (by simp only [vd1, vd2, vd3, vd4, vd5, vd6, vd7, reduceCtorEq, Option.some.injEq, vb_ite, vi_ite, List.getD_cons_zero, List.getD_cons_succ, hwa, hwb, hwx, hwy]) trivial ?_
        refine call_fun (((of4 m q b), (advB (of4 m q b) s x), y)) rfl (by simp only [vd1, vd2, vd3, vd4, vd5, vd6, vd7, reduceCtorEq, Option.some.injEq, vb_ite, vi_ite, List.getD_cons_zero, List.getD_cons_succ, hwa, hwb, hwx, hwy]) trivial ?_
        refine call_fun (((advB (of4 m q b) (advB (of4 m q b) s x) y), (advB (of4 m q b) s y))) rfl (by simp only [vd1, vd2, vd3, vd4, vd5, vd6, vd7, reduceCtorEq, Option.some.injEq, vb_ite, vi_ite, List.getD_cons_zero, List.getD_cons_succ, hwa, hwb, hwx, hwy]) ⟨lgOk_nil (rgB (p := of4 m q b) (by repeat (first | exact hr | apply right_doB | apply right_advB))), lgOk_nil (rgB (p := of4 m q b) (by repeat (first | exact hr | apply right_doB | apply right_advB)))⟩ ?_
        refine br_wp (fun c4 => ?_) (fun c4 => ?_)
        · refine call_fun (((of4 m q b), (advB (of4 m q b) s y), x)) rfl (by simp only [vd1, vd2, vd3, vd4, vd5, vd6, vd7, reduceCtorEq, Option.some.injEq, vb_ite, vi_ite, List.getD_cons_zero, List.getD_cons_succ, hwa, hwb, hwx, hwy]) trivial ?_
          refine call_fun (((advB (of4 m q b) (advB (of4 m q b) s y) x), (advB (of4 m q b) s y))) rfl (by simp only [vd1, vd2, vd3, vd4, vd5, vd6, vd7, reduceCtorEq, Option.some.injEq, vb_ite, vi_ite, List.getD_cons_zero, List.getD_cons_succ, hwa, hwb, hwx, hwy]) ⟨lgOk_nil (rgB (p := of4 m q b) (by repeat (first | exact hr | apply right_doB | apply right_advB))), lgOk_nil (rgB (p := of4 m q b) (by repeat (first | exact hr | apply right_doB | apply right_advB)))⟩ ?_
          refine br_wp (fun c5 => ?_) (fun c5 => ?_)
          · refine br_wp (fun c6 => ?_) (fun c6 => ?_)
            · refine ret_wp ?_
              first | rfl | ((simp only [vd1, vd2, vd3, vd4, vd5, vd6, vd7, reduceCtorEq, Option.some.injEq, vb_ite, vi_ite, List.getD_cons_zero, List.getD_cons_succ, hwa, hwb, hwx, hwy] at *) <;> grind)
            · refine br_wp (fun c7 => ?_) (fun c7 => ?_)
              · refine ret_wp ?_
                first | rfl | ((simp only [vd1, vd2, vd3, vd4, vd5, vd6, vd7, reduceCtorEq, Option.some.injEq, vb_ite, vi_ite, List.getD_cons_zero, List.getD_cons_succ, hwa, hwb, hwx, hwy] at *) <;> grind)
              · refine call_fun (((of4 m q b), s, y)) rfl (by simp only [vd1, vd2, vd3, vd4, vd5, vd6, vd7, reduceCtorEq, Option.some.injEq, vb_ite, vi_ite, List.getD_cons_zero, List.getD_cons_succ, hwa, hwb, hwx, hwy]) trivial ?_
                refine call_fun (((of4 m q b), s, x)) rfl (by simp only [vd1, vd2, vd3, vd4, vd5, vd6, vd7, reduceCtorEq, Option.some.injEq, vb_ite, vi_ite, List.getD_cons_zero, List.getD_cons_succ, hwa, hwb, hwx, hwy]) trivial ?_
                refine br_wp (fun c8 => ?_) (fun c8 => ?_)
                · refine call_fun (((of4 m q b), (advB (of4 m q b) s x), y)) rfl (by simp only [vd1, vd2, vd3, vd4, vd5, vd6, vd7, reduceCtorEq, Option.some.injEq, vb_ite, vi_ite, List.getD_cons_zero, List.getD_cons_succ, hwa, hwb, hwx, hwy]) trivial ?_
                  refine call_fun (((of4 m q b), s, y)) rfl (by simp only [vd1, vd2, vd3, vd4, vd5, vd6, vd7, reduceCtorEq, Option.some.injEq, vb_ite, vi_ite, List.getD_cons_zero, List.getD_cons_succ, hwa, hwb, hwx, hwy]) trivial ?_
                  refine br_wp (fun c9 => ?_) (fun c9 => ?_)
                  · refine call_fun (((of4 m q b), (advB (of4 m q b) s x))) rfl (by simp only [vd1, vd2, vd3, vd4, vd5, vd6, vd7, reduceCtorEq, Option.some.injEq, vb_ite, vi_ite, List.getD_cons_zero, List.getD_cons_succ, hwa, hwb, hwx, hwy]) trivial ?_
                    refine br_wp (fun c10 => ?_) (fun c10 => ?_)
                    · refine call_fun (()) rfl (by simp only [vd1, vd2, vd3, vd4, vd5, vd6, vd7, reduceCtorEq, Option.some.injEq, vb_ite, vi_ite, List.getD_cons_zero, List.getD_cons_succ, hwa, hwb, hwx, hwy]) trivial ?_
                      refine ret_wp ?_
                      first | rfl | ((simp only [vd1, vd2, vd3, vd4, vd5, vd6, vd7, reduceCtorEq, Option.some.injEq, vb_ite, vi_ite, List.getD_cons_zero, List.getD_cons_succ, hwa, hwb, hwx, hwy] at *) <;> grind)
                    · refine ret_wp ?_
                      first | rfl | ((simp only [vd1, vd2, vd3, vd4, vd5, vd6, vd7, reduceCtorEq, Option.some.injEq, vb_ite, vi_ite, List.getD_cons_zero, List.getD_cons_succ, hwa, hwb, hwx, hwy] at *) <;> grind)
                  · refine ret_wp ?_
                    first | rfl | ((simp only [vd1, vd2, vd3, vd4, vd5, vd6, vd7, reduceCtorEq, Option.some.injEq, vb_ite, vi_ite, List.getD_cons_zero, List.getD_cons_succ, hwa, hwb, hwx, hwy] at *) <;> grind)
                · refine ret_wp ?_
                  first | rfl | ((simp only [vd1, vd2, vd3, vd4, vd5, vd6, vd7, reduceCtorEq, Option.some.injEq, vb_ite, vi_ite, List.getD_cons_zero, List.getD_cons_succ, hwa, hwb, hwx, hwy] at *) <;> grind)
          · refine ret_wp ?_
            first | rfl | ((simp only [vd1, vd2, vd3, vd4, vd5, vd6, vd7, reduceCtorEq, Option.some.injEq, vb_ite, vi_ite, List.getD_cons_zero, List.getD_cons_succ, hwa, hwb, hwx, hwy] at *) <;> grind)
        · refine ret_wp ?_
          first | rfl | ((simp only [vd1, vd2, vd3, vd4, vd5, vd6, vd7, reduceCtorEq, Option.some.injEq, vb_ite, vi_ite, List.getD_cons_zero, List.getD_cons_succ, hwa, hwb, hwx, hwy] at *) <;> grind)
  · refine call_fun (()) rfl (by simp only [vd1, vd2, vd3, vd4, vd5, vd6, vd7, reduceCtorEq, Option.some.injEq, vb_ite, vi_ite, List.getD_cons_zero, List.getD_cons_succ, hwa, hwb]) trivial ?_
    refine ret_wp ?_
    first | rfl | ((simp only [vd1, vd2, vd3, vd4, vd5, vd6, vd7, reduceCtorEq, Option.some.injEq, vb_ite, vi_ite, List.getD_cons_zero, List.getD_cons_succ, hwa, hwb] at *) <;> grind)
end Go.Proofs.YtjmenmnjkfnhgaaK
