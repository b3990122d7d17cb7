import Derived.Test.YtjmenmnjkfnhgaaVB1
import Derived.Test.YtjmenmnjkfnhgaaVBT12
set_option linter.unusedSimpArgs false
set_option linter.unusedVariables false
namespace Go.Proofs.YtjmenmnjkfnhgaaK
open Go Go.Proofs.YtjmenmnjkfnhgaaV Go.Proofs
def kLaw12 (sg : Sig) : Sig × Con := (sg, mkFun (fun x : Int × Int × Int × Sl × Int × Int => ([aK .u16 x.1, aK .u16 x.2.1, aK .u16 x.2.2.1, Sl.atom x.2.2.2.1, aK .u32 x.2.2.2.2.1, aK .u8 x.2.2.2.2.2] : List Atom)) (fun x => actsOk x.2.2.2.1 ∧ pre16 (x.1, x.2.1, x.2.2.1) ∧ (0 ≤ x.2.2.2.2.1 ∧ x.2.2.2.2.1 < 4294967296) ∧ 0 ≤ x.2.2.2.2.2 ∧ x.2.2.2.2.2 < 256) (fun _ => [aB true]))
set_option maxHeartbeats 4000000 in
theorem h12 : holds Try.prog (kLaw12 sg12) := by
  refine fn_holds (l := [kSmall sg27, kKnown sg28, kOf4 sg29, kNewB sg30, kDoB sg31, kSame sg21, kRightB sg44, kRoomB sg45, kAdvB sg46]) ⟨h27, h28, h29, h30, h31, h21, h44, h45, h46, trivial⟩ hP rs12 (inj_of (fun l : List Atom => ((vi (l.getD 0 atom0).1, vi (l.getD 1 atom0).1, vi (l.getD 2 atom0).1, (⟨va (l.getD 3 atom0).1, vn (l.getD 3 atom0).1, vc (l.getD 3 atom0).1, (l.getD 3 atom0).2⟩ : Sl), vi (l.getD 4 atom0).1, vi (l.getD 5 atom0).1) : Int × Int × Int × Sl × Int × Int)) (fun _ => rfl)) Try.func12 (by kernel_rfl) (c := code Try.f12) (by kernel_rfl) (an := an12) (by kernel_rfl) (pk := pk12) rfl (t := t12) (by kernel_rfl) ?_
  rintro ⟨m, q, b, l, w, k⟩ ⟨hl, hu, ⟨u5, u6⟩, u7, u8⟩
  refine ⟨by simp [pk12, KindsOk, encPS, encPSn, encPSnc, encPSA, encPn, encSS, encI, Pol.enc, Stt.enc, Ac.enc, Sl.atom, Sl.nil, Stt.zero, RK.ok], ?_⟩
  unfold t12
  simp only at hl hu u5 u6 u7 u8
  have hww := wrap_id w (by omega) (by omega)
  have hwk := wrap_id k (by omega) (by omega)
  obtain ⟨c, hc⟩ : ∃ c : Int, c = 1 + k := ⟨_, rfl⟩
  have hwc : IntKind.i64.wrap (1 + k) = c := by rw [hc]; exact wrap_id _ (by omega) (by omega)
  refine call_fun (l) rfl (by simp only [vd1, vd2, vd3, vd4, vd5, vd6, vd7, reduceCtorEq, Option.some.injEq, vb_ite, vi_ite, List.getD_cons_zero, List.getD_cons_succ, hww, hwk, hwc]) trivial ?_
  refine br_wp (fun c1 => ?_) (fun c1 => ?_)
  · have hn : l.n ≤ 60 := by simp only [vd1, vd2, vd3, vd4, vd5, vd6, vd7, reduceCtorEq, Option.some.injEq, vb_ite, vi_ite, List.getD_cons_zero, List.getD_cons_succ, hww, hwk, hwc] at c1; omega
    refine call_fun ((m, q, b)) rfl (by simp only [vd1, vd2, vd3, vd4, vd5, vd6, vd7, reduceCtorEq, Option.some.injEq, vb_ite, vi_ite, List.getD_cons_zero, List.getD_cons_succ, hww, hwk, hwc]) hu ?_
    refine call_fun (((of4 m q b), 0)) rfl (by simp only [vd1, vd2, vd3, vd4, vd5, vd6, vd7, reduceCtorEq, Option.some.injEq, vb_ite, vi_ite, List.getD_cons_zero, List.getD_cons_succ, hww, hwk, hwc]) trivial ?_
    refine need_wp ?_ ?_
    · first | exact ⟨_, _, _, rfl⟩ | exact acts_row hl | exact acts_sz hl | (simp only [vd1, vd2, vd3, vd4, vd5, vd6, vd7, reduceCtorEq, Option.some.injEq, vb_ite, vi_ite, List.getD_cons_zero, List.getD_cons_succ, hww, hwk, hwc]; exact ⟨_, rfl⟩) | (simp only [vd1, vd2, vd3, vd4, vd5, vd6, vd7, reduceCtorEq, Option.some.injEq, vb_ite, vi_ite, List.getD_cons_zero, List.getD_cons_succ, hww, hwk, hwc] at *; grind)
    refine loop_wp (fun bs0 => ∃ (i : Int) (s : Stt), bs0 = [aI i, aI s.t, aI s.v, aI s.h, Sl.atom s.g] ∧ (0 ≤ i ∧ i ≤ l.n ∧ rightB (of4 m q b) s)) (fun bs0 => (l.n - vi (bs0.getD 0 atom0).1).toNat) ?_ ?_
    · refine ⟨0, (newB (of4 m q b) 0), by simp only [vd1, vd2, vd3, vd4, vd5, vd6, vd7, reduceCtorEq, Option.some.injEq, vb_ite, vi_ite, List.getD_cons_zero, List.getD_cons_succ, hww, hwk, hwc], ?_⟩
      exact ⟨by omega, by omega, right_newB (okOfB hu)⟩
    rintro _ _ ⟨i, s, rfl, ⟨i0, i1, hr⟩⟩
    refine need_wp ?_ ?_
    · first | exact ⟨_, _, _, rfl⟩ | exact acts_row hl | exact acts_sz hl | (simp only [vd1, vd2, vd3, vd4, vd5, vd6, vd7, reduceCtorEq, Option.some.injEq, vb_ite, vi_ite, List.getD_cons_zero, List.getD_cons_succ, hww, hwk, hwc]; exact ⟨_, rfl⟩) | (simp only [vd1, vd2, vd3, vd4, vd5, vd6, vd7, reduceCtorEq, Option.some.injEq, vb_ite, vi_ite, List.getD_cons_zero, List.getD_cons_succ, hww, hwk, hwc] at *; grind)
    refine br_wp (fun c2 => ?_) (fun c2 => ?_)
    · have hi : i < l.n := by simp only [vd1, vd2, vd3, vd4, vd5, vd6, vd7, reduceCtorEq, Option.some.injEq, vb_ite, vi_ite, List.getD_cons_zero, List.getD_cons_succ, hww, hwk, hwc] at c2; omega
      obtain ⟨a0, z0, z1, z2⟩ := acts_at hl i0 hi
      have g1 := right_doB a0 hr
      have g2 := fun hd => same_outB (a := a0) hr hd
      refine need_wp ?_ ?_
      · first | exact ⟨_, _, _, rfl⟩ | exact acts_row hl | exact acts_sz hl | (simp only [vd1, vd2, vd3, vd4, vd5, vd6, vd7, reduceCtorEq, Option.some.injEq, vb_ite, vi_ite, List.getD_cons_zero, List.getD_cons_succ, hww, hwk, hwc, z0, z1, z2]; exact ⟨_, rfl⟩) | (simp only [vd1, vd2, vd3, vd4, vd5, vd6, vd7, reduceCtorEq, Option.some.injEq, vb_ite, vi_ite, List.getD_cons_zero, List.getD_cons_succ, hww, hwk, hwc, z0, z1, z2] at *; grind)
      refine need_wp ?_ ?_
      · first | exact ⟨_, _, _, rfl⟩ | exact acts_row hl | exact acts_sz hl | (simp only [vd1, vd2, vd3, vd4, vd5, vd6, vd7, reduceCtorEq, Option.some.injEq, vb_ite, vi_ite, List.getD_cons_zero, List.getD_cons_succ, hww, hwk, hwc, z0, z1, z2]; exact ⟨_, rfl⟩) | (simp only [vd1, vd2, vd3, vd4, vd5, vd6, vd7, reduceCtorEq, Option.some.injEq, vb_ite, vi_ite, List.getD_cons_zero, List.getD_cons_succ, hww, hwk, hwc, z0, z1, z2] at *; grind)
      refine need_wp ?_ ?_
      · first | exact ⟨_, _, _, rfl⟩ | exact acts_row hl | exact acts_sz hl | (simp only [vd1, vd2, vd3, vd4, vd5, vd6, vd7, reduceCtorEq, Option.some.injEq, vb_ite, vi_ite, List.getD_cons_zero, List.getD_cons_succ, hww, hwk, hwc, z0, z1, z2]; exact ⟨_, rfl⟩) | (simp only [vd1, vd2, vd3, vd4, vd5, vd6, vd7, reduceCtorEq, Option.some.injEq, vb_ite, vi_ite, List.getD_cons_zero, List.getD_cons_succ, hww, hwk, hwc, z0, z1, z2] at *; grind)
      refine need_wp ?_ ?_
      · first | exact ⟨_, _, _, rfl⟩ | exact acts_row hl | exact acts_sz hl | (simp only [vd1, vd2, vd3, vd4, vd5, vd6, vd7, reduceCtorEq, Option.some.injEq, vb_ite, vi_ite, List.getD_cons_zero, List.getD_cons_succ, hww, hwk, hwc, z0, z1, z2]; exact ⟨_, rfl⟩) | (simp only [vd1, vd2, vd3, vd4, vd5, vd6, vd7, reduceCtorEq, Option.some.injEq, vb_ite, vi_ite, List.getD_cons_zero, List.getD_cons_succ, hww, hwk, hwc, z0, z1, z2] at *; grind)
      refine need_wp ?_ ?_
      · first | exact ⟨_, _, _, rfl⟩ | exact acts_row hl | exact acts_sz hl | (simp only [vd1, vd2, vd3, vd4, vd5, vd6, vd7, reduceCtorEq, Option.some.injEq, vb_ite, vi_ite, List.getD_cons_zero, List.getD_cons_succ, hww, hwk, hwc, z0, z1, z2]; exact ⟨_, rfl⟩) | (simp only [vd1, vd2, vd3, vd4, vd5, vd6, vd7, reduceCtorEq, Option.some.injEq, vb_ite, vi_ite, List.getD_cons_zero, List.getD_cons_succ, hww, hwk, hwc, z0, z1, z2] at *; grind)
      refine need_wp ?_ ?_
      · first | exact ⟨_, _, _, rfl⟩ | exact acts_row hl | exact acts_sz hl | (simp only [vd1, vd2, vd3, vd4, vd5, vd6, vd7, reduceCtorEq, Option.some.injEq, vb_ite, vi_ite, List.getD_cons_zero, List.getD_cons_succ, hww, hwk, hwc, z0, z1, z2]; exact ⟨_, rfl⟩) | (simp only [vd1, vd2, vd3, vd4, vd5, vd6, vd7, reduceCtorEq, Option.some.injEq, vb_ite, vi_ite, List.getD_cons_zero, List.getD_cons_succ, hww, hwk, hwc, z0, z1, z2] at *; grind)
      refine need_wp ?_ ?_
      · first | exact ⟨_, _, _, rfl⟩ | exact acts_row hl | exact acts_sz hl | (simp only [vd1, vd2, vd3, vd4, vd5, vd6, vd7, reduceCtorEq, Option.some.injEq, vb_ite, vi_ite, List.getD_cons_zero, List.getD_cons_succ, hww, hwk, hwc, z0, z1, z2]; exact ⟨_, rfl⟩) | (simp only [vd1, vd2, vd3, vd4, vd5, vd6, vd7, reduceCtorEq, Option.some.injEq, vb_ite, vi_ite, List.getD_cons_zero, List.getD_cons_succ, hww, hwk, hwc, z0, z1, z2] at *; grind)
      refine need_wp ?_ ?_
      · first | exact ⟨_, _, _, rfl⟩ | exact acts_row hl | exact acts_sz hl | (simp only [vd1, vd2, vd3, vd4, vd5, vd6, vd7, reduceCtorEq, Option.some.injEq, vb_ite, vi_ite, List.getD_cons_zero, List.getD_cons_succ, hww, hwk, hwc, z0, z1, z2]; exact ⟨_, rfl⟩) | (simp only [vd1, vd2, vd3, vd4, vd5, vd6, vd7, reduceCtorEq, Option.some.injEq, vb_ite, vi_ite, List.getD_cons_zero, List.getD_cons_succ, hww, hwk, hwc, z0, z1, z2] at *; grind)
      refine need_wp ?_ ?_
      · first | exact ⟨_, _, _, rfl⟩ | exact acts_row hl | exact acts_sz hl | (simp only [vd1, vd2, vd3, vd4, vd5, vd6, vd7, reduceCtorEq, Option.some.injEq, vb_ite, vi_ite, List.getD_cons_zero, List.getD_cons_succ, hww, hwk, hwc, z0, z1, z2]; exact ⟨_, rfl⟩) | (simp only [vd1, vd2, vd3, vd4, vd5, vd6, vd7, reduceCtorEq, Option.some.injEq, vb_ite, vi_ite, List.getD_cons_zero, List.getD_cons_succ, hww, hwk, hwc, z0, z1, z2] at *; grind)
      refine call_fun (((of4 m q b), s, a0)) rfl (by simp only [vd1, vd2, vd3, vd4, vd5, vd6, vd7, reduceCtorEq, Option.some.injEq, vb_ite, vi_ite, List.getD_cons_zero, List.getD_cons_succ, hww, hwk, hwc, z0, z1, z2]) trivial ?_
      refine br_wp (fun c3 => ?_) (fun c3 => ?_)
      · refine call_fun (((of4 m q b), (doB (of4 m q b) s a0))) rfl (by simp only [vd1, vd2, vd3, vd4, vd5, vd6, vd7, reduceCtorEq, Option.some.injEq, vb_ite, vi_ite, List.getD_cons_zero, List.getD_cons_succ, hww, hwk, hwc, z0, z1, z2]) trivial ?_
        refine br_wp (fun c4 => ?_) (fun c4 => ?_)
        · refine need_wp ?_ ?_
          · first | exact ⟨_, _, _, rfl⟩ | exact acts_row hl | exact acts_sz hl | (simp only [vd1, vd2, vd3, vd4, vd5, vd6, vd7, reduceCtorEq, Option.some.injEq, vb_ite, vi_ite, List.getD_cons_zero, List.getD_cons_succ, hww, hwk, hwc, z0, z1, z2]; exact ⟨_, rfl⟩) | (simp only [vd1, vd2, vd3, vd4, vd5, vd6, vd7, reduceCtorEq, Option.some.injEq, vb_ite, vi_ite, List.getD_cons_zero, List.getD_cons_succ, hww, hwk, hwc, z0, z1, z2] at *; grind)
          refine again_wp rfl ⟨(IntKind.i64.wrap (i + 1)), (doB (of4 m q b) s a0), by simp only [vd1, vd2, vd3, vd4, vd5, vd6, vd7, reduceCtorEq, Option.some.injEq, vb_ite, vi_ite, List.getD_cons_zero, List.getD_cons_succ, hww, hwk, hwc, z0, z1, z2], ?_⟩ ?_
          · have hw := wrap_id (i + 1) (by omega) (by omega); simp only [vd1, vd2, vd3, vd4, vd5, vd6, vd7, reduceCtorEq, Option.some.injEq, vb_ite, vi_ite, List.getD_cons_zero, List.getD_cons_succ, hww, hwk, hwc, z0, z1, z2, hw]; exact ⟨by omega, by omega, right_doB a0 hr⟩
          · have hw := wrap_id (i + 1) (by omega) (by omega); simp only [vd1, vd2, vd3, vd4, vd5, vd6, vd7, reduceCtorEq, Option.some.injEq, vb_ite, vi_ite, List.getD_cons_zero, List.getD_cons_succ, hww, hwk, hwc, z0, z1, z2, hw]; omega
        · refine pop_wp ?_
          refine ret_wp ?_
          first | rfl | ((simp only [vd1, vd2, vd3, vd4, vd5, vd6, vd7, reduceCtorEq, Option.some.injEq, vb_ite, vi_ite, List.getD_cons_zero, List.getD_cons_succ, hww, hwk, hwc, z0, z1, z2] at *) <;> grind)
      · refine call_fun (((doB (of4 m q b) s a0), s)) rfl (by simp only [vd1, vd2, vd3, vd4, vd5, vd6, vd7, reduceCtorEq, Option.some.injEq, vb_ite, vi_ite, List.getD_cons_zero, List.getD_cons_succ, hww, hwk, hwc, z0, z1, z2]) ⟨lgOk_nil (rgB (p := of4 m q b) (by repeat (first | exact hr | apply right_doB | apply right_advB))), lgOk_nil (rgB (p := of4 m q b) (by repeat (first | exact hr | apply right_doB | apply right_advB)))⟩ ?_
        refine br_wp (fun c5 => ?_) (fun c5 => ?_)
        · refine call_fun (((of4 m q b), (doB (of4 m q b) s a0))) rfl (by simp only [vd1, vd2, vd3, vd4, vd5, vd6, vd7, reduceCtorEq, Option.some.injEq, vb_ite, vi_ite, List.getD_cons_zero, List.getD_cons_succ, hww, hwk, hwc, z0, z1, z2]) trivial ?_
          refine br_wp (fun c6 => ?_) (fun c6 => ?_)
          · refine need_wp ?_ ?_
            · first | exact ⟨_, _, _, rfl⟩ | exact acts_row hl | exact acts_sz hl | (simp only [vd1, vd2, vd3, vd4, vd5, vd6, vd7, reduceCtorEq, Option.some.injEq, vb_ite, vi_ite, List.getD_cons_zero, List.getD_cons_succ, hww, hwk, hwc, z0, z1, z2]; exact ⟨_, rfl⟩) | (simp only [vd1, vd2, vd3, vd4, vd5, vd6, vd7, reduceCtorEq, Option.some.injEq, vb_ite, vi_ite, List.getD_cons_zero, List.getD_cons_succ, hww, hwk, hwc, z0, z1, z2] at *; grind)
            refine again_wp rfl ⟨(IntKind.i64.wrap (i + 1)), (doB (of4 m q b) s a0), by simp only [vd1, vd2, vd3, vd4, vd5, vd6, vd7, reduceCtorEq, Option.some.injEq, vb_ite, vi_ite, List.getD_cons_zero, List.getD_cons_succ, hww, hwk, hwc, z0, z1, z2], ?_⟩ ?_
            · have hw := wrap_id (i + 1) (by omega) (by omega); simp only [vd1, vd2, vd3, vd4, vd5, vd6, vd7, reduceCtorEq, Option.some.injEq, vb_ite, vi_ite, List.getD_cons_zero, List.getD_cons_succ, hww, hwk, hwc, z0, z1, z2, hw]; exact ⟨by omega, by omega, right_doB a0 hr⟩
            · have hw := wrap_id (i + 1) (by omega) (by omega); simp only [vd1, vd2, vd3, vd4, vd5, vd6, vd7, reduceCtorEq, Option.some.injEq, vb_ite, vi_ite, List.getD_cons_zero, List.getD_cons_succ, hww, hwk, hwc, z0, z1, z2, hw]; omega
          · refine pop_wp ?_
            refine ret_wp ?_
            first | rfl | ((simp only [vd1, vd2, vd3, vd4, vd5, vd6, vd7, reduceCtorEq, Option.some.injEq, vb_ite, vi_ite, List.getD_cons_zero, List.getD_cons_succ, hww, hwk, hwc, z0, z1, z2] at *) <;> grind)
        · refine pop_wp ?_
          refine ret_wp ?_
          first | rfl | ((simp only [vd1, vd2, vd3, vd4, vd5, vd6, vd7, reduceCtorEq, Option.some.injEq, vb_ite, vi_ite, List.getD_cons_zero, List.getD_cons_succ, hww, hwk, hwc, z0, z1, z2] at *) <;> grind)
    · have f1 := backs1B (n := w) (c := c) hr (by omega)
      have f2 := backs2B (p := of4 m q b) (s := s) (n := w) (c := c)
      have f3 := fun hd => backs3B (n := w) (c := c) hr hd
      refine pop_wp ?_
      refine call_fun (((of4 m q b), s, (⟨2, w, c⟩ : Ac))) rfl (by simp only [vd1, vd2, vd3, vd4, vd5, vd6, vd7, reduceCtorEq, Option.some.injEq, vb_ite, vi_ite, List.getD_cons_zero, List.getD_cons_succ, hww, hwk, hwc]) trivial ?_
      refine call_fun (((of4 m q b), s, (⟨1, w, c⟩ : Ac))) rfl (by simp only [vd1, vd2, vd3, vd4, vd5, vd6, vd7, reduceCtorEq, Option.some.injEq, vb_ite, vi_ite, List.getD_cons_zero, List.getD_cons_succ, hww, hwk, hwc]) trivial ?_
      refine br_wp (fun c7 => ?_) (fun c7 => ?_)
      · refine call_fun (((of4 m q b), s, w)) rfl (by simp only [vd1, vd2, vd3, vd4, vd5, vd6, vd7, reduceCtorEq, Option.some.injEq, vb_ite, vi_ite, List.getD_cons_zero, List.getD_cons_succ, hww, hwk, hwc]) trivial ?_
        refine br_wp (fun c8 => ?_) (fun c8 => ?_)
        · refine br_wp (fun c9 => ?_) (fun c9 => ?_)
          · refine call_fun (((of4 m q b), (doB (of4 m q b) s (⟨2, w, c⟩ : Ac)), (⟨3, w, c⟩ : Ac))) rfl (by simp only [vd1, vd2, vd3, vd4, vd5, vd6, vd7, reduceCtorEq, Option.some.injEq, vb_ite, vi_ite, List.getD_cons_zero, List.getD_cons_succ, hww, hwk, hwc]) trivial ?_
            refine call_fun (((of4 m q b), (doB (of4 m q b) s (⟨2, w, c⟩ : Ac)), (⟨4, w, c⟩ : Ac))) rfl (by simp only [vd1, vd2, vd3, vd4, vd5, vd6, vd7, reduceCtorEq, Option.some.injEq, vb_ite, vi_ite, List.getD_cons_zero, List.getD_cons_succ, hww, hwk, hwc]) trivial ?_
            refine br_wp (fun c10 => ?_) (fun c10 => ?_)
            · refine br_wp (fun c11 => ?_) (fun c11 => ?_)
              · refine call_fun (((of4 m q b), s, w)) rfl (by simp only [vd1, vd2, vd3, vd4, vd5, vd6, vd7, reduceCtorEq, Option.some.injEq, vb_ite, vi_ite, List.getD_cons_zero, List.getD_cons_succ, hww, hwk, hwc]) trivial ?_
                refine call_fun (((doB (of4 m q b) (doB (of4 m q b) s (⟨2, w, c⟩ : Ac)) (⟨3, w, c⟩ : Ac)), (advB (of4 m q b) s w))) rfl (by simp only [vd1, vd2, vd3, vd4, vd5, vd6, vd7, reduceCtorEq, Option.some.injEq, vb_ite, vi_ite, List.getD_cons_zero, List.getD_cons_succ, hww, hwk, hwc]) ⟨lgOk_nil (rgB (p := of4 m q b) (by repeat (first | exact hr | apply right_doB | apply right_advB))), lgOk_nil (rgB (p := of4 m q b) (by repeat (first | exact hr | apply right_doB | apply right_advB)))⟩ ?_
                refine br_wp (fun c12 => ?_) (fun c12 => ?_)
                · refine call_fun (((doB (of4 m q b) (doB (of4 m q b) s (⟨2, w, c⟩ : Ac)) (⟨4, w, c⟩ : Ac)), (doB (of4 m q b) s (⟨1, w, c⟩ : Ac)))) rfl (by simp only [vd1, vd2, vd3, vd4, vd5, vd6, vd7, reduceCtorEq, Option.some.injEq, vb_ite, vi_ite, List.getD_cons_zero, List.getD_cons_succ, hww, hwk, hwc]) ⟨lgOk_nil (rgB (p := of4 m q b) (by repeat (first | exact hr | apply right_doB | apply right_advB))), lgOk_nil (rgB (p := of4 m q b) (by repeat (first | exact hr | apply right_doB | apply right_advB)))⟩ ?_
                  refine br_wp (fun c13 => ?_) (fun c13 => ?_)
                  · refine call_fun (()) rfl (by simp only [vd1, vd2, vd3, vd4, vd5, vd6, vd7, reduceCtorEq, Option.some.injEq, vb_ite, vi_ite, List.getD_cons_zero, List.getD_cons_succ, hww, hwk, hwc]) trivial ?_
                    refine ret_wp ?_
                    first | rfl | ((simp only [vd1, vd2, vd3, vd4, vd5, vd6, vd7, reduceCtorEq, Option.some.injEq, vb_ite, vi_ite, List.getD_cons_zero, List.getD_cons_succ, hww, hwk, hwc] at *) <;> grind)
                  · refine ret_wp ?_
                    first | rfl | ((simp only [vd1, vd2, vd3, vd4, vd5, vd6, vd7, reduceCtorEq, Option.some.injEq, vb_ite, vi_ite, List.getD_cons_zero, List.getD_cons_succ, hww, hwk, hwc] at *) <;> grind)
                · refine ret_wp ?_
                  first | rfl | ((simp only [vd1, vd2, vd3, vd4, vd5, vd6, vd7, reduceCtorEq, Option.some.injEq, vb_ite, vi_ite, List.getD_cons_zero, List.getD_cons_succ, hww, hwk, hwc] at *) <;> grind)
              · refine ret_wp ?_
                first | rfl | ((simp only [vd1, vd2, vd3, vd4, vd5, vd6, vd7, reduceCtorEq, Option.some.injEq, vb_ite, vi_ite, List.getD_cons_zero, List.getD_cons_succ, hww, hwk, hwc] at *) <;> grind)
            · refine ret_wp ?_
              first | rfl | ((simp only [vd1, vd2, vd3, vd4, vd5, vd6, vd7, reduceCtorEq, Option.some.injEq, vb_ite, vi_ite, List.getD_cons_zero, List.getD_cons_succ, hww, hwk, hwc] at *) <;> grind)
          · refine call_fun (()) rfl (by simp only [vd1, vd2, vd3, vd4, vd5, vd6, vd7, reduceCtorEq, Option.some.injEq, vb_ite, vi_ite, List.getD_cons_zero, List.getD_cons_succ, hww, hwk, hwc]) trivial ?_
            refine ret_wp ?_
            first | rfl | ((simp only [vd1, vd2, vd3, vd4, vd5, vd6, vd7, reduceCtorEq, Option.some.injEq, vb_ite, vi_ite, List.getD_cons_zero, List.getD_cons_succ, hww, hwk, hwc] at *) <;> grind)
        · refine ret_wp ?_
          first | rfl | ((simp only [vd1, vd2, vd3, vd4, vd5, vd6, vd7, reduceCtorEq, Option.some.injEq, vb_ite, vi_ite, List.getD_cons_zero, List.getD_cons_succ, hww, hwk, hwc] at *) <;> grind)
      · refine ret_wp ?_
        first | rfl | ((simp only [vd1, vd2, vd3, vd4, vd5, vd6, vd7, reduceCtorEq, Option.some.injEq, vb_ite, vi_ite, List.getD_cons_zero, List.getD_cons_succ, hww, hwk, hwc] at *) <;> grind)
  · refine call_fun (()) rfl (by simp only [vd1, vd2, vd3, vd4, vd5, vd6, vd7, reduceCtorEq, Option.some.injEq, vb_ite, vi_ite, List.getD_cons_zero, List.getD_cons_succ, hww, hwk, hwc]) trivial ?_
    refine ret_wp ?_
    first | rfl | ((simp only [vd1, vd2, vd3, vd4, vd5, vd6, vd7, reduceCtorEq, Option.some.injEq, vb_ite, vi_ite, List.getD_cons_zero, List.getD_cons_succ, hww, hwk, hwc] at *) <;> grind)
end Go.Proofs.YtjmenmnjkfnhgaaK
