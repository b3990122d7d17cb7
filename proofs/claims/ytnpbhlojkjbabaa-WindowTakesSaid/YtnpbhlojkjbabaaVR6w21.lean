import Derived.Test.YtnpbhlojkjbabaaVR6w26
set_option linter.unusedSimpArgs false
set_option linter.unusedVariables false
namespace Go.Proofs.YtnpbhlojkjbabaaK
open Go Go.Proofs.YtnpbhlojkjbabaaV Go.Proofs
def kUntil (sg : Sig) : Sig × Con := (sg, mkFun (fun x : Pol × Est × Int => ([aI x.1.k, aI x.1.l, aI x.1.p, aI x.1.b, aI x.1.c, aB x.1.o, aI x.2.1.t, aI x.2.1.v, aI x.2.1.h, Rw.atom eE x.2.1.g, aI x.2.2] : List Atom)) (fun x => gok x.2.1) (fun x => [aI (untilW x.1 (w x.2.1) x.2.2)]))
set_option maxHeartbeats 1000000 in
theorem h21 : holds Try.prog (kUntil sg21) := by
  refine fn_holds (l := [kRight sg17, kAdv sg19]) ⟨h17, h19, trivial⟩ hP rs21 (inj_of (fun l : List Atom => (((⟨vi (l.getD 0 atom0).1, vi (l.getD 1 atom0).1, vi (l.getD 2 atom0).1, vi (l.getD 3 atom0).1, vi (l.getD 4 atom0).1, vb (l.getD 5 atom0).1⟩ : Pol), (⟨vi (l.getD 6 atom0).1, vi (l.getD 7 atom0).1, vi (l.getD 8 atom0).1, Rw.un unE (l.getD 9 atom0)⟩ : Est), vi (l.getD 10 atom0).1) : Pol × Est × Int)) (fun _ => by simp [List.getD_cons_zero, List.getD_cons_succ, unA_atom])) Try.func21 (by kernel_rfl) (c := code Try.f21) (by kernel_rfl) (an := an21) (by kernel_rfl) (pk := pk21) rfl (t := t21) (by kernel_rfl) ?_
  rintro ⟨p, s, n⟩ hg0
  refine ⟨by simp [pk21, KindsOk, RK.ok, Rw.atom, Sl.atom], ?_⟩
  unfold t21
  simp only at hg0
  obtain ⟨hk, hlen⟩ := id hg0
  refine call_fun ((p, s)) rfl (by simp only [vd1, vd2, vd3, vd4, vd5, vd6, vd7, reduceCtorEq, Option.some.injEq, vn_rw, va_rw, isNone_f, isNone_t, vi_cell_I, vi_cell_E0, vi_cell_E1, vi_cell_A0, vi_cell_A1, vi_cell_A2, vb_ite, vi_ite, updD]) hg0 ?_
  refine br_wp (fun c1 => ?_) (fun c1 => ?_)
  · replace c1 : rightW p (w s) := by first | simpa only [vd1, vd2, vd3, vd4, vd5, vd6, vd7, reduceCtorEq, Option.some.injEq, vn_rw, va_rw, isNone_f, isNone_t, vi_cell_I, vi_cell_E0, vi_cell_E1, vi_cell_A0, vi_cell_A1, vi_cell_A2, vb_ite, vi_ite, updD] using c1 | (simp only [vd1, vd2, vd3, vd4, vd5, vd6, vd7, reduceCtorEq, Option.some.injEq, vn_rw, va_rw, isNone_f, isNone_t, vi_cell_I, vi_cell_E0, vi_cell_E1, vi_cell_A0, vi_cell_A1, vi_cell_A2, vb_ite, vi_ite, updD] at c1; grind)
    have hr : rightW p (w s) := c1
    have on := ok_nums hr.1
    have rn := right_nums hr
    refine br_wp (fun c2 => ?_) (fun c2 => ?_)
    · replace c2 : s.h > 0 := by first | simpa only [vd1, vd2, vd3, vd4, vd5, vd6, vd7, reduceCtorEq, Option.some.injEq, vn_rw, va_rw, isNone_f, isNone_t, vi_cell_I, vi_cell_E0, vi_cell_E1, vi_cell_A0, vi_cell_A1, vi_cell_A2, vb_ite, vi_ite, updD] using c2 | (simp only [vd1, vd2, vd3, vd4, vd5, vd6, vd7, reduceCtorEq, Option.some.injEq, vn_rw, va_rw, isNone_f, isNone_t, vi_cell_I, vi_cell_E0, vi_cell_E1, vi_cell_A0, vi_cell_A1, vi_cell_A2, vb_ite, vi_ite, updD] at c2; grind)
      refine ret_wp ?_
      try dsimp only
      simp only [vd1, vd2, vd3, vd4, vd5, vd6, vd7, reduceCtorEq, Option.some.injEq, vn_rw, va_rw, isNone_f, isNone_t, vi_cell_I, vi_cell_E0, vi_cell_E1, vi_cell_A0, vi_cell_A1, vi_cell_A2, vb_ite, vi_ite, updD]; rw [until_no (fun h => by have := h.2; have wh : (w s).h = s.h := rfl; omega)]
    · replace c2 : ¬(s.h > 0) := by first | simpa only [vd1, vd2, vd3, vd4, vd5, vd6, vd7, reduceCtorEq, Option.some.injEq, vn_rw, va_rw, isNone_f, isNone_t, vi_cell_I, vi_cell_E0, vi_cell_E1, vi_cell_A0, vi_cell_A1, vi_cell_A2, vb_ite, vi_ite, updD] using c2 | (simp only [vd1, vd2, vd3, vd4, vd5, vd6, vd7, reduceCtorEq, Option.some.injEq, vn_rw, va_rw, isNone_f, isNone_t, vi_cell_I, vi_cell_E0, vi_cell_E1, vi_cell_A0, vi_cell_A1, vi_cell_A2, vb_ite, vi_ite, updD] at c2; grind)
      refine call_rel ((p, s, n)) rfl (by simp only [vd1, vd2, vd3, vd4, vd5, vd6, vd7, reduceCtorEq, Option.some.injEq, vn_rw, va_rw, isNone_f, isNone_t, vi_cell_I, vi_cell_E0, vi_cell_E1, vi_cell_A0, vi_cell_A1, vi_cell_A2, vb_ite, vi_ite, updD]) hg0 ?_
      rintro y1 ⟨ey1, gy1⟩
      try dsimp only at ey1 gy1
      rw [adv_yes hr] at ey1
      have yn := w_nums ey1
      dsimp only at yn
      have wh : (w s).h = s.h := rfl
      have lt := right_ltr n hr
      have lo := live_ok n hr
      have ln : (y1.g.l.length : Int) ≤ p.c := by rw [yn.2.2.2]; exact lo.2.2.1
      have ky : Rw.ok 2 y1.g := gy1.1
      have hu : rightW p (w s) ∧ (w s).h ≤ 0 := ⟨hr, by omega⟩
      refine need_wp (by first | exact ⟨_, _, _, rfl⟩ | (simp only [vd1, vd2, vd3, vd4, vd5, vd6, vd7, reduceCtorEq, Option.some.injEq, vn_rw, va_rw, isNone_f, isNone_t, vi_cell_I, vi_cell_E0, vi_cell_E1, vi_cell_A0, vi_cell_A1, vi_cell_A2, vb_ite, vi_ite, updD]; exact ⟨_, _, _, rfl⟩)) ?_
      refine br_wp (fun c3 => ?_) (fun c3 => ?_)
      · replace c3 : (y1.g.l.length : Int) > 0 := by first | simpa only [vd1, vd2, vd3, vd4, vd5, vd6, vd7, reduceCtorEq, Option.some.injEq, vn_rw, va_rw, isNone_f, isNone_t, vi_cell_I, vi_cell_E0, vi_cell_E1, vi_cell_A0, vi_cell_A1, vi_cell_A2, vb_ite, vi_ite, updD] using c3 | (simp only [vd1, vd2, vd3, vd4, vd5, vd6, vd7, reduceCtorEq, Option.some.injEq, vn_rw, va_rw, isNone_f, isNone_t, vi_cell_I, vi_cell_E0, vi_cell_E1, vi_cell_A0, vi_cell_A1, vi_cell_A2, vb_ite, vi_ite, updD] at c3; grind)
        obtain ⟨hl, hg⟩ := hget (r := y1.g) (i := (y1.g.l.length : Int) - 1) (by omega) (by omega)
        have el : elOk p (ltr (w s) n) (y1.g.l[((y1.g.l.length : Int) - 1).toNat]) ∧ ltr (w s) n - (y1.g.l[((y1.g.l.length : Int) - 1).toNat]).1 < p.p := lo.1 _ (yn.2.2.2 ▸ List.getElem_mem hl)
        rw [← hg] at el
        unfold elOk at el
        have w4 : IntKind.i64.wrap ((y1.g.l.length : Int) - 1) = (y1.g.l.length : Int) - 1 := wrap_id _ (by omega) (by omega)
        have w5 : IntKind.i64.wrap ((y1.g.get ((y1.g.l.length : Int) - 1)).1 + p.p) = (y1.g.get ((y1.g.l.length : Int) - 1)).1 + p.p := wrap_id _ (by omega) (by omega)
        have w6 : IntKind.i64.wrap ((y1.g.get ((y1.g.l.length : Int) - 1)).1 + p.p - y1.t) = (y1.g.get ((y1.g.l.length : Int) - 1)).1 + p.p - y1.t := wrap_id _ (by omega) (by omega)
        refine need_wp (by first | exact ⟨_, _, _, rfl⟩ | (simp only [vd1, vd2, vd3, vd4, vd5, vd6, vd7, reduceCtorEq, Option.some.injEq, vn_rw, va_rw, isNone_f, isNone_t, vi_cell_I, vi_cell_E0, vi_cell_E1, vi_cell_A0, vi_cell_A1, vi_cell_A2, vb_ite, vi_ite, updD, w4, w5, w6]; exact ⟨_, _, _, rfl⟩)) ?_
        refine need_wp (by first | exact rw_row _ _ | (simp only [vd1, vd2, vd3, vd4, vd5, vd6, vd7, reduceCtorEq, Option.some.injEq, vn_rw, va_rw, isNone_f, isNone_t, vi_cell_I, vi_cell_E0, vi_cell_E1, vi_cell_A0, vi_cell_A1, vi_cell_A2, vb_ite, vi_ite, updD, w4, w5, w6]; exact ⟨_, _, rfl⟩)) ?_
        refine need_wp (by simp only [vd1, vd2, vd3, vd4, vd5, vd6, vd7, reduceCtorEq, Option.some.injEq, vn_rw, va_rw, isNone_f, isNone_t, vi_cell_I, vi_cell_E0, vi_cell_E1, vi_cell_A0, vi_cell_A1, vi_cell_A2, vb_ite, vi_ite, updD, w4, w5, w6, List.length_cons, List.length_nil, List.length_append, List.length_set]; first | omega | (grind)) ?_
        refine need_wp (by simp only [vd1, vd2, vd3, vd4, vd5, vd6, vd7, reduceCtorEq, Option.some.injEq, vn_rw, va_rw, isNone_f, isNone_t, vi_cell_I, vi_cell_E0, vi_cell_E1, vi_cell_A0, vi_cell_A1, vi_cell_A2, vb_ite, vi_ite, updD, w4, w5, w6, List.length_cons, List.length_nil, List.length_append, List.length_set]; first | omega | (grind)) ?_
        refine need_wp (by first | exact ⟨_, _, _, rfl⟩ | (simp only [vd1, vd2, vd3, vd4, vd5, vd6, vd7, reduceCtorEq, Option.some.injEq, vn_rw, va_rw, isNone_f, isNone_t, vi_cell_I, vi_cell_E0, vi_cell_E1, vi_cell_A0, vi_cell_A1, vi_cell_A2, vb_ite, vi_ite, updD, w4, w5, w6]; exact ⟨_, _, _, rfl⟩)) ?_
        refine need_wp (by first | exact rw_row _ _ | (simp only [vd1, vd2, vd3, vd4, vd5, vd6, vd7, reduceCtorEq, Option.some.injEq, vn_rw, va_rw, isNone_f, isNone_t, vi_cell_I, vi_cell_E0, vi_cell_E1, vi_cell_A0, vi_cell_A1, vi_cell_A2, vb_ite, vi_ite, updD, w4, w5, w6]; exact ⟨_, _, rfl⟩)) ?_
        refine need_wp (by first | exact ⟨_, _, _, rfl⟩ | (simp only [vd1, vd2, vd3, vd4, vd5, vd6, vd7, reduceCtorEq, Option.some.injEq, vn_rw, va_rw, isNone_f, isNone_t, vi_cell_I, vi_cell_E0, vi_cell_E1, vi_cell_A0, vi_cell_A1, vi_cell_A2, vb_ite, vi_ite, updD, w4, w5, w6]; exact ⟨_, _, _, rfl⟩)) ?_
        refine need_wp (by first | exact rw_row _ _ | (simp only [vd1, vd2, vd3, vd4, vd5, vd6, vd7, reduceCtorEq, Option.some.injEq, vn_rw, va_rw, isNone_f, isNone_t, vi_cell_I, vi_cell_E0, vi_cell_E1, vi_cell_A0, vi_cell_A1, vi_cell_A2, vb_ite, vi_ite, updD, w4, w5, w6]; exact ⟨_, _, rfl⟩)) ?_
        refine need_wp (by first | exact rw_sz' rfl | exact rw_szn (by assumption) (.inr (by omega)) | (simp only [vd1, vd2, vd3, vd4, vd5, vd6, vd7, reduceCtorEq, Option.some.injEq, vn_rw, va_rw, isNone_f, isNone_t, vi_cell_I, vi_cell_E0, vi_cell_E1, vi_cell_A0, vi_cell_A1, vi_cell_A2, vb_ite, vi_ite, updD, w4, w5, w6]; exact rw_szn (by assumption) (.inr (by omega))) | exact rw_szn (by simp [Rw.ok]) (.inr (by omega))) ?_
        refine need_wp (by simp only [vd1, vd2, vd3, vd4, vd5, vd6, vd7, reduceCtorEq, Option.some.injEq, vn_rw, va_rw, isNone_f, isNone_t, vi_cell_I, vi_cell_E0, vi_cell_E1, vi_cell_A0, vi_cell_A1, vi_cell_A2, vb_ite, vi_ite, updD, w4, w5, w6]; exact kind_Re0 (by omega) (by omega)) ?_
        refine ret_wp ?_
        try dsimp only
        simp only [vd1, vd2, vd3, vd4, vd5, vd6, vd7, reduceCtorEq, Option.some.injEq, vn_rw, va_rw, isNone_f, isNone_t, vi_cell_I, vi_cell_E0, vi_cell_E1, vi_cell_A0, vi_cell_A1, vi_cell_A2, vb_ite, vi_ite, updD, w4, w5, w6]; rw [until_some hu yn.2.2.2 (by omega), ← yn.1]
      · replace c3 : ¬((y1.g.l.length : Int) > 0) := by first | simpa only [vd1, vd2, vd3, vd4, vd5, vd6, vd7, reduceCtorEq, Option.some.injEq, vn_rw, va_rw, isNone_f, isNone_t, vi_cell_I, vi_cell_E0, vi_cell_E1, vi_cell_A0, vi_cell_A1, vi_cell_A2, vb_ite, vi_ite, updD] using c3 | (simp only [vd1, vd2, vd3, vd4, vd5, vd6, vd7, reduceCtorEq, Option.some.injEq, vn_rw, va_rw, isNone_f, isNone_t, vi_cell_I, vi_cell_E0, vi_cell_E1, vi_cell_A0, vi_cell_A1, vi_cell_A2, vb_ite, vi_ite, updD] at c3; grind)
        refine ret_wp ?_
        try dsimp only
        simp only [vd1, vd2, vd3, vd4, vd5, vd6, vd7, reduceCtorEq, Option.some.injEq, vn_rw, va_rw, isNone_f, isNone_t, vi_cell_I, vi_cell_E0, vi_cell_E1, vi_cell_A0, vi_cell_A1, vi_cell_A2, vb_ite, vi_ite, updD]; rw [until_none hu yn.2.2.2 (by omega)]
  · replace c1 : ¬(rightW p (w s)) := by first | simpa only [vd1, vd2, vd3, vd4, vd5, vd6, vd7, reduceCtorEq, Option.some.injEq, vn_rw, va_rw, isNone_f, isNone_t, vi_cell_I, vi_cell_E0, vi_cell_E1, vi_cell_A0, vi_cell_A1, vi_cell_A2, vb_ite, vi_ite, updD] using c1 | (simp only [vd1, vd2, vd3, vd4, vd5, vd6, vd7, reduceCtorEq, Option.some.injEq, vn_rw, va_rw, isNone_f, isNone_t, vi_cell_I, vi_cell_E0, vi_cell_E1, vi_cell_A0, vi_cell_A1, vi_cell_A2, vb_ite, vi_ite, updD] at c1; grind)
    have hr : ¬rightW p (w s) := c1
    refine ret_wp ?_
    try dsimp only
    simp only [vd1, vd2, vd3, vd4, vd5, vd6, vd7, reduceCtorEq, Option.some.injEq, vn_rw, va_rw, isNone_f, isNone_t, vi_cell_I, vi_cell_E0, vi_cell_E1, vi_cell_A0, vi_cell_A1, vi_cell_A2, vb_ite, vi_ite, updD]; rw [until_no (fun h => hr h.1)]
set_option maxHeartbeats 1000000 in
theorem h37 : holds Try.prog (kUntil sg37) := by
  refine fn_holds (l := [kRight sg35, kAdv sg34]) ⟨h35, h34, trivial⟩ hP rs37 (inj_of (fun l : List Atom => (((⟨vi (l.getD 0 atom0).1, vi (l.getD 1 atom0).1, vi (l.getD 2 atom0).1, vi (l.getD 3 atom0).1, vi (l.getD 4 atom0).1, vb (l.getD 5 atom0).1⟩ : Pol), (⟨vi (l.getD 6 atom0).1, vi (l.getD 7 atom0).1, vi (l.getD 8 atom0).1, Rw.un unE (l.getD 9 atom0)⟩ : Est), vi (l.getD 10 atom0).1) : Pol × Est × Int)) (fun _ => by simp [List.getD_cons_zero, List.getD_cons_succ, unA_atom])) Try.func37 (by kernel_rfl) (c := code Try.f37) (by kernel_rfl) (an := an37) (by kernel_rfl) (pk := pk37) rfl (t := t37) (by kernel_rfl) ?_
  rintro ⟨p, s, n⟩ hg0
  refine ⟨by simp [pk37, KindsOk, RK.ok, Rw.atom, Sl.atom], ?_⟩
  unfold t37
  simp only at hg0
  obtain ⟨hk, hlen⟩ := id hg0
  refine call_fun ((p, s)) rfl (by simp only [vd1, vd2, vd3, vd4, vd5, vd6, vd7, reduceCtorEq, Option.some.injEq, vn_rw, va_rw, isNone_f, isNone_t, vi_cell_I, vi_cell_E0, vi_cell_E1, vi_cell_A0, vi_cell_A1, vi_cell_A2, vb_ite, vi_ite, updD]) hg0 ?_
  refine br_wp (fun c1 => ?_) (fun c1 => ?_)
  · replace c1 : rightW p (w s) := by first | simpa only [vd1, vd2, vd3, vd4, vd5, vd6, vd7, reduceCtorEq, Option.some.injEq, vn_rw, va_rw, isNone_f, isNone_t, vi_cell_I, vi_cell_E0, vi_cell_E1, vi_cell_A0, vi_cell_A1, vi_cell_A2, vb_ite, vi_ite, updD] using c1 | (simp only [vd1, vd2, vd3, vd4, vd5, vd6, vd7, reduceCtorEq, Option.some.injEq, vn_rw, va_rw, isNone_f, isNone_t, vi_cell_I, vi_cell_E0, vi_cell_E1, vi_cell_A0, vi_cell_A1, vi_cell_A2, vb_ite, vi_ite, updD] at c1; grind)
    have hr : rightW p (w s) := c1
    have on := ok_nums hr.1
    have rn := right_nums hr
    refine br_wp (fun c2 => ?_) (fun c2 => ?_)
    · replace c2 : s.h > 0 := by first | simpa only [vd1, vd2, vd3, vd4, vd5, vd6, vd7, reduceCtorEq, Option.some.injEq, vn_rw, va_rw, isNone_f, isNone_t, vi_cell_I, vi_cell_E0, vi_cell_E1, vi_cell_A0, vi_cell_A1, vi_cell_A2, vb_ite, vi_ite, updD] using c2 | (simp only [vd1, vd2, vd3, vd4, vd5, vd6, vd7, reduceCtorEq, Option.some.injEq, vn_rw, va_rw, isNone_f, isNone_t, vi_cell_I, vi_cell_E0, vi_cell_E1, vi_cell_A0, vi_cell_A1, vi_cell_A2, vb_ite, vi_ite, updD] at c2; grind)
      refine ret_wp ?_
      try dsimp only
      simp only [vd1, vd2, vd3, vd4, vd5, vd6, vd7, reduceCtorEq, Option.some.injEq, vn_rw, va_rw, isNone_f, isNone_t, vi_cell_I, vi_cell_E0, vi_cell_E1, vi_cell_A0, vi_cell_A1, vi_cell_A2, vb_ite, vi_ite, updD]; rw [until_no (fun h => by have := h.2; have wh : (w s).h = s.h := rfl; omega)]
    · replace c2 : ¬(s.h > 0) := by first | simpa only [vd1, vd2, vd3, vd4, vd5, vd6, vd7, reduceCtorEq, Option.some.injEq, vn_rw, va_rw, isNone_f, isNone_t, vi_cell_I, vi_cell_E0, vi_cell_E1, vi_cell_A0, vi_cell_A1, vi_cell_A2, vb_ite, vi_ite, updD] using c2 | (simp only [vd1, vd2, vd3, vd4, vd5, vd6, vd7, reduceCtorEq, Option.some.injEq, vn_rw, va_rw, isNone_f, isNone_t, vi_cell_I, vi_cell_E0, vi_cell_E1, vi_cell_A0, vi_cell_A1, vi_cell_A2, vb_ite, vi_ite, updD] at c2; grind)
      refine call_rel ((p, s, n)) rfl (by simp only [vd1, vd2, vd3, vd4, vd5, vd6, vd7, reduceCtorEq, Option.some.injEq, vn_rw, va_rw, isNone_f, isNone_t, vi_cell_I, vi_cell_E0, vi_cell_E1, vi_cell_A0, vi_cell_A1, vi_cell_A2, vb_ite, vi_ite, updD]) hg0 ?_
      rintro y1 ⟨ey1, gy1⟩
      try dsimp only at ey1 gy1
      rw [adv_yes hr] at ey1
      have yn := w_nums ey1
      dsimp only at yn
      have wh : (w s).h = s.h := rfl
      have lt := right_ltr n hr
      have lo := live_ok n hr
      have ln : (y1.g.l.length : Int) ≤ p.c := by rw [yn.2.2.2]; exact lo.2.2.1
      have ky : Rw.ok 2 y1.g := gy1.1
      have hu : rightW p (w s) ∧ (w s).h ≤ 0 := ⟨hr, by omega⟩
      refine loop_wp (fun bs0 => ∃ (m : Int) (i : Int), bs0 = [aI m, aI i] ∧ (0 ≤ i ∧ i ≤ y1.g.l.length ∧ (i = 0 → m = 0) ∧ (0 < i → m = (y1.g.get (i - 1)).1 + p.p - y1.t))) (fun bs0 => ((y1.g.l.length : Int) - vi (bs0.getD 1 atom0).1).toNat) ?_ ?_
      · refine ⟨0, 0, by simp only [vd1, vd2, vd3, vd4, vd5, vd6, vd7, reduceCtorEq, Option.some.injEq, vn_rw, va_rw, isNone_f, isNone_t, vi_cell_I, vi_cell_E0, vi_cell_E1, vi_cell_A0, vi_cell_A1, vi_cell_A2, vb_ite, vi_ite, updD, Rw.atom, Rw.nil, List.length_nil, List.map_nil], ?_⟩
        exact ⟨by omega, by omega, fun _ => rfl, fun h => absurd h (by omega)⟩
      rintro _ _ ⟨m, i, rfl, ⟨i0, i1, m0, m1⟩⟩
      refine need_wp (by first | exact ⟨_, _, _, rfl⟩ | (simp only [vd1, vd2, vd3, vd4, vd5, vd6, vd7, reduceCtorEq, Option.some.injEq, vn_rw, va_rw, isNone_f, isNone_t, vi_cell_I, vi_cell_E0, vi_cell_E1, vi_cell_A0, vi_cell_A1, vi_cell_A2, vb_ite, vi_ite, updD]; exact ⟨_, _, _, rfl⟩)) ?_
      refine br_wp (fun c3 => ?_) (fun c3 => ?_)
      · replace c3 : i < (y1.g.l.length : Int) := by first | simpa only [vd1, vd2, vd3, vd4, vd5, vd6, vd7, reduceCtorEq, Option.some.injEq, vn_rw, va_rw, isNone_f, isNone_t, vi_cell_I, vi_cell_E0, vi_cell_E1, vi_cell_A0, vi_cell_A1, vi_cell_A2, vb_ite, vi_ite, updD] using c3 | (simp only [vd1, vd2, vd3, vd4, vd5, vd6, vd7, reduceCtorEq, Option.some.injEq, vn_rw, va_rw, isNone_f, isNone_t, vi_cell_I, vi_cell_E0, vi_cell_E1, vi_cell_A0, vi_cell_A1, vi_cell_A2, vb_ite, vi_ite, updD] at c3; grind)
        obtain ⟨hl, hg⟩ := hget (r := y1.g) (i := i) (by omega) (by omega)
        have el : elOk p (ltr (w s) n) (y1.g.l[(i).toNat]) ∧ ltr (w s) n - (y1.g.l[(i).toNat]).1 < p.p := lo.1 _ (yn.2.2.2 ▸ List.getElem_mem hl)
        rw [← hg] at el
        unfold elOk at el
        have w1 : IntKind.i64.wrap (i + 1) = i + 1 := wrap_id _ (by omega) (by omega)
        have w5 : IntKind.i64.wrap ((y1.g.get i).1 + p.p) = (y1.g.get i).1 + p.p := wrap_id _ (by omega) (by omega)
        have w6 : IntKind.i64.wrap ((y1.g.get i).1 + p.p - y1.t) = (y1.g.get i).1 + p.p - y1.t := wrap_id _ (by omega) (by omega)
        refine need_wp (by first | exact ⟨_, _, _, rfl⟩ | (simp only [vd1, vd2, vd3, vd4, vd5, vd6, vd7, reduceCtorEq, Option.some.injEq, vn_rw, va_rw, isNone_f, isNone_t, vi_cell_I, vi_cell_E0, vi_cell_E1, vi_cell_A0, vi_cell_A1, vi_cell_A2, vb_ite, vi_ite, updD, w1, w5, w6]; exact ⟨_, _, _, rfl⟩)) ?_
        refine need_wp (by first | exact rw_row _ _ | (simp only [vd1, vd2, vd3, vd4, vd5, vd6, vd7, reduceCtorEq, Option.some.injEq, vn_rw, va_rw, isNone_f, isNone_t, vi_cell_I, vi_cell_E0, vi_cell_E1, vi_cell_A0, vi_cell_A1, vi_cell_A2, vb_ite, vi_ite, updD, w1, w5, w6]; exact ⟨_, _, rfl⟩)) ?_
        refine need_wp (by simp only [vd1, vd2, vd3, vd4, vd5, vd6, vd7, reduceCtorEq, Option.some.injEq, vn_rw, va_rw, isNone_f, isNone_t, vi_cell_I, vi_cell_E0, vi_cell_E1, vi_cell_A0, vi_cell_A1, vi_cell_A2, vb_ite, vi_ite, updD, w1, w5, w6, List.length_cons, List.length_nil, List.length_append, List.length_set]; first | omega | (grind)) ?_
        refine need_wp (by first | exact ⟨_, _, _, rfl⟩ | (simp only [vd1, vd2, vd3, vd4, vd5, vd6, vd7, reduceCtorEq, Option.some.injEq, vn_rw, va_rw, isNone_f, isNone_t, vi_cell_I, vi_cell_E0, vi_cell_E1, vi_cell_A0, vi_cell_A1, vi_cell_A2, vb_ite, vi_ite, updD, w1, w5, w6]; exact ⟨_, _, _, rfl⟩)) ?_
        refine need_wp (by first | exact rw_row _ _ | (simp only [vd1, vd2, vd3, vd4, vd5, vd6, vd7, reduceCtorEq, Option.some.injEq, vn_rw, va_rw, isNone_f, isNone_t, vi_cell_I, vi_cell_E0, vi_cell_E1, vi_cell_A0, vi_cell_A1, vi_cell_A2, vb_ite, vi_ite, updD, w1, w5, w6]; exact ⟨_, _, rfl⟩)) ?_
        refine need_wp (by first | exact ⟨_, _, _, rfl⟩ | (simp only [vd1, vd2, vd3, vd4, vd5, vd6, vd7, reduceCtorEq, Option.some.injEq, vn_rw, va_rw, isNone_f, isNone_t, vi_cell_I, vi_cell_E0, vi_cell_E1, vi_cell_A0, vi_cell_A1, vi_cell_A2, vb_ite, vi_ite, updD, w1, w5, w6]; exact ⟨_, _, _, rfl⟩)) ?_
        refine need_wp (by first | exact rw_row _ _ | (simp only [vd1, vd2, vd3, vd4, vd5, vd6, vd7, reduceCtorEq, Option.some.injEq, vn_rw, va_rw, isNone_f, isNone_t, vi_cell_I, vi_cell_E0, vi_cell_E1, vi_cell_A0, vi_cell_A1, vi_cell_A2, vb_ite, vi_ite, updD, w1, w5, w6]; exact ⟨_, _, rfl⟩)) ?_
        refine need_wp (by first | exact rw_sz' rfl | exact rw_szn (by assumption) (.inr (by omega)) | (simp only [vd1, vd2, vd3, vd4, vd5, vd6, vd7, reduceCtorEq, Option.some.injEq, vn_rw, va_rw, isNone_f, isNone_t, vi_cell_I, vi_cell_E0, vi_cell_E1, vi_cell_A0, vi_cell_A1, vi_cell_A2, vb_ite, vi_ite, updD, w1, w5, w6]; exact rw_szn (by assumption) (.inr (by omega))) | exact rw_szn (by simp [Rw.ok]) (.inr (by omega))) ?_
        refine need_wp (by simp only [vd1, vd2, vd3, vd4, vd5, vd6, vd7, reduceCtorEq, Option.some.injEq, vn_rw, va_rw, isNone_f, isNone_t, vi_cell_I, vi_cell_E0, vi_cell_E1, vi_cell_A0, vi_cell_A1, vi_cell_A2, vb_ite, vi_ite, updD, w1, w5, w6]; exact kind_Re0 (by omega) (by omega)) ?_
        refine again_wp rfl ⟨(max m (IntKind.i64.wrap (((y1.g.get i).1 + p.p) - y1.t))), (i + 1), by simp only [vd1, vd2, vd3, vd4, vd5, vd6, vd7, reduceCtorEq, Option.some.injEq, vn_rw, va_rw, isNone_f, isNone_t, vi_cell_I, vi_cell_E0, vi_cell_E1, vi_cell_A0, vi_cell_A1, vi_cell_A2, vb_ite, vi_ite, updD, w1, w5, w6], ?_⟩ ?_
        · refine ⟨by omega, by omega, fun h => by omega, fun _ => ?_⟩; rw [show i + 1 - 1 = i by omega]; rcases Int.lt_or_le 0 i with h0 | h0; (have e := m1 h0; obtain ⟨hl2, hg2⟩ := hget (r := y1.g) (i := i - 1) (by omega) (by omega); have hs := lo.2.1; rw [← yn.2.2.2] at hs; have := (List.pairwise_iff_getElem.1 hs) (i - 1).toNat i.toNat hl2 hl (by omega); rw [← hg, ← hg2] at this; omega); (have e := m0 (by omega); omega)
        · (try simp only [vd1, vd2, vd3, vd4, vd5, vd6, vd7, reduceCtorEq, Option.some.injEq, vn_rw, va_rw, isNone_f, isNone_t, vi_cell_I, vi_cell_E0, vi_cell_E1, vi_cell_A0, vi_cell_A1, vi_cell_A2, vb_ite, vi_ite, updD, w1, w5, w6]); omega
      · replace c3 : ¬(i < (y1.g.l.length : Int)) := by first | simpa only [vd1, vd2, vd3, vd4, vd5, vd6, vd7, reduceCtorEq, Option.some.injEq, vn_rw, va_rw, isNone_f, isNone_t, vi_cell_I, vi_cell_E0, vi_cell_E1, vi_cell_A0, vi_cell_A1, vi_cell_A2, vb_ite, vi_ite, updD] using c3 | (simp only [vd1, vd2, vd3, vd4, vd5, vd6, vd7, reduceCtorEq, Option.some.injEq, vn_rw, va_rw, isNone_f, isNone_t, vi_cell_I, vi_cell_E0, vi_cell_E1, vi_cell_A0, vi_cell_A1, vi_cell_A2, vb_ite, vi_ite, updD] at c3; grind)
        refine pop_wp ?_
        refine ret_wp ?_
        try dsimp only
        simp only [vd1, vd2, vd3, vd4, vd5, vd6, vd7, reduceCtorEq, Option.some.injEq, vn_rw, va_rw, isNone_f, isNone_t, vi_cell_I, vi_cell_E0, vi_cell_E1, vi_cell_A0, vi_cell_A1, vi_cell_A2, vb_ite, vi_ite, updD]; have hi : i = y1.g.l.length := (by omega); rcases Int.lt_or_le 0 i with h0 | h0; (rw [until_some hu yn.2.2.2 (by omega), ← yn.1, m1 h0, hi]); (rw [until_none hu yn.2.2.2 (by omega), m0 (by omega)])
  · replace c1 : ¬(rightW p (w s)) := by first | simpa only [vd1, vd2, vd3, vd4, vd5, vd6, vd7, reduceCtorEq, Option.some.injEq, vn_rw, va_rw, isNone_f, isNone_t, vi_cell_I, vi_cell_E0, vi_cell_E1, vi_cell_A0, vi_cell_A1, vi_cell_A2, vb_ite, vi_ite, updD] using c1 | (simp only [vd1, vd2, vd3, vd4, vd5, vd6, vd7, reduceCtorEq, Option.some.injEq, vn_rw, va_rw, isNone_f, isNone_t, vi_cell_I, vi_cell_E0, vi_cell_E1, vi_cell_A0, vi_cell_A1, vi_cell_A2, vb_ite, vi_ite, updD] at c1; grind)
    have hr : ¬rightW p (w s) := c1
    refine ret_wp ?_
    try dsimp only
    simp only [vd1, vd2, vd3, vd4, vd5, vd6, vd7, reduceCtorEq, Option.some.injEq, vn_rw, va_rw, isNone_f, isNone_t, vi_cell_I, vi_cell_E0, vi_cell_E1, vi_cell_A0, vi_cell_A1, vi_cell_A2, vb_ite, vi_ite, updD]; rw [until_no (fun h => hr h.1)]
end Go.Proofs.YtnpbhlojkjbabaaK
