import Derived.Test.YtnpbhlojkjbabaaVR6w21
set_option linter.unusedSimpArgs false
set_option linter.unusedVariables false
namespace Go.Proofs.YtnpbhlojkjbabaaK
open Go Go.Proofs.YtnpbhlojkjbabaaV Go.Proofs
def kRetry (sg : Sig) : Sig × Con := (sg, mkFun (fun x : Pol × Est × Int × Int => ([aI x.1.k, aI x.1.l, aI x.1.p, aI x.1.b, aI x.1.c, aB x.1.o, aI x.2.1.t, aI x.2.1.v, aI x.2.1.h, Rw.atom eE x.2.1.g, aI x.2.2.1, aI x.2.2.2] : List Atom)) (fun x => gok x.2.1) (fun x => [aI (retryW x.1 (w x.2.1) x.2.2.1 x.2.2.2), aB (decide (mayC x.1 (w x.2.1) x.2.2.2))]))
set_option maxHeartbeats 1000000 in
theorem h20 : holds Try.prog (kRetry sg20) := by
  refine fn_holds (l := [kRight sg17, kAdv sg19, kSum sg29]) ⟨h17, h19, h29, trivial⟩ hP rs20 (inj_of (fun l : List Atom => (((⟨vi (l.getD 0 atom0).1, vi (l.getD 1 atom0).1, vi (l.getD 2 atom0).1, vi (l.getD 3 atom0).1, vi (l.getD 4 atom0).1, vb (l.getD 5 atom0).1⟩ : Pol), (⟨vi (l.getD 6 atom0).1, vi (l.getD 7 atom0).1, vi (l.getD 8 atom0).1, Rw.un unE (l.getD 9 atom0)⟩ : Est), vi (l.getD 10 atom0).1, vi (l.getD 11 atom0).1) : Pol × Est × Int × Int)) (fun _ => by simp [List.getD_cons_zero, List.getD_cons_succ, unA_atom])) Try.func20 (by kernel_rfl) (c := code Try.f20) (by kernel_rfl) (an := an20) (by kernel_rfl) (pk := pk20) rfl (t := t20) (by kernel_rfl) ?_
  rintro ⟨p, s, n, c⟩ hg0
  refine ⟨by simp [pk20, KindsOk, RK.ok, Rw.atom, Sl.atom], ?_⟩
  unfold t20
  simp only at hg0
  obtain ⟨hk, hlen⟩ := id hg0
  refine call_fun ((p, s)) rfl (by simp only [vd1, vd2, vd3, vd4, vd5, vd6, vd7, reduceCtorEq, Option.some.injEq, vn_rw, va_rw, isNone_f, isNone_t, vi_cell_I, vi_cell_E0, vi_cell_E1, vi_cell_A0, vi_cell_A1, vi_cell_A2, vb_ite, vi_ite, updD]) hg0 ?_
  refine br_wp (fun c1 => ?_) (fun c1 => ?_)
  · replace c1 : rightW p (w s) := by first | simpa only [vd1, vd2, vd3, vd4, vd5, vd6, vd7, reduceCtorEq, Option.some.injEq, vn_rw, va_rw, isNone_f, isNone_t, vi_cell_I, vi_cell_E0, vi_cell_E1, vi_cell_A0, vi_cell_A1, vi_cell_A2, vb_ite, vi_ite, updD] using c1 | (simp only [vd1, vd2, vd3, vd4, vd5, vd6, vd7, reduceCtorEq, Option.some.injEq, vn_rw, va_rw, isNone_f, isNone_t, vi_cell_I, vi_cell_E0, vi_cell_E1, vi_cell_A0, vi_cell_A1, vi_cell_A2, vb_ite, vi_ite, updD] at c1; grind)
    have hr : rightW p (w s) := c1
    have on := ok_nums hr.1
    have rn := right_nums hr
    refine br_wp (fun c2 => ?_) (fun c2 => ?_)
    · replace c2 : c < 1 := by first | simpa only [vd1, vd2, vd3, vd4, vd5, vd6, vd7, reduceCtorEq, Option.some.injEq, vn_rw, va_rw, isNone_f, isNone_t, vi_cell_I, vi_cell_E0, vi_cell_E1, vi_cell_A0, vi_cell_A1, vi_cell_A2, vb_ite, vi_ite, updD] using c2 | (simp only [vd1, vd2, vd3, vd4, vd5, vd6, vd7, reduceCtorEq, Option.some.injEq, vn_rw, va_rw, isNone_f, isNone_t, vi_cell_I, vi_cell_E0, vi_cell_E1, vi_cell_A0, vi_cell_A1, vi_cell_A2, vb_ite, vi_ite, updD] at c2; grind)
      refine ret_wp ?_
      try dsimp only
      simp only [vd1, vd2, vd3, vd4, vd5, vd6, vd7, reduceCtorEq, Option.some.injEq, vn_rw, va_rw, isNone_f, isNone_t, vi_cell_I, vi_cell_E0, vi_cell_E1, vi_cell_A0, vi_cell_A1, vi_cell_A2, vb_ite, vi_ite, updD]; have hm : ¬mayC p (w s) c := (fun h => by first | exact hr h.1 | (have := h.2; have wh : (w s).h = s.h := rfl; omega)); rw [retry_no hm, decide_eq_false hm]; exact ⟨rfl, rfl⟩
    · replace c2 : ¬(c < 1) := by first | simpa only [vd1, vd2, vd3, vd4, vd5, vd6, vd7, reduceCtorEq, Option.some.injEq, vn_rw, va_rw, isNone_f, isNone_t, vi_cell_I, vi_cell_E0, vi_cell_E1, vi_cell_A0, vi_cell_A1, vi_cell_A2, vb_ite, vi_ite, updD] using c2 | (simp only [vd1, vd2, vd3, vd4, vd5, vd6, vd7, reduceCtorEq, Option.some.injEq, vn_rw, va_rw, isNone_f, isNone_t, vi_cell_I, vi_cell_E0, vi_cell_E1, vi_cell_A0, vi_cell_A1, vi_cell_A2, vb_ite, vi_ite, updD] at c2; grind)
      have w2 : IntKind.i64.wrap (p.l - s.h) = p.l - s.h := wrap_id _ (by omega) (by omega)
      refine br_wp (fun c3 => ?_) (fun c3 => ?_)
      · replace c3 : c > (p.l - s.h) := by first | simpa only [vd1, vd2, vd3, vd4, vd5, vd6, vd7, reduceCtorEq, Option.some.injEq, vn_rw, va_rw, isNone_f, isNone_t, vi_cell_I, vi_cell_E0, vi_cell_E1, vi_cell_A0, vi_cell_A1, vi_cell_A2, vb_ite, vi_ite, updD, w2] using c3 | (simp only [vd1, vd2, vd3, vd4, vd5, vd6, vd7, reduceCtorEq, Option.some.injEq, vn_rw, va_rw, isNone_f, isNone_t, vi_cell_I, vi_cell_E0, vi_cell_E1, vi_cell_A0, vi_cell_A1, vi_cell_A2, vb_ite, vi_ite, updD, w2] at c3; grind)
        refine ret_wp ?_
        try dsimp only
        simp only [vd1, vd2, vd3, vd4, vd5, vd6, vd7, reduceCtorEq, Option.some.injEq, vn_rw, va_rw, isNone_f, isNone_t, vi_cell_I, vi_cell_E0, vi_cell_E1, vi_cell_A0, vi_cell_A1, vi_cell_A2, vb_ite, vi_ite, updD, w2]; have hm : ¬mayC p (w s) c := (fun h => by first | exact hr h.1 | (have := h.2; have wh : (w s).h = s.h := rfl; omega)); rw [retry_no hm, decide_eq_false hm]; exact ⟨rfl, rfl⟩
      · replace c3 : ¬(c > (p.l - s.h)) := by first | simpa only [vd1, vd2, vd3, vd4, vd5, vd6, vd7, reduceCtorEq, Option.some.injEq, vn_rw, va_rw, isNone_f, isNone_t, vi_cell_I, vi_cell_E0, vi_cell_E1, vi_cell_A0, vi_cell_A1, vi_cell_A2, vb_ite, vi_ite, updD, w2] using c3 | (simp only [vd1, vd2, vd3, vd4, vd5, vd6, vd7, reduceCtorEq, Option.some.injEq, vn_rw, va_rw, isNone_f, isNone_t, vi_cell_I, vi_cell_E0, vi_cell_E1, vi_cell_A0, vi_cell_A1, vi_cell_A2, vb_ite, vi_ite, updD, w2] at c3; grind)
        refine call_rel ((p, s, n)) rfl (by simp only [vd1, vd2, vd3, vd4, vd5, vd6, vd7, reduceCtorEq, Option.some.injEq, vn_rw, va_rw, isNone_f, isNone_t, vi_cell_I, vi_cell_E0, vi_cell_E1, vi_cell_A0, vi_cell_A1, vi_cell_A2, vb_ite, vi_ite, updD, w2]) hg0 ?_
        rintro y1 ⟨ey1, gy1⟩
        try dsimp only at ey1 gy1
        rw [adv_yes hr] at ey1
        have yn := w_nums ey1
        dsimp only at yn
        have wh : (w s).h = s.h := rfl
        have lt := right_ltr n hr
        have lo := live_ok n hr
        have ln : (y1.g.l.length : Int) ≤ p.c := by rw [yn.2.2.2]; exact lo.2.2.1
        have ky : Rw.ok 2 y1.g := gy1.1
        have hm : mayC p (w s) c := ⟨hr, by omega, by have wh : (w s).h = s.h := rfl; omega⟩
        refine call_fun (y1.g) rfl (by simp only [vd1, vd2, vd3, vd4, vd5, vd6, vd7, reduceCtorEq, Option.some.injEq, vn_rw, va_rw, isNone_f, isNone_t, vi_cell_I, vi_cell_E0, vi_cell_E1, vi_cell_A0, vi_cell_A1, vi_cell_A2, vb_ite, vi_ite, updD, w2]) gy1 ?_
        have tl : tot y1.g.l = tot (live p (ltr (w s) n) (w s).l) := by rw [yn.2.2.2]
        have mm := hm.2
        have w7 : IntKind.i64.wrap (tot y1.g.l) = tot y1.g.l := wrap_id _ (by omega) (by omega)
        have w8 : IntKind.i64.wrap (y1.h + (tot y1.g.l)) = y1.h + (tot y1.g.l) := wrap_id _ (by omega) (by omega)
        have w9 : IntKind.i64.wrap (y1.h + (tot y1.g.l) + c) = y1.h + (tot y1.g.l) + c := wrap_id _ (by omega) (by omega)
        have wA : IntKind.i64.wrap (y1.h + (tot y1.g.l) + c - p.l) = y1.h + (tot y1.g.l) + c - p.l := wrap_id _ (by omega) (by omega)
        refine need_wp (by first | exact ⟨_, _, _, rfl⟩ | (simp only [vd1, vd2, vd3, vd4, vd5, vd6, vd7, reduceCtorEq, Option.some.injEq, vn_rw, va_rw, isNone_f, isNone_t, vi_cell_I, vi_cell_E0, vi_cell_E1, vi_cell_A0, vi_cell_A1, vi_cell_A2, vb_ite, vi_ite, updD, w2, w7, w8, w9, wA]; exact ⟨_, _, _, rfl⟩)) ?_
        refine loop_wp (fun bs0 => ∃ (o : Int) (i : Int), bs0 = [aI o, aI i] ∧ (0 ≤ i ∧ i ≤ y1.g.l.length ∧ -2097152 ≤ o ∧ o ≤ 2097152 ∧ retryW p (w s) n c = gone p y1.t o (y1.g.l.drop i.toNat))) (fun bs0 => ((y1.g.l.length : Int) - vi (bs0.getD 1 atom0).1).toNat) ?_ ?_
        · refine ⟨(y1.h + (tot y1.g.l) + c - p.l), 0, by simp only [vd1, vd2, vd3, vd4, vd5, vd6, vd7, reduceCtorEq, Option.some.injEq, vn_rw, va_rw, isNone_f, isNone_t, vi_cell_I, vi_cell_E0, vi_cell_E1, vi_cell_A0, vi_cell_A1, vi_cell_A2, vb_ite, vi_ite, updD, w2, w7, w8, w9, wA, Rw.atom, Rw.nil, List.length_nil, List.map_nil], ?_⟩
          exact ⟨by omega, by omega, by omega, by omega, by rw [retry_yes hm, yn.1, yn.2.2.1, tl, yn.2.2.2]; simp⟩
        rintro _ _ ⟨o, i, rfl, ⟨i0, i1, o0, o1, ho⟩⟩
        refine br_wp (fun c4 => ?_) (fun c4 => ?_)
        · replace c4 : i < (y1.g.l.length : Int) := by first | simpa only [vd1, vd2, vd3, vd4, vd5, vd6, vd7, reduceCtorEq, Option.some.injEq, vn_rw, va_rw, isNone_f, isNone_t, vi_cell_I, vi_cell_E0, vi_cell_E1, vi_cell_A0, vi_cell_A1, vi_cell_A2, vb_ite, vi_ite, updD, w2, w7, w8, w9, wA] using c4 | (simp only [vd1, vd2, vd3, vd4, vd5, vd6, vd7, reduceCtorEq, Option.some.injEq, vn_rw, va_rw, isNone_f, isNone_t, vi_cell_I, vi_cell_E0, vi_cell_E1, vi_cell_A0, vi_cell_A1, vi_cell_A2, vb_ite, vi_ite, updD, w2, w7, w8, w9, wA] at c4; grind)
          obtain ⟨hl, hg⟩ := hget (r := y1.g) (i := i) (by omega) (by omega)
          have el : elOk p (ltr (w s) n) (y1.g.l[(i).toNat]) ∧ ltr (w s) n - (y1.g.l[(i).toNat]).1 < p.p := lo.1 _ (yn.2.2.2 ▸ List.getElem_mem hl)
          rw [← hg] at el
          unfold elOk at el
          have w1 : IntKind.i64.wrap (i + 1) = i + 1 := wrap_id _ (by omega) (by omega)
          have wB : IntKind.i64.wrap (o - (y1.g.get i).2) = o - (y1.g.get i).2 := wrap_id _ (by omega) (by omega)
          have wC : IntKind.i64.wrap ((y1.g.get i).1 + p.p) = (y1.g.get i).1 + p.p := wrap_id _ (by omega) (by omega)
          have wD : IntKind.i64.wrap ((y1.g.get i).1 + p.p - y1.t) = (y1.g.get i).1 + p.p - y1.t := wrap_id _ (by omega) (by omega)
          refine need_wp (by first | exact ⟨_, _, _, rfl⟩ | (simp only [vd1, vd2, vd3, vd4, vd5, vd6, vd7, reduceCtorEq, Option.some.injEq, vn_rw, va_rw, isNone_f, isNone_t, vi_cell_I, vi_cell_E0, vi_cell_E1, vi_cell_A0, vi_cell_A1, vi_cell_A2, vb_ite, vi_ite, updD, w2, w7, w8, w9, wA, w1, wB, wC, wD]; exact ⟨_, _, _, rfl⟩)) ?_
          refine need_wp (by first | exact rw_row _ _ | (simp only [vd1, vd2, vd3, vd4, vd5, vd6, vd7, reduceCtorEq, Option.some.injEq, vn_rw, va_rw, isNone_f, isNone_t, vi_cell_I, vi_cell_E0, vi_cell_E1, vi_cell_A0, vi_cell_A1, vi_cell_A2, vb_ite, vi_ite, updD, w2, w7, w8, w9, wA, w1, wB, wC, wD]; exact ⟨_, _, rfl⟩)) ?_
          refine need_wp (by simp only [vd1, vd2, vd3, vd4, vd5, vd6, vd7, reduceCtorEq, Option.some.injEq, vn_rw, va_rw, isNone_f, isNone_t, vi_cell_I, vi_cell_E0, vi_cell_E1, vi_cell_A0, vi_cell_A1, vi_cell_A2, vb_ite, vi_ite, updD, w2, w7, w8, w9, wA, w1, wB, wC, wD, List.length_cons, List.length_nil, List.length_append, List.length_set]; first | omega | (grind)) ?_
          refine need_wp (by first | exact ⟨_, _, _, rfl⟩ | (simp only [vd1, vd2, vd3, vd4, vd5, vd6, vd7, reduceCtorEq, Option.some.injEq, vn_rw, va_rw, isNone_f, isNone_t, vi_cell_I, vi_cell_E0, vi_cell_E1, vi_cell_A0, vi_cell_A1, vi_cell_A2, vb_ite, vi_ite, updD, w2, w7, w8, w9, wA, w1, wB, wC, wD]; exact ⟨_, _, _, rfl⟩)) ?_
          refine need_wp (by first | exact rw_row _ _ | (simp only [vd1, vd2, vd3, vd4, vd5, vd6, vd7, reduceCtorEq, Option.some.injEq, vn_rw, va_rw, isNone_f, isNone_t, vi_cell_I, vi_cell_E0, vi_cell_E1, vi_cell_A0, vi_cell_A1, vi_cell_A2, vb_ite, vi_ite, updD, w2, w7, w8, w9, wA, w1, wB, wC, wD]; exact ⟨_, _, rfl⟩)) ?_
          refine need_wp (by first | exact rw_sz' rfl | exact rw_szn (by assumption) (.inr (by omega)) | (simp only [vd1, vd2, vd3, vd4, vd5, vd6, vd7, reduceCtorEq, Option.some.injEq, vn_rw, va_rw, isNone_f, isNone_t, vi_cell_I, vi_cell_E0, vi_cell_E1, vi_cell_A0, vi_cell_A1, vi_cell_A2, vb_ite, vi_ite, updD, w2, w7, w8, w9, wA, w1, wB, wC, wD]; exact rw_szn (by assumption) (.inr (by omega))) | exact rw_szn (by simp [Rw.ok]) (.inr (by omega))) ?_
          refine need_wp (by simp only [vd1, vd2, vd3, vd4, vd5, vd6, vd7, reduceCtorEq, Option.some.injEq, vn_rw, va_rw, isNone_f, isNone_t, vi_cell_I, vi_cell_E0, vi_cell_E1, vi_cell_A0, vi_cell_A1, vi_cell_A2, vb_ite, vi_ite, updD, w2, w7, w8, w9, wA, w1, wB, wC, wD]; exact kind_Re0 (by omega) (by omega)) ?_
          refine need_wp (by simp only [vd1, vd2, vd3, vd4, vd5, vd6, vd7, reduceCtorEq, Option.some.injEq, vn_rw, va_rw, isNone_f, isNone_t, vi_cell_I, vi_cell_E0, vi_cell_E1, vi_cell_A0, vi_cell_A1, vi_cell_A2, vb_ite, vi_ite, updD, w2, w7, w8, w9, wA, w1, wB, wC, wD]; exact kind_Re1 (by omega) (by omega)) ?_
          refine br_wp (fun c5 => ?_) (fun c5 => ?_)
          · replace c5 : o ≤ 0 := by first | simpa only [vd1, vd2, vd3, vd4, vd5, vd6, vd7, reduceCtorEq, Option.some.injEq, vn_rw, va_rw, isNone_f, isNone_t, vi_cell_I, vi_cell_E0, vi_cell_E1, vi_cell_A0, vi_cell_A1, vi_cell_A2, vb_ite, vi_ite, updD, w2, w7, w8, w9, wA, w1, wB, wC, wD] using c5 | (simp only [vd1, vd2, vd3, vd4, vd5, vd6, vd7, reduceCtorEq, Option.some.injEq, vn_rw, va_rw, isNone_f, isNone_t, vi_cell_I, vi_cell_E0, vi_cell_E1, vi_cell_A0, vi_cell_A1, vi_cell_A2, vb_ite, vi_ite, updD, w2, w7, w8, w9, wA, w1, wB, wC, wD] at c5; grind)
            refine pop_wp ?_
            refine ret_wp ?_
            try dsimp only
            simp only [vd1, vd2, vd3, vd4, vd5, vd6, vd7, reduceCtorEq, Option.some.injEq, vn_rw, va_rw, isNone_f, isNone_t, vi_cell_I, vi_cell_E0, vi_cell_E1, vi_cell_A0, vi_cell_A1, vi_cell_A2, vb_ite, vi_ite, updD, w2, w7, w8, w9, wA, w1, wB, wC, wD]; rw [ho, gone_le c5, decide_eq_true hm]; exact ⟨rfl, rfl⟩
          · replace c5 : ¬(o ≤ 0) := by first | simpa only [vd1, vd2, vd3, vd4, vd5, vd6, vd7, reduceCtorEq, Option.some.injEq, vn_rw, va_rw, isNone_f, isNone_t, vi_cell_I, vi_cell_E0, vi_cell_E1, vi_cell_A0, vi_cell_A1, vi_cell_A2, vb_ite, vi_ite, updD, w2, w7, w8, w9, wA, w1, wB, wC, wD] using c5 | (simp only [vd1, vd2, vd3, vd4, vd5, vd6, vd7, reduceCtorEq, Option.some.injEq, vn_rw, va_rw, isNone_f, isNone_t, vi_cell_I, vi_cell_E0, vi_cell_E1, vi_cell_A0, vi_cell_A1, vi_cell_A2, vb_ite, vi_ite, updD, w2, w7, w8, w9, wA, w1, wB, wC, wD] at c5; grind)
            refine br_wp (fun c6 => ?_) (fun c6 => ?_)
            · replace c6 : (o - (y1.g.get i).2) ≤ 0 := by first | simpa only [vd1, vd2, vd3, vd4, vd5, vd6, vd7, reduceCtorEq, Option.some.injEq, vn_rw, va_rw, isNone_f, isNone_t, vi_cell_I, vi_cell_E0, vi_cell_E1, vi_cell_A0, vi_cell_A1, vi_cell_A2, vb_ite, vi_ite, updD, w2, w7, w8, w9, wA, w1, wB, wC, wD] using c6 | (simp only [vd1, vd2, vd3, vd4, vd5, vd6, vd7, reduceCtorEq, Option.some.injEq, vn_rw, va_rw, isNone_f, isNone_t, vi_cell_I, vi_cell_E0, vi_cell_E1, vi_cell_A0, vi_cell_A1, vi_cell_A2, vb_ite, vi_ite, updD, w2, w7, w8, w9, wA, w1, wB, wC, wD] at c6; grind)
              refine pop_wp ?_
              refine ret_wp ?_
              try dsimp only
              simp only [vd1, vd2, vd3, vd4, vd5, vd6, vd7, reduceCtorEq, Option.some.injEq, vn_rw, va_rw, isNone_f, isNone_t, vi_cell_I, vi_cell_E0, vi_cell_E1, vi_cell_A0, vi_cell_A1, vi_cell_A2, vb_ite, vi_ite, updD, w2, w7, w8, w9, wA, w1, wB, wC, wD]; rw [ho, gone_hit hl c5 (by rw [← hg]; exact c6), ← hg, decide_eq_true hm]; exact ⟨rfl, rfl⟩
            · replace c6 : ¬((o - (y1.g.get i).2) ≤ 0) := by first | simpa only [vd1, vd2, vd3, vd4, vd5, vd6, vd7, reduceCtorEq, Option.some.injEq, vn_rw, va_rw, isNone_f, isNone_t, vi_cell_I, vi_cell_E0, vi_cell_E1, vi_cell_A0, vi_cell_A1, vi_cell_A2, vb_ite, vi_ite, updD, w2, w7, w8, w9, wA, w1, wB, wC, wD] using c6 | (simp only [vd1, vd2, vd3, vd4, vd5, vd6, vd7, reduceCtorEq, Option.some.injEq, vn_rw, va_rw, isNone_f, isNone_t, vi_cell_I, vi_cell_E0, vi_cell_E1, vi_cell_A0, vi_cell_A1, vi_cell_A2, vb_ite, vi_ite, updD, w2, w7, w8, w9, wA, w1, wB, wC, wD] at c6; grind)
              refine again_wp rfl ⟨(o - (y1.g.get i).2), (i + 1), by simp only [vd1, vd2, vd3, vd4, vd5, vd6, vd7, reduceCtorEq, Option.some.injEq, vn_rw, va_rw, isNone_f, isNone_t, vi_cell_I, vi_cell_E0, vi_cell_E1, vi_cell_A0, vi_cell_A1, vi_cell_A2, vb_ite, vi_ite, updD, w2, w7, w8, w9, wA, w1, wB, wC, wD], ?_⟩ ?_
              · exact ⟨by omega, by omega, by omega, by omega, by rw [ho, hg, show (i + 1).toNat = i.toNat + 1 by omega]; exact gone_miss hl c5 (by rw [← hg]; exact c6)⟩
              · (try simp only [vd1, vd2, vd3, vd4, vd5, vd6, vd7, reduceCtorEq, Option.some.injEq, vn_rw, va_rw, isNone_f, isNone_t, vi_cell_I, vi_cell_E0, vi_cell_E1, vi_cell_A0, vi_cell_A1, vi_cell_A2, vb_ite, vi_ite, updD, w2, w7, w8, w9, wA, w1, wB, wC, wD]); omega
        · replace c4 : ¬(i < (y1.g.l.length : Int)) := by first | simpa only [vd1, vd2, vd3, vd4, vd5, vd6, vd7, reduceCtorEq, Option.some.injEq, vn_rw, va_rw, isNone_f, isNone_t, vi_cell_I, vi_cell_E0, vi_cell_E1, vi_cell_A0, vi_cell_A1, vi_cell_A2, vb_ite, vi_ite, updD, w2, w7, w8, w9, wA] using c4 | (simp only [vd1, vd2, vd3, vd4, vd5, vd6, vd7, reduceCtorEq, Option.some.injEq, vn_rw, va_rw, isNone_f, isNone_t, vi_cell_I, vi_cell_E0, vi_cell_E1, vi_cell_A0, vi_cell_A1, vi_cell_A2, vb_ite, vi_ite, updD, w2, w7, w8, w9, wA] at c4; grind)
          refine pop_wp ?_
          refine ret_wp ?_
          try dsimp only
          simp only [vd1, vd2, vd3, vd4, vd5, vd6, vd7, reduceCtorEq, Option.some.injEq, vn_rw, va_rw, isNone_f, isNone_t, vi_cell_I, vi_cell_E0, vi_cell_E1, vi_cell_A0, vi_cell_A1, vi_cell_A2, vb_ite, vi_ite, updD, w2, w7, w8, w9, wA]; rw [ho, gone_end (by omega), decide_eq_true hm]; exact ⟨rfl, rfl⟩
  · replace c1 : ¬(rightW p (w s)) := by first | simpa only [vd1, vd2, vd3, vd4, vd5, vd6, vd7, reduceCtorEq, Option.some.injEq, vn_rw, va_rw, isNone_f, isNone_t, vi_cell_I, vi_cell_E0, vi_cell_E1, vi_cell_A0, vi_cell_A1, vi_cell_A2, vb_ite, vi_ite, updD] using c1 | (simp only [vd1, vd2, vd3, vd4, vd5, vd6, vd7, reduceCtorEq, Option.some.injEq, vn_rw, va_rw, isNone_f, isNone_t, vi_cell_I, vi_cell_E0, vi_cell_E1, vi_cell_A0, vi_cell_A1, vi_cell_A2, vb_ite, vi_ite, updD] at c1; grind)
    have hr : ¬rightW p (w s) := c1
    refine ret_wp ?_
    try dsimp only
    simp only [vd1, vd2, vd3, vd4, vd5, vd6, vd7, reduceCtorEq, Option.some.injEq, vn_rw, va_rw, isNone_f, isNone_t, vi_cell_I, vi_cell_E0, vi_cell_E1, vi_cell_A0, vi_cell_A1, vi_cell_A2, vb_ite, vi_ite, updD]; have hm : ¬mayC p (w s) c := (fun h => by first | exact hr h.1 | (have := h.2; have wh : (w s).h = s.h := rfl; omega)); rw [retry_no hm, decide_eq_false hm]; exact ⟨rfl, rfl⟩
set_option maxHeartbeats 1000000 in
theorem h33 : holds Try.prog (kRetry sg33) := by
  refine fn_holds (l := [kRight sg35, kAdv sg34, kUsed sg40]) ⟨h35, h34, h40, trivial⟩ hP rs33 (inj_of (fun l : List Atom => (((⟨vi (l.getD 0 atom0).1, vi (l.getD 1 atom0).1, vi (l.getD 2 atom0).1, vi (l.getD 3 atom0).1, vi (l.getD 4 atom0).1, vb (l.getD 5 atom0).1⟩ : Pol), (⟨vi (l.getD 6 atom0).1, vi (l.getD 7 atom0).1, vi (l.getD 8 atom0).1, Rw.un unE (l.getD 9 atom0)⟩ : Est), vi (l.getD 10 atom0).1, vi (l.getD 11 atom0).1) : Pol × Est × Int × Int)) (fun _ => by simp [List.getD_cons_zero, List.getD_cons_succ, unA_atom])) Try.func33 (by kernel_rfl) (c := code Try.f33) (by kernel_rfl) (an := an33) (by kernel_rfl) (pk := pk33) rfl (t := t33) (by kernel_rfl) ?_
  rintro ⟨p, s, n, c⟩ hg0
  refine ⟨by simp [pk33, KindsOk, RK.ok, Rw.atom, Sl.atom], ?_⟩
  unfold t33
  simp only at hg0
  obtain ⟨hk, hlen⟩ := id hg0
  refine call_fun ((p, s)) rfl (by simp only [vd1, vd2, vd3, vd4, vd5, vd6, vd7, reduceCtorEq, Option.some.injEq, vn_rw, va_rw, isNone_f, isNone_t, vi_cell_I, vi_cell_E0, vi_cell_E1, vi_cell_A0, vi_cell_A1, vi_cell_A2, vb_ite, vi_ite, updD]) hg0 ?_
  refine br_wp (fun c1 => ?_) (fun c1 => ?_)
  · replace c1 : rightW p (w s) := by first | simpa only [vd1, vd2, vd3, vd4, vd5, vd6, vd7, reduceCtorEq, Option.some.injEq, vn_rw, va_rw, isNone_f, isNone_t, vi_cell_I, vi_cell_E0, vi_cell_E1, vi_cell_A0, vi_cell_A1, vi_cell_A2, vb_ite, vi_ite, updD] using c1 | (simp only [vd1, vd2, vd3, vd4, vd5, vd6, vd7, reduceCtorEq, Option.some.injEq, vn_rw, va_rw, isNone_f, isNone_t, vi_cell_I, vi_cell_E0, vi_cell_E1, vi_cell_A0, vi_cell_A1, vi_cell_A2, vb_ite, vi_ite, updD] at c1; grind)
    have hr : rightW p (w s) := c1
    have on := ok_nums hr.1
    have rn := right_nums hr
    refine br_wp (fun c2 => ?_) (fun c2 => ?_)
    · replace c2 : c < 1 := by first | simpa only [vd1, vd2, vd3, vd4, vd5, vd6, vd7, reduceCtorEq, Option.some.injEq, vn_rw, va_rw, isNone_f, isNone_t, vi_cell_I, vi_cell_E0, vi_cell_E1, vi_cell_A0, vi_cell_A1, vi_cell_A2, vb_ite, vi_ite, updD] using c2 | (simp only [vd1, vd2, vd3, vd4, vd5, vd6, vd7, reduceCtorEq, Option.some.injEq, vn_rw, va_rw, isNone_f, isNone_t, vi_cell_I, vi_cell_E0, vi_cell_E1, vi_cell_A0, vi_cell_A1, vi_cell_A2, vb_ite, vi_ite, updD] at c2; grind)
      refine ret_wp ?_
      try dsimp only
      simp only [vd1, vd2, vd3, vd4, vd5, vd6, vd7, reduceCtorEq, Option.some.injEq, vn_rw, va_rw, isNone_f, isNone_t, vi_cell_I, vi_cell_E0, vi_cell_E1, vi_cell_A0, vi_cell_A1, vi_cell_A2, vb_ite, vi_ite, updD]; have hm : ¬mayC p (w s) c := (fun h => by first | exact hr h.1 | (have := h.2; have wh : (w s).h = s.h := rfl; omega)); rw [retry_no hm, decide_eq_false hm]; exact ⟨rfl, rfl⟩
    · replace c2 : ¬(c < 1) := by first | simpa only [vd1, vd2, vd3, vd4, vd5, vd6, vd7, reduceCtorEq, Option.some.injEq, vn_rw, va_rw, isNone_f, isNone_t, vi_cell_I, vi_cell_E0, vi_cell_E1, vi_cell_A0, vi_cell_A1, vi_cell_A2, vb_ite, vi_ite, updD] using c2 | (simp only [vd1, vd2, vd3, vd4, vd5, vd6, vd7, reduceCtorEq, Option.some.injEq, vn_rw, va_rw, isNone_f, isNone_t, vi_cell_I, vi_cell_E0, vi_cell_E1, vi_cell_A0, vi_cell_A1, vi_cell_A2, vb_ite, vi_ite, updD] at c2; grind)
      have w2 : IntKind.i64.wrap (p.l - s.h) = p.l - s.h := wrap_id _ (by omega) (by omega)
      refine br_wp (fun c3 => ?_) (fun c3 => ?_)
      · replace c3 : c > (p.l - s.h) := by first | simpa only [vd1, vd2, vd3, vd4, vd5, vd6, vd7, reduceCtorEq, Option.some.injEq, vn_rw, va_rw, isNone_f, isNone_t, vi_cell_I, vi_cell_E0, vi_cell_E1, vi_cell_A0, vi_cell_A1, vi_cell_A2, vb_ite, vi_ite, updD, w2] using c3 | (simp only [vd1, vd2, vd3, vd4, vd5, vd6, vd7, reduceCtorEq, Option.some.injEq, vn_rw, va_rw, isNone_f, isNone_t, vi_cell_I, vi_cell_E0, vi_cell_E1, vi_cell_A0, vi_cell_A1, vi_cell_A2, vb_ite, vi_ite, updD, w2] at c3; grind)
        refine ret_wp ?_
        try dsimp only
        simp only [vd1, vd2, vd3, vd4, vd5, vd6, vd7, reduceCtorEq, Option.some.injEq, vn_rw, va_rw, isNone_f, isNone_t, vi_cell_I, vi_cell_E0, vi_cell_E1, vi_cell_A0, vi_cell_A1, vi_cell_A2, vb_ite, vi_ite, updD, w2]; have hm : ¬mayC p (w s) c := (fun h => by first | exact hr h.1 | (have := h.2; have wh : (w s).h = s.h := rfl; omega)); rw [retry_no hm, decide_eq_false hm]; exact ⟨rfl, rfl⟩
      · replace c3 : ¬(c > (p.l - s.h)) := by first | simpa only [vd1, vd2, vd3, vd4, vd5, vd6, vd7, reduceCtorEq, Option.some.injEq, vn_rw, va_rw, isNone_f, isNone_t, vi_cell_I, vi_cell_E0, vi_cell_E1, vi_cell_A0, vi_cell_A1, vi_cell_A2, vb_ite, vi_ite, updD, w2] using c3 | (simp only [vd1, vd2, vd3, vd4, vd5, vd6, vd7, reduceCtorEq, Option.some.injEq, vn_rw, va_rw, isNone_f, isNone_t, vi_cell_I, vi_cell_E0, vi_cell_E1, vi_cell_A0, vi_cell_A1, vi_cell_A2, vb_ite, vi_ite, updD, w2] at c3; grind)
        refine call_rel ((p, s, n)) rfl (by simp only [vd1, vd2, vd3, vd4, vd5, vd6, vd7, reduceCtorEq, Option.some.injEq, vn_rw, va_rw, isNone_f, isNone_t, vi_cell_I, vi_cell_E0, vi_cell_E1, vi_cell_A0, vi_cell_A1, vi_cell_A2, vb_ite, vi_ite, updD, w2]) hg0 ?_
        rintro y1 ⟨ey1, gy1⟩
        try dsimp only at ey1 gy1
        rw [adv_yes hr] at ey1
        have yn := w_nums ey1
        dsimp only at yn
        have wh : (w s).h = s.h := rfl
        have lt := right_ltr n hr
        have lo := live_ok n hr
        have ln : (y1.g.l.length : Int) ≤ p.c := by rw [yn.2.2.2]; exact lo.2.2.1
        have ky : Rw.ok 2 y1.g := gy1.1
        have hm : mayC p (w s) c := ⟨hr, by omega, by have wh : (w s).h = s.h := rfl; omega⟩
        have hy : rightW p (w y1) := by rw [ey1, ← adv_yes hr]; exact right_adv n hr
        have mm := hm.2
        have hs : sorted y1.g.l := by rw [yn.2.2.2]; exact lo.2.1
        have hlv : ∀ e ∈ y1.g.l, y1.t - e.1 < p.p := by rw [yn.2.2.2, yn.1]; exact fun e he => (lo.1 e he).2
        have h1e : ∀ e ∈ y1.g.l, 1 ≤ e.2 := by rw [yn.2.2.2]; exact fun e he => ((lo.1 e he).1).2.2.1
        refine call_fun ((p, y1, y1.t)) rfl (by simp only [vd1, vd2, vd3, vd4, vd5, vd6, vd7, reduceCtorEq, Option.some.injEq, vn_rw, va_rw, isNone_f, isNone_t, vi_cell_I, vi_cell_E0, vi_cell_E1, vi_cell_A0, vi_cell_A1, vi_cell_A2, vb_ite, vi_ite, updD, w2]) (⟨⟨gy1.1, gy1.2⟩, hy, by dsimp only; omega, by dsimp only; omega⟩) ?_
        have u0 : usedW p y1.g.l y1.t = tot y1.g.l := by rw [used_live, yn.2.2.2, yn.1]; unfold live; rw [List.filter_filter]; simp
        have tl : tot y1.g.l = tot (live p (ltr (w s) n) (w s).l) := by rw [yn.2.2.2]
        have w8 : IntKind.i64.wrap (y1.h + (usedW p y1.g.l y1.t)) = y1.h + (usedW p y1.g.l y1.t) := wrap_id _ (by omega) (by omega)
        have w9 : IntKind.i64.wrap (y1.h + (usedW p y1.g.l y1.t) + c) = y1.h + (usedW p y1.g.l y1.t) + c := wrap_id _ (by omega) (by omega)
        refine br_wp (fun c4 => ?_) (fun c4 => ?_)
        · replace c4 : (y1.h + (usedW p y1.g.l y1.t) + c) ≤ p.l := by first | simpa only [vd1, vd2, vd3, vd4, vd5, vd6, vd7, reduceCtorEq, Option.some.injEq, vn_rw, va_rw, isNone_f, isNone_t, vi_cell_I, vi_cell_E0, vi_cell_E1, vi_cell_A0, vi_cell_A1, vi_cell_A2, vb_ite, vi_ite, updD, w2, w8, w9] using c4 | (simp only [vd1, vd2, vd3, vd4, vd5, vd6, vd7, reduceCtorEq, Option.some.injEq, vn_rw, va_rw, isNone_f, isNone_t, vi_cell_I, vi_cell_E0, vi_cell_E1, vi_cell_A0, vi_cell_A1, vi_cell_A2, vb_ite, vi_ite, updD, w2, w8, w9] at c4; grind)
          refine ret_wp ?_
          try dsimp only
          simp only [vd1, vd2, vd3, vd4, vd5, vd6, vd7, reduceCtorEq, Option.some.injEq, vn_rw, va_rw, isNone_f, isNone_t, vi_cell_I, vi_cell_E0, vi_cell_E1, vi_cell_A0, vi_cell_A1, vi_cell_A2, vb_ite, vi_ite, updD, w2, w8, w9]; rw [retry_yes hm, gone_le (by omega), decide_eq_true hm]; exact ⟨rfl, rfl⟩
        · replace c4 : ¬((y1.h + (usedW p y1.g.l y1.t) + c) ≤ p.l) := by first | simpa only [vd1, vd2, vd3, vd4, vd5, vd6, vd7, reduceCtorEq, Option.some.injEq, vn_rw, va_rw, isNone_f, isNone_t, vi_cell_I, vi_cell_E0, vi_cell_E1, vi_cell_A0, vi_cell_A1, vi_cell_A2, vb_ite, vi_ite, updD, w2, w8, w9] using c4 | (simp only [vd1, vd2, vd3, vd4, vd5, vd6, vd7, reduceCtorEq, Option.some.injEq, vn_rw, va_rw, isNone_f, isNone_t, vi_cell_I, vi_cell_E0, vi_cell_E1, vi_cell_A0, vi_cell_A1, vi_cell_A2, vb_ite, vi_ite, updD, w2, w8, w9] at c4; grind)
          refine loop_wp (fun bs0 => ∃ (b : Int) (i : Int), bs0 = [aI b, aI i] ∧ (0 ≤ i ∧ i ≤ y1.g.l.length ∧ found p y1.t (y1.h + tot y1.g.l + c - p.l) y1.g.l i.toNat b)) (fun bs0 => ((y1.g.l.length : Int) - vi (bs0.getD 1 atom0).1).toNat) ?_ ?_
          · refine ⟨(-1), 0, by simp only [vd1, vd2, vd3, vd4, vd5, vd6, vd7, reduceCtorEq, Option.some.injEq, vn_rw, va_rw, isNone_f, isNone_t, vi_cell_I, vi_cell_E0, vi_cell_E1, vi_cell_A0, vi_cell_A1, vi_cell_A2, vb_ite, vi_ite, updD, w2, w8, w9, Rw.atom, Rw.nil, List.length_nil, List.map_nil], ?_⟩
            exact ⟨by omega, by omega, .inl ⟨rfl, fun j _ h => absurd h (by simp)⟩⟩
          rintro _ _ ⟨b, i, rfl, ⟨i0, i1, hf⟩⟩
          refine need_wp (by first | exact ⟨_, _, _, rfl⟩ | (simp only [vd1, vd2, vd3, vd4, vd5, vd6, vd7, reduceCtorEq, Option.some.injEq, vn_rw, va_rw, isNone_f, isNone_t, vi_cell_I, vi_cell_E0, vi_cell_E1, vi_cell_A0, vi_cell_A1, vi_cell_A2, vb_ite, vi_ite, updD, w2, w8, w9]; exact ⟨_, _, _, rfl⟩)) ?_
          refine br_wp (fun c5 => ?_) (fun c5 => ?_)
          · replace c5 : i < (y1.g.l.length : Int) := by first | simpa only [vd1, vd2, vd3, vd4, vd5, vd6, vd7, reduceCtorEq, Option.some.injEq, vn_rw, va_rw, isNone_f, isNone_t, vi_cell_I, vi_cell_E0, vi_cell_E1, vi_cell_A0, vi_cell_A1, vi_cell_A2, vb_ite, vi_ite, updD, w2, w8, w9] using c5 | (simp only [vd1, vd2, vd3, vd4, vd5, vd6, vd7, reduceCtorEq, Option.some.injEq, vn_rw, va_rw, isNone_f, isNone_t, vi_cell_I, vi_cell_E0, vi_cell_E1, vi_cell_A0, vi_cell_A1, vi_cell_A2, vb_ite, vi_ite, updD, w2, w8, w9] at c5; grind)
            obtain ⟨hl, hg⟩ := hget (r := y1.g) (i := i) (by omega) (by omega)
            have el : elOk p (ltr (w s) n) (y1.g.l[(i).toNat]) ∧ ltr (w s) n - (y1.g.l[(i).toNat]).1 < p.p := lo.1 _ (yn.2.2.2 ▸ List.getElem_mem hl)
            rw [← hg] at el
            unfold elOk at el
            have w1 : IntKind.i64.wrap (i + 1) = i + 1 := wrap_id _ (by omega) (by omega)
            have wC : IntKind.i64.wrap ((y1.g.get i).1 + p.p) = (y1.g.get i).1 + p.p := wrap_id _ (by omega) (by omega)
            have uu := used_upto p y1.g.l (y1.g.get i).1
            have un := upto_nn h1e (y1.g.get i).1
            have ub := used_bd (t := (y1.g.get i).1 + p.p) (right_el hy) on.2.2.1
            have wE : IntKind.i64.wrap (y1.h + (usedW p y1.g.l ((y1.g.get i).1 + p.p))) = y1.h + (usedW p y1.g.l ((y1.g.get i).1 + p.p)) := wrap_id _ (by omega) (by omega)
            have wF : IntKind.i64.wrap (y1.h + (usedW p y1.g.l ((y1.g.get i).1 + p.p)) + c) = y1.h + (usedW p y1.g.l ((y1.g.get i).1 + p.p)) + c := wrap_id _ (by omega) (by omega)
            have wD : IntKind.i64.wrap ((y1.g.get i).1 + p.p - y1.t) = (y1.g.get i).1 + p.p - y1.t := wrap_id _ (by omega) (by omega)
            refine need_wp (by first | exact ⟨_, _, _, rfl⟩ | (simp only [vd1, vd2, vd3, vd4, vd5, vd6, vd7, reduceCtorEq, Option.some.injEq, vn_rw, va_rw, isNone_f, isNone_t, vi_cell_I, vi_cell_E0, vi_cell_E1, vi_cell_A0, vi_cell_A1, vi_cell_A2, vb_ite, vi_ite, updD, w2, w8, w9, w1, wC, wE, wF, wD]; exact ⟨_, _, _, rfl⟩)) ?_
            refine need_wp (by first | exact rw_row _ _ | (simp only [vd1, vd2, vd3, vd4, vd5, vd6, vd7, reduceCtorEq, Option.some.injEq, vn_rw, va_rw, isNone_f, isNone_t, vi_cell_I, vi_cell_E0, vi_cell_E1, vi_cell_A0, vi_cell_A1, vi_cell_A2, vb_ite, vi_ite, updD, w2, w8, w9, w1, wC, wE, wF, wD]; exact ⟨_, _, rfl⟩)) ?_
            refine need_wp (by simp only [vd1, vd2, vd3, vd4, vd5, vd6, vd7, reduceCtorEq, Option.some.injEq, vn_rw, va_rw, isNone_f, isNone_t, vi_cell_I, vi_cell_E0, vi_cell_E1, vi_cell_A0, vi_cell_A1, vi_cell_A2, vb_ite, vi_ite, updD, w2, w8, w9, w1, wC, wE, wF, wD, List.length_cons, List.length_nil, List.length_append, List.length_set]; first | omega | (grind)) ?_
            refine need_wp (by first | exact ⟨_, _, _, rfl⟩ | (simp only [vd1, vd2, vd3, vd4, vd5, vd6, vd7, reduceCtorEq, Option.some.injEq, vn_rw, va_rw, isNone_f, isNone_t, vi_cell_I, vi_cell_E0, vi_cell_E1, vi_cell_A0, vi_cell_A1, vi_cell_A2, vb_ite, vi_ite, updD, w2, w8, w9, w1, wC, wE, wF, wD]; exact ⟨_, _, _, rfl⟩)) ?_
            refine need_wp (by first | exact rw_row _ _ | (simp only [vd1, vd2, vd3, vd4, vd5, vd6, vd7, reduceCtorEq, Option.some.injEq, vn_rw, va_rw, isNone_f, isNone_t, vi_cell_I, vi_cell_E0, vi_cell_E1, vi_cell_A0, vi_cell_A1, vi_cell_A2, vb_ite, vi_ite, updD, w2, w8, w9, w1, wC, wE, wF, wD]; exact ⟨_, _, rfl⟩)) ?_
            refine need_wp (by first | exact ⟨_, _, _, rfl⟩ | (simp only [vd1, vd2, vd3, vd4, vd5, vd6, vd7, reduceCtorEq, Option.some.injEq, vn_rw, va_rw, isNone_f, isNone_t, vi_cell_I, vi_cell_E0, vi_cell_E1, vi_cell_A0, vi_cell_A1, vi_cell_A2, vb_ite, vi_ite, updD, w2, w8, w9, w1, wC, wE, wF, wD]; exact ⟨_, _, _, rfl⟩)) ?_
            refine need_wp (by first | exact rw_row _ _ | (simp only [vd1, vd2, vd3, vd4, vd5, vd6, vd7, reduceCtorEq, Option.some.injEq, vn_rw, va_rw, isNone_f, isNone_t, vi_cell_I, vi_cell_E0, vi_cell_E1, vi_cell_A0, vi_cell_A1, vi_cell_A2, vb_ite, vi_ite, updD, w2, w8, w9, w1, wC, wE, wF, wD]; exact ⟨_, _, rfl⟩)) ?_
            refine need_wp (by first | exact rw_sz' rfl | exact rw_szn (by assumption) (.inr (by omega)) | (simp only [vd1, vd2, vd3, vd4, vd5, vd6, vd7, reduceCtorEq, Option.some.injEq, vn_rw, va_rw, isNone_f, isNone_t, vi_cell_I, vi_cell_E0, vi_cell_E1, vi_cell_A0, vi_cell_A1, vi_cell_A2, vb_ite, vi_ite, updD, w2, w8, w9, w1, wC, wE, wF, wD]; exact rw_szn (by assumption) (.inr (by omega))) | exact rw_szn (by simp [Rw.ok]) (.inr (by omega))) ?_
            refine need_wp (by simp only [vd1, vd2, vd3, vd4, vd5, vd6, vd7, reduceCtorEq, Option.some.injEq, vn_rw, va_rw, isNone_f, isNone_t, vi_cell_I, vi_cell_E0, vi_cell_E1, vi_cell_A0, vi_cell_A1, vi_cell_A2, vb_ite, vi_ite, updD, w2, w8, w9, w1, wC, wE, wF, wD]; exact kind_Re0 (by omega) (by omega)) ?_
            refine call_fun ((p, y1, ((y1.g.get i).1 + p.p))) rfl (by simp only [vd1, vd2, vd3, vd4, vd5, vd6, vd7, reduceCtorEq, Option.some.injEq, vn_rw, va_rw, isNone_f, isNone_t, vi_cell_I, vi_cell_E0, vi_cell_E1, vi_cell_A0, vi_cell_A1, vi_cell_A2, vb_ite, vi_ite, updD, w2, w8, w9, w1, wC, wE, wF, wD]) (⟨⟨gy1.1, gy1.2⟩, hy, by dsimp only; omega, by dsimp only; omega⟩) ?_
            refine br_wp (fun c6 => ?_) (fun c6 => ?_)
            · replace c6 : (y1.h + (usedW p y1.g.l ((y1.g.get i).1 + p.p)) + c) ≤ p.l := by first | simpa only [vd1, vd2, vd3, vd4, vd5, vd6, vd7, reduceCtorEq, Option.some.injEq, vn_rw, va_rw, isNone_f, isNone_t, vi_cell_I, vi_cell_E0, vi_cell_E1, vi_cell_A0, vi_cell_A1, vi_cell_A2, vb_ite, vi_ite, updD, w2, w8, w9, w1, wC, wE, wF, wD] using c6 | (simp only [vd1, vd2, vd3, vd4, vd5, vd6, vd7, reduceCtorEq, Option.some.injEq, vn_rw, va_rw, isNone_f, isNone_t, vi_cell_I, vi_cell_E0, vi_cell_E1, vi_cell_A0, vi_cell_A1, vi_cell_A2, vb_ite, vi_ite, updD, w2, w8, w9, w1, wC, wE, wF, wD] at c6; grind)
              refine br_wp (fun c7 => ?_) (fun c7 => ?_)
              · replace c7 : b < 0 := by first | simpa only [vd1, vd2, vd3, vd4, vd5, vd6, vd7, reduceCtorEq, Option.some.injEq, vn_rw, va_rw, isNone_f, isNone_t, vi_cell_I, vi_cell_E0, vi_cell_E1, vi_cell_A0, vi_cell_A1, vi_cell_A2, vb_ite, vi_ite, updD, w2, w8, w9, w1, wC, wE, wF, wD] using c7 | (simp only [vd1, vd2, vd3, vd4, vd5, vd6, vd7, reduceCtorEq, Option.some.injEq, vn_rw, va_rw, isNone_f, isNone_t, vi_cell_I, vi_cell_E0, vi_cell_E1, vi_cell_A0, vi_cell_A1, vi_cell_A2, vb_ite, vi_ite, updD, w2, w8, w9, w1, wC, wE, wF, wD] at c7; grind)
                refine again_wp rfl ⟨((y1.g.get i).1 + p.p - y1.t), (i + 1), by simp only [vd1, vd2, vd3, vd4, vd5, vd6, vd7, reduceCtorEq, Option.some.injEq, vn_rw, va_rw, isNone_f, isNone_t, vi_cell_I, vi_cell_E0, vi_cell_E1, vi_cell_A0, vi_cell_A1, vi_cell_A2, vb_ite, vi_ite, updD, w2, w8, w9, w1, wC, wE, wF, wD], ?_⟩ ?_
                · refine ⟨by omega, by omega, ?_⟩; rw [show (i + 1).toNat = i.toNat + 1 by omega]; rw [hg]; exact found_yes hf c7 hlv hl (by rw [← hg]; omega)
                · (try simp only [vd1, vd2, vd3, vd4, vd5, vd6, vd7, reduceCtorEq, Option.some.injEq, vn_rw, va_rw, isNone_f, isNone_t, vi_cell_I, vi_cell_E0, vi_cell_E1, vi_cell_A0, vi_cell_A1, vi_cell_A2, vb_ite, vi_ite, updD, w2, w8, w9, w1, wC, wE, wF, wD]); omega
              · replace c7 : ¬(b < 0) := by first | simpa only [vd1, vd2, vd3, vd4, vd5, vd6, vd7, reduceCtorEq, Option.some.injEq, vn_rw, va_rw, isNone_f, isNone_t, vi_cell_I, vi_cell_E0, vi_cell_E1, vi_cell_A0, vi_cell_A1, vi_cell_A2, vb_ite, vi_ite, updD, w2, w8, w9, w1, wC, wE, wF, wD] using c7 | (simp only [vd1, vd2, vd3, vd4, vd5, vd6, vd7, reduceCtorEq, Option.some.injEq, vn_rw, va_rw, isNone_f, isNone_t, vi_cell_I, vi_cell_E0, vi_cell_E1, vi_cell_A0, vi_cell_A1, vi_cell_A2, vb_ite, vi_ite, updD, w2, w8, w9, w1, wC, wE, wF, wD] at c7; grind)
                refine br_wp (fun c8 => ?_) (fun c8 => ?_)
                · replace c8 : ((y1.g.get i).1 + p.p - y1.t) < b := by first | simpa only [vd1, vd2, vd3, vd4, vd5, vd6, vd7, reduceCtorEq, Option.some.injEq, vn_rw, va_rw, isNone_f, isNone_t, vi_cell_I, vi_cell_E0, vi_cell_E1, vi_cell_A0, vi_cell_A1, vi_cell_A2, vb_ite, vi_ite, updD, w2, w8, w9, w1, wC, wE, wF, wD] using c8 | (simp only [vd1, vd2, vd3, vd4, vd5, vd6, vd7, reduceCtorEq, Option.some.injEq, vn_rw, va_rw, isNone_f, isNone_t, vi_cell_I, vi_cell_E0, vi_cell_E1, vi_cell_A0, vi_cell_A1, vi_cell_A2, vb_ite, vi_ite, updD, w2, w8, w9, w1, wC, wE, wF, wD] at c8; grind)
                  exfalso; have := found_dead hf c7 hs hl; rw [← hg] at this; exact this c8
                · replace c8 : ¬(((y1.g.get i).1 + p.p - y1.t) < b) := by first | simpa only [vd1, vd2, vd3, vd4, vd5, vd6, vd7, reduceCtorEq, Option.some.injEq, vn_rw, va_rw, isNone_f, isNone_t, vi_cell_I, vi_cell_E0, vi_cell_E1, vi_cell_A0, vi_cell_A1, vi_cell_A2, vb_ite, vi_ite, updD, w2, w8, w9, w1, wC, wE, wF, wD] using c8 | (simp only [vd1, vd2, vd3, vd4, vd5, vd6, vd7, reduceCtorEq, Option.some.injEq, vn_rw, va_rw, isNone_f, isNone_t, vi_cell_I, vi_cell_E0, vi_cell_E1, vi_cell_A0, vi_cell_A1, vi_cell_A2, vb_ite, vi_ite, updD, w2, w8, w9, w1, wC, wE, wF, wD] at c8; grind)
                  refine again_wp rfl ⟨b, (i + 1), by simp only [vd1, vd2, vd3, vd4, vd5, vd6, vd7, reduceCtorEq, Option.some.injEq, vn_rw, va_rw, isNone_f, isNone_t, vi_cell_I, vi_cell_E0, vi_cell_E1, vi_cell_A0, vi_cell_A1, vi_cell_A2, vb_ite, vi_ite, updD, w2, w8, w9, w1, wC, wE, wF, wD], ?_⟩ ?_
                  · refine ⟨by omega, by omega, ?_⟩; rw [show (i + 1).toNat = i.toNat + 1 by omega]; exact found_same hf c7
                  · (try simp only [vd1, vd2, vd3, vd4, vd5, vd6, vd7, reduceCtorEq, Option.some.injEq, vn_rw, va_rw, isNone_f, isNone_t, vi_cell_I, vi_cell_E0, vi_cell_E1, vi_cell_A0, vi_cell_A1, vi_cell_A2, vb_ite, vi_ite, updD, w2, w8, w9, w1, wC, wE, wF, wD]); omega
            · replace c6 : ¬((y1.h + (usedW p y1.g.l ((y1.g.get i).1 + p.p)) + c) ≤ p.l) := by first | simpa only [vd1, vd2, vd3, vd4, vd5, vd6, vd7, reduceCtorEq, Option.some.injEq, vn_rw, va_rw, isNone_f, isNone_t, vi_cell_I, vi_cell_E0, vi_cell_E1, vi_cell_A0, vi_cell_A1, vi_cell_A2, vb_ite, vi_ite, updD, w2, w8, w9, w1, wC, wE, wF, wD] using c6 | (simp only [vd1, vd2, vd3, vd4, vd5, vd6, vd7, reduceCtorEq, Option.some.injEq, vn_rw, va_rw, isNone_f, isNone_t, vi_cell_I, vi_cell_E0, vi_cell_E1, vi_cell_A0, vi_cell_A1, vi_cell_A2, vb_ite, vi_ite, updD, w2, w8, w9, w1, wC, wE, wF, wD] at c6; grind)
              refine again_wp rfl ⟨b, (i + 1), by simp only [vd1, vd2, vd3, vd4, vd5, vd6, vd7, reduceCtorEq, Option.some.injEq, vn_rw, va_rw, isNone_f, isNone_t, vi_cell_I, vi_cell_E0, vi_cell_E1, vi_cell_A0, vi_cell_A1, vi_cell_A2, vb_ite, vi_ite, updD, w2, w8, w9, w1, wC, wE, wF, wD], ?_⟩ ?_
              · refine ⟨by omega, by omega, ?_⟩; rw [show (i + 1).toNat = i.toNat + 1 by omega]; exact found_no hf hl (by rw [← hg]; omega)
              · (try simp only [vd1, vd2, vd3, vd4, vd5, vd6, vd7, reduceCtorEq, Option.some.injEq, vn_rw, va_rw, isNone_f, isNone_t, vi_cell_I, vi_cell_E0, vi_cell_E1, vi_cell_A0, vi_cell_A1, vi_cell_A2, vb_ite, vi_ite, updD, w2, w8, w9, w1, wC, wE, wF, wD]); omega
          · replace c5 : ¬(i < (y1.g.l.length : Int)) := by first | simpa only [vd1, vd2, vd3, vd4, vd5, vd6, vd7, reduceCtorEq, Option.some.injEq, vn_rw, va_rw, isNone_f, isNone_t, vi_cell_I, vi_cell_E0, vi_cell_E1, vi_cell_A0, vi_cell_A1, vi_cell_A2, vb_ite, vi_ite, updD, w2, w8, w9] using c5 | (simp only [vd1, vd2, vd3, vd4, vd5, vd6, vd7, reduceCtorEq, Option.some.injEq, vn_rw, va_rw, isNone_f, isNone_t, vi_cell_I, vi_cell_E0, vi_cell_E1, vi_cell_A0, vi_cell_A1, vi_cell_A2, vb_ite, vi_ite, updD, w2, w8, w9] at c5; grind)
            refine pop_wp ?_
            refine ret_wp ?_
            try dsimp only
            simp only [vd1, vd2, vd3, vd4, vd5, vd6, vd7, reduceCtorEq, Option.some.injEq, vn_rw, va_rw, isNone_f, isNone_t, vi_cell_I, vi_cell_E0, vi_cell_E1, vi_cell_A0, vi_cell_A1, vi_cell_A2, vb_ite, vi_ite, updD, w2, w8, w9]; have hi : i.toNat = y1.g.l.length := (by omega); rw [hi] at hf; have := found_end (by omega) hs h1e (by omega) hf; rw [retry_yes hm, decide_eq_true hm, this, yn.2.2.1, tl, yn.2.2.2, yn.1]; exact ⟨rfl, rfl⟩
  · replace c1 : ¬(rightW p (w s)) := by first | simpa only [vd1, vd2, vd3, vd4, vd5, vd6, vd7, reduceCtorEq, Option.some.injEq, vn_rw, va_rw, isNone_f, isNone_t, vi_cell_I, vi_cell_E0, vi_cell_E1, vi_cell_A0, vi_cell_A1, vi_cell_A2, vb_ite, vi_ite, updD] using c1 | (simp only [vd1, vd2, vd3, vd4, vd5, vd6, vd7, reduceCtorEq, Option.some.injEq, vn_rw, va_rw, isNone_f, isNone_t, vi_cell_I, vi_cell_E0, vi_cell_E1, vi_cell_A0, vi_cell_A1, vi_cell_A2, vb_ite, vi_ite, updD] at c1; grind)
    have hr : ¬rightW p (w s) := c1
    refine ret_wp ?_
    try dsimp only
    simp only [vd1, vd2, vd3, vd4, vd5, vd6, vd7, reduceCtorEq, Option.some.injEq, vn_rw, va_rw, isNone_f, isNone_t, vi_cell_I, vi_cell_E0, vi_cell_E1, vi_cell_A0, vi_cell_A1, vi_cell_A2, vb_ite, vi_ite, updD]; have hm : ¬mayC p (w s) c := (fun h => by first | exact hr h.1 | (have := h.2; have wh : (w s).h = s.h := rfl; omega)); rw [retry_no hm, decide_eq_false hm]; exact ⟨rfl, rfl⟩
instance : DecidableEq Wst := fun a b => decidable_of_iff (a.t = b.t ∧ a.v = b.v ∧ a.h = b.h ∧ a.l = b.l) (by cases a; cases b; simp)
def kSame (sg : Sig) : Sig × Con := (sg, mkFun (fun x : Est × Est => ([aI x.1.t, aI x.1.v, aI x.1.h, Rw.atom eE x.1.g, aI x.2.t, aI x.2.v, aI x.2.h, Rw.atom eE x.2.g] : List Atom)) (fun x => gok x.1 ∧ gok x.2) (fun x => [aB (decide (w x.1 = w x.2))]))
set_option maxHeartbeats 1000000 in
theorem h16 : holds Try.prog (kSame sg16) := by
  refine fn_holds (l := []) trivial hP rs16 (inj_of (fun l : List Atom => (((⟨vi (l.getD 0 atom0).1, vi (l.getD 1 atom0).1, vi (l.getD 2 atom0).1, Rw.un unE (l.getD 3 atom0)⟩ : Est), (⟨vi (l.getD 4 atom0).1, vi (l.getD 5 atom0).1, vi (l.getD 6 atom0).1, Rw.un unE (l.getD 7 atom0)⟩ : Est)) : Est × Est)) (fun _ => by simp [List.getD_cons_zero, List.getD_cons_succ, unA_atom])) Try.func16 (by kernel_rfl) (c := code Try.f16) (by kernel_rfl) (an := an16) (by kernel_rfl) (pk := pk16) rfl (t := t16) (by kernel_rfl) ?_
  rintro ⟨s, t⟩ ⟨⟨hk, hlen⟩, kk, hle2⟩
  refine ⟨by simp [pk16, KindsOk, RK.ok, Rw.atom, Sl.atom], ?_⟩
  unfold t16
  simp only at hk hlen kk hle2
  refine br_wp (fun c1 => ?_) (fun c1 => ?_)
  · replace c1 : s.t ≠ t.t := by first | simpa only [vd1, vd2, vd3, vd4, vd5, vd6, vd7, reduceCtorEq, Option.some.injEq, vn_rw, va_rw, isNone_f, isNone_t, vi_cell_I, vi_cell_E0, vi_cell_E1, vi_cell_A0, vi_cell_A1, vi_cell_A2, vb_ite, vi_ite, updD] using c1 | (simp only [vd1, vd2, vd3, vd4, vd5, vd6, vd7, reduceCtorEq, Option.some.injEq, vn_rw, va_rw, isNone_f, isNone_t, vi_cell_I, vi_cell_E0, vi_cell_E1, vi_cell_A0, vi_cell_A1, vi_cell_A2, vb_ite, vi_ite, updD] at c1; grind)
    refine ret_wp ?_
    try dsimp only
    simp only [vd1, vd2, vd3, vd4, vd5, vd6, vd7, reduceCtorEq, Option.some.injEq, vn_rw, va_rw, isNone_f, isNone_t, vi_cell_I, vi_cell_E0, vi_cell_E1, vi_cell_A0, vi_cell_A1, vi_cell_A2, vb_ite, vi_ite, updD]; rw [decide_eq_false (fun h => by have e := w_nums h; simp only [w] at e; first | omega | (have := congrArg List.length e.2.2.2; omega))]
  · replace c1 : ¬(s.t ≠ t.t) := by first | simpa only [vd1, vd2, vd3, vd4, vd5, vd6, vd7, reduceCtorEq, Option.some.injEq, vn_rw, va_rw, isNone_f, isNone_t, vi_cell_I, vi_cell_E0, vi_cell_E1, vi_cell_A0, vi_cell_A1, vi_cell_A2, vb_ite, vi_ite, updD] using c1 | (simp only [vd1, vd2, vd3, vd4, vd5, vd6, vd7, reduceCtorEq, Option.some.injEq, vn_rw, va_rw, isNone_f, isNone_t, vi_cell_I, vi_cell_E0, vi_cell_E1, vi_cell_A0, vi_cell_A1, vi_cell_A2, vb_ite, vi_ite, updD] at c1; grind)
    refine br_wp (fun c2 => ?_) (fun c2 => ?_)
    · replace c2 : s.v ≠ t.v := by first | simpa only [vd1, vd2, vd3, vd4, vd5, vd6, vd7, reduceCtorEq, Option.some.injEq, vn_rw, va_rw, isNone_f, isNone_t, vi_cell_I, vi_cell_E0, vi_cell_E1, vi_cell_A0, vi_cell_A1, vi_cell_A2, vb_ite, vi_ite, updD] using c2 | (simp only [vd1, vd2, vd3, vd4, vd5, vd6, vd7, reduceCtorEq, Option.some.injEq, vn_rw, va_rw, isNone_f, isNone_t, vi_cell_I, vi_cell_E0, vi_cell_E1, vi_cell_A0, vi_cell_A1, vi_cell_A2, vb_ite, vi_ite, updD] at c2; grind)
      refine ret_wp ?_
      try dsimp only
      simp only [vd1, vd2, vd3, vd4, vd5, vd6, vd7, reduceCtorEq, Option.some.injEq, vn_rw, va_rw, isNone_f, isNone_t, vi_cell_I, vi_cell_E0, vi_cell_E1, vi_cell_A0, vi_cell_A1, vi_cell_A2, vb_ite, vi_ite, updD]; rw [decide_eq_false (fun h => by have e := w_nums h; simp only [w] at e; first | omega | (have := congrArg List.length e.2.2.2; omega))]
    · replace c2 : ¬(s.v ≠ t.v) := by first | simpa only [vd1, vd2, vd3, vd4, vd5, vd6, vd7, reduceCtorEq, Option.some.injEq, vn_rw, va_rw, isNone_f, isNone_t, vi_cell_I, vi_cell_E0, vi_cell_E1, vi_cell_A0, vi_cell_A1, vi_cell_A2, vb_ite, vi_ite, updD] using c2 | (simp only [vd1, vd2, vd3, vd4, vd5, vd6, vd7, reduceCtorEq, Option.some.injEq, vn_rw, va_rw, isNone_f, isNone_t, vi_cell_I, vi_cell_E0, vi_cell_E1, vi_cell_A0, vi_cell_A1, vi_cell_A2, vb_ite, vi_ite, updD] at c2; grind)
      refine br_wp (fun c3 => ?_) (fun c3 => ?_)
      · replace c3 : s.h ≠ t.h := by first | simpa only [vd1, vd2, vd3, vd4, vd5, vd6, vd7, reduceCtorEq, Option.some.injEq, vn_rw, va_rw, isNone_f, isNone_t, vi_cell_I, vi_cell_E0, vi_cell_E1, vi_cell_A0, vi_cell_A1, vi_cell_A2, vb_ite, vi_ite, updD] using c3 | (simp only [vd1, vd2, vd3, vd4, vd5, vd6, vd7, reduceCtorEq, Option.some.injEq, vn_rw, va_rw, isNone_f, isNone_t, vi_cell_I, vi_cell_E0, vi_cell_E1, vi_cell_A0, vi_cell_A1, vi_cell_A2, vb_ite, vi_ite, updD] at c3; grind)
        refine ret_wp ?_
        try dsimp only
        simp only [vd1, vd2, vd3, vd4, vd5, vd6, vd7, reduceCtorEq, Option.some.injEq, vn_rw, va_rw, isNone_f, isNone_t, vi_cell_I, vi_cell_E0, vi_cell_E1, vi_cell_A0, vi_cell_A1, vi_cell_A2, vb_ite, vi_ite, updD]; rw [decide_eq_false (fun h => by have e := w_nums h; simp only [w] at e; first | omega | (have := congrArg List.length e.2.2.2; omega))]
      · replace c3 : ¬(s.h ≠ t.h) := by first | simpa only [vd1, vd2, vd3, vd4, vd5, vd6, vd7, reduceCtorEq, Option.some.injEq, vn_rw, va_rw, isNone_f, isNone_t, vi_cell_I, vi_cell_E0, vi_cell_E1, vi_cell_A0, vi_cell_A1, vi_cell_A2, vb_ite, vi_ite, updD] using c3 | (simp only [vd1, vd2, vd3, vd4, vd5, vd6, vd7, reduceCtorEq, Option.some.injEq, vn_rw, va_rw, isNone_f, isNone_t, vi_cell_I, vi_cell_E0, vi_cell_E1, vi_cell_A0, vi_cell_A1, vi_cell_A2, vb_ite, vi_ite, updD] at c3; grind)
        refine need_wp (by first | exact ⟨_, _, _, rfl⟩ | (simp only [vd1, vd2, vd3, vd4, vd5, vd6, vd7, reduceCtorEq, Option.some.injEq, vn_rw, va_rw, isNone_f, isNone_t, vi_cell_I, vi_cell_E0, vi_cell_E1, vi_cell_A0, vi_cell_A1, vi_cell_A2, vb_ite, vi_ite, updD]; exact ⟨_, _, _, rfl⟩)) ?_
        refine need_wp (by first | exact ⟨_, _, _, rfl⟩ | (simp only [vd1, vd2, vd3, vd4, vd5, vd6, vd7, reduceCtorEq, Option.some.injEq, vn_rw, va_rw, isNone_f, isNone_t, vi_cell_I, vi_cell_E0, vi_cell_E1, vi_cell_A0, vi_cell_A1, vi_cell_A2, vb_ite, vi_ite, updD]; exact ⟨_, _, _, rfl⟩)) ?_
        refine br_wp (fun c4 => ?_) (fun c4 => ?_)
        · replace c4 : (s.g.l.length : Int) ≠ (t.g.l.length : Int) := by first | simpa only [vd1, vd2, vd3, vd4, vd5, vd6, vd7, reduceCtorEq, Option.some.injEq, vn_rw, va_rw, isNone_f, isNone_t, vi_cell_I, vi_cell_E0, vi_cell_E1, vi_cell_A0, vi_cell_A1, vi_cell_A2, vb_ite, vi_ite, updD] using c4 | (simp only [vd1, vd2, vd3, vd4, vd5, vd6, vd7, reduceCtorEq, Option.some.injEq, vn_rw, va_rw, isNone_f, isNone_t, vi_cell_I, vi_cell_E0, vi_cell_E1, vi_cell_A0, vi_cell_A1, vi_cell_A2, vb_ite, vi_ite, updD] at c4; grind)
          refine ret_wp ?_
          try dsimp only
          simp only [vd1, vd2, vd3, vd4, vd5, vd6, vd7, reduceCtorEq, Option.some.injEq, vn_rw, va_rw, isNone_f, isNone_t, vi_cell_I, vi_cell_E0, vi_cell_E1, vi_cell_A0, vi_cell_A1, vi_cell_A2, vb_ite, vi_ite, updD]; rw [decide_eq_false (fun h => by have e := w_nums h; simp only [w] at e; first | omega | (have := congrArg List.length e.2.2.2; omega))]
        · replace c4 : ¬((s.g.l.length : Int) ≠ (t.g.l.length : Int)) := by first | simpa only [vd1, vd2, vd3, vd4, vd5, vd6, vd7, reduceCtorEq, Option.some.injEq, vn_rw, va_rw, isNone_f, isNone_t, vi_cell_I, vi_cell_E0, vi_cell_E1, vi_cell_A0, vi_cell_A1, vi_cell_A2, vb_ite, vi_ite, updD] using c4 | (simp only [vd1, vd2, vd3, vd4, vd5, vd6, vd7, reduceCtorEq, Option.some.injEq, vn_rw, va_rw, isNone_f, isNone_t, vi_cell_I, vi_cell_E0, vi_cell_E1, vi_cell_A0, vi_cell_A1, vi_cell_A2, vb_ite, vi_ite, updD] at c4; grind)
          refine loop_wp (fun bs0 => ∃ (i : Int), bs0 = [aI i] ∧ (0 ≤ i ∧ i ≤ s.g.l.length ∧ s.g.l.take i.toNat = t.g.l.take i.toNat)) (fun bs0 => ((s.g.l.length : Int) - vi (bs0.getD 0 atom0).1).toNat) ?_ ?_
          · refine ⟨0, by simp only [vd1, vd2, vd3, vd4, vd5, vd6, vd7, reduceCtorEq, Option.some.injEq, vn_rw, va_rw, isNone_f, isNone_t, vi_cell_I, vi_cell_E0, vi_cell_E1, vi_cell_A0, vi_cell_A1, vi_cell_A2, vb_ite, vi_ite, updD, Rw.atom, Rw.nil, List.length_nil, List.map_nil], ?_⟩
            exact ⟨by omega, by omega, by simp⟩
          rintro _ _ ⟨i, rfl, ⟨i0, i1, ht⟩⟩
          refine need_wp (by first | exact ⟨_, _, _, rfl⟩ | (simp only [vd1, vd2, vd3, vd4, vd5, vd6, vd7, reduceCtorEq, Option.some.injEq, vn_rw, va_rw, isNone_f, isNone_t, vi_cell_I, vi_cell_E0, vi_cell_E1, vi_cell_A0, vi_cell_A1, vi_cell_A2, vb_ite, vi_ite, updD]; exact ⟨_, _, _, rfl⟩)) ?_
          refine br_wp (fun c5 => ?_) (fun c5 => ?_)
          · replace c5 : i < (s.g.l.length : Int) := by first | simpa only [vd1, vd2, vd3, vd4, vd5, vd6, vd7, reduceCtorEq, Option.some.injEq, vn_rw, va_rw, isNone_f, isNone_t, vi_cell_I, vi_cell_E0, vi_cell_E1, vi_cell_A0, vi_cell_A1, vi_cell_A2, vb_ite, vi_ite, updD] using c5 | (simp only [vd1, vd2, vd3, vd4, vd5, vd6, vd7, reduceCtorEq, Option.some.injEq, vn_rw, va_rw, isNone_f, isNone_t, vi_cell_I, vi_cell_E0, vi_cell_E1, vi_cell_A0, vi_cell_A1, vi_cell_A2, vb_ite, vi_ite, updD] at c5; grind)
            obtain ⟨hl, hg⟩ := hget i0 c5
            obtain ⟨hl2, hg2⟩ := hget (r := t.g) i0 (by omega)
            have w1 : IntKind.i64.wrap (i + 1) = i + 1 := wrap_id _ (by omega) (by omega)
            refine need_wp (by first | exact ⟨_, _, _, rfl⟩ | (simp only [vd1, vd2, vd3, vd4, vd5, vd6, vd7, reduceCtorEq, Option.some.injEq, vn_rw, va_rw, isNone_f, isNone_t, vi_cell_I, vi_cell_E0, vi_cell_E1, vi_cell_A0, vi_cell_A1, vi_cell_A2, vb_ite, vi_ite, updD, w1]; exact ⟨_, _, _, rfl⟩)) ?_
            refine need_wp (by first | exact rw_row _ _ | (simp only [vd1, vd2, vd3, vd4, vd5, vd6, vd7, reduceCtorEq, Option.some.injEq, vn_rw, va_rw, isNone_f, isNone_t, vi_cell_I, vi_cell_E0, vi_cell_E1, vi_cell_A0, vi_cell_A1, vi_cell_A2, vb_ite, vi_ite, updD, w1]; exact ⟨_, _, rfl⟩)) ?_
            refine need_wp (by simp only [vd1, vd2, vd3, vd4, vd5, vd6, vd7, reduceCtorEq, Option.some.injEq, vn_rw, va_rw, isNone_f, isNone_t, vi_cell_I, vi_cell_E0, vi_cell_E1, vi_cell_A0, vi_cell_A1, vi_cell_A2, vb_ite, vi_ite, updD, w1, List.length_cons, List.length_nil, List.length_append, List.length_set]; first | omega | (grind)) ?_
            refine need_wp (by first | exact ⟨_, _, _, rfl⟩ | (simp only [vd1, vd2, vd3, vd4, vd5, vd6, vd7, reduceCtorEq, Option.some.injEq, vn_rw, va_rw, isNone_f, isNone_t, vi_cell_I, vi_cell_E0, vi_cell_E1, vi_cell_A0, vi_cell_A1, vi_cell_A2, vb_ite, vi_ite, updD, w1]; exact ⟨_, _, _, rfl⟩)) ?_
            refine need_wp (by first | exact rw_row _ _ | (simp only [vd1, vd2, vd3, vd4, vd5, vd6, vd7, reduceCtorEq, Option.some.injEq, vn_rw, va_rw, isNone_f, isNone_t, vi_cell_I, vi_cell_E0, vi_cell_E1, vi_cell_A0, vi_cell_A1, vi_cell_A2, vb_ite, vi_ite, updD, w1]; exact ⟨_, _, rfl⟩)) ?_
            refine need_wp (by first | exact rw_sz' rfl | exact rw_szn (by assumption) (.inr (by omega)) | (simp only [vd1, vd2, vd3, vd4, vd5, vd6, vd7, reduceCtorEq, Option.some.injEq, vn_rw, va_rw, isNone_f, isNone_t, vi_cell_I, vi_cell_E0, vi_cell_E1, vi_cell_A0, vi_cell_A1, vi_cell_A2, vb_ite, vi_ite, updD, w1]; exact rw_szn (by assumption) (.inr (by omega))) | exact rw_szn (by simp [Rw.ok]) (.inr (by omega))) ?_
            refine need_wp (by simp only [vd1, vd2, vd3, vd4, vd5, vd6, vd7, reduceCtorEq, Option.some.injEq, vn_rw, va_rw, isNone_f, isNone_t, vi_cell_I, vi_cell_E0, vi_cell_E1, vi_cell_A0, vi_cell_A1, vi_cell_A2, vb_ite, vi_ite, updD, w1]; exact kind_Re0 (by omega) (by omega)) ?_
            refine need_wp (by simp only [vd1, vd2, vd3, vd4, vd5, vd6, vd7, reduceCtorEq, Option.some.injEq, vn_rw, va_rw, isNone_f, isNone_t, vi_cell_I, vi_cell_E0, vi_cell_E1, vi_cell_A0, vi_cell_A1, vi_cell_A2, vb_ite, vi_ite, updD, w1]; exact kind_Re1 (by omega) (by omega)) ?_
            refine need_wp (by first | exact ⟨_, _, _, rfl⟩ | (simp only [vd1, vd2, vd3, vd4, vd5, vd6, vd7, reduceCtorEq, Option.some.injEq, vn_rw, va_rw, isNone_f, isNone_t, vi_cell_I, vi_cell_E0, vi_cell_E1, vi_cell_A0, vi_cell_A1, vi_cell_A2, vb_ite, vi_ite, updD, w1]; exact ⟨_, _, _, rfl⟩)) ?_
            refine need_wp (by first | exact rw_row _ _ | (simp only [vd1, vd2, vd3, vd4, vd5, vd6, vd7, reduceCtorEq, Option.some.injEq, vn_rw, va_rw, isNone_f, isNone_t, vi_cell_I, vi_cell_E0, vi_cell_E1, vi_cell_A0, vi_cell_A1, vi_cell_A2, vb_ite, vi_ite, updD, w1]; exact ⟨_, _, rfl⟩)) ?_
            refine need_wp (by simp only [vd1, vd2, vd3, vd4, vd5, vd6, vd7, reduceCtorEq, Option.some.injEq, vn_rw, va_rw, isNone_f, isNone_t, vi_cell_I, vi_cell_E0, vi_cell_E1, vi_cell_A0, vi_cell_A1, vi_cell_A2, vb_ite, vi_ite, updD, w1, List.length_cons, List.length_nil, List.length_append, List.length_set]; first | omega | (grind)) ?_
            refine need_wp (by first | exact ⟨_, _, _, rfl⟩ | (simp only [vd1, vd2, vd3, vd4, vd5, vd6, vd7, reduceCtorEq, Option.some.injEq, vn_rw, va_rw, isNone_f, isNone_t, vi_cell_I, vi_cell_E0, vi_cell_E1, vi_cell_A0, vi_cell_A1, vi_cell_A2, vb_ite, vi_ite, updD, w1]; exact ⟨_, _, _, rfl⟩)) ?_
            refine need_wp (by first | exact rw_row _ _ | (simp only [vd1, vd2, vd3, vd4, vd5, vd6, vd7, reduceCtorEq, Option.some.injEq, vn_rw, va_rw, isNone_f, isNone_t, vi_cell_I, vi_cell_E0, vi_cell_E1, vi_cell_A0, vi_cell_A1, vi_cell_A2, vb_ite, vi_ite, updD, w1]; exact ⟨_, _, rfl⟩)) ?_
            refine need_wp (by first | exact rw_sz' rfl | exact rw_szn (by assumption) (.inr (by omega)) | (simp only [vd1, vd2, vd3, vd4, vd5, vd6, vd7, reduceCtorEq, Option.some.injEq, vn_rw, va_rw, isNone_f, isNone_t, vi_cell_I, vi_cell_E0, vi_cell_E1, vi_cell_A0, vi_cell_A1, vi_cell_A2, vb_ite, vi_ite, updD, w1]; exact rw_szn (by assumption) (.inr (by omega))) | exact rw_szn (by simp [Rw.ok]) (.inr (by omega))) ?_
            refine need_wp (by simp only [vd1, vd2, vd3, vd4, vd5, vd6, vd7, reduceCtorEq, Option.some.injEq, vn_rw, va_rw, isNone_f, isNone_t, vi_cell_I, vi_cell_E0, vi_cell_E1, vi_cell_A0, vi_cell_A1, vi_cell_A2, vb_ite, vi_ite, updD, w1]; exact kind_Re0 (by omega) (by omega)) ?_
            refine need_wp (by simp only [vd1, vd2, vd3, vd4, vd5, vd6, vd7, reduceCtorEq, Option.some.injEq, vn_rw, va_rw, isNone_f, isNone_t, vi_cell_I, vi_cell_E0, vi_cell_E1, vi_cell_A0, vi_cell_A1, vi_cell_A2, vb_ite, vi_ite, updD, w1]; exact kind_Re1 (by omega) (by omega)) ?_
            refine br_wp (fun c6 => ?_) (fun c6 => ?_)
            · replace c6 : ((s.g.get i).1 = (t.g.get i).1) ∧ ((s.g.get i).2 = (t.g.get i).2) := by first | simpa only [vd1, vd2, vd3, vd4, vd5, vd6, vd7, reduceCtorEq, Option.some.injEq, vn_rw, va_rw, isNone_f, isNone_t, vi_cell_I, vi_cell_E0, vi_cell_E1, vi_cell_A0, vi_cell_A1, vi_cell_A2, vb_ite, vi_ite, updD, w1] using c6 | (simp only [vd1, vd2, vd3, vd4, vd5, vd6, vd7, reduceCtorEq, Option.some.injEq, vn_rw, va_rw, isNone_f, isNone_t, vi_cell_I, vi_cell_E0, vi_cell_E1, vi_cell_A0, vi_cell_A1, vi_cell_A2, vb_ite, vi_ite, updD, w1] at c6; grind)
              refine again_wp rfl ⟨(i + 1), by simp only [vd1, vd2, vd3, vd4, vd5, vd6, vd7, reduceCtorEq, Option.some.injEq, vn_rw, va_rw, isNone_f, isNone_t, vi_cell_I, vi_cell_E0, vi_cell_E1, vi_cell_A0, vi_cell_A1, vi_cell_A2, vb_ite, vi_ite, updD, w1], ?_⟩ ?_
              · refine ⟨by omega, by omega, ?_⟩; rw [show (i + 1).toNat = i.toNat + 1 by omega]; rw [List.take_succ_eq_append_getElem hl, List.take_succ_eq_append_getElem hl2, ht, ← hg, ← hg2, Prod.ext c6.1 c6.2]
              · (try simp only [vd1, vd2, vd3, vd4, vd5, vd6, vd7, reduceCtorEq, Option.some.injEq, vn_rw, va_rw, isNone_f, isNone_t, vi_cell_I, vi_cell_E0, vi_cell_E1, vi_cell_A0, vi_cell_A1, vi_cell_A2, vb_ite, vi_ite, updD, w1]); omega
            · replace c6 : ¬(((s.g.get i).1 = (t.g.get i).1) ∧ ((s.g.get i).2 = (t.g.get i).2)) := by first | simpa only [vd1, vd2, vd3, vd4, vd5, vd6, vd7, reduceCtorEq, Option.some.injEq, vn_rw, va_rw, isNone_f, isNone_t, vi_cell_I, vi_cell_E0, vi_cell_E1, vi_cell_A0, vi_cell_A1, vi_cell_A2, vb_ite, vi_ite, updD, w1] using c6 | (simp only [vd1, vd2, vd3, vd4, vd5, vd6, vd7, reduceCtorEq, Option.some.injEq, vn_rw, va_rw, isNone_f, isNone_t, vi_cell_I, vi_cell_E0, vi_cell_E1, vi_cell_A0, vi_cell_A1, vi_cell_A2, vb_ite, vi_ite, updD, w1] at c6; grind)
              refine pop_wp ?_
              refine ret_wp ?_
              try dsimp only
              simp only [vd1, vd2, vd3, vd4, vd5, vd6, vd7, reduceCtorEq, Option.some.injEq, vn_rw, va_rw, isNone_f, isNone_t, vi_cell_I, vi_cell_E0, vi_cell_E1, vi_cell_A0, vi_cell_A1, vi_cell_A2, vb_ite, vi_ite, updD, w1]; rw [decide_eq_false (fun h => c6 (by have e := (w_nums h).2.2.2; simp only [w] at e; rw [hg, hg2]; simp only [e, and_self]))]
          · replace c5 : ¬(i < (s.g.l.length : Int)) := by first | simpa only [vd1, vd2, vd3, vd4, vd5, vd6, vd7, reduceCtorEq, Option.some.injEq, vn_rw, va_rw, isNone_f, isNone_t, vi_cell_I, vi_cell_E0, vi_cell_E1, vi_cell_A0, vi_cell_A1, vi_cell_A2, vb_ite, vi_ite, updD] using c5 | (simp only [vd1, vd2, vd3, vd4, vd5, vd6, vd7, reduceCtorEq, Option.some.injEq, vn_rw, va_rw, isNone_f, isNone_t, vi_cell_I, vi_cell_E0, vi_cell_E1, vi_cell_A0, vi_cell_A1, vi_cell_A2, vb_ite, vi_ite, updD] at c5; grind)
            refine pop_wp ?_
            refine ret_wp ?_
            try dsimp only
            simp only [vd1, vd2, vd3, vd4, vd5, vd6, vd7, reduceCtorEq, Option.some.injEq, vn_rw, va_rw, isNone_f, isNone_t, vi_cell_I, vi_cell_E0, vi_cell_E1, vi_cell_A0, vi_cell_A1, vi_cell_A2, vb_ite, vi_ite, updD]; have hi : i.toNat = s.g.l.length := (by omega); have h2 : i.toNat = t.g.l.length := (by omega); rw [hi, List.take_length, ← hi, h2, List.take_length] at ht; rw [decide_eq_true]; simp only [w, ht]; rw [Classical.not_not.1 c1, Classical.not_not.1 c2, Classical.not_not.1 c3]
end Go.Proofs.YtnpbhlojkjbabaaK
