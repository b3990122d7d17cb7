import Derived.Test.YtnpbhlojkjbabaaVR6w
set_option linter.unusedSimpArgs false
set_option linter.unusedVariables false
namespace Go.Proofs.YtnpbhlojkjbabaaK
open Go Go.Proofs.YtnpbhlojkjbabaaV Go.Proofs
def kLogged (sg : Sig) : Sig × Con := (sg, mkFun (fun x : Pol × Est => ([aI x.1.k, aI x.1.l, aI x.1.p, aI x.1.b, aI x.1.c, aB x.1.o, aI x.2.t, aI x.2.v, aI x.2.h, Rw.atom eE x.2.g] : List Atom)) (fun x => gok x.2 ∧ okW x.1 ∧ 0 ≤ x.2.h ∧ x.2.h ≤ x.1.l) (fun x => [aB (decide (logOk x.1 (w x.2)))]))
set_option maxHeartbeats 1000000 in
theorem h31 : holds Try.prog (kLogged sg31) := by
  refine fn_holds (l := [kSum sg29]) ⟨h29, trivial⟩ hP rs31 (inj_of (fun l : List Atom => (((⟨vi (l.getD 0 atom0).1, vi (l.getD 1 atom0).1, vi (l.getD 2 atom0).1, vi (l.getD 3 atom0).1, vi (l.getD 4 atom0).1, vb (l.getD 5 atom0).1⟩ : Pol), (⟨vi (l.getD 6 atom0).1, vi (l.getD 7 atom0).1, vi (l.getD 8 atom0).1, Rw.un unE (l.getD 9 atom0)⟩ : Est)) : Pol × Est)) (fun _ => by simp [List.getD_cons_zero, List.getD_cons_succ, unA_atom])) Try.func31 (by kernel_rfl) (c := code Try.f31) (by kernel_rfl) (an := an31) (by kernel_rfl) (pk := pk31) rfl (t := t31) (by kernel_rfl) ?_
  rintro ⟨p, s⟩ ⟨⟨hk, hlen⟩, hp, h0, h1⟩
  refine ⟨by simp [pk31, KindsOk, RK.ok, Rw.atom, Sl.atom], ?_⟩
  unfold t31
  simp only at hk hlen hp h0 h1
  refine need_wp (by first | exact ⟨_, _, _, rfl⟩ | (simp only [vd1, vd2, vd3, vd4, vd5, vd6, vd7, reduceCtorEq, Option.some.injEq, vn_rw, va_rw, isNone_f, isNone_t, vi_cell_I, vi_cell_E0, vi_cell_E1, vi_cell_A0, vi_cell_A1, vi_cell_A2, vb_ite, vi_ite, updD]; exact ⟨_, _, _, rfl⟩)) ?_
  refine loop_wp (fun bs0 => ∃ (was : Int) (i : Int), bs0 = [aI was, aI i] ∧ (0 ≤ i ∧ i ≤ s.g.l.length ∧ along p s.t s.g.l i.toNat was)) (fun bs0 => ((s.g.l.length : Int) - vi (bs0.getD 1 atom0).1).toNat) ?_ ?_
  · refine ⟨0, 0, by simp only [vd1, vd2, vd3, vd4, vd5, vd6, vd7, reduceCtorEq, Option.some.injEq, vn_rw, va_rw, isNone_f, isNone_t, vi_cell_I, vi_cell_E0, vi_cell_E1, vi_cell_A0, vi_cell_A1, vi_cell_A2, vb_ite, vi_ite, updD, Rw.atom, Rw.nil, List.length_nil, List.map_nil], ?_⟩
    exact ⟨by omega, by omega, along0 _ _ _⟩
  rintro _ _ ⟨was, i, rfl, ⟨i0, i1, hA⟩⟩
  refine br_wp (fun c1 => ?_) (fun c1 => ?_)
  · replace c1 : i < (s.g.l.length : Int) := by first | simpa only [vd1, vd2, vd3, vd4, vd5, vd6, vd7, reduceCtorEq, Option.some.injEq, vn_rw, va_rw, isNone_f, isNone_t, vi_cell_I, vi_cell_E0, vi_cell_E1, vi_cell_A0, vi_cell_A1, vi_cell_A2, vb_ite, vi_ite, updD] using c1 | (simp only [vd1, vd2, vd3, vd4, vd5, vd6, vd7, reduceCtorEq, Option.some.injEq, vn_rw, va_rw, isNone_f, isNone_t, vi_cell_I, vi_cell_E0, vi_cell_E1, vi_cell_A0, vi_cell_A1, vi_cell_A2, vb_ite, vi_ite, updD] at c1; grind)
    obtain ⟨hl, hg⟩ := hget i0 c1
    have hw0 : 0 ≤ was := hA.2.2.1
    have w1 : IntKind.i64.wrap (i + 1) = i + 1 := wrap_id _ (by omega) (by omega)
    refine need_wp (by first | exact ⟨_, _, _, rfl⟩ | (simp only [vd1, vd2, vd3, vd4, vd5, vd6, vd7, reduceCtorEq, Option.some.injEq, vn_rw, va_rw, isNone_f, isNone_t, vi_cell_I, vi_cell_E0, vi_cell_E1, vi_cell_A0, vi_cell_A1, vi_cell_A2, vb_ite, vi_ite, updD, w1]; exact ⟨_, _, _, rfl⟩)) ?_
    refine need_wp (by first | exact rw_row _ _ | (simp only [vd1, vd2, vd3, vd4, vd5, vd6, vd7, reduceCtorEq, Option.some.injEq, vn_rw, va_rw, isNone_f, isNone_t, vi_cell_I, vi_cell_E0, vi_cell_E1, vi_cell_A0, vi_cell_A1, vi_cell_A2, vb_ite, vi_ite, updD, w1]; exact ⟨_, _, rfl⟩)) ?_
    refine need_wp (by simp only [vd1, vd2, vd3, vd4, vd5, vd6, vd7, reduceCtorEq, Option.some.injEq, vn_rw, va_rw, isNone_f, isNone_t, vi_cell_I, vi_cell_E0, vi_cell_E1, vi_cell_A0, vi_cell_A1, vi_cell_A2, vb_ite, vi_ite, updD, w1, List.length_cons, List.length_nil, List.length_append, List.length_set]; first | omega | (grind)) ?_
    refine need_wp (by first | exact ⟨_, _, _, rfl⟩ | (simp only [vd1, vd2, vd3, vd4, vd5, vd6, vd7, reduceCtorEq, Option.some.injEq, vn_rw, va_rw, isNone_f, isNone_t, vi_cell_I, vi_cell_E0, vi_cell_E1, vi_cell_A0, vi_cell_A1, vi_cell_A2, vb_ite, vi_ite, updD, w1]; exact ⟨_, _, _, rfl⟩)) ?_
    refine need_wp (by first | exact rw_row _ _ | (simp only [vd1, vd2, vd3, vd4, vd5, vd6, vd7, reduceCtorEq, Option.some.injEq, vn_rw, va_rw, isNone_f, isNone_t, vi_cell_I, vi_cell_E0, vi_cell_E1, vi_cell_A0, vi_cell_A1, vi_cell_A2, vb_ite, vi_ite, updD, w1]; exact ⟨_, _, rfl⟩)) ?_
    refine need_wp (by first | exact rw_sz' rfl | exact rw_szn (by assumption) (.inr (by omega)) | (simp only [vd1, vd2, vd3, vd4, vd5, vd6, vd7, reduceCtorEq, Option.some.injEq, vn_rw, va_rw, isNone_f, isNone_t, vi_cell_I, vi_cell_E0, vi_cell_E1, vi_cell_A0, vi_cell_A1, vi_cell_A2, vb_ite, vi_ite, updD, w1]; exact rw_szn (by assumption) (.inr (by omega))) | exact rw_szn (by simp [Rw.ok]) (.inr (by omega))) ?_
    refine need_wp (by simp only [vd1, vd2, vd3, vd4, vd5, vd6, vd7, reduceCtorEq, Option.some.injEq, vn_rw, va_rw, isNone_f, isNone_t, vi_cell_I, vi_cell_E0, vi_cell_E1, vi_cell_A0, vi_cell_A1, vi_cell_A2, vb_ite, vi_ite, updD, w1]; exact kind_Re0 (by omega) (by omega)) ?_
    refine need_wp (by simp only [vd1, vd2, vd3, vd4, vd5, vd6, vd7, reduceCtorEq, Option.some.injEq, vn_rw, va_rw, isNone_f, isNone_t, vi_cell_I, vi_cell_E0, vi_cell_E1, vi_cell_A0, vi_cell_A1, vi_cell_A2, vb_ite, vi_ite, updD, w1]; exact kind_Re1 (by omega) (by omega)) ?_
    refine br_wp (fun c2 => ?_) (fun c2 => ?_)
    · replace c2 : (s.g.get i).1 < was := by first | simpa only [vd1, vd2, vd3, vd4, vd5, vd6, vd7, reduceCtorEq, Option.some.injEq, vn_rw, va_rw, isNone_f, isNone_t, vi_cell_I, vi_cell_E0, vi_cell_E1, vi_cell_A0, vi_cell_A1, vi_cell_A2, vb_ite, vi_ite, updD, w1] using c2 | (simp only [vd1, vd2, vd3, vd4, vd5, vd6, vd7, reduceCtorEq, Option.some.injEq, vn_rw, va_rw, isNone_f, isNone_t, vi_cell_I, vi_cell_E0, vi_cell_E1, vi_cell_A0, vi_cell_A1, vi_cell_A2, vb_ite, vi_ite, updD, w1] at c2; grind)
      refine pop_wp ?_
      refine ret_wp ?_
      try dsimp only
      exact log_no (along_bad hA hl (by rw [← hg]; first | exact .inl (by omega) | (right; unfold elOk; omega)))
    · replace c2 : ¬((s.g.get i).1 < was) := by first | simpa only [vd1, vd2, vd3, vd4, vd5, vd6, vd7, reduceCtorEq, Option.some.injEq, vn_rw, va_rw, isNone_f, isNone_t, vi_cell_I, vi_cell_E0, vi_cell_E1, vi_cell_A0, vi_cell_A1, vi_cell_A2, vb_ite, vi_ite, updD, w1] using c2 | (simp only [vd1, vd2, vd3, vd4, vd5, vd6, vd7, reduceCtorEq, Option.some.injEq, vn_rw, va_rw, isNone_f, isNone_t, vi_cell_I, vi_cell_E0, vi_cell_E1, vi_cell_A0, vi_cell_A1, vi_cell_A2, vb_ite, vi_ite, updD, w1] at c2; grind)
      refine br_wp (fun c3 => ?_) (fun c3 => ?_)
      · replace c3 : (s.g.get i).1 > s.t := by first | simpa only [vd1, vd2, vd3, vd4, vd5, vd6, vd7, reduceCtorEq, Option.some.injEq, vn_rw, va_rw, isNone_f, isNone_t, vi_cell_I, vi_cell_E0, vi_cell_E1, vi_cell_A0, vi_cell_A1, vi_cell_A2, vb_ite, vi_ite, updD, w1] using c3 | (simp only [vd1, vd2, vd3, vd4, vd5, vd6, vd7, reduceCtorEq, Option.some.injEq, vn_rw, va_rw, isNone_f, isNone_t, vi_cell_I, vi_cell_E0, vi_cell_E1, vi_cell_A0, vi_cell_A1, vi_cell_A2, vb_ite, vi_ite, updD, w1] at c3; grind)
        refine pop_wp ?_
        refine ret_wp ?_
        try dsimp only
        exact log_no (along_bad hA hl (by rw [← hg]; first | exact .inl (by omega) | (right; unfold elOk; omega)))
      · replace c3 : ¬((s.g.get i).1 > s.t) := by first | simpa only [vd1, vd2, vd3, vd4, vd5, vd6, vd7, reduceCtorEq, Option.some.injEq, vn_rw, va_rw, isNone_f, isNone_t, vi_cell_I, vi_cell_E0, vi_cell_E1, vi_cell_A0, vi_cell_A1, vi_cell_A2, vb_ite, vi_ite, updD, w1] using c3 | (simp only [vd1, vd2, vd3, vd4, vd5, vd6, vd7, reduceCtorEq, Option.some.injEq, vn_rw, va_rw, isNone_f, isNone_t, vi_cell_I, vi_cell_E0, vi_cell_E1, vi_cell_A0, vi_cell_A1, vi_cell_A2, vb_ite, vi_ite, updD, w1] at c3; grind)
        refine br_wp (fun c4 => ?_) (fun c4 => ?_)
        · replace c4 : (s.g.get i).2 < 1 := by first | simpa only [vd1, vd2, vd3, vd4, vd5, vd6, vd7, reduceCtorEq, Option.some.injEq, vn_rw, va_rw, isNone_f, isNone_t, vi_cell_I, vi_cell_E0, vi_cell_E1, vi_cell_A0, vi_cell_A1, vi_cell_A2, vb_ite, vi_ite, updD, w1] using c4 | (simp only [vd1, vd2, vd3, vd4, vd5, vd6, vd7, reduceCtorEq, Option.some.injEq, vn_rw, va_rw, isNone_f, isNone_t, vi_cell_I, vi_cell_E0, vi_cell_E1, vi_cell_A0, vi_cell_A1, vi_cell_A2, vb_ite, vi_ite, updD, w1] at c4; grind)
          refine pop_wp ?_
          refine ret_wp ?_
          try dsimp only
          exact log_no (along_bad hA hl (by rw [← hg]; first | exact .inl (by omega) | (right; unfold elOk; omega)))
        · replace c4 : ¬((s.g.get i).2 < 1) := by first | simpa only [vd1, vd2, vd3, vd4, vd5, vd6, vd7, reduceCtorEq, Option.some.injEq, vn_rw, va_rw, isNone_f, isNone_t, vi_cell_I, vi_cell_E0, vi_cell_E1, vi_cell_A0, vi_cell_A1, vi_cell_A2, vb_ite, vi_ite, updD, w1] using c4 | (simp only [vd1, vd2, vd3, vd4, vd5, vd6, vd7, reduceCtorEq, Option.some.injEq, vn_rw, va_rw, isNone_f, isNone_t, vi_cell_I, vi_cell_E0, vi_cell_E1, vi_cell_A0, vi_cell_A1, vi_cell_A2, vb_ite, vi_ite, updD, w1] at c4; grind)
          refine br_wp (fun c5 => ?_) (fun c5 => ?_)
          · replace c5 : (s.g.get i).2 > p.l := by first | simpa only [vd1, vd2, vd3, vd4, vd5, vd6, vd7, reduceCtorEq, Option.some.injEq, vn_rw, va_rw, isNone_f, isNone_t, vi_cell_I, vi_cell_E0, vi_cell_E1, vi_cell_A0, vi_cell_A1, vi_cell_A2, vb_ite, vi_ite, updD, w1] using c5 | (simp only [vd1, vd2, vd3, vd4, vd5, vd6, vd7, reduceCtorEq, Option.some.injEq, vn_rw, va_rw, isNone_f, isNone_t, vi_cell_I, vi_cell_E0, vi_cell_E1, vi_cell_A0, vi_cell_A1, vi_cell_A2, vb_ite, vi_ite, updD, w1] at c5; grind)
            refine pop_wp ?_
            refine ret_wp ?_
            try dsimp only
            exact log_no (along_bad hA hl (by rw [← hg]; first | exact .inl (by omega) | (right; unfold elOk; omega)))
          · replace c5 : ¬((s.g.get i).2 > p.l) := by first | simpa only [vd1, vd2, vd3, vd4, vd5, vd6, vd7, reduceCtorEq, Option.some.injEq, vn_rw, va_rw, isNone_f, isNone_t, vi_cell_I, vi_cell_E0, vi_cell_E1, vi_cell_A0, vi_cell_A1, vi_cell_A2, vb_ite, vi_ite, updD, w1] using c5 | (simp only [vd1, vd2, vd3, vd4, vd5, vd6, vd7, reduceCtorEq, Option.some.injEq, vn_rw, va_rw, isNone_f, isNone_t, vi_cell_I, vi_cell_E0, vi_cell_E1, vi_cell_A0, vi_cell_A1, vi_cell_A2, vb_ite, vi_ite, updD, w1] at c5; grind)
            refine again_wp rfl ⟨(s.g.get i).1, (i + 1), by simp only [vd1, vd2, vd3, vd4, vd5, vd6, vd7, reduceCtorEq, Option.some.injEq, vn_rw, va_rw, isNone_f, isNone_t, vi_cell_I, vi_cell_E0, vi_cell_E1, vi_cell_A0, vi_cell_A1, vi_cell_A2, vb_ite, vi_ite, updD, w1], ?_⟩ ?_
            · refine ⟨by omega, by omega, ?_⟩; rw [show (i + 1).toNat = i.toNat + 1 by omega]; rw [hg]; exact along_step hA hl (by rw [← hg]; unfold elOk; omega) (by rw [← hg]; omega)
            · (try simp only [vd1, vd2, vd3, vd4, vd5, vd6, vd7, reduceCtorEq, Option.some.injEq, vn_rw, va_rw, isNone_f, isNone_t, vi_cell_I, vi_cell_E0, vi_cell_E1, vi_cell_A0, vi_cell_A1, vi_cell_A2, vb_ite, vi_ite, updD, w1]); omega
  · replace c1 : ¬(i < (s.g.l.length : Int)) := by first | simpa only [vd1, vd2, vd3, vd4, vd5, vd6, vd7, reduceCtorEq, Option.some.injEq, vn_rw, va_rw, isNone_f, isNone_t, vi_cell_I, vi_cell_E0, vi_cell_E1, vi_cell_A0, vi_cell_A1, vi_cell_A2, vb_ite, vi_ite, updD] using c1 | (simp only [vd1, vd2, vd3, vd4, vd5, vd6, vd7, reduceCtorEq, Option.some.injEq, vn_rw, va_rw, isNone_f, isNone_t, vi_cell_I, vi_cell_E0, vi_cell_E1, vi_cell_A0, vi_cell_A1, vi_cell_A2, vb_ite, vi_ite, updD] at c1; grind)
    refine pop_wp ?_
    refine need_wp (by first | exact ⟨_, _, _, rfl⟩ | (simp only [vd1, vd2, vd3, vd4, vd5, vd6, vd7, reduceCtorEq, Option.some.injEq, vn_rw, va_rw, isNone_f, isNone_t, vi_cell_I, vi_cell_E0, vi_cell_E1, vi_cell_A0, vi_cell_A1, vi_cell_A2, vb_ite, vi_ite, updD]; exact ⟨_, _, _, rfl⟩)) ?_
    refine br_wp (fun c6 => ?_) (fun c6 => ?_)
    · replace c6 : (s.g.l.length : Int) ≤ p.c := by first | simpa only [vd1, vd2, vd3, vd4, vd5, vd6, vd7, reduceCtorEq, Option.some.injEq, vn_rw, va_rw, isNone_f, isNone_t, vi_cell_I, vi_cell_E0, vi_cell_E1, vi_cell_A0, vi_cell_A1, vi_cell_A2, vb_ite, vi_ite, updD] using c6 | (simp only [vd1, vd2, vd3, vd4, vd5, vd6, vd7, reduceCtorEq, Option.some.injEq, vn_rw, va_rw, isNone_f, isNone_t, vi_cell_I, vi_cell_E0, vi_cell_E1, vi_cell_A0, vi_cell_A1, vi_cell_A2, vb_ite, vi_ite, updD] at c6; grind)
      refine call_fun (s.g) rfl (by simp only [vd1, vd2, vd3, vd4, vd5, vd6, vd7, reduceCtorEq, Option.some.injEq, vn_rw, va_rw, isNone_f, isNone_t, vi_cell_I, vi_cell_E0, vi_cell_E1, vi_cell_A0, vi_cell_A1, vi_cell_A2, vb_ite, vi_ite, updD]) (⟨hk, hlen⟩) ?_
      refine ret_wp ?_
      try dsimp only
      exact log_yes hp h0 h1 (along_end hA (by omega)) c6
    · replace c6 : ¬((s.g.l.length : Int) ≤ p.c) := by first | simpa only [vd1, vd2, vd3, vd4, vd5, vd6, vd7, reduceCtorEq, Option.some.injEq, vn_rw, va_rw, isNone_f, isNone_t, vi_cell_I, vi_cell_E0, vi_cell_E1, vi_cell_A0, vi_cell_A1, vi_cell_A2, vb_ite, vi_ite, updD] using c6 | (simp only [vd1, vd2, vd3, vd4, vd5, vd6, vd7, reduceCtorEq, Option.some.injEq, vn_rw, va_rw, isNone_f, isNone_t, vi_cell_I, vi_cell_E0, vi_cell_E1, vi_cell_A0, vi_cell_A1, vi_cell_A2, vb_ite, vi_ite, updD] at c6; grind)
      refine ret_wp ?_
      try dsimp only
      exact log_len c6
def kRight (sg : Sig) : Sig × Con := (sg, mkFun (fun x : Pol × Est => ([aI x.1.k, aI x.1.l, aI x.1.p, aI x.1.b, aI x.1.c, aB x.1.o, aI x.2.t, aI x.2.v, aI x.2.h, Rw.atom eE x.2.g] : List Atom)) (fun x => gok x.2) (fun x => [aB (decide (rightW x.1 (w x.2)))]))
set_option maxHeartbeats 1000000 in
theorem h17 : holds Try.prog (kRight sg17) := by
  refine fn_holds (l := [kCheck sg23, kClamp sg27, kLogged sg31]) ⟨h23, h27, h31, trivial⟩ hP rs17 (inj_of (fun l : List Atom => (((⟨vi (l.getD 0 atom0).1, vi (l.getD 1 atom0).1, vi (l.getD 2 atom0).1, vi (l.getD 3 atom0).1, vi (l.getD 4 atom0).1, vb (l.getD 5 atom0).1⟩ : Pol), (⟨vi (l.getD 6 atom0).1, vi (l.getD 7 atom0).1, vi (l.getD 8 atom0).1, Rw.un unE (l.getD 9 atom0)⟩ : Est)) : Pol × Est)) (fun _ => by simp [List.getD_cons_zero, List.getD_cons_succ, unA_atom])) Try.func17 (by kernel_rfl) (c := code Try.f17) (by kernel_rfl) (an := an17) (by kernel_rfl) (pk := pk17) rfl (t := t17) (by kernel_rfl) ?_
  rintro ⟨p, s⟩ hg
  refine ⟨by simp [pk17, KindsOk, RK.ok, Rw.atom, Sl.atom], ?_⟩
  unfold t17
  simp only at hg
  refine call_fun (p) rfl (by simp only [vd1, vd2, vd3, vd4, vd5, vd6, vd7, reduceCtorEq, Option.some.injEq, vn_rw, va_rw, isNone_f, isNone_t, vi_cell_I, vi_cell_E0, vi_cell_E1, vi_cell_A0, vi_cell_A1, vi_cell_A2, vb_ite, vi_ite, updD]) trivial ?_
  refine br_wp (fun c1 => ?_) (fun c1 => ?_)
  · replace c1 : (chkW p) = 0 := by first | simpa only [vd1, vd2, vd3, vd4, vd5, vd6, vd7, reduceCtorEq, Option.some.injEq, vn_rw, va_rw, isNone_f, isNone_t, vi_cell_I, vi_cell_E0, vi_cell_E1, vi_cell_A0, vi_cell_A1, vi_cell_A2, vb_ite, vi_ite, updD] using c1 | (simp only [vd1, vd2, vd3, vd4, vd5, vd6, vd7, reduceCtorEq, Option.some.injEq, vn_rw, va_rw, isNone_f, isNone_t, vi_cell_I, vi_cell_E0, vi_cell_E1, vi_cell_A0, vi_cell_A1, vi_cell_A2, vb_ite, vi_ite, updD] at c1; grind)
    have ok : okW p := (chk_iff p).1 c1
    refine call_fun (s.t) rfl (by simp only [vd1, vd2, vd3, vd4, vd5, vd6, vd7, reduceCtorEq, Option.some.injEq, vn_rw, va_rw, isNone_f, isNone_t, vi_cell_I, vi_cell_E0, vi_cell_E1, vi_cell_A0, vi_cell_A1, vi_cell_A2, vb_ite, vi_ite, updD]) trivial ?_
    refine br_wp (fun c2 => ?_) (fun c2 => ?_)
    · replace c2 : (clamp s.t) = s.t := by first | simpa only [vd1, vd2, vd3, vd4, vd5, vd6, vd7, reduceCtorEq, Option.some.injEq, vn_rw, va_rw, isNone_f, isNone_t, vi_cell_I, vi_cell_E0, vi_cell_E1, vi_cell_A0, vi_cell_A1, vi_cell_A2, vb_ite, vi_ite, updD] using c2 | (simp only [vd1, vd2, vd3, vd4, vd5, vd6, vd7, reduceCtorEq, Option.some.injEq, vn_rw, va_rw, isNone_f, isNone_t, vi_cell_I, vi_cell_E0, vi_cell_E1, vi_cell_A0, vi_cell_A1, vi_cell_A2, vb_ite, vi_ite, updD] at c2; grind)
      refine br_wp (fun c3 => ?_) (fun c3 => ?_)
      · replace c3 : s.h ≥ 0 := by first | simpa only [vd1, vd2, vd3, vd4, vd5, vd6, vd7, reduceCtorEq, Option.some.injEq, vn_rw, va_rw, isNone_f, isNone_t, vi_cell_I, vi_cell_E0, vi_cell_E1, vi_cell_A0, vi_cell_A1, vi_cell_A2, vb_ite, vi_ite, updD] using c3 | (simp only [vd1, vd2, vd3, vd4, vd5, vd6, vd7, reduceCtorEq, Option.some.injEq, vn_rw, va_rw, isNone_f, isNone_t, vi_cell_I, vi_cell_E0, vi_cell_E1, vi_cell_A0, vi_cell_A1, vi_cell_A2, vb_ite, vi_ite, updD] at c3; grind)
        refine br_wp (fun c4 => ?_) (fun c4 => ?_)
        · replace c4 : s.h ≤ p.l := by first | simpa only [vd1, vd2, vd3, vd4, vd5, vd6, vd7, reduceCtorEq, Option.some.injEq, vn_rw, va_rw, isNone_f, isNone_t, vi_cell_I, vi_cell_E0, vi_cell_E1, vi_cell_A0, vi_cell_A1, vi_cell_A2, vb_ite, vi_ite, updD] using c4 | (simp only [vd1, vd2, vd3, vd4, vd5, vd6, vd7, reduceCtorEq, Option.some.injEq, vn_rw, va_rw, isNone_f, isNone_t, vi_cell_I, vi_cell_E0, vi_cell_E1, vi_cell_A0, vi_cell_A1, vi_cell_A2, vb_ite, vi_ite, updD] at c4; grind)
          refine br_wp (fun c5 => ?_) (fun c5 => ?_)
          · replace c5 : s.v = 0 := by first | simpa only [vd1, vd2, vd3, vd4, vd5, vd6, vd7, reduceCtorEq, Option.some.injEq, vn_rw, va_rw, isNone_f, isNone_t, vi_cell_I, vi_cell_E0, vi_cell_E1, vi_cell_A0, vi_cell_A1, vi_cell_A2, vb_ite, vi_ite, updD] using c5 | (simp only [vd1, vd2, vd3, vd4, vd5, vd6, vd7, reduceCtorEq, Option.some.injEq, vn_rw, va_rw, isNone_f, isNone_t, vi_cell_I, vi_cell_E0, vi_cell_E1, vi_cell_A0, vi_cell_A1, vi_cell_A2, vb_ite, vi_ite, updD] at c5; grind)
            refine call_fun ((p, s)) rfl (by simp only [vd1, vd2, vd3, vd4, vd5, vd6, vd7, reduceCtorEq, Option.some.injEq, vn_rw, va_rw, isNone_f, isNone_t, vi_cell_I, vi_cell_E0, vi_cell_E1, vi_cell_A0, vi_cell_A1, vi_cell_A2, vb_ite, vi_ite, updD]) (⟨hg, ok, by simp only; omega, by simp only; omega⟩) ?_
            refine ret_wp ?_
            try dsimp only
            exact right_log ok (by omega) (by omega) (by omega) (by omega)
          · replace c5 : ¬(s.v = 0) := by first | simpa only [vd1, vd2, vd3, vd4, vd5, vd6, vd7, reduceCtorEq, Option.some.injEq, vn_rw, va_rw, isNone_f, isNone_t, vi_cell_I, vi_cell_E0, vi_cell_E1, vi_cell_A0, vi_cell_A1, vi_cell_A2, vb_ite, vi_ite, updD] using c5 | (simp only [vd1, vd2, vd3, vd4, vd5, vd6, vd7, reduceCtorEq, Option.some.injEq, vn_rw, va_rw, isNone_f, isNone_t, vi_cell_I, vi_cell_E0, vi_cell_E1, vi_cell_A0, vi_cell_A1, vi_cell_A2, vb_ite, vi_ite, updD] at c5; grind)
            refine ret_wp ?_
            try dsimp only
            exact right_no (fun h => by have hn := right_nums h; have hc := chk_yes h.1; first | omega | (have := clamp_id hn.2.1 hn.2.2.1; omega))
        · replace c4 : ¬(s.h ≤ p.l) := by first | simpa only [vd1, vd2, vd3, vd4, vd5, vd6, vd7, reduceCtorEq, Option.some.injEq, vn_rw, va_rw, isNone_f, isNone_t, vi_cell_I, vi_cell_E0, vi_cell_E1, vi_cell_A0, vi_cell_A1, vi_cell_A2, vb_ite, vi_ite, updD] using c4 | (simp only [vd1, vd2, vd3, vd4, vd5, vd6, vd7, reduceCtorEq, Option.some.injEq, vn_rw, va_rw, isNone_f, isNone_t, vi_cell_I, vi_cell_E0, vi_cell_E1, vi_cell_A0, vi_cell_A1, vi_cell_A2, vb_ite, vi_ite, updD] at c4; grind)
          refine ret_wp ?_
          try dsimp only
          exact right_no (fun h => by have hn := right_nums h; have hc := chk_yes h.1; first | omega | (have := clamp_id hn.2.1 hn.2.2.1; omega))
      · replace c3 : ¬(s.h ≥ 0) := by first | simpa only [vd1, vd2, vd3, vd4, vd5, vd6, vd7, reduceCtorEq, Option.some.injEq, vn_rw, va_rw, isNone_f, isNone_t, vi_cell_I, vi_cell_E0, vi_cell_E1, vi_cell_A0, vi_cell_A1, vi_cell_A2, vb_ite, vi_ite, updD] using c3 | (simp only [vd1, vd2, vd3, vd4, vd5, vd6, vd7, reduceCtorEq, Option.some.injEq, vn_rw, va_rw, isNone_f, isNone_t, vi_cell_I, vi_cell_E0, vi_cell_E1, vi_cell_A0, vi_cell_A1, vi_cell_A2, vb_ite, vi_ite, updD] at c3; grind)
        refine ret_wp ?_
        try dsimp only
        exact right_no (fun h => by have hn := right_nums h; have hc := chk_yes h.1; first | omega | (have := clamp_id hn.2.1 hn.2.2.1; omega))
    · replace c2 : ¬((clamp s.t) = s.t) := by first | simpa only [vd1, vd2, vd3, vd4, vd5, vd6, vd7, reduceCtorEq, Option.some.injEq, vn_rw, va_rw, isNone_f, isNone_t, vi_cell_I, vi_cell_E0, vi_cell_E1, vi_cell_A0, vi_cell_A1, vi_cell_A2, vb_ite, vi_ite, updD] using c2 | (simp only [vd1, vd2, vd3, vd4, vd5, vd6, vd7, reduceCtorEq, Option.some.injEq, vn_rw, va_rw, isNone_f, isNone_t, vi_cell_I, vi_cell_E0, vi_cell_E1, vi_cell_A0, vi_cell_A1, vi_cell_A2, vb_ite, vi_ite, updD] at c2; grind)
      refine ret_wp ?_
      try dsimp only
      exact right_no (fun h => by have hn := right_nums h; have hc := chk_yes h.1; first | omega | (have := clamp_id hn.2.1 hn.2.2.1; omega))
  · replace c1 : ¬((chkW p) = 0) := by first | simpa only [vd1, vd2, vd3, vd4, vd5, vd6, vd7, reduceCtorEq, Option.some.injEq, vn_rw, va_rw, isNone_f, isNone_t, vi_cell_I, vi_cell_E0, vi_cell_E1, vi_cell_A0, vi_cell_A1, vi_cell_A2, vb_ite, vi_ite, updD] using c1 | (simp only [vd1, vd2, vd3, vd4, vd5, vd6, vd7, reduceCtorEq, Option.some.injEq, vn_rw, va_rw, isNone_f, isNone_t, vi_cell_I, vi_cell_E0, vi_cell_E1, vi_cell_A0, vi_cell_A1, vi_cell_A2, vb_ite, vi_ite, updD] at c1; grind)
    refine ret_wp ?_
    try dsimp only
    exact right_no (fun h => by have hn := right_nums h; have hc := chk_yes h.1; first | omega | (have := clamp_id hn.2.1 hn.2.2.1; omega))
set_option maxHeartbeats 1000000 in
theorem h35 : holds Try.prog (kRight sg35) := by
  refine fn_holds (l := [kCheck sg22]) ⟨h22, trivial⟩ hP rs35 (inj_of (fun l : List Atom => (((⟨vi (l.getD 0 atom0).1, vi (l.getD 1 atom0).1, vi (l.getD 2 atom0).1, vi (l.getD 3 atom0).1, vi (l.getD 4 atom0).1, vb (l.getD 5 atom0).1⟩ : Pol), (⟨vi (l.getD 6 atom0).1, vi (l.getD 7 atom0).1, vi (l.getD 8 atom0).1, Rw.un unE (l.getD 9 atom0)⟩ : Est)) : Pol × Est)) (fun _ => by simp [List.getD_cons_zero, List.getD_cons_succ, unA_atom])) Try.func35 (by kernel_rfl) (c := code Try.f35) (by kernel_rfl) (an := an35) (by kernel_rfl) (pk := pk35) rfl (t := t35) (by kernel_rfl) ?_
  rintro ⟨p, s⟩ hg0
  refine ⟨by simp [pk35, KindsOk, RK.ok, Rw.atom, Sl.atom], ?_⟩
  unfold t35
  obtain ⟨hk, hlen⟩ := hg0
  simp only at hk hlen
  refine call_fun (p) rfl (by simp only [vd1, vd2, vd3, vd4, vd5, vd6, vd7, reduceCtorEq, Option.some.injEq, vn_rw, va_rw, isNone_f, isNone_t, vi_cell_I, vi_cell_E0, vi_cell_E1, vi_cell_A0, vi_cell_A1, vi_cell_A2, vb_ite, vi_ite, updD]) trivial ?_
  refine br_wp (fun c1 => ?_) (fun c1 => ?_)
  · replace c1 : (chkW p) ≠ 0 := by first | simpa only [vd1, vd2, vd3, vd4, vd5, vd6, vd7, reduceCtorEq, Option.some.injEq, vn_rw, va_rw, isNone_f, isNone_t, vi_cell_I, vi_cell_E0, vi_cell_E1, vi_cell_A0, vi_cell_A1, vi_cell_A2, vb_ite, vi_ite, updD] using c1 | (simp only [vd1, vd2, vd3, vd4, vd5, vd6, vd7, reduceCtorEq, Option.some.injEq, vn_rw, va_rw, isNone_f, isNone_t, vi_cell_I, vi_cell_E0, vi_cell_E1, vi_cell_A0, vi_cell_A1, vi_cell_A2, vb_ite, vi_ite, updD] at c1; grind)
    refine ret_wp ?_
    try dsimp only
    exact right_no (fun h => by have hn := right_nums h; have hc := chk_yes h.1; first | omega | (have := clamp_id hn.2.1 hn.2.2.1; omega))
  · replace c1 : ¬((chkW p) ≠ 0) := by first | simpa only [vd1, vd2, vd3, vd4, vd5, vd6, vd7, reduceCtorEq, Option.some.injEq, vn_rw, va_rw, isNone_f, isNone_t, vi_cell_I, vi_cell_E0, vi_cell_E1, vi_cell_A0, vi_cell_A1, vi_cell_A2, vb_ite, vi_ite, updD] using c1 | (simp only [vd1, vd2, vd3, vd4, vd5, vd6, vd7, reduceCtorEq, Option.some.injEq, vn_rw, va_rw, isNone_f, isNone_t, vi_cell_I, vi_cell_E0, vi_cell_E1, vi_cell_A0, vi_cell_A1, vi_cell_A2, vb_ite, vi_ite, updD] at c1; grind)
    have ok : okW p := (chk_iff p).1 (by omega)
    have on := ok_nums ok
    refine br_wp (fun c2 => ?_) (fun c2 => ?_)
    · replace c2 : s.t < 0 := by first | simpa only [vd1, vd2, vd3, vd4, vd5, vd6, vd7, reduceCtorEq, Option.some.injEq, vn_rw, va_rw, isNone_f, isNone_t, vi_cell_I, vi_cell_E0, vi_cell_E1, vi_cell_A0, vi_cell_A1, vi_cell_A2, vb_ite, vi_ite, updD] using c2 | (simp only [vd1, vd2, vd3, vd4, vd5, vd6, vd7, reduceCtorEq, Option.some.injEq, vn_rw, va_rw, isNone_f, isNone_t, vi_cell_I, vi_cell_E0, vi_cell_E1, vi_cell_A0, vi_cell_A1, vi_cell_A2, vb_ite, vi_ite, updD] at c2; grind)
      refine ret_wp ?_
      try dsimp only
      exact right_no (fun h => by have hn := right_nums h; have hc := chk_yes h.1; first | omega | (have := clamp_id hn.2.1 hn.2.2.1; omega))
    · replace c2 : ¬(s.t < 0) := by first | simpa only [vd1, vd2, vd3, vd4, vd5, vd6, vd7, reduceCtorEq, Option.some.injEq, vn_rw, va_rw, isNone_f, isNone_t, vi_cell_I, vi_cell_E0, vi_cell_E1, vi_cell_A0, vi_cell_A1, vi_cell_A2, vb_ite, vi_ite, updD] using c2 | (simp only [vd1, vd2, vd3, vd4, vd5, vd6, vd7, reduceCtorEq, Option.some.injEq, vn_rw, va_rw, isNone_f, isNone_t, vi_cell_I, vi_cell_E0, vi_cell_E1, vi_cell_A0, vi_cell_A1, vi_cell_A2, vb_ite, vi_ite, updD] at c2; grind)
      refine br_wp (fun c3 => ?_) (fun c3 => ?_)
      · replace c3 : s.t > 9007199254740992 := by first | simpa only [vd1, vd2, vd3, vd4, vd5, vd6, vd7, reduceCtorEq, Option.some.injEq, vn_rw, va_rw, isNone_f, isNone_t, vi_cell_I, vi_cell_E0, vi_cell_E1, vi_cell_A0, vi_cell_A1, vi_cell_A2, vb_ite, vi_ite, updD] using c3 | (simp only [vd1, vd2, vd3, vd4, vd5, vd6, vd7, reduceCtorEq, Option.some.injEq, vn_rw, va_rw, isNone_f, isNone_t, vi_cell_I, vi_cell_E0, vi_cell_E1, vi_cell_A0, vi_cell_A1, vi_cell_A2, vb_ite, vi_ite, updD] at c3; grind)
        refine ret_wp ?_
        try dsimp only
        exact right_no (fun h => by have hn := right_nums h; have hc := chk_yes h.1; first | omega | (have := clamp_id hn.2.1 hn.2.2.1; omega))
      · replace c3 : ¬(s.t > 9007199254740992) := by first | simpa only [vd1, vd2, vd3, vd4, vd5, vd6, vd7, reduceCtorEq, Option.some.injEq, vn_rw, va_rw, isNone_f, isNone_t, vi_cell_I, vi_cell_E0, vi_cell_E1, vi_cell_A0, vi_cell_A1, vi_cell_A2, vb_ite, vi_ite, updD] using c3 | (simp only [vd1, vd2, vd3, vd4, vd5, vd6, vd7, reduceCtorEq, Option.some.injEq, vn_rw, va_rw, isNone_f, isNone_t, vi_cell_I, vi_cell_E0, vi_cell_E1, vi_cell_A0, vi_cell_A1, vi_cell_A2, vb_ite, vi_ite, updD] at c3; grind)
        refine br_wp (fun c4 => ?_) (fun c4 => ?_)
        · replace c4 : s.h < 0 := by first | simpa only [vd1, vd2, vd3, vd4, vd5, vd6, vd7, reduceCtorEq, Option.some.injEq, vn_rw, va_rw, isNone_f, isNone_t, vi_cell_I, vi_cell_E0, vi_cell_E1, vi_cell_A0, vi_cell_A1, vi_cell_A2, vb_ite, vi_ite, updD] using c4 | (simp only [vd1, vd2, vd3, vd4, vd5, vd6, vd7, reduceCtorEq, Option.some.injEq, vn_rw, va_rw, isNone_f, isNone_t, vi_cell_I, vi_cell_E0, vi_cell_E1, vi_cell_A0, vi_cell_A1, vi_cell_A2, vb_ite, vi_ite, updD] at c4; grind)
          refine ret_wp ?_
          try dsimp only
          exact right_no (fun h => by have hn := right_nums h; have hc := chk_yes h.1; first | omega | (have := clamp_id hn.2.1 hn.2.2.1; omega))
        · replace c4 : ¬(s.h < 0) := by first | simpa only [vd1, vd2, vd3, vd4, vd5, vd6, vd7, reduceCtorEq, Option.some.injEq, vn_rw, va_rw, isNone_f, isNone_t, vi_cell_I, vi_cell_E0, vi_cell_E1, vi_cell_A0, vi_cell_A1, vi_cell_A2, vb_ite, vi_ite, updD] using c4 | (simp only [vd1, vd2, vd3, vd4, vd5, vd6, vd7, reduceCtorEq, Option.some.injEq, vn_rw, va_rw, isNone_f, isNone_t, vi_cell_I, vi_cell_E0, vi_cell_E1, vi_cell_A0, vi_cell_A1, vi_cell_A2, vb_ite, vi_ite, updD] at c4; grind)
          refine br_wp (fun c5 => ?_) (fun c5 => ?_)
          · replace c5 : s.h > p.l := by first | simpa only [vd1, vd2, vd3, vd4, vd5, vd6, vd7, reduceCtorEq, Option.some.injEq, vn_rw, va_rw, isNone_f, isNone_t, vi_cell_I, vi_cell_E0, vi_cell_E1, vi_cell_A0, vi_cell_A1, vi_cell_A2, vb_ite, vi_ite, updD] using c5 | (simp only [vd1, vd2, vd3, vd4, vd5, vd6, vd7, reduceCtorEq, Option.some.injEq, vn_rw, va_rw, isNone_f, isNone_t, vi_cell_I, vi_cell_E0, vi_cell_E1, vi_cell_A0, vi_cell_A1, vi_cell_A2, vb_ite, vi_ite, updD] at c5; grind)
            refine ret_wp ?_
            try dsimp only
            exact right_no (fun h => by have hn := right_nums h; have hc := chk_yes h.1; first | omega | (have := clamp_id hn.2.1 hn.2.2.1; omega))
          · replace c5 : ¬(s.h > p.l) := by first | simpa only [vd1, vd2, vd3, vd4, vd5, vd6, vd7, reduceCtorEq, Option.some.injEq, vn_rw, va_rw, isNone_f, isNone_t, vi_cell_I, vi_cell_E0, vi_cell_E1, vi_cell_A0, vi_cell_A1, vi_cell_A2, vb_ite, vi_ite, updD] using c5 | (simp only [vd1, vd2, vd3, vd4, vd5, vd6, vd7, reduceCtorEq, Option.some.injEq, vn_rw, va_rw, isNone_f, isNone_t, vi_cell_I, vi_cell_E0, vi_cell_E1, vi_cell_A0, vi_cell_A1, vi_cell_A2, vb_ite, vi_ite, updD] at c5; grind)
            refine br_wp (fun c6 => ?_) (fun c6 => ?_)
            · replace c6 : s.v ≠ 0 := by first | simpa only [vd1, vd2, vd3, vd4, vd5, vd6, vd7, reduceCtorEq, Option.some.injEq, vn_rw, va_rw, isNone_f, isNone_t, vi_cell_I, vi_cell_E0, vi_cell_E1, vi_cell_A0, vi_cell_A1, vi_cell_A2, vb_ite, vi_ite, updD] using c6 | (simp only [vd1, vd2, vd3, vd4, vd5, vd6, vd7, reduceCtorEq, Option.some.injEq, vn_rw, va_rw, isNone_f, isNone_t, vi_cell_I, vi_cell_E0, vi_cell_E1, vi_cell_A0, vi_cell_A1, vi_cell_A2, vb_ite, vi_ite, updD] at c6; grind)
              refine ret_wp ?_
              try dsimp only
              exact right_no (fun h => by have hn := right_nums h; have hc := chk_yes h.1; first | omega | (have := clamp_id hn.2.1 hn.2.2.1; omega))
            · replace c6 : ¬(s.v ≠ 0) := by first | simpa only [vd1, vd2, vd3, vd4, vd5, vd6, vd7, reduceCtorEq, Option.some.injEq, vn_rw, va_rw, isNone_f, isNone_t, vi_cell_I, vi_cell_E0, vi_cell_E1, vi_cell_A0, vi_cell_A1, vi_cell_A2, vb_ite, vi_ite, updD] using c6 | (simp only [vd1, vd2, vd3, vd4, vd5, vd6, vd7, reduceCtorEq, Option.some.injEq, vn_rw, va_rw, isNone_f, isNone_t, vi_cell_I, vi_cell_E0, vi_cell_E1, vi_cell_A0, vi_cell_A1, vi_cell_A2, vb_ite, vi_ite, updD] at c6; grind)
              refine need_wp (by first | exact ⟨_, _, _, rfl⟩ | (simp only [vd1, vd2, vd3, vd4, vd5, vd6, vd7, reduceCtorEq, Option.some.injEq, vn_rw, va_rw, isNone_f, isNone_t, vi_cell_I, vi_cell_E0, vi_cell_E1, vi_cell_A0, vi_cell_A1, vi_cell_A2, vb_ite, vi_ite, updD]; exact ⟨_, _, _, rfl⟩)) ?_
              refine br_wp (fun c7 => ?_) (fun c7 => ?_)
              · replace c7 : (s.g.l.length : Int) > p.c := by first | simpa only [vd1, vd2, vd3, vd4, vd5, vd6, vd7, reduceCtorEq, Option.some.injEq, vn_rw, va_rw, isNone_f, isNone_t, vi_cell_I, vi_cell_E0, vi_cell_E1, vi_cell_A0, vi_cell_A1, vi_cell_A2, vb_ite, vi_ite, updD] using c7 | (simp only [vd1, vd2, vd3, vd4, vd5, vd6, vd7, reduceCtorEq, Option.some.injEq, vn_rw, va_rw, isNone_f, isNone_t, vi_cell_I, vi_cell_E0, vi_cell_E1, vi_cell_A0, vi_cell_A1, vi_cell_A2, vb_ite, vi_ite, updD] at c7; grind)
                refine ret_wp ?_
                try dsimp only
                exact right_no (fun h => by have hn := right_nums h; have hc := chk_yes h.1; first | omega | (have := clamp_id hn.2.1 hn.2.2.1; omega))
              · replace c7 : ¬((s.g.l.length : Int) > p.c) := by first | simpa only [vd1, vd2, vd3, vd4, vd5, vd6, vd7, reduceCtorEq, Option.some.injEq, vn_rw, va_rw, isNone_f, isNone_t, vi_cell_I, vi_cell_E0, vi_cell_E1, vi_cell_A0, vi_cell_A1, vi_cell_A2, vb_ite, vi_ite, updD] using c7 | (simp only [vd1, vd2, vd3, vd4, vd5, vd6, vd7, reduceCtorEq, Option.some.injEq, vn_rw, va_rw, isNone_f, isNone_t, vi_cell_I, vi_cell_E0, vi_cell_E1, vi_cell_A0, vi_cell_A1, vi_cell_A2, vb_ite, vi_ite, updD] at c7; grind)
                refine loop_wp (fun bs0 => ∃ (n : Int) (i : Int), bs0 = [aI n, aI i] ∧ (0 ≤ i ∧ i ≤ s.g.l.length ∧ n = s.h + tot (s.g.l.take i.toNat) ∧ ∃ was, along p s.t s.g.l i.toNat was ∧ (i = 0 → was = 0) ∧ (0 < i → (s.g.get (i - 1)).1 = was))) (fun bs0 => ((s.g.l.length : Int) - vi (bs0.getD 1 atom0).1).toNat) ?_ ?_
                · refine ⟨s.h, 0, by simp only [vd1, vd2, vd3, vd4, vd5, vd6, vd7, reduceCtorEq, Option.some.injEq, vn_rw, va_rw, isNone_f, isNone_t, vi_cell_I, vi_cell_E0, vi_cell_E1, vi_cell_A0, vi_cell_A1, vi_cell_A2, vb_ite, vi_ite, updD, Rw.atom, Rw.nil, List.length_nil, List.map_nil], ?_⟩
                  exact ⟨by omega, by omega, by simp [tot], 0, along0 _ _ _, fun _ => rfl, fun h => absurd h (by omega)⟩
                rintro _ _ ⟨n, i, rfl, ⟨i0, i1, hn, was, hA, hz, hp⟩⟩
                refine need_wp (by first | exact ⟨_, _, _, rfl⟩ | (simp only [vd1, vd2, vd3, vd4, vd5, vd6, vd7, reduceCtorEq, Option.some.injEq, vn_rw, va_rw, isNone_f, isNone_t, vi_cell_I, vi_cell_E0, vi_cell_E1, vi_cell_A0, vi_cell_A1, vi_cell_A2, vb_ite, vi_ite, updD]; exact ⟨_, _, _, rfl⟩)) ?_
                refine br_wp (fun c8 => ?_) (fun c8 => ?_)
                · replace c8 : i < (s.g.l.length : Int) := by first | simpa only [vd1, vd2, vd3, vd4, vd5, vd6, vd7, reduceCtorEq, Option.some.injEq, vn_rw, va_rw, isNone_f, isNone_t, vi_cell_I, vi_cell_E0, vi_cell_E1, vi_cell_A0, vi_cell_A1, vi_cell_A2, vb_ite, vi_ite, updD] using c8 | (simp only [vd1, vd2, vd3, vd4, vd5, vd6, vd7, reduceCtorEq, Option.some.injEq, vn_rw, va_rw, isNone_f, isNone_t, vi_cell_I, vi_cell_E0, vi_cell_E1, vi_cell_A0, vi_cell_A1, vi_cell_A2, vb_ite, vi_ite, updD] at c8; grind)
                  obtain ⟨hl, hg⟩ := hget i0 c8
                  have hw0 : 0 ≤ was := hA.2.2.1
                  have tb := tot_bd (fun e he => (hA.1 e he).1) on.2.2.1
                  have tl : ((s.g.l.take i.toNat).length : Int) ≤ 100 := by have := List.length_take_le i.toNat s.g.l; omega
                  have w1 : IntKind.i64.wrap (i + 1) = i + 1 := wrap_id _ (by omega) (by omega)
                  refine need_wp (by first | exact ⟨_, _, _, rfl⟩ | (simp only [vd1, vd2, vd3, vd4, vd5, vd6, vd7, reduceCtorEq, Option.some.injEq, vn_rw, va_rw, isNone_f, isNone_t, vi_cell_I, vi_cell_E0, vi_cell_E1, vi_cell_A0, vi_cell_A1, vi_cell_A2, vb_ite, vi_ite, updD, w1]; exact ⟨_, _, _, rfl⟩)) ?_
                  refine need_wp (by first | exact rw_row _ _ | (simp only [vd1, vd2, vd3, vd4, vd5, vd6, vd7, reduceCtorEq, Option.some.injEq, vn_rw, va_rw, isNone_f, isNone_t, vi_cell_I, vi_cell_E0, vi_cell_E1, vi_cell_A0, vi_cell_A1, vi_cell_A2, vb_ite, vi_ite, updD, w1]; exact ⟨_, _, rfl⟩)) ?_
                  refine need_wp (by simp only [vd1, vd2, vd3, vd4, vd5, vd6, vd7, reduceCtorEq, Option.some.injEq, vn_rw, va_rw, isNone_f, isNone_t, vi_cell_I, vi_cell_E0, vi_cell_E1, vi_cell_A0, vi_cell_A1, vi_cell_A2, vb_ite, vi_ite, updD, w1, List.length_cons, List.length_nil, List.length_append, List.length_set]; first | omega | (grind)) ?_
                  refine need_wp (by first | exact ⟨_, _, _, rfl⟩ | (simp only [vd1, vd2, vd3, vd4, vd5, vd6, vd7, reduceCtorEq, Option.some.injEq, vn_rw, va_rw, isNone_f, isNone_t, vi_cell_I, vi_cell_E0, vi_cell_E1, vi_cell_A0, vi_cell_A1, vi_cell_A2, vb_ite, vi_ite, updD, w1]; exact ⟨_, _, _, rfl⟩)) ?_
                  refine need_wp (by first | exact rw_row _ _ | (simp only [vd1, vd2, vd3, vd4, vd5, vd6, vd7, reduceCtorEq, Option.some.injEq, vn_rw, va_rw, isNone_f, isNone_t, vi_cell_I, vi_cell_E0, vi_cell_E1, vi_cell_A0, vi_cell_A1, vi_cell_A2, vb_ite, vi_ite, updD, w1]; exact ⟨_, _, rfl⟩)) ?_
                  refine need_wp (by first | exact rw_sz' rfl | exact rw_szn (by assumption) (.inr (by omega)) | (simp only [vd1, vd2, vd3, vd4, vd5, vd6, vd7, reduceCtorEq, Option.some.injEq, vn_rw, va_rw, isNone_f, isNone_t, vi_cell_I, vi_cell_E0, vi_cell_E1, vi_cell_A0, vi_cell_A1, vi_cell_A2, vb_ite, vi_ite, updD, w1]; exact rw_szn (by assumption) (.inr (by omega))) | exact rw_szn (by simp [Rw.ok]) (.inr (by omega))) ?_
                  refine need_wp (by simp only [vd1, vd2, vd3, vd4, vd5, vd6, vd7, reduceCtorEq, Option.some.injEq, vn_rw, va_rw, isNone_f, isNone_t, vi_cell_I, vi_cell_E0, vi_cell_E1, vi_cell_A0, vi_cell_A1, vi_cell_A2, vb_ite, vi_ite, updD, w1]; exact kind_Re0 (by omega) (by omega)) ?_
                  refine need_wp (by simp only [vd1, vd2, vd3, vd4, vd5, vd6, vd7, reduceCtorEq, Option.some.injEq, vn_rw, va_rw, isNone_f, isNone_t, vi_cell_I, vi_cell_E0, vi_cell_E1, vi_cell_A0, vi_cell_A1, vi_cell_A2, vb_ite, vi_ite, updD, w1]; exact kind_Re1 (by omega) (by omega)) ?_
                  refine br_wp (fun c9 => ?_) (fun c9 => ?_)
                  · replace c9 : (s.g.get i).1 < 0 := by first | simpa only [vd1, vd2, vd3, vd4, vd5, vd6, vd7, reduceCtorEq, Option.some.injEq, vn_rw, va_rw, isNone_f, isNone_t, vi_cell_I, vi_cell_E0, vi_cell_E1, vi_cell_A0, vi_cell_A1, vi_cell_A2, vb_ite, vi_ite, updD, w1] using c9 | (simp only [vd1, vd2, vd3, vd4, vd5, vd6, vd7, reduceCtorEq, Option.some.injEq, vn_rw, va_rw, isNone_f, isNone_t, vi_cell_I, vi_cell_E0, vi_cell_E1, vi_cell_A0, vi_cell_A1, vi_cell_A2, vb_ite, vi_ite, updD, w1] at c9; grind)
                    refine pop_wp ?_
                    refine ret_wp ?_
                    try dsimp only
                    exact right_no (fun h => absurd ⟨right_el h, right_sorted h⟩ (along_bad hA hl (by rw [← hg]; first | exact .inl (by omega) | (right; unfold elOk; omega))))
                  · replace c9 : ¬((s.g.get i).1 < 0) := by first | simpa only [vd1, vd2, vd3, vd4, vd5, vd6, vd7, reduceCtorEq, Option.some.injEq, vn_rw, va_rw, isNone_f, isNone_t, vi_cell_I, vi_cell_E0, vi_cell_E1, vi_cell_A0, vi_cell_A1, vi_cell_A2, vb_ite, vi_ite, updD, w1] using c9 | (simp only [vd1, vd2, vd3, vd4, vd5, vd6, vd7, reduceCtorEq, Option.some.injEq, vn_rw, va_rw, isNone_f, isNone_t, vi_cell_I, vi_cell_E0, vi_cell_E1, vi_cell_A0, vi_cell_A1, vi_cell_A2, vb_ite, vi_ite, updD, w1] at c9; grind)
                    refine br_wp (fun c10 => ?_) (fun c10 => ?_)
                    · replace c10 : (s.g.get i).1 > s.t := by first | simpa only [vd1, vd2, vd3, vd4, vd5, vd6, vd7, reduceCtorEq, Option.some.injEq, vn_rw, va_rw, isNone_f, isNone_t, vi_cell_I, vi_cell_E0, vi_cell_E1, vi_cell_A0, vi_cell_A1, vi_cell_A2, vb_ite, vi_ite, updD, w1] using c10 | (simp only [vd1, vd2, vd3, vd4, vd5, vd6, vd7, reduceCtorEq, Option.some.injEq, vn_rw, va_rw, isNone_f, isNone_t, vi_cell_I, vi_cell_E0, vi_cell_E1, vi_cell_A0, vi_cell_A1, vi_cell_A2, vb_ite, vi_ite, updD, w1] at c10; grind)
                      refine pop_wp ?_
                      refine ret_wp ?_
                      try dsimp only
                      exact right_no (fun h => absurd ⟨right_el h, right_sorted h⟩ (along_bad hA hl (by rw [← hg]; first | exact .inl (by omega) | (right; unfold elOk; omega))))
                    · replace c10 : ¬((s.g.get i).1 > s.t) := by first | simpa only [vd1, vd2, vd3, vd4, vd5, vd6, vd7, reduceCtorEq, Option.some.injEq, vn_rw, va_rw, isNone_f, isNone_t, vi_cell_I, vi_cell_E0, vi_cell_E1, vi_cell_A0, vi_cell_A1, vi_cell_A2, vb_ite, vi_ite, updD, w1] using c10 | (simp only [vd1, vd2, vd3, vd4, vd5, vd6, vd7, reduceCtorEq, Option.some.injEq, vn_rw, va_rw, isNone_f, isNone_t, vi_cell_I, vi_cell_E0, vi_cell_E1, vi_cell_A0, vi_cell_A1, vi_cell_A2, vb_ite, vi_ite, updD, w1] at c10; grind)
                      refine br_wp (fun c11 => ?_) (fun c11 => ?_)
                      · replace c11 : (s.g.get i).2 < 1 := by first | simpa only [vd1, vd2, vd3, vd4, vd5, vd6, vd7, reduceCtorEq, Option.some.injEq, vn_rw, va_rw, isNone_f, isNone_t, vi_cell_I, vi_cell_E0, vi_cell_E1, vi_cell_A0, vi_cell_A1, vi_cell_A2, vb_ite, vi_ite, updD, w1] using c11 | (simp only [vd1, vd2, vd3, vd4, vd5, vd6, vd7, reduceCtorEq, Option.some.injEq, vn_rw, va_rw, isNone_f, isNone_t, vi_cell_I, vi_cell_E0, vi_cell_E1, vi_cell_A0, vi_cell_A1, vi_cell_A2, vb_ite, vi_ite, updD, w1] at c11; grind)
                        refine pop_wp ?_
                        refine ret_wp ?_
                        try dsimp only
                        exact right_no (fun h => absurd ⟨right_el h, right_sorted h⟩ (along_bad hA hl (by rw [← hg]; first | exact .inl (by omega) | (right; unfold elOk; omega))))
                      · replace c11 : ¬((s.g.get i).2 < 1) := by first | simpa only [vd1, vd2, vd3, vd4, vd5, vd6, vd7, reduceCtorEq, Option.some.injEq, vn_rw, va_rw, isNone_f, isNone_t, vi_cell_I, vi_cell_E0, vi_cell_E1, vi_cell_A0, vi_cell_A1, vi_cell_A2, vb_ite, vi_ite, updD, w1] using c11 | (simp only [vd1, vd2, vd3, vd4, vd5, vd6, vd7, reduceCtorEq, Option.some.injEq, vn_rw, va_rw, isNone_f, isNone_t, vi_cell_I, vi_cell_E0, vi_cell_E1, vi_cell_A0, vi_cell_A1, vi_cell_A2, vb_ite, vi_ite, updD, w1] at c11; grind)
                        refine br_wp (fun c12 => ?_) (fun c12 => ?_)
                        · replace c12 : (s.g.get i).2 > p.l := by first | simpa only [vd1, vd2, vd3, vd4, vd5, vd6, vd7, reduceCtorEq, Option.some.injEq, vn_rw, va_rw, isNone_f, isNone_t, vi_cell_I, vi_cell_E0, vi_cell_E1, vi_cell_A0, vi_cell_A1, vi_cell_A2, vb_ite, vi_ite, updD, w1] using c12 | (simp only [vd1, vd2, vd3, vd4, vd5, vd6, vd7, reduceCtorEq, Option.some.injEq, vn_rw, va_rw, isNone_f, isNone_t, vi_cell_I, vi_cell_E0, vi_cell_E1, vi_cell_A0, vi_cell_A1, vi_cell_A2, vb_ite, vi_ite, updD, w1] at c12; grind)
                          refine pop_wp ?_
                          refine ret_wp ?_
                          try dsimp only
                          exact right_no (fun h => absurd ⟨right_el h, right_sorted h⟩ (along_bad hA hl (by rw [← hg]; first | exact .inl (by omega) | (right; unfold elOk; omega))))
                        · replace c12 : ¬((s.g.get i).2 > p.l) := by first | simpa only [vd1, vd2, vd3, vd4, vd5, vd6, vd7, reduceCtorEq, Option.some.injEq, vn_rw, va_rw, isNone_f, isNone_t, vi_cell_I, vi_cell_E0, vi_cell_E1, vi_cell_A0, vi_cell_A1, vi_cell_A2, vb_ite, vi_ite, updD, w1] using c12 | (simp only [vd1, vd2, vd3, vd4, vd5, vd6, vd7, reduceCtorEq, Option.some.injEq, vn_rw, va_rw, isNone_f, isNone_t, vi_cell_I, vi_cell_E0, vi_cell_E1, vi_cell_A0, vi_cell_A1, vi_cell_A2, vb_ite, vi_ite, updD, w1] at c12; grind)
                          have w2 : IntKind.i64.wrap (n + (s.g.get i).2) = n + (s.g.get i).2 := wrap_id _ (by omega) (by omega)
                          refine br_wp (fun c13 => ?_) (fun c13 => ?_)
                          · replace c13 : i > 0 := by first | simpa only [vd1, vd2, vd3, vd4, vd5, vd6, vd7, reduceCtorEq, Option.some.injEq, vn_rw, va_rw, isNone_f, isNone_t, vi_cell_I, vi_cell_E0, vi_cell_E1, vi_cell_A0, vi_cell_A1, vi_cell_A2, vb_ite, vi_ite, updD, w1, w2] using c13 | (simp only [vd1, vd2, vd3, vd4, vd5, vd6, vd7, reduceCtorEq, Option.some.injEq, vn_rw, va_rw, isNone_f, isNone_t, vi_cell_I, vi_cell_E0, vi_cell_E1, vi_cell_A0, vi_cell_A1, vi_cell_A2, vb_ite, vi_ite, updD, w1, w2] at c13; grind)
                            have w3 : IntKind.i64.wrap (i - 1) = i - 1 := wrap_id _ (by omega) (by omega)
                            have hp := hp (by omega)
                            refine need_wp (by first | exact ⟨_, _, _, rfl⟩ | (simp only [vd1, vd2, vd3, vd4, vd5, vd6, vd7, reduceCtorEq, Option.some.injEq, vn_rw, va_rw, isNone_f, isNone_t, vi_cell_I, vi_cell_E0, vi_cell_E1, vi_cell_A0, vi_cell_A1, vi_cell_A2, vb_ite, vi_ite, updD, w1, w2, w3]; exact ⟨_, _, _, rfl⟩)) ?_
                            refine need_wp (by first | exact rw_row _ _ | (simp only [vd1, vd2, vd3, vd4, vd5, vd6, vd7, reduceCtorEq, Option.some.injEq, vn_rw, va_rw, isNone_f, isNone_t, vi_cell_I, vi_cell_E0, vi_cell_E1, vi_cell_A0, vi_cell_A1, vi_cell_A2, vb_ite, vi_ite, updD, w1, w2, w3]; exact ⟨_, _, rfl⟩)) ?_
                            refine need_wp (by simp only [vd1, vd2, vd3, vd4, vd5, vd6, vd7, reduceCtorEq, Option.some.injEq, vn_rw, va_rw, isNone_f, isNone_t, vi_cell_I, vi_cell_E0, vi_cell_E1, vi_cell_A0, vi_cell_A1, vi_cell_A2, vb_ite, vi_ite, updD, w1, w2, w3, List.length_cons, List.length_nil, List.length_append, List.length_set]; first | omega | (grind)) ?_
                            refine need_wp (by simp only [vd1, vd2, vd3, vd4, vd5, vd6, vd7, reduceCtorEq, Option.some.injEq, vn_rw, va_rw, isNone_f, isNone_t, vi_cell_I, vi_cell_E0, vi_cell_E1, vi_cell_A0, vi_cell_A1, vi_cell_A2, vb_ite, vi_ite, updD, w1, w2, w3, List.length_cons, List.length_nil, List.length_append, List.length_set]; first | omega | (grind)) ?_
                            refine need_wp (by first | exact ⟨_, _, _, rfl⟩ | (simp only [vd1, vd2, vd3, vd4, vd5, vd6, vd7, reduceCtorEq, Option.some.injEq, vn_rw, va_rw, isNone_f, isNone_t, vi_cell_I, vi_cell_E0, vi_cell_E1, vi_cell_A0, vi_cell_A1, vi_cell_A2, vb_ite, vi_ite, updD, w1, w2, w3]; exact ⟨_, _, _, rfl⟩)) ?_
                            refine need_wp (by first | exact rw_row _ _ | (simp only [vd1, vd2, vd3, vd4, vd5, vd6, vd7, reduceCtorEq, Option.some.injEq, vn_rw, va_rw, isNone_f, isNone_t, vi_cell_I, vi_cell_E0, vi_cell_E1, vi_cell_A0, vi_cell_A1, vi_cell_A2, vb_ite, vi_ite, updD, w1, w2, w3]; exact ⟨_, _, rfl⟩)) ?_
                            refine need_wp (by first | exact ⟨_, _, _, rfl⟩ | (simp only [vd1, vd2, vd3, vd4, vd5, vd6, vd7, reduceCtorEq, Option.some.injEq, vn_rw, va_rw, isNone_f, isNone_t, vi_cell_I, vi_cell_E0, vi_cell_E1, vi_cell_A0, vi_cell_A1, vi_cell_A2, vb_ite, vi_ite, updD, w1, w2, w3]; exact ⟨_, _, _, rfl⟩)) ?_
                            refine need_wp (by first | exact rw_row _ _ | (simp only [vd1, vd2, vd3, vd4, vd5, vd6, vd7, reduceCtorEq, Option.some.injEq, vn_rw, va_rw, isNone_f, isNone_t, vi_cell_I, vi_cell_E0, vi_cell_E1, vi_cell_A0, vi_cell_A1, vi_cell_A2, vb_ite, vi_ite, updD, w1, w2, w3]; exact ⟨_, _, rfl⟩)) ?_
                            refine need_wp (by first | exact rw_sz' rfl | exact rw_szn (by assumption) (.inr (by omega)) | (simp only [vd1, vd2, vd3, vd4, vd5, vd6, vd7, reduceCtorEq, Option.some.injEq, vn_rw, va_rw, isNone_f, isNone_t, vi_cell_I, vi_cell_E0, vi_cell_E1, vi_cell_A0, vi_cell_A1, vi_cell_A2, vb_ite, vi_ite, updD, w1, w2, w3]; exact rw_szn (by assumption) (.inr (by omega))) | exact rw_szn (by simp [Rw.ok]) (.inr (by omega))) ?_
                            refine need_wp (by simp only [vd1, vd2, vd3, vd4, vd5, vd6, vd7, reduceCtorEq, Option.some.injEq, vn_rw, va_rw, isNone_f, isNone_t, vi_cell_I, vi_cell_E0, vi_cell_E1, vi_cell_A0, vi_cell_A1, vi_cell_A2, vb_ite, vi_ite, updD, w1, w2, w3]; exact kind_Re0 (by omega) (by omega)) ?_
                            refine br_wp (fun c14 => ?_) (fun c14 => ?_)
                            · replace c14 : (s.g.get i).1 < (s.g.get (i - 1)).1 := by first | simpa only [vd1, vd2, vd3, vd4, vd5, vd6, vd7, reduceCtorEq, Option.some.injEq, vn_rw, va_rw, isNone_f, isNone_t, vi_cell_I, vi_cell_E0, vi_cell_E1, vi_cell_A0, vi_cell_A1, vi_cell_A2, vb_ite, vi_ite, updD, w1, w2, w3] using c14 | (simp only [vd1, vd2, vd3, vd4, vd5, vd6, vd7, reduceCtorEq, Option.some.injEq, vn_rw, va_rw, isNone_f, isNone_t, vi_cell_I, vi_cell_E0, vi_cell_E1, vi_cell_A0, vi_cell_A1, vi_cell_A2, vb_ite, vi_ite, updD, w1, w2, w3] at c14; grind)
                              refine pop_wp ?_
                              refine ret_wp ?_
                              try dsimp only
                              exact right_no (fun h => absurd ⟨right_el h, right_sorted h⟩ (along_bad hA hl (by rw [← hg]; first | exact .inl (by omega) | (right; unfold elOk; omega))))
                            · replace c14 : ¬((s.g.get i).1 < (s.g.get (i - 1)).1) := by first | simpa only [vd1, vd2, vd3, vd4, vd5, vd6, vd7, reduceCtorEq, Option.some.injEq, vn_rw, va_rw, isNone_f, isNone_t, vi_cell_I, vi_cell_E0, vi_cell_E1, vi_cell_A0, vi_cell_A1, vi_cell_A2, vb_ite, vi_ite, updD, w1, w2, w3] using c14 | (simp only [vd1, vd2, vd3, vd4, vd5, vd6, vd7, reduceCtorEq, Option.some.injEq, vn_rw, va_rw, isNone_f, isNone_t, vi_cell_I, vi_cell_E0, vi_cell_E1, vi_cell_A0, vi_cell_A1, vi_cell_A2, vb_ite, vi_ite, updD, w1, w2, w3] at c14; grind)
                              refine again_wp rfl ⟨(n + (s.g.get i).2), (i + 1), by simp only [vd1, vd2, vd3, vd4, vd5, vd6, vd7, reduceCtorEq, Option.some.injEq, vn_rw, va_rw, isNone_f, isNone_t, vi_cell_I, vi_cell_E0, vi_cell_E1, vi_cell_A0, vi_cell_A1, vi_cell_A2, vb_ite, vi_ite, updD, w1, w2, w3], ?_⟩ ?_
                              · refine ⟨by omega, by omega, ?_, (s.g.get i).1, ?_, by omega, fun _ => by rw [show i + 1 - 1 = i by omega]⟩; (rw [show (i + 1).toNat = i.toNat + 1 by omega]; rw [tot_take hl, ← hg]; omega); (rw [show (i + 1).toNat = i.toNat + 1 by omega]; rw [hg]; exact along_step hA hl (by rw [← hg]; unfold elOk; omega) (by rw [← hg]; omega))
                              · (try simp only [vd1, vd2, vd3, vd4, vd5, vd6, vd7, reduceCtorEq, Option.some.injEq, vn_rw, va_rw, isNone_f, isNone_t, vi_cell_I, vi_cell_E0, vi_cell_E1, vi_cell_A0, vi_cell_A1, vi_cell_A2, vb_ite, vi_ite, updD, w1, w2, w3]); omega
                          · replace c13 : ¬(i > 0) := by first | simpa only [vd1, vd2, vd3, vd4, vd5, vd6, vd7, reduceCtorEq, Option.some.injEq, vn_rw, va_rw, isNone_f, isNone_t, vi_cell_I, vi_cell_E0, vi_cell_E1, vi_cell_A0, vi_cell_A1, vi_cell_A2, vb_ite, vi_ite, updD, w1, w2] using c13 | (simp only [vd1, vd2, vd3, vd4, vd5, vd6, vd7, reduceCtorEq, Option.some.injEq, vn_rw, va_rw, isNone_f, isNone_t, vi_cell_I, vi_cell_E0, vi_cell_E1, vi_cell_A0, vi_cell_A1, vi_cell_A2, vb_ite, vi_ite, updD, w1, w2] at c13; grind)
                            have hz := hz (by omega)
                            refine again_wp rfl ⟨(n + (s.g.get i).2), (i + 1), by simp only [vd1, vd2, vd3, vd4, vd5, vd6, vd7, reduceCtorEq, Option.some.injEq, vn_rw, va_rw, isNone_f, isNone_t, vi_cell_I, vi_cell_E0, vi_cell_E1, vi_cell_A0, vi_cell_A1, vi_cell_A2, vb_ite, vi_ite, updD, w1, w2], ?_⟩ ?_
                            · refine ⟨by omega, by omega, ?_, (s.g.get i).1, ?_, by omega, fun _ => by rw [show i + 1 - 1 = i by omega]⟩; (rw [show (i + 1).toNat = i.toNat + 1 by omega]; rw [tot_take hl, ← hg]; omega); (rw [show (i + 1).toNat = i.toNat + 1 by omega]; rw [hg]; exact along_step hA hl (by rw [← hg]; unfold elOk; omega) (by rw [← hg]; omega))
                            · (try simp only [vd1, vd2, vd3, vd4, vd5, vd6, vd7, reduceCtorEq, Option.some.injEq, vn_rw, va_rw, isNone_f, isNone_t, vi_cell_I, vi_cell_E0, vi_cell_E1, vi_cell_A0, vi_cell_A1, vi_cell_A2, vb_ite, vi_ite, updD, w1, w2]); omega
                · replace c8 : ¬(i < (s.g.l.length : Int)) := by first | simpa only [vd1, vd2, vd3, vd4, vd5, vd6, vd7, reduceCtorEq, Option.some.injEq, vn_rw, va_rw, isNone_f, isNone_t, vi_cell_I, vi_cell_E0, vi_cell_E1, vi_cell_A0, vi_cell_A1, vi_cell_A2, vb_ite, vi_ite, updD] using c8 | (simp only [vd1, vd2, vd3, vd4, vd5, vd6, vd7, reduceCtorEq, Option.some.injEq, vn_rw, va_rw, isNone_f, isNone_t, vi_cell_I, vi_cell_E0, vi_cell_E1, vi_cell_A0, vi_cell_A1, vi_cell_A2, vb_ite, vi_ite, updD] at c8; grind)
                  refine pop_wp ?_
                  refine ret_wp ?_
                  try dsimp only
                  have hi : i.toNat = s.g.l.length := (by omega); exact right_iff (by rw [hn, hi, List.take_length]; exact mk_right ok (by omega) (by omega) (by omega) (by omega) (by omega) (along_end hA (by omega)) (by omega))
end Go.Proofs.YtnpbhlojkjbabaaK
