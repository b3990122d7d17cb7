import Derived.Test.YtnpbhlojkjbabaaVR6k
import Derived.Test.YtnpbhlojkjbabaaVR6L3
set_option linter.unusedSimpArgs false
set_option linter.unusedVariables false
set_option linter.unnecessarySimpa false
namespace Go.Proofs.YtnpbhlojkjbabaaK
open Go Go.Proofs.YtnpbhlojkjbabaaV Go.Proofs
theorem get_map {α β : Type} [Inhabited β] {x : Rw β} {w : List α} {f : α → β} (h : x.l = w.map f) {i : Int} (h0 : 0 ≤ i) (hi : i < w.length) : ∃ hl : i.toNat < w.length, x.get i = f w[i.toNat] := by
  have hl : i.toNat < w.length := by omega
  exact ⟨hl, by simp [Rw.get, h, List.getD_eq_getElem?_getD, hl]⟩
def kLaw3 (sg : Sig) : Sig × Con := (sg, mkFun (fun x : Int × Int × Int × Rw Ac => ([aK .u16 x.1, aK .u16 x.2.1, aK .u8 x.2.2.1, Rw.atom Ac.enc x.2.2.2] : List Atom)) (fun x => rokA x.2.2.2 ∧ (0 ≤ x.1 ∧ x.1 < 65536 ∧ 0 ≤ x.2.1 ∧ x.2.1 < 65536 ∧ 0 ≤ x.2.2.1 ∧ x.2.2.1 < 256)) (fun _ => [aB true]))
set_option maxHeartbeats 1000000 in
theorem h3 : holds Try.prog (kLaw3 sg3) := by
  refine fn_holds (l := [kSmall sg11, kKnown sg12, kOf sg13, kNew sg14, kDo sg15]) ⟨h11, h12, h13, h14, h15, trivial⟩ hP rs3 (inj_of (fun l : List Atom => ((vi (l.getD 0 atom0).1, vi (l.getD 1 atom0).1, vi (l.getD 2 atom0).1, Rw.un unA (l.getD 3 atom0)) : Int × Int × Int × Rw Ac)) (fun _ => by simp [List.getD_cons_zero, List.getD_cons_succ, unA_atom])) Try.func3 (by kernel_rfl) (c := code Try.f3) (by kernel_rfl) (an := an3) (by kernel_rfl) (pk := pk3) rfl (t := t3) (by kernel_rfl) ?_
  rintro ⟨a, b, c, l⟩ ⟨⟨hk, hlen⟩, ⟨u1, u2, u3, u4, u5, u6⟩⟩
  refine ⟨by simp [pk3, KindsOk, RK.ok, Rw.atom, Sl.atom], ?_⟩
  unfold t3
  dsimp only at hk hlen u1 u2 u3 u4 u5 u6
  have okp : okW (ofW a b c) := ok_of u1 u2 u3 u4 u5 u6
  have pl : (ofW a b c).l = 1 + a := rfl
  have pp : (ofW a b c).p = 1 + b := rfl
  have pc : (ofW a b c).c ≤ 100 := (ok_nums okp).2.2.2.2.2.2.1
  refine call_fun (l) rfl (by simp only [vd1, vd2, vd3, vd4, vd5, vd6, vd7, reduceCtorEq, Option.some.injEq, vn_rw, va_rw, isNone_f, isNone_t, vi_cell_I, vi_cell_E0, vi_cell_E1, vi_cell_A0, vi_cell_A1, vi_cell_A2, vb_ite, vi_ite, updD]) hlen ?_
  refine br_wp (fun c1 => ?_) (fun c1 => ?_)
  · replace c1 : (l.l.length : Int) ≤ 60 := by first | simpa only [vd1, vd2, vd3, vd4, vd5, vd6, vd7, reduceCtorEq, Option.some.injEq, vn_rw, va_rw, isNone_f, isNone_t, vi_cell_I, vi_cell_E0, vi_cell_E1, vi_cell_A0, vi_cell_A1, vi_cell_A2, vb_ite, vi_ite, updD] using c1 | (simp only [vd1, vd2, vd3, vd4, vd5, vd6, vd7, reduceCtorEq, Option.some.injEq, vn_rw, va_rw, isNone_f, isNone_t, vi_cell_I, vi_cell_E0, vi_cell_E1, vi_cell_A0, vi_cell_A1, vi_cell_A2, vb_ite, vi_ite, updD] at c1; grind)
    have hn : (l.l.length : Int) ≤ 60 := c1
    refine call_fun ((a, b, c)) rfl (by simp only [vd1, vd2, vd3, vd4, vd5, vd6, vd7, reduceCtorEq, Option.some.injEq, vn_rw, va_rw, isNone_f, isNone_t, vi_cell_I, vi_cell_E0, vi_cell_E1, vi_cell_A0, vi_cell_A1, vi_cell_A2, vb_ite, vi_ite, updD]) (⟨u1, u2, u3, u4, u5, u6⟩) ?_
    refine call_rel (((ofW a b c), 0)) rfl (by simp only [vd1, vd2, vd3, vd4, vd5, vd6, vd7, reduceCtorEq, Option.some.injEq, vn_rw, va_rw, isNone_f, isNone_t, vi_cell_I, vi_cell_E0, vi_cell_E1, vi_cell_A0, vi_cell_A1, vi_cell_A2, vb_ite, vi_ite, updD]) trivial ?_
    rintro y1 ⟨ey1, gy1⟩
    try dsimp only at ey1 gy1
    refine need_wp (by first | exact ⟨_, _, _, rfl⟩ | (simp only [vd1, vd2, vd3, vd4, vd5, vd6, vd7, reduceCtorEq, Option.some.injEq, vn_rw, va_rw, isNone_f, isNone_t, vi_cell_I, vi_cell_E0, vi_cell_E1, vi_cell_A0, vi_cell_A1, vi_cell_A2, vb_ite, vi_ite, updD]; exact ⟨_, _, _, rfl⟩)) ?_
    refine need_wp (by first | exact ⟨_, _, _, rfl⟩ | (simp only [vd1, vd2, vd3, vd4, vd5, vd6, vd7, reduceCtorEq, Option.some.injEq, vn_rw, va_rw, isNone_f, isNone_t, vi_cell_I, vi_cell_E0, vi_cell_E1, vi_cell_A0, vi_cell_A1, vi_cell_A2, vb_ite, vi_ite, updD]; exact ⟨_, _, _, rfl⟩)) ?_
    refine need_wp (by first | exact ⟨_, _, _, rfl⟩ | (simp only [vd1, vd2, vd3, vd4, vd5, vd6, vd7, reduceCtorEq, Option.some.injEq, vn_rw, va_rw, isNone_f, isNone_t, vi_cell_I, vi_cell_E0, vi_cell_E1, vi_cell_A0, vi_cell_A1, vi_cell_A2, vb_ite, vi_ite, updD]; exact ⟨_, _, _, rfl⟩)) ?_
    refine loop_wp (fun bs0 => ∃ (x : Rw Int) (y : Rw Int) (i : Int) (s : Est), bs0 = [Rw.atom eI x, Rw.atom eI y, aI i, aI s.t, aI s.v, aI s.h, Rw.atom eE s.g] ∧ (0 ≤ i ∧ i ≤ l.l.length ∧ Rw.ok 1 x ∧ Rw.ok 1 y ∧ gok s ∧ ∃ tk : List (Int × Int), x.l = tk.map (·.1) ∧ y.l = tk.map (·.2) ∧ (tk.length : Int) ≤ i ∧ tot tk ≤ i * 1048576 ∧ EnvI (ofW a b c) tk (w s))) (fun bs0 => ((l.l.length : Int) - vi (bs0.getD 2 atom0).1).toNat) ?_ ?_
    · refine ⟨Rw.nil, Rw.nil, 0, y1, by simp only [vd1, vd2, vd3, vd4, vd5, vd6, vd7, reduceCtorEq, Option.some.injEq, vn_rw, va_rw, isNone_f, isNone_t, vi_cell_I, vi_cell_E0, vi_cell_E1, vi_cell_A0, vi_cell_A1, vi_cell_A2, vb_ite, vi_ite, updD, Rw.atom, Rw.nil, List.length_nil, List.map_nil], ?_⟩
      exact ⟨by omega, by omega, .inl rfl, .inl rfl, gy1, [], rfl, rfl, by simp, by simp [tot], by show EnvI _ [] (w y1); rw [ey1]; exact EnvI.nil (right_new _ okp) (by unfold newW; rw [if_pos okp]) (by unfold newW; rw [if_pos okp])⟩
    rintro _ _ ⟨x, y, i, s, rfl, ⟨i0, i1, kx, ky, gs, tk, ex, ey, wl, wt, hE⟩⟩
    have lx : x.l.length = tk.length := by rw [ex, List.length_map]
    have ly : y.l.length = tk.length := by rw [ey, List.length_map]
    refine need_wp (by first | exact ⟨_, _, _, rfl⟩ | (simp only [vd1, vd2, vd3, vd4, vd5, vd6, vd7, reduceCtorEq, Option.some.injEq, vn_rw, va_rw, isNone_f, isNone_t, vi_cell_I, vi_cell_E0, vi_cell_E1, vi_cell_A0, vi_cell_A1, vi_cell_A2, vb_ite, vi_ite, updD]; exact ⟨_, _, _, rfl⟩)) ?_
    refine br_wp (fun c2 => ?_) (fun c2 => ?_)
    · replace c2 : i < (l.l.length : Int) := by first | simpa only [vd1, vd2, vd3, vd4, vd5, vd6, vd7, reduceCtorEq, Option.some.injEq, vn_rw, va_rw, isNone_f, isNone_t, vi_cell_I, vi_cell_E0, vi_cell_E1, vi_cell_A0, vi_cell_A1, vi_cell_A2, vb_ite, vi_ite, updD] using c2 | (simp only [vd1, vd2, vd3, vd4, vd5, vd6, vd7, reduceCtorEq, Option.some.injEq, vn_rw, va_rw, isNone_f, isNone_t, vi_cell_I, vi_cell_E0, vi_cell_E1, vi_cell_A0, vi_cell_A1, vi_cell_A2, vb_ite, vi_ite, updD] at c2; grind)
      have w1 : IntKind.i64.wrap (i + 1) = i + 1 := wrap_id _ (by omega) (by omega)
      refine need_wp (by first | exact ⟨_, _, _, rfl⟩ | (simp only [vd1, vd2, vd3, vd4, vd5, vd6, vd7, reduceCtorEq, Option.some.injEq, vn_rw, va_rw, isNone_f, isNone_t, vi_cell_I, vi_cell_E0, vi_cell_E1, vi_cell_A0, vi_cell_A1, vi_cell_A2, vb_ite, vi_ite, updD, w1]; exact ⟨_, _, _, rfl⟩)) ?_
      refine need_wp (by first | exact rw_row _ _ | (simp only [vd1, vd2, vd3, vd4, vd5, vd6, vd7, reduceCtorEq, Option.some.injEq, vn_rw, va_rw, isNone_f, isNone_t, vi_cell_I, vi_cell_E0, vi_cell_E1, vi_cell_A0, vi_cell_A1, vi_cell_A2, vb_ite, vi_ite, updD, w1]; exact ⟨_, _, rfl⟩)) ?_
      refine need_wp (by simp only [vd1, vd2, vd3, vd4, vd5, vd6, vd7, reduceCtorEq, Option.some.injEq, vn_rw, va_rw, isNone_f, isNone_t, vi_cell_I, vi_cell_E0, vi_cell_E1, vi_cell_A0, vi_cell_A1, vi_cell_A2, vb_ite, vi_ite, updD, w1, List.length_cons, List.length_nil, List.length_append, List.length_set]; first | omega | (grind)) ?_
      refine need_wp (by first | exact ⟨_, _, _, rfl⟩ | (simp only [vd1, vd2, vd3, vd4, vd5, vd6, vd7, reduceCtorEq, Option.some.injEq, vn_rw, va_rw, isNone_f, isNone_t, vi_cell_I, vi_cell_E0, vi_cell_E1, vi_cell_A0, vi_cell_A1, vi_cell_A2, vb_ite, vi_ite, updD, w1]; exact ⟨_, _, _, rfl⟩)) ?_
      refine need_wp (by first | exact rw_row _ _ | (simp only [vd1, vd2, vd3, vd4, vd5, vd6, vd7, reduceCtorEq, Option.some.injEq, vn_rw, va_rw, isNone_f, isNone_t, vi_cell_I, vi_cell_E0, vi_cell_E1, vi_cell_A0, vi_cell_A1, vi_cell_A2, vb_ite, vi_ite, updD, w1]; exact ⟨_, _, rfl⟩)) ?_
      refine need_wp (by first | exact rw_sz' rfl | exact rw_szn (by assumption) (.inr (by omega)) | (simp only [vd1, vd2, vd3, vd4, vd5, vd6, vd7, reduceCtorEq, Option.some.injEq, vn_rw, va_rw, isNone_f, isNone_t, vi_cell_I, vi_cell_E0, vi_cell_E1, vi_cell_A0, vi_cell_A1, vi_cell_A2, vb_ite, vi_ite, updD, w1]; exact rw_szn (by assumption) (.inr (by omega))) | exact rw_szn (by simp [Rw.ok]) (.inr (by omega))) ?_
      refine need_wp (by simp only [vd1, vd2, vd3, vd4, vd5, vd6, vd7, reduceCtorEq, Option.some.injEq, vn_rw, va_rw, isNone_f, isNone_t, vi_cell_I, vi_cell_E0, vi_cell_E1, vi_cell_A0, vi_cell_A1, vi_cell_A2, vb_ite, vi_ite, updD, w1]; exact kind_Ra0 (by omega) (by omega)) ?_
      refine need_wp (by simp only [vd1, vd2, vd3, vd4, vd5, vd6, vd7, reduceCtorEq, Option.some.injEq, vn_rw, va_rw, isNone_f, isNone_t, vi_cell_I, vi_cell_E0, vi_cell_E1, vi_cell_A0, vi_cell_A1, vi_cell_A2, vb_ite, vi_ite, updD, w1]; exact kind_Ra1 (by omega) (by omega)) ?_
      refine need_wp (by simp only [vd1, vd2, vd3, vd4, vd5, vd6, vd7, reduceCtorEq, Option.some.injEq, vn_rw, va_rw, isNone_f, isNone_t, vi_cell_I, vi_cell_E0, vi_cell_E1, vi_cell_A0, vi_cell_A1, vi_cell_A2, vb_ite, vi_ite, updD, w1]; exact kind_Ra2 (by omega) (by omega)) ?_
      refine call_rel (((ofW a b c), s, (⟨1, (l.get i).t, (l.get i).c⟩ : Ac))) rfl (by simp only [vd1, vd2, vd3, vd4, vd5, vd6, vd7, reduceCtorEq, Option.some.injEq, vn_rw, va_rw, isNone_f, isNone_t, vi_cell_I, vi_cell_E0, vi_cell_E1, vi_cell_A0, vi_cell_A1, vi_cell_A2, vb_ite, vi_ite, updD, w1]) gs ?_
      rintro ⟨y2, b2⟩ ⟨ey2, eb2, gy2⟩
      try dsimp only at ey2 eb2 gy2
      refine br_wp (fun c3 => ?_) (fun c3 => ?_)
      · replace c3 : b2 = true := by first | simpa only [vd1, vd2, vd3, vd4, vd5, vd6, vd7, reduceCtorEq, Option.some.injEq, vn_rw, va_rw, isNone_f, isNone_t, vi_cell_I, vi_cell_E0, vi_cell_E1, vi_cell_A0, vi_cell_A1, vi_cell_A2, vb_ite, vi_ite, updD, w1] using c3 | (simp only [vd1, vd2, vd3, vd4, vd5, vd6, vd7, reduceCtorEq, Option.some.injEq, vn_rw, va_rw, isNone_f, isNone_t, vi_cell_I, vi_cell_E0, vi_cell_E1, vi_cell_A0, vi_cell_A1, vi_cell_A2, vb_ite, vi_ite, updD, w1] at c3; grind)
        have hd : didW (ofW a b c) (w s) ⟨1, (l.get i).t, (l.get i).c⟩ := of_decide_eq_true (by rw [← eb2]; exact c3)
        have hY := hE.yes _ _ hd
        rw [← ey2] at hY
        have yt : y2.t = ltr (w s) (l.get i).t := congrArg Wst.t (ey2.trans (take_st hd))
        have hc3 := hY.el _ (List.mem_append_right _ List.mem_cons_self)
        try simp only at hc3
        refine new_wp eI [y2.t] (by simp only [vd1, vd2, vd3, vd4, vd5, vd6, vd7, reduceCtorEq, Option.some.injEq, vn_rw, va_rw, isNone_f, isNone_t, vi_cell_I, vi_cell_E0, vi_cell_E1, vi_cell_A0, vi_cell_A1, vi_cell_A2, vb_ite, vi_ite, updD, w1, eI]) ?_
        intro a3 b3
        refine need_wp (by first | exact ⟨_, _, _, rfl⟩ | (simp only [vd1, vd2, vd3, vd4, vd5, vd6, vd7, reduceCtorEq, Option.some.injEq, vn_rw, va_rw, isNone_f, isNone_t, vi_cell_I, vi_cell_E0, vi_cell_E1, vi_cell_A0, vi_cell_A1, vi_cell_A2, vb_ite, vi_ite, updD, w1]; exact ⟨_, _, _, rfl⟩)) ?_
        refine need_wp (by first | exact rw_szz (by assumption) | exact rw_szz (.inr rfl)) ?_
        refine need_wp (by simp only [vd1, vd2, vd3, vd4, vd5, vd6, vd7, reduceCtorEq, Option.some.injEq, vn_rw, va_rw, isNone_f, isNone_t, vi_cell_I, vi_cell_E0, vi_cell_E1, vi_cell_A0, vi_cell_A1, vi_cell_A2, vb_ite, vi_ite, updD, w1, List.length_cons, List.length_nil, List.length_append, List.length_set]; first | omega | (grind)) ?_
        refine need_wp (by simp only [vd1, vd2, vd3, vd4, vd5, vd6, vd7, reduceCtorEq, Option.some.injEq, vn_rw, va_rw, isNone_f, isNone_t, vi_cell_I, vi_cell_E0, vi_cell_E1, vi_cell_A0, vi_cell_A1, vi_cell_A2, vb_ite, vi_ite, updD, w1, List.length_cons, List.length_nil, List.length_append, List.length_set]; first | omega | (grind)) ?_
        refine app_wp eI x (⟨a3, b3, 1, [y2.t]⟩ : Rw Int) (by first | rfl | simp only [vd1, vd2, vd3, vd4, vd5, vd6, vd7, reduceCtorEq, Option.some.injEq, vn_rw, va_rw, isNone_f, isNone_t, vi_cell_I, vi_cell_E0, vi_cell_E1, vi_cell_A0, vi_cell_A1, vi_cell_A2, vb_ite, vi_ite, updD, w1]) (by first | rfl | simp only [vd1, vd2, vd3, vd4, vd5, vd6, vd7, reduceCtorEq, Option.some.injEq, vn_rw, va_rw, isNone_f, isNone_t, vi_cell_I, vi_cell_E0, vi_cell_E1, vi_cell_A0, vi_cell_A1, vi_cell_A2, vb_ite, vi_ite, updD, w1]) ?_
        intro a4 b4
        refine new_wp eI [(l.get i).c] (by simp only [vd1, vd2, vd3, vd4, vd5, vd6, vd7, reduceCtorEq, Option.some.injEq, vn_rw, va_rw, isNone_f, isNone_t, vi_cell_I, vi_cell_E0, vi_cell_E1, vi_cell_A0, vi_cell_A1, vi_cell_A2, vb_ite, vi_ite, updD, w1, eI]) ?_
        intro a5 b5
        refine need_wp (by first | exact ⟨_, _, _, rfl⟩ | (simp only [vd1, vd2, vd3, vd4, vd5, vd6, vd7, reduceCtorEq, Option.some.injEq, vn_rw, va_rw, isNone_f, isNone_t, vi_cell_I, vi_cell_E0, vi_cell_E1, vi_cell_A0, vi_cell_A1, vi_cell_A2, vb_ite, vi_ite, updD, w1]; exact ⟨_, _, _, rfl⟩)) ?_
        refine need_wp (by first | exact rw_szz (by assumption) | exact rw_szz (.inr rfl)) ?_
        refine need_wp (by simp only [vd1, vd2, vd3, vd4, vd5, vd6, vd7, reduceCtorEq, Option.some.injEq, vn_rw, va_rw, isNone_f, isNone_t, vi_cell_I, vi_cell_E0, vi_cell_E1, vi_cell_A0, vi_cell_A1, vi_cell_A2, vb_ite, vi_ite, updD, w1, List.length_cons, List.length_nil, List.length_append, List.length_set]; first | omega | (grind)) ?_
        refine need_wp (by simp only [vd1, vd2, vd3, vd4, vd5, vd6, vd7, reduceCtorEq, Option.some.injEq, vn_rw, va_rw, isNone_f, isNone_t, vi_cell_I, vi_cell_E0, vi_cell_E1, vi_cell_A0, vi_cell_A1, vi_cell_A2, vb_ite, vi_ite, updD, w1, List.length_cons, List.length_nil, List.length_append, List.length_set]; first | omega | (grind)) ?_
        refine app_wp eI y (⟨a5, b5, 1, [(l.get i).c]⟩ : Rw Int) (by first | rfl | simp only [vd1, vd2, vd3, vd4, vd5, vd6, vd7, reduceCtorEq, Option.some.injEq, vn_rw, va_rw, isNone_f, isNone_t, vi_cell_I, vi_cell_E0, vi_cell_E1, vi_cell_A0, vi_cell_A1, vi_cell_A2, vb_ite, vi_ite, updD, w1]) (by first | rfl | simp only [vd1, vd2, vd3, vd4, vd5, vd6, vd7, reduceCtorEq, Option.some.injEq, vn_rw, va_rw, isNone_f, isNone_t, vi_cell_I, vi_cell_E0, vi_cell_E1, vi_cell_A0, vi_cell_A1, vi_cell_A2, vb_ite, vi_ite, updD, w1]) ?_
        intro a6 b6
        refine need_wp (by first | exact ⟨_, _, _, rfl⟩ | (simp only [vd1, vd2, vd3, vd4, vd5, vd6, vd7, reduceCtorEq, Option.some.injEq, vn_rw, va_rw, isNone_f, isNone_t, vi_cell_I, vi_cell_E0, vi_cell_E1, vi_cell_A0, vi_cell_A1, vi_cell_A2, vb_ite, vi_ite, updD, w1]; exact ⟨_, _, _, rfl⟩)) ?_
        refine need_wp (by first | exact ⟨_, _, _, rfl⟩ | (simp only [vd1, vd2, vd3, vd4, vd5, vd6, vd7, reduceCtorEq, Option.some.injEq, vn_rw, va_rw, isNone_f, isNone_t, vi_cell_I, vi_cell_E0, vi_cell_E1, vi_cell_A0, vi_cell_A1, vi_cell_A2, vb_ite, vi_ite, updD, w1]; exact ⟨_, _, _, rfl⟩)) ?_
        refine need_wp (by first | exact ⟨_, _, _, rfl⟩ | (simp only [vd1, vd2, vd3, vd4, vd5, vd6, vd7, reduceCtorEq, Option.some.injEq, vn_rw, va_rw, isNone_f, isNone_t, vi_cell_I, vi_cell_E0, vi_cell_E1, vi_cell_A0, vi_cell_A1, vi_cell_A2, vb_ite, vi_ite, updD, w1]; exact ⟨_, _, _, rfl⟩)) ?_
        refine again_wp rfl ⟨(⟨a4, b4, 1, x.l ++ [y2.t]⟩ : Rw Int), (⟨a6, b6, 1, y.l ++ [(l.get i).c]⟩ : Rw Int), (i + 1), y2, by simp only [vd1, vd2, vd3, vd4, vd5, vd6, vd7, reduceCtorEq, Option.some.injEq, vn_rw, va_rw, isNone_f, isNone_t, vi_cell_I, vi_cell_E0, vi_cell_E1, vi_cell_A0, vi_cell_A1, vi_cell_A2, vb_ite, vi_ite, updD, w1], ?_⟩ ?_
        · exact ⟨by omega, by omega, .inr rfl, .inr rfl, gy2, tk ++ [(ltr (w s) (l.get i).t, (l.get i).c)], by simp [ex, yt], by simp [ey], by simp; omega, by rw [tot_one]; simp only; omega, hY⟩
        · (try simp only [vd1, vd2, vd3, vd4, vd5, vd6, vd7, reduceCtorEq, Option.some.injEq, vn_rw, va_rw, isNone_f, isNone_t, vi_cell_I, vi_cell_E0, vi_cell_E1, vi_cell_A0, vi_cell_A1, vi_cell_A2, vb_ite, vi_ite, updD, w1]); omega
      · replace c3 : ¬(b2 = true) := by first | simpa only [vd1, vd2, vd3, vd4, vd5, vd6, vd7, reduceCtorEq, Option.some.injEq, vn_rw, va_rw, isNone_f, isNone_t, vi_cell_I, vi_cell_E0, vi_cell_E1, vi_cell_A0, vi_cell_A1, vi_cell_A2, vb_ite, vi_ite, updD, w1] using c3 | (simp only [vd1, vd2, vd3, vd4, vd5, vd6, vd7, reduceCtorEq, Option.some.injEq, vn_rw, va_rw, isNone_f, isNone_t, vi_cell_I, vi_cell_E0, vi_cell_E1, vi_cell_A0, vi_cell_A1, vi_cell_A2, vb_ite, vi_ite, updD, w1] at c3; grind)
        have hN := hE.no (⟨1, (l.get i).t, (l.get i).c⟩ : Ac) (fun h => c3 (by rw [eb2]; exact decide_eq_true h))
        rw [← ey2] at hN
        refine need_wp (by first | exact ⟨_, _, _, rfl⟩ | (simp only [vd1, vd2, vd3, vd4, vd5, vd6, vd7, reduceCtorEq, Option.some.injEq, vn_rw, va_rw, isNone_f, isNone_t, vi_cell_I, vi_cell_E0, vi_cell_E1, vi_cell_A0, vi_cell_A1, vi_cell_A2, vb_ite, vi_ite, updD, w1]; exact ⟨_, _, _, rfl⟩)) ?_
        refine need_wp (by first | exact ⟨_, _, _, rfl⟩ | (simp only [vd1, vd2, vd3, vd4, vd5, vd6, vd7, reduceCtorEq, Option.some.injEq, vn_rw, va_rw, isNone_f, isNone_t, vi_cell_I, vi_cell_E0, vi_cell_E1, vi_cell_A0, vi_cell_A1, vi_cell_A2, vb_ite, vi_ite, updD, w1]; exact ⟨_, _, _, rfl⟩)) ?_
        refine need_wp (by first | exact ⟨_, _, _, rfl⟩ | (simp only [vd1, vd2, vd3, vd4, vd5, vd6, vd7, reduceCtorEq, Option.some.injEq, vn_rw, va_rw, isNone_f, isNone_t, vi_cell_I, vi_cell_E0, vi_cell_E1, vi_cell_A0, vi_cell_A1, vi_cell_A2, vb_ite, vi_ite, updD, w1]; exact ⟨_, _, _, rfl⟩)) ?_
        refine again_wp rfl ⟨x, y, (i + 1), y2, by simp only [vd1, vd2, vd3, vd4, vd5, vd6, vd7, reduceCtorEq, Option.some.injEq, vn_rw, va_rw, isNone_f, isNone_t, vi_cell_I, vi_cell_E0, vi_cell_E1, vi_cell_A0, vi_cell_A1, vi_cell_A2, vb_ite, vi_ite, updD, w1], ?_⟩ ?_
        · exact ⟨by omega, by omega, kx, ky, gy2, tk, ex, ey, by omega, by omega, hN⟩
        · (try simp only [vd1, vd2, vd3, vd4, vd5, vd6, vd7, reduceCtorEq, Option.some.injEq, vn_rw, va_rw, isNone_f, isNone_t, vi_cell_I, vi_cell_E0, vi_cell_E1, vi_cell_A0, vi_cell_A1, vi_cell_A2, vb_ite, vi_ite, updD, w1]); omega
    · replace c2 : ¬(i < (l.l.length : Int)) := by first | simpa only [vd1, vd2, vd3, vd4, vd5, vd6, vd7, reduceCtorEq, Option.some.injEq, vn_rw, va_rw, isNone_f, isNone_t, vi_cell_I, vi_cell_E0, vi_cell_E1, vi_cell_A0, vi_cell_A1, vi_cell_A2, vb_ite, vi_ite, updD] using c2 | (simp only [vd1, vd2, vd3, vd4, vd5, vd6, vd7, reduceCtorEq, Option.some.injEq, vn_rw, va_rw, isNone_f, isNone_t, vi_cell_I, vi_cell_E0, vi_cell_E1, vi_cell_A0, vi_cell_A1, vi_cell_A2, vb_ite, vi_ite, updD] at c2; grind)
      have hn60 : (tk.length : Int) ≤ 60 := by omega
      refine pop_wp ?_
      refine loop_wp (fun bs0 => ∃ (j : Int), bs0 = [aI j] ∧ (0 ≤ j)) (fun bs0 => ((tk.length : Int) - vi (bs0.getD 0 atom0).1).toNat) ?_ ?_
      · refine ⟨0, by simp only [vd1, vd2, vd3, vd4, vd5, vd6, vd7, reduceCtorEq, Option.some.injEq, vn_rw, va_rw, isNone_f, isNone_t, vi_cell_I, vi_cell_E0, vi_cell_E1, vi_cell_A0, vi_cell_A1, vi_cell_A2, vb_ite, vi_ite, updD, Rw.atom, Rw.nil, List.length_nil, List.map_nil], ?_⟩
        exact Int.le_refl _
      rintro _ _ ⟨j, rfl, j0⟩
      refine need_wp (by first | exact ⟨_, _, _, rfl⟩ | (simp only [vd1, vd2, vd3, vd4, vd5, vd6, vd7, reduceCtorEq, Option.some.injEq, vn_rw, va_rw, isNone_f, isNone_t, vi_cell_I, vi_cell_E0, vi_cell_E1, vi_cell_A0, vi_cell_A1, vi_cell_A2, vb_ite, vi_ite, updD]; exact ⟨_, _, _, rfl⟩)) ?_
      refine br_wp (fun c4 => ?_) (fun c4 => ?_)
      · replace c4 : j < (x.l.length : Int) := by first | simpa only [vd1, vd2, vd3, vd4, vd5, vd6, vd7, reduceCtorEq, Option.some.injEq, vn_rw, va_rw, isNone_f, isNone_t, vi_cell_I, vi_cell_E0, vi_cell_E1, vi_cell_A0, vi_cell_A1, vi_cell_A2, vb_ite, vi_ite, updD] using c4 | (simp only [vd1, vd2, vd3, vd4, vd5, vd6, vd7, reduceCtorEq, Option.some.injEq, vn_rw, va_rw, isNone_f, isNone_t, vi_cell_I, vi_cell_E0, vi_cell_E1, vi_cell_A0, vi_cell_A1, vi_cell_A2, vb_ite, vi_ite, updD] at c4; grind)
        refine loop_wp (fun bs0 => ∃ (u : Int) (k : Int), bs0 = [aI u, aI k] ∧ (j ≤ k ∧ k ≤ tk.length ∧ u = tot (win tk j.toNat k.toNat))) (fun bs0 => ((tk.length : Int) - vi (bs0.getD 1 atom0).1).toNat) ?_ ?_
        · refine ⟨0, j, by simp only [vd1, vd2, vd3, vd4, vd5, vd6, vd7, reduceCtorEq, Option.some.injEq, vn_rw, va_rw, isNone_f, isNone_t, vi_cell_I, vi_cell_E0, vi_cell_E1, vi_cell_A0, vi_cell_A1, vi_cell_A2, vb_ite, vi_ite, updD, Rw.atom, Rw.nil, List.length_nil, List.map_nil], ?_⟩
          exact ⟨Int.le_refl _, by omega, by simp [win, tot]⟩
        rintro _ _ ⟨u, k, rfl, ⟨k0, k1, k2⟩⟩
        refine need_wp (by first | exact ⟨_, _, _, rfl⟩ | (simp only [vd1, vd2, vd3, vd4, vd5, vd6, vd7, reduceCtorEq, Option.some.injEq, vn_rw, va_rw, isNone_f, isNone_t, vi_cell_I, vi_cell_E0, vi_cell_E1, vi_cell_A0, vi_cell_A1, vi_cell_A2, vb_ite, vi_ite, updD]; exact ⟨_, _, _, rfl⟩)) ?_
        refine br_wp (fun c5 => ?_) (fun c5 => ?_)
        · replace c5 : k < (x.l.length : Int) := by first | simpa only [vd1, vd2, vd3, vd4, vd5, vd6, vd7, reduceCtorEq, Option.some.injEq, vn_rw, va_rw, isNone_f, isNone_t, vi_cell_I, vi_cell_E0, vi_cell_E1, vi_cell_A0, vi_cell_A1, vi_cell_A2, vb_ite, vi_ite, updD] using c5 | (simp only [vd1, vd2, vd3, vd4, vd5, vd6, vd7, reduceCtorEq, Option.some.injEq, vn_rw, va_rw, isNone_f, isNone_t, vi_cell_I, vi_cell_E0, vi_cell_E1, vi_cell_A0, vi_cell_A1, vi_cell_A2, vb_ite, vi_ite, updD] at c5; grind)
          obtain ⟨hkl, gx⟩ := get_map ex (i := k) (by omega) (by omega)
          obtain ⟨_, gyk⟩ := get_map ey (i := k) (by omega) (by omega)
          obtain ⟨hil, gi⟩ := get_map ex (i := j) (by omega) (by omega)
          have o1 := hE.win_ok (i := j.toNat) (k := k.toNat) (by omega) hkl
          have hs := win_succ (l := tk) (i := j.toNat) (k := k.toNat) (by omega) hkl
          obtain ⟨b1, b2⟩ := hE.tot_le j.toNat (k.toNat + 1)
          obtain ⟨b3, b4⟩ := hE.tot_le j.toNat k.toNat
          have eg := hE.el _ (List.getElem_mem hkl)
          have eh := hE.el _ (List.getElem_mem hil)
          have tr : (w s).t ≤ 9007199254740992 := hE.r.2.2.1
          try simp only at gx gyk gi
          rw [← gx, ← gi] at o1
          rw [← gyk] at hs
          rw [← gx] at eg
          rw [← gi] at eh
          have w1 : IntKind.i64.wrap (u + (y.get k)) = (u + (y.get k)) := wrap_id _ (by omega) (by omega)
          have w2 : IntKind.i64.wrap ((x.get k) - (x.get j)) = ((x.get k) - (x.get j)) := wrap_id _ (by omega) (by omega)
          have w4 : IntKind.i64.wrap (k + 1) = (k + 1) := wrap_id _ (by omega) (by omega)
          have hs2 : tot (win tk j.toNat (k + 1).toNat) = tot (win tk j.toNat k.toNat) + y.get k := by rw [show (k + 1).toNat = k.toNat + 1 by omega]; exact hs
          refine need_wp (by first | exact ⟨_, _, _, rfl⟩ | (simp only [vd1, vd2, vd3, vd4, vd5, vd6, vd7, reduceCtorEq, Option.some.injEq, vn_rw, va_rw, isNone_f, isNone_t, vi_cell_I, vi_cell_E0, vi_cell_E1, vi_cell_A0, vi_cell_A1, vi_cell_A2, vb_ite, vi_ite, updD, w1, w2, w4]; exact ⟨_, _, _, rfl⟩)) ?_
          refine need_wp (by first | exact rw_row _ _ | (simp only [vd1, vd2, vd3, vd4, vd5, vd6, vd7, reduceCtorEq, Option.some.injEq, vn_rw, va_rw, isNone_f, isNone_t, vi_cell_I, vi_cell_E0, vi_cell_E1, vi_cell_A0, vi_cell_A1, vi_cell_A2, vb_ite, vi_ite, updD, w1, w2, w4]; exact ⟨_, _, rfl⟩)) ?_
          refine need_wp (by simp only [vd1, vd2, vd3, vd4, vd5, vd6, vd7, reduceCtorEq, Option.some.injEq, vn_rw, va_rw, isNone_f, isNone_t, vi_cell_I, vi_cell_E0, vi_cell_E1, vi_cell_A0, vi_cell_A1, vi_cell_A2, vb_ite, vi_ite, updD, w1, w2, w4, List.length_cons, List.length_nil, List.length_append, List.length_set]; first | omega | (grind)) ?_
          refine need_wp (by simp only [vd1, vd2, vd3, vd4, vd5, vd6, vd7, reduceCtorEq, Option.some.injEq, vn_rw, va_rw, isNone_f, isNone_t, vi_cell_I, vi_cell_E0, vi_cell_E1, vi_cell_A0, vi_cell_A1, vi_cell_A2, vb_ite, vi_ite, updD, w1, w2, w4, List.length_cons, List.length_nil, List.length_append, List.length_set]; first | omega | (grind)) ?_
          refine need_wp (by first | exact ⟨_, _, _, rfl⟩ | (simp only [vd1, vd2, vd3, vd4, vd5, vd6, vd7, reduceCtorEq, Option.some.injEq, vn_rw, va_rw, isNone_f, isNone_t, vi_cell_I, vi_cell_E0, vi_cell_E1, vi_cell_A0, vi_cell_A1, vi_cell_A2, vb_ite, vi_ite, updD, w1, w2, w4]; exact ⟨_, _, _, rfl⟩)) ?_
          refine need_wp (by first | exact rw_row _ _ | (simp only [vd1, vd2, vd3, vd4, vd5, vd6, vd7, reduceCtorEq, Option.some.injEq, vn_rw, va_rw, isNone_f, isNone_t, vi_cell_I, vi_cell_E0, vi_cell_E1, vi_cell_A0, vi_cell_A1, vi_cell_A2, vb_ite, vi_ite, updD, w1, w2, w4]; exact ⟨_, _, rfl⟩)) ?_
          refine need_wp (by first | exact rw_sz' rfl | exact rw_szn (by assumption) (.inr (by omega)) | (simp only [vd1, vd2, vd3, vd4, vd5, vd6, vd7, reduceCtorEq, Option.some.injEq, vn_rw, va_rw, isNone_f, isNone_t, vi_cell_I, vi_cell_E0, vi_cell_E1, vi_cell_A0, vi_cell_A1, vi_cell_A2, vb_ite, vi_ite, updD, w1, w2, w4]; exact rw_szn (by assumption) (.inr (by omega))) | exact rw_szn (by simp [Rw.ok]) (.inr (by omega))) ?_
          refine need_wp (by simp only [vd1, vd2, vd3, vd4, vd5, vd6, vd7, reduceCtorEq, Option.some.injEq, vn_rw, va_rw, isNone_f, isNone_t, vi_cell_I, vi_cell_E0, vi_cell_E1, vi_cell_A0, vi_cell_A1, vi_cell_A2, vb_ite, vi_ite, updD, w1, w2, w4]; exact kind_Ri (by omega) (by omega)) ?_
          refine need_wp (by first | exact ⟨_, _, _, rfl⟩ | (simp only [vd1, vd2, vd3, vd4, vd5, vd6, vd7, reduceCtorEq, Option.some.injEq, vn_rw, va_rw, isNone_f, isNone_t, vi_cell_I, vi_cell_E0, vi_cell_E1, vi_cell_A0, vi_cell_A1, vi_cell_A2, vb_ite, vi_ite, updD, w1, w2, w4]; exact ⟨_, _, _, rfl⟩)) ?_
          refine need_wp (by first | exact rw_row _ _ | (simp only [vd1, vd2, vd3, vd4, vd5, vd6, vd7, reduceCtorEq, Option.some.injEq, vn_rw, va_rw, isNone_f, isNone_t, vi_cell_I, vi_cell_E0, vi_cell_E1, vi_cell_A0, vi_cell_A1, vi_cell_A2, vb_ite, vi_ite, updD, w1, w2, w4]; exact ⟨_, _, rfl⟩)) ?_
          refine need_wp (by first | exact ⟨_, _, _, rfl⟩ | (simp only [vd1, vd2, vd3, vd4, vd5, vd6, vd7, reduceCtorEq, Option.some.injEq, vn_rw, va_rw, isNone_f, isNone_t, vi_cell_I, vi_cell_E0, vi_cell_E1, vi_cell_A0, vi_cell_A1, vi_cell_A2, vb_ite, vi_ite, updD, w1, w2, w4]; exact ⟨_, _, _, rfl⟩)) ?_
          refine need_wp (by first | exact rw_row _ _ | (simp only [vd1, vd2, vd3, vd4, vd5, vd6, vd7, reduceCtorEq, Option.some.injEq, vn_rw, va_rw, isNone_f, isNone_t, vi_cell_I, vi_cell_E0, vi_cell_E1, vi_cell_A0, vi_cell_A1, vi_cell_A2, vb_ite, vi_ite, updD, w1, w2, w4]; exact ⟨_, _, rfl⟩)) ?_
          refine need_wp (by simp only [vd1, vd2, vd3, vd4, vd5, vd6, vd7, reduceCtorEq, Option.some.injEq, vn_rw, va_rw, isNone_f, isNone_t, vi_cell_I, vi_cell_E0, vi_cell_E1, vi_cell_A0, vi_cell_A1, vi_cell_A2, vb_ite, vi_ite, updD, w1, w2, w4, List.length_cons, List.length_nil, List.length_append, List.length_set]; first | omega | (grind)) ?_
          refine need_wp (by first | exact ⟨_, _, _, rfl⟩ | (simp only [vd1, vd2, vd3, vd4, vd5, vd6, vd7, reduceCtorEq, Option.some.injEq, vn_rw, va_rw, isNone_f, isNone_t, vi_cell_I, vi_cell_E0, vi_cell_E1, vi_cell_A0, vi_cell_A1, vi_cell_A2, vb_ite, vi_ite, updD, w1, w2, w4]; exact ⟨_, _, _, rfl⟩)) ?_
          refine need_wp (by first | exact rw_row _ _ | (simp only [vd1, vd2, vd3, vd4, vd5, vd6, vd7, reduceCtorEq, Option.some.injEq, vn_rw, va_rw, isNone_f, isNone_t, vi_cell_I, vi_cell_E0, vi_cell_E1, vi_cell_A0, vi_cell_A1, vi_cell_A2, vb_ite, vi_ite, updD, w1, w2, w4]; exact ⟨_, _, rfl⟩)) ?_
          refine need_wp (by first | exact rw_sz' rfl | exact rw_szn (by assumption) (.inr (by omega)) | (simp only [vd1, vd2, vd3, vd4, vd5, vd6, vd7, reduceCtorEq, Option.some.injEq, vn_rw, va_rw, isNone_f, isNone_t, vi_cell_I, vi_cell_E0, vi_cell_E1, vi_cell_A0, vi_cell_A1, vi_cell_A2, vb_ite, vi_ite, updD, w1, w2, w4]; exact rw_szn (by assumption) (.inr (by omega))) | exact rw_szn (by simp [Rw.ok]) (.inr (by omega))) ?_
          refine need_wp (by simp only [vd1, vd2, vd3, vd4, vd5, vd6, vd7, reduceCtorEq, Option.some.injEq, vn_rw, va_rw, isNone_f, isNone_t, vi_cell_I, vi_cell_E0, vi_cell_E1, vi_cell_A0, vi_cell_A1, vi_cell_A2, vb_ite, vi_ite, updD, w1, w2, w4]; exact kind_Ri (by omega) (by omega)) ?_
          refine need_wp (by first | exact ⟨_, _, _, rfl⟩ | (simp only [vd1, vd2, vd3, vd4, vd5, vd6, vd7, reduceCtorEq, Option.some.injEq, vn_rw, va_rw, isNone_f, isNone_t, vi_cell_I, vi_cell_E0, vi_cell_E1, vi_cell_A0, vi_cell_A1, vi_cell_A2, vb_ite, vi_ite, updD, w1, w2, w4]; exact ⟨_, _, _, rfl⟩)) ?_
          refine need_wp (by first | exact rw_row _ _ | (simp only [vd1, vd2, vd3, vd4, vd5, vd6, vd7, reduceCtorEq, Option.some.injEq, vn_rw, va_rw, isNone_f, isNone_t, vi_cell_I, vi_cell_E0, vi_cell_E1, vi_cell_A0, vi_cell_A1, vi_cell_A2, vb_ite, vi_ite, updD, w1, w2, w4]; exact ⟨_, _, rfl⟩)) ?_
          refine need_wp (by first | exact rw_sz' rfl | exact rw_szn (by assumption) (.inr (by omega)) | (simp only [vd1, vd2, vd3, vd4, vd5, vd6, vd7, reduceCtorEq, Option.some.injEq, vn_rw, va_rw, isNone_f, isNone_t, vi_cell_I, vi_cell_E0, vi_cell_E1, vi_cell_A0, vi_cell_A1, vi_cell_A2, vb_ite, vi_ite, updD, w1, w2, w4]; exact rw_szn (by assumption) (.inr (by omega))) | exact rw_szn (by simp [Rw.ok]) (.inr (by omega))) ?_
          refine need_wp (by simp only [vd1, vd2, vd3, vd4, vd5, vd6, vd7, reduceCtorEq, Option.some.injEq, vn_rw, va_rw, isNone_f, isNone_t, vi_cell_I, vi_cell_E0, vi_cell_E1, vi_cell_A0, vi_cell_A1, vi_cell_A2, vb_ite, vi_ite, updD, w1, w2, w4]; exact kind_Ri (by omega) (by omega)) ?_
          refine br_wp (fun c6 => ?_) (fun c6 => ?_)
          · replace c6 : ((x.get k) - (x.get j)) < (ofW a b c).p := by first | simpa only [vd1, vd2, vd3, vd4, vd5, vd6, vd7, reduceCtorEq, Option.some.injEq, vn_rw, va_rw, isNone_f, isNone_t, vi_cell_I, vi_cell_E0, vi_cell_E1, vi_cell_A0, vi_cell_A1, vi_cell_A2, vb_ite, vi_ite, updD, w1, w2, w4] using c6 | (simp only [vd1, vd2, vd3, vd4, vd5, vd6, vd7, reduceCtorEq, Option.some.injEq, vn_rw, va_rw, isNone_f, isNone_t, vi_cell_I, vi_cell_E0, vi_cell_E1, vi_cell_A0, vi_cell_A1, vi_cell_A2, vb_ite, vi_ite, updD, w1, w2, w4] at c6; grind)
            refine br_wp (fun c7 => ?_) (fun c7 => ?_)
            · replace c7 : (u + (y.get k)) > (ofW a b c).l := by first | simpa only [vd1, vd2, vd3, vd4, vd5, vd6, vd7, reduceCtorEq, Option.some.injEq, vn_rw, va_rw, isNone_f, isNone_t, vi_cell_I, vi_cell_E0, vi_cell_E1, vi_cell_A0, vi_cell_A1, vi_cell_A2, vb_ite, vi_ite, updD, w1, w2, w4] using c7 | (simp only [vd1, vd2, vd3, vd4, vd5, vd6, vd7, reduceCtorEq, Option.some.injEq, vn_rw, va_rw, isNone_f, isNone_t, vi_cell_I, vi_cell_E0, vi_cell_E1, vi_cell_A0, vi_cell_A1, vi_cell_A2, vb_ite, vi_ite, updD, w1, w2, w4] at c7; grind)
              exfalso; have := o1 (by omega); omega
            · replace c7 : ¬((u + (y.get k)) > (ofW a b c).l) := by first | simpa only [vd1, vd2, vd3, vd4, vd5, vd6, vd7, reduceCtorEq, Option.some.injEq, vn_rw, va_rw, isNone_f, isNone_t, vi_cell_I, vi_cell_E0, vi_cell_E1, vi_cell_A0, vi_cell_A1, vi_cell_A2, vb_ite, vi_ite, updD, w1, w2, w4] using c7 | (simp only [vd1, vd2, vd3, vd4, vd5, vd6, vd7, reduceCtorEq, Option.some.injEq, vn_rw, va_rw, isNone_f, isNone_t, vi_cell_I, vi_cell_E0, vi_cell_E1, vi_cell_A0, vi_cell_A1, vi_cell_A2, vb_ite, vi_ite, updD, w1, w2, w4] at c7; grind)
              refine again_wp rfl ⟨(u + (y.get k)), (k + 1), by simp only [vd1, vd2, vd3, vd4, vd5, vd6, vd7, reduceCtorEq, Option.some.injEq, vn_rw, va_rw, isNone_f, isNone_t, vi_cell_I, vi_cell_E0, vi_cell_E1, vi_cell_A0, vi_cell_A1, vi_cell_A2, vb_ite, vi_ite, updD, w1, w2, w4], ?_⟩ ?_
              · exact ⟨by omega, by omega, by rw [k2, ← hs2]⟩
              · (try simp only [vd1, vd2, vd3, vd4, vd5, vd6, vd7, reduceCtorEq, Option.some.injEq, vn_rw, va_rw, isNone_f, isNone_t, vi_cell_I, vi_cell_E0, vi_cell_E1, vi_cell_A0, vi_cell_A1, vi_cell_A2, vb_ite, vi_ite, updD, w1, w2, w4]); omega
          · replace c6 : ¬(((x.get k) - (x.get j)) < (ofW a b c).p) := by first | simpa only [vd1, vd2, vd3, vd4, vd5, vd6, vd7, reduceCtorEq, Option.some.injEq, vn_rw, va_rw, isNone_f, isNone_t, vi_cell_I, vi_cell_E0, vi_cell_E1, vi_cell_A0, vi_cell_A1, vi_cell_A2, vb_ite, vi_ite, updD, w1, w2, w4] using c6 | (simp only [vd1, vd2, vd3, vd4, vd5, vd6, vd7, reduceCtorEq, Option.some.injEq, vn_rw, va_rw, isNone_f, isNone_t, vi_cell_I, vi_cell_E0, vi_cell_E1, vi_cell_A0, vi_cell_A1, vi_cell_A2, vb_ite, vi_ite, updD, w1, w2, w4] at c6; grind)
            refine again_wp rfl ⟨(u + (y.get k)), (k + 1), by simp only [vd1, vd2, vd3, vd4, vd5, vd6, vd7, reduceCtorEq, Option.some.injEq, vn_rw, va_rw, isNone_f, isNone_t, vi_cell_I, vi_cell_E0, vi_cell_E1, vi_cell_A0, vi_cell_A1, vi_cell_A2, vb_ite, vi_ite, updD, w1, w2, w4], ?_⟩ ?_
            · exact ⟨by omega, by omega, by rw [k2, ← hs2]⟩
            · (try simp only [vd1, vd2, vd3, vd4, vd5, vd6, vd7, reduceCtorEq, Option.some.injEq, vn_rw, va_rw, isNone_f, isNone_t, vi_cell_I, vi_cell_E0, vi_cell_E1, vi_cell_A0, vi_cell_A1, vi_cell_A2, vb_ite, vi_ite, updD, w1, w2, w4]); omega
        · replace c5 : ¬(k < (x.l.length : Int)) := by first | simpa only [vd1, vd2, vd3, vd4, vd5, vd6, vd7, reduceCtorEq, Option.some.injEq, vn_rw, va_rw, isNone_f, isNone_t, vi_cell_I, vi_cell_E0, vi_cell_E1, vi_cell_A0, vi_cell_A1, vi_cell_A2, vb_ite, vi_ite, updD] using c5 | (simp only [vd1, vd2, vd3, vd4, vd5, vd6, vd7, reduceCtorEq, Option.some.injEq, vn_rw, va_rw, isNone_f, isNone_t, vi_cell_I, vi_cell_E0, vi_cell_E1, vi_cell_A0, vi_cell_A1, vi_cell_A2, vb_ite, vi_ite, updD] at c5; grind)
          refine pop_wp ?_
          refine again_wp rfl ⟨(IntKind.i64.wrap (j + 1)), by simp only [vd1, vd2, vd3, vd4, vd5, vd6, vd7, reduceCtorEq, Option.some.injEq, vn_rw, va_rw, isNone_f, isNone_t, vi_cell_I, vi_cell_E0, vi_cell_E1, vi_cell_A0, vi_cell_A1, vi_cell_A2, vb_ite, vi_ite, updD], ?_⟩ ?_
          · have w0 : IntKind.i64.wrap (j + 1) = j + 1 := wrap_id _ (by omega) (by omega); simp only [w0]; omega
          · (try simp only [vd1, vd2, vd3, vd4, vd5, vd6, vd7, reduceCtorEq, Option.some.injEq, vn_rw, va_rw, isNone_f, isNone_t, vi_cell_I, vi_cell_E0, vi_cell_E1, vi_cell_A0, vi_cell_A1, vi_cell_A2, vb_ite, vi_ite, updD]); have w0 : IntKind.i64.wrap (j + 1) = j + 1 := wrap_id _ (by omega) (by omega); simp only [w0]; omega
      · replace c4 : ¬(j < (x.l.length : Int)) := by first | simpa only [vd1, vd2, vd3, vd4, vd5, vd6, vd7, reduceCtorEq, Option.some.injEq, vn_rw, va_rw, isNone_f, isNone_t, vi_cell_I, vi_cell_E0, vi_cell_E1, vi_cell_A0, vi_cell_A1, vi_cell_A2, vb_ite, vi_ite, updD] using c4 | (simp only [vd1, vd2, vd3, vd4, vd5, vd6, vd7, reduceCtorEq, Option.some.injEq, vn_rw, va_rw, isNone_f, isNone_t, vi_cell_I, vi_cell_E0, vi_cell_E1, vi_cell_A0, vi_cell_A1, vi_cell_A2, vb_ite, vi_ite, updD] at c4; grind)
        refine pop_wp ?_
        refine call_fun (()) rfl (by simp only [vd1, vd2, vd3, vd4, vd5, vd6, vd7, reduceCtorEq, Option.some.injEq, vn_rw, va_rw, isNone_f, isNone_t, vi_cell_I, vi_cell_E0, vi_cell_E1, vi_cell_A0, vi_cell_A1, vi_cell_A2, vb_ite, vi_ite, updD]) trivial ?_
        refine ret_wp ?_
        try dsimp only
        rfl
  · replace c1 : ¬((l.l.length : Int) ≤ 60) := by first | simpa only [vd1, vd2, vd3, vd4, vd5, vd6, vd7, reduceCtorEq, Option.some.injEq, vn_rw, va_rw, isNone_f, isNone_t, vi_cell_I, vi_cell_E0, vi_cell_E1, vi_cell_A0, vi_cell_A1, vi_cell_A2, vb_ite, vi_ite, updD] using c1 | (simp only [vd1, vd2, vd3, vd4, vd5, vd6, vd7, reduceCtorEq, Option.some.injEq, vn_rw, va_rw, isNone_f, isNone_t, vi_cell_I, vi_cell_E0, vi_cell_E1, vi_cell_A0, vi_cell_A1, vi_cell_A2, vb_ite, vi_ite, updD] at c1; grind)
    refine call_fun (()) rfl (by simp only [vd1, vd2, vd3, vd4, vd5, vd6, vd7, reduceCtorEq, Option.some.injEq, vn_rw, va_rw, isNone_f, isNone_t, vi_cell_I, vi_cell_E0, vi_cell_E1, vi_cell_A0, vi_cell_A1, vi_cell_A2, vb_ite, vi_ite, updD]) trivial ?_
    refine ret_wp ?_
    try dsimp only
    rfl
end Go.Proofs.YtnpbhlojkjbabaaK
