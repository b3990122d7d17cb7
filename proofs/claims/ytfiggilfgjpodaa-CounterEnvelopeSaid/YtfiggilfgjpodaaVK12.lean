import Derived.Test.YtfiggilfgjpodaaVK11
set_option linter.unusedSimpArgs false
set_option linter.unusedVariables false
namespace Go.Proofs.YtfiggilfgjpodaaK
open Go Go.Proofs.YtfiggilfgjpodaaV Go.Proofs
theorem rg {p : Pol} {s : Stt} (h : right p s) : s.g.n = 0 := h.2.2.2.2.2.2
theorem okOf {m q : Int} (h1 : 0 ≤ m) (h2 : m < 65536) (h3 : 0 ≤ q) (h4 : q < 65536) : okP (ofP m q) := ⟨rfl, by show 1 ≤ m + 1; omega, by show m + 1 ≤ 1048576; omega, by show 1 ≤ q + 1; omega, by show q + 1 ≤ 1099511627776; omega, rfl, rfl⟩
def kLaw4 (sg : Sig) : Sig × Con := (sg, mkFun (fun x : Int × Int × Sl × Int × Int => ([aK .u16 x.1, aK .u16 x.2.1, Sl.atom x.2.2.1, aK .u8 x.2.2.2.1, aK .u8 x.2.2.2.2] : List Atom)) (fun x => actsOk x.2.2.1 ∧ (0 ≤ x.1 ∧ x.1 < 65536 ∧ 0 ≤ x.2.1 ∧ x.2.1 < 65536) ∧ (0 ≤ x.2.2.2.1 ∧ x.2.2.2.1 < 256 ∧ 0 ≤ x.2.2.2.2 ∧ x.2.2.2.2 < 256)) (fun _ => [aB true]))
set_option maxHeartbeats 4000000 in
theorem h4 : holds Try.prog (kLaw4 sg4) := by
  refine fn_holds (l := [kSmall sg10, kKnown sg11, kOf sg12, kNew sg13, kDo sg14, kSame sg15]) ⟨h10, h11, h12, h13, h14, h15, trivial⟩ hP rs4 (inj_of (fun l : List Atom => ((vi (l.getD 0 atom0).1, vi (l.getD 1 atom0).1, (⟨va (l.getD 2 atom0).1, vn (l.getD 2 atom0).1, vc (l.getD 2 atom0).1, (l.getD 2 atom0).2⟩ : Sl), vi (l.getD 3 atom0).1, vi (l.getD 4 atom0).1) : Int × Int × Sl × Int × Int)) (fun _ => rfl)) Try.func4 (by kernel_rfl) (c := code Try.f4) (by kernel_rfl) (an := an4) (by kernel_rfl) (pk := pk4) rfl (t := t4) (by kernel_rfl) ?_
  rintro ⟨m, q, l, a, b⟩ ⟨hl, ⟨u1, u2, u3, u4⟩, ⟨u5, u6, u7, u8⟩⟩
  refine ⟨by simp [pk4, KindsOk, encPS, encPSn, encPSnc, encPSA, encPn, encSS, encI, Pol.enc, Stt.enc, Ac.enc, Sl.atom, Sl.nil, Stt.zero, RK.ok], ?_⟩
  unfold t4
  simp only at hl u1 u2 u3 u4 u5 u6 u7 u8
  have hwa := wrap_id a (by omega) (by omega)
  have hwb := wrap_id b (by omega) (by omega)
  obtain ⟨x, hx⟩ : ∃ x : Int, x = 1 + a := ⟨_, rfl⟩
  obtain ⟨y, hy⟩ : ∃ y : Int, y = 1 + b := ⟨_, rfl⟩
  have hwx : IntKind.i64.wrap (1 + a) = x := by rw [hx]; exact wrap_id _ (by omega) (by omega)
  have hwy : IntKind.i64.wrap (1 + b) = y := by rw [hy]; exact wrap_id _ (by omega) (by omega)
  have hwxy : IntKind.i64.wrap (x + y) = x + y := wrap_id _ (by omega) (by omega)
  refine call_fun (l) rfl (by simp only [vd1, vd2, vd3, vd4, vd5, vd6, vd7, reduceCtorEq, Option.some.injEq, vb_ite, vi_ite, List.getD_cons_zero, List.getD_cons_succ, hwa, hwb, hwx, hwy, hwxy]) trivial ?_
  refine br_wp (fun c1 => ?_) (fun c1 => ?_)
  · have hn : l.n ≤ 60 := by simp only [vd1, vd2, vd3, vd4, vd5, vd6, vd7, reduceCtorEq, Option.some.injEq, vb_ite, vi_ite, List.getD_cons_zero, List.getD_cons_succ, hwa, hwb, hwx, hwy, hwxy] at c1; omega
    refine call_fun ((m, q)) rfl (by simp only [vd1, vd2, vd3, vd4, vd5, vd6, vd7, reduceCtorEq, Option.some.injEq, vb_ite, vi_ite, List.getD_cons_zero, List.getD_cons_succ, hwa, hwb, hwx, hwy, hwxy]) ⟨u1, u2, u3, u4⟩ ?_
    refine call_fun ((((ofP m q)), 0)) rfl (by simp only [vd1, vd2, vd3, vd4, vd5, vd6, vd7, reduceCtorEq, Option.some.injEq, vb_ite, vi_ite, List.getD_cons_zero, List.getD_cons_succ, hwa, hwb, hwx, hwy, hwxy]) trivial ?_
    refine need_wp ?_ ?_
    · first | exact ⟨_, _, _, rfl⟩ | exact acts_row hl | exact acts_sz hl | (simp only [vd1, vd2, vd3, vd4, vd5, vd6, vd7, reduceCtorEq, Option.some.injEq, vb_ite, vi_ite, List.getD_cons_zero, List.getD_cons_succ, hwa, hwb, hwx, hwy, hwxy]; exact ⟨_, rfl⟩) | (simp only [vd1, vd2, vd3, vd4, vd5, vd6, vd7, reduceCtorEq, Option.some.injEq, vb_ite, vi_ite, List.getD_cons_zero, List.getD_cons_succ, hwa, hwb, hwx, hwy, hwxy] at *; grind)
    refine loop_wp (fun bs0 => ∃ (i : Int) (s : Stt), bs0 = [aI i, aI s.t, aI s.v, aI s.h, Sl.atom s.g] ∧ (0 ≤ i ∧ i ≤ l.n ∧ right (ofP m q) s)) (fun bs0 => (l.n - vi (bs0.getD 0 atom0).1).toNat) ?_ ?_
    · refine ⟨0, (new_ ((ofP m q)) 0), by simp only [vd1, vd2, vd3, vd4, vd5, vd6, vd7, reduceCtorEq, Option.some.injEq, vb_ite, vi_ite, List.getD_cons_zero, List.getD_cons_succ, hwa, hwb, hwx, hwy, hwxy], ?_⟩
      exact ⟨by omega, by omega, right_new (okOf u1 u2 u3 u4)⟩
    rintro _ _ ⟨i, s, rfl, ⟨i0, i1, hr⟩⟩
    refine need_wp ?_ ?_
    · first | exact ⟨_, _, _, rfl⟩ | exact acts_row hl | exact acts_sz hl | (simp only [vd1, vd2, vd3, vd4, vd5, vd6, vd7, reduceCtorEq, Option.some.injEq, vb_ite, vi_ite, List.getD_cons_zero, List.getD_cons_succ, hwa, hwb, hwx, hwy, hwxy]; exact ⟨_, rfl⟩) | (simp only [vd1, vd2, vd3, vd4, vd5, vd6, vd7, reduceCtorEq, Option.some.injEq, vb_ite, vi_ite, List.getD_cons_zero, List.getD_cons_succ, hwa, hwb, hwx, hwy, hwxy] at *; grind)
    refine br_wp (fun c2 => ?_) (fun c2 => ?_)
    · have hi : i < l.n := by simp only [vd1, vd2, vd3, vd4, vd5, vd6, vd7, reduceCtorEq, Option.some.injEq, vb_ite, vi_ite, List.getD_cons_zero, List.getD_cons_succ, hwa, hwb, hwx, hwy, hwxy] at c2; omega
      obtain ⟨a0, z0, z1, z2⟩ := acts_at hl i0 hi
      refine need_wp ?_ ?_
      · first | exact ⟨_, _, _, rfl⟩ | exact acts_row hl | exact acts_sz hl | (simp only [vd1, vd2, vd3, vd4, vd5, vd6, vd7, reduceCtorEq, Option.some.injEq, vb_ite, vi_ite, List.getD_cons_zero, List.getD_cons_succ, hwa, hwb, hwx, hwy, hwxy, z0, z1, z2]; exact ⟨_, rfl⟩) | (simp only [vd1, vd2, vd3, vd4, vd5, vd6, vd7, reduceCtorEq, Option.some.injEq, vb_ite, vi_ite, List.getD_cons_zero, List.getD_cons_succ, hwa, hwb, hwx, hwy, hwxy, z0, z1, z2] at *; grind)
      refine need_wp ?_ ?_
      · first | exact ⟨_, _, _, rfl⟩ | exact acts_row hl | exact acts_sz hl | (simp only [vd1, vd2, vd3, vd4, vd5, vd6, vd7, reduceCtorEq, Option.some.injEq, vb_ite, vi_ite, List.getD_cons_zero, List.getD_cons_succ, hwa, hwb, hwx, hwy, hwxy, z0, z1, z2]; exact ⟨_, rfl⟩) | (simp only [vd1, vd2, vd3, vd4, vd5, vd6, vd7, reduceCtorEq, Option.some.injEq, vb_ite, vi_ite, List.getD_cons_zero, List.getD_cons_succ, hwa, hwb, hwx, hwy, hwxy, z0, z1, z2] at *; grind)
      refine need_wp ?_ ?_
      · first | exact ⟨_, _, _, rfl⟩ | exact acts_row hl | exact acts_sz hl | (simp only [vd1, vd2, vd3, vd4, vd5, vd6, vd7, reduceCtorEq, Option.some.injEq, vb_ite, vi_ite, List.getD_cons_zero, List.getD_cons_succ, hwa, hwb, hwx, hwy, hwxy, z0, z1, z2]; exact ⟨_, rfl⟩) | (simp only [vd1, vd2, vd3, vd4, vd5, vd6, vd7, reduceCtorEq, Option.some.injEq, vb_ite, vi_ite, List.getD_cons_zero, List.getD_cons_succ, hwa, hwb, hwx, hwy, hwxy, z0, z1, z2] at *; grind)
      refine need_wp ?_ ?_
      · first | exact ⟨_, _, _, rfl⟩ | exact acts_row hl | exact acts_sz hl | (simp only [vd1, vd2, vd3, vd4, vd5, vd6, vd7, reduceCtorEq, Option.some.injEq, vb_ite, vi_ite, List.getD_cons_zero, List.getD_cons_succ, hwa, hwb, hwx, hwy, hwxy, z0, z1, z2]; exact ⟨_, rfl⟩) | (simp only [vd1, vd2, vd3, vd4, vd5, vd6, vd7, reduceCtorEq, Option.some.injEq, vb_ite, vi_ite, List.getD_cons_zero, List.getD_cons_succ, hwa, hwb, hwx, hwy, hwxy, z0, z1, z2] at *; grind)
      refine need_wp ?_ ?_
      · first | exact ⟨_, _, _, rfl⟩ | exact acts_row hl | exact acts_sz hl | (simp only [vd1, vd2, vd3, vd4, vd5, vd6, vd7, reduceCtorEq, Option.some.injEq, vb_ite, vi_ite, List.getD_cons_zero, List.getD_cons_succ, hwa, hwb, hwx, hwy, hwxy, z0, z1, z2]; exact ⟨_, rfl⟩) | (simp only [vd1, vd2, vd3, vd4, vd5, vd6, vd7, reduceCtorEq, Option.some.injEq, vb_ite, vi_ite, List.getD_cons_zero, List.getD_cons_succ, hwa, hwb, hwx, hwy, hwxy, z0, z1, z2] at *; grind)
      refine need_wp ?_ ?_
      · first | exact ⟨_, _, _, rfl⟩ | exact acts_row hl | exact acts_sz hl | (simp only [vd1, vd2, vd3, vd4, vd5, vd6, vd7, reduceCtorEq, Option.some.injEq, vb_ite, vi_ite, List.getD_cons_zero, List.getD_cons_succ, hwa, hwb, hwx, hwy, hwxy, z0, z1, z2]; exact ⟨_, rfl⟩) | (simp only [vd1, vd2, vd3, vd4, vd5, vd6, vd7, reduceCtorEq, Option.some.injEq, vb_ite, vi_ite, List.getD_cons_zero, List.getD_cons_succ, hwa, hwb, hwx, hwy, hwxy, z0, z1, z2] at *; grind)
      refine need_wp ?_ ?_
      · first | exact ⟨_, _, _, rfl⟩ | exact acts_row hl | exact acts_sz hl | (simp only [vd1, vd2, vd3, vd4, vd5, vd6, vd7, reduceCtorEq, Option.some.injEq, vb_ite, vi_ite, List.getD_cons_zero, List.getD_cons_succ, hwa, hwb, hwx, hwy, hwxy, z0, z1, z2]; exact ⟨_, rfl⟩) | (simp only [vd1, vd2, vd3, vd4, vd5, vd6, vd7, reduceCtorEq, Option.some.injEq, vb_ite, vi_ite, List.getD_cons_zero, List.getD_cons_succ, hwa, hwb, hwx, hwy, hwxy, z0, z1, z2] at *; grind)
      refine need_wp ?_ ?_
      · first | exact ⟨_, _, _, rfl⟩ | exact acts_row hl | exact acts_sz hl | (simp only [vd1, vd2, vd3, vd4, vd5, vd6, vd7, reduceCtorEq, Option.some.injEq, vb_ite, vi_ite, List.getD_cons_zero, List.getD_cons_succ, hwa, hwb, hwx, hwy, hwxy, z0, z1, z2]; exact ⟨_, rfl⟩) | (simp only [vd1, vd2, vd3, vd4, vd5, vd6, vd7, reduceCtorEq, Option.some.injEq, vb_ite, vi_ite, List.getD_cons_zero, List.getD_cons_succ, hwa, hwb, hwx, hwy, hwxy, z0, z1, z2] at *; grind)
      refine need_wp ?_ ?_
      · first | exact ⟨_, _, _, rfl⟩ | exact acts_row hl | exact acts_sz hl | (simp only [vd1, vd2, vd3, vd4, vd5, vd6, vd7, reduceCtorEq, Option.some.injEq, vb_ite, vi_ite, List.getD_cons_zero, List.getD_cons_succ, hwa, hwb, hwx, hwy, hwxy, z0, z1, z2]; exact ⟨_, rfl⟩) | (simp only [vd1, vd2, vd3, vd4, vd5, vd6, vd7, reduceCtorEq, Option.some.injEq, vb_ite, vi_ite, List.getD_cons_zero, List.getD_cons_succ, hwa, hwb, hwx, hwy, hwxy, z0, z1, z2] at *; grind)
      refine call_fun ((((ofP m q)), s, a0)) rfl (by simp only [vd1, vd2, vd3, vd4, vd5, vd6, vd7, reduceCtorEq, Option.some.injEq, vb_ite, vi_ite, List.getD_cons_zero, List.getD_cons_succ, hwa, hwb, hwx, hwy, hwxy, z0, z1, z2]) trivial ?_
      refine need_wp ?_ ?_
      · first | exact ⟨_, _, _, rfl⟩ | exact acts_row hl | exact acts_sz hl | (simp only [vd1, vd2, vd3, vd4, vd5, vd6, vd7, reduceCtorEq, Option.some.injEq, vb_ite, vi_ite, List.getD_cons_zero, List.getD_cons_succ, hwa, hwb, hwx, hwy, hwxy, z0, z1, z2]; exact ⟨_, rfl⟩) | (simp only [vd1, vd2, vd3, vd4, vd5, vd6, vd7, reduceCtorEq, Option.some.injEq, vb_ite, vi_ite, List.getD_cons_zero, List.getD_cons_succ, hwa, hwb, hwx, hwy, hwxy, z0, z1, z2] at *; grind)
      refine again_wp rfl ⟨(IntKind.i64.wrap (i + 1)), (doN ((ofP m q)) s a0), by simp only [vd1, vd2, vd3, vd4, vd5, vd6, vd7, reduceCtorEq, Option.some.injEq, vb_ite, vi_ite, List.getD_cons_zero, List.getD_cons_succ, hwa, hwb, hwx, hwy, hwxy, z0, z1, z2], ?_⟩ ?_
      · have hw := wrap_id (i + 1) (by omega) (by omega); simp only [vd1, vd2, vd3, vd4, vd5, vd6, vd7, reduceCtorEq, Option.some.injEq, vb_ite, vi_ite, List.getD_cons_zero, List.getD_cons_succ, hwa, hwb, hwx, hwy, hwxy, z0, z1, z2, hw]; exact ⟨by omega, by omega, right_do a0 hr⟩
      · have hw := wrap_id (i + 1) (by omega) (by omega); simp only [vd1, vd2, vd3, vd4, vd5, vd6, vd7, reduceCtorEq, Option.some.injEq, vb_ite, vi_ite, List.getD_cons_zero, List.getD_cons_succ, hwa, hwb, hwx, hwy, hwxy, z0, z1, z2, hw]; omega
    · have f1 := halves1 (x := x) (y := y) hr (by omega) (by omega)
      have f2 := halves2 (x := x) (y := y) hr (by omega) (by omega)
      have f3 := halves3 (p := ofP m q) (s := s) (c := x + y)
      have f4 := halves4 (x := x) (y := y) hr (by omega) (by omega)
      refine pop_wp ?_
      refine call_fun ((((ofP m q)), s, (⟨1, s.t, (x + y)⟩ : Ac))) rfl (by simp only [vd1, vd2, vd3, vd4, vd5, vd6, vd7, reduceCtorEq, Option.some.injEq, vb_ite, vi_ite, List.getD_cons_zero, List.getD_cons_succ, hwa, hwb, hwx, hwy, hwxy]) trivial ?_
      refine call_fun ((((ofP m q)), s, (⟨1, s.t, x⟩ : Ac))) rfl (by simp only [vd1, vd2, vd3, vd4, vd5, vd6, vd7, reduceCtorEq, Option.some.injEq, vb_ite, vi_ite, List.getD_cons_zero, List.getD_cons_succ, hwa, hwb, hwx, hwy, hwxy]) trivial ?_
      refine call_fun ((((ofP m q)), (doN ((ofP m q)) s (⟨1, s.t, x⟩ : Ac)), (⟨1, s.t, y⟩ : Ac))) rfl (by simp only [vd1, vd2, vd3, vd4, vd5, vd6, vd7, reduceCtorEq, Option.some.injEq, vb_ite, vi_ite, List.getD_cons_zero, List.getD_cons_succ, hwa, hwb, hwx, hwy, hwxy]) trivial ?_
      refine br_wp (fun c3 => ?_) (fun c3 => ?_)
      · refine br_wp (fun c4 => ?_) (fun c4 => ?_)
        · refine br_wp (fun c5 => ?_) (fun c5 => ?_)
          · refine call_fun (((doN ((ofP m q)) s (⟨1, s.t, (x + y)⟩ : Ac)), (doN ((ofP m q)) (doN ((ofP m q)) s (⟨1, s.t, x⟩ : Ac)) (⟨1, s.t, y⟩ : Ac)))) rfl (by simp only [vd1, vd2, vd3, vd4, vd5, vd6, vd7, reduceCtorEq, Option.some.injEq, vb_ite, vi_ite, List.getD_cons_zero, List.getD_cons_succ, hwa, hwb, hwx, hwy, hwxy]) ⟨lgOk_nil (rg (p := ofP m q) (by repeat (first | exact hr | apply right_do | apply right_adv))), lgOk_nil (rg (p := ofP m q) (by repeat (first | exact hr | apply right_do | apply right_adv)))⟩ ?_
            refine br_wp (fun c6 => ?_) (fun c6 => ?_)
            · refine call_fun ((((ofP m q)), s, (⟨2, s.t, (x + y)⟩ : Ac))) rfl (by simp only [vd1, vd2, vd3, vd4, vd5, vd6, vd7, reduceCtorEq, Option.some.injEq, vb_ite, vi_ite, List.getD_cons_zero, List.getD_cons_succ, hwa, hwb, hwx, hwy, hwxy]) trivial ?_
              refine br_wp (fun c7 => ?_) (fun c7 => ?_)
              · refine br_wp (fun c8 => ?_) (fun c8 => ?_)
                · refine call_fun ((((ofP m q)), (doN ((ofP m q)) s (⟨2, s.t, (x + y)⟩ : Ac)), (⟨4, s.t, x⟩ : Ac))) rfl (by simp only [vd1, vd2, vd3, vd4, vd5, vd6, vd7, reduceCtorEq, Option.some.injEq, vb_ite, vi_ite, List.getD_cons_zero, List.getD_cons_succ, hwa, hwb, hwx, hwy, hwxy]) trivial ?_
                  refine call_fun ((((ofP m q)), (doN ((ofP m q)) (doN ((ofP m q)) s (⟨2, s.t, (x + y)⟩ : Ac)) (⟨4, s.t, x⟩ : Ac)), (⟨3, s.t, y⟩ : Ac))) rfl (by simp only [vd1, vd2, vd3, vd4, vd5, vd6, vd7, reduceCtorEq, Option.some.injEq, vb_ite, vi_ite, List.getD_cons_zero, List.getD_cons_succ, hwa, hwb, hwx, hwy, hwxy]) trivial ?_
                  refine br_wp (fun c9 => ?_) (fun c9 => ?_)
                  · refine br_wp (fun c10 => ?_) (fun c10 => ?_)
                    · refine call_fun (((doN ((ofP m q)) (doN ((ofP m q)) (doN ((ofP m q)) s (⟨2, s.t, (x + y)⟩ : Ac)) (⟨4, s.t, x⟩ : Ac)) (⟨3, s.t, y⟩ : Ac)), (doN ((ofP m q)) s (⟨1, s.t, x⟩ : Ac)))) rfl (by simp only [vd1, vd2, vd3, vd4, vd5, vd6, vd7, reduceCtorEq, Option.some.injEq, vb_ite, vi_ite, List.getD_cons_zero, List.getD_cons_succ, hwa, hwb, hwx, hwy, hwxy]) ⟨lgOk_nil (rg (p := ofP m q) (by repeat (first | exact hr | apply right_do | apply right_adv))), lgOk_nil (rg (p := ofP m q) (by repeat (first | exact hr | apply right_do | apply right_adv)))⟩ ?_
                      refine br_wp (fun c11 => ?_) (fun c11 => ?_)
                      · refine call_fun (()) rfl (by simp only [vd1, vd2, vd3, vd4, vd5, vd6, vd7, reduceCtorEq, Option.some.injEq, vb_ite, vi_ite, List.getD_cons_zero, List.getD_cons_succ, hwa, hwb, hwx, hwy, hwxy]) trivial ?_
                        refine ret_wp ?_
                        first | rfl | ((simp only [vd1, vd2, vd3, vd4, vd5, vd6, vd7, reduceCtorEq, Option.some.injEq, vb_ite, vi_ite, List.getD_cons_zero, List.getD_cons_succ, hwa, hwb, hwx, hwy, hwxy] at *) <;> grind)
                      · refine ret_wp ?_
                        first | rfl | ((simp only [vd1, vd2, vd3, vd4, vd5, vd6, vd7, reduceCtorEq, Option.some.injEq, vb_ite, vi_ite, List.getD_cons_zero, List.getD_cons_succ, hwa, hwb, hwx, hwy, hwxy] at *) <;> grind)
                    · refine ret_wp ?_
                      first | rfl | ((simp only [vd1, vd2, vd3, vd4, vd5, vd6, vd7, reduceCtorEq, Option.some.injEq, vb_ite, vi_ite, List.getD_cons_zero, List.getD_cons_succ, hwa, hwb, hwx, hwy, hwxy] at *) <;> grind)
                  · refine ret_wp ?_
                    first | rfl | ((simp only [vd1, vd2, vd3, vd4, vd5, vd6, vd7, reduceCtorEq, Option.some.injEq, vb_ite, vi_ite, List.getD_cons_zero, List.getD_cons_succ, hwa, hwb, hwx, hwy, hwxy] at *) <;> grind)
                · refine call_fun (()) rfl (by simp only [vd1, vd2, vd3, vd4, vd5, vd6, vd7, reduceCtorEq, Option.some.injEq, vb_ite, vi_ite, List.getD_cons_zero, List.getD_cons_succ, hwa, hwb, hwx, hwy, hwxy]) trivial ?_
                  refine ret_wp ?_
                  first | rfl | ((simp only [vd1, vd2, vd3, vd4, vd5, vd6, vd7, reduceCtorEq, Option.some.injEq, vb_ite, vi_ite, List.getD_cons_zero, List.getD_cons_succ, hwa, hwb, hwx, hwy, hwxy] at *) <;> grind)
              · refine ret_wp ?_
                first | rfl | ((simp only [vd1, vd2, vd3, vd4, vd5, vd6, vd7, reduceCtorEq, Option.some.injEq, vb_ite, vi_ite, List.getD_cons_zero, List.getD_cons_succ, hwa, hwb, hwx, hwy, hwxy] at *) <;> grind)
            · refine ret_wp ?_
              first | rfl | ((simp only [vd1, vd2, vd3, vd4, vd5, vd6, vd7, reduceCtorEq, Option.some.injEq, vb_ite, vi_ite, List.getD_cons_zero, List.getD_cons_succ, hwa, hwb, hwx, hwy, hwxy] at *) <;> grind)
          · refine call_fun ((((ofP m q)), s, (⟨2, s.t, (x + y)⟩ : Ac))) rfl (by simp only [vd1, vd2, vd3, vd4, vd5, vd6, vd7, reduceCtorEq, Option.some.injEq, vb_ite, vi_ite, List.getD_cons_zero, List.getD_cons_succ, hwa, hwb, hwx, hwy, hwxy]) trivial ?_
            refine br_wp (fun c12 => ?_) (fun c12 => ?_)
            · refine br_wp (fun c13 => ?_) (fun c13 => ?_)
              · refine call_fun ((((ofP m q)), (doN ((ofP m q)) s (⟨2, s.t, (x + y)⟩ : Ac)), (⟨4, s.t, x⟩ : Ac))) rfl (by simp only [vd1, vd2, vd3, vd4, vd5, vd6, vd7, reduceCtorEq, Option.some.injEq, vb_ite, vi_ite, List.getD_cons_zero, List.getD_cons_succ, hwa, hwb, hwx, hwy, hwxy]) trivial ?_
                refine call_fun ((((ofP m q)), (doN ((ofP m q)) (doN ((ofP m q)) s (⟨2, s.t, (x + y)⟩ : Ac)) (⟨4, s.t, x⟩ : Ac)), (⟨3, s.t, y⟩ : Ac))) rfl (by simp only [vd1, vd2, vd3, vd4, vd5, vd6, vd7, reduceCtorEq, Option.some.injEq, vb_ite, vi_ite, List.getD_cons_zero, List.getD_cons_succ, hwa, hwb, hwx, hwy, hwxy]) trivial ?_
                refine br_wp (fun c14 => ?_) (fun c14 => ?_)
                · refine br_wp (fun c15 => ?_) (fun c15 => ?_)
                  · refine call_fun (((doN ((ofP m q)) (doN ((ofP m q)) (doN ((ofP m q)) s (⟨2, s.t, (x + y)⟩ : Ac)) (⟨4, s.t, x⟩ : Ac)) (⟨3, s.t, y⟩ : Ac)), (doN ((ofP m q)) s (⟨1, s.t, x⟩ : Ac)))) rfl (by simp only [vd1, vd2, vd3, vd4, vd5, vd6, vd7, reduceCtorEq, Option.some.injEq, vb_ite, vi_ite, List.getD_cons_zero, List.getD_cons_succ, hwa, hwb, hwx, hwy, hwxy]) ⟨lgOk_nil (rg (p := ofP m q) (by repeat (first | exact hr | apply right_do | apply right_adv))), lgOk_nil (rg (p := ofP m q) (by repeat (first | exact hr | apply right_do | apply right_adv)))⟩ ?_
                    refine br_wp (fun c16 => ?_) (fun c16 => ?_)
                    · refine call_fun (()) rfl (by simp only [vd1, vd2, vd3, vd4, vd5, vd6, vd7, reduceCtorEq, Option.some.injEq, vb_ite, vi_ite, List.getD_cons_zero, List.getD_cons_succ, hwa, hwb, hwx, hwy, hwxy]) trivial ?_
                      refine ret_wp ?_
                      first | rfl | ((simp only [vd1, vd2, vd3, vd4, vd5, vd6, vd7, reduceCtorEq, Option.some.injEq, vb_ite, vi_ite, List.getD_cons_zero, List.getD_cons_succ, hwa, hwb, hwx, hwy, hwxy] at *) <;> grind)
                    · refine ret_wp ?_
                      first | rfl | ((simp only [vd1, vd2, vd3, vd4, vd5, vd6, vd7, reduceCtorEq, Option.some.injEq, vb_ite, vi_ite, List.getD_cons_zero, List.getD_cons_succ, hwa, hwb, hwx, hwy, hwxy] at *) <;> grind)
                  · refine ret_wp ?_
                    first | rfl | ((simp only [vd1, vd2, vd3, vd4, vd5, vd6, vd7, reduceCtorEq, Option.some.injEq, vb_ite, vi_ite, List.getD_cons_zero, List.getD_cons_succ, hwa, hwb, hwx, hwy, hwxy] at *) <;> grind)
                · refine ret_wp ?_
                  first | rfl | ((simp only [vd1, vd2, vd3, vd4, vd5, vd6, vd7, reduceCtorEq, Option.some.injEq, vb_ite, vi_ite, List.getD_cons_zero, List.getD_cons_succ, hwa, hwb, hwx, hwy, hwxy] at *) <;> grind)
              · refine call_fun (()) rfl (by simp only [vd1, vd2, vd3, vd4, vd5, vd6, vd7, reduceCtorEq, Option.some.injEq, vb_ite, vi_ite, List.getD_cons_zero, List.getD_cons_succ, hwa, hwb, hwx, hwy, hwxy]) trivial ?_
                refine ret_wp ?_
                first | rfl | ((simp only [vd1, vd2, vd3, vd4, vd5, vd6, vd7, reduceCtorEq, Option.some.injEq, vb_ite, vi_ite, List.getD_cons_zero, List.getD_cons_succ, hwa, hwb, hwx, hwy, hwxy] at *) <;> grind)
            · refine ret_wp ?_
              first | rfl | ((simp only [vd1, vd2, vd3, vd4, vd5, vd6, vd7, reduceCtorEq, Option.some.injEq, vb_ite, vi_ite, List.getD_cons_zero, List.getD_cons_succ, hwa, hwb, hwx, hwy, hwxy] at *) <;> grind)
        · refine ret_wp ?_
          first | rfl | ((simp only [vd1, vd2, vd3, vd4, vd5, vd6, vd7, reduceCtorEq, Option.some.injEq, vb_ite, vi_ite, List.getD_cons_zero, List.getD_cons_succ, hwa, hwb, hwx, hwy, hwxy] at *) <;> grind)
      · refine br_wp (fun c17 => ?_) (fun c17 => ?_)
        · refine br_wp (fun c18 => ?_) (fun c18 => ?_)
          · refine call_fun (((doN ((ofP m q)) s (⟨1, s.t, (x + y)⟩ : Ac)), (doN ((ofP m q)) (doN ((ofP m q)) s (⟨1, s.t, x⟩ : Ac)) (⟨1, s.t, y⟩ : Ac)))) rfl (by simp only [vd1, vd2, vd3, vd4, vd5, vd6, vd7, reduceCtorEq, Option.some.injEq, vb_ite, vi_ite, List.getD_cons_zero, List.getD_cons_succ, hwa, hwb, hwx, hwy, hwxy]) ⟨lgOk_nil (rg (p := ofP m q) (by repeat (first | exact hr | apply right_do | apply right_adv))), lgOk_nil (rg (p := ofP m q) (by repeat (first | exact hr | apply right_do | apply right_adv)))⟩ ?_
            refine br_wp (fun c19 => ?_) (fun c19 => ?_)
            · refine call_fun ((((ofP m q)), s, (⟨2, s.t, (x + y)⟩ : Ac))) rfl (by simp only [vd1, vd2, vd3, vd4, vd5, vd6, vd7, reduceCtorEq, Option.some.injEq, vb_ite, vi_ite, List.getD_cons_zero, List.getD_cons_succ, hwa, hwb, hwx, hwy, hwxy]) trivial ?_
              refine br_wp (fun c20 => ?_) (fun c20 => ?_)
              · refine br_wp (fun c21 => ?_) (fun c21 => ?_)
                · refine call_fun ((((ofP m q)), (doN ((ofP m q)) s (⟨2, s.t, (x + y)⟩ : Ac)), (⟨4, s.t, x⟩ : Ac))) rfl (by simp only [vd1, vd2, vd3, vd4, vd5, vd6, vd7, reduceCtorEq, Option.some.injEq, vb_ite, vi_ite, List.getD_cons_zero, List.getD_cons_succ, hwa, hwb, hwx, hwy, hwxy]) trivial ?_
                  refine call_fun ((((ofP m q)), (doN ((ofP m q)) (doN ((ofP m q)) s (⟨2, s.t, (x + y)⟩ : Ac)) (⟨4, s.t, x⟩ : Ac)), (⟨3, s.t, y⟩ : Ac))) rfl (by simp only [vd1, vd2, vd3, vd4, vd5, vd6, vd7, reduceCtorEq, Option.some.injEq, vb_ite, vi_ite, List.getD_cons_zero, List.getD_cons_succ, hwa, hwb, hwx, hwy, hwxy]) trivial ?_
                  refine br_wp (fun c22 => ?_) (fun c22 => ?_)
                  · refine br_wp (fun c23 => ?_) (fun c23 => ?_)
                    · refine call_fun (((doN ((ofP m q)) (doN ((ofP m q)) (doN ((ofP m q)) s (⟨2, s.t, (x + y)⟩ : Ac)) (⟨4, s.t, x⟩ : Ac)) (⟨3, s.t, y⟩ : Ac)), (doN ((ofP m q)) s (⟨1, s.t, x⟩ : Ac)))) rfl (by simp only [vd1, vd2, vd3, vd4, vd5, vd6, vd7, reduceCtorEq, Option.some.injEq, vb_ite, vi_ite, List.getD_cons_zero, List.getD_cons_succ, hwa, hwb, hwx, hwy, hwxy]) ⟨lgOk_nil (rg (p := ofP m q) (by repeat (first | exact hr | apply right_do | apply right_adv))), lgOk_nil (rg (p := ofP m q) (by repeat (first | exact hr | apply right_do | apply right_adv)))⟩ ?_
                      refine br_wp (fun c24 => ?_) (fun c24 => ?_)
                      · refine call_fun (()) rfl (by simp only [vd1, vd2, vd3, vd4, vd5, vd6, vd7, reduceCtorEq, Option.some.injEq, vb_ite, vi_ite, List.getD_cons_zero, List.getD_cons_succ, hwa, hwb, hwx, hwy, hwxy]) trivial ?_
                        refine ret_wp ?_
                        first | rfl | ((simp only [vd1, vd2, vd3, vd4, vd5, vd6, vd7, reduceCtorEq, Option.some.injEq, vb_ite, vi_ite, List.getD_cons_zero, List.getD_cons_succ, hwa, hwb, hwx, hwy, hwxy] at *) <;> grind)
                      · refine ret_wp ?_
                        first | rfl | ((simp only [vd1, vd2, vd3, vd4, vd5, vd6, vd7, reduceCtorEq, Option.some.injEq, vb_ite, vi_ite, List.getD_cons_zero, List.getD_cons_succ, hwa, hwb, hwx, hwy, hwxy] at *) <;> grind)
                    · refine ret_wp ?_
                      first | rfl | ((simp only [vd1, vd2, vd3, vd4, vd5, vd6, vd7, reduceCtorEq, Option.some.injEq, vb_ite, vi_ite, List.getD_cons_zero, List.getD_cons_succ, hwa, hwb, hwx, hwy, hwxy] at *) <;> grind)
                  · refine ret_wp ?_
                    first | rfl | ((simp only [vd1, vd2, vd3, vd4, vd5, vd6, vd7, reduceCtorEq, Option.some.injEq, vb_ite, vi_ite, List.getD_cons_zero, List.getD_cons_succ, hwa, hwb, hwx, hwy, hwxy] at *) <;> grind)
                · refine call_fun (()) rfl (by simp only [vd1, vd2, vd3, vd4, vd5, vd6, vd7, reduceCtorEq, Option.some.injEq, vb_ite, vi_ite, List.getD_cons_zero, List.getD_cons_succ, hwa, hwb, hwx, hwy, hwxy]) trivial ?_
                  refine ret_wp ?_
                  first | rfl | ((simp only [vd1, vd2, vd3, vd4, vd5, vd6, vd7, reduceCtorEq, Option.some.injEq, vb_ite, vi_ite, List.getD_cons_zero, List.getD_cons_succ, hwa, hwb, hwx, hwy, hwxy] at *) <;> grind)
              · refine ret_wp ?_
                first | rfl | ((simp only [vd1, vd2, vd3, vd4, vd5, vd6, vd7, reduceCtorEq, Option.some.injEq, vb_ite, vi_ite, List.getD_cons_zero, List.getD_cons_succ, hwa, hwb, hwx, hwy, hwxy] at *) <;> grind)
            · refine ret_wp ?_
              first | rfl | ((simp only [vd1, vd2, vd3, vd4, vd5, vd6, vd7, reduceCtorEq, Option.some.injEq, vb_ite, vi_ite, List.getD_cons_zero, List.getD_cons_succ, hwa, hwb, hwx, hwy, hwxy] at *) <;> grind)
          · refine call_fun ((((ofP m q)), s, (⟨2, s.t, (x + y)⟩ : Ac))) rfl (by simp only [vd1, vd2, vd3, vd4, vd5, vd6, vd7, reduceCtorEq, Option.some.injEq, vb_ite, vi_ite, List.getD_cons_zero, List.getD_cons_succ, hwa, hwb, hwx, hwy, hwxy]) trivial ?_
            refine br_wp (fun c25 => ?_) (fun c25 => ?_)
            · refine br_wp (fun c26 => ?_) (fun c26 => ?_)
              · refine call_fun ((((ofP m q)), (doN ((ofP m q)) s (⟨2, s.t, (x + y)⟩ : Ac)), (⟨4, s.t, x⟩ : Ac))) rfl (by simp only [vd1, vd2, vd3, vd4, vd5, vd6, vd7, reduceCtorEq, Option.some.injEq, vb_ite, vi_ite, List.getD_cons_zero, List.getD_cons_succ, hwa, hwb, hwx, hwy, hwxy]) trivial ?_
                refine call_fun ((((ofP m q)), (doN ((ofP m q)) (doN ((ofP m q)) s (⟨2, s.t, (x + y)⟩ : Ac)) (⟨4, s.t, x⟩ : Ac)), (⟨3, s.t, y⟩ : Ac))) rfl (by simp only [vd1, vd2, vd3, vd4, vd5, vd6, vd7, reduceCtorEq, Option.some.injEq, vb_ite, vi_ite, List.getD_cons_zero, List.getD_cons_succ, hwa, hwb, hwx, hwy, hwxy]) trivial ?_
                refine br_wp (fun c27 => ?_) (fun c27 => ?_)
                · refine br_wp (fun c28 => ?_) (fun c28 => ?_)
                  · refine call_fun (((doN ((ofP m q)) (doN ((ofP m q)) (doN ((ofP m q)) s (⟨2, s.t, (x + y)⟩ : Ac)) (⟨4, s.t, x⟩ : Ac)) (⟨3, s.t, y⟩ : Ac)), (doN ((ofP m q)) s (⟨1, s.t, x⟩ : Ac)))) rfl (by simp only [vd1, vd2, vd3, vd4, vd5, vd6, vd7, reduceCtorEq, Option.some.injEq, vb_ite, vi_ite, List.getD_cons_zero, List.getD_cons_succ, hwa, hwb, hwx, hwy, hwxy]) ⟨lgOk_nil (rg (p := ofP m q) (by repeat (first | exact hr | apply right_do | apply right_adv))), lgOk_nil (rg (p := ofP m q) (by repeat (first | exact hr | apply right_do | apply right_adv)))⟩ ?_
                    refine br_wp (fun c29 => ?_) (fun c29 => ?_)
                    · refine call_fun (()) rfl (by simp only [vd1, vd2, vd3, vd4, vd5, vd6, vd7, reduceCtorEq, Option.some.injEq, vb_ite, vi_ite, List.getD_cons_zero, List.getD_cons_succ, hwa, hwb, hwx, hwy, hwxy]) trivial ?_
                      refine ret_wp ?_
                      first | rfl | ((simp only [vd1, vd2, vd3, vd4, vd5, vd6, vd7, reduceCtorEq, Option.some.injEq, vb_ite, vi_ite, List.getD_cons_zero, List.getD_cons_succ, hwa, hwb, hwx, hwy, hwxy] at *) <;> grind)
                    · refine ret_wp ?_
                      first | rfl | ((simp only [vd1, vd2, vd3, vd4, vd5, vd6, vd7, reduceCtorEq, Option.some.injEq, vb_ite, vi_ite, List.getD_cons_zero, List.getD_cons_succ, hwa, hwb, hwx, hwy, hwxy] at *) <;> grind)
                  · refine ret_wp ?_
                    first | rfl | ((simp only [vd1, vd2, vd3, vd4, vd5, vd6, vd7, reduceCtorEq, Option.some.injEq, vb_ite, vi_ite, List.getD_cons_zero, List.getD_cons_succ, hwa, hwb, hwx, hwy, hwxy] at *) <;> grind)
                · refine ret_wp ?_
                  first | rfl | ((simp only [vd1, vd2, vd3, vd4, vd5, vd6, vd7, reduceCtorEq, Option.some.injEq, vb_ite, vi_ite, List.getD_cons_zero, List.getD_cons_succ, hwa, hwb, hwx, hwy, hwxy] at *) <;> grind)
              · refine call_fun (()) rfl (by simp only [vd1, vd2, vd3, vd4, vd5, vd6, vd7, reduceCtorEq, Option.some.injEq, vb_ite, vi_ite, List.getD_cons_zero, List.getD_cons_succ, hwa, hwb, hwx, hwy, hwxy]) trivial ?_
                refine ret_wp ?_
                first | rfl | ((simp only [vd1, vd2, vd3, vd4, vd5, vd6, vd7, reduceCtorEq, Option.some.injEq, vb_ite, vi_ite, List.getD_cons_zero, List.getD_cons_succ, hwa, hwb, hwx, hwy, hwxy] at *) <;> grind)
            · refine ret_wp ?_
              first | rfl | ((simp only [vd1, vd2, vd3, vd4, vd5, vd6, vd7, reduceCtorEq, Option.some.injEq, vb_ite, vi_ite, List.getD_cons_zero, List.getD_cons_succ, hwa, hwb, hwx, hwy, hwxy] at *) <;> grind)
        · refine ret_wp ?_
          first | rfl | ((simp only [vd1, vd2, vd3, vd4, vd5, vd6, vd7, reduceCtorEq, Option.some.injEq, vb_ite, vi_ite, List.getD_cons_zero, List.getD_cons_succ, hwa, hwb, hwx, hwy, hwxy] at *) <;> grind)
  · refine call_fun (()) rfl (by simp only [vd1, vd2, vd3, vd4, vd5, vd6, vd7, reduceCtorEq, Option.some.injEq, vb_ite, vi_ite, List.getD_cons_zero, List.getD_cons_succ, hwa, hwb, hwx, hwy, hwxy]) trivial ?_
    refine ret_wp ?_
    first | rfl | ((simp only [vd1, vd2, vd3, vd4, vd5, vd6, vd7, reduceCtorEq, Option.some.injEq, vb_ite, vi_ite, List.getD_cons_zero, List.getD_cons_succ, hwa, hwb, hwx, hwy, hwxy] at *) <;> grind)
def kLaw5 (sg : Sig) : Sig × Con := (sg, mkFun (fun x : Int × Int × Int × Sl × Int × Int => ([aK .u16 x.1, aK .u16 x.2.1, aK .u16 x.2.2.1, Sl.atom x.2.2.2.1, aK .u32 x.2.2.2.2.1, aK .u8 x.2.2.2.2.2] : List Atom)) (fun x => actsOk x.2.2.2.1 ∧ (0 ≤ x.1 ∧ x.1 < 65536 ∧ 0 ≤ x.2.1 ∧ x.2.1 < 65536) ∧ (0 ≤ x.2.2.2.2.1 ∧ x.2.2.2.2.1 < 4294967296 ∧ 0 ≤ x.2.2.2.2.2 ∧ x.2.2.2.2.2 < 256)) (fun _ => [aB true]))
set_option maxHeartbeats 4000000 in
theorem h5 : holds Try.prog (kLaw5 sg5) := by
  refine fn_holds (l := [kSmall sg10, kKnown sg11, kOf sg12, kNew sg13, kDo sg14, kSame sg15, kRight sg16, kRoom sg17, kAdv sg18]) ⟨h10, h11, h12, h13, h14, h15, h16, h17, h18, trivial⟩ hP rs5 (inj_of (fun l : List Atom => ((vi (l.getD 0 atom0).1, vi (l.getD 1 atom0).1, vi (l.getD 2 atom0).1, (⟨va (l.getD 3 atom0).1, vn (l.getD 3 atom0).1, vc (l.getD 3 atom0).1, (l.getD 3 atom0).2⟩ : Sl), vi (l.getD 4 atom0).1, vi (l.getD 5 atom0).1) : Int × Int × Int × Sl × Int × Int)) (fun _ => rfl)) Try.func5 (by kernel_rfl) (c := code Try.f5) (by kernel_rfl) (an := an5) (by kernel_rfl) (pk := pk5) rfl (t := t5) (by kernel_rfl) ?_
  rintro ⟨m, q, e, l, w, k⟩ ⟨hl, ⟨u1, u2, u3, u4⟩, ⟨u5, u6, u7, u8⟩⟩
  refine ⟨by simp [pk5, KindsOk, encPS, encPSn, encPSnc, encPSA, encPn, encSS, encI, Pol.enc, Stt.enc, Ac.enc, Sl.atom, Sl.nil, Stt.zero, RK.ok], ?_⟩
  unfold t5
  simp only at hl u1 u2 u3 u4 u5 u6 u7 u8
  have hww := wrap_id w (by omega) (by omega)
  have hwk := wrap_id k (by omega) (by omega)
  obtain ⟨c, hc⟩ : ∃ c : Int, c = 1 + k := ⟨_, rfl⟩
  have hwc : IntKind.i64.wrap (1 + k) = c := by rw [hc]; exact wrap_id _ (by omega) (by omega)
  refine call_fun (l) rfl (by simp only [vd1, vd2, vd3, vd4, vd5, vd6, vd7, reduceCtorEq, Option.some.injEq, vb_ite, vi_ite, List.getD_cons_zero, List.getD_cons_succ, hww, hwk, hwc]) trivial ?_
  refine br_wp (fun c1 => ?_) (fun c1 => ?_)
  · have hn : l.n ≤ 60 := by simp only [vd1, vd2, vd3, vd4, vd5, vd6, vd7, reduceCtorEq, Option.some.injEq, vb_ite, vi_ite, List.getD_cons_zero, List.getD_cons_succ, hww, hwk, hwc] at c1; omega
    refine call_fun ((m, q)) rfl (by simp only [vd1, vd2, vd3, vd4, vd5, vd6, vd7, reduceCtorEq, Option.some.injEq, vb_ite, vi_ite, List.getD_cons_zero, List.getD_cons_succ, hww, hwk, hwc]) ⟨u1, u2, u3, u4⟩ ?_
    refine call_fun ((((ofP m q)), 0)) rfl (by simp only [vd1, vd2, vd3, vd4, vd5, vd6, vd7, reduceCtorEq, Option.some.injEq, vb_ite, vi_ite, List.getD_cons_zero, List.getD_cons_succ, hww, hwk, hwc]) trivial ?_
    refine need_wp ?_ ?_
    · first | exact ⟨_, _, _, rfl⟩ | exact acts_row hl | exact acts_sz hl | (simp only [vd1, vd2, vd3, vd4, vd5, vd6, vd7, reduceCtorEq, Option.some.injEq, vb_ite, vi_ite, List.getD_cons_zero, List.getD_cons_succ, hww, hwk, hwc]; exact ⟨_, rfl⟩) | (simp only [vd1, vd2, vd3, vd4, vd5, vd6, vd7, reduceCtorEq, Option.some.injEq, vb_ite, vi_ite, List.getD_cons_zero, List.getD_cons_succ, hww, hwk, hwc] at *; grind)
    refine loop_wp (fun bs0 => ∃ (i : Int) (s : Stt), bs0 = [aI i, aI s.t, aI s.v, aI s.h, Sl.atom s.g] ∧ (0 ≤ i ∧ i ≤ l.n ∧ right (ofP m q) s)) (fun bs0 => (l.n - vi (bs0.getD 0 atom0).1).toNat) ?_ ?_
    · refine ⟨0, (new_ ((ofP m q)) 0), by simp only [vd1, vd2, vd3, vd4, vd5, vd6, vd7, reduceCtorEq, Option.some.injEq, vb_ite, vi_ite, List.getD_cons_zero, List.getD_cons_succ, hww, hwk, hwc], ?_⟩
      exact ⟨by omega, by omega, right_new (okOf u1 u2 u3 u4)⟩
    rintro _ _ ⟨i, s, rfl, ⟨i0, i1, hr⟩⟩
    refine need_wp ?_ ?_
    · first | exact ⟨_, _, _, rfl⟩ | exact acts_row hl | exact acts_sz hl | (simp only [vd1, vd2, vd3, vd4, vd5, vd6, vd7, reduceCtorEq, Option.some.injEq, vb_ite, vi_ite, List.getD_cons_zero, List.getD_cons_succ, hww, hwk, hwc]; exact ⟨_, rfl⟩) | (simp only [vd1, vd2, vd3, vd4, vd5, vd6, vd7, reduceCtorEq, Option.some.injEq, vb_ite, vi_ite, List.getD_cons_zero, List.getD_cons_succ, hww, hwk, hwc] at *; grind)
    refine br_wp (fun c2 => ?_) (fun c2 => ?_)
    · have hi : i < l.n := by simp only [vd1, vd2, vd3, vd4, vd5, vd6, vd7, reduceCtorEq, Option.some.injEq, vb_ite, vi_ite, List.getD_cons_zero, List.getD_cons_succ, hww, hwk, hwc] at c2; omega
      obtain ⟨a0, z0, z1, z2⟩ := acts_at hl i0 hi
      have g1 := right_do a0 hr
      have g2 := fun hd => same_out (a := a0) hr hd
      refine need_wp ?_ ?_
      · first | exact ⟨_, _, _, rfl⟩ | exact acts_row hl | exact acts_sz hl | (simp only [vd1, vd2, vd3, vd4, vd5, vd6, vd7, reduceCtorEq, Option.some.injEq, vb_ite, vi_ite, List.getD_cons_zero, List.getD_cons_succ, hww, hwk, hwc, z0, z1, z2]; exact ⟨_, rfl⟩) | (simp only [vd1, vd2, vd3, vd4, vd5, vd6, vd7, reduceCtorEq, Option.some.injEq, vb_ite, vi_ite, List.getD_cons_zero, List.getD_cons_succ, hww, hwk, hwc, z0, z1, z2] at *; grind)
      refine need_wp ?_ ?_
      · first | exact ⟨_, _, _, rfl⟩ | exact acts_row hl | exact acts_sz hl | (simp only [vd1, vd2, vd3, vd4, vd5, vd6, vd7, reduceCtorEq, Option.some.injEq, vb_ite, vi_ite, List.getD_cons_zero, List.getD_cons_succ, hww, hwk, hwc, z0, z1, z2]; exact ⟨_, rfl⟩) | (simp only [vd1, vd2, vd3, vd4, vd5, vd6, vd7, reduceCtorEq, Option.some.injEq, vb_ite, vi_ite, List.getD_cons_zero, List.getD_cons_succ, hww, hwk, hwc, z0, z1, z2] at *; grind)
      refine need_wp ?_ ?_
      · first | exact ⟨_, _, _, rfl⟩ | exact acts_row hl | exact acts_sz hl | (simp only [vd1, vd2, vd3, vd4, vd5, vd6, vd7, reduceCtorEq, Option.some.injEq, vb_ite, vi_ite, List.getD_cons_zero, List.getD_cons_succ, hww, hwk, hwc, z0, z1, z2]; exact ⟨_, rfl⟩) | (simp only [vd1, vd2, vd3, vd4, vd5, vd6, vd7, reduceCtorEq, Option.some.injEq, vb_ite, vi_ite, List.getD_cons_zero, List.getD_cons_succ, hww, hwk, hwc, z0, z1, z2] at *; grind)
      refine need_wp ?_ ?_
      · first | exact ⟨_, _, _, rfl⟩ | exact acts_row hl | exact acts_sz hl | (simp only [vd1, vd2, vd3, vd4, vd5, vd6, vd7, reduceCtorEq, Option.some.injEq, vb_ite, vi_ite, List.getD_cons_zero, List.getD_cons_succ, hww, hwk, hwc, z0, z1, z2]; exact ⟨_, rfl⟩) | (simp only [vd1, vd2, vd3, vd4, vd5, vd6, vd7, reduceCtorEq, Option.some.injEq, vb_ite, vi_ite, List.getD_cons_zero, List.getD_cons_succ, hww, hwk, hwc, z0, z1, z2] at *; grind)
      refine need_wp ?_ ?_
      · first | exact ⟨_, _, _, rfl⟩ | exact acts_row hl | exact acts_sz hl | (simp only [vd1, vd2, vd3, vd4, vd5, vd6, vd7, reduceCtorEq, Option.some.injEq, vb_ite, vi_ite, List.getD_cons_zero, List.getD_cons_succ, hww, hwk, hwc, z0, z1, z2]; exact ⟨_, rfl⟩) | (simp only [vd1, vd2, vd3, vd4, vd5, vd6, vd7, reduceCtorEq, Option.some.injEq, vb_ite, vi_ite, List.getD_cons_zero, List.getD_cons_succ, hww, hwk, hwc, z0, z1, z2] at *; grind)
      refine need_wp ?_ ?_
      · first | exact ⟨_, _, _, rfl⟩ | exact acts_row hl | exact acts_sz hl | (simp only [vd1, vd2, vd3, vd4, vd5, vd6, vd7, reduceCtorEq, Option.some.injEq, vb_ite, vi_ite, List.getD_cons_zero, List.getD_cons_succ, hww, hwk, hwc, z0, z1, z2]; exact ⟨_, rfl⟩) | (simp only [vd1, vd2, vd3, vd4, vd5, vd6, vd7, reduceCtorEq, Option.some.injEq, vb_ite, vi_ite, List.getD_cons_zero, List.getD_cons_succ, hww, hwk, hwc, z0, z1, z2] at *; grind)
      refine need_wp ?_ ?_
      · first | exact ⟨_, _, _, rfl⟩ | exact acts_row hl | exact acts_sz hl | (simp only [vd1, vd2, vd3, vd4, vd5, vd6, vd7, reduceCtorEq, Option.some.injEq, vb_ite, vi_ite, List.getD_cons_zero, List.getD_cons_succ, hww, hwk, hwc, z0, z1, z2]; exact ⟨_, rfl⟩) | (simp only [vd1, vd2, vd3, vd4, vd5, vd6, vd7, reduceCtorEq, Option.some.injEq, vb_ite, vi_ite, List.getD_cons_zero, List.getD_cons_succ, hww, hwk, hwc, z0, z1, z2] at *; grind)
      refine need_wp ?_ ?_
      · first | exact ⟨_, _, _, rfl⟩ | exact acts_row hl | exact acts_sz hl | (simp only [vd1, vd2, vd3, vd4, vd5, vd6, vd7, reduceCtorEq, Option.some.injEq, vb_ite, vi_ite, List.getD_cons_zero, List.getD_cons_succ, hww, hwk, hwc, z0, z1, z2]; exact ⟨_, rfl⟩) | (simp only [vd1, vd2, vd3, vd4, vd5, vd6, vd7, reduceCtorEq, Option.some.injEq, vb_ite, vi_ite, List.getD_cons_zero, List.getD_cons_succ, hww, hwk, hwc, z0, z1, z2] at *; grind)
      refine need_wp ?_ ?_
      · first | exact ⟨_, _, _, rfl⟩ | exact acts_row hl | exact acts_sz hl | (simp only [vd1, vd2, vd3, vd4, vd5, vd6, vd7, reduceCtorEq, Option.some.injEq, vb_ite, vi_ite, List.getD_cons_zero, List.getD_cons_succ, hww, hwk, hwc, z0, z1, z2]; exact ⟨_, rfl⟩) | (simp only [vd1, vd2, vd3, vd4, vd5, vd6, vd7, reduceCtorEq, Option.some.injEq, vb_ite, vi_ite, List.getD_cons_zero, List.getD_cons_succ, hww, hwk, hwc, z0, z1, z2] at *; grind)
      refine call_fun ((((ofP m q)), s, a0)) rfl (by simp only [vd1, vd2, vd3, vd4, vd5, vd6, vd7, reduceCtorEq, Option.some.injEq, vb_ite, vi_ite, List.getD_cons_zero, List.getD_cons_succ, hww, hwk, hwc, z0, z1, z2]) trivial ?_
      refine br_wp (fun c3 => ?_) (fun c3 => ?_)
      · refine call_fun ((((ofP m q)), (doN ((ofP m q)) s a0))) rfl (by simp only [vd1, vd2, vd3, vd4, vd5, vd6, vd7, reduceCtorEq, Option.some.injEq, vb_ite, vi_ite, List.getD_cons_zero, List.getD_cons_succ, hww, hwk, hwc, z0, z1, z2]) trivial ?_
        refine br_wp (fun c4 => ?_) (fun c4 => ?_)
        · refine need_wp ?_ ?_
          · first | exact ⟨_, _, _, rfl⟩ | exact acts_row hl | exact acts_sz hl | (simp only [vd1, vd2, vd3, vd4, vd5, vd6, vd7, reduceCtorEq, Option.some.injEq, vb_ite, vi_ite, List.getD_cons_zero, List.getD_cons_succ, hww, hwk, hwc, z0, z1, z2]; exact ⟨_, rfl⟩) | (simp only [vd1, vd2, vd3, vd4, vd5, vd6, vd7, reduceCtorEq, Option.some.injEq, vb_ite, vi_ite, List.getD_cons_zero, List.getD_cons_succ, hww, hwk, hwc, z0, z1, z2] at *; grind)
          refine again_wp rfl ⟨(IntKind.i64.wrap (i + 1)), (doN ((ofP m q)) s a0), by simp only [vd1, vd2, vd3, vd4, vd5, vd6, vd7, reduceCtorEq, Option.some.injEq, vb_ite, vi_ite, List.getD_cons_zero, List.getD_cons_succ, hww, hwk, hwc, z0, z1, z2], ?_⟩ ?_
          · have hw := wrap_id (i + 1) (by omega) (by omega); simp only [vd1, vd2, vd3, vd4, vd5, vd6, vd7, reduceCtorEq, Option.some.injEq, vb_ite, vi_ite, List.getD_cons_zero, List.getD_cons_succ, hww, hwk, hwc, z0, z1, z2, hw]; exact ⟨by omega, by omega, right_do a0 hr⟩
          · have hw := wrap_id (i + 1) (by omega) (by omega); simp only [vd1, vd2, vd3, vd4, vd5, vd6, vd7, reduceCtorEq, Option.some.injEq, vb_ite, vi_ite, List.getD_cons_zero, List.getD_cons_succ, hww, hwk, hwc, z0, z1, z2, hw]; omega
        · refine pop_wp ?_
          refine ret_wp ?_
          first | rfl | ((simp only [vd1, vd2, vd3, vd4, vd5, vd6, vd7, reduceCtorEq, Option.some.injEq, vb_ite, vi_ite, List.getD_cons_zero, List.getD_cons_succ, hww, hwk, hwc, z0, z1, z2] at *) <;> grind)
      · refine call_fun (((doN ((ofP m q)) s a0), s)) rfl (by simp only [vd1, vd2, vd3, vd4, vd5, vd6, vd7, reduceCtorEq, Option.some.injEq, vb_ite, vi_ite, List.getD_cons_zero, List.getD_cons_succ, hww, hwk, hwc, z0, z1, z2]) ⟨lgOk_nil (rg (p := ofP m q) (by repeat (first | exact hr | apply right_do | apply right_adv))), lgOk_nil (rg (p := ofP m q) (by repeat (first | exact hr | apply right_do | apply right_adv)))⟩ ?_
        refine br_wp (fun c5 => ?_) (fun c5 => ?_)
        · refine call_fun ((((ofP m q)), (doN ((ofP m q)) s a0))) rfl (by simp only [vd1, vd2, vd3, vd4, vd5, vd6, vd7, reduceCtorEq, Option.some.injEq, vb_ite, vi_ite, List.getD_cons_zero, List.getD_cons_succ, hww, hwk, hwc, z0, z1, z2]) trivial ?_
          refine br_wp (fun c6 => ?_) (fun c6 => ?_)
          · refine need_wp ?_ ?_
            · first | exact ⟨_, _, _, rfl⟩ | exact acts_row hl | exact acts_sz hl | (simp only [vd1, vd2, vd3, vd4, vd5, vd6, vd7, reduceCtorEq, Option.some.injEq, vb_ite, vi_ite, List.getD_cons_zero, List.getD_cons_succ, hww, hwk, hwc, z0, z1, z2]; exact ⟨_, rfl⟩) | (simp only [vd1, vd2, vd3, vd4, vd5, vd6, vd7, reduceCtorEq, Option.some.injEq, vb_ite, vi_ite, List.getD_cons_zero, List.getD_cons_succ, hww, hwk, hwc, z0, z1, z2] at *; grind)
            refine again_wp rfl ⟨(IntKind.i64.wrap (i + 1)), (doN ((ofP m q)) s a0), by simp only [vd1, vd2, vd3, vd4, vd5, vd6, vd7, reduceCtorEq, Option.some.injEq, vb_ite, vi_ite, List.getD_cons_zero, List.getD_cons_succ, hww, hwk, hwc, z0, z1, z2], ?_⟩ ?_
            · have hw := wrap_id (i + 1) (by omega) (by omega); simp only [vd1, vd2, vd3, vd4, vd5, vd6, vd7, reduceCtorEq, Option.some.injEq, vb_ite, vi_ite, List.getD_cons_zero, List.getD_cons_succ, hww, hwk, hwc, z0, z1, z2, hw]; exact ⟨by omega, by omega, right_do a0 hr⟩
            · have hw := wrap_id (i + 1) (by omega) (by omega); simp only [vd1, vd2, vd3, vd4, vd5, vd6, vd7, reduceCtorEq, Option.some.injEq, vb_ite, vi_ite, List.getD_cons_zero, List.getD_cons_succ, hww, hwk, hwc, z0, z1, z2, hw]; omega
          · refine pop_wp ?_
            refine ret_wp ?_
            first | rfl | ((simp only [vd1, vd2, vd3, vd4, vd5, vd6, vd7, reduceCtorEq, Option.some.injEq, vb_ite, vi_ite, List.getD_cons_zero, List.getD_cons_succ, hww, hwk, hwc, z0, z1, z2] at *) <;> grind)
        · refine pop_wp ?_
          refine ret_wp ?_
          first | rfl | ((simp only [vd1, vd2, vd3, vd4, vd5, vd6, vd7, reduceCtorEq, Option.some.injEq, vb_ite, vi_ite, List.getD_cons_zero, List.getD_cons_succ, hww, hwk, hwc, z0, z1, z2] at *) <;> grind)
    · have f1 := backs1 (n := w) (c := c) hr (by omega)
      have f2 := backs2 (p := ofP m q) (s := s) (n := w) (c := c)
      have f3 := fun hd => backs3 (n := w) (c := c) hr hd
      refine pop_wp ?_
      refine call_fun ((((ofP m q)), s, (⟨2, w, c⟩ : Ac))) rfl (by simp only [vd1, vd2, vd3, vd4, vd5, vd6, vd7, reduceCtorEq, Option.some.injEq, vb_ite, vi_ite, List.getD_cons_zero, List.getD_cons_succ, hww, hwk, hwc]) trivial ?_
      refine call_fun ((((ofP m q)), s, (⟨1, w, c⟩ : Ac))) rfl (by simp only [vd1, vd2, vd3, vd4, vd5, vd6, vd7, reduceCtorEq, Option.some.injEq, vb_ite, vi_ite, List.getD_cons_zero, List.getD_cons_succ, hww, hwk, hwc]) trivial ?_
      refine br_wp (fun c7 => ?_) (fun c7 => ?_)
      · refine call_fun ((((ofP m q)), s, w)) rfl (by simp only [vd1, vd2, vd3, vd4, vd5, vd6, vd7, reduceCtorEq, Option.some.injEq, vb_ite, vi_ite, List.getD_cons_zero, List.getD_cons_succ, hww, hwk, hwc]) trivial ?_
        refine br_wp (fun c8 => ?_) (fun c8 => ?_)
        · refine br_wp (fun c9 => ?_) (fun c9 => ?_)
          · refine call_fun ((((ofP m q)), (doN ((ofP m q)) s (⟨2, w, c⟩ : Ac)), (⟨3, w, c⟩ : Ac))) rfl (by simp only [vd1, vd2, vd3, vd4, vd5, vd6, vd7, reduceCtorEq, Option.some.injEq, vb_ite, vi_ite, List.getD_cons_zero, List.getD_cons_succ, hww, hwk, hwc]) trivial ?_
            refine call_fun ((((ofP m q)), (doN ((ofP m q)) s (⟨2, w, c⟩ : Ac)), (⟨4, w, c⟩ : Ac))) rfl (by simp only [vd1, vd2, vd3, vd4, vd5, vd6, vd7, reduceCtorEq, Option.some.injEq, vb_ite, vi_ite, List.getD_cons_zero, List.getD_cons_succ, hww, hwk, hwc]) trivial ?_
            refine br_wp (fun c10 => ?_) (fun c10 => ?_)
            · refine br_wp (fun c11 => ?_) (fun c11 => ?_)
              · refine call_fun ((((ofP m q)), s, w)) rfl (by simp only [vd1, vd2, vd3, vd4, vd5, vd6, vd7, reduceCtorEq, Option.some.injEq, vb_ite, vi_ite, List.getD_cons_zero, List.getD_cons_succ, hww, hwk, hwc]) trivial ?_
                refine call_fun (((doN ((ofP m q)) (doN ((ofP m q)) s (⟨2, w, c⟩ : Ac)) (⟨3, w, c⟩ : Ac)), (adv ((ofP m q)) s w Sl.nil))) rfl (by simp only [vd1, vd2, vd3, vd4, vd5, vd6, vd7, reduceCtorEq, Option.some.injEq, vb_ite, vi_ite, List.getD_cons_zero, List.getD_cons_succ, hww, hwk, hwc]) ⟨lgOk_nil (rg (p := ofP m q) (by repeat (first | exact hr | apply right_do | apply right_adv))), lgOk_nil (rg (p := ofP m q) (by repeat (first | exact hr | apply right_do | apply right_adv)))⟩ ?_
                refine br_wp (fun c12 => ?_) (fun c12 => ?_)
                · refine call_fun (((doN ((ofP m q)) (doN ((ofP m q)) s (⟨2, w, c⟩ : Ac)) (⟨4, w, c⟩ : Ac)), (doN ((ofP m q)) s (⟨1, w, c⟩ : Ac)))) rfl (by simp only [vd1, vd2, vd3, vd4, vd5, vd6, vd7, reduceCtorEq, Option.some.injEq, vb_ite, vi_ite, List.getD_cons_zero, List.getD_cons_succ, hww, hwk, hwc]) ⟨lgOk_nil (rg (p := ofP m q) (by repeat (first | exact hr | apply right_do | apply right_adv))), lgOk_nil (rg (p := ofP m q) (by repeat (first | exact hr | apply right_do | apply right_adv)))⟩ ?_
                  refine br_wp (fun c13 => ?_) (fun c13 => ?_)
                  · refine call_fun (()) rfl (by simp only [vd1, vd2, vd3, vd4, vd5, vd6, vd7, reduceCtorEq, Option.some.injEq, vb_ite, vi_ite, List.getD_cons_zero, List.getD_cons_succ, hww, hwk, hwc]) trivial ?_
                    refine ret_wp ?_
                    first | rfl | ((simp only [vd1, vd2, vd3, vd4, vd5, vd6, vd7, reduceCtorEq, Option.some.injEq, vb_ite, vi_ite, List.getD_cons_zero, List.getD_cons_succ, hww, hwk, hwc] at *) <;> grind)
                  · refine ret_wp ?_
                    first | rfl | ((simp only [vd1, vd2, vd3, vd4, vd5, vd6, vd7, reduceCtorEq, Option.some.injEq, vb_ite, vi_ite, List.getD_cons_zero, List.getD_cons_succ, hww, hwk, hwc] at *) <;> grind)
                · refine ret_wp ?_
                  first | rfl | ((simp only [vd1, vd2, vd3, vd4, vd5, vd6, vd7, reduceCtorEq, Option.some.injEq, vb_ite, vi_ite, List.getD_cons_zero, List.getD_cons_succ, hww, hwk, hwc] at *) <;> grind)
              · refine ret_wp ?_
                first | rfl | ((simp only [vd1, vd2, vd3, vd4, vd5, vd6, vd7, reduceCtorEq, Option.some.injEq, vb_ite, vi_ite, List.getD_cons_zero, List.getD_cons_succ, hww, hwk, hwc] at *) <;> grind)
            · refine ret_wp ?_
              first | rfl | ((simp only [vd1, vd2, vd3, vd4, vd5, vd6, vd7, reduceCtorEq, Option.some.injEq, vb_ite, vi_ite, List.getD_cons_zero, List.getD_cons_succ, hww, hwk, hwc] at *) <;> grind)
          · refine call_fun (()) rfl (by simp only [vd1, vd2, vd3, vd4, vd5, vd6, vd7, reduceCtorEq, Option.some.injEq, vb_ite, vi_ite, List.getD_cons_zero, List.getD_cons_succ, hww, hwk, hwc]) trivial ?_
            refine ret_wp ?_
            first | rfl | ((simp only [vd1, vd2, vd3, vd4, vd5, vd6, vd7, reduceCtorEq, Option.some.injEq, vb_ite, vi_ite, List.getD_cons_zero, List.getD_cons_succ, hww, hwk, hwc] at *) <;> grind)
        · refine ret_wp ?_
          first | rfl | ((simp only [vd1, vd2, vd3, vd4, vd5, vd6, vd7, reduceCtorEq, Option.some.injEq, vb_ite, vi_ite, List.getD_cons_zero, List.getD_cons_succ, hww, hwk, hwc] at *) <;> grind)
      · refine ret_wp ?_
        first | rfl | ((simp only [vd1, vd2, vd3, vd4, vd5, vd6, vd7, reduceCtorEq, Option.some.injEq, vb_ite, vi_ite, List.getD_cons_zero, List.getD_cons_succ, hww, hwk, hwc] at *) <;> grind)
  · refine call_fun (()) rfl (by simp only [vd1, vd2, vd3, vd4, vd5, vd6, vd7, reduceCtorEq, Option.some.injEq, vb_ite, vi_ite, List.getD_cons_zero, List.getD_cons_succ, hww, hwk, hwc]) trivial ?_
    refine ret_wp ?_
    first | rfl | ((simp only [vd1, vd2, vd3, vd4, vd5, vd6, vd7, reduceCtorEq, Option.some.injEq, vb_ite, vi_ite, List.getD_cons_zero, List.getD_cons_succ, hww, hwk, hwc] at *) <;> grind)
def kLaw6 (sg : Sig) : Sig × Con := (sg, mkFun (fun x : Int × Int × Sl × Int × Int => ([aK .u16 x.1, aK .u16 x.2.1, Sl.atom x.2.2.1, aK .u32 x.2.2.2.1, aK .u32 x.2.2.2.2] : List Atom)) (fun x => actsOk x.2.2.1 ∧ (0 ≤ x.1 ∧ x.1 < 65536 ∧ 0 ≤ x.2.1 ∧ x.2.1 < 65536) ∧ (0 ≤ x.2.2.2.1 ∧ x.2.2.2.1 < 4294967296 ∧ 0 ≤ x.2.2.2.2 ∧ x.2.2.2.2 < 4294967296)) (fun _ => [aB true]))
set_option maxHeartbeats 4000000 in
theorem h6 : holds Try.prog (kLaw6 sg6) := by
  refine fn_holds (l := [kSmall sg10, kKnown sg11, kOf sg12, kNew sg13, kDo sg14, kAdv sg18, kSame sg15, kRoom sg17, kRight sg16]) ⟨h10, h11, h12, h13, h14, h18, h15, h17, h16, trivial⟩ hP rs6 (inj_of (fun l : List Atom => ((vi (l.getD 0 atom0).1, vi (l.getD 1 atom0).1, (⟨va (l.getD 2 atom0).1, vn (l.getD 2 atom0).1, vc (l.getD 2 atom0).1, (l.getD 2 atom0).2⟩ : Sl), vi (l.getD 3 atom0).1, vi (l.getD 4 atom0).1) : Int × Int × Sl × Int × Int)) (fun _ => rfl)) Try.func6 (by kernel_rfl) (c := code Try.f6) (by kernel_rfl) (an := an6) (by kernel_rfl) (pk := pk6) rfl (t := t6) (by kernel_rfl) ?_
  rintro ⟨m, q, l, a, b⟩ ⟨hl, ⟨u1, u2, u3, u4⟩, ⟨u5, u6, u7, u8⟩⟩
  refine ⟨by simp [pk6, KindsOk, encPS, encPSn, encPSnc, encPSA, encPn, encSS, encI, Pol.enc, Stt.enc, Ac.enc, Sl.atom, Sl.nil, Stt.zero, RK.ok], ?_⟩
  unfold t6
  simp only at hl u1 u2 u3 u4 u5 u6 u7 u8
  have hwa := wrap_id a (by omega) (by omega)
  have hwb := wrap_id b (by omega) (by omega)
  refine call_fun (l) rfl (by simp only [vd1, vd2, vd3, vd4, vd5, vd6, vd7, reduceCtorEq, Option.some.injEq, vb_ite, vi_ite, List.getD_cons_zero, List.getD_cons_succ, hwa, hwb]) trivial ?_
  refine br_wp (fun c1 => ?_) (fun c1 => ?_)
  · have hn : l.n ≤ 60 := by simp only [vd1, vd2, vd3, vd4, vd5, vd6, vd7, reduceCtorEq, Option.some.injEq, vb_ite, vi_ite, List.getD_cons_zero, List.getD_cons_succ, hwa, hwb] at c1; omega
    refine call_fun ((m, q)) rfl (by simp only [vd1, vd2, vd3, vd4, vd5, vd6, vd7, reduceCtorEq, Option.some.injEq, vb_ite, vi_ite, List.getD_cons_zero, List.getD_cons_succ, hwa, hwb]) ⟨u1, u2, u3, u4⟩ ?_
    refine call_fun ((((ofP m q)), 0)) rfl (by simp only [vd1, vd2, vd3, vd4, vd5, vd6, vd7, reduceCtorEq, Option.some.injEq, vb_ite, vi_ite, List.getD_cons_zero, List.getD_cons_succ, hwa, hwb]) trivial ?_
    refine need_wp ?_ ?_
    · first | exact ⟨_, _, _, rfl⟩ | exact acts_row hl | exact acts_sz hl | (simp only [vd1, vd2, vd3, vd4, vd5, vd6, vd7, reduceCtorEq, Option.some.injEq, vb_ite, vi_ite, List.getD_cons_zero, List.getD_cons_succ, hwa, hwb]; exact ⟨_, rfl⟩) | (simp only [vd1, vd2, vd3, vd4, vd5, vd6, vd7, reduceCtorEq, Option.some.injEq, vb_ite, vi_ite, List.getD_cons_zero, List.getD_cons_succ, hwa, hwb] at *; grind)
    refine loop_wp (fun bs0 => ∃ (i : Int) (s : Stt), bs0 = [aI i, aI s.t, aI s.v, aI s.h, Sl.atom s.g] ∧ (0 ≤ i ∧ i ≤ l.n ∧ right (ofP m q) s)) (fun bs0 => (l.n - vi (bs0.getD 0 atom0).1).toNat) ?_ ?_
    · refine ⟨0, (new_ ((ofP m q)) 0), by simp only [vd1, vd2, vd3, vd4, vd5, vd6, vd7, reduceCtorEq, Option.some.injEq, vb_ite, vi_ite, List.getD_cons_zero, List.getD_cons_succ, hwa, hwb], ?_⟩
      exact ⟨by omega, by omega, right_new (okOf u1 u2 u3 u4)⟩
    rintro _ _ ⟨i, s, rfl, ⟨i0, i1, hr⟩⟩
    refine need_wp ?_ ?_
    · first | exact ⟨_, _, _, rfl⟩ | exact acts_row hl | exact acts_sz hl | (simp only [vd1, vd2, vd3, vd4, vd5, vd6, vd7, reduceCtorEq, Option.some.injEq, vb_ite, vi_ite, List.getD_cons_zero, List.getD_cons_succ, hwa, hwb]; exact ⟨_, rfl⟩) | (simp only [vd1, vd2, vd3, vd4, vd5, vd6, vd7, reduceCtorEq, Option.some.injEq, vb_ite, vi_ite, List.getD_cons_zero, List.getD_cons_succ, hwa, hwb] at *; grind)
    refine br_wp (fun c2 => ?_) (fun c2 => ?_)
    · have hi : i < l.n := by simp only [vd1, vd2, vd3, vd4, vd5, vd6, vd7, reduceCtorEq, Option.some.injEq, vb_ite, vi_ite, List.getD_cons_zero, List.getD_cons_succ, hwa, hwb] at c2; omega
      obtain ⟨a0, z0, z1, z2⟩ := acts_at hl i0 hi
      refine need_wp ?_ ?_
      · first | exact ⟨_, _, _, rfl⟩ | exact acts_row hl | exact acts_sz hl | (simp only [vd1, vd2, vd3, vd4, vd5, vd6, vd7, reduceCtorEq, Option.some.injEq, vb_ite, vi_ite, List.getD_cons_zero, List.getD_cons_succ, hwa, hwb, z0, z1, z2]; exact ⟨_, rfl⟩) | (simp only [vd1, vd2, vd3, vd4, vd5, vd6, vd7, reduceCtorEq, Option.some.injEq, vb_ite, vi_ite, List.getD_cons_zero, List.getD_cons_succ, hwa, hwb, z0, z1, z2] at *; grind)
      refine need_wp ?_ ?_
      · first | exact ⟨_, _, _, rfl⟩ | exact acts_row hl | exact acts_sz hl | (simp only [vd1, vd2, vd3, vd4, vd5, vd6, vd7, reduceCtorEq, Option.some.injEq, vb_ite, vi_ite, List.getD_cons_zero, List.getD_cons_succ, hwa, hwb, z0, z1, z2]; exact ⟨_, rfl⟩) | (simp only [vd1, vd2, vd3, vd4, vd5, vd6, vd7, reduceCtorEq, Option.some.injEq, vb_ite, vi_ite, List.getD_cons_zero, List.getD_cons_succ, hwa, hwb, z0, z1, z2] at *; grind)
      refine need_wp ?_ ?_
      · first | exact ⟨_, _, _, rfl⟩ | exact acts_row hl | exact acts_sz hl | (simp only [vd1, vd2, vd3, vd4, vd5, vd6, vd7, reduceCtorEq, Option.some.injEq, vb_ite, vi_ite, List.getD_cons_zero, List.getD_cons_succ, hwa, hwb, z0, z1, z2]; exact ⟨_, rfl⟩) | (simp only [vd1, vd2, vd3, vd4, vd5, vd6, vd7, reduceCtorEq, Option.some.injEq, vb_ite, vi_ite, List.getD_cons_zero, List.getD_cons_succ, hwa, hwb, z0, z1, z2] at *; grind)
      refine need_wp ?_ ?_
      · first | exact ⟨_, _, _, rfl⟩ | exact acts_row hl | exact acts_sz hl | (simp only [vd1, vd2, vd3, vd4, vd5, vd6, vd7, reduceCtorEq, Option.some.injEq, vb_ite, vi_ite, List.getD_cons_zero, List.getD_cons_succ, hwa, hwb, z0, z1, z2]; exact ⟨_, rfl⟩) | (simp only [vd1, vd2, vd3, vd4, vd5, vd6, vd7, reduceCtorEq, Option.some.injEq, vb_ite, vi_ite, List.getD_cons_zero, List.getD_cons_succ, hwa, hwb, z0, z1, z2] at *; grind)
      refine need_wp ?_ ?_
      · first | exact ⟨_, _, _, rfl⟩ | exact acts_row hl | exact acts_sz hl | (simp only [vd1, vd2, vd3, vd4, vd5, vd6, vd7, reduceCtorEq, Option.some.injEq, vb_ite, vi_ite, List.getD_cons_zero, List.getD_cons_succ, hwa, hwb, z0, z1, z2]; exact ⟨_, rfl⟩) | (simp only [vd1, vd2, vd3, vd4, vd5, vd6, vd7, reduceCtorEq, Option.some.injEq, vb_ite, vi_ite, List.getD_cons_zero, List.getD_cons_succ, hwa, hwb, z0, z1, z2] at *; grind)
      refine need_wp ?_ ?_
      · first | exact ⟨_, _, _, rfl⟩ | exact acts_row hl | exact acts_sz hl | (simp only [vd1, vd2, vd3, vd4, vd5, vd6, vd7, reduceCtorEq, Option.some.injEq, vb_ite, vi_ite, List.getD_cons_zero, List.getD_cons_succ, hwa, hwb, z0, z1, z2]; exact ⟨_, rfl⟩) | (simp only [vd1, vd2, vd3, vd4, vd5, vd6, vd7, reduceCtorEq, Option.some.injEq, vb_ite, vi_ite, List.getD_cons_zero, List.getD_cons_succ, hwa, hwb, z0, z1, z2] at *; grind)
      refine need_wp ?_ ?_
      · first | exact ⟨_, _, _, rfl⟩ | exact acts_row hl | exact acts_sz hl | (simp only [vd1, vd2, vd3, vd4, vd5, vd6, vd7, reduceCtorEq, Option.some.injEq, vb_ite, vi_ite, List.getD_cons_zero, List.getD_cons_succ, hwa, hwb, z0, z1, z2]; exact ⟨_, rfl⟩) | (simp only [vd1, vd2, vd3, vd4, vd5, vd6, vd7, reduceCtorEq, Option.some.injEq, vb_ite, vi_ite, List.getD_cons_zero, List.getD_cons_succ, hwa, hwb, z0, z1, z2] at *; grind)
      refine need_wp ?_ ?_
      · first | exact ⟨_, _, _, rfl⟩ | exact acts_row hl | exact acts_sz hl | (simp only [vd1, vd2, vd3, vd4, vd5, vd6, vd7, reduceCtorEq, Option.some.injEq, vb_ite, vi_ite, List.getD_cons_zero, List.getD_cons_succ, hwa, hwb, z0, z1, z2]; exact ⟨_, rfl⟩) | (simp only [vd1, vd2, vd3, vd4, vd5, vd6, vd7, reduceCtorEq, Option.some.injEq, vb_ite, vi_ite, List.getD_cons_zero, List.getD_cons_succ, hwa, hwb, z0, z1, z2] at *; grind)
      refine need_wp ?_ ?_
      · first | exact ⟨_, _, _, rfl⟩ | exact acts_row hl | exact acts_sz hl | (simp only [vd1, vd2, vd3, vd4, vd5, vd6, vd7, reduceCtorEq, Option.some.injEq, vb_ite, vi_ite, List.getD_cons_zero, List.getD_cons_succ, hwa, hwb, z0, z1, z2]; exact ⟨_, rfl⟩) | (simp only [vd1, vd2, vd3, vd4, vd5, vd6, vd7, reduceCtorEq, Option.some.injEq, vb_ite, vi_ite, List.getD_cons_zero, List.getD_cons_succ, hwa, hwb, z0, z1, z2] at *; grind)
      refine call_fun ((((ofP m q)), s, a0)) rfl (by simp only [vd1, vd2, vd3, vd4, vd5, vd6, vd7, reduceCtorEq, Option.some.injEq, vb_ite, vi_ite, List.getD_cons_zero, List.getD_cons_succ, hwa, hwb, z0, z1, z2]) trivial ?_
      refine need_wp ?_ ?_
      · first | exact ⟨_, _, _, rfl⟩ | exact acts_row hl | exact acts_sz hl | (simp only [vd1, vd2, vd3, vd4, vd5, vd6, vd7, reduceCtorEq, Option.some.injEq, vb_ite, vi_ite, List.getD_cons_zero, List.getD_cons_succ, hwa, hwb, z0, z1, z2]; exact ⟨_, rfl⟩) | (simp only [vd1, vd2, vd3, vd4, vd5, vd6, vd7, reduceCtorEq, Option.some.injEq, vb_ite, vi_ite, List.getD_cons_zero, List.getD_cons_succ, hwa, hwb, z0, z1, z2] at *; grind)
      refine again_wp rfl ⟨(IntKind.i64.wrap (i + 1)), (doN ((ofP m q)) s a0), by simp only [vd1, vd2, vd3, vd4, vd5, vd6, vd7, reduceCtorEq, Option.some.injEq, vb_ite, vi_ite, List.getD_cons_zero, List.getD_cons_succ, hwa, hwb, z0, z1, z2], ?_⟩ ?_
      · have hw := wrap_id (i + 1) (by omega) (by omega); simp only [vd1, vd2, vd3, vd4, vd5, vd6, vd7, reduceCtorEq, Option.some.injEq, vb_ite, vi_ite, List.getD_cons_zero, List.getD_cons_succ, hwa, hwb, z0, z1, z2, hw]; exact ⟨by omega, by omega, right_do a0 hr⟩
      · have hw := wrap_id (i + 1) (by omega) (by omega); simp only [vd1, vd2, vd3, vd4, vd5, vd6, vd7, reduceCtorEq, Option.some.injEq, vb_ite, vi_ite, List.getD_cons_zero, List.getD_cons_succ, hwa, hwb, z0, z1, z2, hw]; omega
    · refine pop_wp ?_
      refine br_wp (fun c3 => ?_) (fun c3 => ?_)
      · refine call_fun (()) rfl (by simp only [vd1, vd2, vd3, vd4, vd5, vd6, vd7, reduceCtorEq, Option.some.injEq, vb_ite, vi_ite, List.getD_cons_zero, List.getD_cons_succ, hwa, hwb]) trivial ?_
        refine ret_wp ?_
        first | rfl | ((simp only [vd1, vd2, vd3, vd4, vd5, vd6, vd7, reduceCtorEq, Option.some.injEq, vb_ite, vi_ite, List.getD_cons_zero, List.getD_cons_succ, hwa, hwb] at *) <;> grind)
      · have ht : s.t ≤ 4503599627370496 := by simp only [vd1, vd2, vd3, vd4, vd5, vd6, vd7, reduceCtorEq, Option.some.injEq, vb_ite, vi_ite, List.getD_cons_zero, List.getD_cons_succ, hwa, hwb] at c3; grind
        have hr' := hr
        unfold right at hr'
        obtain ⟨x, hx⟩ : ∃ x : Int, x = s.t + a := ⟨_, rfl⟩
        obtain ⟨y, hy⟩ : ∃ y : Int, y = x + b := ⟨_, rfl⟩
        have hwx : IntKind.i64.wrap (s.t + a) = x := by rw [hx]; exact wrap_id _ (by omega) (by omega)
        have hwy : IntKind.i64.wrap (x + b) = y := by rw [hy]; exact wrap_id _ (by omega) (by omega)
        obtain ⟨f1, f2, f3, f4, f5, f6, f7⟩ := waits (x := x) (y := y) hr (by omega) (by omega) (by omega)
        clear hr'
        refine call_fun ((((ofP m q)), s, x)) rfl (by simp only [vd1, vd2, vd3, vd4, vd5, vd6, vd7, reduceCtorEq, Option.some.injEq, vb_ite, vi_ite, List.getD_cons_zero, List.getD_cons_succ, hwa, hwb, hwx, hwy]) trivial ?_
        refine call_fun ((((ofP m q)), s, y)) rfl (by simp only [vd1, vd2, vd3, vd4, vd5, vd6, vd7, reduceCtorEq, Option.some.injEq, vb_ite, vi_ite, List.getD_cons_zero, List.getD_cons_succ, hwa, hwb, hwx, hwy]) trivial ?_
        refine call_fun ((((ofP m q)), (adv ((ofP m q)) s x Sl.nil), y)) rfl (by simp only [vd1, vd2, vd3, vd4, vd5, vd6, vd7, reduceCtorEq, Option.some.injEq, vb_ite, vi_ite, List.getD_cons_zero, List.getD_cons_succ, hwa, hwb, hwx, hwy]) trivial ?_
        refine call_fun (((adv ((ofP m q)) (adv ((ofP m q)) s x Sl.nil) y Sl.nil), (adv ((ofP m q)) s y Sl.nil))) rfl (by simp only [vd1, vd2, vd3, vd4, vd5, vd6, vd7, reduceCtorEq, Option.some.injEq, vb_ite, vi_ite, List.getD_cons_zero, List.getD_cons_succ, hwa, hwb, hwx, hwy]) ⟨lgOk_nil (rg (p := ofP m q) (by repeat (first | exact hr | apply right_do | apply right_adv))), lgOk_nil (rg (p := ofP m q) (by repeat (first | exact hr | apply right_do | apply right_adv)))⟩ ?_
        refine br_wp (fun c4 => ?_) (fun c4 => ?_)
        · refine call_fun ((((ofP m q)), (adv ((ofP m q)) s y Sl.nil), x)) rfl (by simp only [vd1, vd2, vd3, vd4, vd5, vd6, vd7, reduceCtorEq, Option.some.injEq, vb_ite, vi_ite, List.getD_cons_zero, List.getD_cons_succ, hwa, hwb, hwx, hwy]) trivial ?_
          refine call_fun (((adv ((ofP m q)) (adv ((ofP m q)) s y Sl.nil) x Sl.nil), (adv ((ofP m q)) s y Sl.nil))) rfl (by simp only [vd1, vd2, vd3, vd4, vd5, vd6, vd7, reduceCtorEq, Option.some.injEq, vb_ite, vi_ite, List.getD_cons_zero, List.getD_cons_succ, hwa, hwb, hwx, hwy]) ⟨lgOk_nil (rg (p := ofP m q) (by repeat (first | exact hr | apply right_do | apply right_adv))), lgOk_nil (rg (p := ofP m q) (by repeat (first | exact hr | apply right_do | apply right_adv)))⟩ ?_
          refine br_wp (fun c5 => ?_) (fun c5 => ?_)
          · refine br_wp (fun c6 => ?_) (fun c6 => ?_)
            · refine ret_wp ?_
              first | rfl | ((simp only [vd1, vd2, vd3, vd4, vd5, vd6, vd7, reduceCtorEq, Option.some.injEq, vb_ite, vi_ite, List.getD_cons_zero, List.getD_cons_succ, hwa, hwb, hwx, hwy] at *) <;> grind)
            · refine br_wp (fun c7 => ?_) (fun c7 => ?_)
              · refine ret_wp ?_
                first | rfl | ((simp only [vd1, vd2, vd3, vd4, vd5, vd6, vd7, reduceCtorEq, Option.some.injEq, vb_ite, vi_ite, List.getD_cons_zero, List.getD_cons_succ, hwa, hwb, hwx, hwy] at *) <;> grind)
              · refine call_fun ((((ofP m q)), s, y)) rfl (by simp only [vd1, vd2, vd3, vd4, vd5, vd6, vd7, reduceCtorEq, Option.some.injEq, vb_ite, vi_ite, List.getD_cons_zero, List.getD_cons_succ, hwa, hwb, hwx, hwy]) trivial ?_
                refine call_fun ((((ofP m q)), s, x)) rfl (by simp only [vd1, vd2, vd3, vd4, vd5, vd6, vd7, reduceCtorEq, Option.some.injEq, vb_ite, vi_ite, List.getD_cons_zero, List.getD_cons_succ, hwa, hwb, hwx, hwy]) trivial ?_
                refine br_wp (fun c8 => ?_) (fun c8 => ?_)
                · refine call_fun ((((ofP m q)), (adv ((ofP m q)) s x Sl.nil), y)) rfl (by simp only [vd1, vd2, vd3, vd4, vd5, vd6, vd7, reduceCtorEq, Option.some.injEq, vb_ite, vi_ite, List.getD_cons_zero, List.getD_cons_succ, hwa, hwb, hwx, hwy]) trivial ?_
                  refine call_fun ((((ofP m q)), s, y)) rfl (by simp only [vd1, vd2, vd3, vd4, vd5, vd6, vd7, reduceCtorEq, Option.some.injEq, vb_ite, vi_ite, List.getD_cons_zero, List.getD_cons_succ, hwa, hwb, hwx, hwy]) trivial ?_
                  refine br_wp (fun c9 => ?_) (fun c9 => ?_)
                  · refine call_fun ((((ofP m q)), (adv ((ofP m q)) s x Sl.nil))) rfl (by simp only [vd1, vd2, vd3, vd4, vd5, vd6, vd7, reduceCtorEq, Option.some.injEq, vb_ite, vi_ite, List.getD_cons_zero, List.getD_cons_succ, hwa, hwb, hwx, hwy]) trivial ?_
                    refine br_wp (fun c10 => ?_) (fun c10 => ?_)
                    · refine call_fun (()) rfl (by simp only [vd1, vd2, vd3, vd4, vd5, vd6, vd7, reduceCtorEq, Option.some.injEq, vb_ite, vi_ite, List.getD_cons_zero, List.getD_cons_succ, hwa, hwb, hwx, hwy]) trivial ?_
                      refine ret_wp ?_
                      first | rfl | ((simp only [vd1, vd2, vd3, vd4, vd5, vd6, vd7, reduceCtorEq, Option.some.injEq, vb_ite, vi_ite, List.getD_cons_zero, List.getD_cons_succ, hwa, hwb, hwx, hwy] at *) <;> grind)
                    · refine ret_wp ?_
                      first | rfl | ((simp only [vd1, vd2, vd3, vd4, vd5, vd6, vd7, reduceCtorEq, Option.some.injEq, vb_ite, vi_ite, List.getD_cons_zero, List.getD_cons_succ, hwa, hwb, hwx, hwy] at *) <;> grind)
                  · refine ret_wp ?_
                    first | rfl | ((simp only [vd1, vd2, vd3, vd4, vd5, vd6, vd7, reduceCtorEq, Option.some.injEq, vb_ite, vi_ite, List.getD_cons_zero, List.getD_cons_succ, hwa, hwb, hwx, hwy] at *) <;> grind)
                · refine ret_wp ?_
                  first | rfl | ((simp only [vd1, vd2, vd3, vd4, vd5, vd6, vd7, reduceCtorEq, Option.some.injEq, vb_ite, vi_ite, List.getD_cons_zero, List.getD_cons_succ, hwa, hwb, hwx, hwy] at *) <;> grind)
          · refine ret_wp ?_
            first | rfl | ((simp only [vd1, vd2, vd3, vd4, vd5, vd6, vd7, reduceCtorEq, Option.some.injEq, vb_ite, vi_ite, List.getD_cons_zero, List.getD_cons_succ, hwa, hwb, hwx, hwy] at *) <;> grind)
        · refine ret_wp ?_
          first | rfl | ((simp only [vd1, vd2, vd3, vd4, vd5, vd6, vd7, reduceCtorEq, Option.some.injEq, vb_ite, vi_ite, List.getD_cons_zero, List.getD_cons_succ, hwa, hwb, hwx, hwy] at *) <;> grind)
  · refine call_fun (()) rfl (by simp only [vd1, vd2, vd3, vd4, vd5, vd6, vd7, reduceCtorEq, Option.some.injEq, vb_ite, vi_ite, List.getD_cons_zero, List.getD_cons_succ, hwa, hwb]) trivial ?_
    refine ret_wp ?_
    first | rfl | ((simp only [vd1, vd2, vd3, vd4, vd5, vd6, vd7, reduceCtorEq, Option.some.injEq, vb_ite, vi_ite, List.getD_cons_zero, List.getD_cons_succ, hwa, hwb] at *) <;> grind)
def kLaw7 (sg : Sig) : Sig × Con := (sg, mkFun (fun x : Int × Int × Int × Sl × Int => ([aK .u16 x.1, aK .u16 x.2.1, aK .u16 x.2.2.1, Sl.atom x.2.2.2.1, aK .u8 x.2.2.2.2] : List Atom)) (fun x => actsOk x.2.2.2.1 ∧ (0 ≤ x.1 ∧ x.1 < 65536 ∧ 0 ≤ x.2.1 ∧ x.2.1 < 65536) ∧ (0 ≤ x.2.2.2.2 ∧ x.2.2.2.2 < 256)) (fun _ => [aB true]))
set_option maxHeartbeats 4000000 in
theorem h7 : holds Try.prog (kLaw7 sg7) := by
  refine fn_holds (l := [kSmall sg10, kKnown sg11, kOf sg12, kNew sg13, kDo sg14, kRetry sg19, kUntil sg20]) ⟨h10, h11, h12, h13, h14, h19, h20, trivial⟩ hP rs7 (inj_of (fun l : List Atom => ((vi (l.getD 0 atom0).1, vi (l.getD 1 atom0).1, vi (l.getD 2 atom0).1, (⟨va (l.getD 3 atom0).1, vn (l.getD 3 atom0).1, vc (l.getD 3 atom0).1, (l.getD 3 atom0).2⟩ : Sl), vi (l.getD 4 atom0).1) : Int × Int × Int × Sl × Int)) (fun _ => rfl)) Try.func7 (by kernel_rfl) (c := code Try.f7) (by kernel_rfl) (an := an7) (by kernel_rfl) (pk := pk7) rfl (t := t7) (by kernel_rfl) ?_
  rintro ⟨m, q, e, l, k⟩ ⟨hl, ⟨u1, u2, u3, u4⟩, ⟨u7, u8⟩⟩
  refine ⟨by simp [pk7, KindsOk, encPS, encPSn, encPSnc, encPSA, encPn, encSS, encI, Pol.enc, Stt.enc, Ac.enc, Sl.atom, Sl.nil, Stt.zero, RK.ok], ?_⟩
  unfold t7
  simp only at hl u1 u2 u3 u4 u7 u8
  have hwk := wrap_id k (by omega) (by omega)
  obtain ⟨c, hc⟩ : ∃ c : Int, c = 1 + k := ⟨_, rfl⟩
  have hwc : IntKind.i64.wrap (1 + k) = c := by rw [hc]; exact wrap_id _ (by omega) (by omega)
  refine call_fun (l) rfl (by simp only [vd1, vd2, vd3, vd4, vd5, vd6, vd7, reduceCtorEq, Option.some.injEq, vb_ite, vi_ite, List.getD_cons_zero, List.getD_cons_succ, hwk, hwc]) trivial ?_
  refine br_wp (fun c1 => ?_) (fun c1 => ?_)
  · have hn : l.n ≤ 60 := by simp only [vd1, vd2, vd3, vd4, vd5, vd6, vd7, reduceCtorEq, Option.some.injEq, vb_ite, vi_ite, List.getD_cons_zero, List.getD_cons_succ, hwk, hwc] at c1; omega
    refine call_fun ((m, q)) rfl (by simp only [vd1, vd2, vd3, vd4, vd5, vd6, vd7, reduceCtorEq, Option.some.injEq, vb_ite, vi_ite, List.getD_cons_zero, List.getD_cons_succ, hwk, hwc]) ⟨u1, u2, u3, u4⟩ ?_
    refine call_fun ((((ofP m q)), 0)) rfl (by simp only [vd1, vd2, vd3, vd4, vd5, vd6, vd7, reduceCtorEq, Option.some.injEq, vb_ite, vi_ite, List.getD_cons_zero, List.getD_cons_succ, hwk, hwc]) trivial ?_
    refine need_wp ?_ ?_
    · first | exact ⟨_, _, _, rfl⟩ | exact acts_row hl | exact acts_sz hl | (simp only [vd1, vd2, vd3, vd4, vd5, vd6, vd7, reduceCtorEq, Option.some.injEq, vb_ite, vi_ite, List.getD_cons_zero, List.getD_cons_succ, hwk, hwc]; exact ⟨_, rfl⟩) | (simp only [vd1, vd2, vd3, vd4, vd5, vd6, vd7, reduceCtorEq, Option.some.injEq, vb_ite, vi_ite, List.getD_cons_zero, List.getD_cons_succ, hwk, hwc] at *; grind)
    refine loop_wp (fun bs0 => ∃ (i : Int) (s : Stt), bs0 = [aI i, aI s.t, aI s.v, aI s.h, Sl.atom s.g] ∧ (0 ≤ i ∧ i ≤ l.n ∧ right (ofP m q) s)) (fun bs0 => (l.n - vi (bs0.getD 0 atom0).1).toNat) ?_ ?_
    · refine ⟨0, (new_ ((ofP m q)) 0), by simp only [vd1, vd2, vd3, vd4, vd5, vd6, vd7, reduceCtorEq, Option.some.injEq, vb_ite, vi_ite, List.getD_cons_zero, List.getD_cons_succ, hwk, hwc], ?_⟩
      exact ⟨by omega, by omega, right_new (okOf u1 u2 u3 u4)⟩
    rintro _ _ ⟨i, s, rfl, ⟨i0, i1, hr⟩⟩
    refine need_wp ?_ ?_
    · first | exact ⟨_, _, _, rfl⟩ | exact acts_row hl | exact acts_sz hl | (simp only [vd1, vd2, vd3, vd4, vd5, vd6, vd7, reduceCtorEq, Option.some.injEq, vb_ite, vi_ite, List.getD_cons_zero, List.getD_cons_succ, hwk, hwc]; exact ⟨_, rfl⟩) | (simp only [vd1, vd2, vd3, vd4, vd5, vd6, vd7, reduceCtorEq, Option.some.injEq, vb_ite, vi_ite, List.getD_cons_zero, List.getD_cons_succ, hwk, hwc] at *; grind)
    refine br_wp (fun c2 => ?_) (fun c2 => ?_)
    · have hi : i < l.n := by simp only [vd1, vd2, vd3, vd4, vd5, vd6, vd7, reduceCtorEq, Option.some.injEq, vb_ite, vi_ite, List.getD_cons_zero, List.getD_cons_succ, hwk, hwc] at c2; omega
      obtain ⟨a0, z0, z1, z2⟩ := acts_at hl i0 hi
      refine need_wp ?_ ?_
      · first | exact ⟨_, _, _, rfl⟩ | exact acts_row hl | exact acts_sz hl | (simp only [vd1, vd2, vd3, vd4, vd5, vd6, vd7, reduceCtorEq, Option.some.injEq, vb_ite, vi_ite, List.getD_cons_zero, List.getD_cons_succ, hwk, hwc, z0, z1, z2]; exact ⟨_, rfl⟩) | (simp only [vd1, vd2, vd3, vd4, vd5, vd6, vd7, reduceCtorEq, Option.some.injEq, vb_ite, vi_ite, List.getD_cons_zero, List.getD_cons_succ, hwk, hwc, z0, z1, z2] at *; grind)
      refine need_wp ?_ ?_
      · first | exact ⟨_, _, _, rfl⟩ | exact acts_row hl | exact acts_sz hl | (simp only [vd1, vd2, vd3, vd4, vd5, vd6, vd7, reduceCtorEq, Option.some.injEq, vb_ite, vi_ite, List.getD_cons_zero, List.getD_cons_succ, hwk, hwc, z0, z1, z2]; exact ⟨_, rfl⟩) | (simp only [vd1, vd2, vd3, vd4, vd5, vd6, vd7, reduceCtorEq, Option.some.injEq, vb_ite, vi_ite, List.getD_cons_zero, List.getD_cons_succ, hwk, hwc, z0, z1, z2] at *; grind)
      refine need_wp ?_ ?_
      · first | exact ⟨_, _, _, rfl⟩ | exact acts_row hl | exact acts_sz hl | (simp only [vd1, vd2, vd3, vd4, vd5, vd6, vd7, reduceCtorEq, Option.some.injEq, vb_ite, vi_ite, List.getD_cons_zero, List.getD_cons_succ, hwk, hwc, z0, z1, z2]; exact ⟨_, rfl⟩) | (simp only [vd1, vd2, vd3, vd4, vd5, vd6, vd7, reduceCtorEq, Option.some.injEq, vb_ite, vi_ite, List.getD_cons_zero, List.getD_cons_succ, hwk, hwc, z0, z1, z2] at *; grind)
      refine need_wp ?_ ?_
      · first | exact ⟨_, _, _, rfl⟩ | exact acts_row hl | exact acts_sz hl | (simp only [vd1, vd2, vd3, vd4, vd5, vd6, vd7, reduceCtorEq, Option.some.injEq, vb_ite, vi_ite, List.getD_cons_zero, List.getD_cons_succ, hwk, hwc, z0, z1, z2]; exact ⟨_, rfl⟩) | (simp only [vd1, vd2, vd3, vd4, vd5, vd6, vd7, reduceCtorEq, Option.some.injEq, vb_ite, vi_ite, List.getD_cons_zero, List.getD_cons_succ, hwk, hwc, z0, z1, z2] at *; grind)
      refine need_wp ?_ ?_
      · first | exact ⟨_, _, _, rfl⟩ | exact acts_row hl | exact acts_sz hl | (simp only [vd1, vd2, vd3, vd4, vd5, vd6, vd7, reduceCtorEq, Option.some.injEq, vb_ite, vi_ite, List.getD_cons_zero, List.getD_cons_succ, hwk, hwc, z0, z1, z2]; exact ⟨_, rfl⟩) | (simp only [vd1, vd2, vd3, vd4, vd5, vd6, vd7, reduceCtorEq, Option.some.injEq, vb_ite, vi_ite, List.getD_cons_zero, List.getD_cons_succ, hwk, hwc, z0, z1, z2] at *; grind)
      refine need_wp ?_ ?_
      · first | exact ⟨_, _, _, rfl⟩ | exact acts_row hl | exact acts_sz hl | (simp only [vd1, vd2, vd3, vd4, vd5, vd6, vd7, reduceCtorEq, Option.some.injEq, vb_ite, vi_ite, List.getD_cons_zero, List.getD_cons_succ, hwk, hwc, z0, z1, z2]; exact ⟨_, rfl⟩) | (simp only [vd1, vd2, vd3, vd4, vd5, vd6, vd7, reduceCtorEq, Option.some.injEq, vb_ite, vi_ite, List.getD_cons_zero, List.getD_cons_succ, hwk, hwc, z0, z1, z2] at *; grind)
      refine need_wp ?_ ?_
      · first | exact ⟨_, _, _, rfl⟩ | exact acts_row hl | exact acts_sz hl | (simp only [vd1, vd2, vd3, vd4, vd5, vd6, vd7, reduceCtorEq, Option.some.injEq, vb_ite, vi_ite, List.getD_cons_zero, List.getD_cons_succ, hwk, hwc, z0, z1, z2]; exact ⟨_, rfl⟩) | (simp only [vd1, vd2, vd3, vd4, vd5, vd6, vd7, reduceCtorEq, Option.some.injEq, vb_ite, vi_ite, List.getD_cons_zero, List.getD_cons_succ, hwk, hwc, z0, z1, z2] at *; grind)
      refine need_wp ?_ ?_
      · first | exact ⟨_, _, _, rfl⟩ | exact acts_row hl | exact acts_sz hl | (simp only [vd1, vd2, vd3, vd4, vd5, vd6, vd7, reduceCtorEq, Option.some.injEq, vb_ite, vi_ite, List.getD_cons_zero, List.getD_cons_succ, hwk, hwc, z0, z1, z2]; exact ⟨_, rfl⟩) | (simp only [vd1, vd2, vd3, vd4, vd5, vd6, vd7, reduceCtorEq, Option.some.injEq, vb_ite, vi_ite, List.getD_cons_zero, List.getD_cons_succ, hwk, hwc, z0, z1, z2] at *; grind)
      refine need_wp ?_ ?_
      · first | exact ⟨_, _, _, rfl⟩ | exact acts_row hl | exact acts_sz hl | (simp only [vd1, vd2, vd3, vd4, vd5, vd6, vd7, reduceCtorEq, Option.some.injEq, vb_ite, vi_ite, List.getD_cons_zero, List.getD_cons_succ, hwk, hwc, z0, z1, z2]; exact ⟨_, rfl⟩) | (simp only [vd1, vd2, vd3, vd4, vd5, vd6, vd7, reduceCtorEq, Option.some.injEq, vb_ite, vi_ite, List.getD_cons_zero, List.getD_cons_succ, hwk, hwc, z0, z1, z2] at *; grind)
      refine call_fun ((((ofP m q)), s, a0)) rfl (by simp only [vd1, vd2, vd3, vd4, vd5, vd6, vd7, reduceCtorEq, Option.some.injEq, vb_ite, vi_ite, List.getD_cons_zero, List.getD_cons_succ, hwk, hwc, z0, z1, z2]) trivial ?_
      refine need_wp ?_ ?_
      · first | exact ⟨_, _, _, rfl⟩ | exact acts_row hl | exact acts_sz hl | (simp only [vd1, vd2, vd3, vd4, vd5, vd6, vd7, reduceCtorEq, Option.some.injEq, vb_ite, vi_ite, List.getD_cons_zero, List.getD_cons_succ, hwk, hwc, z0, z1, z2]; exact ⟨_, rfl⟩) | (simp only [vd1, vd2, vd3, vd4, vd5, vd6, vd7, reduceCtorEq, Option.some.injEq, vb_ite, vi_ite, List.getD_cons_zero, List.getD_cons_succ, hwk, hwc, z0, z1, z2] at *; grind)
      refine again_wp rfl ⟨(IntKind.i64.wrap (i + 1)), (doN ((ofP m q)) s a0), by simp only [vd1, vd2, vd3, vd4, vd5, vd6, vd7, reduceCtorEq, Option.some.injEq, vb_ite, vi_ite, List.getD_cons_zero, List.getD_cons_succ, hwk, hwc, z0, z1, z2], ?_⟩ ?_
      · have hw := wrap_id (i + 1) (by omega) (by omega); simp only [vd1, vd2, vd3, vd4, vd5, vd6, vd7, reduceCtorEq, Option.some.injEq, vb_ite, vi_ite, List.getD_cons_zero, List.getD_cons_succ, hwk, hwc, z0, z1, z2, hw]; exact ⟨by omega, by omega, right_do a0 hr⟩
      · have hw := wrap_id (i + 1) (by omega) (by omega); simp only [vd1, vd2, vd3, vd4, vd5, vd6, vd7, reduceCtorEq, Option.some.injEq, vb_ite, vi_ite, List.getD_cons_zero, List.getD_cons_succ, hwk, hwc, z0, z1, z2, hw]; omega
    · have hws : IntKind.i64.wrap ((ofP m q).l - s.h) = (ofP m q).l - s.h := by have h0 := hr; unfold right at h0; have h1 : (ofP m q).l = m + 1 := rfl; exact wrap_id _ (by omega) (by omega)
      have f1 : mayC (ofP m q) s c ↔ c ≤ (ofP m q).l - s.h := ⟨fun h => h.2.2, fun h => ⟨hr, by omega, h⟩⟩
      refine pop_wp ?_
      refine call_fun ((((ofP m q)), s, 0, c)) rfl (by simp only [vd1, vd2, vd3, vd4, vd5, vd6, vd7, reduceCtorEq, Option.some.injEq, vb_ite, vi_ite, List.getD_cons_zero, List.getD_cons_succ, hwk, hwc, hws]) trivial ?_
      refine br_wp (fun c3 => ?_) (fun c3 => ?_)
      · refine br_wp (fun c4 => ?_) (fun c4 => ?_)
        · refine call_fun (()) rfl (by simp only [vd1, vd2, vd3, vd4, vd5, vd6, vd7, reduceCtorEq, Option.some.injEq, vb_ite, vi_ite, List.getD_cons_zero, List.getD_cons_succ, hwk, hwc, hws]) trivial ?_
          refine ret_wp ?_
          first | rfl | ((simp only [vd1, vd2, vd3, vd4, vd5, vd6, vd7, reduceCtorEq, Option.some.injEq, vb_ite, vi_ite, List.getD_cons_zero, List.getD_cons_succ, hwk, hwc, hws] at *) <;> grind)
        · have ht : s.t ≤ 4503599627370496 := by simp only [vd1, vd2, vd3, vd4, vd5, vd6, vd7, reduceCtorEq, Option.some.injEq, vb_ite, vi_ite, List.getD_cons_zero, List.getD_cons_succ, hwk, hwc, hws] at c4; grind
          have ht0 : 0 ≤ s.t := hr.2.1
          have f2 := fun h => retries (c := c) hr ht h
          obtain ⟨f3, f4, f5⟩ := untils hr ht
          have f6 := until_ge hr
          have f7 := retry_bd (c := c) hr
          have hw1 : IntKind.i64.wrap (s.t + (retry (ofP m q) s 0 c)) = s.t + (retry (ofP m q) s 0 c) := wrap_id _ (by omega) (by omega)
          have hw2 : IntKind.i64.wrap (s.t + (retry (ofP m q) s 0 c) - 1) = s.t + (retry (ofP m q) s 0 c) - 1 := wrap_id _ (by omega) (by omega)
          have hw3 : IntKind.i64.wrap (s.t + (until_ (ofP m q) s 0)) = s.t + (until_ (ofP m q) s 0) := wrap_id _ (by omega) (by omega)
          have hw4 : IntKind.i64.wrap (s.t + (until_ (ofP m q) s 0) - 1) = s.t + (until_ (ofP m q) s 0) - 1 := wrap_id _ (by omega) (by omega)
          refine br_wp (fun c5 => ?_) (fun c5 => ?_)
          · refine call_fun ((((ofP m q)), s, (⟨1, (IntKind.i64.wrap (s.t + (retry ((ofP m q)) s 0 c))), c⟩ : Ac))) rfl (by simp only [vd1, vd2, vd3, vd4, vd5, vd6, vd7, reduceCtorEq, Option.some.injEq, vb_ite, vi_ite, List.getD_cons_zero, List.getD_cons_succ, hwk, hwc, hws, hw1, hw2, hw3, hw4]) trivial ?_
            refine call_fun ((((ofP m q)), s, (⟨1, (IntKind.i64.wrap ((IntKind.i64.wrap (s.t + (retry ((ofP m q)) s 0 c))) - 1)), c⟩ : Ac))) rfl (by simp only [vd1, vd2, vd3, vd4, vd5, vd6, vd7, reduceCtorEq, Option.some.injEq, vb_ite, vi_ite, List.getD_cons_zero, List.getD_cons_succ, hwk, hwc, hws, hw1, hw2, hw3, hw4]) trivial ?_
            refine br_wp (fun c6 => ?_) (fun c6 => ?_)
            · refine br_wp (fun c7 => ?_) (fun c7 => ?_)
              · refine br_wp (fun c8 => ?_) (fun c8 => ?_)
                · refine ret_wp ?_
                  first | rfl | ((simp only [vd1, vd2, vd3, vd4, vd5, vd6, vd7, reduceCtorEq, Option.some.injEq, vb_ite, vi_ite, List.getD_cons_zero, List.getD_cons_succ, hwk, hwc, hws, hw1, hw2, hw3, hw4] at *) <;> grind)
                · refine call_fun ((((ofP m q)), s, 0)) rfl (by simp only [vd1, vd2, vd3, vd4, vd5, vd6, vd7, reduceCtorEq, Option.some.injEq, vb_ite, vi_ite, List.getD_cons_zero, List.getD_cons_succ, hwk, hwc, hws, hw1, hw2, hw3, hw4]) trivial ?_
                  refine br_wp (fun c9 => ?_) (fun c9 => ?_)
                  · refine br_wp (fun c10 => ?_) (fun c10 => ?_)
                    · refine call_fun (()) rfl (by simp only [vd1, vd2, vd3, vd4, vd5, vd6, vd7, reduceCtorEq, Option.some.injEq, vb_ite, vi_ite, List.getD_cons_zero, List.getD_cons_succ, hwk, hwc, hws, hw1, hw2, hw3, hw4]) trivial ?_
                      refine ret_wp ?_
                      first | rfl | ((simp only [vd1, vd2, vd3, vd4, vd5, vd6, vd7, reduceCtorEq, Option.some.injEq, vb_ite, vi_ite, List.getD_cons_zero, List.getD_cons_succ, hwk, hwc, hws, hw1, hw2, hw3, hw4] at *) <;> grind)
                    · refine call_fun ((((ofP m q)), s, (IntKind.i64.wrap (s.t + (until_ ((ofP m q)) s 0))))) rfl (by simp only [vd1, vd2, vd3, vd4, vd5, vd6, vd7, reduceCtorEq, Option.some.injEq, vb_ite, vi_ite, List.getD_cons_zero, List.getD_cons_succ, hwk, hwc, hws, hw1, hw2, hw3, hw4]) trivial ?_
                      refine br_wp (fun c11 => ?_) (fun c11 => ?_)
                      · refine br_wp (fun c12 => ?_) (fun c12 => ?_)
                        · refine call_fun (()) rfl (by simp only [vd1, vd2, vd3, vd4, vd5, vd6, vd7, reduceCtorEq, Option.some.injEq, vb_ite, vi_ite, List.getD_cons_zero, List.getD_cons_succ, hwk, hwc, hws, hw1, hw2, hw3, hw4]) trivial ?_
                          refine ret_wp ?_
                          first | rfl | ((simp only [vd1, vd2, vd3, vd4, vd5, vd6, vd7, reduceCtorEq, Option.some.injEq, vb_ite, vi_ite, List.getD_cons_zero, List.getD_cons_succ, hwk, hwc, hws, hw1, hw2, hw3, hw4] at *) <;> grind)
                        · refine call_fun ((((ofP m q)), s, (IntKind.i64.wrap ((IntKind.i64.wrap (s.t + (until_ ((ofP m q)) s 0))) - 1)))) rfl (by simp only [vd1, vd2, vd3, vd4, vd5, vd6, vd7, reduceCtorEq, Option.some.injEq, vb_ite, vi_ite, List.getD_cons_zero, List.getD_cons_succ, hwk, hwc, hws, hw1, hw2, hw3, hw4]) trivial ?_
                          refine br_wp (fun c13 => ?_) (fun c13 => ?_)
                          · refine call_fun (()) rfl (by simp only [vd1, vd2, vd3, vd4, vd5, vd6, vd7, reduceCtorEq, Option.some.injEq, vb_ite, vi_ite, List.getD_cons_zero, List.getD_cons_succ, hwk, hwc, hws, hw1, hw2, hw3, hw4]) trivial ?_
                            refine ret_wp ?_
                            first | rfl | ((simp only [vd1, vd2, vd3, vd4, vd5, vd6, vd7, reduceCtorEq, Option.some.injEq, vb_ite, vi_ite, List.getD_cons_zero, List.getD_cons_succ, hwk, hwc, hws, hw1, hw2, hw3, hw4] at *) <;> grind)
                          · refine ret_wp ?_
                            first | rfl | ((simp only [vd1, vd2, vd3, vd4, vd5, vd6, vd7, reduceCtorEq, Option.some.injEq, vb_ite, vi_ite, List.getD_cons_zero, List.getD_cons_succ, hwk, hwc, hws, hw1, hw2, hw3, hw4] at *) <;> grind)
                      · refine ret_wp ?_
                        first | rfl | ((simp only [vd1, vd2, vd3, vd4, vd5, vd6, vd7, reduceCtorEq, Option.some.injEq, vb_ite, vi_ite, List.getD_cons_zero, List.getD_cons_succ, hwk, hwc, hws, hw1, hw2, hw3, hw4] at *) <;> grind)
                  · refine ret_wp ?_
                    first | rfl | ((simp only [vd1, vd2, vd3, vd4, vd5, vd6, vd7, reduceCtorEq, Option.some.injEq, vb_ite, vi_ite, List.getD_cons_zero, List.getD_cons_succ, hwk, hwc, hws, hw1, hw2, hw3, hw4] at *) <;> grind)
              · refine call_fun ((((ofP m q)), s, 0)) rfl (by simp only [vd1, vd2, vd3, vd4, vd5, vd6, vd7, reduceCtorEq, Option.some.injEq, vb_ite, vi_ite, List.getD_cons_zero, List.getD_cons_succ, hwk, hwc, hws, hw1, hw2, hw3, hw4]) trivial ?_
                refine br_wp (fun c14 => ?_) (fun c14 => ?_)
                · refine br_wp (fun c15 => ?_) (fun c15 => ?_)
                  · refine call_fun (()) rfl (by simp only [vd1, vd2, vd3, vd4, vd5, vd6, vd7, reduceCtorEq, Option.some.injEq, vb_ite, vi_ite, List.getD_cons_zero, List.getD_cons_succ, hwk, hwc, hws, hw1, hw2, hw3, hw4]) trivial ?_
                    refine ret_wp ?_
                    first | rfl | ((simp only [vd1, vd2, vd3, vd4, vd5, vd6, vd7, reduceCtorEq, Option.some.injEq, vb_ite, vi_ite, List.getD_cons_zero, List.getD_cons_succ, hwk, hwc, hws, hw1, hw2, hw3, hw4] at *) <;> grind)
                  · refine call_fun ((((ofP m q)), s, (IntKind.i64.wrap (s.t + (until_ ((ofP m q)) s 0))))) rfl (by simp only [vd1, vd2, vd3, vd4, vd5, vd6, vd7, reduceCtorEq, Option.some.injEq, vb_ite, vi_ite, List.getD_cons_zero, List.getD_cons_succ, hwk, hwc, hws, hw1, hw2, hw3, hw4]) trivial ?_
                    refine br_wp (fun c16 => ?_) (fun c16 => ?_)
                    · refine br_wp (fun c17 => ?_) (fun c17 => ?_)
                      · refine call_fun (()) rfl (by simp only [vd1, vd2, vd3, vd4, vd5, vd6, vd7, reduceCtorEq, Option.some.injEq, vb_ite, vi_ite, List.getD_cons_zero, List.getD_cons_succ, hwk, hwc, hws, hw1, hw2, hw3, hw4]) trivial ?_
                        refine ret_wp ?_
                        first | rfl | ((simp only [vd1, vd2, vd3, vd4, vd5, vd6, vd7, reduceCtorEq, Option.some.injEq, vb_ite, vi_ite, List.getD_cons_zero, List.getD_cons_succ, hwk, hwc, hws, hw1, hw2, hw3, hw4] at *) <;> grind)
                      · refine call_fun ((((ofP m q)), s, (IntKind.i64.wrap ((IntKind.i64.wrap (s.t + (until_ ((ofP m q)) s 0))) - 1)))) rfl (by simp only [vd1, vd2, vd3, vd4, vd5, vd6, vd7, reduceCtorEq, Option.some.injEq, vb_ite, vi_ite, List.getD_cons_zero, List.getD_cons_succ, hwk, hwc, hws, hw1, hw2, hw3, hw4]) trivial ?_
                        refine br_wp (fun c18 => ?_) (fun c18 => ?_)
                        · refine call_fun (()) rfl (by simp only [vd1, vd2, vd3, vd4, vd5, vd6, vd7, reduceCtorEq, Option.some.injEq, vb_ite, vi_ite, List.getD_cons_zero, List.getD_cons_succ, hwk, hwc, hws, hw1, hw2, hw3, hw4]) trivial ?_
                          refine ret_wp ?_
                          first | rfl | ((simp only [vd1, vd2, vd3, vd4, vd5, vd6, vd7, reduceCtorEq, Option.some.injEq, vb_ite, vi_ite, List.getD_cons_zero, List.getD_cons_succ, hwk, hwc, hws, hw1, hw2, hw3, hw4] at *) <;> grind)
                        · refine ret_wp ?_
                          first | rfl | ((simp only [vd1, vd2, vd3, vd4, vd5, vd6, vd7, reduceCtorEq, Option.some.injEq, vb_ite, vi_ite, List.getD_cons_zero, List.getD_cons_succ, hwk, hwc, hws, hw1, hw2, hw3, hw4] at *) <;> grind)
                    · refine ret_wp ?_
                      first | rfl | ((simp only [vd1, vd2, vd3, vd4, vd5, vd6, vd7, reduceCtorEq, Option.some.injEq, vb_ite, vi_ite, List.getD_cons_zero, List.getD_cons_succ, hwk, hwc, hws, hw1, hw2, hw3, hw4] at *) <;> grind)
                · refine ret_wp ?_
                  first | rfl | ((simp only [vd1, vd2, vd3, vd4, vd5, vd6, vd7, reduceCtorEq, Option.some.injEq, vb_ite, vi_ite, List.getD_cons_zero, List.getD_cons_succ, hwk, hwc, hws, hw1, hw2, hw3, hw4] at *) <;> grind)
            · refine ret_wp ?_
              first | rfl | ((simp only [vd1, vd2, vd3, vd4, vd5, vd6, vd7, reduceCtorEq, Option.some.injEq, vb_ite, vi_ite, List.getD_cons_zero, List.getD_cons_succ, hwk, hwc, hws, hw1, hw2, hw3, hw4] at *) <;> grind)
          · refine call_fun ((((ofP m q)), s, 0)) rfl (by simp only [vd1, vd2, vd3, vd4, vd5, vd6, vd7, reduceCtorEq, Option.some.injEq, vb_ite, vi_ite, List.getD_cons_zero, List.getD_cons_succ, hwk, hwc, hws, hw1, hw2, hw3, hw4]) trivial ?_
            refine br_wp (fun c19 => ?_) (fun c19 => ?_)
            · refine br_wp (fun c20 => ?_) (fun c20 => ?_)
              · refine call_fun (()) rfl (by simp only [vd1, vd2, vd3, vd4, vd5, vd6, vd7, reduceCtorEq, Option.some.injEq, vb_ite, vi_ite, List.getD_cons_zero, List.getD_cons_succ, hwk, hwc, hws, hw1, hw2, hw3, hw4]) trivial ?_
                refine ret_wp ?_
                first | rfl | ((simp only [vd1, vd2, vd3, vd4, vd5, vd6, vd7, reduceCtorEq, Option.some.injEq, vb_ite, vi_ite, List.getD_cons_zero, List.getD_cons_succ, hwk, hwc, hws, hw1, hw2, hw3, hw4] at *) <;> grind)
              · refine call_fun ((((ofP m q)), s, (IntKind.i64.wrap (s.t + (until_ ((ofP m q)) s 0))))) rfl (by simp only [vd1, vd2, vd3, vd4, vd5, vd6, vd7, reduceCtorEq, Option.some.injEq, vb_ite, vi_ite, List.getD_cons_zero, List.getD_cons_succ, hwk, hwc, hws, hw1, hw2, hw3, hw4]) trivial ?_
                refine br_wp (fun c21 => ?_) (fun c21 => ?_)
                · refine br_wp (fun c22 => ?_) (fun c22 => ?_)
                  · refine call_fun (()) rfl (by simp only [vd1, vd2, vd3, vd4, vd5, vd6, vd7, reduceCtorEq, Option.some.injEq, vb_ite, vi_ite, List.getD_cons_zero, List.getD_cons_succ, hwk, hwc, hws, hw1, hw2, hw3, hw4]) trivial ?_
                    refine ret_wp ?_
                    first | rfl | ((simp only [vd1, vd2, vd3, vd4, vd5, vd6, vd7, reduceCtorEq, Option.some.injEq, vb_ite, vi_ite, List.getD_cons_zero, List.getD_cons_succ, hwk, hwc, hws, hw1, hw2, hw3, hw4] at *) <;> grind)
                  · refine call_fun ((((ofP m q)), s, (IntKind.i64.wrap ((IntKind.i64.wrap (s.t + (until_ ((ofP m q)) s 0))) - 1)))) rfl (by simp only [vd1, vd2, vd3, vd4, vd5, vd6, vd7, reduceCtorEq, Option.some.injEq, vb_ite, vi_ite, List.getD_cons_zero, List.getD_cons_succ, hwk, hwc, hws, hw1, hw2, hw3, hw4]) trivial ?_
                    refine br_wp (fun c23 => ?_) (fun c23 => ?_)
                    · refine call_fun (()) rfl (by simp only [vd1, vd2, vd3, vd4, vd5, vd6, vd7, reduceCtorEq, Option.some.injEq, vb_ite, vi_ite, List.getD_cons_zero, List.getD_cons_succ, hwk, hwc, hws, hw1, hw2, hw3, hw4]) trivial ?_
                      refine ret_wp ?_
                      first | rfl | ((simp only [vd1, vd2, vd3, vd4, vd5, vd6, vd7, reduceCtorEq, Option.some.injEq, vb_ite, vi_ite, List.getD_cons_zero, List.getD_cons_succ, hwk, hwc, hws, hw1, hw2, hw3, hw4] at *) <;> grind)
                    · refine ret_wp ?_
                      first | rfl | ((simp only [vd1, vd2, vd3, vd4, vd5, vd6, vd7, reduceCtorEq, Option.some.injEq, vb_ite, vi_ite, List.getD_cons_zero, List.getD_cons_succ, hwk, hwc, hws, hw1, hw2, hw3, hw4] at *) <;> grind)
                · refine ret_wp ?_
                  first | rfl | ((simp only [vd1, vd2, vd3, vd4, vd5, vd6, vd7, reduceCtorEq, Option.some.injEq, vb_ite, vi_ite, List.getD_cons_zero, List.getD_cons_succ, hwk, hwc, hws, hw1, hw2, hw3, hw4] at *) <;> grind)
            · refine ret_wp ?_
              first | rfl | ((simp only [vd1, vd2, vd3, vd4, vd5, vd6, vd7, reduceCtorEq, Option.some.injEq, vb_ite, vi_ite, List.getD_cons_zero, List.getD_cons_succ, hwk, hwc, hws, hw1, hw2, hw3, hw4] at *) <;> grind)
      · refine ret_wp ?_
        first | rfl | ((simp only [vd1, vd2, vd3, vd4, vd5, vd6, vd7, reduceCtorEq, Option.some.injEq, vb_ite, vi_ite, List.getD_cons_zero, List.getD_cons_succ, hwk, hwc, hws] at *) <;> grind)
  · refine call_fun (()) rfl (by simp only [vd1, vd2, vd3, vd4, vd5, vd6, vd7, reduceCtorEq, Option.some.injEq, vb_ite, vi_ite, List.getD_cons_zero, List.getD_cons_succ, hwk, hwc]) trivial ?_
    refine ret_wp ?_
    first | rfl | ((simp only [vd1, vd2, vd3, vd4, vd5, vd6, vd7, reduceCtorEq, Option.some.injEq, vb_ite, vi_ite, List.getD_cons_zero, List.getD_cons_succ, hwk, hwc] at *) <;> grind)
end Go.Proofs.YtfiggilfgjpodaaK
