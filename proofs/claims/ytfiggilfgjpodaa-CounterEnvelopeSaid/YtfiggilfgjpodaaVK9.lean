import Derived.Test.YtfiggilfgjpodaaVK8
set_option linter.unusedSimpArgs false
set_option linter.unusedVariables false
namespace Go.Proofs.YtfiggilfgjpodaaK
open Go Go.Proofs.YtfiggilfgjpodaaV Go.Proofs
def actsOk (l : Sl) : Prop := l.n ≤ 9223372036854775807 ∧ ∃ acts : List Ac, l.d = .rows 3 (acts.map Ac.enc) ∧ acts.length = l.n
theorem acts_at {l : Sl} (h : actsOk l) {i : Int} (h0 : 0 ≤ i) (hi : i < l.n) : ∃ a : Ac, cellD (.slice l.a l.n l.c, l.d) i 0 = (.int .i64 a.k, .leaf) ∧ cellD (.slice l.a l.n l.c, l.d) i 1 = (.int .i64 a.t, .leaf) ∧ cellD (.slice l.a l.n l.c, l.d) i 2 = (.int .i64 a.c, .leaf) := by
  obtain ⟨_, acts, h1, h2⟩ := h
  have hlt : i.toNat < acts.length := by omega
  refine ⟨acts[i.toNat], ?_, ?_, ?_⟩ <;>
    simp [cellD, h1, D.els, List.getD_eq_getElem?_getD, List.getElem?_map, hlt, Ac.enc]
def lgOk9 (g : Sl) : Prop := g.n = 0 ∨ (∃ e, g.d = .rows 2 e) ∧ ∀ i : Int, 0 ≤ i → i < g.n → RK.ok (.int .i64) (cellD g.atom i 0).1 ∧ RK.ok (.int .i64) (cellD g.atom i 1).1
theorem lgOk_of {g : Sl} (h : lgOk9 g) (hn : g.n ≤ 150) : lgOk g := by
  rcases h with h | ⟨h1, h2⟩
  · exact Or.inl h
  · exact Or.inr ⟨⟨by omega, h1⟩, h2⟩
theorem acts_row {l : Sl} (h : actsOk l) : ∃ z e, l.d = .rows z e := ⟨_, _, h.2.choose_spec.1⟩
theorem acts_sz {l : Sl} (h : actsOk l) : ∃ e, l.d = .rows 3 e := ⟨_, h.2.choose_spec.1⟩
def kLaw8 (sg : Sig) : Sig × Con := (sg, mkFun (fun x : Pol × Int × Sl × Int × Int => ([aI x.1.k, aI x.1.l, aI x.1.p, aI x.1.b, aI x.1.c, aB x.1.o, aI x.2.1, Sl.atom x.2.2.1, aI x.2.2.2.1, aI x.2.2.2.2] : List Atom)) (fun x => actsOk x.2.2.1) (fun _ => [aB true]))
set_option maxHeartbeats 4000000 in
theorem h8 : holds Try.prog (kLaw8 sg8) := by
  refine fn_holds (l := [kSmall sg10, kKnown sg11, kCheck sg21, kCheck sg22, kNew sg13, kNew sg23, kTold sg24, kDo sg14, kDoR sg25]) ⟨h10, h11, h21, h22, h13, h23, h24, h14, h25, trivial⟩ hP rs8 (inj_of (fun l : List Atom => (((⟨vi (l.getD 0 atom0).1, vi (l.getD 1 atom0).1, vi (l.getD 2 atom0).1, vi (l.getD 3 atom0).1, vi (l.getD 4 atom0).1, vb (l.getD 5 atom0).1⟩ : Pol), vi (l.getD 6 atom0).1, (⟨va (l.getD 7 atom0).1, vn (l.getD 7 atom0).1, vc (l.getD 7 atom0).1, (l.getD 7 atom0).2⟩ : Sl), vi (l.getD 8 atom0).1, vi (l.getD 9 atom0).1) : Pol × Int × Sl × Int × Int)) (fun _ => rfl)) Try.func8 (by kernel_rfl) (c := code Try.f8) (by kernel_rfl) (an := an8) (by kernel_rfl) (pk := pk8) rfl (t := t8) (by kernel_rfl) ?_
  rintro ⟨p, b, l, n, c⟩ hl
  refine ⟨by simp [pk8, KindsOk, encPS, encPSn, encPSnc, encPSA, encPn, encSS, encI, Pol.enc, Stt.enc, Ac.enc, Sl.atom, Sl.nil, Stt.zero, RK.ok], ?_⟩
  unfold t8
  change actsOk l at hl
  refine call_fun (l) rfl (by simp only [vd1, vd2, vd3, vd4, vd5, vd6, vd7, reduceCtorEq, Option.some.injEq, vb_ite, vi_ite, new_, adv, doS, doN, List.getD_cons_zero, List.getD_cons_succ]) trivial ?_
  refine br_wp (fun c1 => ?_) (fun c1 => ?_)
  · have hn : l.n ≤ 60 := by simp only [vd1, vd2, vd3, vd4, vd5, vd6, vd7, reduceCtorEq, Option.some.injEq, vb_ite, vi_ite, new_, adv, doS, doN, List.getD_cons_zero, List.getD_cons_succ] at c1; omega
    refine call_fun (p) rfl (by simp only [vd1, vd2, vd3, vd4, vd5, vd6, vd7, reduceCtorEq, Option.some.injEq, vb_ite, vi_ite, new_, adv, doS, doN, List.getD_cons_zero, List.getD_cons_succ]) trivial ?_
    refine call_fun (p) rfl (by simp only [vd1, vd2, vd3, vd4, vd5, vd6, vd7, reduceCtorEq, Option.some.injEq, vb_ite, vi_ite, new_, adv, doS, doN, List.getD_cons_zero, List.getD_cons_succ]) trivial ?_
    refine br_wp (fun c2 => ?_) (fun c2 => ?_)
    · refine ret_wp ?_
      first | rfl | (exfalso; (simp only [vd1, vd2, vd3, vd4, vd5, vd6, vd7, reduceCtorEq, Option.some.injEq, vb_ite, vi_ite, new_, adv, doS, doN, List.getD_cons_zero, List.getD_cons_succ] at *) <;> grind)
    · refine call_fun ((p, b)) rfl (by simp only [vd1, vd2, vd3, vd4, vd5, vd6, vd7, reduceCtorEq, Option.some.injEq, vb_ite, vi_ite, new_, adv, doS, doN, List.getD_cons_zero, List.getD_cons_succ]) trivial ?_
      refine call_fun ((p, b)) rfl (by simp only [vd1, vd2, vd3, vd4, vd5, vd6, vd7, reduceCtorEq, Option.some.injEq, vb_ite, vi_ite, new_, adv, doS, doN, List.getD_cons_zero, List.getD_cons_succ]) trivial ?_
      refine need_wp ?_ ?_
      · first | exact ⟨_, _, _, rfl⟩ | exact acts_row hl | exact acts_sz hl | (simp only [vd1, vd2, vd3, vd4, vd5, vd6, vd7, reduceCtorEq, Option.some.injEq, vb_ite, vi_ite, new_, adv, doS, doN, List.getD_cons_zero, List.getD_cons_succ]; exact ⟨_, rfl⟩) | (simp only [vd1, vd2, vd3, vd4, vd5, vd6, vd7, reduceCtorEq, Option.some.injEq, vb_ite, vi_ite, new_, adv, doS, doN, List.getD_cons_zero, List.getD_cons_succ] at *; grind)
      refine need_wp ?_ ?_
      · first | exact ⟨_, _, _, rfl⟩ | exact acts_row hl | exact acts_sz hl | (simp only [vd1, vd2, vd3, vd4, vd5, vd6, vd7, reduceCtorEq, Option.some.injEq, vb_ite, vi_ite, new_, adv, doS, doN, List.getD_cons_zero, List.getD_cons_succ]; exact ⟨_, rfl⟩) | (simp only [vd1, vd2, vd3, vd4, vd5, vd6, vd7, reduceCtorEq, Option.some.injEq, vb_ite, vi_ite, new_, adv, doS, doN, List.getD_cons_zero, List.getD_cons_succ] at *; grind)
      refine loop_wp (fun bs0 => ∃ (i : Int) (s : Stt) (t : Stt), bs0 = [aI i, aI s.t, aI s.v, aI s.h, Sl.atom s.g, aI t.t, aI t.v, aI t.h, Sl.atom t.g] ∧ (0 ≤ i ∧ i ≤ l.n ∧ s.g.n = 0 ∧ t.g.n = 0 ∧ same s t = true)) (fun bs0 => (l.n - vi (bs0.getD 0 atom0).1).toNat) ?_ ?_
      · refine ⟨0, (new_ p b), (new_ p b), by simp only [vd1, vd2, vd3, vd4, vd5, vd6, vd7, reduceCtorEq, Option.some.injEq, vb_ite, vi_ite, new_, adv, doS, doN, List.getD_cons_zero, List.getD_cons_succ], ?_⟩
        exact ⟨by omega, by omega, rfl, rfl, same_yes ⟨rfl, rfl, rfl⟩ (lgE_nil rfl rfl)⟩
      rintro _ _ ⟨i, s, t, rfl, ⟨i0, i1, i2, i3, i4⟩⟩
      refine need_wp ?_ ?_
      · first | exact ⟨_, _, _, rfl⟩ | exact acts_row hl | exact acts_sz hl | (simp only [vd1, vd2, vd3, vd4, vd5, vd6, vd7, reduceCtorEq, Option.some.injEq, vb_ite, vi_ite, new_, adv, doS, doN, List.getD_cons_zero, List.getD_cons_succ]; exact ⟨_, rfl⟩) | (simp only [vd1, vd2, vd3, vd4, vd5, vd6, vd7, reduceCtorEq, Option.some.injEq, vb_ite, vi_ite, new_, adv, doS, doN, List.getD_cons_zero, List.getD_cons_succ] at *; grind)
      refine br_wp (fun c3 => ?_) (fun c3 => ?_)
      · have hi : i < l.n := by simp only [vd1, vd2, vd3, vd4, vd5, vd6, vd7, reduceCtorEq, Option.some.injEq, vb_ite, vi_ite, new_, adv, doS, doN, List.getD_cons_zero, List.getD_cons_succ] at c3; omega
        obtain ⟨a, z0, z1, z2⟩ := acts_at hl i0 hi
        refine call_fun ((p, s, t, n, c)) rfl (by simp only [vd1, vd2, vd3, vd4, vd5, vd6, vd7, reduceCtorEq, Option.some.injEq, vb_ite, vi_ite, new_, adv, doS, doN, List.getD_cons_zero, List.getD_cons_succ, z0, z1, z2]) ⟨lgOk_nil i2, lgOk_nil i3, i4⟩ ?_
        refine br_wp (fun c4 => ?_) (fun c4 => ?_)
        · have f1 := did_c p a (sim_of i4)
          refine need_wp ?_ ?_
          · first | exact ⟨_, _, _, rfl⟩ | exact acts_row hl | exact acts_sz hl | (simp only [vd1, vd2, vd3, vd4, vd5, vd6, vd7, reduceCtorEq, Option.some.injEq, vb_ite, vi_ite, new_, adv, doS, doN, List.getD_cons_zero, List.getD_cons_succ, z0, z1, z2]; exact ⟨_, rfl⟩) | (simp only [vd1, vd2, vd3, vd4, vd5, vd6, vd7, reduceCtorEq, Option.some.injEq, vb_ite, vi_ite, new_, adv, doS, doN, List.getD_cons_zero, List.getD_cons_succ, z0, z1, z2] at *; grind)
          refine need_wp ?_ ?_
          · first | exact ⟨_, _, _, rfl⟩ | exact acts_row hl | exact acts_sz hl | (simp only [vd1, vd2, vd3, vd4, vd5, vd6, vd7, reduceCtorEq, Option.some.injEq, vb_ite, vi_ite, new_, adv, doS, doN, List.getD_cons_zero, List.getD_cons_succ, z0, z1, z2]; exact ⟨_, rfl⟩) | (simp only [vd1, vd2, vd3, vd4, vd5, vd6, vd7, reduceCtorEq, Option.some.injEq, vb_ite, vi_ite, new_, adv, doS, doN, List.getD_cons_zero, List.getD_cons_succ, z0, z1, z2] at *; grind)
          refine need_wp ?_ ?_
          · first | exact ⟨_, _, _, rfl⟩ | exact acts_row hl | exact acts_sz hl | (simp only [vd1, vd2, vd3, vd4, vd5, vd6, vd7, reduceCtorEq, Option.some.injEq, vb_ite, vi_ite, new_, adv, doS, doN, List.getD_cons_zero, List.getD_cons_succ, z0, z1, z2]; exact ⟨_, rfl⟩) | (simp only [vd1, vd2, vd3, vd4, vd5, vd6, vd7, reduceCtorEq, Option.some.injEq, vb_ite, vi_ite, new_, adv, doS, doN, List.getD_cons_zero, List.getD_cons_succ, z0, z1, z2] at *; grind)
          refine need_wp ?_ ?_
          · first | exact ⟨_, _, _, rfl⟩ | exact acts_row hl | exact acts_sz hl | (simp only [vd1, vd2, vd3, vd4, vd5, vd6, vd7, reduceCtorEq, Option.some.injEq, vb_ite, vi_ite, new_, adv, doS, doN, List.getD_cons_zero, List.getD_cons_succ, z0, z1, z2]; exact ⟨_, rfl⟩) | (simp only [vd1, vd2, vd3, vd4, vd5, vd6, vd7, reduceCtorEq, Option.some.injEq, vb_ite, vi_ite, new_, adv, doS, doN, List.getD_cons_zero, List.getD_cons_succ, z0, z1, z2] at *; grind)
          refine need_wp ?_ ?_
          · first | exact ⟨_, _, _, rfl⟩ | exact acts_row hl | exact acts_sz hl | (simp only [vd1, vd2, vd3, vd4, vd5, vd6, vd7, reduceCtorEq, Option.some.injEq, vb_ite, vi_ite, new_, adv, doS, doN, List.getD_cons_zero, List.getD_cons_succ, z0, z1, z2]; exact ⟨_, rfl⟩) | (simp only [vd1, vd2, vd3, vd4, vd5, vd6, vd7, reduceCtorEq, Option.some.injEq, vb_ite, vi_ite, new_, adv, doS, doN, List.getD_cons_zero, List.getD_cons_succ, z0, z1, z2] at *; grind)
          refine need_wp ?_ ?_
          · first | exact ⟨_, _, _, rfl⟩ | exact acts_row hl | exact acts_sz hl | (simp only [vd1, vd2, vd3, vd4, vd5, vd6, vd7, reduceCtorEq, Option.some.injEq, vb_ite, vi_ite, new_, adv, doS, doN, List.getD_cons_zero, List.getD_cons_succ, z0, z1, z2]; exact ⟨_, rfl⟩) | (simp only [vd1, vd2, vd3, vd4, vd5, vd6, vd7, reduceCtorEq, Option.some.injEq, vb_ite, vi_ite, new_, adv, doS, doN, List.getD_cons_zero, List.getD_cons_succ, z0, z1, z2] at *; grind)
          refine need_wp ?_ ?_
          · first | exact ⟨_, _, _, rfl⟩ | exact acts_row hl | exact acts_sz hl | (simp only [vd1, vd2, vd3, vd4, vd5, vd6, vd7, reduceCtorEq, Option.some.injEq, vb_ite, vi_ite, new_, adv, doS, doN, List.getD_cons_zero, List.getD_cons_succ, z0, z1, z2]; exact ⟨_, rfl⟩) | (simp only [vd1, vd2, vd3, vd4, vd5, vd6, vd7, reduceCtorEq, Option.some.injEq, vb_ite, vi_ite, new_, adv, doS, doN, List.getD_cons_zero, List.getD_cons_succ, z0, z1, z2] at *; grind)
          refine need_wp ?_ ?_
          · first | exact ⟨_, _, _, rfl⟩ | exact acts_row hl | exact acts_sz hl | (simp only [vd1, vd2, vd3, vd4, vd5, vd6, vd7, reduceCtorEq, Option.some.injEq, vb_ite, vi_ite, new_, adv, doS, doN, List.getD_cons_zero, List.getD_cons_succ, z0, z1, z2]; exact ⟨_, rfl⟩) | (simp only [vd1, vd2, vd3, vd4, vd5, vd6, vd7, reduceCtorEq, Option.some.injEq, vb_ite, vi_ite, new_, adv, doS, doN, List.getD_cons_zero, List.getD_cons_succ, z0, z1, z2] at *; grind)
          refine need_wp ?_ ?_
          · first | exact ⟨_, _, _, rfl⟩ | exact acts_row hl | exact acts_sz hl | (simp only [vd1, vd2, vd3, vd4, vd5, vd6, vd7, reduceCtorEq, Option.some.injEq, vb_ite, vi_ite, new_, adv, doS, doN, List.getD_cons_zero, List.getD_cons_succ, z0, z1, z2]; exact ⟨_, rfl⟩) | (simp only [vd1, vd2, vd3, vd4, vd5, vd6, vd7, reduceCtorEq, Option.some.injEq, vb_ite, vi_ite, new_, adv, doS, doN, List.getD_cons_zero, List.getD_cons_succ, z0, z1, z2] at *; grind)
          refine call_fun ((p, s, a)) rfl (by simp only [vd1, vd2, vd3, vd4, vd5, vd6, vd7, reduceCtorEq, Option.some.injEq, vb_ite, vi_ite, new_, adv, doS, doN, List.getD_cons_zero, List.getD_cons_succ, z0, z1, z2]) trivial ?_
          refine need_wp ?_ ?_
          · first | exact ⟨_, _, _, rfl⟩ | exact acts_row hl | exact acts_sz hl | (simp only [vd1, vd2, vd3, vd4, vd5, vd6, vd7, reduceCtorEq, Option.some.injEq, vb_ite, vi_ite, new_, adv, doS, doN, List.getD_cons_zero, List.getD_cons_succ, z0, z1, z2]; exact ⟨_, rfl⟩) | (simp only [vd1, vd2, vd3, vd4, vd5, vd6, vd7, reduceCtorEq, Option.some.injEq, vb_ite, vi_ite, new_, adv, doS, doN, List.getD_cons_zero, List.getD_cons_succ, z0, z1, z2] at *; grind)
          refine need_wp ?_ ?_
          · first | exact ⟨_, _, _, rfl⟩ | exact acts_row hl | exact acts_sz hl | (simp only [vd1, vd2, vd3, vd4, vd5, vd6, vd7, reduceCtorEq, Option.some.injEq, vb_ite, vi_ite, new_, adv, doS, doN, List.getD_cons_zero, List.getD_cons_succ, z0, z1, z2]; exact ⟨_, rfl⟩) | (simp only [vd1, vd2, vd3, vd4, vd5, vd6, vd7, reduceCtorEq, Option.some.injEq, vb_ite, vi_ite, new_, adv, doS, doN, List.getD_cons_zero, List.getD_cons_succ, z0, z1, z2] at *; grind)
          refine need_wp ?_ ?_
          · first | exact ⟨_, _, _, rfl⟩ | exact acts_row hl | exact acts_sz hl | (simp only [vd1, vd2, vd3, vd4, vd5, vd6, vd7, reduceCtorEq, Option.some.injEq, vb_ite, vi_ite, new_, adv, doS, doN, List.getD_cons_zero, List.getD_cons_succ, z0, z1, z2]; exact ⟨_, rfl⟩) | (simp only [vd1, vd2, vd3, vd4, vd5, vd6, vd7, reduceCtorEq, Option.some.injEq, vb_ite, vi_ite, new_, adv, doS, doN, List.getD_cons_zero, List.getD_cons_succ, z0, z1, z2] at *; grind)
          refine need_wp ?_ ?_
          · first | exact ⟨_, _, _, rfl⟩ | exact acts_row hl | exact acts_sz hl | (simp only [vd1, vd2, vd3, vd4, vd5, vd6, vd7, reduceCtorEq, Option.some.injEq, vb_ite, vi_ite, new_, adv, doS, doN, List.getD_cons_zero, List.getD_cons_succ, z0, z1, z2]; exact ⟨_, rfl⟩) | (simp only [vd1, vd2, vd3, vd4, vd5, vd6, vd7, reduceCtorEq, Option.some.injEq, vb_ite, vi_ite, new_, adv, doS, doN, List.getD_cons_zero, List.getD_cons_succ, z0, z1, z2] at *; grind)
          refine need_wp ?_ ?_
          · first | exact ⟨_, _, _, rfl⟩ | exact acts_row hl | exact acts_sz hl | (simp only [vd1, vd2, vd3, vd4, vd5, vd6, vd7, reduceCtorEq, Option.some.injEq, vb_ite, vi_ite, new_, adv, doS, doN, List.getD_cons_zero, List.getD_cons_succ, z0, z1, z2]; exact ⟨_, rfl⟩) | (simp only [vd1, vd2, vd3, vd4, vd5, vd6, vd7, reduceCtorEq, Option.some.injEq, vb_ite, vi_ite, new_, adv, doS, doN, List.getD_cons_zero, List.getD_cons_succ, z0, z1, z2] at *; grind)
          refine need_wp ?_ ?_
          · first | exact ⟨_, _, _, rfl⟩ | exact acts_row hl | exact acts_sz hl | (simp only [vd1, vd2, vd3, vd4, vd5, vd6, vd7, reduceCtorEq, Option.some.injEq, vb_ite, vi_ite, new_, adv, doS, doN, List.getD_cons_zero, List.getD_cons_succ, z0, z1, z2]; exact ⟨_, rfl⟩) | (simp only [vd1, vd2, vd3, vd4, vd5, vd6, vd7, reduceCtorEq, Option.some.injEq, vb_ite, vi_ite, new_, adv, doS, doN, List.getD_cons_zero, List.getD_cons_succ, z0, z1, z2] at *; grind)
          refine need_wp ?_ ?_
          · first | exact ⟨_, _, _, rfl⟩ | exact acts_row hl | exact acts_sz hl | (simp only [vd1, vd2, vd3, vd4, vd5, vd6, vd7, reduceCtorEq, Option.some.injEq, vb_ite, vi_ite, new_, adv, doS, doN, List.getD_cons_zero, List.getD_cons_succ, z0, z1, z2]; exact ⟨_, rfl⟩) | (simp only [vd1, vd2, vd3, vd4, vd5, vd6, vd7, reduceCtorEq, Option.some.injEq, vb_ite, vi_ite, new_, adv, doS, doN, List.getD_cons_zero, List.getD_cons_succ, z0, z1, z2] at *; grind)
          refine need_wp ?_ ?_
          · first | exact ⟨_, _, _, rfl⟩ | exact acts_row hl | exact acts_sz hl | (simp only [vd1, vd2, vd3, vd4, vd5, vd6, vd7, reduceCtorEq, Option.some.injEq, vb_ite, vi_ite, new_, adv, doS, doN, List.getD_cons_zero, List.getD_cons_succ, z0, z1, z2]; exact ⟨_, rfl⟩) | (simp only [vd1, vd2, vd3, vd4, vd5, vd6, vd7, reduceCtorEq, Option.some.injEq, vb_ite, vi_ite, new_, adv, doS, doN, List.getD_cons_zero, List.getD_cons_succ, z0, z1, z2] at *; grind)
          refine call_fun ((p, t, a)) rfl (by simp only [vd1, vd2, vd3, vd4, vd5, vd6, vd7, reduceCtorEq, Option.some.injEq, vb_ite, vi_ite, new_, adv, doS, doN, List.getD_cons_zero, List.getD_cons_succ, z0, z1, z2]) trivial ?_
          refine br_wp (fun c5 => ?_) (fun c5 => ?_)
          · refine need_wp ?_ ?_
            · first | exact ⟨_, _, _, rfl⟩ | exact acts_row hl | exact acts_sz hl | (simp only [vd1, vd2, vd3, vd4, vd5, vd6, vd7, reduceCtorEq, Option.some.injEq, vb_ite, vi_ite, new_, adv, doS, doN, List.getD_cons_zero, List.getD_cons_succ, z0, z1, z2]; exact ⟨_, rfl⟩) | (simp only [vd1, vd2, vd3, vd4, vd5, vd6, vd7, reduceCtorEq, Option.some.injEq, vb_ite, vi_ite, new_, adv, doS, doN, List.getD_cons_zero, List.getD_cons_succ, z0, z1, z2] at *; grind)
            refine need_wp ?_ ?_
            · first | exact ⟨_, _, _, rfl⟩ | exact acts_row hl | exact acts_sz hl | (simp only [vd1, vd2, vd3, vd4, vd5, vd6, vd7, reduceCtorEq, Option.some.injEq, vb_ite, vi_ite, new_, adv, doS, doN, List.getD_cons_zero, List.getD_cons_succ, z0, z1, z2]; exact ⟨_, rfl⟩) | (simp only [vd1, vd2, vd3, vd4, vd5, vd6, vd7, reduceCtorEq, Option.some.injEq, vb_ite, vi_ite, new_, adv, doS, doN, List.getD_cons_zero, List.getD_cons_succ, z0, z1, z2] at *; grind)
            refine again_wp rfl ⟨(IntKind.i64.wrap (i + 1)), (doN p s a), (doS p t a t.g), by simp only [vd1, vd2, vd3, vd4, vd5, vd6, vd7, reduceCtorEq, Option.some.injEq, vb_ite, vi_ite, new_, adv, doS, doN, List.getD_cons_zero, List.getD_cons_succ, z0, z1, z2], ?_⟩ ?_
            · have hw := wrap_id (i + 1) (by omega) (by omega); simp only [vd1, vd2, vd3, vd4, vd5, vd6, vd7, reduceCtorEq, Option.some.injEq, vb_ite, vi_ite, new_, adv, doS, doN, List.getD_cons_zero, List.getD_cons_succ, z0, z1, z2, hw]; exact ⟨by omega, by omega, doG_n p s a, doG_r p t a, same_do p a (sim_of i4)⟩
            · have hw := wrap_id (i + 1) (by omega) (by omega); simp only [vd1, vd2, vd3, vd4, vd5, vd6, vd7, reduceCtorEq, Option.some.injEq, vb_ite, vi_ite, new_, adv, doS, doN, List.getD_cons_zero, List.getD_cons_succ, z0, z1, z2, hw]; omega
          · refine pop_wp ?_
            refine ret_wp ?_
            first | rfl | (exfalso; (simp only [vd1, vd2, vd3, vd4, vd5, vd6, vd7, reduceCtorEq, Option.some.injEq, vb_ite, vi_ite, new_, adv, doS, doN, List.getD_cons_zero, List.getD_cons_succ, z0, z1, z2] at *) <;> grind)
        · refine pop_wp ?_
          refine ret_wp ?_
          first | rfl | (exfalso; (simp only [vd1, vd2, vd3, vd4, vd5, vd6, vd7, reduceCtorEq, Option.some.injEq, vb_ite, vi_ite, new_, adv, doS, doN, List.getD_cons_zero, List.getD_cons_succ, z0, z1, z2] at *) <;> grind)
      · refine pop_wp ?_
        refine call_fun ((p, s, t, n, c)) rfl (by simp only [vd1, vd2, vd3, vd4, vd5, vd6, vd7, reduceCtorEq, Option.some.injEq, vb_ite, vi_ite, new_, adv, doS, doN, List.getD_cons_zero, List.getD_cons_succ]) ⟨lgOk_nil i2, lgOk_nil i3, i4⟩ ?_
        refine br_wp (fun c6 => ?_) (fun c6 => ?_)
        · refine call_fun (()) rfl (by simp only [vd1, vd2, vd3, vd4, vd5, vd6, vd7, reduceCtorEq, Option.some.injEq, vb_ite, vi_ite, new_, adv, doS, doN, List.getD_cons_zero, List.getD_cons_succ]) trivial ?_
          refine ret_wp ?_
          first | rfl | (exfalso; (simp only [vd1, vd2, vd3, vd4, vd5, vd6, vd7, reduceCtorEq, Option.some.injEq, vb_ite, vi_ite, new_, adv, doS, doN, List.getD_cons_zero, List.getD_cons_succ] at *) <;> grind)
        · refine ret_wp ?_
          first | rfl | (exfalso; (simp only [vd1, vd2, vd3, vd4, vd5, vd6, vd7, reduceCtorEq, Option.some.injEq, vb_ite, vi_ite, new_, adv, doS, doN, List.getD_cons_zero, List.getD_cons_succ] at *) <;> grind)
  · refine call_fun (()) rfl (by simp only [vd1, vd2, vd3, vd4, vd5, vd6, vd7, reduceCtorEq, Option.some.injEq, vb_ite, vi_ite, new_, adv, doS, doN, List.getD_cons_zero, List.getD_cons_succ]) trivial ?_
    refine ret_wp ?_
    first | rfl | (exfalso; (simp only [vd1, vd2, vd3, vd4, vd5, vd6, vd7, reduceCtorEq, Option.some.injEq, vb_ite, vi_ite, new_, adv, doS, doN, List.getD_cons_zero, List.getD_cons_succ] at *) <;> grind)
def kLaw9 (sg : Sig) : Sig × Con := (sg, mkFun (fun x : Pol × Stt × Ac × Int × Int => ([aI x.1.k, aI x.1.l, aI x.1.p, aI x.1.b, aI x.1.c, aB x.1.o, aI x.2.1.t, aI x.2.1.v, aI x.2.1.h, Sl.atom x.2.1.g, aI x.2.2.1.k, aI x.2.2.1.t, aI x.2.2.1.c, aI x.2.2.2.1, aI x.2.2.2.2] : List Atom)) (fun x => lgOk9 x.2.1.g) (fun _ => [aB true]))
set_option maxHeartbeats 4000000 in
theorem h9 : holds Try.prog (kLaw9 sg9) := by
  refine fn_holds (l := [kKnown sg11, kDo sg14, kDoR sg25, kTold sg24, kSame sg15]) ⟨h11, h14, h25, h24, h15, trivial⟩ hP rs9 (inj_of (fun l : List Atom => (((⟨vi (l.getD 0 atom0).1, vi (l.getD 1 atom0).1, vi (l.getD 2 atom0).1, vi (l.getD 3 atom0).1, vi (l.getD 4 atom0).1, vb (l.getD 5 atom0).1⟩ : Pol), (⟨vi (l.getD 6 atom0).1, vi (l.getD 7 atom0).1, vi (l.getD 8 atom0).1, (⟨va (l.getD 9 atom0).1, vn (l.getD 9 atom0).1, vc (l.getD 9 atom0).1, (l.getD 9 atom0).2⟩ : Sl)⟩ : Stt), (⟨vi (l.getD 10 atom0).1, vi (l.getD 11 atom0).1, vi (l.getD 12 atom0).1⟩ : Ac), vi (l.getD 13 atom0).1, vi (l.getD 14 atom0).1) : Pol × Stt × Ac × Int × Int)) (fun _ => rfl)) Try.func9 (by kernel_rfl) (c := code Try.f9) (by kernel_rfl) (an := an9) (by kernel_rfl) (pk := pk9) rfl (t := t9) (by kernel_rfl) ?_
  rintro ⟨p, s, a, n, c⟩ ho
  refine ⟨by simp [pk9, KindsOk, encPS, encPSn, encPSnc, encPSA, encPn, encSS, encI, Pol.enc, Stt.enc, Ac.enc, Sl.atom, Sl.nil, Stt.zero, RK.ok], ?_⟩
  unfold t9
  have f0 : same s s = true := same_yes ⟨rfl, rfl, rfl⟩ (lgE_refl _)
  have f1 := did_c p a (sim_of f0)
  have f2 := same_do p a (sim_of f0)
  refine need_wp ?_ ?_
  · exact ⟨_, _, _, rfl⟩
  refine br_wp (fun c1 => ?_) (fun c1 => ?_)
  · refine call_fun (()) rfl (by simp only [vd1, vd2, vd3, vd4, vd5, vd6, vd7, reduceCtorEq, Option.some.injEq, vb_ite, vi_ite, new_, adv, doS, doN, List.getD_cons_zero, List.getD_cons_succ]) trivial ?_
    refine ret_wp ?_
    first | rfl | (exfalso; (simp only [vd1, vd2, vd3, vd4, vd5, vd6, vd7, reduceCtorEq, Option.some.injEq, vb_ite, vi_ite, new_, adv, doS, doN, List.getD_cons_zero, List.getD_cons_succ] at *) <;> grind)
  · have ho2 : lgOk s.g := lgOk_of ho (by simp only [vd1, vd2, vd3, vd4, vd5, vd6, vd7, reduceCtorEq, Option.some.injEq, vb_ite, vi_ite, new_, adv, doS, doN, List.getD_cons_zero, List.getD_cons_succ] at c1; show s.g.n ≤ 150; grind)
    refine call_fun ((p, s, a)) rfl (by simp only [vd1, vd2, vd3, vd4, vd5, vd6, vd7, reduceCtorEq, Option.some.injEq, vb_ite, vi_ite, new_, adv, doS, doN, List.getD_cons_zero, List.getD_cons_succ]) trivial ?_
    refine call_fun ((p, s, a)) rfl (by simp only [vd1, vd2, vd3, vd4, vd5, vd6, vd7, reduceCtorEq, Option.some.injEq, vb_ite, vi_ite, new_, adv, doS, doN, List.getD_cons_zero, List.getD_cons_succ]) trivial ?_
    refine call_fun ((p, s, s, n, c)) rfl (by simp only [vd1, vd2, vd3, vd4, vd5, vd6, vd7, reduceCtorEq, Option.some.injEq, vb_ite, vi_ite, new_, adv, doS, doN, List.getD_cons_zero, List.getD_cons_succ]) ⟨ho2, ho2, f0⟩ ?_
    refine br_wp (fun c2 => ?_) (fun c2 => ?_)
    · refine call_fun (((doN p s a), (doS p s a s.g))) rfl (by simp only [vd1, vd2, vd3, vd4, vd5, vd6, vd7, reduceCtorEq, Option.some.injEq, vb_ite, vi_ite, new_, adv, doS, doN, List.getD_cons_zero, List.getD_cons_succ]) ⟨lgOk_nil (doG_n p s a), lgOk_nil (doG_r p s a)⟩ ?_
      refine br_wp (fun c3 => ?_) (fun c3 => ?_)
      · refine br_wp (fun c4 => ?_) (fun c4 => ?_)
        · refine call_fun (()) rfl (by simp only [vd1, vd2, vd3, vd4, vd5, vd6, vd7, reduceCtorEq, Option.some.injEq, vb_ite, vi_ite, new_, adv, doS, doN, List.getD_cons_zero, List.getD_cons_succ]) trivial ?_
          refine ret_wp ?_
          first | rfl | (exfalso; (simp only [vd1, vd2, vd3, vd4, vd5, vd6, vd7, reduceCtorEq, Option.some.injEq, vb_ite, vi_ite, new_, adv, doS, doN, List.getD_cons_zero, List.getD_cons_succ] at *) <;> grind)
        · refine ret_wp ?_
          first | rfl | (exfalso; (simp only [vd1, vd2, vd3, vd4, vd5, vd6, vd7, reduceCtorEq, Option.some.injEq, vb_ite, vi_ite, new_, adv, doS, doN, List.getD_cons_zero, List.getD_cons_succ] at *) <;> grind)
      · refine ret_wp ?_
        first | rfl | (exfalso; (simp only [vd1, vd2, vd3, vd4, vd5, vd6, vd7, reduceCtorEq, Option.some.injEq, vb_ite, vi_ite, new_, adv, doS, doN, List.getD_cons_zero, List.getD_cons_succ] at *) <;> grind)
    · refine ret_wp ?_
      first | rfl | (exfalso; (simp only [vd1, vd2, vd3, vd4, vd5, vd6, vd7, reduceCtorEq, Option.some.injEq, vb_ite, vi_ite, new_, adv, doS, doN, List.getD_cons_zero, List.getD_cons_succ] at *) <;> grind)
end Go.Proofs.YtfiggilfgjpodaaK
