import Derived.Test.YtjmenmnjkfnhgaaVR4r
import Derived.Test.YtjmenmnjkfnhgaaVN7
set_option linter.unusedSimpArgs false
set_option linter.unusedVariables false
namespace Go.Proofs.YtjmenmnjkfnhgaaK
open Go Go.Proofs.YtjmenmnjkfnhgaaV Go.Proofs
theorem right_c (p : Pol) {s t : Stt} (h : sim s t) : rightG p s = rightG p t := by
  obtain ⟨h1, h2, h3, h4⟩ := h
  unfold rightG; rw [h1, h2, h3, h4]
theorem ltr_c {s t : Stt} (n : Int) (h : sim s t) : ltr s n = ltr t n := by unfold ltr; rw [h.1]
theorem av_c (p : Pol) {s t : Stt} (n : Int) (h : sim s t) : avG p s n = avG p t n := by unfold avG; rw [ltr_c n h, h.1, h.2.1, h.2.2.1]
theorem mayC_c (p : Pol) {s t : Stt} (c : Int) (h : sim s t) : mayC p s c = mayC p t c := by unfold mayC; rw [right_c p h, h.2.2.1]
theorem did_c (p : Pol) {s t : Stt} (a : Ac) (h : sim s t) : didG p s a = didG p t a := by unfold didG; rw [right_c p h, av_c p a.t h, h.2.2.1]
theorem told (p : Pol) {s t : Stt} (n c : Int) (h : sim s t) : rightG p s = rightG p t ∧ roomG p s n = roomG p t n ∧ untG p s n = untG p t n ∧ retG p s n c = retG p t n c ∧ mayC p s c = mayC p t c := by
  have h1 := right_c p h
  have h3 := av_c p n h
  have h4 := mayC_c p c h
  refine ⟨h1, ?_, ?_, ?_, h4⟩
  · unfold roomG; simp only [h1, h3]
  · unfold untG; simp only [h1, h3, h.2.2.1]
  · unfold retG; simp only [h3, h4]
theorem advL_n (p : Pol) (s : Stt) (n : Int) : (advL p s n).n = 0 := by
  unfold advL; split
  · rename_i h; exact h.1.2.2.2.2.2.2.2
  · rfl
theorem same_adv (p : Pol) {s t : Stt} (n : Int) (h : sim s t) : same (advG p s n) (advR p t n) = true := by
  refine same_of ⟨?_, ?_, ?_⟩ rfl (advL_n p t n)
  · show advT p s n = advT p t n; unfold advT; simp only [right_c p h, ltr_c n h]
  · show advV p s n = advV p t n; unfold advV; simp only [right_c p h, av_c p n h]
  · show advH p s = advH p t; unfold advH; simp only [right_c p h, h.2.2.1]
theorem doG_n (p : Pol) (s : Stt) (a : Ac) : (doG p s a).n = 0 := by
  unfold doG; split
  · rfl
  · split
    · rename_i h; exact h.2.2.2.2.2.2.2
    · rfl
theorem doL_n (p : Pol) (s : Stt) (a : Ac) : (doL p s a).n = 0 := by
  unfold doL; split
  · exact advL_n p s a.t
  · split
    · rename_i h; exact h.2.2.2.2.2.2.2
    · rfl
theorem same_do (p : Pol) {s t : Stt} (a : Ac) (h : sim s t) : same (doN p s a) (doR p t a) = true := by
  refine same_of ⟨?_, ?_, ?_⟩ (doG_n p s a) (doL_n p t a)
  · show doT p s a = doT p t a; unfold doT; simp only [right_c p h, did_c p a h, ltr_c a.t h, h.1]
  · show doV p s a = doV p t a; unfold doV; simp only [right_c p h, did_c p a h, av_c p a.t h, h.2.1]
  · show doH p s a = doH p t a; unfold doH; simp only [right_c p h, did_c p a h, h.2.2.1]
def preTold (x : Pol × Stt × Stt × Int × Int) : Prop := lgOk x.2.1.g ∧ lgOk x.2.2.1.g ∧ same x.2.1 x.2.2.1 = true
def kTold (sg : Sig) : Sig × Con := (sg, mkFun (fun x : Pol × Stt × Stt × Int × Int => ([aI x.1.k, aI x.1.l, aI x.1.p, aI x.1.b, aI x.1.c, aB x.1.o, aI x.2.1.t, aI x.2.1.v, aI x.2.1.h, Sl.atom x.2.1.g, aI x.2.2.1.t, aI x.2.2.1.v, aI x.2.2.1.h, Sl.atom x.2.2.1.g, aI x.2.2.2.1, aI x.2.2.2.2] : List Atom)) preTold (fun _ => [aB true]))
set_option maxHeartbeats 4000000 in
theorem h35 : holds Try.prog (kTold sg35) := by
  refine fn_holds (l := [kRetG sg22, kRetG sg57, kAdvG sg26, kAdvR sg58, kSame sg21, kRightG sg24, kRightG sg59, kRoomG sg25, kRoomG sg60, kUntG sg23, kUntG sg61]) ⟨h22, h57, h26, h58, h21, h24, h59, h25, h60, h23, h61, trivial⟩ hP rs35 (inj_of (fun l : List Atom => (((⟨vi (l.getD 0 atom0).1, vi (l.getD 1 atom0).1, vi (l.getD 2 atom0).1, vi (l.getD 3 atom0).1, vi (l.getD 4 atom0).1, vb (l.getD 5 atom0).1⟩ : Pol), (⟨vi (l.getD 6 atom0).1, vi (l.getD 7 atom0).1, vi (l.getD 8 atom0).1, (⟨va (l.getD 9 atom0).1, vn (l.getD 9 atom0).1, vc (l.getD 9 atom0).1, (l.getD 9 atom0).2⟩ : Sl)⟩ : Stt), (⟨vi (l.getD 10 atom0).1, vi (l.getD 11 atom0).1, vi (l.getD 12 atom0).1, (⟨va (l.getD 13 atom0).1, vn (l.getD 13 atom0).1, vc (l.getD 13 atom0).1, (l.getD 13 atom0).2⟩ : Sl)⟩ : Stt), vi (l.getD 14 atom0).1, vi (l.getD 15 atom0).1) : Pol × Stt × Stt × Int × Int)) (fun _ => rfl)) Try.func35 (by kernel_rfl) (c := code Try.f35) (by kernel_rfl) (an := an35) (by kernel_rfl) (pk := pk35) rfl (t := t35) (by kernel_rfl) ?_
  rintro ⟨p, s, t, n, c⟩ hpre
  refine ⟨by simp [pk35, KindsOk, encPS, encPSn, encPSnc, encPSA, encPn, encSS, encI, Pol.enc, Stt.enc, Ac.enc, Sl.atom, Sl.nil, Stt.zero, RK.ok], ?_⟩
  unfold t35
  have hs := hpre.2.2
  have hx := sim_of hs
  have f1 := told p n c hx
  simp only at f1 hs
  have f2 := same_adv p n hx
  obtain ⟨o1, o2, _⟩ := hpre
  refine call_fun ((p, s, n, c)) rfl (by simp only [vd1, vd2, vd3, vd4, vd5, vd6, reduceCtorEq, Option.some.injEq, vb_ite, vi_ite, List.getD_cons_zero, List.getD_cons_succ]) trivial ?_
  refine call_fun ((p, t, n, c)) rfl (by simp only [vd1, vd2, vd3, vd4, vd5, vd6, reduceCtorEq, Option.some.injEq, vb_ite, vi_ite, List.getD_cons_zero, List.getD_cons_succ]) trivial ?_
  refine call_fun ((p, s, n)) rfl (by simp only [vd1, vd2, vd3, vd4, vd5, vd6, reduceCtorEq, Option.some.injEq, vb_ite, vi_ite, List.getD_cons_zero, List.getD_cons_succ]) trivial ?_
  refine call_fun ((p, t, n)) rfl (by simp only [vd1, vd2, vd3, vd4, vd5, vd6, reduceCtorEq, Option.some.injEq, vb_ite, vi_ite, List.getD_cons_zero, List.getD_cons_succ]) trivial ?_
  refine call_fun ((s, t)) rfl (by simp only [vd1, vd2, vd3, vd4, vd5, vd6, reduceCtorEq, Option.some.injEq, vb_ite, vi_ite, List.getD_cons_zero, List.getD_cons_succ]) (by first | exact ⟨o1, o2⟩ | exact ⟨lgOk_nil rfl, lgOk_nil (advL_n p t n)⟩) ?_
  refine br_wp (fun c1 => ?_) (fun c1 => ?_)
  · refine call_fun (((advG p s n), (advR p t n))) rfl (by simp only [vd1, vd2, vd3, vd4, vd5, vd6, reduceCtorEq, Option.some.injEq, vb_ite, vi_ite, List.getD_cons_zero, List.getD_cons_succ]) (by first | exact ⟨o1, o2⟩ | exact ⟨lgOk_nil rfl, lgOk_nil (advL_n p t n)⟩) ?_
    refine br_wp (fun c2 => ?_) (fun c2 => ?_)
    · refine call_fun ((p, s)) rfl (by simp only [vd1, vd2, vd3, vd4, vd5, vd6, reduceCtorEq, Option.some.injEq, vb_ite, vi_ite, List.getD_cons_zero, List.getD_cons_succ]) trivial ?_
      refine call_fun ((p, t)) rfl (by simp only [vd1, vd2, vd3, vd4, vd5, vd6, reduceCtorEq, Option.some.injEq, vb_ite, vi_ite, List.getD_cons_zero, List.getD_cons_succ]) trivial ?_
      refine br_wp (fun c3 => ?_) (fun c3 => ?_)
      · refine call_fun ((p, s, n)) rfl (by simp only [vd1, vd2, vd3, vd4, vd5, vd6, reduceCtorEq, Option.some.injEq, vb_ite, vi_ite, List.getD_cons_zero, List.getD_cons_succ]) trivial ?_
        refine call_fun ((p, t, n)) rfl (by simp only [vd1, vd2, vd3, vd4, vd5, vd6, reduceCtorEq, Option.some.injEq, vb_ite, vi_ite, List.getD_cons_zero, List.getD_cons_succ]) trivial ?_
        refine br_wp (fun c4 => ?_) (fun c4 => ?_)
        · refine call_fun ((p, s, n)) rfl (by simp only [vd1, vd2, vd3, vd4, vd5, vd6, reduceCtorEq, Option.some.injEq, vb_ite, vi_ite, List.getD_cons_zero, List.getD_cons_succ]) trivial ?_
          refine call_fun ((p, t, n)) rfl (by simp only [vd1, vd2, vd3, vd4, vd5, vd6, reduceCtorEq, Option.some.injEq, vb_ite, vi_ite, List.getD_cons_zero, List.getD_cons_succ]) trivial ?_
          refine br_wp (fun c5 => ?_) (fun c5 => ?_)
          · refine br_wp (fun c6 => ?_) (fun c6 => ?_)
            · refine ret_wp ?_
              (first | rfl | ((simp only [vd1, vd2, vd3, vd4, vd5, vd6, reduceCtorEq, Option.some.injEq, vb_ite, vi_ite, List.getD_cons_zero, List.getD_cons_succ, f1.2.2.2.2, beq_self_eq_true]); done) | (exfalso; (simp only [vd1, vd2, vd3, vd4, vd5, vd6, reduceCtorEq, Option.some.injEq, vb_ite, vi_ite, List.getD_cons_zero, List.getD_cons_succ] at *) <;> grind))
            · refine ret_wp ?_
              (first | rfl | ((simp only [vd1, vd2, vd3, vd4, vd5, vd6, reduceCtorEq, Option.some.injEq, vb_ite, vi_ite, List.getD_cons_zero, List.getD_cons_succ, f1.2.2.2.2, beq_self_eq_true]); done) | (exfalso; (simp only [vd1, vd2, vd3, vd4, vd5, vd6, reduceCtorEq, Option.some.injEq, vb_ite, vi_ite, List.getD_cons_zero, List.getD_cons_succ] at *) <;> grind))
          · refine ret_wp ?_
            (first | rfl | ((simp only [vd1, vd2, vd3, vd4, vd5, vd6, reduceCtorEq, Option.some.injEq, vb_ite, vi_ite, List.getD_cons_zero, List.getD_cons_succ, f1.2.2.2.2, beq_self_eq_true]); done) | (exfalso; (simp only [vd1, vd2, vd3, vd4, vd5, vd6, reduceCtorEq, Option.some.injEq, vb_ite, vi_ite, List.getD_cons_zero, List.getD_cons_succ] at *) <;> grind))
        · refine ret_wp ?_
          (first | rfl | ((simp only [vd1, vd2, vd3, vd4, vd5, vd6, reduceCtorEq, Option.some.injEq, vb_ite, vi_ite, List.getD_cons_zero, List.getD_cons_succ, f1.2.2.2.2, beq_self_eq_true]); done) | (exfalso; (simp only [vd1, vd2, vd3, vd4, vd5, vd6, reduceCtorEq, Option.some.injEq, vb_ite, vi_ite, List.getD_cons_zero, List.getD_cons_succ] at *) <;> grind))
      · refine ret_wp ?_
        (first | rfl | ((simp only [vd1, vd2, vd3, vd4, vd5, vd6, reduceCtorEq, Option.some.injEq, vb_ite, vi_ite, List.getD_cons_zero, List.getD_cons_succ, f1.2.2.2.2, beq_self_eq_true]); done) | (exfalso; (simp only [vd1, vd2, vd3, vd4, vd5, vd6, reduceCtorEq, Option.some.injEq, vb_ite, vi_ite, List.getD_cons_zero, List.getD_cons_succ] at *) <;> grind))
    · refine ret_wp ?_
      (first | rfl | ((simp only [vd1, vd2, vd3, vd4, vd5, vd6, reduceCtorEq, Option.some.injEq, vb_ite, vi_ite, List.getD_cons_zero, List.getD_cons_succ, f1.2.2.2.2, beq_self_eq_true]); done) | (exfalso; (simp only [vd1, vd2, vd3, vd4, vd5, vd6, reduceCtorEq, Option.some.injEq, vb_ite, vi_ite, List.getD_cons_zero, List.getD_cons_succ] at *) <;> grind))
  · refine ret_wp ?_
    (first | rfl | ((simp only [vd1, vd2, vd3, vd4, vd5, vd6, reduceCtorEq, Option.some.injEq, vb_ite, vi_ite, List.getD_cons_zero, List.getD_cons_succ, f1.2.2.2.2, beq_self_eq_true]); done) | (exfalso; (simp only [vd1, vd2, vd3, vd4, vd5, vd6, reduceCtorEq, Option.some.injEq, vb_ite, vi_ite, List.getD_cons_zero, List.getD_cons_succ] at *) <;> grind))
def kLaw9 (sg : Sig) : Sig × Con := (sg, mkFun (fun x : Pol × Stt × Ac × Int × Int => ([aI x.1.k, aI x.1.l, aI x.1.p, aI x.1.b, aI x.1.c, aB x.1.o, aI x.2.1.t, aI x.2.1.v, aI x.2.1.h, Sl.atom x.2.1.g, aI x.2.2.1.k, aI x.2.2.1.t, aI x.2.2.1.c, aI x.2.2.2.1, aI x.2.2.2.2] : List Atom)) (fun x => lgOk9 x.2.1.g) (fun _ => [aB true]))
set_option maxHeartbeats 4000000 in
theorem h9 : holds Try.prog (kLaw9 sg9) := by
  refine fn_holds (l := [kKnown sg17, kDoG sg20, kDoR sg36, kTold sg35, kSame sg21]) ⟨h17, h20, h36, h35, h21, trivial⟩ hP rs9 (inj_of (fun l : List Atom => (((⟨vi (l.getD 0 atom0).1, vi (l.getD 1 atom0).1, vi (l.getD 2 atom0).1, vi (l.getD 3 atom0).1, vi (l.getD 4 atom0).1, vb (l.getD 5 atom0).1⟩ : Pol), (⟨vi (l.getD 6 atom0).1, vi (l.getD 7 atom0).1, vi (l.getD 8 atom0).1, (⟨va (l.getD 9 atom0).1, vn (l.getD 9 atom0).1, vc (l.getD 9 atom0).1, (l.getD 9 atom0).2⟩ : Sl)⟩ : Stt), (⟨vi (l.getD 10 atom0).1, vi (l.getD 11 atom0).1, vi (l.getD 12 atom0).1⟩ : Ac), vi (l.getD 13 atom0).1, vi (l.getD 14 atom0).1) : Pol × Stt × Ac × Int × Int)) (fun _ => rfl)) Try.func9 (by kernel_rfl) (c := code Try.f9) (by kernel_rfl) (an := an9) (by kernel_rfl) (pk := pk9) rfl (t := t9) (by kernel_rfl) ?_
  rintro ⟨p, s, a, n, c⟩ ho
  refine ⟨by simp [pk9, KindsOk, encPS, encPSn, encPSnc, encPSA, encPn, encSS, encI, Pol.enc, Stt.enc, Ac.enc, Sl.atom, Sl.nil, Stt.zero, RK.ok], ?_⟩
  unfold t9
  have f0 : same s s = true := same_yes ⟨rfl, rfl, rfl⟩ (lgE_refl _)
  have f1 := did_c p a (sim_of f0)
  have f2 := same_do p a (sim_of f0)
  refine need_wp ?_ ?_
  · exact ⟨_, _, _, rfl⟩
  refine br_wp (fun c1 => ?_) (fun c1 => ?_)
  · refine call_fun (()) rfl (by simp only [vd1, vd2, vd3, vd4, vd5, vd6, reduceCtorEq, Option.some.injEq, vb_ite, vi_ite, List.getD_cons_zero, List.getD_cons_succ]) trivial ?_
    refine ret_wp ?_
    (first | rfl | (exfalso; (simp only [vd1, vd2, vd3, vd4, vd5, vd6, reduceCtorEq, Option.some.injEq, vb_ite, vi_ite, List.getD_cons_zero, List.getD_cons_succ] at *) <;> grind))
  · have ho2 : lgOk s.g := lgOk_of ho (by simp only [vd1, vd2, vd3, vd4, vd5, vd6, reduceCtorEq, Option.some.injEq, vb_ite, vi_ite, List.getD_cons_zero, List.getD_cons_succ] at c1; show s.g.n ≤ 150; grind)
    refine call_fun ((p, s, a)) rfl (by simp only [vd1, vd2, vd3, vd4, vd5, vd6, reduceCtorEq, Option.some.injEq, vb_ite, vi_ite, List.getD_cons_zero, List.getD_cons_succ]) trivial ?_
    refine call_fun ((p, s, a)) rfl (by simp only [vd1, vd2, vd3, vd4, vd5, vd6, reduceCtorEq, Option.some.injEq, vb_ite, vi_ite, List.getD_cons_zero, List.getD_cons_succ]) trivial ?_
    refine call_fun ((p, s, s, n, c)) rfl (by simp only [vd1, vd2, vd3, vd4, vd5, vd6, reduceCtorEq, Option.some.injEq, vb_ite, vi_ite, List.getD_cons_zero, List.getD_cons_succ]) ⟨ho2, ho2, f0⟩ ?_
    refine br_wp (fun c2 => ?_) (fun c2 => ?_)
    · refine call_fun (((doN p s a), (doR p s a))) rfl (by simp only [vd1, vd2, vd3, vd4, vd5, vd6, reduceCtorEq, Option.some.injEq, vb_ite, vi_ite, List.getD_cons_zero, List.getD_cons_succ]) ⟨lgOk_nil (doG_n p s a), lgOk_nil (doL_n p s a)⟩ ?_
      refine br_wp (fun c3 => ?_) (fun c3 => ?_)
      · refine br_wp (fun c4 => ?_) (fun c4 => ?_)
        · refine call_fun (()) rfl (by simp only [vd1, vd2, vd3, vd4, vd5, vd6, reduceCtorEq, Option.some.injEq, vb_ite, vi_ite, List.getD_cons_zero, List.getD_cons_succ]) trivial ?_
          refine ret_wp ?_
          (first | rfl | (exfalso; (simp only [vd1, vd2, vd3, vd4, vd5, vd6, reduceCtorEq, Option.some.injEq, vb_ite, vi_ite, List.getD_cons_zero, List.getD_cons_succ] at *) <;> grind))
        · refine ret_wp ?_
          (first | rfl | (exfalso; (simp only [vd1, vd2, vd3, vd4, vd5, vd6, reduceCtorEq, Option.some.injEq, vb_ite, vi_ite, List.getD_cons_zero, List.getD_cons_succ] at *) <;> grind))
      · refine ret_wp ?_
        (first | rfl | (exfalso; (simp only [vd1, vd2, vd3, vd4, vd5, vd6, reduceCtorEq, Option.some.injEq, vb_ite, vi_ite, List.getD_cons_zero, List.getD_cons_succ] at *) <;> grind))
    · refine ret_wp ?_
      (first | rfl | (exfalso; (simp only [vd1, vd2, vd3, vd4, vd5, vd6, reduceCtorEq, Option.some.injEq, vb_ite, vi_ite, List.getD_cons_zero, List.getD_cons_succ] at *) <;> grind))
def kLaw8 (sg : Sig) : Sig × Con := (sg, mkFun (fun x : Pol × Int × Sl × Int × Int => ([aI x.1.k, aI x.1.l, aI x.1.p, aI x.1.b, aI x.1.c, aB x.1.o, aI x.2.1, Sl.atom x.2.2.1, aI x.2.2.2.1, aI x.2.2.2.2] : List Atom)) (fun x => actsOk x.2.2.1) (fun _ => [aB true]))
set_option maxHeartbeats 4000000 in
theorem h8 : holds Try.prog (kLaw8 sg8) := by
  refine fn_holds (l := [kSmall sg16, kKnown sg17, kCheckG sg32, kCheckG sg33, kNewG sg19, kNewG sg34, kTold sg35, kDoG sg20, kDoR sg36]) ⟨h16, h17, h32, h33, h19, h34, h35, h20, h36, trivial⟩ hP rs8 (inj_of (fun l : List Atom => (((⟨vi (l.getD 0 atom0).1, vi (l.getD 1 atom0).1, vi (l.getD 2 atom0).1, vi (l.getD 3 atom0).1, vi (l.getD 4 atom0).1, vb (l.getD 5 atom0).1⟩ : Pol), vi (l.getD 6 atom0).1, (⟨va (l.getD 7 atom0).1, vn (l.getD 7 atom0).1, vc (l.getD 7 atom0).1, (l.getD 7 atom0).2⟩ : Sl), vi (l.getD 8 atom0).1, vi (l.getD 9 atom0).1) : Pol × Int × Sl × Int × Int)) (fun _ => rfl)) Try.func8 (by kernel_rfl) (c := code Try.f8) (by kernel_rfl) (an := an8) (by kernel_rfl) (pk := pk8) rfl (t := t8) (by kernel_rfl) ?_
  rintro ⟨p, b, l, n, c⟩ hl
  refine ⟨by simp [pk8, KindsOk, encPS, encPSn, encPSnc, encPSA, encPn, encSS, encI, Pol.enc, Stt.enc, Ac.enc, Sl.atom, Sl.nil, Stt.zero, RK.ok], ?_⟩
  unfold t8
  change actsOk l at hl
  refine call_fun (l) rfl (by simp only [vd1, vd2, vd3, vd4, vd5, vd6, reduceCtorEq, Option.some.injEq, vb_ite, vi_ite, List.getD_cons_zero, List.getD_cons_succ]) trivial ?_
  refine br_wp (fun c1 => ?_) (fun c1 => ?_)
  · have hn : l.n ≤ 60 := by simp only [vd1, vd2, vd3, vd4, vd5, vd6, reduceCtorEq, Option.some.injEq, vb_ite, vi_ite, List.getD_cons_zero, List.getD_cons_succ] at c1; omega
    refine call_fun (p) rfl (by simp only [vd1, vd2, vd3, vd4, vd5, vd6, reduceCtorEq, Option.some.injEq, vb_ite, vi_ite, List.getD_cons_zero, List.getD_cons_succ]) trivial ?_
    refine call_fun (p) rfl (by simp only [vd1, vd2, vd3, vd4, vd5, vd6, reduceCtorEq, Option.some.injEq, vb_ite, vi_ite, List.getD_cons_zero, List.getD_cons_succ]) trivial ?_
    refine br_wp (fun c2 => ?_) (fun c2 => ?_)
    · refine ret_wp ?_
      (first | rfl | (exfalso; (simp only [vd1, vd2, vd3, vd4, vd5, vd6, reduceCtorEq, Option.some.injEq, vb_ite, vi_ite, List.getD_cons_zero, List.getD_cons_succ] at *) <;> grind))
    · refine call_fun ((p, b)) rfl (by simp only [vd1, vd2, vd3, vd4, vd5, vd6, reduceCtorEq, Option.some.injEq, vb_ite, vi_ite, List.getD_cons_zero, List.getD_cons_succ]) trivial ?_
      refine call_fun ((p, b)) rfl (by simp only [vd1, vd2, vd3, vd4, vd5, vd6, reduceCtorEq, Option.some.injEq, vb_ite, vi_ite, List.getD_cons_zero, List.getD_cons_succ]) trivial ?_
      refine need_wp ?_ ?_
      · (first | exact ⟨_, _, _, rfl⟩ | exact acts_row hl | exact acts_sz hl | (simp only [vd1, vd2, vd3, vd4, vd5, vd6, reduceCtorEq, Option.some.injEq, vb_ite, vi_ite, List.getD_cons_zero, List.getD_cons_succ]; exact ⟨_, rfl⟩) | (simp only [vd1, vd2, vd3, vd4, vd5, vd6, reduceCtorEq, Option.some.injEq, vb_ite, vi_ite, List.getD_cons_zero, List.getD_cons_succ] at *; grind))
      refine need_wp ?_ ?_
      · (first | exact ⟨_, _, _, rfl⟩ | exact acts_row hl | exact acts_sz hl | (simp only [vd1, vd2, vd3, vd4, vd5, vd6, reduceCtorEq, Option.some.injEq, vb_ite, vi_ite, List.getD_cons_zero, List.getD_cons_succ]; exact ⟨_, rfl⟩) | (simp only [vd1, vd2, vd3, vd4, vd5, vd6, reduceCtorEq, Option.some.injEq, vb_ite, vi_ite, List.getD_cons_zero, List.getD_cons_succ] at *; grind))
      refine loop_wp (fun bs0 => ∃ (i : Int) (s : Stt) (t : Stt), bs0 = [aI i, aI s.t, aI s.v, aI s.h, Sl.atom s.g, aI t.t, aI t.v, aI t.h, Sl.atom t.g] ∧ (0 ≤ i ∧ i ≤ l.n ∧ s.g.n = 0 ∧ t.g.n = 0 ∧ same s t = true)) (fun bs0 => (l.n - vi (bs0.getD 0 atom0).1).toNat) ?_ ?_
      · refine ⟨0, (newG p b), (newG p b), by simp only [vd1, vd2, vd3, vd4, vd5, vd6, reduceCtorEq, Option.some.injEq, vb_ite, vi_ite, List.getD_cons_zero, List.getD_cons_succ], ?_⟩
        exact ⟨by omega, by omega, rfl, rfl, same_yes ⟨rfl, rfl, rfl⟩ (lgE_nil rfl rfl)⟩
      rintro _ _ ⟨i, s, t, rfl, ⟨i0, i1, i2, i3, i4⟩⟩
      refine need_wp ?_ ?_
      · (first | exact ⟨_, _, _, rfl⟩ | exact acts_row hl | exact acts_sz hl | (simp only [vd1, vd2, vd3, vd4, vd5, vd6, reduceCtorEq, Option.some.injEq, vb_ite, vi_ite, List.getD_cons_zero, List.getD_cons_succ]; exact ⟨_, rfl⟩) | (simp only [vd1, vd2, vd3, vd4, vd5, vd6, reduceCtorEq, Option.some.injEq, vb_ite, vi_ite, List.getD_cons_zero, List.getD_cons_succ] at *; grind))
      refine br_wp (fun c3 => ?_) (fun c3 => ?_)
      · have hi : i < l.n := by simp only [vd1, vd2, vd3, vd4, vd5, vd6, reduceCtorEq, Option.some.injEq, vb_ite, vi_ite, List.getD_cons_zero, List.getD_cons_succ] at c3; omega
        obtain ⟨a, z0, z1, z2⟩ := acts_at hl i0 hi
        refine call_fun ((p, s, t, n, c)) rfl (by simp only [vd1, vd2, vd3, vd4, vd5, vd6, reduceCtorEq, Option.some.injEq, vb_ite, vi_ite, List.getD_cons_zero, List.getD_cons_succ, z0, z1, z2]) ⟨lgOk_nil i2, lgOk_nil i3, i4⟩ ?_
        refine br_wp (fun c4 => ?_) (fun c4 => ?_)
        · have f1 := did_c p a (sim_of i4)
          refine need_wp ?_ ?_
          · (first | exact ⟨_, _, _, rfl⟩ | exact acts_row hl | exact acts_sz hl | (simp only [vd1, vd2, vd3, vd4, vd5, vd6, reduceCtorEq, Option.some.injEq, vb_ite, vi_ite, List.getD_cons_zero, List.getD_cons_succ, z0, z1, z2]; exact ⟨_, rfl⟩) | (simp only [vd1, vd2, vd3, vd4, vd5, vd6, reduceCtorEq, Option.some.injEq, vb_ite, vi_ite, List.getD_cons_zero, List.getD_cons_succ, z0, z1, z2] at *; grind))
          refine need_wp ?_ ?_
          · (first | exact ⟨_, _, _, rfl⟩ | exact acts_row hl | exact acts_sz hl | (simp only [vd1, vd2, vd3, vd4, vd5, vd6, reduceCtorEq, Option.some.injEq, vb_ite, vi_ite, List.getD_cons_zero, List.getD_cons_succ, z0, z1, z2]; exact ⟨_, rfl⟩) | (simp only [vd1, vd2, vd3, vd4, vd5, vd6, reduceCtorEq, Option.some.injEq, vb_ite, vi_ite, List.getD_cons_zero, List.getD_cons_succ, z0, z1, z2] at *; grind))
          refine need_wp ?_ ?_
          · (first | exact ⟨_, _, _, rfl⟩ | exact acts_row hl | exact acts_sz hl | (simp only [vd1, vd2, vd3, vd4, vd5, vd6, reduceCtorEq, Option.some.injEq, vb_ite, vi_ite, List.getD_cons_zero, List.getD_cons_succ, z0, z1, z2]; exact ⟨_, rfl⟩) | (simp only [vd1, vd2, vd3, vd4, vd5, vd6, reduceCtorEq, Option.some.injEq, vb_ite, vi_ite, List.getD_cons_zero, List.getD_cons_succ, z0, z1, z2] at *; grind))
          refine need_wp ?_ ?_
          · (first | exact ⟨_, _, _, rfl⟩ | exact acts_row hl | exact acts_sz hl | (simp only [vd1, vd2, vd3, vd4, vd5, vd6, reduceCtorEq, Option.some.injEq, vb_ite, vi_ite, List.getD_cons_zero, List.getD_cons_succ, z0, z1, z2]; exact ⟨_, rfl⟩) | (simp only [vd1, vd2, vd3, vd4, vd5, vd6, reduceCtorEq, Option.some.injEq, vb_ite, vi_ite, List.getD_cons_zero, List.getD_cons_succ, z0, z1, z2] at *; grind))
          refine need_wp ?_ ?_
          · (first | exact ⟨_, _, _, rfl⟩ | exact acts_row hl | exact acts_sz hl | (simp only [vd1, vd2, vd3, vd4, vd5, vd6, reduceCtorEq, Option.some.injEq, vb_ite, vi_ite, List.getD_cons_zero, List.getD_cons_succ, z0, z1, z2]; exact ⟨_, rfl⟩) | (simp only [vd1, vd2, vd3, vd4, vd5, vd6, reduceCtorEq, Option.some.injEq, vb_ite, vi_ite, List.getD_cons_zero, List.getD_cons_succ, z0, z1, z2] at *; grind))
          refine need_wp ?_ ?_
          · (first | exact ⟨_, _, _, rfl⟩ | exact acts_row hl | exact acts_sz hl | (simp only [vd1, vd2, vd3, vd4, vd5, vd6, reduceCtorEq, Option.some.injEq, vb_ite, vi_ite, List.getD_cons_zero, List.getD_cons_succ, z0, z1, z2]; exact ⟨_, rfl⟩) | (simp only [vd1, vd2, vd3, vd4, vd5, vd6, reduceCtorEq, Option.some.injEq, vb_ite, vi_ite, List.getD_cons_zero, List.getD_cons_succ, z0, z1, z2] at *; grind))
          refine need_wp ?_ ?_
          · (first | exact ⟨_, _, _, rfl⟩ | exact acts_row hl | exact acts_sz hl | (simp only [vd1, vd2, vd3, vd4, vd5, vd6, reduceCtorEq, Option.some.injEq, vb_ite, vi_ite, List.getD_cons_zero, List.getD_cons_succ, z0, z1, z2]; exact ⟨_, rfl⟩) | (simp only [vd1, vd2, vd3, vd4, vd5, vd6, reduceCtorEq, Option.some.injEq, vb_ite, vi_ite, List.getD_cons_zero, List.getD_cons_succ, z0, z1, z2] at *; grind))
          refine need_wp ?_ ?_
          · (first | exact ⟨_, _, _, rfl⟩ | exact acts_row hl | exact acts_sz hl | (simp only [vd1, vd2, vd3, vd4, vd5, vd6, reduceCtorEq, Option.some.injEq, vb_ite, vi_ite, List.getD_cons_zero, List.getD_cons_succ, z0, z1, z2]; exact ⟨_, rfl⟩) | (simp only [vd1, vd2, vd3, vd4, vd5, vd6, reduceCtorEq, Option.some.injEq, vb_ite, vi_ite, List.getD_cons_zero, List.getD_cons_succ, z0, z1, z2] at *; grind))
          refine need_wp ?_ ?_
          · (first | exact ⟨_, _, _, rfl⟩ | exact acts_row hl | exact acts_sz hl | (simp only [vd1, vd2, vd3, vd4, vd5, vd6, reduceCtorEq, Option.some.injEq, vb_ite, vi_ite, List.getD_cons_zero, List.getD_cons_succ, z0, z1, z2]; exact ⟨_, rfl⟩) | (simp only [vd1, vd2, vd3, vd4, vd5, vd6, reduceCtorEq, Option.some.injEq, vb_ite, vi_ite, List.getD_cons_zero, List.getD_cons_succ, z0, z1, z2] at *; grind))
          refine call_fun ((p, s, a)) rfl (by simp only [vd1, vd2, vd3, vd4, vd5, vd6, reduceCtorEq, Option.some.injEq, vb_ite, vi_ite, List.getD_cons_zero, List.getD_cons_succ, z0, z1, z2]) trivial ?_
          refine need_wp ?_ ?_
          · (first | exact ⟨_, _, _, rfl⟩ | exact acts_row hl | exact acts_sz hl | (simp only [vd1, vd2, vd3, vd4, vd5, vd6, reduceCtorEq, Option.some.injEq, vb_ite, vi_ite, List.getD_cons_zero, List.getD_cons_succ, z0, z1, z2]; exact ⟨_, rfl⟩) | (simp only [vd1, vd2, vd3, vd4, vd5, vd6, reduceCtorEq, Option.some.injEq, vb_ite, vi_ite, List.getD_cons_zero, List.getD_cons_succ, z0, z1, z2] at *; grind))
          refine need_wp ?_ ?_
          · (first | exact ⟨_, _, _, rfl⟩ | exact acts_row hl | exact acts_sz hl | (simp only [vd1, vd2, vd3, vd4, vd5, vd6, reduceCtorEq, Option.some.injEq, vb_ite, vi_ite, List.getD_cons_zero, List.getD_cons_succ, z0, z1, z2]; exact ⟨_, rfl⟩) | (simp only [vd1, vd2, vd3, vd4, vd5, vd6, reduceCtorEq, Option.some.injEq, vb_ite, vi_ite, List.getD_cons_zero, List.getD_cons_succ, z0, z1, z2] at *; grind))
          refine need_wp ?_ ?_
          · (first | exact ⟨_, _, _, rfl⟩ | exact acts_row hl | exact acts_sz hl | (simp only [vd1, vd2, vd3, vd4, vd5, vd6, reduceCtorEq, Option.some.injEq, vb_ite, vi_ite, List.getD_cons_zero, List.getD_cons_succ, z0, z1, z2]; exact ⟨_, rfl⟩) | (simp only [vd1, vd2, vd3, vd4, vd5, vd6, reduceCtorEq, Option.some.injEq, vb_ite, vi_ite, List.getD_cons_zero, List.getD_cons_succ, z0, z1, z2] at *; grind))
          refine need_wp ?_ ?_
          · (first | exact ⟨_, _, _, rfl⟩ | exact acts_row hl | exact acts_sz hl | (simp only [vd1, vd2, vd3, vd4, vd5, vd6, reduceCtorEq, Option.some.injEq, vb_ite, vi_ite, List.getD_cons_zero, List.getD_cons_succ, z0, z1, z2]; exact ⟨_, rfl⟩) | (simp only [vd1, vd2, vd3, vd4, vd5, vd6, reduceCtorEq, Option.some.injEq, vb_ite, vi_ite, List.getD_cons_zero, List.getD_cons_succ, z0, z1, z2] at *; grind))
          refine need_wp ?_ ?_
          · (first | exact ⟨_, _, _, rfl⟩ | exact acts_row hl | exact acts_sz hl | (simp only [vd1, vd2, vd3, vd4, vd5, vd6, reduceCtorEq, Option.some.injEq, vb_ite, vi_ite, List.getD_cons_zero, List.getD_cons_succ, z0, z1, z2]; exact ⟨_, rfl⟩) | (simp only [vd1, vd2, vd3, vd4, vd5, vd6, reduceCtorEq, Option.some.injEq, vb_ite, vi_ite, List.getD_cons_zero, List.getD_cons_succ, z0, z1, z2] at *; grind))
          refine need_wp ?_ ?_
          · (first | exact ⟨_, _, _, rfl⟩ | exact acts_row hl | exact acts_sz hl | (simp only [vd1, vd2, vd3, vd4, vd5, vd6, reduceCtorEq, Option.some.injEq, vb_ite, vi_ite, List.getD_cons_zero, List.getD_cons_succ, z0, z1, z2]; exact ⟨_, rfl⟩) | (simp only [vd1, vd2, vd3, vd4, vd5, vd6, reduceCtorEq, Option.some.injEq, vb_ite, vi_ite, List.getD_cons_zero, List.getD_cons_succ, z0, z1, z2] at *; grind))
          refine need_wp ?_ ?_
          · (first | exact ⟨_, _, _, rfl⟩ | exact acts_row hl | exact acts_sz hl | (simp only [vd1, vd2, vd3, vd4, vd5, vd6, reduceCtorEq, Option.some.injEq, vb_ite, vi_ite, List.getD_cons_zero, List.getD_cons_succ, z0, z1, z2]; exact ⟨_, rfl⟩) | (simp only [vd1, vd2, vd3, vd4, vd5, vd6, reduceCtorEq, Option.some.injEq, vb_ite, vi_ite, List.getD_cons_zero, List.getD_cons_succ, z0, z1, z2] at *; grind))
          refine need_wp ?_ ?_
          · (first | exact ⟨_, _, _, rfl⟩ | exact acts_row hl | exact acts_sz hl | (simp only [vd1, vd2, vd3, vd4, vd5, vd6, reduceCtorEq, Option.some.injEq, vb_ite, vi_ite, List.getD_cons_zero, List.getD_cons_succ, z0, z1, z2]; exact ⟨_, rfl⟩) | (simp only [vd1, vd2, vd3, vd4, vd5, vd6, reduceCtorEq, Option.some.injEq, vb_ite, vi_ite, List.getD_cons_zero, List.getD_cons_succ, z0, z1, z2] at *; grind))
          refine call_fun ((p, t, a)) rfl (by simp only [vd1, vd2, vd3, vd4, vd5, vd6, reduceCtorEq, Option.some.injEq, vb_ite, vi_ite, List.getD_cons_zero, List.getD_cons_succ, z0, z1, z2]) trivial ?_
          refine br_wp (fun c5 => ?_) (fun c5 => ?_)
          · refine need_wp ?_ ?_
            · (first | exact ⟨_, _, _, rfl⟩ | exact acts_row hl | exact acts_sz hl | (simp only [vd1, vd2, vd3, vd4, vd5, vd6, reduceCtorEq, Option.some.injEq, vb_ite, vi_ite, List.getD_cons_zero, List.getD_cons_succ, z0, z1, z2]; exact ⟨_, rfl⟩) | (simp only [vd1, vd2, vd3, vd4, vd5, vd6, reduceCtorEq, Option.some.injEq, vb_ite, vi_ite, List.getD_cons_zero, List.getD_cons_succ, z0, z1, z2] at *; grind))
            refine need_wp ?_ ?_
            · (first | exact ⟨_, _, _, rfl⟩ | exact acts_row hl | exact acts_sz hl | (simp only [vd1, vd2, vd3, vd4, vd5, vd6, reduceCtorEq, Option.some.injEq, vb_ite, vi_ite, List.getD_cons_zero, List.getD_cons_succ, z0, z1, z2]; exact ⟨_, rfl⟩) | (simp only [vd1, vd2, vd3, vd4, vd5, vd6, reduceCtorEq, Option.some.injEq, vb_ite, vi_ite, List.getD_cons_zero, List.getD_cons_succ, z0, z1, z2] at *; grind))
            refine again_wp rfl ⟨(IntKind.i64.wrap (i + 1)), (doN p s a), (doR p t a), by simp only [vd1, vd2, vd3, vd4, vd5, vd6, reduceCtorEq, Option.some.injEq, vb_ite, vi_ite, List.getD_cons_zero, List.getD_cons_succ, z0, z1, z2], ?_⟩ ?_
            · have hw := wrap_id (i + 1) (by omega) (by omega); simp only [vd1, vd2, vd3, vd4, vd5, vd6, reduceCtorEq, Option.some.injEq, vb_ite, vi_ite, List.getD_cons_zero, List.getD_cons_succ, z0, z1, z2, hw]; exact ⟨by omega, by omega, doG_n p s a, doL_n p t a, same_do p a (sim_of i4)⟩
            · have hw := wrap_id (i + 1) (by omega) (by omega); simp only [vd1, vd2, vd3, vd4, vd5, vd6, reduceCtorEq, Option.some.injEq, vb_ite, vi_ite, List.getD_cons_zero, List.getD_cons_succ, z0, z1, z2, hw]; omega
          · refine pop_wp ?_
            refine ret_wp ?_
            (first | rfl | (exfalso; (simp only [vd1, vd2, vd3, vd4, vd5, vd6, reduceCtorEq, Option.some.injEq, vb_ite, vi_ite, List.getD_cons_zero, List.getD_cons_succ, z0, z1, z2] at *) <;> grind))
        · refine pop_wp ?_
          refine ret_wp ?_
          (first | rfl | (exfalso; (simp only [vd1, vd2, vd3, vd4, vd5, vd6, reduceCtorEq, Option.some.injEq, vb_ite, vi_ite, List.getD_cons_zero, List.getD_cons_succ, z0, z1, z2] at *) <;> grind))
      · refine pop_wp ?_
        refine call_fun ((p, s, t, n, c)) rfl (by simp only [vd1, vd2, vd3, vd4, vd5, vd6, reduceCtorEq, Option.some.injEq, vb_ite, vi_ite, List.getD_cons_zero, List.getD_cons_succ]) ⟨lgOk_nil i2, lgOk_nil i3, i4⟩ ?_
        refine br_wp (fun c6 => ?_) (fun c6 => ?_)
        · refine call_fun (()) rfl (by simp only [vd1, vd2, vd3, vd4, vd5, vd6, reduceCtorEq, Option.some.injEq, vb_ite, vi_ite, List.getD_cons_zero, List.getD_cons_succ]) trivial ?_
          refine ret_wp ?_
          (first | rfl | (exfalso; (simp only [vd1, vd2, vd3, vd4, vd5, vd6, reduceCtorEq, Option.some.injEq, vb_ite, vi_ite, List.getD_cons_zero, List.getD_cons_succ] at *) <;> grind))
        · refine ret_wp ?_
          (first | rfl | (exfalso; (simp only [vd1, vd2, vd3, vd4, vd5, vd6, reduceCtorEq, Option.some.injEq, vb_ite, vi_ite, List.getD_cons_zero, List.getD_cons_succ] at *) <;> grind))
  · refine call_fun (()) rfl (by simp only [vd1, vd2, vd3, vd4, vd5, vd6, reduceCtorEq, Option.some.injEq, vb_ite, vi_ite, List.getD_cons_zero, List.getD_cons_succ]) trivial ?_
    refine ret_wp ?_
    (first | rfl | (exfalso; (simp only [vd1, vd2, vd3, vd4, vd5, vd6, reduceCtorEq, Option.some.injEq, vb_ite, vi_ite, List.getD_cons_zero, List.getD_cons_succ] at *) <;> grind))
end Go.Proofs.YtjmenmnjkfnhgaaK
