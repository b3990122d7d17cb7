import Derived.Test.YtjmenmnjkfnhgaaVN5
set_option linter.unusedSimpArgs false
set_option linter.unusedVariables false
namespace Go.Proofs.YtjmenmnjkfnhgaaK
open Go Go.Proofs.YtjmenmnjkfnhgaaV Go.Proofs
theorem mul_fit {x y : Int} (h : 0 ≤ x) (h2 : x ≤ 1048576) (h3 : 0 ≤ y) (h4 : y ≤ 1099511627776) : IntKind.i64.wrap (x * y) = ml x y ∧ 0 ≤ ml x y ∧ ml x y ≤ 1152921504606846976 := by
  have h5 : 0 ≤ x * y := Int.mul_nonneg h h3
  have h6 : x * y ≤ 1048576 * 1099511627776 := Int.mul_le_mul h2 h4 h3 (by omega)
  exact ⟨wrap_id _ (by omega) (by omega), h5, by show x * y ≤ _; omega⟩
theorem ml_mono {x z y : Int} (h : x ≤ z) (hy : 0 ≤ y) : ml x y ≤ ml z y := Int.mul_le_mul_of_nonneg_right h hy
theorem ml_add (x z y : Int) : ml (x + z) y = ml x y + ml z y := Int.add_mul x z y
theorem ml_sub (x z y : Int) : ml (x - z) y = ml x y - ml z y := Int.sub_mul x z y
theorem ml_pos {x y : Int} (h : 1 ≤ x) (hy : 1 ≤ y) : 1 ≤ ml x y := by
  have := Int.mul_le_mul h hy (by omega) (by omega)
  unfold ml; omega
def okG (p : Pol) : Prop := p.k = 2 ∧ p.c = 0 ∧ 1 ≤ p.l ∧ p.l ≤ 1048576 ∧ 1 ≤ p.b ∧ p.b ≤ 1048576 ∧ 1 ≤ p.p ∧ p.p ≤ 1099511627776
instance (p : Pol) : Decidable (okG p) := by unfold okG; exact inferInstance
def chkG (p : Pol) : Int := if okG p then 0 else 2
def newG (p : Pol) (n : Int) : Stt := ⟨if okG p then clamp n else 0, 0, 0, Sl.nil⟩
def rightG (p : Pol) (s : Stt) : Prop := okG p ∧ 0 ≤ s.t ∧ s.t ≤ 9007199254740992 ∧ 0 ≤ s.h ∧ s.h ≤ p.b ∧ ml s.h p.p ≤ s.v ∧ s.v ≤ ml p.b p.p ∧ s.g.n = 0
instance (p : Pol) (s : Stt) : Decidable (rightG p s) := by unfold rightG; exact inferInstance
def ltr (s : Stt) (n : Int) : Int := max s.t (clamp n)
def avG (p : Pol) (s : Stt) (n : Int) : Int := max (ml s.h p.p) (s.v - ml (ltr s n - s.t) p.l)
def advT (p : Pol) (s : Stt) (n : Int) : Int := if rightG p s then ltr s n else 0
def advV (p : Pol) (s : Stt) (n : Int) : Int := if rightG p s then avG p s n else 0
def advH (p : Pol) (s : Stt) : Int := if rightG p s then s.h else 0
def advG (p : Pol) (s : Stt) (n : Int) : Stt := ⟨advT p s n, advV p s n, advH p s, Sl.nil⟩
def roomG (p : Pol) (s : Stt) (n : Int) : Int := if rightG p s then dv (ml p.b p.p - avG p s n) p.p else 0
def lst (p : Pol) (n : Int) : Int := if n ≤ 0 then 0 else cdv n p.l
def untG (p : Pol) (s : Stt) (n : Int) : Int := if rightG p s ∧ s.h ≤ 0 then lst p (avG p s n) else -1
def mayC (p : Pol) (s : Stt) (c : Int) : Prop := rightG p s ∧ 1 ≤ c ∧ c ≤ p.b - s.h
instance (p : Pol) (s : Stt) (c : Int) : Decidable (mayC p s c) := by unfold mayC; exact inferInstance
def retG (p : Pol) (s : Stt) (n c : Int) : Int := if mayC p s c then lst p (avG p s n - ml (p.b - c) p.p) else 0
def didG (p : Pol) (s : Stt) (a : Ac) : Prop := rightG p s ∧ 1 ≤ a.c ∧ a.c ≤ p.b ∧ ((a.k = 1 ∨ a.k = 2) ∧ avG p s a.t + ml a.c p.p ≤ ml p.b p.p ∨ (a.k = 3 ∨ a.k = 4) ∧ a.c ≤ s.h)
instance (p : Pol) (s : Stt) (a : Ac) : Decidable (didG p s a) := by unfold didG; exact inferInstance
def doT (p : Pol) (s : Stt) (a : Ac) : Int := if didG p s a then ltr s a.t else if rightG p s then s.t else 0
def doV (p : Pol) (s : Stt) (a : Ac) : Int := if didG p s a then avG p s a.t + (if a.k = 1 ∨ a.k = 2 then ml a.c p.p else if a.k = 3 then - ml a.c p.p else 0) else if rightG p s then s.v else 0
def doH (p : Pol) (s : Stt) (a : Ac) : Int := if didG p s a then s.h + (if a.k = 2 then a.c else if a.k = 1 then 0 else -a.c) else if rightG p s then s.h else 0
def doG (p : Pol) (s : Stt) (a : Ac) : Sl := if didG p s a then Sl.nil else if rightG p s then s.g else Sl.nil
def doN (p : Pol) (s : Stt) (a : Ac) : Stt := ⟨doT p s a, doV p s a, doH p s a, doG p s a⟩
theorem ltr_ge (s : Stt) (n : Int) : s.t ≤ ltr s n := by unfold ltr; omega
theorem ltr_le {s : Stt} (n : Int) (h : s.t ≤ 9007199254740992) : ltr s n ≤ 9007199254740992 := by unfold ltr clamp; split <;> (try split) <;> omega
/-- What the numbers of a right state lie between. -/
theorem rightG_bd {p : Pol} {s : Stt} (h : rightG p s) : 0 ≤ ml s.h p.p ∧ ml s.h p.p ≤ 1152921504606846976 ∧ 0 ≤ ml p.b p.p ∧ ml p.b p.p ≤ 1152921504606846976 ∧ IntKind.i64.wrap (s.h * p.p) = ml s.h p.p ∧ IntKind.i64.wrap (p.b * p.p) = ml p.b p.p := by
  obtain ⟨⟨_, _, _, _, h1, h2, h3, h4⟩, _, _, h5, h6, _⟩ := h
  obtain ⟨a1, a2, a3⟩ := mul_fit h5 (by omega) (by omega) h4
  obtain ⟨b1, b2, b3⟩ := mul_fit (x := p.b) (by omega) h2 (by omega) h4
  exact ⟨a2, a3, b2, b3, a1, b1⟩
theorem avG_bd {p : Pol} {s : Stt} (n : Int) (h : rightG p s) : ml s.h p.p ≤ avG p s n ∧ avG p s n ≤ s.v ∧ avG p s n ≤ ml p.b p.p := by
  have h1 := ltr_ge s n
  have h2 : 0 ≤ ml (ltr s n - s.t) p.l := Int.mul_nonneg (by omega) (by have := h.1.2.2.1; omega)
  have h3 := h.2.2.2.2.2.1
  have h4 := h.2.2.2.2.2.2.1
  unfold avG; omega
def kCheckG (sg : Sig) : Sig × Con := (sg, mkFun (fun x : Pol => ([aI x.k, aI x.l, aI x.p, aI x.b, aI x.c, aB x.o] : List Atom)) (fun _ => True) (fun p => [aI (chkG p)]))
set_option maxHeartbeats 4000000 in
theorem h33 : holds Try.prog (kCheckG sg33) := by
  refine fn_holds (l := [kIn sg51]) ⟨h51, trivial⟩ hP rs33 (inj_of (fun l : List Atom => ((⟨vi (l.getD 0 atom0).1, vi (l.getD 1 atom0).1, vi (l.getD 2 atom0).1, vi (l.getD 3 atom0).1, vi (l.getD 4 atom0).1, vb (l.getD 5 atom0).1⟩ : Pol) : Pol)) (fun _ => rfl)) Try.func33 (by kernel_rfl) (c := code Try.f33) (by kernel_rfl) (an := an33) (by kernel_rfl) (pk := pk33) rfl (t := t33) (by kernel_rfl) ?_
  rintro p hpre
  refine ⟨by simp [pk33, KindsOk, encPS, encPSn, encPSnc, encPSA, encPn, encSS, encI, Pol.enc, Stt.enc, Ac.enc, Sl.atom, Sl.nil, Stt.zero, RK.ok], ?_⟩
  unfold t33
  refine br_wp (fun c1 => ?_) (fun c1 => ?_)
  · refine ret_wp ?_
    ((try simp only [vd1, vd2, vd3, vd4, vd5, vd6, reduceCtorEq, Option.some.injEq, vb_ite, vi_ite, List.getD_cons_zero, List.getD_cons_succ] at *) <;> grind (splits := 40) [chkG, okG])
  · refine br_wp (fun c2 => ?_) (fun c2 => ?_)
    · refine ret_wp ?_
      ((try simp only [vd1, vd2, vd3, vd4, vd5, vd6, reduceCtorEq, Option.some.injEq, vb_ite, vi_ite, List.getD_cons_zero, List.getD_cons_succ] at *) <;> grind (splits := 40) [chkG, okG])
    · refine call_fun ((p.l, 1, 1048576)) rfl (by simp only [vd1, vd2, vd3, vd4, vd5, vd6, reduceCtorEq, Option.some.injEq, vb_ite, vi_ite, List.getD_cons_zero, List.getD_cons_succ]) trivial ?_
      refine br_wp (fun c3 => ?_) (fun c3 => ?_)
      · refine call_fun ((p.b, 1, 1048576)) rfl (by simp only [vd1, vd2, vd3, vd4, vd5, vd6, reduceCtorEq, Option.some.injEq, vb_ite, vi_ite, List.getD_cons_zero, List.getD_cons_succ]) trivial ?_
        refine br_wp (fun c4 => ?_) (fun c4 => ?_)
        · refine call_fun ((p.p, 1, 1099511627776)) rfl (by simp only [vd1, vd2, vd3, vd4, vd5, vd6, reduceCtorEq, Option.some.injEq, vb_ite, vi_ite, List.getD_cons_zero, List.getD_cons_succ]) trivial ?_
          refine br_wp (fun c5 => ?_) (fun c5 => ?_)
          · refine ret_wp ?_
            ((try simp only [vd1, vd2, vd3, vd4, vd5, vd6, reduceCtorEq, Option.some.injEq, vb_ite, vi_ite, List.getD_cons_zero, List.getD_cons_succ] at *) <;> grind (splits := 40) [chkG, okG])
          · refine ret_wp ?_
            ((try simp only [vd1, vd2, vd3, vd4, vd5, vd6, reduceCtorEq, Option.some.injEq, vb_ite, vi_ite, List.getD_cons_zero, List.getD_cons_succ] at *) <;> grind (splits := 40) [chkG, okG])
        · refine ret_wp ?_
          ((try simp only [vd1, vd2, vd3, vd4, vd5, vd6, reduceCtorEq, Option.some.injEq, vb_ite, vi_ite, List.getD_cons_zero, List.getD_cons_succ] at *) <;> grind (splits := 40) [chkG, okG])
      · refine ret_wp ?_
        ((try simp only [vd1, vd2, vd3, vd4, vd5, vd6, reduceCtorEq, Option.some.injEq, vb_ite, vi_ite, List.getD_cons_zero, List.getD_cons_succ] at *) <;> grind (splits := 40) [chkG, okG])
def kNewG (sg : Sig) : Sig × Con := (sg, mkFun (fun x : Pol × Int => ([aI x.1.k, aI x.1.l, aI x.1.p, aI x.1.b, aI x.1.c, aB x.1.o, aI x.2] : List Atom)) (fun _ => True) (fun x => (newG x.1 x.2).enc))
set_option maxHeartbeats 4000000 in
theorem h19 : holds Try.prog (kNewG sg19) := by
  refine fn_holds (l := [kCheckG sg33, kClamp sg50]) ⟨h33, h50, trivial⟩ hP rs19 (inj_of (fun l : List Atom => (((⟨vi (l.getD 0 atom0).1, vi (l.getD 1 atom0).1, vi (l.getD 2 atom0).1, vi (l.getD 3 atom0).1, vi (l.getD 4 atom0).1, vb (l.getD 5 atom0).1⟩ : Pol), vi (l.getD 6 atom0).1) : Pol × Int)) (fun _ => rfl)) Try.func19 (by kernel_rfl) (c := code Try.f19) (by kernel_rfl) (an := an19) (by kernel_rfl) (pk := pk19) rfl (t := t19) (by kernel_rfl) ?_
  rintro ⟨p, n⟩ hpre
  refine ⟨by simp [pk19, KindsOk, encPS, encPSn, encPSnc, encPSA, encPn, encSS, encI, Pol.enc, Stt.enc, Ac.enc, Sl.atom, Sl.nil, Stt.zero, RK.ok], ?_⟩
  unfold t19
  refine call_fun (p) rfl (by simp only [vd1, vd2, vd3, vd4, vd5, vd6, reduceCtorEq, Option.some.injEq, vb_ite, vi_ite, List.getD_cons_zero, List.getD_cons_succ, advG, newG, doN]) trivial ?_
  refine br_wp (fun c1 => ?_) (fun c1 => ?_)
  · refine need_wp ?_ ?_
    · exact ⟨_, _, _, rfl⟩
    refine ret_wp ?_
    ((try simp only [vd1, vd2, vd3, vd4, vd5, vd6, reduceCtorEq, Option.some.injEq, vb_ite, vi_ite, List.getD_cons_zero, List.getD_cons_succ, advG, newG, doN] at *) <;> grind (splits := 40) [chkG, Sl.nil])
  · refine call_fun (n) rfl (by simp only [vd1, vd2, vd3, vd4, vd5, vd6, reduceCtorEq, Option.some.injEq, vb_ite, vi_ite, List.getD_cons_zero, List.getD_cons_succ, advG, newG, doN]) trivial ?_
    refine need_wp ?_ ?_
    · exact ⟨_, _, _, rfl⟩
    refine ret_wp ?_
    ((try simp only [vd1, vd2, vd3, vd4, vd5, vd6, reduceCtorEq, Option.some.injEq, vb_ite, vi_ite, List.getD_cons_zero, List.getD_cons_succ, advG, newG, doN] at *) <;> grind (splits := 40) [chkG, Sl.nil])
def kRightG (sg : Sig) : Sig × Con := (sg, mkFun (fun x : Pol × Stt => ([aI x.1.k, aI x.1.l, aI x.1.p, aI x.1.b, aI x.1.c, aB x.1.o, aI x.2.t, aI x.2.v, aI x.2.h, Sl.atom x.2.g] : List Atom)) (fun _ => True) (fun x => [aB (decide (rightG x.1 x.2))]))
set_option maxHeartbeats 4000000 in
theorem h24 : holds Try.prog (kRightG sg24) := by
  refine fn_holds (l := [kCheckG sg33, kIn sg51]) ⟨h33, h51, trivial⟩ hP rs24 (inj_of (fun l : List Atom => (((⟨vi (l.getD 0 atom0).1, vi (l.getD 1 atom0).1, vi (l.getD 2 atom0).1, vi (l.getD 3 atom0).1, vi (l.getD 4 atom0).1, vb (l.getD 5 atom0).1⟩ : Pol), (⟨vi (l.getD 6 atom0).1, vi (l.getD 7 atom0).1, vi (l.getD 8 atom0).1, (⟨va (l.getD 9 atom0).1, vn (l.getD 9 atom0).1, vc (l.getD 9 atom0).1, (l.getD 9 atom0).2⟩ : Sl)⟩ : Stt)) : Pol × Stt)) (fun _ => rfl)) Try.func24 (by kernel_rfl) (c := code Try.f24) (by kernel_rfl) (an := an24) (by kernel_rfl) (pk := pk24) rfl (t := t24) (by kernel_rfl) ?_
  rintro ⟨p, s⟩ hpre
  refine ⟨by simp [pk24, KindsOk, encPS, encPSn, encPSnc, encPSA, encPn, encSS, encI, Pol.enc, Stt.enc, Ac.enc, Sl.atom, Sl.nil, Stt.zero, RK.ok], ?_⟩
  unfold t24
  refine call_fun (p) rfl (by simp only [vd1, vd2, vd3, vd4, vd5, vd6, reduceCtorEq, Option.some.injEq, vb_ite, vi_ite, List.getD_cons_zero, List.getD_cons_succ]) trivial ?_
  refine br_wp (fun c1 => ?_) (fun c1 => ?_)
  · have ok : okG p := by simp only [vd1, vd2, vd3, vd4, vd5, vd6, reduceCtorEq, Option.some.injEq, vb_ite, vi_ite, List.getD_cons_zero, List.getD_cons_succ] at c1; unfold chkG at c1; grind
    have ok2 := ok
    unfold okG at ok2
    refine call_fun ((s.t, 0, 9007199254740992)) rfl (by simp only [vd1, vd2, vd3, vd4, vd5, vd6, reduceCtorEq, Option.some.injEq, vb_ite, vi_ite, List.getD_cons_zero, List.getD_cons_succ]) trivial ?_
    refine br_wp (fun c2 => ?_) (fun c2 => ?_)
    · refine call_fun ((s.h, 0, p.b)) rfl (by simp only [vd1, vd2, vd3, vd4, vd5, vd6, reduceCtorEq, Option.some.injEq, vb_ite, vi_ite, List.getD_cons_zero, List.getD_cons_succ]) trivial ?_
      refine br_wp (fun c3 => ?_) (fun c3 => ?_)
      · have hh : 0 ≤ s.h ∧ s.h ≤ p.b := by simp only [vd1, vd2, vd3, vd4, vd5, vd6, reduceCtorEq, Option.some.injEq, vb_ite, vi_ite, List.getD_cons_zero, List.getD_cons_succ] at c3; exact c3
        have w1 := (mul_fit (x := s.h) hh.1 (by omega) (by omega) ok2.2.2.2.2.2.2.2).1
        have w2 := (mul_fit (x := p.b) (by omega) ok2.2.2.2.2.2.1 (by omega) ok2.2.2.2.2.2.2.2).1
        refine call_fun ((s.v, (ml s.h p.p), (ml p.b p.p))) rfl (by simp only [vd1, vd2, vd3, vd4, vd5, vd6, reduceCtorEq, Option.some.injEq, vb_ite, vi_ite, List.getD_cons_zero, List.getD_cons_succ, w1, w2]) trivial ?_
        refine br_wp (fun c4 => ?_) (fun c4 => ?_)
        · refine need_wp ?_ ?_
          · exact ⟨_, _, _, rfl⟩
          refine ret_wp ?_
          ((try simp only [vd1, vd2, vd3, vd4, vd5, vd6, reduceCtorEq, Option.some.injEq, vb_ite, vi_ite, List.getD_cons_zero, List.getD_cons_succ, w1, w2] at *) <;> grind (splits := 40) [rightG])
        · refine ret_wp ?_
          ((try simp only [vd1, vd2, vd3, vd4, vd5, vd6, reduceCtorEq, Option.some.injEq, vb_ite, vi_ite, List.getD_cons_zero, List.getD_cons_succ, w1, w2] at *) <;> grind (splits := 40) [rightG])
      · refine ret_wp ?_
        ((try simp only [vd1, vd2, vd3, vd4, vd5, vd6, reduceCtorEq, Option.some.injEq, vb_ite, vi_ite, List.getD_cons_zero, List.getD_cons_succ] at *) <;> grind (splits := 40) [rightG])
    · refine ret_wp ?_
      ((try simp only [vd1, vd2, vd3, vd4, vd5, vd6, reduceCtorEq, Option.some.injEq, vb_ite, vi_ite, List.getD_cons_zero, List.getD_cons_succ] at *) <;> grind (splits := 40) [rightG])
  · have ok : ¬okG p := by simp only [vd1, vd2, vd3, vd4, vd5, vd6, reduceCtorEq, Option.some.injEq, vb_ite, vi_ite, List.getD_cons_zero, List.getD_cons_succ] at c1; unfold chkG at c1; grind
    refine ret_wp ?_
    ((try simp only [vd1, vd2, vd3, vd4, vd5, vd6, reduceCtorEq, Option.some.injEq, vb_ite, vi_ite, List.getD_cons_zero, List.getD_cons_succ] at *) <;> grind (splits := 40) [rightG])
def kPaid (sg : Sig) : Sig × Con := (sg, mkFun (fun x : Pol × Int × Int × Int => ([aI x.1.k, aI x.1.l, aI x.1.p, aI x.1.b, aI x.1.c, aB x.1.o, aI x.2.1, aI x.2.2.1, aI x.2.2.2] : List Atom)) (fun x => in64 x.1.l ∧ in64 x.2.2.1 ∧ 0 ≤ x.2.2.2 ∧ x.2.2.2 ≤ x.2.1 ∧ x.2.1 ≤ 1152921504606846976 ∧ 0 ≤ ml x.2.2.1 x.1.l) (fun x => [aI (max x.2.2.2 (x.2.1 - ml x.2.2.1 x.1.l))]))
set_option maxHeartbeats 4000000 in
theorem h53 : holds Try.prog (kPaid sg53) := by
  refine fn_holds (l := [kMul sg68]) ⟨h68, trivial⟩ hP rs53 (inj_of (fun l : List Atom => (((⟨vi (l.getD 0 atom0).1, vi (l.getD 1 atom0).1, vi (l.getD 2 atom0).1, vi (l.getD 3 atom0).1, vi (l.getD 4 atom0).1, vb (l.getD 5 atom0).1⟩ : Pol), vi (l.getD 6 atom0).1, vi (l.getD 7 atom0).1, vi (l.getD 8 atom0).1) : Pol × Int × Int × Int)) (fun _ => rfl)) Try.func53 (by kernel_rfl) (c := code Try.f53) (by kernel_rfl) (an := an53) (by kernel_rfl) (pk := pk53) rfl (t := t53) (by kernel_rfl) ?_
  rintro ⟨p, a, d, l⟩ ⟨u1, u2, u3, u4, u5, u6⟩
  refine ⟨by simp [pk53, KindsOk, encPS, encPSn, encPSnc, encPSA, encPn, encSS, encI, Pol.enc, Stt.enc, Ac.enc, Sl.atom, Sl.nil, Stt.zero, RK.ok], ?_⟩
  unfold t53
  simp only at u1 u2 u3 u4 u5 u6
  refine call_fun ((d, p.l)) rfl (by simp only [vd1, vd2, vd3, vd4, vd5, vd6, reduceCtorEq, Option.some.injEq, vb_ite, vi_ite, List.getD_cons_zero, List.getD_cons_succ]) ⟨u2, u1⟩ ?_
  refine br_wp (fun c1 => ?_) (fun c1 => ?_)
  · refine br_wp (fun c2 => ?_) (fun c2 => ?_)
    · refine ret_wp ?_
      ((try simp only [vd1, vd2, vd3, vd4, vd5, vd6, reduceCtorEq, Option.some.injEq, vb_ite, vi_ite, List.getD_cons_zero, List.getD_cons_succ] at *) <;> grind (splits := 40) [mulV, mulO, wrap_id])
    · refine ret_wp ?_
      ((try simp only [vd1, vd2, vd3, vd4, vd5, vd6, reduceCtorEq, Option.some.injEq, vb_ite, vi_ite, List.getD_cons_zero, List.getD_cons_succ] at *) <;> grind (splits := 40) [mulV, mulO, wrap_id])
  · refine ret_wp ?_
    ((try simp only [vd1, vd2, vd3, vd4, vd5, vd6, reduceCtorEq, Option.some.injEq, vb_ite, vi_ite, List.getD_cons_zero, List.getD_cons_succ] at *) <;> grind (splits := 40) [mulV, mulO, wrap_id])
def kAdvG (sg : Sig) : Sig × Con := (sg, mkFun (fun x : Pol × Stt × Int => ([aI x.1.k, aI x.1.l, aI x.1.p, aI x.1.b, aI x.1.c, aB x.1.o, aI x.2.1.t, aI x.2.1.v, aI x.2.1.h, Sl.atom x.2.1.g, aI x.2.2] : List Atom)) (fun _ => True) (fun x => (advG x.1 x.2.1 x.2.2).enc))
set_option maxHeartbeats 4000000 in
theorem h26 : holds Try.prog (kAdvG sg26) := by
  refine fn_holds (l := [kRightG sg24, kClamp sg50, kPaid sg53]) ⟨h24, h50, h53, trivial⟩ hP rs26 (inj_of (fun l : List Atom => (((⟨vi (l.getD 0 atom0).1, vi (l.getD 1 atom0).1, vi (l.getD 2 atom0).1, vi (l.getD 3 atom0).1, vi (l.getD 4 atom0).1, vb (l.getD 5 atom0).1⟩ : Pol), (⟨vi (l.getD 6 atom0).1, vi (l.getD 7 atom0).1, vi (l.getD 8 atom0).1, (⟨va (l.getD 9 atom0).1, vn (l.getD 9 atom0).1, vc (l.getD 9 atom0).1, (l.getD 9 atom0).2⟩ : Sl)⟩ : Stt), vi (l.getD 10 atom0).1) : Pol × Stt × Int)) (fun _ => rfl)) Try.func26 (by kernel_rfl) (c := code Try.f26) (by kernel_rfl) (an := an26) (by kernel_rfl) (pk := pk26) rfl (t := t26) (by kernel_rfl) ?_
  rintro ⟨p, s, n⟩ hpre
  refine ⟨by simp [pk26, KindsOk, encPS, encPSn, encPSnc, encPSA, encPn, encSS, encI, Pol.enc, Stt.enc, Ac.enc, Sl.atom, Sl.nil, Stt.zero, RK.ok], ?_⟩
  unfold t26
  refine call_fun ((p, s)) rfl (by simp only [vd1, vd2, vd3, vd4, vd5, vd6, reduceCtorEq, Option.some.injEq, vb_ite, vi_ite, List.getD_cons_zero, List.getD_cons_succ, advG, newG, doN]) trivial ?_
  refine br_wp (fun c1 => ?_) (fun c1 => ?_)
  · have hr : rightG p s := by simp only [vd1, vd2, vd3, vd4, vd5, vd6, reduceCtorEq, Option.some.injEq, vb_ite, vi_ite, List.getD_cons_zero, List.getD_cons_succ, advG, newG, doN] at c1; exact c1
    obtain ⟨b1, b2, b3, b4, w1, w2⟩ := rightG_bd hr
    have l1 := ltr_ge s n
    have l2 := ltr_le n hr.2.2.1
    unfold ltr at l1 l2
    have hr2 := hr
    unfold rightG okG at hr2
    have w3 : IntKind.i64.wrap (max s.t (clamp n) - s.t) = max s.t (clamp n) - s.t := wrap_id _ (by omega) (by omega)
    refine call_fun (n) rfl (by simp only [vd1, vd2, vd3, vd4, vd5, vd6, reduceCtorEq, Option.some.injEq, vb_ite, vi_ite, List.getD_cons_zero, List.getD_cons_succ, advG, newG, doN, w1, w2, w3]) trivial ?_
    refine call_fun ((p, s.v, (max s.t (clamp n) - s.t), (ml s.h p.p))) rfl (by simp only [vd1, vd2, vd3, vd4, vd5, vd6, reduceCtorEq, Option.some.injEq, vb_ite, vi_ite, List.getD_cons_zero, List.getD_cons_succ, advG, newG, doN, w1, w2, w3]) (by refine ⟨⟨?_, ?_⟩, ⟨?_, ?_⟩, ?_, ?_, ?_, ?_⟩ <;> simp only <;> first | omega | exact Int.mul_nonneg (by omega) (by omega)) ?_
    refine need_wp ?_ ?_
    · exact ⟨_, _, _, rfl⟩
    refine ret_wp ?_
    ((try simp only [vd1, vd2, vd3, vd4, vd5, vd6, reduceCtorEq, Option.some.injEq, vb_ite, vi_ite, List.getD_cons_zero, List.getD_cons_succ, advG, newG, doN, w1, w2, w3] at *) <;> grind (splits := 40) [advT, advV, advH, ltr, avG, Sl.nil])
  · refine need_wp ?_ ?_
    · exact ⟨_, _, _, rfl⟩
    refine ret_wp ?_
    ((try simp only [vd1, vd2, vd3, vd4, vd5, vd6, reduceCtorEq, Option.some.injEq, vb_ite, vi_ite, List.getD_cons_zero, List.getD_cons_succ, advG, newG, doN] at *) <;> grind (splits := 40) [advT, advV, advH, ltr, avG, Sl.nil])
def kRoomG (sg : Sig) : Sig × Con := (sg, mkFun (fun x : Pol × Stt × Int => ([aI x.1.k, aI x.1.l, aI x.1.p, aI x.1.b, aI x.1.c, aB x.1.o, aI x.2.1.t, aI x.2.1.v, aI x.2.1.h, Sl.atom x.2.1.g, aI x.2.2] : List Atom)) (fun _ => True) (fun x => [aI (roomG x.1 x.2.1 x.2.2)]))
set_option maxHeartbeats 4000000 in
theorem h25 : holds Try.prog (kRoomG sg25) := by
  refine fn_holds (l := [kRightG sg24, kAdvG sg26]) ⟨h24, h26, trivial⟩ hP rs25 (inj_of (fun l : List Atom => (((⟨vi (l.getD 0 atom0).1, vi (l.getD 1 atom0).1, vi (l.getD 2 atom0).1, vi (l.getD 3 atom0).1, vi (l.getD 4 atom0).1, vb (l.getD 5 atom0).1⟩ : Pol), (⟨vi (l.getD 6 atom0).1, vi (l.getD 7 atom0).1, vi (l.getD 8 atom0).1, (⟨va (l.getD 9 atom0).1, vn (l.getD 9 atom0).1, vc (l.getD 9 atom0).1, (l.getD 9 atom0).2⟩ : Sl)⟩ : Stt), vi (l.getD 10 atom0).1) : Pol × Stt × Int)) (fun _ => rfl)) Try.func25 (by kernel_rfl) (c := code Try.f25) (by kernel_rfl) (an := an25) (by kernel_rfl) (pk := pk25) rfl (t := t25) (by kernel_rfl) ?_
  rintro ⟨p, s, n⟩ hpre
  refine ⟨by simp [pk25, KindsOk, encPS, encPSn, encPSnc, encPSA, encPn, encSS, encI, Pol.enc, Stt.enc, Ac.enc, Sl.atom, Sl.nil, Stt.zero, RK.ok], ?_⟩
  unfold t25
  refine call_fun ((p, s)) rfl (by simp only [vd1, vd2, vd3, vd4, vd5, vd6, reduceCtorEq, Option.some.injEq, vb_ite, vi_ite, List.getD_cons_zero, List.getD_cons_succ, advG, newG, doN]) trivial ?_
  refine br_wp (fun c1 => ?_) (fun c1 => ?_)
  · have hr : rightG p s := by simp only [vd1, vd2, vd3, vd4, vd5, vd6, reduceCtorEq, Option.some.injEq, vb_ite, vi_ite, List.getD_cons_zero, List.getD_cons_succ, advG, newG, doN] at c1; exact c1
    obtain ⟨b1, b2, b3, b4, w1, w2⟩ := rightG_bd hr
    have bd := avG_bd n hr
    have hp : 1 ≤ p.p := hr.1.2.2.2.2.2.2.1
    refine call_fun ((p, s, n)) rfl (by simp only [vd1, vd2, vd3, vd4, vd5, vd6, reduceCtorEq, Option.some.injEq, vb_ite, vi_ite, List.getD_cons_zero, List.getD_cons_succ, advG, newG, doN, w2]) trivial ?_
    refine need_wp ?_ ?_
    · ((try simp only [vd1, vd2, vd3, vd4, vd5, vd6, reduceCtorEq, Option.some.injEq, vb_ite, vi_ite, List.getD_cons_zero, List.getD_cons_succ, advG, newG, doN, w2] at *) <;> grind (splits := 40) [roomG, advV, quo_id, wrap_id])
    refine ret_wp ?_
    ((try simp only [vd1, vd2, vd3, vd4, vd5, vd6, reduceCtorEq, Option.some.injEq, vb_ite, vi_ite, List.getD_cons_zero, List.getD_cons_succ, advG, newG, doN, w2] at *) <;> grind (splits := 40) [roomG, advV, quo_id, wrap_id])
  · refine ret_wp ?_
    ((try simp only [vd1, vd2, vd3, vd4, vd5, vd6, reduceCtorEq, Option.some.injEq, vb_ite, vi_ite, List.getD_cons_zero, List.getD_cons_succ, advG, newG, doN] at *) <;> grind (splits := 40) [roomG, advV, quo_id, wrap_id])
theorem lst_is {p : Pol} {n : Int} (h : okG p) : (if dvO 1 (max n 0) p.l then cdv (ml 1 (max n 0)) p.l else 0) = lst p n := by
  have hl : 1 ≤ p.l := h.2.2.1
  have hd : dvO 1 (max n 0) p.l := ⟨by omega, by omega, by omega⟩
  rw [if_pos hd]
  have e : ml 1 (max n 0) = max n 0 := by unfold ml; omega
  rw [e]
  unfold lst
  split
  · rename_i h0
    have e2 : max n 0 = 0 := by omega
    rw [e2]
    simp [cdv, dv, md]
  · rename_i h0
    have e2 : max n 0 = n := by omega
    rw [e2]
def kLasts (sg : Sig) : Sig × Con := (sg, mkFun (fun x : Pol × Int => ([aI x.1.k, aI x.1.l, aI x.1.p, aI x.1.b, aI x.1.c, aB x.1.o, aI x.2] : List Atom)) (fun x => okG x.1 ∧ x.2 ≤ 1152921504606846976) (fun x => [aI (lst x.1 x.2)]))
set_option maxHeartbeats 4000000 in
theorem h52 : holds Try.prog (kLasts sg52) := by
  refine fn_holds (l := [kWhole sg67]) ⟨h67, trivial⟩ hP rs52 (inj_of (fun l : List Atom => (((⟨vi (l.getD 0 atom0).1, vi (l.getD 1 atom0).1, vi (l.getD 2 atom0).1, vi (l.getD 3 atom0).1, vi (l.getD 4 atom0).1, vb (l.getD 5 atom0).1⟩ : Pol), vi (l.getD 6 atom0).1) : Pol × Int)) (fun _ => rfl)) Try.func52 (by kernel_rfl) (c := code Try.f52) (by kernel_rfl) (an := an52) (by kernel_rfl) (pk := pk52) rfl (t := t52) (by kernel_rfl) ?_
  rintro ⟨p, n⟩ ⟨u1, u2⟩
  refine ⟨by simp [pk52, KindsOk, encPS, encPSn, encPSnc, encPSA, encPn, encSS, encI, Pol.enc, Stt.enc, Ac.enc, Sl.atom, Sl.nil, Stt.zero, RK.ok], ?_⟩
  unfold t52
  simp only at u1 u2
  have u3 := u1
  unfold okG at u3
  refine call_fun ((1, (max n 0), p.l)) rfl (by simp only [vd1, vd2, vd3, vd4, vd5, vd6, reduceCtorEq, Option.some.injEq, vb_ite, vi_ite, List.getD_cons_zero, List.getD_cons_succ]) (by refine ⟨⟨⟨?_, ?_⟩, ⟨?_, ?_⟩, ?_, ?_⟩, fun _ => ?_⟩ <;> simp only [ml] <;> omega) ?_
  refine ret_wp ?_
  ((simp only [vd1, vd2, vd3, vd4, vd5, vd6, reduceCtorEq, Option.some.injEq, vb_ite, vi_ite, List.getD_cons_zero, List.getD_cons_succ] at *) <;> exact lst_is u1)
def kUntG (sg : Sig) : Sig × Con := (sg, mkFun (fun x : Pol × Stt × Int => ([aI x.1.k, aI x.1.l, aI x.1.p, aI x.1.b, aI x.1.c, aB x.1.o, aI x.2.1.t, aI x.2.1.v, aI x.2.1.h, Sl.atom x.2.1.g, aI x.2.2] : List Atom)) (fun _ => True) (fun x => [aI (untG x.1 x.2.1 x.2.2)]))
set_option maxHeartbeats 4000000 in
theorem h23 : holds Try.prog (kUntG sg23) := by
  refine fn_holds (l := [kRightG sg24, kAdvG sg26, kLasts sg52]) ⟨h24, h26, h52, trivial⟩ hP rs23 (inj_of (fun l : List Atom => (((⟨vi (l.getD 0 atom0).1, vi (l.getD 1 atom0).1, vi (l.getD 2 atom0).1, vi (l.getD 3 atom0).1, vi (l.getD 4 atom0).1, vb (l.getD 5 atom0).1⟩ : Pol), (⟨vi (l.getD 6 atom0).1, vi (l.getD 7 atom0).1, vi (l.getD 8 atom0).1, (⟨va (l.getD 9 atom0).1, vn (l.getD 9 atom0).1, vc (l.getD 9 atom0).1, (l.getD 9 atom0).2⟩ : Sl)⟩ : Stt), vi (l.getD 10 atom0).1) : Pol × Stt × Int)) (fun _ => rfl)) Try.func23 (by kernel_rfl) (c := code Try.f23) (by kernel_rfl) (an := an23) (by kernel_rfl) (pk := pk23) rfl (t := t23) (by kernel_rfl) ?_
  rintro ⟨p, s, n⟩ hpre
  refine ⟨by simp [pk23, KindsOk, encPS, encPSn, encPSnc, encPSA, encPn, encSS, encI, Pol.enc, Stt.enc, Ac.enc, Sl.atom, Sl.nil, Stt.zero, RK.ok], ?_⟩
  unfold t23
  refine call_fun ((p, s)) rfl (by simp only [vd1, vd2, vd3, vd4, vd5, vd6, reduceCtorEq, Option.some.injEq, vb_ite, vi_ite, List.getD_cons_zero, List.getD_cons_succ, advG, newG, doN]) trivial ?_
  refine br_wp (fun c1 => ?_) (fun c1 => ?_)
  · have hr : rightG p s := by simp only [vd1, vd2, vd3, vd4, vd5, vd6, reduceCtorEq, Option.some.injEq, vb_ite, vi_ite, List.getD_cons_zero, List.getD_cons_succ, advG, newG, doN] at c1; exact c1
    obtain ⟨b1, b2, b3, b4, w1, w2⟩ := rightG_bd hr
    have bd := avG_bd n hr
    have av : advV p s n = avG p s n := by unfold advV; rw [if_pos hr]
    refine br_wp (fun c2 => ?_) (fun c2 => ?_)
    · refine ret_wp ?_
      ((try simp only [vd1, vd2, vd3, vd4, vd5, vd6, reduceCtorEq, Option.some.injEq, vb_ite, vi_ite, List.getD_cons_zero, List.getD_cons_succ, advG, newG, doN] at *) <;> grind (splits := 40) [untG, advV])
    · refine call_fun ((p, s, n)) rfl (by simp only [vd1, vd2, vd3, vd4, vd5, vd6, reduceCtorEq, Option.some.injEq, vb_ite, vi_ite, List.getD_cons_zero, List.getD_cons_succ, advG, newG, doN]) trivial ?_
      refine call_fun ((p, (advG p s n).v)) rfl (by simp only [vd1, vd2, vd3, vd4, vd5, vd6, reduceCtorEq, Option.some.injEq, vb_ite, vi_ite, List.getD_cons_zero, List.getD_cons_succ, advG, newG, doN]) (by refine ⟨hr.1, ?_⟩; show advV p s n ≤ _; rw [av]; omega) ?_
      refine ret_wp ?_
      ((try simp only [vd1, vd2, vd3, vd4, vd5, vd6, reduceCtorEq, Option.some.injEq, vb_ite, vi_ite, List.getD_cons_zero, List.getD_cons_succ, advG, newG, doN] at *) <;> grind (splits := 40) [untG, advV])
  · refine ret_wp ?_
    ((try simp only [vd1, vd2, vd3, vd4, vd5, vd6, reduceCtorEq, Option.some.injEq, vb_ite, vi_ite, List.getD_cons_zero, List.getD_cons_succ, advG, newG, doN] at *) <;> grind (splits := 40) [untG, advV])
def kRetG (sg : Sig) : Sig × Con := (sg, mkFun (fun x : Pol × Stt × Int × Int => ([aI x.1.k, aI x.1.l, aI x.1.p, aI x.1.b, aI x.1.c, aB x.1.o, aI x.2.1.t, aI x.2.1.v, aI x.2.1.h, Sl.atom x.2.1.g, aI x.2.2.1, aI x.2.2.2] : List Atom)) (fun _ => True) (fun x => [aI (retG x.1 x.2.1 x.2.2.1 x.2.2.2), aB (decide (mayC x.1 x.2.1 x.2.2.2))]))
set_option maxHeartbeats 4000000 in
theorem h22 : holds Try.prog (kRetG sg22) := by
  refine fn_holds (l := [kRightG sg24, kIn sg51, kAdvG sg26, kLasts sg52]) ⟨h24, h51, h26, h52, trivial⟩ hP rs22 (inj_of (fun l : List Atom => (((⟨vi (l.getD 0 atom0).1, vi (l.getD 1 atom0).1, vi (l.getD 2 atom0).1, vi (l.getD 3 atom0).1, vi (l.getD 4 atom0).1, vb (l.getD 5 atom0).1⟩ : Pol), (⟨vi (l.getD 6 atom0).1, vi (l.getD 7 atom0).1, vi (l.getD 8 atom0).1, (⟨va (l.getD 9 atom0).1, vn (l.getD 9 atom0).1, vc (l.getD 9 atom0).1, (l.getD 9 atom0).2⟩ : Sl)⟩ : Stt), vi (l.getD 10 atom0).1, vi (l.getD 11 atom0).1) : Pol × Stt × Int × Int)) (fun _ => rfl)) Try.func22 (by kernel_rfl) (c := code Try.f22) (by kernel_rfl) (an := an22) (by kernel_rfl) (pk := pk22) rfl (t := t22) (by kernel_rfl) ?_
  rintro ⟨p, s, n, c⟩ hpre
  refine ⟨by simp [pk22, KindsOk, encPS, encPSn, encPSnc, encPSA, encPn, encSS, encI, Pol.enc, Stt.enc, Ac.enc, Sl.atom, Sl.nil, Stt.zero, RK.ok], ?_⟩
  unfold t22
  refine call_fun ((p, s)) rfl (by simp only [vd1, vd2, vd3, vd4, vd5, vd6, reduceCtorEq, Option.some.injEq, vb_ite, vi_ite, List.getD_cons_zero, List.getD_cons_succ, advG, newG, doN]) trivial ?_
  refine br_wp (fun c1 => ?_) (fun c1 => ?_)
  · have hr : rightG p s := by simp only [vd1, vd2, vd3, vd4, vd5, vd6, reduceCtorEq, Option.some.injEq, vb_ite, vi_ite, List.getD_cons_zero, List.getD_cons_succ, advG, newG, doN] at c1; exact c1
    obtain ⟨b1, b2, b3, b4, w1, w2⟩ := rightG_bd hr
    have bd := avG_bd n hr
    have av : advV p s n = avG p s n := by unfold advV; rw [if_pos hr]
    have hr2 := hr
    unfold rightG okG at hr2
    have w3 : IntKind.i64.wrap (p.b - s.h) = p.b - s.h := wrap_id _ (by omega) (by omega)
    refine call_fun ((c, 1, (p.b - s.h))) rfl (by simp only [vd1, vd2, vd3, vd4, vd5, vd6, reduceCtorEq, Option.some.injEq, vb_ite, vi_ite, List.getD_cons_zero, List.getD_cons_succ, advG, newG, doN, w3]) trivial ?_
    refine br_wp (fun c2 => ?_) (fun c2 => ?_)
    · have hc : 1 ≤ c ∧ c ≤ p.b - s.h := by simp only [vd1, vd2, vd3, vd4, vd5, vd6, reduceCtorEq, Option.some.injEq, vb_ite, vi_ite, List.getD_cons_zero, List.getD_cons_succ, advG, newG, doN, w3] at c2; exact c2
      have w4 : IntKind.i64.wrap (p.b - c) = p.b - c := wrap_id _ (by omega) (by omega)
      obtain ⟨w5, d1, d2⟩ := mul_fit (x := p.b - c) (y := p.p) (by omega) (by omega) (by omega) (by omega)
      have w6 : IntKind.i64.wrap (advV p s n - ml (p.b - c) p.p) = avG p s n - ml (p.b - c) p.p := by rw [av]; exact wrap_id _ (by omega) (by omega)
      refine call_fun ((p, s, n)) rfl (by simp only [vd1, vd2, vd3, vd4, vd5, vd6, reduceCtorEq, Option.some.injEq, vb_ite, vi_ite, List.getD_cons_zero, List.getD_cons_succ, advG, newG, doN, w3, w4, w5, w6]) trivial ?_
      refine call_fun ((p, (avG p s n - ml (p.b - c) p.p))) rfl (by simp only [vd1, vd2, vd3, vd4, vd5, vd6, reduceCtorEq, Option.some.injEq, vb_ite, vi_ite, List.getD_cons_zero, List.getD_cons_succ, advG, newG, doN, w3, w4, w5, w6]) (by refine ⟨hr.1, ?_⟩; simp only; omega) ?_
      refine ret_wp ?_
      ((try simp only [vd1, vd2, vd3, vd4, vd5, vd6, reduceCtorEq, Option.some.injEq, vb_ite, vi_ite, List.getD_cons_zero, List.getD_cons_succ, advG, newG, doN, w3, w4, w5, w6] at *) <;> grind (splits := 40) [retG, mayC, advV])
    · refine ret_wp ?_
      ((try simp only [vd1, vd2, vd3, vd4, vd5, vd6, reduceCtorEq, Option.some.injEq, vb_ite, vi_ite, List.getD_cons_zero, List.getD_cons_succ, advG, newG, doN, w3] at *) <;> grind (splits := 40) [retG, mayC, advV])
  · refine ret_wp ?_
    ((try simp only [vd1, vd2, vd3, vd4, vd5, vd6, reduceCtorEq, Option.some.injEq, vb_ite, vi_ite, List.getD_cons_zero, List.getD_cons_succ, advG, newG, doN] at *) <;> grind (splits := 40) [retG, mayC, advV])
def kDoG (sg : Sig) : Sig × Con := (sg, mkFun (fun x : Pol × Stt × Ac => ([aI x.1.k, aI x.1.l, aI x.1.p, aI x.1.b, aI x.1.c, aB x.1.o, aI x.2.1.t, aI x.2.1.v, aI x.2.1.h, Sl.atom x.2.1.g, aI x.2.2.k, aI x.2.2.t, aI x.2.2.c] : List Atom)) (fun _ => True) (fun x => (doN x.1 x.2.1 x.2.2).enc ++ [aB (decide (didG x.1 x.2.1 x.2.2))]))
set_option maxHeartbeats 4000000 in
theorem h20 : holds Try.prog (kDoG sg20) := by
  refine fn_holds (l := [kRightG sg24, kIn sg51, kAdvG sg26]) ⟨h24, h51, h26, trivial⟩ hP rs20 (inj_of (fun l : List Atom => (((⟨vi (l.getD 0 atom0).1, vi (l.getD 1 atom0).1, vi (l.getD 2 atom0).1, vi (l.getD 3 atom0).1, vi (l.getD 4 atom0).1, vb (l.getD 5 atom0).1⟩ : Pol), (⟨vi (l.getD 6 atom0).1, vi (l.getD 7 atom0).1, vi (l.getD 8 atom0).1, (⟨va (l.getD 9 atom0).1, vn (l.getD 9 atom0).1, vc (l.getD 9 atom0).1, (l.getD 9 atom0).2⟩ : Sl)⟩ : Stt), (⟨vi (l.getD 10 atom0).1, vi (l.getD 11 atom0).1, vi (l.getD 12 atom0).1⟩ : Ac)) : Pol × Stt × Ac)) (fun _ => rfl)) Try.func20 (by kernel_rfl) (c := code Try.f20) (by kernel_rfl) (an := an20) (by kernel_rfl) (pk := pk20) rfl (t := t20) (by kernel_rfl) ?_
  rintro ⟨p, s, a⟩ hpre
  refine ⟨by simp [pk20, KindsOk, encPS, encPSn, encPSnc, encPSA, encPn, encSS, encI, Pol.enc, Stt.enc, Ac.enc, Sl.atom, Sl.nil, Stt.zero, RK.ok], ?_⟩
  unfold t20
  refine call_fun ((p, s)) rfl (by simp only [vd1, vd2, vd3, vd4, vd5, vd6, reduceCtorEq, Option.some.injEq, vb_ite, vi_ite, List.getD_cons_zero, List.getD_cons_succ, advG, newG, doN]) trivial ?_
  refine br_wp (fun c1 => ?_) (fun c1 => ?_)
  · have hr : rightG p s := by simp only [vd1, vd2, vd3, vd4, vd5, vd6, reduceCtorEq, Option.some.injEq, vb_ite, vi_ite, List.getD_cons_zero, List.getD_cons_succ, advG, newG, doN] at c1; exact c1
    obtain ⟨b1, b2, b3, b4, w1, w2⟩ := rightG_bd hr
    have bd := avG_bd a.t hr
    have hr2 : 0 ≤ s.h ∧ s.h ≤ p.b ∧ 1 ≤ p.p ∧ p.p ≤ 1099511627776 ∧ p.b ≤ 1048576 := ⟨hr.2.2.2.1, hr.2.2.2.2.1, hr.1.2.2.2.2.2.2.1, hr.1.2.2.2.2.2.2.2, hr.1.2.2.2.2.2.1⟩
    refine call_fun ((a.c, 1, p.b)) rfl (by simp only [vd1, vd2, vd3, vd4, vd5, vd6, reduceCtorEq, Option.some.injEq, vb_ite, vi_ite, List.getD_cons_zero, List.getD_cons_succ, advG, newG, doN]) trivial ?_
    refine br_wp (fun c2 => ?_) (fun c2 => ?_)
    · have hc : 1 ≤ a.c ∧ a.c ≤ p.b := by simp only [vd1, vd2, vd3, vd4, vd5, vd6, reduceCtorEq, Option.some.injEq, vb_ite, vi_ite, List.getD_cons_zero, List.getD_cons_succ, advG, newG, doN] at c2; exact c2
      obtain ⟨w3, d1, d2⟩ := mul_fit (x := a.c) (y := p.p) (by omega) (by omega) (by omega) (by omega)
      refine call_fun ((p, s, a.t)) rfl (by simp only [vd1, vd2, vd3, vd4, vd5, vd6, reduceCtorEq, Option.some.injEq, vb_ite, vi_ite, List.getD_cons_zero, List.getD_cons_succ, advG, newG, doN, w2, w3]) trivial ?_
      refine br_wp (fun c3 => ?_) (fun c3 => ?_)
      · refine br_wp (fun c4 => ?_) (fun c4 => ?_)
        · refine need_wp ?_ ?_
          · exact ⟨_, _, _, rfl⟩
          refine ret_wp ?_
          ((try simp only [vd1, vd2, vd3, vd4, vd5, vd6, reduceCtorEq, Option.some.injEq, vb_ite, vi_ite, List.getD_cons_zero, List.getD_cons_succ, advG, newG, doN, w2, w3] at *) <;> grind (splits := 40) [doT, doV, doH, doG, didG, advT, advV, advH, wrap_id, Sl.nil])
        · refine br_wp (fun c5 => ?_) (fun c5 => ?_)
          · refine need_wp ?_ ?_
            · exact ⟨_, _, _, rfl⟩
            refine ret_wp ?_
            ((try simp only [vd1, vd2, vd3, vd4, vd5, vd6, reduceCtorEq, Option.some.injEq, vb_ite, vi_ite, List.getD_cons_zero, List.getD_cons_succ, advG, newG, doN, w2, w3] at *) <;> grind (splits := 40) [doT, doV, doH, doG, didG, advT, advV, advH, wrap_id, Sl.nil])
          · refine need_wp ?_ ?_
            · exact ⟨_, _, _, rfl⟩
            refine ret_wp ?_
            ((try simp only [vd1, vd2, vd3, vd4, vd5, vd6, reduceCtorEq, Option.some.injEq, vb_ite, vi_ite, List.getD_cons_zero, List.getD_cons_succ, advG, newG, doN, w2, w3] at *) <;> grind (splits := 40) [doT, doV, doH, doG, didG, advT, advV, advH, wrap_id, Sl.nil])
      · refine br_wp (fun c6 => ?_) (fun c6 => ?_)
        · refine br_wp (fun c7 => ?_) (fun c7 => ?_)
          · refine need_wp ?_ ?_
            · exact ⟨_, _, _, rfl⟩
            refine ret_wp ?_
            ((try simp only [vd1, vd2, vd3, vd4, vd5, vd6, reduceCtorEq, Option.some.injEq, vb_ite, vi_ite, List.getD_cons_zero, List.getD_cons_succ, advG, newG, doN, w2, w3] at *) <;> grind (splits := 40) [doT, doV, doH, doG, didG, advT, advV, advH, wrap_id, Sl.nil])
          · refine br_wp (fun c8 => ?_) (fun c8 => ?_)
            · refine need_wp ?_ ?_
              · exact ⟨_, _, _, rfl⟩
              refine ret_wp ?_
              ((try simp only [vd1, vd2, vd3, vd4, vd5, vd6, reduceCtorEq, Option.some.injEq, vb_ite, vi_ite, List.getD_cons_zero, List.getD_cons_succ, advG, newG, doN, w2, w3] at *) <;> grind (splits := 40) [doT, doV, doH, doG, didG, advT, advV, advH, wrap_id, Sl.nil])
            · refine need_wp ?_ ?_
              · exact ⟨_, _, _, rfl⟩
              refine ret_wp ?_
              ((try simp only [vd1, vd2, vd3, vd4, vd5, vd6, reduceCtorEq, Option.some.injEq, vb_ite, vi_ite, List.getD_cons_zero, List.getD_cons_succ, advG, newG, doN, w2, w3] at *) <;> grind (splits := 40) [doT, doV, doH, doG, didG, advT, advV, advH, wrap_id, Sl.nil])
        · refine br_wp (fun c9 => ?_) (fun c9 => ?_)
          · refine br_wp (fun c10 => ?_) (fun c10 => ?_)
            · refine need_wp ?_ ?_
              · exact ⟨_, _, _, rfl⟩
              refine ret_wp ?_
              ((try simp only [vd1, vd2, vd3, vd4, vd5, vd6, reduceCtorEq, Option.some.injEq, vb_ite, vi_ite, List.getD_cons_zero, List.getD_cons_succ, advG, newG, doN, w2, w3] at *) <;> grind (splits := 40) [doT, doV, doH, doG, didG, advT, advV, advH, wrap_id, Sl.nil])
            · refine br_wp (fun c11 => ?_) (fun c11 => ?_)
              · refine need_wp ?_ ?_
                · exact ⟨_, _, _, rfl⟩
                refine ret_wp ?_
                ((try simp only [vd1, vd2, vd3, vd4, vd5, vd6, reduceCtorEq, Option.some.injEq, vb_ite, vi_ite, List.getD_cons_zero, List.getD_cons_succ, advG, newG, doN, w2, w3] at *) <;> grind (splits := 40) [doT, doV, doH, doG, didG, advT, advV, advH, wrap_id, Sl.nil])
              · refine need_wp ?_ ?_
                · exact ⟨_, _, _, rfl⟩
                refine ret_wp ?_
                ((try simp only [vd1, vd2, vd3, vd4, vd5, vd6, reduceCtorEq, Option.some.injEq, vb_ite, vi_ite, List.getD_cons_zero, List.getD_cons_succ, advG, newG, doN, w2, w3] at *) <;> grind (splits := 40) [doT, doV, doH, doG, didG, advT, advV, advH, wrap_id, Sl.nil])
          · refine br_wp (fun c12 => ?_) (fun c12 => ?_)
            · refine br_wp (fun c13 => ?_) (fun c13 => ?_)
              · refine need_wp ?_ ?_
                · exact ⟨_, _, _, rfl⟩
                refine ret_wp ?_
                ((try simp only [vd1, vd2, vd3, vd4, vd5, vd6, reduceCtorEq, Option.some.injEq, vb_ite, vi_ite, List.getD_cons_zero, List.getD_cons_succ, advG, newG, doN, w2, w3] at *) <;> grind (splits := 40) [doT, doV, doH, doG, didG, advT, advV, advH, wrap_id, Sl.nil])
              · refine br_wp (fun c14 => ?_) (fun c14 => ?_)
                · refine need_wp ?_ ?_
                  · exact ⟨_, _, _, rfl⟩
                  refine ret_wp ?_
                  ((try simp only [vd1, vd2, vd3, vd4, vd5, vd6, reduceCtorEq, Option.some.injEq, vb_ite, vi_ite, List.getD_cons_zero, List.getD_cons_succ, advG, newG, doN, w2, w3] at *) <;> grind (splits := 40) [doT, doV, doH, doG, didG, advT, advV, advH, wrap_id, Sl.nil])
                · refine need_wp ?_ ?_
                  · exact ⟨_, _, _, rfl⟩
                  refine ret_wp ?_
                  ((try simp only [vd1, vd2, vd3, vd4, vd5, vd6, reduceCtorEq, Option.some.injEq, vb_ite, vi_ite, List.getD_cons_zero, List.getD_cons_succ, advG, newG, doN, w2, w3] at *) <;> grind (splits := 40) [doT, doV, doH, doG, didG, advT, advV, advH, wrap_id, Sl.nil])
            · refine need_wp ?_ ?_
              · exact ⟨_, _, _, rfl⟩
              refine ret_wp ?_
              ((try simp only [vd1, vd2, vd3, vd4, vd5, vd6, reduceCtorEq, Option.some.injEq, vb_ite, vi_ite, List.getD_cons_zero, List.getD_cons_succ, advG, newG, doN, w2, w3] at *) <;> grind (splits := 40) [doT, doV, doH, doG, didG, advT, advV, advH, wrap_id, Sl.nil])
    · refine need_wp ?_ ?_
      · exact ⟨_, _, _, rfl⟩
      refine ret_wp ?_
      ((try simp only [vd1, vd2, vd3, vd4, vd5, vd6, reduceCtorEq, Option.some.injEq, vb_ite, vi_ite, List.getD_cons_zero, List.getD_cons_succ, advG, newG, doN] at *) <;> grind (splits := 40) [doT, doV, doH, doG, didG, advT, advV, advH, wrap_id, Sl.nil])
  · refine need_wp ?_ ?_
    · exact ⟨_, _, _, rfl⟩
    refine ret_wp ?_
    ((try simp only [vd1, vd2, vd3, vd4, vd5, vd6, reduceCtorEq, Option.some.injEq, vb_ite, vi_ite, List.getD_cons_zero, List.getD_cons_succ, advG, newG, doN] at *) <;> grind (splits := 40) [doT, doV, doH, doG, didG, advT, advV, advH, wrap_id, Sl.nil])
end Go.Proofs.YtjmenmnjkfnhgaaK
