import Derived.Test.YtjmenmnjkfnhgaaVR4r
import Derived.Test.YtjmenmnjkfnhgaaVR4tm
set_option linter.unusedSimpArgs false
set_option linter.unusedVariables false
namespace Go.Proofs.YtjmenmnjkfnhgaaK
open Go Go.Proofs.YtjmenmnjkfnhgaaV Go.Proofs
def newB (p : Pol) (n : Int) : Stt := ⟨if okB p then clamp n else 0, if okB p then ml p.b p.p else 0, 0, Sl.nil⟩
def rightB (p : Pol) (s : Stt) : Prop := okB p ∧ 0 ≤ s.t ∧ s.t ≤ 9007199254740992 ∧ 0 ≤ s.h ∧ s.h ≤ p.b ∧ 0 ≤ s.v ∧ s.v ≤ ml (p.b - s.h) p.p ∧ s.g.n = 0
instance (p : Pol) (s : Stt) : Decidable (rightB p s) := by unfold rightB; exact inferInstance
def avB (p : Pol) (s : Stt) (n : Int) : Int := min (ml (p.b - s.h) p.p) (s.v + ml (ltr s n - s.t) p.l)
def advBT (p : Pol) (s : Stt) (n : Int) : Int := if rightB p s then ltr s n else 0
def advBV (p : Pol) (s : Stt) (n : Int) : Int := if rightB p s then avB p s n else 0
def advBH (p : Pol) (s : Stt) : Int := if rightB p s then s.h else 0
def advBL (p : Pol) (s : Stt) : Sl := if rightB p s then s.g else Sl.nil
def advBR (p : Pol) (s : Stt) (n : Int) : Stt := ⟨advBT p s n, advBV p s n, advBH p s, advBL p s⟩
def roomB (p : Pol) (s : Stt) (n : Int) : Int := if rightB p s then dv (avB p s n) p.p else 0
def untB (p : Pol) (s : Stt) (n : Int) : Int := if rightB p s ∧ s.h ≤ 0 then lst p (ml p.b p.p - avB p s n) else -1
def mayB (p : Pol) (s : Stt) (c : Int) : Prop := rightB p s ∧ 1 ≤ c ∧ c ≤ p.b - s.h
instance (p : Pol) (s : Stt) (c : Int) : Decidable (mayB p s c) := by unfold mayB; exact inferInstance
def retB (p : Pol) (s : Stt) (n c : Int) : Int := if mayB p s c then lst p (ml c p.p - avB p s n) else 0
def didB (p : Pol) (s : Stt) (a : Ac) : Prop := rightB p s ∧ 1 ≤ a.c ∧ ((a.k = 1 ∨ a.k = 2) ∧ ml a.c p.p ≤ avB p s a.t ∨ (a.k = 3 ∨ a.k = 4) ∧ a.c ≤ s.h)
instance (p : Pol) (s : Stt) (a : Ac) : Decidable (didB p s a) := by unfold didB; exact inferInstance
def doBT (p : Pol) (s : Stt) (a : Ac) : Int := if didB p s a then ltr s a.t else if rightB p s then s.t else 0
def doBV (p : Pol) (s : Stt) (a : Ac) : Int := if didB p s a then avB p s a.t + (if a.k = 1 ∨ a.k = 2 then -ml a.c p.p else if a.k = 3 then ml a.c p.p else 0) else if rightB p s then s.v else 0
def doBH (p : Pol) (s : Stt) (a : Ac) : Int := if didB p s a then s.h + (if a.k = 2 then a.c else if a.k = 1 then 0 else -a.c) else if rightB p s then s.h else 0
def doBL (p : Pol) (s : Stt) (a : Ac) : Sl := if rightB p s then s.g else Sl.nil
def doBR (p : Pol) (s : Stt) (a : Ac) : Stt := ⟨doBT p s a, doBV p s a, doBH p s a, doBL p s a⟩
theorem rightB_bd {p : Pol} {s : Stt} (h : rightB p s) : 0 ≤ ml (p.b - s.h) p.p ∧ ml (p.b - s.h) p.p ≤ 1152921504606846976 ∧ 0 ≤ ml p.b p.p ∧ ml p.b p.p ≤ 1152921504606846976 ∧ IntKind.i64.wrap (p.b - s.h) = p.b - s.h ∧ IntKind.i64.wrap ((p.b - s.h) * p.p) = ml (p.b - s.h) p.p ∧ IntKind.i64.wrap (p.b * p.p) = ml p.b p.p ∧ ml (p.b - s.h) p.p ≤ ml p.b p.p := by
  obtain ⟨⟨_, _, _, h1, h2, h3, h4, _⟩, _, _, h5, h6, _⟩ := h
  obtain ⟨a1, a2, a3⟩ := mul_fit (x := p.b - s.h) (y := p.p) (by omega) (by omega) (by omega) h4
  obtain ⟨b1, b2, b3⟩ := mul_fit (x := p.b) (by omega) h2 (by omega) h4
  exact ⟨a2, a3, b2, b3, wrap_id _ (by omega) (by omega), a1, b1, ml_mono (by omega) (by omega)⟩
theorem avB_bd {p : Pol} {s : Stt} (n : Int) (h : rightB p s) : s.v ≤ avB p s n ∧ avB p s n ≤ ml (p.b - s.h) p.p ∧ 0 ≤ avB p s n := by
  have h1 := ltr_ge s n
  have h2 : 0 ≤ ml (ltr s n - s.t) p.l := Int.mul_nonneg (by omega) (by have := h.1.2.1; omega)
  have h3 := h.2.2.2.2.2.1
  have h4 := h.2.2.2.2.2.2.1
  unfold avB; omega
theorem roomB_iff {p : Pol} {s : Stt} (n c : Int) (h : rightB p s) : c ≤ roomB p s n ↔ ml c p.p ≤ avB p s n := by
  have hp : 1 ≤ p.p := h.1.2.2.2.2.2.1
  unfold roomB dv
  rw [if_pos h, Int.le_ediv_iff_mul_le (by omega)]
  unfold ml; exact Iff.rfl
theorem ml_leq {x y p : Int} (hp : 1 ≤ p) (h : ml x p ≤ ml y p) : x ≤ y := Int.le_of_mul_le_mul_right h (by omega)
theorem lst_up {n l : Int} (hn : 0 < n) (hl : 1 ≤ l) : (n + l - 1) / l = cdv n l := by
  have e := Int.emod_add_mul_ediv n l
  have e1 := Int.emod_nonneg n (show l ≠ 0 by omega)
  have e2 := Int.emod_lt_of_pos n (show 0 < l by omega)
  unfold cdv dv md
  by_cases h : 0 < n % l
  · rw [if_pos h, show n + l - 1 = (n % l - 1) + l * (n / l + 1) by rw [Int.mul_add]; omega, Int.add_mul_ediv_left _ _ (by omega), Int.ediv_eq_zero_of_lt (by omega) (by omega)]; omega
  · rw [if_neg h, show n + l - 1 = (l - 1) + l * (n / l) by omega, Int.add_mul_ediv_left _ _ (by omega), Int.ediv_eq_zero_of_lt (by omega) (by omega)]; omega
theorem dv_floor (a p : Int) (hp : 1 ≤ p) : dv (a - md a p) p = dv a p := by
  have e := Int.emod_add_mul_ediv a p
  unfold dv md
  rw [show a - a % p = p * (a / p) by omega, Int.mul_ediv_cancel_left _ (by omega)]
def kNewB (sg : Sig) : Sig × Con := (sg, mkFun (fun x : Pol × Int => ([aI x.1.k, aI x.1.l, aI x.1.p, aI x.1.b, aI x.1.c, aB x.1.o, aI x.2] : List Atom)) (fun _ => True) (fun x => (newB x.1 x.2).enc))
set_option maxHeartbeats 4000000 in
theorem h37 : holds Try.prog (kNewB sg37) := by
  refine fn_holds (l := [kChk4 sg47, kClamp sg56]) ⟨h47, h56, trivial⟩ hP rs37 (inj_of (fun l : List Atom => (((⟨vi (l.getD 0 atom0).1, vi (l.getD 1 atom0).1, vi (l.getD 2 atom0).1, vi (l.getD 3 atom0).1, vi (l.getD 4 atom0).1, vb (l.getD 5 atom0).1⟩ : Pol), vi (l.getD 6 atom0).1) : Pol × Int)) (fun _ => rfl)) Try.func37 (by kernel_rfl) (c := code Try.f37) (by kernel_rfl) (an := an37) (by kernel_rfl) (pk := pk37) rfl (t := t37) (by kernel_rfl) ?_
  rintro ⟨p, n⟩ hpre
  refine ⟨by simp [pk37, KindsOk, encPS, encPSn, encPSnc, encPSA, encPn, encSS, encI, Pol.enc, Stt.enc, Ac.enc, Sl.atom, Sl.nil, Stt.zero, RK.ok], ?_⟩
  unfold t37
  refine call_fun (p) rfl (by simp only [vd1, vd2, vd3, vd4, vd5, vd6, reduceCtorEq, Option.some.injEq, vb_ite, vi_ite, List.getD_cons_zero, List.getD_cons_succ, advBR, newB, doBR]) trivial ?_
  refine br_wp (fun c1 => ?_) (fun c1 => ?_)
  · refine need_wp ?_ ?_
    · exact ⟨_, _, _, rfl⟩
    refine ret_wp ?_
    ((try simp only [vd1, vd2, vd3, vd4, vd5, vd6, reduceCtorEq, Option.some.injEq, vb_ite, vi_ite, List.getD_cons_zero, List.getD_cons_succ, advBR, newB, doBR] at *) <;> grind (splits := 40) [chk4, Sl.nil])
  · have ok : okB p := by simp only [vd1, vd2, vd3, vd4, vd5, vd6, reduceCtorEq, Option.some.injEq, vb_ite, vi_ite, List.getD_cons_zero, List.getD_cons_succ, advBR, newB, doBR] at c1; unfold chk4 at c1; grind
    have ok2 := ok
    unfold okB at ok2
    have w2 := (mul_fit (x := p.b) (y := p.p) (by omega) (by omega) (by omega) (by omega)).1
    refine call_fun (n) rfl (by simp only [vd1, vd2, vd3, vd4, vd5, vd6, reduceCtorEq, Option.some.injEq, vb_ite, vi_ite, List.getD_cons_zero, List.getD_cons_succ, advBR, newB, doBR, w2]) trivial ?_
    refine need_wp ?_ ?_
    · exact ⟨_, _, _, rfl⟩
    refine ret_wp ?_
    ((try simp only [vd1, vd2, vd3, vd4, vd5, vd6, reduceCtorEq, Option.some.injEq, vb_ite, vi_ite, List.getD_cons_zero, List.getD_cons_succ, advBR, newB, doBR, w2] at *) <;> grind (splits := 40) [chk4, Sl.nil])
def kRightB (sg : Sig) : Sig × Con := (sg, mkFun (fun x : Pol × Stt => ([aI x.1.k, aI x.1.l, aI x.1.p, aI x.1.b, aI x.1.c, aB x.1.o, aI x.2.t, aI x.2.v, aI x.2.h, Sl.atom x.2.g] : List Atom)) (fun _ => True) (fun x => [aB (decide (rightB x.1 x.2))]))
set_option maxHeartbeats 4000000 in
theorem h62 : holds Try.prog (kRightB sg62) := by
  refine fn_holds (l := [kChk4 sg47]) ⟨h47, trivial⟩ hP rs62 (inj_of (fun l : List Atom => (((⟨vi (l.getD 0 atom0).1, vi (l.getD 1 atom0).1, vi (l.getD 2 atom0).1, vi (l.getD 3 atom0).1, vi (l.getD 4 atom0).1, vb (l.getD 5 atom0).1⟩ : Pol), (⟨vi (l.getD 6 atom0).1, vi (l.getD 7 atom0).1, vi (l.getD 8 atom0).1, (⟨va (l.getD 9 atom0).1, vn (l.getD 9 atom0).1, vc (l.getD 9 atom0).1, (l.getD 9 atom0).2⟩ : Sl)⟩ : Stt)) : Pol × Stt)) (fun _ => rfl)) Try.func62 (by kernel_rfl) (c := code Try.f62) (by kernel_rfl) (an := an62) (by kernel_rfl) (pk := pk62) rfl (t := t62) (by kernel_rfl) ?_
  rintro ⟨p, s⟩ hpre
  refine ⟨by simp [pk62, KindsOk, encPS, encPSn, encPSnc, encPSA, encPn, encSS, encI, Pol.enc, Stt.enc, Ac.enc, Sl.atom, Sl.nil, Stt.zero, RK.ok], ?_⟩
  unfold t62
  refine call_fun (p) rfl (by simp only [vd1, vd2, vd3, vd4, vd5, vd6, reduceCtorEq, Option.some.injEq, vb_ite, vi_ite, List.getD_cons_zero, List.getD_cons_succ]) trivial ?_
  refine br_wp (fun c1 => ?_) (fun c1 => ?_)
  · have ok : ¬okB p := by simp only [vd1, vd2, vd3, vd4, vd5, vd6, reduceCtorEq, Option.some.injEq, vb_ite, vi_ite, List.getD_cons_zero, List.getD_cons_succ] at c1; unfold chk4 at c1; grind
    refine ret_wp ?_
    ((try simp only [vd1, vd2, vd3, vd4, vd5, vd6, reduceCtorEq, Option.some.injEq, vb_ite, vi_ite, List.getD_cons_zero, List.getD_cons_succ] at *) <;> grind (splits := 40) [rightB])
  · have ok : okB p := by simp only [vd1, vd2, vd3, vd4, vd5, vd6, reduceCtorEq, Option.some.injEq, vb_ite, vi_ite, List.getD_cons_zero, List.getD_cons_succ] at c1; unfold chk4 at c1; grind
    have ok2 := ok
    unfold okB at ok2
    refine br_wp (fun c2 => ?_) (fun c2 => ?_)
    · refine ret_wp ?_
      ((try simp only [vd1, vd2, vd3, vd4, vd5, vd6, reduceCtorEq, Option.some.injEq, vb_ite, vi_ite, List.getD_cons_zero, List.getD_cons_succ] at *) <;> grind (splits := 40) [rightB])
    · refine br_wp (fun c3 => ?_) (fun c3 => ?_)
      · refine ret_wp ?_
        ((try simp only [vd1, vd2, vd3, vd4, vd5, vd6, reduceCtorEq, Option.some.injEq, vb_ite, vi_ite, List.getD_cons_zero, List.getD_cons_succ] at *) <;> grind (splits := 40) [rightB])
      · refine br_wp (fun c4 => ?_) (fun c4 => ?_)
        · refine ret_wp ?_
          ((try simp only [vd1, vd2, vd3, vd4, vd5, vd6, reduceCtorEq, Option.some.injEq, vb_ite, vi_ite, List.getD_cons_zero, List.getD_cons_succ] at *) <;> grind (splits := 40) [rightB])
        · refine br_wp (fun c5 => ?_) (fun c5 => ?_)
          · refine ret_wp ?_
            ((try simp only [vd1, vd2, vd3, vd4, vd5, vd6, reduceCtorEq, Option.some.injEq, vb_ite, vi_ite, List.getD_cons_zero, List.getD_cons_succ] at *) <;> grind (splits := 40) [rightB])
          · have hh : 0 ≤ s.h ∧ s.h ≤ p.b := by simp only [vd1, vd2, vd3, vd4, vd5, vd6, reduceCtorEq, Option.some.injEq, vb_ite, vi_ite, List.getD_cons_zero, List.getD_cons_succ] at c4 c5; simp at c4 c5; exact ⟨c4, c5⟩
            have w0 : IntKind.i64.wrap (p.b - s.h) = p.b - s.h := wrap_id _ (by omega) (by omega)
            have w1 := (mul_fit (x := p.b - s.h) (y := p.p) (by omega) (by omega) (by omega) (by omega)).1
            refine need_wp ?_ ?_
            · exact ⟨_, _, _, rfl⟩
            refine br_wp (fun c6 => ?_) (fun c6 => ?_)
            · refine ret_wp ?_
              ((try simp only [vd1, vd2, vd3, vd4, vd5, vd6, reduceCtorEq, Option.some.injEq, vb_ite, vi_ite, List.getD_cons_zero, List.getD_cons_succ, w0, w1] at *) <;> grind (splits := 40) [rightB])
            · refine br_wp (fun c7 => ?_) (fun c7 => ?_)
              · refine ret_wp ?_
                ((try simp only [vd1, vd2, vd3, vd4, vd5, vd6, reduceCtorEq, Option.some.injEq, vb_ite, vi_ite, List.getD_cons_zero, List.getD_cons_succ, w0, w1] at *) <;> grind (splits := 40) [rightB])
              · refine ret_wp ?_
                ((try simp only [vd1, vd2, vd3, vd4, vd5, vd6, reduceCtorEq, Option.some.injEq, vb_ite, vi_ite, List.getD_cons_zero, List.getD_cons_succ, w0, w1] at *) <;> grind (splits := 40) [rightB])
def kAdvBR (sg : Sig) : Sig × Con := (sg, mkFun (fun x : Pol × Stt × Int => ([aI x.1.k, aI x.1.l, aI x.1.p, aI x.1.b, aI x.1.c, aB x.1.o, aI x.2.1.t, aI x.2.1.v, aI x.2.1.h, Sl.atom x.2.1.g, aI x.2.2] : List Atom)) (fun _ => True) (fun x => (advBR x.1 x.2.1 x.2.2).enc))
set_option maxHeartbeats 4000000 in
theorem h63 : holds Try.prog (kAdvBR sg63) := by
  refine fn_holds (l := [kRightB sg62, kClamp sg56, kMul sg74]) ⟨h62, h56, h74, trivial⟩ hP rs63 (inj_of (fun l : List Atom => (((⟨vi (l.getD 0 atom0).1, vi (l.getD 1 atom0).1, vi (l.getD 2 atom0).1, vi (l.getD 3 atom0).1, vi (l.getD 4 atom0).1, vb (l.getD 5 atom0).1⟩ : Pol), (⟨vi (l.getD 6 atom0).1, vi (l.getD 7 atom0).1, vi (l.getD 8 atom0).1, (⟨va (l.getD 9 atom0).1, vn (l.getD 9 atom0).1, vc (l.getD 9 atom0).1, (l.getD 9 atom0).2⟩ : Sl)⟩ : Stt), vi (l.getD 10 atom0).1) : Pol × Stt × Int)) (fun _ => rfl)) Try.func63 (by kernel_rfl) (c := code Try.f63) (by kernel_rfl) (an := an63) (by kernel_rfl) (pk := pk63) rfl (t := t63) (by kernel_rfl) ?_
  rintro ⟨p, s, n⟩ hpre
  refine ⟨by simp [pk63, KindsOk, encPS, encPSn, encPSnc, encPSA, encPn, encSS, encI, Pol.enc, Stt.enc, Ac.enc, Sl.atom, Sl.nil, Stt.zero, RK.ok], ?_⟩
  unfold t63
  refine call_fun ((p, s)) rfl (by simp only [vd1, vd2, vd3, vd4, vd5, vd6, reduceCtorEq, Option.some.injEq, vb_ite, vi_ite, List.getD_cons_zero, List.getD_cons_succ, advBR, newB, doBR]) trivial ?_
  refine br_wp (fun c1 => ?_) (fun c1 => ?_)
  · have hr : rightB p s := by simp only [vd1, vd2, vd3, vd4, vd5, vd6, reduceCtorEq, Option.some.injEq, vb_ite, vi_ite, List.getD_cons_zero, List.getD_cons_succ, advBR, newB, doBR] at c1; exact c1
    obtain ⟨b1, b2, b3, b4, w0, w1, w2, b5⟩ := rightB_bd hr
    have hr2 := hr
    unfold rightB okB at hr2
    refine call_fun (n) rfl (by simp only [vd1, vd2, vd3, vd4, vd5, vd6, reduceCtorEq, Option.some.injEq, vb_ite, vi_ite, List.getD_cons_zero, List.getD_cons_succ, advBR, newB, doBR]) trivial ?_
    refine br_wp (fun c2 => ?_) (fun c2 => ?_)
    · have hx : s.t < clamp n := by simp only [vd1, vd2, vd3, vd4, vd5, vd6, reduceCtorEq, Option.some.injEq, vb_ite, vi_ite, List.getD_cons_zero, List.getD_cons_succ, advBR, newB, doBR] at c2; simpa using c2
      have cb := clamp_bd n
      have hl : ltr s n = clamp n := by unfold ltr; omega
      have w3 : IntKind.i64.wrap (clamp n - s.t) = clamp n - s.t := wrap_id _ (by omega) (by omega)
      obtain ⟨d, hd⟩ : ∃ d : Int, d = ml (clamp n - s.t) p.l := ⟨_, rfl⟩
      have hd0 : 0 ≤ d := by rw [hd]; exact Int.mul_nonneg (by omega) (by omega)
      have ha : avB p s n = min (ml (p.b - s.h) p.p) (s.v + d) := by unfold avB; rw [hl, hd]
      have w4 : IntKind.i64.wrap (ml (p.b - s.h) p.p - s.v) = ml (p.b - s.h) p.p - s.v := wrap_id _ (by omega) (by omega)
      have hmv := mulV_cases (clamp n - s.t) p.l
      rw [← hd] at hmv
      have w6 : d ≤ ml (p.b - s.h) p.p - s.v → IntKind.i64.wrap (s.v + d) = s.v + d := fun _ => wrap_id _ (by omega) (by omega)
      have w7 : ¬mulO (clamp n - s.t) p.l → ml (p.b - s.h) p.p < d := fun h => by unfold mulO at h; rw [← hd] at h; omega
      refine call_fun (((clamp n - s.t), p.l)) rfl (by simp only [vd1, vd2, vd3, vd4, vd5, vd6, reduceCtorEq, Option.some.injEq, vb_ite, vi_ite, List.getD_cons_zero, List.getD_cons_succ, advBR, newB, doBR, w0, w1, w3, w4]) (by refine ⟨⟨?_, ?_⟩, ?_, ?_⟩ <;> simp only [] <;> omega) ?_
      refine br_wp (fun c3 => ?_) (fun c3 => ?_)
      · refine br_wp (fun c4 => ?_) (fun c4 => ?_)
        · refine need_wp ?_ ?_
          · exact ⟨_, _, _, rfl⟩
          refine ret_wp ?_
          ((try simp only [vd1, vd2, vd3, vd4, vd5, vd6, reduceCtorEq, Option.some.injEq, vb_ite, vi_ite, List.getD_cons_zero, List.getD_cons_succ, advBR, newB, doBR, w0, w1, w3, w4] at *) <;> grind (splits := 40) [advBT, advBV, advBH, advBL, Sl.nil])
        · refine need_wp ?_ ?_
          · exact ⟨_, _, _, rfl⟩
          refine ret_wp ?_
          ((try simp only [vd1, vd2, vd3, vd4, vd5, vd6, reduceCtorEq, Option.some.injEq, vb_ite, vi_ite, List.getD_cons_zero, List.getD_cons_succ, advBR, newB, doBR, w0, w1, w3, w4] at *) <;> grind (splits := 40) [advBT, advBV, advBH, advBL, Sl.nil])
      · refine need_wp ?_ ?_
        · exact ⟨_, _, _, rfl⟩
        refine ret_wp ?_
        ((try simp only [vd1, vd2, vd3, vd4, vd5, vd6, reduceCtorEq, Option.some.injEq, vb_ite, vi_ite, List.getD_cons_zero, List.getD_cons_succ, advBR, newB, doBR, w0, w1, w3, w4] at *) <;> grind (splits := 40) [advBT, advBV, advBH, advBL, Sl.nil])
    · have hx : clamp n ≤ s.t := by simp only [vd1, vd2, vd3, vd4, vd5, vd6, reduceCtorEq, Option.some.injEq, vb_ite, vi_ite, List.getD_cons_zero, List.getD_cons_succ, advBR, newB, doBR] at c2; simpa using c2
      have hl : ltr s n = s.t := by unfold ltr; omega
      have ha : avB p s n = s.v := by unfold avB; rw [hl, Int.sub_self]; have : ml 0 p.l = 0 := Int.zero_mul _; omega
      refine need_wp ?_ ?_
      · exact ⟨_, _, _, rfl⟩
      refine ret_wp ?_
      ((try simp only [vd1, vd2, vd3, vd4, vd5, vd6, reduceCtorEq, Option.some.injEq, vb_ite, vi_ite, List.getD_cons_zero, List.getD_cons_succ, advBR, newB, doBR] at *) <;> grind (splits := 40) [advBT, advBV, advBH, advBL, Sl.nil])
  · refine need_wp ?_ ?_
    · exact ⟨_, _, _, rfl⟩
    refine ret_wp ?_
    ((try simp only [vd1, vd2, vd3, vd4, vd5, vd6, reduceCtorEq, Option.some.injEq, vb_ite, vi_ite, List.getD_cons_zero, List.getD_cons_succ, advBR, newB, doBR] at *) <;> grind (splits := 40) [advBT, advBV, advBH, advBL, Sl.nil])
def kRoomB (sg : Sig) : Sig × Con := (sg, mkFun (fun x : Pol × Stt × Int => ([aI x.1.k, aI x.1.l, aI x.1.p, aI x.1.b, aI x.1.c, aB x.1.o, aI x.2.1.t, aI x.2.1.v, aI x.2.1.h, Sl.atom x.2.1.g, aI x.2.2] : List Atom)) (fun _ => True) (fun x => [aI (roomB x.1 x.2.1 x.2.2)]))
set_option maxHeartbeats 4000000 in
theorem h40 : holds Try.prog (kRoomB sg40) := by
  refine fn_holds (l := [kRightB sg62, kAdvBR sg63]) ⟨h62, h63, trivial⟩ hP rs40 (inj_of (fun l : List Atom => (((⟨vi (l.getD 0 atom0).1, vi (l.getD 1 atom0).1, vi (l.getD 2 atom0).1, vi (l.getD 3 atom0).1, vi (l.getD 4 atom0).1, vb (l.getD 5 atom0).1⟩ : Pol), (⟨vi (l.getD 6 atom0).1, vi (l.getD 7 atom0).1, vi (l.getD 8 atom0).1, (⟨va (l.getD 9 atom0).1, vn (l.getD 9 atom0).1, vc (l.getD 9 atom0).1, (l.getD 9 atom0).2⟩ : Sl)⟩ : Stt), vi (l.getD 10 atom0).1) : Pol × Stt × Int)) (fun _ => rfl)) Try.func40 (by kernel_rfl) (c := code Try.f40) (by kernel_rfl) (an := an40) (by kernel_rfl) (pk := pk40) rfl (t := t40) (by kernel_rfl) ?_
  rintro ⟨p, s, n⟩ hpre
  refine ⟨by simp [pk40, KindsOk, encPS, encPSn, encPSnc, encPSA, encPn, encSS, encI, Pol.enc, Stt.enc, Ac.enc, Sl.atom, Sl.nil, Stt.zero, RK.ok], ?_⟩
  unfold t40
  refine call_fun ((p, s)) rfl (by simp only [vd1, vd2, vd3, vd4, vd5, vd6, reduceCtorEq, Option.some.injEq, vb_ite, vi_ite, List.getD_cons_zero, List.getD_cons_succ, advBR, newB, doBR]) trivial ?_
  refine br_wp (fun c1 => ?_) (fun c1 => ?_)
  · have hr : rightB p s := by simp only [vd1, vd2, vd3, vd4, vd5, vd6, reduceCtorEq, Option.some.injEq, vb_ite, vi_ite, List.getD_cons_zero, List.getD_cons_succ, advBR, newB, doBR] at c1; exact c1
    obtain ⟨b1, b2, b3, b4, w0, w1, w2, b5⟩ := rightB_bd hr
    have hr2 := hr
    unfold rightB okB at hr2
    have bd := avB_bd n hr
    have av : advBV p s n = avB p s n := by unfold advBV; rw [if_pos hr]
    have hp : 1 ≤ p.p := hr.1.2.2.2.2.2.1
    have q1 := rem_id (avB p s n) p.p bd.2.2
    have q2 := md_ok (avB p s n) p.p bd.2.2 hp
    have w3 : IntKind.i64.wrap (avB p s n - md (avB p s n) p.p) = avB p s n - md (avB p s n) p.p := wrap_id _ (by omega) (by omega)
    have q3 := quo_id (avB p s n - md (avB p s n) p.p) p.p (by omega) (by omega) hp
    have q4 : dv (avB p s n - md (avB p s n) p.p) p.p = dv (avB p s n) p.p := dv_floor _ _ hp
    refine call_fun ((p, s, n)) rfl (by simp only [vd1, vd2, vd3, vd4, vd5, vd6, reduceCtorEq, Option.some.injEq, vb_ite, vi_ite, List.getD_cons_zero, List.getD_cons_succ, advBR, newB, doBR, av, q1, w3, q3, q4]) trivial ?_
    refine need_wp ?_ ?_
    · (simp only [vd1, vd2, vd3, vd4, vd5, vd6, reduceCtorEq, Option.some.injEq, vb_ite, vi_ite, List.getD_cons_zero, List.getD_cons_succ, advBR, newB, doBR, av, q1, w3, q3, q4] at *; grind)
    refine ret_wp ?_
    ((try simp only [vd1, vd2, vd3, vd4, vd5, vd6, reduceCtorEq, Option.some.injEq, vb_ite, vi_ite, List.getD_cons_zero, List.getD_cons_succ, advBR, newB, doBR, av, q1, w3, q3, q4] at *) <;> grind (splits := 40) [roomB])
  · have hr : ¬rightB p s := by simp only [vd1, vd2, vd3, vd4, vd5, vd6, reduceCtorEq, Option.some.injEq, vb_ite, vi_ite, List.getD_cons_zero, List.getD_cons_succ, advBR, newB, doBR] at c1; simpa using c1
    refine ret_wp ?_
    ((try simp only [vd1, vd2, vd3, vd4, vd5, vd6, reduceCtorEq, Option.some.injEq, vb_ite, vi_ite, List.getD_cons_zero, List.getD_cons_succ, advBR, newB, doBR] at *) <;> grind (splits := 40) [roomB])
def kLastsB (sg : Sig) : Sig × Con := (sg, mkFun (fun x : Pol × Int => ([aI x.1.k, aI x.1.l, aI x.1.p, aI x.1.b, aI x.1.c, aB x.1.o, aI x.2] : List Atom)) (fun x => okB x.1 ∧ x.2 ≤ 1152921504606846976) (fun x => [aI (lst x.1 x.2)]))
set_option maxHeartbeats 4000000 in
theorem h64 : holds Try.prog (kLastsB sg64) := by
  refine fn_holds (l := []) trivial hP rs64 (inj_of (fun l : List Atom => (((⟨vi (l.getD 0 atom0).1, vi (l.getD 1 atom0).1, vi (l.getD 2 atom0).1, vi (l.getD 3 atom0).1, vi (l.getD 4 atom0).1, vb (l.getD 5 atom0).1⟩ : Pol), vi (l.getD 6 atom0).1) : Pol × Int)) (fun _ => rfl)) Try.func64 (by kernel_rfl) (c := code Try.f64) (by kernel_rfl) (an := an64) (by kernel_rfl) (pk := pk64) rfl (t := t64) (by kernel_rfl) ?_
  rintro ⟨p, n⟩ ⟨u1, u2⟩
  refine ⟨by simp [pk64, KindsOk, encPS, encPSn, encPSnc, encPSA, encPn, encSS, encI, Pol.enc, Stt.enc, Ac.enc, Sl.atom, Sl.nil, Stt.zero, RK.ok], ?_⟩
  unfold t64
  simp only at u1 u2
  have u3 := u1
  unfold okB at u3
  have hl : 1 ≤ p.l := u3.2.1
  refine br_wp (fun c1 => ?_) (fun c1 => ?_)
  · refine ret_wp ?_
    ((try simp only [vd1, vd2, vd3, vd4, vd5, vd6, reduceCtorEq, Option.some.injEq, vb_ite, vi_ite, List.getD_cons_zero, List.getD_cons_succ] at *) <;> grind (splits := 40) [lst])
  · have hn : 0 < n := by simp only [vd1, vd2, vd3, vd4, vd5, vd6, reduceCtorEq, Option.some.injEq, vb_ite, vi_ite, List.getD_cons_zero, List.getD_cons_succ] at c1; grind
    have w1 := wrap_id (n + p.l) (by omega) (by omega)
    have w2 := wrap_id (n + p.l - 1) (by omega) (by omega)
    have q1 := quo_id (n + p.l - 1) p.l (by omega) (by omega) hl
    have q2 : dv (n + p.l - 1) p.l = cdv n p.l := lst_up hn hl
    refine need_wp ?_ ?_
    · (simp only [vd1, vd2, vd3, vd4, vd5, vd6, reduceCtorEq, Option.some.injEq, vb_ite, vi_ite, List.getD_cons_zero, List.getD_cons_succ, w1, w2, q1, q2] at *; grind)
    refine ret_wp ?_
    ((try simp only [vd1, vd2, vd3, vd4, vd5, vd6, reduceCtorEq, Option.some.injEq, vb_ite, vi_ite, List.getD_cons_zero, List.getD_cons_succ, w1, w2, q1, q2] at *) <;> grind (splits := 40) [lst])
def kUntB (sg : Sig) : Sig × Con := (sg, mkFun (fun x : Pol × Stt × Int => ([aI x.1.k, aI x.1.l, aI x.1.p, aI x.1.b, aI x.1.c, aB x.1.o, aI x.2.1.t, aI x.2.1.v, aI x.2.1.h, Sl.atom x.2.1.g, aI x.2.2] : List Atom)) (fun _ => True) (fun x => [aI (untB x.1 x.2.1 x.2.2)]))
set_option maxHeartbeats 4000000 in
theorem h41 : holds Try.prog (kUntB sg41) := by
  refine fn_holds (l := [kRightB sg62, kAdvBR sg63, kLastsB sg64]) ⟨h62, h63, h64, trivial⟩ hP rs41 (inj_of (fun l : List Atom => (((⟨vi (l.getD 0 atom0).1, vi (l.getD 1 atom0).1, vi (l.getD 2 atom0).1, vi (l.getD 3 atom0).1, vi (l.getD 4 atom0).1, vb (l.getD 5 atom0).1⟩ : Pol), (⟨vi (l.getD 6 atom0).1, vi (l.getD 7 atom0).1, vi (l.getD 8 atom0).1, (⟨va (l.getD 9 atom0).1, vn (l.getD 9 atom0).1, vc (l.getD 9 atom0).1, (l.getD 9 atom0).2⟩ : Sl)⟩ : Stt), vi (l.getD 10 atom0).1) : Pol × Stt × Int)) (fun _ => rfl)) Try.func41 (by kernel_rfl) (c := code Try.f41) (by kernel_rfl) (an := an41) (by kernel_rfl) (pk := pk41) rfl (t := t41) (by kernel_rfl) ?_
  rintro ⟨p, s, n⟩ hpre
  refine ⟨by simp [pk41, KindsOk, encPS, encPSn, encPSnc, encPSA, encPn, encSS, encI, Pol.enc, Stt.enc, Ac.enc, Sl.atom, Sl.nil, Stt.zero, RK.ok], ?_⟩
  unfold t41
  refine call_fun ((p, s)) rfl (by simp only [vd1, vd2, vd3, vd4, vd5, vd6, reduceCtorEq, Option.some.injEq, vb_ite, vi_ite, List.getD_cons_zero, List.getD_cons_succ, advBR, newB, doBR]) trivial ?_
  refine br_wp (fun c1 => ?_) (fun c1 => ?_)
  · have hr : rightB p s := by simp only [vd1, vd2, vd3, vd4, vd5, vd6, reduceCtorEq, Option.some.injEq, vb_ite, vi_ite, List.getD_cons_zero, List.getD_cons_succ, advBR, newB, doBR] at c1; exact c1
    obtain ⟨b1, b2, b3, b4, w0, w1, w2, b5⟩ := rightB_bd hr
    have hr2 := hr
    unfold rightB okB at hr2
    have bd := avB_bd n hr
    have av : advBV p s n = avB p s n := by unfold advBV; rw [if_pos hr]
    have w3 : IntKind.i64.wrap (ml p.b p.p - advBV p s n) = ml p.b p.p - avB p s n := by rw [av]; exact wrap_id _ (by omega) (by omega)
    refine br_wp (fun c2 => ?_) (fun c2 => ?_)
    · refine ret_wp ?_
      ((try simp only [vd1, vd2, vd3, vd4, vd5, vd6, reduceCtorEq, Option.some.injEq, vb_ite, vi_ite, List.getD_cons_zero, List.getD_cons_succ, advBR, newB, doBR, w2, w3] at *) <;> grind (splits := 40) [untB, advBV])
    · refine call_fun ((p, s, n)) rfl (by simp only [vd1, vd2, vd3, vd4, vd5, vd6, reduceCtorEq, Option.some.injEq, vb_ite, vi_ite, List.getD_cons_zero, List.getD_cons_succ, advBR, newB, doBR, w2, w3]) trivial ?_
      refine call_fun ((p, (ml p.b p.p - avB p s n))) rfl (by simp only [vd1, vd2, vd3, vd4, vd5, vd6, reduceCtorEq, Option.some.injEq, vb_ite, vi_ite, List.getD_cons_zero, List.getD_cons_succ, advBR, newB, doBR, w2, w3]) (by refine ⟨hr.1, ?_⟩; simp only; omega) ?_
      refine ret_wp ?_
      ((try simp only [vd1, vd2, vd3, vd4, vd5, vd6, reduceCtorEq, Option.some.injEq, vb_ite, vi_ite, List.getD_cons_zero, List.getD_cons_succ, advBR, newB, doBR, w2, w3] at *) <;> grind (splits := 40) [untB, advBV])
  · refine ret_wp ?_
    ((try simp only [vd1, vd2, vd3, vd4, vd5, vd6, reduceCtorEq, Option.some.injEq, vb_ite, vi_ite, List.getD_cons_zero, List.getD_cons_succ, advBR, newB, doBR] at *) <;> grind (splits := 40) [untB, advBV])
def kRetB (sg : Sig) : Sig × Con := (sg, mkFun (fun x : Pol × Stt × Int × Int => ([aI x.1.k, aI x.1.l, aI x.1.p, aI x.1.b, aI x.1.c, aB x.1.o, aI x.2.1.t, aI x.2.1.v, aI x.2.1.h, Sl.atom x.2.1.g, aI x.2.2.1, aI x.2.2.2] : List Atom)) (fun _ => True) (fun x => [aI (retB x.1 x.2.1 x.2.2.1 x.2.2.2), aB (decide (mayB x.1 x.2.1 x.2.2.2))]))
set_option maxHeartbeats 4000000 in
theorem h39 : holds Try.prog (kRetB sg39) := by
  refine fn_holds (l := [kRightB sg62, kAdvBR sg63, kLastsB sg64]) ⟨h62, h63, h64, trivial⟩ hP rs39 (inj_of (fun l : List Atom => (((⟨vi (l.getD 0 atom0).1, vi (l.getD 1 atom0).1, vi (l.getD 2 atom0).1, vi (l.getD 3 atom0).1, vi (l.getD 4 atom0).1, vb (l.getD 5 atom0).1⟩ : Pol), (⟨vi (l.getD 6 atom0).1, vi (l.getD 7 atom0).1, vi (l.getD 8 atom0).1, (⟨va (l.getD 9 atom0).1, vn (l.getD 9 atom0).1, vc (l.getD 9 atom0).1, (l.getD 9 atom0).2⟩ : Sl)⟩ : Stt), vi (l.getD 10 atom0).1, vi (l.getD 11 atom0).1) : Pol × Stt × Int × Int)) (fun _ => rfl)) Try.func39 (by kernel_rfl) (c := code Try.f39) (by kernel_rfl) (an := an39) (by kernel_rfl) (pk := pk39) rfl (t := t39) (by kernel_rfl) ?_
  rintro ⟨p, s, n, c⟩ hpre
  refine ⟨by simp [pk39, KindsOk, encPS, encPSn, encPSnc, encPSA, encPn, encSS, encI, Pol.enc, Stt.enc, Ac.enc, Sl.atom, Sl.nil, Stt.zero, RK.ok], ?_⟩
  unfold t39
  refine call_fun ((p, s)) rfl (by simp only [vd1, vd2, vd3, vd4, vd5, vd6, reduceCtorEq, Option.some.injEq, vb_ite, vi_ite, List.getD_cons_zero, List.getD_cons_succ, advBR, newB, doBR]) trivial ?_
  refine br_wp (fun c1 => ?_) (fun c1 => ?_)
  · have hr : rightB p s := by simp only [vd1, vd2, vd3, vd4, vd5, vd6, reduceCtorEq, Option.some.injEq, vb_ite, vi_ite, List.getD_cons_zero, List.getD_cons_succ, advBR, newB, doBR] at c1; exact c1
    obtain ⟨b1, b2, b3, b4, w0, w1, w2, b5⟩ := rightB_bd hr
    have hr2 := hr
    unfold rightB okB at hr2
    have bd := avB_bd n hr
    have av : advBV p s n = avB p s n := by unfold advBV; rw [if_pos hr]
    refine br_wp (fun c2 => ?_) (fun c2 => ?_)
    · refine ret_wp ?_
      ((try simp only [vd1, vd2, vd3, vd4, vd5, vd6, reduceCtorEq, Option.some.injEq, vb_ite, vi_ite, List.getD_cons_zero, List.getD_cons_succ, advBR, newB, doBR, w0] at *) <;> grind (splits := 40) [retB, mayB, advBV])
    · refine br_wp (fun c3 => ?_) (fun c3 => ?_)
      · refine ret_wp ?_
        ((try simp only [vd1, vd2, vd3, vd4, vd5, vd6, reduceCtorEq, Option.some.injEq, vb_ite, vi_ite, List.getD_cons_zero, List.getD_cons_succ, advBR, newB, doBR, w0] at *) <;> grind (splits := 40) [retB, mayB, advBV])
      · have hc : 1 ≤ c ∧ c ≤ p.b - s.h := by simp only [vd1, vd2, vd3, vd4, vd5, vd6, reduceCtorEq, Option.some.injEq, vb_ite, vi_ite, List.getD_cons_zero, List.getD_cons_succ, advBR, newB, doBR, w0] at c2 c3; simp at c2 c3; exact ⟨c2, c3⟩
        obtain ⟨w5, d1, d2⟩ := mul_fit (x := c) (y := p.p) (by omega) (by omega) (by omega) (by omega)
        have w4 : IntKind.i64.wrap (ml c p.p - advBV p s n) = ml c p.p - avB p s n := by rw [av]; exact wrap_id _ (by omega) (by omega)
        refine call_fun ((p, s, n)) rfl (by simp only [vd1, vd2, vd3, vd4, vd5, vd6, reduceCtorEq, Option.some.injEq, vb_ite, vi_ite, List.getD_cons_zero, List.getD_cons_succ, advBR, newB, doBR, w0, w4, w5]) trivial ?_
        refine call_fun ((p, (ml c p.p - avB p s n))) rfl (by simp only [vd1, vd2, vd3, vd4, vd5, vd6, reduceCtorEq, Option.some.injEq, vb_ite, vi_ite, List.getD_cons_zero, List.getD_cons_succ, advBR, newB, doBR, w0, w4, w5]) (by refine ⟨hr.1, ?_⟩; simp only; omega) ?_
        refine ret_wp ?_
        ((try simp only [vd1, vd2, vd3, vd4, vd5, vd6, reduceCtorEq, Option.some.injEq, vb_ite, vi_ite, List.getD_cons_zero, List.getD_cons_succ, advBR, newB, doBR, w0, w4, w5] at *) <;> grind (splits := 40) [retB, mayB, advBV])
  · refine ret_wp ?_
    ((try simp only [vd1, vd2, vd3, vd4, vd5, vd6, reduceCtorEq, Option.some.injEq, vb_ite, vi_ite, List.getD_cons_zero, List.getD_cons_succ, advBR, newB, doBR] at *) <;> grind (splits := 40) [retB, mayB, advBV])
def kDoBR (sg : Sig) : Sig × Con := (sg, mkFun (fun x : Pol × Stt × Ac => ([aI x.1.k, aI x.1.l, aI x.1.p, aI x.1.b, aI x.1.c, aB x.1.o, aI x.2.1.t, aI x.2.1.v, aI x.2.1.h, Sl.atom x.2.1.g, aI x.2.2.k, aI x.2.2.t, aI x.2.2.c] : List Atom)) (fun _ => True) (fun x => (doBR x.1 x.2.1 x.2.2).enc ++ [aB (decide (didB x.1 x.2.1 x.2.2))]))
set_option maxHeartbeats 8000000 in
theorem h38 : holds Try.prog (kDoBR sg38) := by
  refine fn_holds (l := [kRightB sg62, kAdvBR sg63, kRoomB sg40]) ⟨h62, h63, h40, trivial⟩ hP rs38 (inj_of (fun l : List Atom => (((⟨vi (l.getD 0 atom0).1, vi (l.getD 1 atom0).1, vi (l.getD 2 atom0).1, vi (l.getD 3 atom0).1, vi (l.getD 4 atom0).1, vb (l.getD 5 atom0).1⟩ : Pol), (⟨vi (l.getD 6 atom0).1, vi (l.getD 7 atom0).1, vi (l.getD 8 atom0).1, (⟨va (l.getD 9 atom0).1, vn (l.getD 9 atom0).1, vc (l.getD 9 atom0).1, (l.getD 9 atom0).2⟩ : Sl)⟩ : Stt), (⟨vi (l.getD 10 atom0).1, vi (l.getD 11 atom0).1, vi (l.getD 12 atom0).1⟩ : Ac)) : Pol × Stt × Ac)) (fun _ => rfl)) Try.func38 (by kernel_rfl) (c := code Try.f38) (by kernel_rfl) (an := an38) (by kernel_rfl) (pk := pk38) rfl (t := t38) (by kernel_rfl) ?_
  rintro ⟨p, s, a⟩ hpre
  refine ⟨by simp [pk38, KindsOk, encPS, encPSn, encPSnc, encPSA, encPn, encSS, encI, Pol.enc, Stt.enc, Ac.enc, Sl.atom, Sl.nil, Stt.zero, RK.ok], ?_⟩
  unfold t38
  refine call_fun ((p, s)) rfl (by simp only [vd1, vd2, vd3, vd4, vd5, vd6, reduceCtorEq, Option.some.injEq, vb_ite, vi_ite, List.getD_cons_zero, List.getD_cons_succ, advBR, newB, doBR]) trivial ?_
  refine br_wp (fun c1 => ?_) (fun c1 => ?_)
  · have hr : rightB p s := by simp only [vd1, vd2, vd3, vd4, vd5, vd6, reduceCtorEq, Option.some.injEq, vb_ite, vi_ite, List.getD_cons_zero, List.getD_cons_succ, advBR, newB, doBR] at c1; exact c1
    obtain ⟨b1, b2, b3, b4, w0, w1, w2, b5⟩ := rightB_bd hr
    have hr2 := hr
    unfold rightB okB at hr2
    have bd := avB_bd a.t hr
    have ri := roomB_iff a.t a.c hr
    have wm := fun (h : 1 ≤ a.c ∧ a.c ≤ p.b) => mul_fit (x := a.c) (y := p.p) (by omega) (by omega) (by omega) (by omega)
    have hcb : ml a.c p.p ≤ avB p s a.t → a.c ≤ p.b - s.h := fun h => ml_leq (p := p.p) (by omega) (by omega)
    have hrel : a.c ≤ s.h → ml (p.b - s.h) p.p + ml a.c p.p ≤ ml p.b p.p := fun h => by rw [← ml_add]; exact ml_mono (by omega) (by omega)
    have wi := wrap_id
    refine call_fun ((p, s, a.t)) rfl (by simp only [vd1, vd2, vd3, vd4, vd5, vd6, reduceCtorEq, Option.some.injEq, vb_ite, vi_ite, List.getD_cons_zero, List.getD_cons_succ, advBR, newB, doBR]) trivial ?_
    refine br_wp (fun c2 => ?_) (fun c2 => ?_)
    · refine need_wp ?_ ?_
      · exact ⟨_, _, _, rfl⟩
      refine ret_wp ?_
      ((try simp only [vd1, vd2, vd3, vd4, vd5, vd6, reduceCtorEq, Option.some.injEq, vb_ite, vi_ite, List.getD_cons_zero, List.getD_cons_succ, advBR, newB, doBR] at *) <;> grind (splits := 40) [doBT, doBV, doBH, doBL, didB, advBT, advBV, advBH, advBL, Sl.nil])
    · refine br_wp (fun c3 => ?_) (fun c3 => ?_)
      · refine need_wp ?_ ?_
        · exact ⟨_, _, _, rfl⟩
        refine ret_wp ?_
        ((try simp only [vd1, vd2, vd3, vd4, vd5, vd6, reduceCtorEq, Option.some.injEq, vb_ite, vi_ite, List.getD_cons_zero, List.getD_cons_succ, advBR, newB, doBR] at *) <;> grind (splits := 40) [doBT, doBV, doBH, doBL, didB, advBT, advBV, advBH, advBL, Sl.nil])
      · refine br_wp (fun c4 => ?_) (fun c4 => ?_)
        · refine need_wp ?_ ?_
          · exact ⟨_, _, _, rfl⟩
          refine ret_wp ?_
          ((try simp only [vd1, vd2, vd3, vd4, vd5, vd6, reduceCtorEq, Option.some.injEq, vb_ite, vi_ite, List.getD_cons_zero, List.getD_cons_succ, advBR, newB, doBR] at *) <;> grind (splits := 40) [doBT, doBV, doBH, doBL, didB, advBT, advBV, advBH, advBL, Sl.nil])
        · refine br_wp (fun c5 => ?_) (fun c5 => ?_)
          · refine call_fun ((p, s, a.t)) rfl (by simp only [vd1, vd2, vd3, vd4, vd5, vd6, reduceCtorEq, Option.some.injEq, vb_ite, vi_ite, List.getD_cons_zero, List.getD_cons_succ, advBR, newB, doBR]) trivial ?_
            refine br_wp (fun c6 => ?_) (fun c6 => ?_)
            · refine need_wp ?_ ?_
              · exact ⟨_, _, _, rfl⟩
              refine ret_wp ?_
              ((try simp only [vd1, vd2, vd3, vd4, vd5, vd6, reduceCtorEq, Option.some.injEq, vb_ite, vi_ite, List.getD_cons_zero, List.getD_cons_succ, advBR, newB, doBR] at *) <;> grind (splits := 40) [doBT, doBV, doBH, doBL, didB, advBT, advBV, advBH, advBL, Sl.nil])
            · refine br_wp (fun c7 => ?_) (fun c7 => ?_)
              · refine br_wp (fun c8 => ?_) (fun c8 => ?_)
                · refine need_wp ?_ ?_
                  · exact ⟨_, _, _, rfl⟩
                  refine ret_wp ?_
                  ((try simp only [vd1, vd2, vd3, vd4, vd5, vd6, reduceCtorEq, Option.some.injEq, vb_ite, vi_ite, List.getD_cons_zero, List.getD_cons_succ, advBR, newB, doBR] at *) <;> grind (splits := 40) [doBT, doBV, doBH, doBL, didB, advBT, advBV, advBH, advBL, Sl.nil])
                · refine br_wp (fun c9 => ?_) (fun c9 => ?_)
                  · refine need_wp ?_ ?_
                    · exact ⟨_, _, _, rfl⟩
                    refine ret_wp ?_
                    ((try simp only [vd1, vd2, vd3, vd4, vd5, vd6, reduceCtorEq, Option.some.injEq, vb_ite, vi_ite, List.getD_cons_zero, List.getD_cons_succ, advBR, newB, doBR] at *) <;> grind (splits := 40) [doBT, doBV, doBH, doBL, didB, advBT, advBV, advBH, advBL, Sl.nil])
                  · refine br_wp (fun c10 => ?_) (fun c10 => ?_)
                    · refine need_wp ?_ ?_
                      · exact ⟨_, _, _, rfl⟩
                      refine ret_wp ?_
                      ((try simp only [vd1, vd2, vd3, vd4, vd5, vd6, reduceCtorEq, Option.some.injEq, vb_ite, vi_ite, List.getD_cons_zero, List.getD_cons_succ, advBR, newB, doBR] at *) <;> grind (splits := 40) [doBT, doBV, doBH, doBL, didB, advBT, advBV, advBH, advBL, Sl.nil])
                    · refine br_wp (fun c11 => ?_) (fun c11 => ?_)
                      · refine need_wp ?_ ?_
                        · exact ⟨_, _, _, rfl⟩
                        refine ret_wp ?_
                        ((try simp only [vd1, vd2, vd3, vd4, vd5, vd6, reduceCtorEq, Option.some.injEq, vb_ite, vi_ite, List.getD_cons_zero, List.getD_cons_succ, advBR, newB, doBR] at *) <;> grind (splits := 40) [doBT, doBV, doBH, doBL, didB, advBT, advBV, advBH, advBL, Sl.nil])
                      · refine br_wp (fun c12 => ?_) (fun c12 => ?_)
                        · refine need_wp ?_ ?_
                          · exact ⟨_, _, _, rfl⟩
                          refine ret_wp ?_
                          ((try simp only [vd1, vd2, vd3, vd4, vd5, vd6, reduceCtorEq, Option.some.injEq, vb_ite, vi_ite, List.getD_cons_zero, List.getD_cons_succ, advBR, newB, doBR] at *) <;> grind (splits := 40) [doBT, doBV, doBH, doBL, didB, advBT, advBV, advBH, advBL, Sl.nil])
                        · refine need_wp ?_ ?_
                          · exact ⟨_, _, _, rfl⟩
                          refine ret_wp ?_
                          ((try simp only [vd1, vd2, vd3, vd4, vd5, vd6, reduceCtorEq, Option.some.injEq, vb_ite, vi_ite, List.getD_cons_zero, List.getD_cons_succ, advBR, newB, doBR] at *) <;> grind (splits := 40) [doBT, doBV, doBH, doBL, didB, advBT, advBV, advBH, advBL, Sl.nil])
              · refine br_wp (fun c13 => ?_) (fun c13 => ?_)
                · refine need_wp ?_ ?_
                  · exact ⟨_, _, _, rfl⟩
                  refine ret_wp ?_
                  ((try simp only [vd1, vd2, vd3, vd4, vd5, vd6, reduceCtorEq, Option.some.injEq, vb_ite, vi_ite, List.getD_cons_zero, List.getD_cons_succ, advBR, newB, doBR] at *) <;> grind (splits := 40) [doBT, doBV, doBH, doBL, didB, advBT, advBV, advBH, advBL, Sl.nil])
                · refine br_wp (fun c14 => ?_) (fun c14 => ?_)
                  · refine need_wp ?_ ?_
                    · exact ⟨_, _, _, rfl⟩
                    refine ret_wp ?_
                    ((try simp only [vd1, vd2, vd3, vd4, vd5, vd6, reduceCtorEq, Option.some.injEq, vb_ite, vi_ite, List.getD_cons_zero, List.getD_cons_succ, advBR, newB, doBR] at *) <;> grind (splits := 40) [doBT, doBV, doBH, doBL, didB, advBT, advBV, advBH, advBL, Sl.nil])
                  · refine br_wp (fun c15 => ?_) (fun c15 => ?_)
                    · refine need_wp ?_ ?_
                      · exact ⟨_, _, _, rfl⟩
                      refine ret_wp ?_
                      ((try simp only [vd1, vd2, vd3, vd4, vd5, vd6, reduceCtorEq, Option.some.injEq, vb_ite, vi_ite, List.getD_cons_zero, List.getD_cons_succ, advBR, newB, doBR] at *) <;> grind (splits := 40) [doBT, doBV, doBH, doBL, didB, advBT, advBV, advBH, advBL, Sl.nil])
                    · refine br_wp (fun c16 => ?_) (fun c16 => ?_)
                      · refine need_wp ?_ ?_
                        · exact ⟨_, _, _, rfl⟩
                        refine ret_wp ?_
                        ((try simp only [vd1, vd2, vd3, vd4, vd5, vd6, reduceCtorEq, Option.some.injEq, vb_ite, vi_ite, List.getD_cons_zero, List.getD_cons_succ, advBR, newB, doBR] at *) <;> grind (splits := 40) [doBT, doBV, doBH, doBL, didB, advBT, advBV, advBH, advBL, Sl.nil])
                      · refine need_wp ?_ ?_
                        · exact ⟨_, _, _, rfl⟩
                        refine ret_wp ?_
                        ((try simp only [vd1, vd2, vd3, vd4, vd5, vd6, reduceCtorEq, Option.some.injEq, vb_ite, vi_ite, List.getD_cons_zero, List.getD_cons_succ, advBR, newB, doBR] at *) <;> grind (splits := 40) [doBT, doBV, doBH, doBL, didB, advBT, advBV, advBH, advBL, Sl.nil])
          · refine br_wp (fun c17 => ?_) (fun c17 => ?_)
            · refine br_wp (fun c18 => ?_) (fun c18 => ?_)
              · refine need_wp ?_ ?_
                · exact ⟨_, _, _, rfl⟩
                refine ret_wp ?_
                ((try simp only [vd1, vd2, vd3, vd4, vd5, vd6, reduceCtorEq, Option.some.injEq, vb_ite, vi_ite, List.getD_cons_zero, List.getD_cons_succ, advBR, newB, doBR] at *) <;> grind (splits := 40) [doBT, doBV, doBH, doBL, didB, advBT, advBV, advBH, advBL, Sl.nil])
              · refine br_wp (fun c19 => ?_) (fun c19 => ?_)
                · refine need_wp ?_ ?_
                  · exact ⟨_, _, _, rfl⟩
                  refine ret_wp ?_
                  ((try simp only [vd1, vd2, vd3, vd4, vd5, vd6, reduceCtorEq, Option.some.injEq, vb_ite, vi_ite, List.getD_cons_zero, List.getD_cons_succ, advBR, newB, doBR] at *) <;> grind (splits := 40) [doBT, doBV, doBH, doBL, didB, advBT, advBV, advBH, advBL, Sl.nil])
                · refine br_wp (fun c20 => ?_) (fun c20 => ?_)
                  · refine need_wp ?_ ?_
                    · exact ⟨_, _, _, rfl⟩
                    refine ret_wp ?_
                    ((try simp only [vd1, vd2, vd3, vd4, vd5, vd6, reduceCtorEq, Option.some.injEq, vb_ite, vi_ite, List.getD_cons_zero, List.getD_cons_succ, advBR, newB, doBR] at *) <;> grind (splits := 40) [doBT, doBV, doBH, doBL, didB, advBT, advBV, advBH, advBL, Sl.nil])
                  · refine br_wp (fun c21 => ?_) (fun c21 => ?_)
                    · refine need_wp ?_ ?_
                      · exact ⟨_, _, _, rfl⟩
                      refine ret_wp ?_
                      ((try simp only [vd1, vd2, vd3, vd4, vd5, vd6, reduceCtorEq, Option.some.injEq, vb_ite, vi_ite, List.getD_cons_zero, List.getD_cons_succ, advBR, newB, doBR] at *) <;> grind (splits := 40) [doBT, doBV, doBH, doBL, didB, advBT, advBV, advBH, advBL, Sl.nil])
                    · refine br_wp (fun c22 => ?_) (fun c22 => ?_)
                      · refine need_wp ?_ ?_
                        · exact ⟨_, _, _, rfl⟩
                        refine ret_wp ?_
                        ((try simp only [vd1, vd2, vd3, vd4, vd5, vd6, reduceCtorEq, Option.some.injEq, vb_ite, vi_ite, List.getD_cons_zero, List.getD_cons_succ, advBR, newB, doBR] at *) <;> grind (splits := 40) [doBT, doBV, doBH, doBL, didB, advBT, advBV, advBH, advBL, Sl.nil])
                      · refine need_wp ?_ ?_
                        · exact ⟨_, _, _, rfl⟩
                        refine ret_wp ?_
                        ((try simp only [vd1, vd2, vd3, vd4, vd5, vd6, reduceCtorEq, Option.some.injEq, vb_ite, vi_ite, List.getD_cons_zero, List.getD_cons_succ, advBR, newB, doBR] at *) <;> grind (splits := 40) [doBT, doBV, doBH, doBL, didB, advBT, advBV, advBH, advBL, Sl.nil])
            · refine br_wp (fun c23 => ?_) (fun c23 => ?_)
              · refine need_wp ?_ ?_
                · exact ⟨_, _, _, rfl⟩
                refine ret_wp ?_
                ((try simp only [vd1, vd2, vd3, vd4, vd5, vd6, reduceCtorEq, Option.some.injEq, vb_ite, vi_ite, List.getD_cons_zero, List.getD_cons_succ, advBR, newB, doBR] at *) <;> grind (splits := 40) [doBT, doBV, doBH, doBL, didB, advBT, advBV, advBH, advBL, Sl.nil])
              · refine br_wp (fun c24 => ?_) (fun c24 => ?_)
                · refine need_wp ?_ ?_
                  · exact ⟨_, _, _, rfl⟩
                  refine ret_wp ?_
                  ((try simp only [vd1, vd2, vd3, vd4, vd5, vd6, reduceCtorEq, Option.some.injEq, vb_ite, vi_ite, List.getD_cons_zero, List.getD_cons_succ, advBR, newB, doBR] at *) <;> grind (splits := 40) [doBT, doBV, doBH, doBL, didB, advBT, advBV, advBH, advBL, Sl.nil])
                · refine br_wp (fun c25 => ?_) (fun c25 => ?_)
                  · refine need_wp ?_ ?_
                    · exact ⟨_, _, _, rfl⟩
                    refine ret_wp ?_
                    ((try simp only [vd1, vd2, vd3, vd4, vd5, vd6, reduceCtorEq, Option.some.injEq, vb_ite, vi_ite, List.getD_cons_zero, List.getD_cons_succ, advBR, newB, doBR] at *) <;> grind (splits := 40) [doBT, doBV, doBH, doBL, didB, advBT, advBV, advBH, advBL, Sl.nil])
                  · refine br_wp (fun c26 => ?_) (fun c26 => ?_)
                    · refine need_wp ?_ ?_
                      · exact ⟨_, _, _, rfl⟩
                      refine ret_wp ?_
                      ((try simp only [vd1, vd2, vd3, vd4, vd5, vd6, reduceCtorEq, Option.some.injEq, vb_ite, vi_ite, List.getD_cons_zero, List.getD_cons_succ, advBR, newB, doBR] at *) <;> grind (splits := 40) [doBT, doBV, doBH, doBL, didB, advBT, advBV, advBH, advBL, Sl.nil])
                    · refine need_wp ?_ ?_
                      · exact ⟨_, _, _, rfl⟩
                      refine ret_wp ?_
                      ((try simp only [vd1, vd2, vd3, vd4, vd5, vd6, reduceCtorEq, Option.some.injEq, vb_ite, vi_ite, List.getD_cons_zero, List.getD_cons_succ, advBR, newB, doBR] at *) <;> grind (splits := 40) [doBT, doBV, doBH, doBL, didB, advBT, advBV, advBH, advBL, Sl.nil])
  · refine need_wp ?_ ?_
    · exact ⟨_, _, _, rfl⟩
    refine ret_wp ?_
    ((try simp only [vd1, vd2, vd3, vd4, vd5, vd6, reduceCtorEq, Option.some.injEq, vb_ite, vi_ite, List.getD_cons_zero, List.getD_cons_succ, advBR, newB, doBR] at *) <;> grind (splits := 40) [doBT, doBV, doBH, doBL, didB, advBT, advBV, advBH, advBL, Sl.nil])
end Go.Proofs.YtjmenmnjkfnhgaaK
