import Derived.Test.YtfiggilfgjpodaaVK7t
import Derived.Test.YtfiggilfgjpodaaVC
import Derived.Test.YtfiggilfgjpodaaProg
import Derived.Test.YtfiggilfgjpodaaChecked
set_option linter.unusedSimpArgs false
set_option linter.unusedVariables false
namespace Go.Proofs.YtfiggilfgjpodaaK
open Go Go.Proofs.YtfiggilfgjpodaaV Go.Proofs

def okP (p : Pol) : Prop := p.k = 4 ∧ 1 ≤ p.l ∧ p.l ≤ 1048576 ∧ 1 ≤ p.p ∧ p.p ≤ 1099511627776 ∧ p.b = 0 ∧ p.c = 0
instance (p : Pol) : Decidable (okP p) := by unfold okP; exact inferInstance
def chk (p : Pol) : Int := if okP p then 0 else 2
def clamp (n : Int) : Int := if n < 0 then 0 else if n > 9007199254740992 then 9007199254740992 else n
def right (p : Pol) (s : Stt) : Prop := okP p ∧ 0 ≤ s.t ∧ s.t ≤ 9007199254740992 ∧ 0 ≤ s.h ∧ 0 ≤ s.v ∧ s.h + s.v ≤ p.l ∧ s.g.n = 0
instance (p : Pol) (s : Stt) : Decidable (right p s) := by unfold right; exact inferInstance
theorem hP : Try.prog.follows .mixedOrders = true := rfl
/-- A time's later one; the state then, its log apart. -/
def ltr (s : Stt) (n : Int) : Int := max s.t (clamp n)
def av (p : Pol) (s : Stt) (n : Int) : Int := if dv (ltr s n) p.p = dv s.t p.p then s.v else 0
def advT (p : Pol) (s : Stt) (n : Int) : Int := if right p s then ltr s n else 0
def advV (p : Pol) (s : Stt) (n : Int) : Int := if right p s then av p s n else 0
def advH (p : Pol) (s : Stt) : Int := if right p s then s.h else 0
def advG (p : Pol) (s : Stt) (g : Sl) : Sl := if right p s then g else Sl.nil
def adv (p : Pol) (s : Stt) (n : Int) (g : Sl) : Stt := ⟨advT p s n, advV p s n, advH p s, advG p s g⟩
def new_ (p : Pol) (n : Int) : Stt := ⟨if okP p then clamp n else 0, 0, 0, Sl.nil⟩
def kCheck (sg : Sig) : Sig × Con := (sg, mkFun Pol.enc (fun _ => True) (fun p => [aI (chk p)]))
def kClamp (sg : Sig) : Sig × Con := (sg, mkFun encI (fun _ => True) (fun n => [aI (clamp n)]))
def kNew (sg : Sig) : Sig × Con := (sg, mkFun encPn (fun _ => True) (fun x => (new_ x.1 x.2).enc))
def kRight (sg : Sig) : Sig × Con := (sg, mkFun encPS (fun _ => True) (fun x => [aB (decide (right x.1 x.2))]))
theorem ltr_ge (s : Stt) (n : Int) : s.t ≤ ltr s n := by unfold ltr; omega
theorem ltr_le {s : Stt} (n : Int) (h : s.t ≤ 9007199254740992) : ltr s n ≤ 9007199254740992 := by unfold ltr clamp; split <;> (try split) <;> omega
def next_ (p : Pol) (n : Int) : Int := p.p - md n p.p
def room (p : Pol) (s : Stt) (n : Int) : Int := if right p s then p.l - s.h - av p s n else 0
def did (p : Pol) (s : Stt) (a : Ac) : Prop := right p s ∧ 1 ≤ a.c ∧ ((a.k = 1 ∨ a.k = 2) ∧ a.c ≤ p.l - s.h - av p s a.t ∨ (a.k = 3 ∨ a.k = 4) ∧ a.c ≤ s.h)
instance (p : Pol) (s : Stt) (a : Ac) : Decidable (did p s a) := by unfold did; exact inferInstance
def doV (p : Pol) (s : Stt) (a : Ac) : Int := if did p s a then av p s a.t + (if a.k = 1 ∨ a.k = 4 then a.c else 0) else if right p s then s.v else 0
def doH (p : Pol) (s : Stt) (a : Ac) : Int := if did p s a then s.h + (if a.k = 2 then a.c else if a.k = 1 then 0 else -a.c) else if right p s then s.h else 0
def doT (p : Pol) (s : Stt) (a : Ac) : Int := if did p s a then ltr s a.t else if right p s then s.t else 0
def doG (p : Pol) (s : Stt) (a : Ac) (g : Sl) : Sl := if did p s a then g else if right p s then s.g else Sl.nil
def doS (p : Pol) (s : Stt) (a : Ac) (g : Sl) : Stt := ⟨doT p s a, doV p s a, doH p s a, doG p s a g⟩
def doN (p : Pol) (s : Stt) (a : Ac) : Stt := doS p s a Sl.nil
def mayC (p : Pol) (s : Stt) (c : Int) : Prop := right p s ∧ 1 ≤ c ∧ c ≤ p.l - s.h
instance (p : Pol) (s : Stt) (c : Int) : Decidable (mayC p s c) := by unfold mayC; exact inferInstance
def retry (p : Pol) (s : Stt) (n c : Int) : Int := if mayC p s c ∧ p.l - s.h - av p s n < c then next_ p (ltr s n) else 0
def until_ (p : Pol) (s : Stt) (n : Int) : Int := if right p s ∧ s.h ≤ 0 then (if 0 < av p s n then next_ p (ltr s n) else 0) else -1
def kAdv (sg : Sig) : Sig × Con := (sg, mkFun encPSn (fun _ => True) (fun x => Stt.enc (adv x.1 x.2.1 x.2.2 Sl.nil)))
def kAdvR (sg : Sig) : Sig × Con := (sg, mkFun encPSn (fun _ => True) (fun x => Stt.enc (adv x.1 x.2.1 x.2.2 x.2.1.g)))
def posT (x : Pol × Int) : Prop := 1 ≤ x.1.p ∧ x.1.p ≤ 1099511627776 ∧ 0 ≤ x.2 ∧ x.2 ≤ 9007199254740992
def kNext (sg : Sig) : Sig × Con := (sg, mkFun encPn posT (fun x => [aI (next_ x.1 x.2)]))
def kBegin (sg : Sig) : Sig × Con := (sg, mkFun encPn posT (fun x => [aI (x.2 - md x.2 x.1.p)]))
def kRoom (sg : Sig) : Sig × Con := (sg, mkFun encPSn (fun _ => True) (fun x => [aI (room x.1 x.2.1 x.2.2)]))
def kChanges (sg : Sig) : Sig × Con := (sg, mkFun (fun _ : Unit => []) (fun _ => True) (fun _ => [aI 1, aI 0, aI 1, aB true, aI 2, aI 1, aI 0, aB true, aI 3, aI (-1), aI 0, aB false, aI 4, aI (-1), aI 1, aB false]))
def kDo (sg : Sig) : Sig × Con := (sg, mkFun encPSA (fun _ => True) (fun x => (doN x.1 x.2.1 x.2.2).enc ++ [aB (decide (did x.1 x.2.1 x.2.2))]))
def kDoR (sg : Sig) : Sig × Con := (sg, mkFun encPSA (fun _ => True) (fun x => (doS x.1 x.2.1 x.2.2 x.2.1.g).enc ++ [aB (decide (did x.1 x.2.1 x.2.2))]))
def kRetry (sg : Sig) : Sig × Con := (sg, mkFun encPSnc (fun _ => True) (fun x => [aI (retry x.1 x.2.1 x.2.2.1 x.2.2.2), aB (decide (mayC x.1 x.2.1 x.2.2.2))]))
def kUntil (sg : Sig) : Sig × Con := (sg, mkFun encPSn (fun _ => True) (fun x => [aI (until_ x.1 x.2.1 x.2.2)]))
set_option maxHeartbeats 1000000 in
theorem h22 : holds Try.prog (kCheck sg22) := by
  refine fn_holds (l := []) trivial hP rs22 (fun _ _ => Pol.inj) Try.func22 (by kernel_rfl) (c := code Try.f22) (by kernel_rfl) (an := an22) (by kernel_rfl) (pk := pk22) rfl (t := t22) (by kernel_rfl) ?_
  rintro p hpre
  refine ⟨by simp [pk22, KindsOk, encPS, encPSn, encPSnc, encPSA, encPn, encSS, encI, Pol.enc, Stt.enc, Ac.enc, Sl.atom, Sl.nil, Stt.zero, RK.ok], ?_⟩
  unfold t22
  refine br_wp (fun c1 => ?_) (fun c1 => ?_)
  · refine ret_wp ?_
    (try simp only [vd1, vd2, vd3, vd4, vd5, vd6, vd7, reduceCtorEq, Option.some.injEq, new_, adv, doS, doN] at *) <;> grind (splits := 40) [chk, okP, clamp, right, wrap_id, dv_eq, md_eq, quo_id, rem_id, ltr, advT, advV, advH, advG, av, next_, room, did, doT, doV, doH, doG, mayC, retry, until_, posT, Sl.nil]
  · refine br_wp (fun c2 => ?_) (fun c2 => ?_)
    · refine ret_wp ?_
      (try simp only [vd1, vd2, vd3, vd4, vd5, vd6, vd7, reduceCtorEq, Option.some.injEq, new_, adv, doS, doN] at *) <;> grind (splits := 40) [chk, okP, clamp, right, wrap_id, dv_eq, md_eq, quo_id, rem_id, ltr, advT, advV, advH, advG, av, next_, room, did, doT, doV, doH, doG, mayC, retry, until_, posT, Sl.nil]
    · refine br_wp (fun c3 => ?_) (fun c3 => ?_)
      · refine ret_wp ?_
        (try simp only [vd1, vd2, vd3, vd4, vd5, vd6, vd7, reduceCtorEq, Option.some.injEq, new_, adv, doS, doN] at *) <;> grind (splits := 40) [chk, okP, clamp, right, wrap_id, dv_eq, md_eq, quo_id, rem_id, ltr, advT, advV, advH, advG, av, next_, room, did, doT, doV, doH, doG, mayC, retry, until_, posT, Sl.nil]
      · refine br_wp (fun c4 => ?_) (fun c4 => ?_)
        · refine ret_wp ?_
          (try simp only [vd1, vd2, vd3, vd4, vd5, vd6, vd7, reduceCtorEq, Option.some.injEq, new_, adv, doS, doN] at *) <;> grind (splits := 40) [chk, okP, clamp, right, wrap_id, dv_eq, md_eq, quo_id, rem_id, ltr, advT, advV, advH, advG, av, next_, room, did, doT, doV, doH, doG, mayC, retry, until_, posT, Sl.nil]
        · refine br_wp (fun c5 => ?_) (fun c5 => ?_)
          · refine ret_wp ?_
            (try simp only [vd1, vd2, vd3, vd4, vd5, vd6, vd7, reduceCtorEq, Option.some.injEq, new_, adv, doS, doN] at *) <;> grind (splits := 40) [chk, okP, clamp, right, wrap_id, dv_eq, md_eq, quo_id, rem_id, ltr, advT, advV, advH, advG, av, next_, room, did, doT, doV, doH, doG, mayC, retry, until_, posT, Sl.nil]
          · refine br_wp (fun c6 => ?_) (fun c6 => ?_)
            · refine ret_wp ?_
              (try simp only [vd1, vd2, vd3, vd4, vd5, vd6, vd7, reduceCtorEq, Option.some.injEq, new_, adv, doS, doN] at *) <;> grind (splits := 40) [chk, okP, clamp, right, wrap_id, dv_eq, md_eq, quo_id, rem_id, ltr, advT, advV, advH, advG, av, next_, room, did, doT, doV, doH, doG, mayC, retry, until_, posT, Sl.nil]
            · refine ret_wp ?_
              (try simp only [vd1, vd2, vd3, vd4, vd5, vd6, vd7, reduceCtorEq, Option.some.injEq, new_, adv, doS, doN] at *) <;> grind (splits := 40) [chk, okP, clamp, right, wrap_id, dv_eq, md_eq, quo_id, rem_id, ltr, advT, advV, advH, advG, av, next_, room, did, doT, doV, doH, doG, mayC, retry, until_, posT, Sl.nil]
set_option maxHeartbeats 1000000 in
theorem h21 : holds Try.prog (kCheck sg21) := by
  refine fn_holds (l := []) trivial hP rs21 (fun _ _ => Pol.inj) Try.func21 (by kernel_rfl) (c := code Try.f21) (by kernel_rfl) (an := an21) (by kernel_rfl) (pk := pk21) rfl (t := t21) (by kernel_rfl) ?_
  rintro p hpre
  refine ⟨by simp [pk21, KindsOk, encPS, encPSn, encPSnc, encPSA, encPn, encSS, encI, Pol.enc, Stt.enc, Ac.enc, Sl.atom, Sl.nil, Stt.zero, RK.ok], ?_⟩
  unfold t21
  refine br_wp (fun c1 => ?_) (fun c1 => ?_)
  · refine br_wp (fun c2 => ?_) (fun c2 => ?_)
    · refine br_wp (fun c3 => ?_) (fun c3 => ?_)
      · refine br_wp (fun c4 => ?_) (fun c4 => ?_)
        · refine br_wp (fun c5 => ?_) (fun c5 => ?_)
          · refine br_wp (fun c6 => ?_) (fun c6 => ?_)
            · refine br_wp (fun c7 => ?_) (fun c7 => ?_)
              · refine ret_wp ?_
                (try simp only [vd1, vd2, vd3, vd4, vd5, vd6, vd7, reduceCtorEq, Option.some.injEq, new_, adv, doS, doN] at *) <;> grind (splits := 40) [chk, okP, clamp, right, wrap_id, dv_eq, md_eq, quo_id, rem_id, ltr, advT, advV, advH, advG, av, next_, room, did, doT, doV, doH, doG, mayC, retry, until_, posT, Sl.nil]
              · refine ret_wp ?_
                (try simp only [vd1, vd2, vd3, vd4, vd5, vd6, vd7, reduceCtorEq, Option.some.injEq, new_, adv, doS, doN] at *) <;> grind (splits := 40) [chk, okP, clamp, right, wrap_id, dv_eq, md_eq, quo_id, rem_id, ltr, advT, advV, advH, advG, av, next_, room, did, doT, doV, doH, doG, mayC, retry, until_, posT, Sl.nil]
            · refine ret_wp ?_
              (try simp only [vd1, vd2, vd3, vd4, vd5, vd6, vd7, reduceCtorEq, Option.some.injEq, new_, adv, doS, doN] at *) <;> grind (splits := 40) [chk, okP, clamp, right, wrap_id, dv_eq, md_eq, quo_id, rem_id, ltr, advT, advV, advH, advG, av, next_, room, did, doT, doV, doH, doG, mayC, retry, until_, posT, Sl.nil]
          · refine ret_wp ?_
            (try simp only [vd1, vd2, vd3, vd4, vd5, vd6, vd7, reduceCtorEq, Option.some.injEq, new_, adv, doS, doN] at *) <;> grind (splits := 40) [chk, okP, clamp, right, wrap_id, dv_eq, md_eq, quo_id, rem_id, ltr, advT, advV, advH, advG, av, next_, room, did, doT, doV, doH, doG, mayC, retry, until_, posT, Sl.nil]
        · refine ret_wp ?_
          (try simp only [vd1, vd2, vd3, vd4, vd5, vd6, vd7, reduceCtorEq, Option.some.injEq, new_, adv, doS, doN] at *) <;> grind (splits := 40) [chk, okP, clamp, right, wrap_id, dv_eq, md_eq, quo_id, rem_id, ltr, advT, advV, advH, advG, av, next_, room, did, doT, doV, doH, doG, mayC, retry, until_, posT, Sl.nil]
      · refine ret_wp ?_
        (try simp only [vd1, vd2, vd3, vd4, vd5, vd6, vd7, reduceCtorEq, Option.some.injEq, new_, adv, doS, doN] at *) <;> grind (splits := 40) [chk, okP, clamp, right, wrap_id, dv_eq, md_eq, quo_id, rem_id, ltr, advT, advV, advH, advG, av, next_, room, did, doT, doV, doH, doG, mayC, retry, until_, posT, Sl.nil]
    · refine ret_wp ?_
      (try simp only [vd1, vd2, vd3, vd4, vd5, vd6, vd7, reduceCtorEq, Option.some.injEq, new_, adv, doS, doN] at *) <;> grind (splits := 40) [chk, okP, clamp, right, wrap_id, dv_eq, md_eq, quo_id, rem_id, ltr, advT, advV, advH, advG, av, next_, room, did, doT, doV, doH, doG, mayC, retry, until_, posT, Sl.nil]
  · refine ret_wp ?_
    (try simp only [vd1, vd2, vd3, vd4, vd5, vd6, vd7, reduceCtorEq, Option.some.injEq, new_, adv, doS, doN] at *) <;> grind (splits := 40) [chk, okP, clamp, right, wrap_id, dv_eq, md_eq, quo_id, rem_id, ltr, advT, advV, advH, advG, av, next_, room, did, doT, doV, doH, doG, mayC, retry, until_, posT, Sl.nil]
set_option maxHeartbeats 1000000 in
theorem h26 : holds Try.prog (kClamp sg26) := by
  refine fn_holds (l := []) trivial hP rs26 encI_inj Try.func26 (by kernel_rfl) (c := code Try.f26) (by kernel_rfl) (an := an26) (by kernel_rfl) (pk := pk26) rfl (t := t26) (by kernel_rfl) ?_
  rintro n hpre
  refine ⟨by simp [pk26, KindsOk, encPS, encPSn, encPSnc, encPSA, encPn, encSS, encI, Pol.enc, Stt.enc, Ac.enc, Sl.atom, Sl.nil, Stt.zero, RK.ok], ?_⟩
  unfold t26
  refine ret_wp ?_
  (try simp only [vd1, vd2, vd3, vd4, vd5, vd6, vd7, reduceCtorEq, Option.some.injEq, new_, adv, doS, doN] at *) <;> grind (splits := 40) [chk, okP, clamp, right, wrap_id, dv_eq, md_eq, quo_id, rem_id, ltr, advT, advV, advH, advG, av, next_, room, did, doT, doV, doH, doG, mayC, retry, until_, posT, Sl.nil]
set_option maxHeartbeats 1000000 in
theorem h29 : holds Try.prog (kClamp sg29) := by
  refine fn_holds (l := []) trivial hP rs29 encI_inj Try.func29 (by kernel_rfl) (c := code Try.f29) (by kernel_rfl) (an := an29) (by kernel_rfl) (pk := pk29) rfl (t := t29) (by kernel_rfl) ?_
  rintro n hpre
  refine ⟨by simp [pk29, KindsOk, encPS, encPSn, encPSnc, encPSA, encPn, encSS, encI, Pol.enc, Stt.enc, Ac.enc, Sl.atom, Sl.nil, Stt.zero, RK.ok], ?_⟩
  unfold t29
  refine br_wp (fun c1 => ?_) (fun c1 => ?_)
  · refine ret_wp ?_
    (try simp only [vd1, vd2, vd3, vd4, vd5, vd6, vd7, reduceCtorEq, Option.some.injEq, new_, adv, doS, doN] at *) <;> grind (splits := 40) [chk, okP, clamp, right, wrap_id, dv_eq, md_eq, quo_id, rem_id, ltr, advT, advV, advH, advG, av, next_, room, did, doT, doV, doH, doG, mayC, retry, until_, posT, Sl.nil]
  · refine br_wp (fun c2 => ?_) (fun c2 => ?_)
    · refine ret_wp ?_
      (try simp only [vd1, vd2, vd3, vd4, vd5, vd6, vd7, reduceCtorEq, Option.some.injEq, new_, adv, doS, doN] at *) <;> grind (splits := 40) [chk, okP, clamp, right, wrap_id, dv_eq, md_eq, quo_id, rem_id, ltr, advT, advV, advH, advG, av, next_, room, did, doT, doV, doH, doG, mayC, retry, until_, posT, Sl.nil]
    · refine ret_wp ?_
      (try simp only [vd1, vd2, vd3, vd4, vd5, vd6, vd7, reduceCtorEq, Option.some.injEq, new_, adv, doS, doN] at *) <;> grind (splits := 40) [chk, okP, clamp, right, wrap_id, dv_eq, md_eq, quo_id, rem_id, ltr, advT, advV, advH, advG, av, next_, room, did, doT, doV, doH, doG, mayC, retry, until_, posT, Sl.nil]
set_option maxHeartbeats 1000000 in
theorem h16 : holds Try.prog (kRight sg16) := by
  refine fn_holds (l := [kCheck sg22, kClamp sg26]) ⟨h22, h26, trivial⟩ hP rs16 encPS_inj Try.func16 (by kernel_rfl) (c := code Try.f16) (by kernel_rfl) (an := an16) (by kernel_rfl) (pk := pk16) rfl (t := t16) (by kernel_rfl) ?_
  rintro ⟨p, s⟩ hpre
  refine ⟨by simp [pk16, KindsOk, encPS, encPSn, encPSnc, encPSA, encPn, encSS, encI, Pol.enc, Stt.enc, Ac.enc, Sl.atom, Sl.nil, Stt.zero, RK.ok], ?_⟩
  unfold t16
  refine call_fun (p) rfl (by simp only [vd1, vd2, vd3, vd4, vd5, vd6, vd7, reduceCtorEq, Option.some.injEq, new_, adv, doS, doN]) trivial ?_
  refine br_wp (fun c1 => ?_) (fun c1 => ?_)
  · refine call_fun (s.t) rfl (by simp only [vd1, vd2, vd3, vd4, vd5, vd6, vd7, reduceCtorEq, Option.some.injEq, new_, adv, doS, doN]) trivial ?_
    refine br_wp (fun c2 => ?_) (fun c2 => ?_)
    · refine br_wp (fun c3 => ?_) (fun c3 => ?_)
      · refine br_wp (fun c4 => ?_) (fun c4 => ?_)
        · refine br_wp (fun c5 => ?_) (fun c5 => ?_)
          · refine need_wp ?_ ?_
            · (try simp only [vd1, vd2, vd3, vd4, vd5, vd6, vd7, reduceCtorEq, Option.some.injEq, new_, adv, doS, doN] at *) <;> grind (splits := 40) [chk, okP, clamp, right, wrap_id, dv_eq, md_eq, quo_id, rem_id, ltr, advT, advV, advH, advG, av, next_, room, did, doT, doV, doH, doG, mayC, retry, until_, posT, Sl.nil]
            refine ret_wp ?_
            (try simp only [vd1, vd2, vd3, vd4, vd5, vd6, vd7, reduceCtorEq, Option.some.injEq, new_, adv, doS, doN] at *) <;> grind (splits := 40) [chk, okP, clamp, right, wrap_id, dv_eq, md_eq, quo_id, rem_id, ltr, advT, advV, advH, advG, av, next_, room, did, doT, doV, doH, doG, mayC, retry, until_, posT, Sl.nil]
          · refine ret_wp ?_
            (try simp only [vd1, vd2, vd3, vd4, vd5, vd6, vd7, reduceCtorEq, Option.some.injEq, new_, adv, doS, doN] at *) <;> grind (splits := 40) [chk, okP, clamp, right, wrap_id, dv_eq, md_eq, quo_id, rem_id, ltr, advT, advV, advH, advG, av, next_, room, did, doT, doV, doH, doG, mayC, retry, until_, posT, Sl.nil]
        · refine ret_wp ?_
          (try simp only [vd1, vd2, vd3, vd4, vd5, vd6, vd7, reduceCtorEq, Option.some.injEq, new_, adv, doS, doN] at *) <;> grind (splits := 40) [chk, okP, clamp, right, wrap_id, dv_eq, md_eq, quo_id, rem_id, ltr, advT, advV, advH, advG, av, next_, room, did, doT, doV, doH, doG, mayC, retry, until_, posT, Sl.nil]
      · refine ret_wp ?_
        (try simp only [vd1, vd2, vd3, vd4, vd5, vd6, vd7, reduceCtorEq, Option.some.injEq, new_, adv, doS, doN] at *) <;> grind (splits := 40) [chk, okP, clamp, right, wrap_id, dv_eq, md_eq, quo_id, rem_id, ltr, advT, advV, advH, advG, av, next_, room, did, doT, doV, doH, doG, mayC, retry, until_, posT, Sl.nil]
    · refine ret_wp ?_
      (try simp only [vd1, vd2, vd3, vd4, vd5, vd6, vd7, reduceCtorEq, Option.some.injEq, new_, adv, doS, doN] at *) <;> grind (splits := 40) [chk, okP, clamp, right, wrap_id, dv_eq, md_eq, quo_id, rem_id, ltr, advT, advV, advH, advG, av, next_, room, did, doT, doV, doH, doG, mayC, retry, until_, posT, Sl.nil]
  · refine ret_wp ?_
    (try simp only [vd1, vd2, vd3, vd4, vd5, vd6, vd7, reduceCtorEq, Option.some.injEq, new_, adv, doS, doN] at *) <;> grind (splits := 40) [chk, okP, clamp, right, wrap_id, dv_eq, md_eq, quo_id, rem_id, ltr, advT, advV, advH, advG, av, next_, room, did, doT, doV, doH, doG, mayC, retry, until_, posT, Sl.nil]
set_option maxHeartbeats 1000000 in
theorem h32 : holds Try.prog (kRight sg32) := by
  refine fn_holds (l := [kCheck sg21]) ⟨h21, trivial⟩ hP rs32 encPS_inj Try.func32 (by kernel_rfl) (c := code Try.f32) (by kernel_rfl) (an := an32) (by kernel_rfl) (pk := pk32) rfl (t := t32) (by kernel_rfl) ?_
  rintro ⟨p, s⟩ hpre
  refine ⟨by simp [pk32, KindsOk, encPS, encPSn, encPSnc, encPSA, encPn, encSS, encI, Pol.enc, Stt.enc, Ac.enc, Sl.atom, Sl.nil, Stt.zero, RK.ok], ?_⟩
  unfold t32
  refine call_fun (p) rfl (by simp only [vd1, vd2, vd3, vd4, vd5, vd6, vd7, reduceCtorEq, Option.some.injEq, new_, adv, doS, doN]) trivial ?_
  refine br_wp (fun c1 => ?_) (fun c1 => ?_)
  · refine ret_wp ?_
    (try simp only [vd1, vd2, vd3, vd4, vd5, vd6, vd7, reduceCtorEq, Option.some.injEq, new_, adv, doS, doN] at *) <;> grind (splits := 40) [chk, okP, clamp, right, wrap_id, dv_eq, md_eq, quo_id, rem_id, ltr, advT, advV, advH, advG, av, next_, room, did, doT, doV, doH, doG, mayC, retry, until_, posT, Sl.nil]
  · refine br_wp (fun c2 => ?_) (fun c2 => ?_)
    · refine ret_wp ?_
      (try simp only [vd1, vd2, vd3, vd4, vd5, vd6, vd7, reduceCtorEq, Option.some.injEq, new_, adv, doS, doN] at *) <;> grind (splits := 40) [chk, okP, clamp, right, wrap_id, dv_eq, md_eq, quo_id, rem_id, ltr, advT, advV, advH, advG, av, next_, room, did, doT, doV, doH, doG, mayC, retry, until_, posT, Sl.nil]
    · refine br_wp (fun c3 => ?_) (fun c3 => ?_)
      · refine ret_wp ?_
        (try simp only [vd1, vd2, vd3, vd4, vd5, vd6, vd7, reduceCtorEq, Option.some.injEq, new_, adv, doS, doN] at *) <;> grind (splits := 40) [chk, okP, clamp, right, wrap_id, dv_eq, md_eq, quo_id, rem_id, ltr, advT, advV, advH, advG, av, next_, room, did, doT, doV, doH, doG, mayC, retry, until_, posT, Sl.nil]
      · refine need_wp ?_ ?_
        · (try simp only [vd1, vd2, vd3, vd4, vd5, vd6, vd7, reduceCtorEq, Option.some.injEq, new_, adv, doS, doN] at *) <;> grind (splits := 40) [chk, okP, clamp, right, wrap_id, dv_eq, md_eq, quo_id, rem_id, ltr, advT, advV, advH, advG, av, next_, room, did, doT, doV, doH, doG, mayC, retry, until_, posT, Sl.nil]
        refine br_wp (fun c4 => ?_) (fun c4 => ?_)
        · refine ret_wp ?_
          (try simp only [vd1, vd2, vd3, vd4, vd5, vd6, vd7, reduceCtorEq, Option.some.injEq, new_, adv, doS, doN] at *) <;> grind (splits := 40) [chk, okP, clamp, right, wrap_id, dv_eq, md_eq, quo_id, rem_id, ltr, advT, advV, advH, advG, av, next_, room, did, doT, doV, doH, doG, mayC, retry, until_, posT, Sl.nil]
        · refine br_wp (fun c5 => ?_) (fun c5 => ?_)
          · refine br_wp (fun c6 => ?_) (fun c6 => ?_)
            · refine br_wp (fun c7 => ?_) (fun c7 => ?_)
              · refine ret_wp ?_
                (try simp only [vd1, vd2, vd3, vd4, vd5, vd6, vd7, reduceCtorEq, Option.some.injEq, new_, adv, doS, doN] at *) <;> grind (splits := 40) [chk, okP, clamp, right, wrap_id, dv_eq, md_eq, quo_id, rem_id, ltr, advT, advV, advH, advG, av, next_, room, did, doT, doV, doH, doG, mayC, retry, until_, posT, Sl.nil]
              · refine ret_wp ?_
                (try simp only [vd1, vd2, vd3, vd4, vd5, vd6, vd7, reduceCtorEq, Option.some.injEq, new_, adv, doS, doN] at *) <;> grind (splits := 40) [chk, okP, clamp, right, wrap_id, dv_eq, md_eq, quo_id, rem_id, ltr, advT, advV, advH, advG, av, next_, room, did, doT, doV, doH, doG, mayC, retry, until_, posT, Sl.nil]
            · refine ret_wp ?_
              (try simp only [vd1, vd2, vd3, vd4, vd5, vd6, vd7, reduceCtorEq, Option.some.injEq, new_, adv, doS, doN] at *) <;> grind (splits := 40) [chk, okP, clamp, right, wrap_id, dv_eq, md_eq, quo_id, rem_id, ltr, advT, advV, advH, advG, av, next_, room, did, doT, doV, doH, doG, mayC, retry, until_, posT, Sl.nil]
          · refine ret_wp ?_
            (try simp only [vd1, vd2, vd3, vd4, vd5, vd6, vd7, reduceCtorEq, Option.some.injEq, new_, adv, doS, doN] at *) <;> grind (splits := 40) [chk, okP, clamp, right, wrap_id, dv_eq, md_eq, quo_id, rem_id, ltr, advT, advV, advH, advG, av, next_, room, did, doT, doV, doH, doG, mayC, retry, until_, posT, Sl.nil]
set_option maxHeartbeats 1000000 in
theorem h13 : holds Try.prog (kNew sg13) := by
  refine fn_holds (l := [kCheck sg22, kClamp sg26]) ⟨h22, h26, trivial⟩ hP rs13 encPn_inj Try.func13 (by kernel_rfl) (c := code Try.f13) (by kernel_rfl) (an := an13) (by kernel_rfl) (pk := pk13) rfl (t := t13) (by kernel_rfl) ?_
  rintro ⟨p, n⟩ hpre
  refine ⟨by simp [pk13, KindsOk, encPS, encPSn, encPSnc, encPSA, encPn, encSS, encI, Pol.enc, Stt.enc, Ac.enc, Sl.atom, Sl.nil, Stt.zero, RK.ok], ?_⟩
  unfold t13
  refine call_fun (p) rfl (by simp only [vd1, vd2, vd3, vd4, vd5, vd6, vd7, reduceCtorEq, Option.some.injEq, new_, adv, doS, doN]) trivial ?_
  refine br_wp (fun c1 => ?_) (fun c1 => ?_)
  · refine need_wp ?_ ?_
    · (try simp only [vd1, vd2, vd3, vd4, vd5, vd6, vd7, reduceCtorEq, Option.some.injEq, new_, adv, doS, doN] at *) <;> grind (splits := 40) [chk, okP, clamp, right, wrap_id, dv_eq, md_eq, quo_id, rem_id, ltr, advT, advV, advH, advG, av, next_, room, did, doT, doV, doH, doG, mayC, retry, until_, posT, Sl.nil]
    refine ret_wp ?_
    (try simp only [vd1, vd2, vd3, vd4, vd5, vd6, vd7, reduceCtorEq, Option.some.injEq, new_, adv, doS, doN] at *) <;> grind (splits := 40) [chk, okP, clamp, right, wrap_id, dv_eq, md_eq, quo_id, rem_id, ltr, advT, advV, advH, advG, av, next_, room, did, doT, doV, doH, doG, mayC, retry, until_, posT, Sl.nil]
  · refine call_fun (n) rfl (by simp only [vd1, vd2, vd3, vd4, vd5, vd6, vd7, reduceCtorEq, Option.some.injEq, new_, adv, doS, doN]) trivial ?_
    refine need_wp ?_ ?_
    · (try simp only [vd1, vd2, vd3, vd4, vd5, vd6, vd7, reduceCtorEq, Option.some.injEq, new_, adv, doS, doN] at *) <;> grind (splits := 40) [chk, okP, clamp, right, wrap_id, dv_eq, md_eq, quo_id, rem_id, ltr, advT, advV, advH, advG, av, next_, room, did, doT, doV, doH, doG, mayC, retry, until_, posT, Sl.nil]
    refine ret_wp ?_
    (try simp only [vd1, vd2, vd3, vd4, vd5, vd6, vd7, reduceCtorEq, Option.some.injEq, new_, adv, doS, doN] at *) <;> grind (splits := 40) [chk, okP, clamp, right, wrap_id, dv_eq, md_eq, quo_id, rem_id, ltr, advT, advV, advH, advG, av, next_, room, did, doT, doV, doH, doG, mayC, retry, until_, posT, Sl.nil]
set_option maxHeartbeats 1000000 in
theorem h23 : holds Try.prog (kNew sg23) := by
  refine fn_holds (l := [kCheck sg21, kClamp sg29]) ⟨h21, h29, trivial⟩ hP rs23 encPn_inj Try.func23 (by kernel_rfl) (c := code Try.f23) (by kernel_rfl) (an := an23) (by kernel_rfl) (pk := pk23) rfl (t := t23) (by kernel_rfl) ?_
  rintro ⟨p, n⟩ hpre
  refine ⟨by simp [pk23, KindsOk, encPS, encPSn, encPSnc, encPSA, encPn, encSS, encI, Pol.enc, Stt.enc, Ac.enc, Sl.atom, Sl.nil, Stt.zero, RK.ok], ?_⟩
  unfold t23
  refine call_fun (p) rfl (by simp only [vd1, vd2, vd3, vd4, vd5, vd6, vd7, reduceCtorEq, Option.some.injEq, new_, adv, doS, doN]) trivial ?_
  refine br_wp (fun c1 => ?_) (fun c1 => ?_)
  · refine need_wp ?_ ?_
    · (try simp only [vd1, vd2, vd3, vd4, vd5, vd6, vd7, reduceCtorEq, Option.some.injEq, new_, adv, doS, doN] at *) <;> grind (splits := 40) [chk, okP, clamp, right, wrap_id, dv_eq, md_eq, quo_id, rem_id, ltr, advT, advV, advH, advG, av, next_, room, did, doT, doV, doH, doG, mayC, retry, until_, posT, Sl.nil]
    refine ret_wp ?_
    (try simp only [vd1, vd2, vd3, vd4, vd5, vd6, vd7, reduceCtorEq, Option.some.injEq, new_, adv, doS, doN] at *) <;> grind (splits := 40) [chk, okP, clamp, right, wrap_id, dv_eq, md_eq, quo_id, rem_id, ltr, advT, advV, advH, advG, av, next_, room, did, doT, doV, doH, doG, mayC, retry, until_, posT, Sl.nil]
  · refine call_fun (n) rfl (by simp only [vd1, vd2, vd3, vd4, vd5, vd6, vd7, reduceCtorEq, Option.some.injEq, new_, adv, doS, doN]) trivial ?_
    refine need_wp ?_ ?_
    · (try simp only [vd1, vd2, vd3, vd4, vd5, vd6, vd7, reduceCtorEq, Option.some.injEq, new_, adv, doS, doN] at *) <;> grind (splits := 40) [chk, okP, clamp, right, wrap_id, dv_eq, md_eq, quo_id, rem_id, ltr, advT, advV, advH, advG, av, next_, room, did, doT, doV, doH, doG, mayC, retry, until_, posT, Sl.nil]
    refine ret_wp ?_
    (try simp only [vd1, vd2, vd3, vd4, vd5, vd6, vd7, reduceCtorEq, Option.some.injEq, new_, adv, doS, doN] at *) <;> grind (splits := 40) [chk, okP, clamp, right, wrap_id, dv_eq, md_eq, quo_id, rem_id, ltr, advT, advV, advH, advG, av, next_, room, did, doT, doV, doH, doG, mayC, retry, until_, posT, Sl.nil]
set_option maxHeartbeats 1000000 in
theorem h28 : holds Try.prog (kNext sg28) := by
  refine fn_holds (l := []) trivial hP rs28 encPn_inj Try.func28 (by kernel_rfl) (c := code Try.f28) (by kernel_rfl) (an := an28) (by kernel_rfl) (pk := pk28) rfl (t := t28) (by kernel_rfl) ?_
  rintro ⟨p, n⟩ hpre
  refine ⟨by simp [pk28, KindsOk, encPS, encPSn, encPSnc, encPSA, encPn, encSS, encI, Pol.enc, Stt.enc, Ac.enc, Sl.atom, Sl.nil, Stt.zero, RK.ok], ?_⟩
  unfold t28
  refine need_wp ?_ ?_
  · (try simp only [vd1, vd2, vd3, vd4, vd5, vd6, vd7, reduceCtorEq, Option.some.injEq, new_, adv, doS, doN] at *) <;> grind (splits := 40) [chk, okP, clamp, right, wrap_id, dv_eq, md_eq, quo_id, rem_id, ltr, advT, advV, advH, advG, av, next_, room, did, doT, doV, doH, doG, mayC, retry, until_, posT, Sl.nil]
  refine ret_wp ?_
  (try simp only [vd1, vd2, vd3, vd4, vd5, vd6, vd7, reduceCtorEq, Option.some.injEq, new_, adv, doS, doN] at *) <;> grind (splits := 40) [chk, okP, clamp, right, wrap_id, dv_eq, md_eq, quo_id, rem_id, ltr, advT, advV, advH, advG, av, next_, room, did, doT, doV, doH, doG, mayC, retry, until_, posT, Sl.nil]
set_option maxHeartbeats 1000000 in
theorem h35 : holds Try.prog (kBegin sg35) := by
  refine fn_holds (l := []) trivial hP rs35 encPn_inj Try.func35 (by kernel_rfl) (c := code Try.f35) (by kernel_rfl) (an := an35) (by kernel_rfl) (pk := pk35) rfl (t := t35) (by kernel_rfl) ?_
  rintro ⟨p, n⟩ hpre
  refine ⟨by simp [pk35, KindsOk, encPS, encPSn, encPSnc, encPSA, encPn, encSS, encI, Pol.enc, Stt.enc, Ac.enc, Sl.atom, Sl.nil, Stt.zero, RK.ok], ?_⟩
  unfold t35
  refine need_wp ?_ ?_
  · (try simp only [vd1, vd2, vd3, vd4, vd5, vd6, vd7, reduceCtorEq, Option.some.injEq, new_, adv, doS, doN] at *) <;> grind (splits := 40) [chk, okP, clamp, right, wrap_id, dv_eq, md_eq, quo_id, rem_id, ltr, advT, advV, advH, advG, av, next_, room, did, doT, doV, doH, doG, mayC, retry, until_, posT, Sl.nil]
  refine ret_wp ?_
  (try simp only [vd1, vd2, vd3, vd4, vd5, vd6, vd7, reduceCtorEq, Option.some.injEq, new_, adv, doS, doN] at *) <;> grind (splits := 40) [chk, okP, clamp, right, wrap_id, dv_eq, md_eq, quo_id, rem_id, ltr, advT, advV, advH, advG, av, next_, room, did, doT, doV, doH, doG, mayC, retry, until_, posT, Sl.nil]
set_option maxHeartbeats 1000000 in
theorem h18 : holds Try.prog (kAdv sg18) := by
  refine fn_holds (l := [kRight sg16, kClamp sg26]) ⟨h16, h26, trivial⟩ hP rs18 encPSn_inj Try.func18 (by kernel_rfl) (c := code Try.f18) (by kernel_rfl) (an := an18) (by kernel_rfl) (pk := pk18) rfl (t := t18) (by kernel_rfl) ?_
  rintro ⟨p, s, n⟩ hpre
  refine ⟨by simp [pk18, KindsOk, encPS, encPSn, encPSnc, encPSA, encPn, encSS, encI, Pol.enc, Stt.enc, Ac.enc, Sl.atom, Sl.nil, Stt.zero, RK.ok], ?_⟩
  unfold t18
  refine call_fun ((p, s)) rfl (by simp only [vd1, vd2, vd3, vd4, vd5, vd6, vd7, reduceCtorEq, Option.some.injEq, new_, adv, doS, doN]) trivial ?_
  refine br_wp (fun c1 => ?_) (fun c1 => ?_)
  · refine call_fun (n) rfl (by simp only [vd1, vd2, vd3, vd4, vd5, vd6, vd7, reduceCtorEq, Option.some.injEq, new_, adv, doS, doN]) trivial ?_
    refine need_wp ?_ ?_
    · (try simp only [vd1, vd2, vd3, vd4, vd5, vd6, vd7, reduceCtorEq, Option.some.injEq, new_, adv, doS, doN] at *) <;> grind (splits := 40) [chk, okP, clamp, right, wrap_id, dv_eq, md_eq, quo_id, rem_id, ltr, advT, advV, advH, advG, av, next_, room, did, doT, doV, doH, doG, mayC, retry, until_, posT, Sl.nil]
    refine br_wp (fun c2 => ?_) (fun c2 => ?_)
    · refine need_wp ?_ ?_
      · (try simp only [vd1, vd2, vd3, vd4, vd5, vd6, vd7, reduceCtorEq, Option.some.injEq, new_, adv, doS, doN] at *) <;> grind (splits := 40) [chk, okP, clamp, right, wrap_id, dv_eq, md_eq, quo_id, rem_id, ltr, advT, advV, advH, advG, av, next_, room, did, doT, doV, doH, doG, mayC, retry, until_, posT, Sl.nil]
      refine ret_wp ?_
      (try simp only [vd1, vd2, vd3, vd4, vd5, vd6, vd7, reduceCtorEq, Option.some.injEq, new_, adv, doS, doN] at *) <;> grind (splits := 40) [chk, okP, clamp, right, wrap_id, dv_eq, md_eq, quo_id, rem_id, ltr, advT, advV, advH, advG, av, next_, room, did, doT, doV, doH, doG, mayC, retry, until_, posT, Sl.nil]
    · refine need_wp ?_ ?_
      · (try simp only [vd1, vd2, vd3, vd4, vd5, vd6, vd7, reduceCtorEq, Option.some.injEq, new_, adv, doS, doN] at *) <;> grind (splits := 40) [chk, okP, clamp, right, wrap_id, dv_eq, md_eq, quo_id, rem_id, ltr, advT, advV, advH, advG, av, next_, room, did, doT, doV, doH, doG, mayC, retry, until_, posT, Sl.nil]
      refine ret_wp ?_
      (try simp only [vd1, vd2, vd3, vd4, vd5, vd6, vd7, reduceCtorEq, Option.some.injEq, new_, adv, doS, doN] at *) <;> grind (splits := 40) [chk, okP, clamp, right, wrap_id, dv_eq, md_eq, quo_id, rem_id, ltr, advT, advV, advH, advG, av, next_, room, did, doT, doV, doH, doG, mayC, retry, until_, posT, Sl.nil]
  · refine need_wp ?_ ?_
    · (try simp only [vd1, vd2, vd3, vd4, vd5, vd6, vd7, reduceCtorEq, Option.some.injEq, new_, adv, doS, doN] at *) <;> grind (splits := 40) [chk, okP, clamp, right, wrap_id, dv_eq, md_eq, quo_id, rem_id, ltr, advT, advV, advH, advG, av, next_, room, did, doT, doV, doH, doG, mayC, retry, until_, posT, Sl.nil]
    refine ret_wp ?_
    (try simp only [vd1, vd2, vd3, vd4, vd5, vd6, vd7, reduceCtorEq, Option.some.injEq, new_, adv, doS, doN] at *) <;> grind (splits := 40) [chk, okP, clamp, right, wrap_id, dv_eq, md_eq, quo_id, rem_id, ltr, advT, advV, advH, advG, av, next_, room, did, doT, doV, doH, doG, mayC, retry, until_, posT, Sl.nil]
set_option maxHeartbeats 1000000 in
theorem h31 : holds Try.prog (kAdvR sg31) := by
  refine fn_holds (l := [kRight sg32, kClamp sg29, kBegin sg35]) ⟨h32, h29, h35, trivial⟩ hP rs31 encPSn_inj Try.func31 (by kernel_rfl) (c := code Try.f31) (by kernel_rfl) (an := an31) (by kernel_rfl) (pk := pk31) rfl (t := t31) (by kernel_rfl) ?_
  rintro ⟨p, s, n⟩ hpre
  refine ⟨by simp [pk31, KindsOk, encPS, encPSn, encPSnc, encPSA, encPn, encSS, encI, Pol.enc, Stt.enc, Ac.enc, Sl.atom, Sl.nil, Stt.zero, RK.ok], ?_⟩
  unfold t31
  have hb := begin_iff (max s.t (clamp n)) s.t p.p
  refine call_fun ((p, s)) rfl (by simp only [vd1, vd2, vd3, vd4, vd5, vd6, vd7, reduceCtorEq, Option.some.injEq, new_, adv, doS, doN]) trivial ?_
  refine br_wp (fun c1 => ?_) (fun c1 => ?_)
  · refine call_fun (n) rfl (by simp only [vd1, vd2, vd3, vd4, vd5, vd6, vd7, reduceCtorEq, Option.some.injEq, new_, adv, doS, doN]) trivial ?_
    refine call_fun ((p, (max s.t (clamp n)))) rfl (by simp only [vd1, vd2, vd3, vd4, vd5, vd6, vd7, reduceCtorEq, Option.some.injEq, new_, adv, doS, doN]) (by (try simp only [vd1, vd2, vd3, vd4, vd5, vd6, vd7, reduceCtorEq, Option.some.injEq, new_, adv, doS, doN] at *) <;> grind (splits := 40) [chk, okP, clamp, right, wrap_id, dv_eq, md_eq, quo_id, rem_id, ltr, advT, advV, advH, advG, av, next_, room, did, doT, doV, doH, doG, mayC, retry, until_, posT, Sl.nil]) ?_
    refine br_wp (fun c2 => ?_) (fun c2 => ?_)
    · refine need_wp ?_ ?_
      · (try simp only [vd1, vd2, vd3, vd4, vd5, vd6, vd7, reduceCtorEq, Option.some.injEq, new_, adv, doS, doN] at *) <;> grind (splits := 40) [chk, okP, clamp, right, wrap_id, dv_eq, md_eq, quo_id, rem_id, ltr, advT, advV, advH, advG, av, next_, room, did, doT, doV, doH, doG, mayC, retry, until_, posT, Sl.nil]
      refine ret_wp ?_
      (try simp only [vd1, vd2, vd3, vd4, vd5, vd6, vd7, reduceCtorEq, Option.some.injEq, new_, adv, doS, doN] at *) <;> grind (splits := 40) [chk, okP, clamp, right, wrap_id, dv_eq, md_eq, quo_id, rem_id, ltr, advT, advV, advH, advG, av, next_, room, did, doT, doV, doH, doG, mayC, retry, until_, posT, Sl.nil]
    · refine need_wp ?_ ?_
      · (try simp only [vd1, vd2, vd3, vd4, vd5, vd6, vd7, reduceCtorEq, Option.some.injEq, new_, adv, doS, doN] at *) <;> grind (splits := 40) [chk, okP, clamp, right, wrap_id, dv_eq, md_eq, quo_id, rem_id, ltr, advT, advV, advH, advG, av, next_, room, did, doT, doV, doH, doG, mayC, retry, until_, posT, Sl.nil]
      refine ret_wp ?_
      (try simp only [vd1, vd2, vd3, vd4, vd5, vd6, vd7, reduceCtorEq, Option.some.injEq, new_, adv, doS, doN] at *) <;> grind (splits := 40) [chk, okP, clamp, right, wrap_id, dv_eq, md_eq, quo_id, rem_id, ltr, advT, advV, advH, advG, av, next_, room, did, doT, doV, doH, doG, mayC, retry, until_, posT, Sl.nil]
  · refine need_wp ?_ ?_
    · (try simp only [vd1, vd2, vd3, vd4, vd5, vd6, vd7, reduceCtorEq, Option.some.injEq, new_, adv, doS, doN] at *) <;> grind (splits := 40) [chk, okP, clamp, right, wrap_id, dv_eq, md_eq, quo_id, rem_id, ltr, advT, advV, advH, advG, av, next_, room, did, doT, doV, doH, doG, mayC, retry, until_, posT, Sl.nil]
    refine ret_wp ?_
    (try simp only [vd1, vd2, vd3, vd4, vd5, vd6, vd7, reduceCtorEq, Option.some.injEq, new_, adv, doS, doN] at *) <;> grind (splits := 40) [chk, okP, clamp, right, wrap_id, dv_eq, md_eq, quo_id, rem_id, ltr, advT, advV, advH, advG, av, next_, room, did, doT, doV, doH, doG, mayC, retry, until_, posT, Sl.nil]
set_option maxHeartbeats 1000000 in
theorem h17 : holds Try.prog (kRoom sg17) := by
  refine fn_holds (l := [kRight sg16, kAdv sg18]) ⟨h16, h18, trivial⟩ hP rs17 encPSn_inj Try.func17 (by kernel_rfl) (c := code Try.f17) (by kernel_rfl) (an := an17) (by kernel_rfl) (pk := pk17) rfl (t := t17) (by kernel_rfl) ?_
  rintro ⟨p, s, n⟩ hpre
  refine ⟨by simp [pk17, KindsOk, encPS, encPSn, encPSnc, encPSA, encPn, encSS, encI, Pol.enc, Stt.enc, Ac.enc, Sl.atom, Sl.nil, Stt.zero, RK.ok], ?_⟩
  unfold t17
  refine call_fun ((p, s)) rfl (by simp only [vd1, vd2, vd3, vd4, vd5, vd6, vd7, reduceCtorEq, Option.some.injEq, new_, adv, doS, doN]) trivial ?_
  refine br_wp (fun c1 => ?_) (fun c1 => ?_)
  · refine call_fun ((p, s, n)) rfl (by simp only [vd1, vd2, vd3, vd4, vd5, vd6, vd7, reduceCtorEq, Option.some.injEq, new_, adv, doS, doN]) trivial ?_
    refine ret_wp ?_
    (try simp only [vd1, vd2, vd3, vd4, vd5, vd6, vd7, reduceCtorEq, Option.some.injEq, new_, adv, doS, doN] at *) <;> grind (splits := 40) [chk, okP, clamp, right, wrap_id, dv_eq, md_eq, quo_id, rem_id, ltr, advT, advV, advH, advG, av, next_, room, did, doT, doV, doH, doG, mayC, retry, until_, posT, Sl.nil]
  · refine ret_wp ?_
    (try simp only [vd1, vd2, vd3, vd4, vd5, vd6, vd7, reduceCtorEq, Option.some.injEq, new_, adv, doS, doN] at *) <;> grind (splits := 40) [chk, okP, clamp, right, wrap_id, dv_eq, md_eq, quo_id, rem_id, ltr, advT, advV, advH, advG, av, next_, room, did, doT, doV, doH, doG, mayC, retry, until_, posT, Sl.nil]
set_option maxHeartbeats 1000000 in
theorem h33 : holds Try.prog (kRoom sg33) := by
  refine fn_holds (l := [kRight sg32, kAdvR sg31]) ⟨h32, h31, trivial⟩ hP rs33 encPSn_inj Try.func33 (by kernel_rfl) (c := code Try.f33) (by kernel_rfl) (an := an33) (by kernel_rfl) (pk := pk33) rfl (t := t33) (by kernel_rfl) ?_
  rintro ⟨p, s, n⟩ hpre
  refine ⟨by simp [pk33, KindsOk, encPS, encPSn, encPSnc, encPSA, encPn, encSS, encI, Pol.enc, Stt.enc, Ac.enc, Sl.atom, Sl.nil, Stt.zero, RK.ok], ?_⟩
  unfold t33
  refine call_fun ((p, s)) rfl (by simp only [vd1, vd2, vd3, vd4, vd5, vd6, vd7, reduceCtorEq, Option.some.injEq, new_, adv, doS, doN]) trivial ?_
  refine br_wp (fun c1 => ?_) (fun c1 => ?_)
  · refine call_fun ((p, s, n)) rfl (by simp only [vd1, vd2, vd3, vd4, vd5, vd6, vd7, reduceCtorEq, Option.some.injEq, new_, adv, doS, doN]) trivial ?_
    refine ret_wp ?_
    (try simp only [vd1, vd2, vd3, vd4, vd5, vd6, vd7, reduceCtorEq, Option.some.injEq, new_, adv, doS, doN] at *) <;> grind (splits := 40) [chk, okP, clamp, right, wrap_id, dv_eq, md_eq, quo_id, rem_id, ltr, advT, advV, advH, advG, av, next_, room, did, doT, doV, doH, doG, mayC, retry, until_, posT, Sl.nil]
  · refine ret_wp ?_
    (try simp only [vd1, vd2, vd3, vd4, vd5, vd6, vd7, reduceCtorEq, Option.some.injEq, new_, adv, doS, doN] at *) <;> grind (splits := 40) [chk, okP, clamp, right, wrap_id, dv_eq, md_eq, quo_id, rem_id, ltr, advT, advV, advH, advG, av, next_, room, did, doT, doV, doH, doG, mayC, retry, until_, posT, Sl.nil]
set_option maxHeartbeats 1000000 in
theorem h27 : holds Try.prog (kChanges sg27) := by
  refine fn_holds (l := []) trivial hP rs27 (fun _ _ _ => rfl) Try.func27 (by kernel_rfl) (c := code Try.f27) (by kernel_rfl) (an := an27) (by kernel_rfl) (pk := pk27) rfl (t := t27) (by kernel_rfl) ?_
  rintro _ hpre
  refine ⟨by simp [pk27, KindsOk, encPS, encPSn, encPSnc, encPSA, encPn, encSS, encI, Pol.enc, Stt.enc, Ac.enc, Sl.atom, Sl.nil, Stt.zero, RK.ok], ?_⟩
  unfold t27
  refine ret_wp ?_
  (try simp only [vd1, vd2, vd3, vd4, vd5, vd6, vd7, reduceCtorEq, Option.some.injEq, new_, adv, doS, doN] at *) <;> grind (splits := 40) [chk, okP, clamp, right, wrap_id, dv_eq, md_eq, quo_id, rem_id, ltr, advT, advV, advH, advG, av, next_, room, did, doT, doV, doH, doG, mayC, retry, until_, posT, Sl.nil]
set_option maxHeartbeats 1000000 in
theorem h19 : holds Try.prog (kRetry sg19) := by
  refine fn_holds (l := [kRight sg16, kAdv sg18, kNext sg28]) ⟨h16, h18, h28, trivial⟩ hP rs19 encPSnc_inj Try.func19 (by kernel_rfl) (c := code Try.f19) (by kernel_rfl) (an := an19) (by kernel_rfl) (pk := pk19) rfl (t := t19) (by kernel_rfl) ?_
  rintro ⟨p, s, n, c⟩ hpre
  refine ⟨by simp [pk19, KindsOk, encPS, encPSn, encPSnc, encPSA, encPn, encSS, encI, Pol.enc, Stt.enc, Ac.enc, Sl.atom, Sl.nil, Stt.zero, RK.ok], ?_⟩
  unfold t19
  refine call_fun ((p, s)) rfl (by simp only [vd1, vd2, vd3, vd4, vd5, vd6, vd7, reduceCtorEq, Option.some.injEq, new_, adv, doS, doN]) trivial ?_
  refine br_wp (fun c1 => ?_) (fun c1 => ?_)
  · refine br_wp (fun c2 => ?_) (fun c2 => ?_)
    · refine ret_wp ?_
      (try simp only [vd1, vd2, vd3, vd4, vd5, vd6, vd7, reduceCtorEq, Option.some.injEq, new_, adv, doS, doN] at *) <;> grind (splits := 40) [chk, okP, clamp, right, wrap_id, dv_eq, md_eq, quo_id, rem_id, ltr, advT, advV, advH, advG, av, next_, room, did, doT, doV, doH, doG, mayC, retry, until_, posT, Sl.nil]
    · refine br_wp (fun c3 => ?_) (fun c3 => ?_)
      · refine ret_wp ?_
        (try simp only [vd1, vd2, vd3, vd4, vd5, vd6, vd7, reduceCtorEq, Option.some.injEq, new_, adv, doS, doN] at *) <;> grind (splits := 40) [chk, okP, clamp, right, wrap_id, dv_eq, md_eq, quo_id, rem_id, ltr, advT, advV, advH, advG, av, next_, room, did, doT, doV, doH, doG, mayC, retry, until_, posT, Sl.nil]
      · refine call_fun ((p, s, n)) rfl (by simp only [vd1, vd2, vd3, vd4, vd5, vd6, vd7, reduceCtorEq, Option.some.injEq, new_, adv, doS, doN]) trivial ?_
        refine br_wp (fun c4 => ?_) (fun c4 => ?_)
        · refine call_fun ((p, (adv p s n Sl.nil).t)) rfl (by simp only [vd1, vd2, vd3, vd4, vd5, vd6, vd7, reduceCtorEq, Option.some.injEq, new_, adv, doS, doN]) (by (try simp only [vd1, vd2, vd3, vd4, vd5, vd6, vd7, reduceCtorEq, Option.some.injEq, new_, adv, doS, doN] at *) <;> grind (splits := 40) [chk, okP, clamp, right, wrap_id, dv_eq, md_eq, quo_id, rem_id, ltr, advT, advV, advH, advG, av, next_, room, did, doT, doV, doH, doG, mayC, retry, until_, posT, Sl.nil]) ?_
          refine ret_wp ?_
          (try simp only [vd1, vd2, vd3, vd4, vd5, vd6, vd7, reduceCtorEq, Option.some.injEq, new_, adv, doS, doN] at *) <;> grind (splits := 40) [chk, okP, clamp, right, wrap_id, dv_eq, md_eq, quo_id, rem_id, ltr, advT, advV, advH, advG, av, next_, room, did, doT, doV, doH, doG, mayC, retry, until_, posT, Sl.nil]
        · refine ret_wp ?_
          (try simp only [vd1, vd2, vd3, vd4, vd5, vd6, vd7, reduceCtorEq, Option.some.injEq, new_, adv, doS, doN] at *) <;> grind (splits := 40) [chk, okP, clamp, right, wrap_id, dv_eq, md_eq, quo_id, rem_id, ltr, advT, advV, advH, advG, av, next_, room, did, doT, doV, doH, doG, mayC, retry, until_, posT, Sl.nil]
  · refine ret_wp ?_
    (try simp only [vd1, vd2, vd3, vd4, vd5, vd6, vd7, reduceCtorEq, Option.some.injEq, new_, adv, doS, doN] at *) <;> grind (splits := 40) [chk, okP, clamp, right, wrap_id, dv_eq, md_eq, quo_id, rem_id, ltr, advT, advV, advH, advG, av, next_, room, did, doT, doV, doH, doG, mayC, retry, until_, posT, Sl.nil]
set_option maxHeartbeats 1000000 in
theorem h30 : holds Try.prog (kRetry sg30) := by
  refine fn_holds (l := [kRight sg32, kAdvR sg31, kBegin sg35]) ⟨h32, h31, h35, trivial⟩ hP rs30 encPSnc_inj Try.func30 (by kernel_rfl) (c := code Try.f30) (by kernel_rfl) (an := an30) (by kernel_rfl) (pk := pk30) rfl (t := t30) (by kernel_rfl) ?_
  rintro ⟨p, s, n, c⟩ hpre
  refine ⟨by simp [pk30, KindsOk, encPS, encPSn, encPSnc, encPSA, encPn, encSS, encI, Pol.enc, Stt.enc, Ac.enc, Sl.atom, Sl.nil, Stt.zero, RK.ok], ?_⟩
  unfold t30
  refine call_fun ((p, s)) rfl (by simp only [vd1, vd2, vd3, vd4, vd5, vd6, vd7, reduceCtorEq, Option.some.injEq, new_, adv, doS, doN]) trivial ?_
  refine br_wp (fun c1 => ?_) (fun c1 => ?_)
  · refine br_wp (fun c2 => ?_) (fun c2 => ?_)
    · refine ret_wp ?_
      (try simp only [vd1, vd2, vd3, vd4, vd5, vd6, vd7, reduceCtorEq, Option.some.injEq, new_, adv, doS, doN] at *) <;> grind (splits := 40) [chk, okP, clamp, right, wrap_id, dv_eq, md_eq, quo_id, rem_id, ltr, advT, advV, advH, advG, av, next_, room, did, doT, doV, doH, doG, mayC, retry, until_, posT, Sl.nil]
    · refine br_wp (fun c3 => ?_) (fun c3 => ?_)
      · refine ret_wp ?_
        (try simp only [vd1, vd2, vd3, vd4, vd5, vd6, vd7, reduceCtorEq, Option.some.injEq, new_, adv, doS, doN] at *) <;> grind (splits := 40) [chk, okP, clamp, right, wrap_id, dv_eq, md_eq, quo_id, rem_id, ltr, advT, advV, advH, advG, av, next_, room, did, doT, doV, doH, doG, mayC, retry, until_, posT, Sl.nil]
      · refine call_fun ((p, s, n)) rfl (by simp only [vd1, vd2, vd3, vd4, vd5, vd6, vd7, reduceCtorEq, Option.some.injEq, new_, adv, doS, doN]) trivial ?_
        refine br_wp (fun c4 => ?_) (fun c4 => ?_)
        · refine ret_wp ?_
          (try simp only [vd1, vd2, vd3, vd4, vd5, vd6, vd7, reduceCtorEq, Option.some.injEq, new_, adv, doS, doN] at *) <;> grind (splits := 40) [chk, okP, clamp, right, wrap_id, dv_eq, md_eq, quo_id, rem_id, ltr, advT, advV, advH, advG, av, next_, room, did, doT, doV, doH, doG, mayC, retry, until_, posT, Sl.nil]
        · refine call_fun ((p, (adv p s n s.g).t)) rfl (by simp only [vd1, vd2, vd3, vd4, vd5, vd6, vd7, reduceCtorEq, Option.some.injEq, new_, adv, doS, doN]) (by (try simp only [vd1, vd2, vd3, vd4, vd5, vd6, vd7, reduceCtorEq, Option.some.injEq, new_, adv, doS, doN] at *) <;> grind (splits := 40) [chk, okP, clamp, right, wrap_id, dv_eq, md_eq, quo_id, rem_id, ltr, advT, advV, advH, advG, av, next_, room, did, doT, doV, doH, doG, mayC, retry, until_, posT, Sl.nil]) ?_
          refine ret_wp ?_
          (try simp only [vd1, vd2, vd3, vd4, vd5, vd6, vd7, reduceCtorEq, Option.some.injEq, new_, adv, doS, doN] at *) <;> grind (splits := 40) [chk, okP, clamp, right, wrap_id, dv_eq, md_eq, quo_id, rem_id, ltr, advT, advV, advH, advG, av, next_, room, did, doT, doV, doH, doG, mayC, retry, until_, posT, Sl.nil]
  · refine ret_wp ?_
    (try simp only [vd1, vd2, vd3, vd4, vd5, vd6, vd7, reduceCtorEq, Option.some.injEq, new_, adv, doS, doN] at *) <;> grind (splits := 40) [chk, okP, clamp, right, wrap_id, dv_eq, md_eq, quo_id, rem_id, ltr, advT, advV, advH, advG, av, next_, room, did, doT, doV, doH, doG, mayC, retry, until_, posT, Sl.nil]
set_option maxHeartbeats 1000000 in
theorem h20 : holds Try.prog (kUntil sg20) := by
  refine fn_holds (l := [kRight sg16, kAdv sg18, kNext sg28]) ⟨h16, h18, h28, trivial⟩ hP rs20 encPSn_inj Try.func20 (by kernel_rfl) (c := code Try.f20) (by kernel_rfl) (an := an20) (by kernel_rfl) (pk := pk20) rfl (t := t20) (by kernel_rfl) ?_
  rintro ⟨p, s, n⟩ hpre
  refine ⟨by simp [pk20, KindsOk, encPS, encPSn, encPSnc, encPSA, encPn, encSS, encI, Pol.enc, Stt.enc, Ac.enc, Sl.atom, Sl.nil, Stt.zero, RK.ok], ?_⟩
  unfold t20
  refine call_fun ((p, s)) rfl (by simp only [vd1, vd2, vd3, vd4, vd5, vd6, vd7, reduceCtorEq, Option.some.injEq, new_, adv, doS, doN]) trivial ?_
  refine br_wp (fun c1 => ?_) (fun c1 => ?_)
  · refine br_wp (fun c2 => ?_) (fun c2 => ?_)
    · refine ret_wp ?_
      (try simp only [vd1, vd2, vd3, vd4, vd5, vd6, vd7, reduceCtorEq, Option.some.injEq, new_, adv, doS, doN] at *) <;> grind (splits := 40) [chk, okP, clamp, right, wrap_id, dv_eq, md_eq, quo_id, rem_id, ltr, advT, advV, advH, advG, av, next_, room, did, doT, doV, doH, doG, mayC, retry, until_, posT, Sl.nil]
    · refine call_fun ((p, s, n)) rfl (by simp only [vd1, vd2, vd3, vd4, vd5, vd6, vd7, reduceCtorEq, Option.some.injEq, new_, adv, doS, doN]) trivial ?_
      refine br_wp (fun c3 => ?_) (fun c3 => ?_)
      · refine call_fun ((p, (adv p s n Sl.nil).t)) rfl (by simp only [vd1, vd2, vd3, vd4, vd5, vd6, vd7, reduceCtorEq, Option.some.injEq, new_, adv, doS, doN]) (by (try simp only [vd1, vd2, vd3, vd4, vd5, vd6, vd7, reduceCtorEq, Option.some.injEq, new_, adv, doS, doN] at *) <;> grind (splits := 40) [chk, okP, clamp, right, wrap_id, dv_eq, md_eq, quo_id, rem_id, ltr, advT, advV, advH, advG, av, next_, room, did, doT, doV, doH, doG, mayC, retry, until_, posT, Sl.nil]) ?_
        refine ret_wp ?_
        (try simp only [vd1, vd2, vd3, vd4, vd5, vd6, vd7, reduceCtorEq, Option.some.injEq, new_, adv, doS, doN] at *) <;> grind (splits := 40) [chk, okP, clamp, right, wrap_id, dv_eq, md_eq, quo_id, rem_id, ltr, advT, advV, advH, advG, av, next_, room, did, doT, doV, doH, doG, mayC, retry, until_, posT, Sl.nil]
      · refine ret_wp ?_
        (try simp only [vd1, vd2, vd3, vd4, vd5, vd6, vd7, reduceCtorEq, Option.some.injEq, new_, adv, doS, doN] at *) <;> grind (splits := 40) [chk, okP, clamp, right, wrap_id, dv_eq, md_eq, quo_id, rem_id, ltr, advT, advV, advH, advG, av, next_, room, did, doT, doV, doH, doG, mayC, retry, until_, posT, Sl.nil]
  · refine ret_wp ?_
    (try simp only [vd1, vd2, vd3, vd4, vd5, vd6, vd7, reduceCtorEq, Option.some.injEq, new_, adv, doS, doN] at *) <;> grind (splits := 40) [chk, okP, clamp, right, wrap_id, dv_eq, md_eq, quo_id, rem_id, ltr, advT, advV, advH, advG, av, next_, room, did, doT, doV, doH, doG, mayC, retry, until_, posT, Sl.nil]
set_option maxHeartbeats 1000000 in
theorem h34 : holds Try.prog (kUntil sg34) := by
  refine fn_holds (l := [kRight sg32, kAdvR sg31, kBegin sg35]) ⟨h32, h31, h35, trivial⟩ hP rs34 encPSn_inj Try.func34 (by kernel_rfl) (c := code Try.f34) (by kernel_rfl) (an := an34) (by kernel_rfl) (pk := pk34) rfl (t := t34) (by kernel_rfl) ?_
  rintro ⟨p, s, n⟩ hpre
  refine ⟨by simp [pk34, KindsOk, encPS, encPSn, encPSnc, encPSA, encPn, encSS, encI, Pol.enc, Stt.enc, Ac.enc, Sl.atom, Sl.nil, Stt.zero, RK.ok], ?_⟩
  unfold t34
  refine call_fun ((p, s)) rfl (by simp only [vd1, vd2, vd3, vd4, vd5, vd6, vd7, reduceCtorEq, Option.some.injEq, new_, adv, doS, doN]) trivial ?_
  refine br_wp (fun c1 => ?_) (fun c1 => ?_)
  · refine br_wp (fun c2 => ?_) (fun c2 => ?_)
    · refine ret_wp ?_
      (try simp only [vd1, vd2, vd3, vd4, vd5, vd6, vd7, reduceCtorEq, Option.some.injEq, new_, adv, doS, doN] at *) <;> grind (splits := 40) [chk, okP, clamp, right, wrap_id, dv_eq, md_eq, quo_id, rem_id, ltr, advT, advV, advH, advG, av, next_, room, did, doT, doV, doH, doG, mayC, retry, until_, posT, Sl.nil]
    · refine call_fun ((p, s, n)) rfl (by simp only [vd1, vd2, vd3, vd4, vd5, vd6, vd7, reduceCtorEq, Option.some.injEq, new_, adv, doS, doN]) trivial ?_
      refine br_wp (fun c3 => ?_) (fun c3 => ?_)
      · refine ret_wp ?_
        (try simp only [vd1, vd2, vd3, vd4, vd5, vd6, vd7, reduceCtorEq, Option.some.injEq, new_, adv, doS, doN] at *) <;> grind (splits := 40) [chk, okP, clamp, right, wrap_id, dv_eq, md_eq, quo_id, rem_id, ltr, advT, advV, advH, advG, av, next_, room, did, doT, doV, doH, doG, mayC, retry, until_, posT, Sl.nil]
      · refine call_fun ((p, (adv p s n s.g).t)) rfl (by simp only [vd1, vd2, vd3, vd4, vd5, vd6, vd7, reduceCtorEq, Option.some.injEq, new_, adv, doS, doN]) (by (try simp only [vd1, vd2, vd3, vd4, vd5, vd6, vd7, reduceCtorEq, Option.some.injEq, new_, adv, doS, doN] at *) <;> grind (splits := 40) [chk, okP, clamp, right, wrap_id, dv_eq, md_eq, quo_id, rem_id, ltr, advT, advV, advH, advG, av, next_, room, did, doT, doV, doH, doG, mayC, retry, until_, posT, Sl.nil]) ?_
        refine ret_wp ?_
        (try simp only [vd1, vd2, vd3, vd4, vd5, vd6, vd7, reduceCtorEq, Option.some.injEq, new_, adv, doS, doN] at *) <;> grind (splits := 40) [chk, okP, clamp, right, wrap_id, dv_eq, md_eq, quo_id, rem_id, ltr, advT, advV, advH, advG, av, next_, room, did, doT, doV, doH, doG, mayC, retry, until_, posT, Sl.nil]
  · refine ret_wp ?_
    (try simp only [vd1, vd2, vd3, vd4, vd5, vd6, vd7, reduceCtorEq, Option.some.injEq, new_, adv, doS, doN] at *) <;> grind (splits := 40) [chk, okP, clamp, right, wrap_id, dv_eq, md_eq, quo_id, rem_id, ltr, advT, advV, advH, advG, av, next_, room, did, doT, doV, doH, doG, mayC, retry, until_, posT, Sl.nil]
set_option maxHeartbeats 1000000 in
theorem h14 : holds Try.prog (kDo sg14) := by
  refine fn_holds (l := [kRight sg16, kAdv sg18, kChanges sg27]) ⟨h16, h18, h27, trivial⟩ hP rs14 encPSA_inj Try.func14 (by kernel_rfl) (c := code Try.f14) (by kernel_rfl) (an := an14) (by kernel_rfl) (pk := pk14) rfl (t := t14) (by kernel_rfl) ?_
  rintro ⟨p, s, a⟩ hpre
  refine ⟨by simp [pk14, KindsOk, encPS, encPSn, encPSnc, encPSA, encPn, encSS, encI, Pol.enc, Stt.enc, Ac.enc, Sl.atom, Sl.nil, Stt.zero, RK.ok], ?_⟩
  unfold t14
  refine call_fun ((p, s)) rfl (by simp only [vd1, vd2, vd3, vd4, vd5, vd6, vd7, reduceCtorEq, Option.some.injEq, new_, adv, doS, doN]) trivial ?_
  refine br_wp (fun c1 => ?_) (fun c1 => ?_)
  · refine call_fun ((p, s, a.t)) rfl (by simp only [vd1, vd2, vd3, vd4, vd5, vd6, vd7, reduceCtorEq, Option.some.injEq, new_, adv, doS, doN]) trivial ?_
    refine call_fun (()) rfl (by simp only [vd1, vd2, vd3, vd4, vd5, vd6, vd7, reduceCtorEq, Option.some.injEq, new_, adv, doS, doN]) trivial ?_
    refine br_wp (fun c2 => ?_) (fun c2 => ?_)
    · refine br_wp (fun c3 => ?_) (fun c3 => ?_)
      · refine br_wp (fun c4 => ?_) (fun c4 => ?_)
        · refine need_wp ?_ ?_
          · (try simp only [vd1, vd2, vd3, vd4, vd5, vd6, vd7, reduceCtorEq, Option.some.injEq, new_, adv, doS, doN] at *) <;> grind (splits := 40) [chk, okP, clamp, right, wrap_id, dv_eq, md_eq, quo_id, rem_id, ltr, advT, advV, advH, advG, av, next_, room, did, doT, doV, doH, doG, mayC, retry, until_, posT, Sl.nil]
          refine ret_wp ?_
          (try simp only [vd1, vd2, vd3, vd4, vd5, vd6, vd7, reduceCtorEq, Option.some.injEq, new_, adv, doS, doN] at *) <;> grind (splits := 40) [chk, okP, clamp, right, wrap_id, dv_eq, md_eq, quo_id, rem_id, ltr, advT, advV, advH, advG, av, next_, room, did, doT, doV, doH, doG, mayC, retry, until_, posT, Sl.nil]
        · refine br_wp (fun c5 => ?_) (fun c5 => ?_)
          · refine need_wp ?_ ?_
            · (try simp only [vd1, vd2, vd3, vd4, vd5, vd6, vd7, reduceCtorEq, Option.some.injEq, new_, adv, doS, doN] at *) <;> grind (splits := 40) [chk, okP, clamp, right, wrap_id, dv_eq, md_eq, quo_id, rem_id, ltr, advT, advV, advH, advG, av, next_, room, did, doT, doV, doH, doG, mayC, retry, until_, posT, Sl.nil]
            refine ret_wp ?_
            (try simp only [vd1, vd2, vd3, vd4, vd5, vd6, vd7, reduceCtorEq, Option.some.injEq, new_, adv, doS, doN] at *) <;> grind (splits := 40) [chk, okP, clamp, right, wrap_id, dv_eq, md_eq, quo_id, rem_id, ltr, advT, advV, advH, advG, av, next_, room, did, doT, doV, doH, doG, mayC, retry, until_, posT, Sl.nil]
          · refine br_wp (fun c6 => ?_) (fun c6 => ?_)
            · refine need_wp ?_ ?_
              · (try simp only [vd1, vd2, vd3, vd4, vd5, vd6, vd7, reduceCtorEq, Option.some.injEq, new_, adv, doS, doN] at *) <;> grind (splits := 40) [chk, okP, clamp, right, wrap_id, dv_eq, md_eq, quo_id, rem_id, ltr, advT, advV, advH, advG, av, next_, room, did, doT, doV, doH, doG, mayC, retry, until_, posT, Sl.nil]
              refine ret_wp ?_
              (try simp only [vd1, vd2, vd3, vd4, vd5, vd6, vd7, reduceCtorEq, Option.some.injEq, new_, adv, doS, doN] at *) <;> grind (splits := 40) [chk, okP, clamp, right, wrap_id, dv_eq, md_eq, quo_id, rem_id, ltr, advT, advV, advH, advG, av, next_, room, did, doT, doV, doH, doG, mayC, retry, until_, posT, Sl.nil]
            · refine need_wp ?_ ?_
              · (try simp only [vd1, vd2, vd3, vd4, vd5, vd6, vd7, reduceCtorEq, Option.some.injEq, new_, adv, doS, doN] at *) <;> grind (splits := 40) [chk, okP, clamp, right, wrap_id, dv_eq, md_eq, quo_id, rem_id, ltr, advT, advV, advH, advG, av, next_, room, did, doT, doV, doH, doG, mayC, retry, until_, posT, Sl.nil]
              refine ret_wp ?_
              (try simp only [vd1, vd2, vd3, vd4, vd5, vd6, vd7, reduceCtorEq, Option.some.injEq, new_, adv, doS, doN] at *) <;> grind (splits := 40) [chk, okP, clamp, right, wrap_id, dv_eq, md_eq, quo_id, rem_id, ltr, advT, advV, advH, advG, av, next_, room, did, doT, doV, doH, doG, mayC, retry, until_, posT, Sl.nil]
      · refine br_wp (fun c7 => ?_) (fun c7 => ?_)
        · refine need_wp ?_ ?_
          · (try simp only [vd1, vd2, vd3, vd4, vd5, vd6, vd7, reduceCtorEq, Option.some.injEq, new_, adv, doS, doN] at *) <;> grind (splits := 40) [chk, okP, clamp, right, wrap_id, dv_eq, md_eq, quo_id, rem_id, ltr, advT, advV, advH, advG, av, next_, room, did, doT, doV, doH, doG, mayC, retry, until_, posT, Sl.nil]
          refine ret_wp ?_
          (try simp only [vd1, vd2, vd3, vd4, vd5, vd6, vd7, reduceCtorEq, Option.some.injEq, new_, adv, doS, doN] at *) <;> grind (splits := 40) [chk, okP, clamp, right, wrap_id, dv_eq, md_eq, quo_id, rem_id, ltr, advT, advV, advH, advG, av, next_, room, did, doT, doV, doH, doG, mayC, retry, until_, posT, Sl.nil]
        · refine br_wp (fun c8 => ?_) (fun c8 => ?_)
          · refine need_wp ?_ ?_
            · (try simp only [vd1, vd2, vd3, vd4, vd5, vd6, vd7, reduceCtorEq, Option.some.injEq, new_, adv, doS, doN] at *) <;> grind (splits := 40) [chk, okP, clamp, right, wrap_id, dv_eq, md_eq, quo_id, rem_id, ltr, advT, advV, advH, advG, av, next_, room, did, doT, doV, doH, doG, mayC, retry, until_, posT, Sl.nil]
            refine ret_wp ?_
            (try simp only [vd1, vd2, vd3, vd4, vd5, vd6, vd7, reduceCtorEq, Option.some.injEq, new_, adv, doS, doN] at *) <;> grind (splits := 40) [chk, okP, clamp, right, wrap_id, dv_eq, md_eq, quo_id, rem_id, ltr, advT, advV, advH, advG, av, next_, room, did, doT, doV, doH, doG, mayC, retry, until_, posT, Sl.nil]
          · refine br_wp (fun c9 => ?_) (fun c9 => ?_)
            · refine need_wp ?_ ?_
              · (try simp only [vd1, vd2, vd3, vd4, vd5, vd6, vd7, reduceCtorEq, Option.some.injEq, new_, adv, doS, doN] at *) <;> grind (splits := 40) [chk, okP, clamp, right, wrap_id, dv_eq, md_eq, quo_id, rem_id, ltr, advT, advV, advH, advG, av, next_, room, did, doT, doV, doH, doG, mayC, retry, until_, posT, Sl.nil]
              refine ret_wp ?_
              (try simp only [vd1, vd2, vd3, vd4, vd5, vd6, vd7, reduceCtorEq, Option.some.injEq, new_, adv, doS, doN] at *) <;> grind (splits := 40) [chk, okP, clamp, right, wrap_id, dv_eq, md_eq, quo_id, rem_id, ltr, advT, advV, advH, advG, av, next_, room, did, doT, doV, doH, doG, mayC, retry, until_, posT, Sl.nil]
            · refine need_wp ?_ ?_
              · (try simp only [vd1, vd2, vd3, vd4, vd5, vd6, vd7, reduceCtorEq, Option.some.injEq, new_, adv, doS, doN] at *) <;> grind (splits := 40) [chk, okP, clamp, right, wrap_id, dv_eq, md_eq, quo_id, rem_id, ltr, advT, advV, advH, advG, av, next_, room, did, doT, doV, doH, doG, mayC, retry, until_, posT, Sl.nil]
              refine ret_wp ?_
              (try simp only [vd1, vd2, vd3, vd4, vd5, vd6, vd7, reduceCtorEq, Option.some.injEq, new_, adv, doS, doN] at *) <;> grind (splits := 40) [chk, okP, clamp, right, wrap_id, dv_eq, md_eq, quo_id, rem_id, ltr, advT, advV, advH, advG, av, next_, room, did, doT, doV, doH, doG, mayC, retry, until_, posT, Sl.nil]
    · refine br_wp (fun c10 => ?_) (fun c10 => ?_)
      · refine br_wp (fun c11 => ?_) (fun c11 => ?_)
        · refine br_wp (fun c12 => ?_) (fun c12 => ?_)
          · refine need_wp ?_ ?_
            · (try simp only [vd1, vd2, vd3, vd4, vd5, vd6, vd7, reduceCtorEq, Option.some.injEq, new_, adv, doS, doN] at *) <;> grind (splits := 40) [chk, okP, clamp, right, wrap_id, dv_eq, md_eq, quo_id, rem_id, ltr, advT, advV, advH, advG, av, next_, room, did, doT, doV, doH, doG, mayC, retry, until_, posT, Sl.nil]
            refine ret_wp ?_
            (try simp only [vd1, vd2, vd3, vd4, vd5, vd6, vd7, reduceCtorEq, Option.some.injEq, new_, adv, doS, doN] at *) <;> grind (splits := 40) [chk, okP, clamp, right, wrap_id, dv_eq, md_eq, quo_id, rem_id, ltr, advT, advV, advH, advG, av, next_, room, did, doT, doV, doH, doG, mayC, retry, until_, posT, Sl.nil]
          · refine br_wp (fun c13 => ?_) (fun c13 => ?_)
            · refine need_wp ?_ ?_
              · (try simp only [vd1, vd2, vd3, vd4, vd5, vd6, vd7, reduceCtorEq, Option.some.injEq, new_, adv, doS, doN] at *) <;> grind (splits := 40) [chk, okP, clamp, right, wrap_id, dv_eq, md_eq, quo_id, rem_id, ltr, advT, advV, advH, advG, av, next_, room, did, doT, doV, doH, doG, mayC, retry, until_, posT, Sl.nil]
              refine ret_wp ?_
              (try simp only [vd1, vd2, vd3, vd4, vd5, vd6, vd7, reduceCtorEq, Option.some.injEq, new_, adv, doS, doN] at *) <;> grind (splits := 40) [chk, okP, clamp, right, wrap_id, dv_eq, md_eq, quo_id, rem_id, ltr, advT, advV, advH, advG, av, next_, room, did, doT, doV, doH, doG, mayC, retry, until_, posT, Sl.nil]
            · refine br_wp (fun c14 => ?_) (fun c14 => ?_)
              · refine need_wp ?_ ?_
                · (try simp only [vd1, vd2, vd3, vd4, vd5, vd6, vd7, reduceCtorEq, Option.some.injEq, new_, adv, doS, doN] at *) <;> grind (splits := 40) [chk, okP, clamp, right, wrap_id, dv_eq, md_eq, quo_id, rem_id, ltr, advT, advV, advH, advG, av, next_, room, did, doT, doV, doH, doG, mayC, retry, until_, posT, Sl.nil]
                refine ret_wp ?_
                (try simp only [vd1, vd2, vd3, vd4, vd5, vd6, vd7, reduceCtorEq, Option.some.injEq, new_, adv, doS, doN] at *) <;> grind (splits := 40) [chk, okP, clamp, right, wrap_id, dv_eq, md_eq, quo_id, rem_id, ltr, advT, advV, advH, advG, av, next_, room, did, doT, doV, doH, doG, mayC, retry, until_, posT, Sl.nil]
              · refine need_wp ?_ ?_
                · (try simp only [vd1, vd2, vd3, vd4, vd5, vd6, vd7, reduceCtorEq, Option.some.injEq, new_, adv, doS, doN] at *) <;> grind (splits := 40) [chk, okP, clamp, right, wrap_id, dv_eq, md_eq, quo_id, rem_id, ltr, advT, advV, advH, advG, av, next_, room, did, doT, doV, doH, doG, mayC, retry, until_, posT, Sl.nil]
                refine ret_wp ?_
                (try simp only [vd1, vd2, vd3, vd4, vd5, vd6, vd7, reduceCtorEq, Option.some.injEq, new_, adv, doS, doN] at *) <;> grind (splits := 40) [chk, okP, clamp, right, wrap_id, dv_eq, md_eq, quo_id, rem_id, ltr, advT, advV, advH, advG, av, next_, room, did, doT, doV, doH, doG, mayC, retry, until_, posT, Sl.nil]
        · refine br_wp (fun c15 => ?_) (fun c15 => ?_)
          · refine need_wp ?_ ?_
            · (try simp only [vd1, vd2, vd3, vd4, vd5, vd6, vd7, reduceCtorEq, Option.some.injEq, new_, adv, doS, doN] at *) <;> grind (splits := 40) [chk, okP, clamp, right, wrap_id, dv_eq, md_eq, quo_id, rem_id, ltr, advT, advV, advH, advG, av, next_, room, did, doT, doV, doH, doG, mayC, retry, until_, posT, Sl.nil]
            refine ret_wp ?_
            (try simp only [vd1, vd2, vd3, vd4, vd5, vd6, vd7, reduceCtorEq, Option.some.injEq, new_, adv, doS, doN] at *) <;> grind (splits := 40) [chk, okP, clamp, right, wrap_id, dv_eq, md_eq, quo_id, rem_id, ltr, advT, advV, advH, advG, av, next_, room, did, doT, doV, doH, doG, mayC, retry, until_, posT, Sl.nil]
          · refine br_wp (fun c16 => ?_) (fun c16 => ?_)
            · refine need_wp ?_ ?_
              · (try simp only [vd1, vd2, vd3, vd4, vd5, vd6, vd7, reduceCtorEq, Option.some.injEq, new_, adv, doS, doN] at *) <;> grind (splits := 40) [chk, okP, clamp, right, wrap_id, dv_eq, md_eq, quo_id, rem_id, ltr, advT, advV, advH, advG, av, next_, room, did, doT, doV, doH, doG, mayC, retry, until_, posT, Sl.nil]
              refine ret_wp ?_
              (try simp only [vd1, vd2, vd3, vd4, vd5, vd6, vd7, reduceCtorEq, Option.some.injEq, new_, adv, doS, doN] at *) <;> grind (splits := 40) [chk, okP, clamp, right, wrap_id, dv_eq, md_eq, quo_id, rem_id, ltr, advT, advV, advH, advG, av, next_, room, did, doT, doV, doH, doG, mayC, retry, until_, posT, Sl.nil]
            · refine br_wp (fun c17 => ?_) (fun c17 => ?_)
              · refine need_wp ?_ ?_
                · (try simp only [vd1, vd2, vd3, vd4, vd5, vd6, vd7, reduceCtorEq, Option.some.injEq, new_, adv, doS, doN] at *) <;> grind (splits := 40) [chk, okP, clamp, right, wrap_id, dv_eq, md_eq, quo_id, rem_id, ltr, advT, advV, advH, advG, av, next_, room, did, doT, doV, doH, doG, mayC, retry, until_, posT, Sl.nil]
                refine ret_wp ?_
                (try simp only [vd1, vd2, vd3, vd4, vd5, vd6, vd7, reduceCtorEq, Option.some.injEq, new_, adv, doS, doN] at *) <;> grind (splits := 40) [chk, okP, clamp, right, wrap_id, dv_eq, md_eq, quo_id, rem_id, ltr, advT, advV, advH, advG, av, next_, room, did, doT, doV, doH, doG, mayC, retry, until_, posT, Sl.nil]
              · refine need_wp ?_ ?_
                · (try simp only [vd1, vd2, vd3, vd4, vd5, vd6, vd7, reduceCtorEq, Option.some.injEq, new_, adv, doS, doN] at *) <;> grind (splits := 40) [chk, okP, clamp, right, wrap_id, dv_eq, md_eq, quo_id, rem_id, ltr, advT, advV, advH, advG, av, next_, room, did, doT, doV, doH, doG, mayC, retry, until_, posT, Sl.nil]
                refine ret_wp ?_
                (try simp only [vd1, vd2, vd3, vd4, vd5, vd6, vd7, reduceCtorEq, Option.some.injEq, new_, adv, doS, doN] at *) <;> grind (splits := 40) [chk, okP, clamp, right, wrap_id, dv_eq, md_eq, quo_id, rem_id, ltr, advT, advV, advH, advG, av, next_, room, did, doT, doV, doH, doG, mayC, retry, until_, posT, Sl.nil]
      · refine br_wp (fun c18 => ?_) (fun c18 => ?_)
        · refine br_wp (fun c19 => ?_) (fun c19 => ?_)
          · refine br_wp (fun c20 => ?_) (fun c20 => ?_)
            · refine need_wp ?_ ?_
              · (try simp only [vd1, vd2, vd3, vd4, vd5, vd6, vd7, reduceCtorEq, Option.some.injEq, new_, adv, doS, doN] at *) <;> grind (splits := 40) [chk, okP, clamp, right, wrap_id, dv_eq, md_eq, quo_id, rem_id, ltr, advT, advV, advH, advG, av, next_, room, did, doT, doV, doH, doG, mayC, retry, until_, posT, Sl.nil]
              refine ret_wp ?_
              (try simp only [vd1, vd2, vd3, vd4, vd5, vd6, vd7, reduceCtorEq, Option.some.injEq, new_, adv, doS, doN] at *) <;> grind (splits := 40) [chk, okP, clamp, right, wrap_id, dv_eq, md_eq, quo_id, rem_id, ltr, advT, advV, advH, advG, av, next_, room, did, doT, doV, doH, doG, mayC, retry, until_, posT, Sl.nil]
            · refine br_wp (fun c21 => ?_) (fun c21 => ?_)
              · refine need_wp ?_ ?_
                · (try simp only [vd1, vd2, vd3, vd4, vd5, vd6, vd7, reduceCtorEq, Option.some.injEq, new_, adv, doS, doN] at *) <;> grind (splits := 40) [chk, okP, clamp, right, wrap_id, dv_eq, md_eq, quo_id, rem_id, ltr, advT, advV, advH, advG, av, next_, room, did, doT, doV, doH, doG, mayC, retry, until_, posT, Sl.nil]
                refine ret_wp ?_
                (try simp only [vd1, vd2, vd3, vd4, vd5, vd6, vd7, reduceCtorEq, Option.some.injEq, new_, adv, doS, doN] at *) <;> grind (splits := 40) [chk, okP, clamp, right, wrap_id, dv_eq, md_eq, quo_id, rem_id, ltr, advT, advV, advH, advG, av, next_, room, did, doT, doV, doH, doG, mayC, retry, until_, posT, Sl.nil]
              · refine br_wp (fun c22 => ?_) (fun c22 => ?_)
                · refine need_wp ?_ ?_
                  · (try simp only [vd1, vd2, vd3, vd4, vd5, vd6, vd7, reduceCtorEq, Option.some.injEq, new_, adv, doS, doN] at *) <;> grind (splits := 40) [chk, okP, clamp, right, wrap_id, dv_eq, md_eq, quo_id, rem_id, ltr, advT, advV, advH, advG, av, next_, room, did, doT, doV, doH, doG, mayC, retry, until_, posT, Sl.nil]
                  refine ret_wp ?_
                  (try simp only [vd1, vd2, vd3, vd4, vd5, vd6, vd7, reduceCtorEq, Option.some.injEq, new_, adv, doS, doN] at *) <;> grind (splits := 40) [chk, okP, clamp, right, wrap_id, dv_eq, md_eq, quo_id, rem_id, ltr, advT, advV, advH, advG, av, next_, room, did, doT, doV, doH, doG, mayC, retry, until_, posT, Sl.nil]
                · refine need_wp ?_ ?_
                  · (try simp only [vd1, vd2, vd3, vd4, vd5, vd6, vd7, reduceCtorEq, Option.some.injEq, new_, adv, doS, doN] at *) <;> grind (splits := 40) [chk, okP, clamp, right, wrap_id, dv_eq, md_eq, quo_id, rem_id, ltr, advT, advV, advH, advG, av, next_, room, did, doT, doV, doH, doG, mayC, retry, until_, posT, Sl.nil]
                  refine ret_wp ?_
                  (try simp only [vd1, vd2, vd3, vd4, vd5, vd6, vd7, reduceCtorEq, Option.some.injEq, new_, adv, doS, doN] at *) <;> grind (splits := 40) [chk, okP, clamp, right, wrap_id, dv_eq, md_eq, quo_id, rem_id, ltr, advT, advV, advH, advG, av, next_, room, did, doT, doV, doH, doG, mayC, retry, until_, posT, Sl.nil]
          · refine br_wp (fun c23 => ?_) (fun c23 => ?_)
            · refine need_wp ?_ ?_
              · (try simp only [vd1, vd2, vd3, vd4, vd5, vd6, vd7, reduceCtorEq, Option.some.injEq, new_, adv, doS, doN] at *) <;> grind (splits := 40) [chk, okP, clamp, right, wrap_id, dv_eq, md_eq, quo_id, rem_id, ltr, advT, advV, advH, advG, av, next_, room, did, doT, doV, doH, doG, mayC, retry, until_, posT, Sl.nil]
              refine ret_wp ?_
              (try simp only [vd1, vd2, vd3, vd4, vd5, vd6, vd7, reduceCtorEq, Option.some.injEq, new_, adv, doS, doN] at *) <;> grind (splits := 40) [chk, okP, clamp, right, wrap_id, dv_eq, md_eq, quo_id, rem_id, ltr, advT, advV, advH, advG, av, next_, room, did, doT, doV, doH, doG, mayC, retry, until_, posT, Sl.nil]
            · refine br_wp (fun c24 => ?_) (fun c24 => ?_)
              · refine need_wp ?_ ?_
                · (try simp only [vd1, vd2, vd3, vd4, vd5, vd6, vd7, reduceCtorEq, Option.some.injEq, new_, adv, doS, doN] at *) <;> grind (splits := 40) [chk, okP, clamp, right, wrap_id, dv_eq, md_eq, quo_id, rem_id, ltr, advT, advV, advH, advG, av, next_, room, did, doT, doV, doH, doG, mayC, retry, until_, posT, Sl.nil]
                refine ret_wp ?_
                (try simp only [vd1, vd2, vd3, vd4, vd5, vd6, vd7, reduceCtorEq, Option.some.injEq, new_, adv, doS, doN] at *) <;> grind (splits := 40) [chk, okP, clamp, right, wrap_id, dv_eq, md_eq, quo_id, rem_id, ltr, advT, advV, advH, advG, av, next_, room, did, doT, doV, doH, doG, mayC, retry, until_, posT, Sl.nil]
              · refine br_wp (fun c25 => ?_) (fun c25 => ?_)
                · refine need_wp ?_ ?_
                  · (try simp only [vd1, vd2, vd3, vd4, vd5, vd6, vd7, reduceCtorEq, Option.some.injEq, new_, adv, doS, doN] at *) <;> grind (splits := 40) [chk, okP, clamp, right, wrap_id, dv_eq, md_eq, quo_id, rem_id, ltr, advT, advV, advH, advG, av, next_, room, did, doT, doV, doH, doG, mayC, retry, until_, posT, Sl.nil]
                  refine ret_wp ?_
                  (try simp only [vd1, vd2, vd3, vd4, vd5, vd6, vd7, reduceCtorEq, Option.some.injEq, new_, adv, doS, doN] at *) <;> grind (splits := 40) [chk, okP, clamp, right, wrap_id, dv_eq, md_eq, quo_id, rem_id, ltr, advT, advV, advH, advG, av, next_, room, did, doT, doV, doH, doG, mayC, retry, until_, posT, Sl.nil]
                · refine need_wp ?_ ?_
                  · (try simp only [vd1, vd2, vd3, vd4, vd5, vd6, vd7, reduceCtorEq, Option.some.injEq, new_, adv, doS, doN] at *) <;> grind (splits := 40) [chk, okP, clamp, right, wrap_id, dv_eq, md_eq, quo_id, rem_id, ltr, advT, advV, advH, advG, av, next_, room, did, doT, doV, doH, doG, mayC, retry, until_, posT, Sl.nil]
                  refine ret_wp ?_
                  (try simp only [vd1, vd2, vd3, vd4, vd5, vd6, vd7, reduceCtorEq, Option.some.injEq, new_, adv, doS, doN] at *) <;> grind (splits := 40) [chk, okP, clamp, right, wrap_id, dv_eq, md_eq, quo_id, rem_id, ltr, advT, advV, advH, advG, av, next_, room, did, doT, doV, doH, doG, mayC, retry, until_, posT, Sl.nil]
        · refine br_wp (fun c26 => ?_) (fun c26 => ?_)
          · refine br_wp (fun c27 => ?_) (fun c27 => ?_)
            · refine br_wp (fun c28 => ?_) (fun c28 => ?_)
              · refine need_wp ?_ ?_
                · (try simp only [vd1, vd2, vd3, vd4, vd5, vd6, vd7, reduceCtorEq, Option.some.injEq, new_, adv, doS, doN] at *) <;> grind (splits := 40) [chk, okP, clamp, right, wrap_id, dv_eq, md_eq, quo_id, rem_id, ltr, advT, advV, advH, advG, av, next_, room, did, doT, doV, doH, doG, mayC, retry, until_, posT, Sl.nil]
                refine ret_wp ?_
                (try simp only [vd1, vd2, vd3, vd4, vd5, vd6, vd7, reduceCtorEq, Option.some.injEq, new_, adv, doS, doN] at *) <;> grind (splits := 40) [chk, okP, clamp, right, wrap_id, dv_eq, md_eq, quo_id, rem_id, ltr, advT, advV, advH, advG, av, next_, room, did, doT, doV, doH, doG, mayC, retry, until_, posT, Sl.nil]
              · refine br_wp (fun c29 => ?_) (fun c29 => ?_)
                · refine need_wp ?_ ?_
                  · (try simp only [vd1, vd2, vd3, vd4, vd5, vd6, vd7, reduceCtorEq, Option.some.injEq, new_, adv, doS, doN] at *) <;> grind (splits := 40) [chk, okP, clamp, right, wrap_id, dv_eq, md_eq, quo_id, rem_id, ltr, advT, advV, advH, advG, av, next_, room, did, doT, doV, doH, doG, mayC, retry, until_, posT, Sl.nil]
                  refine ret_wp ?_
                  (try simp only [vd1, vd2, vd3, vd4, vd5, vd6, vd7, reduceCtorEq, Option.some.injEq, new_, adv, doS, doN] at *) <;> grind (splits := 40) [chk, okP, clamp, right, wrap_id, dv_eq, md_eq, quo_id, rem_id, ltr, advT, advV, advH, advG, av, next_, room, did, doT, doV, doH, doG, mayC, retry, until_, posT, Sl.nil]
                · refine br_wp (fun c30 => ?_) (fun c30 => ?_)
                  · refine need_wp ?_ ?_
                    · (try simp only [vd1, vd2, vd3, vd4, vd5, vd6, vd7, reduceCtorEq, Option.some.injEq, new_, adv, doS, doN] at *) <;> grind (splits := 40) [chk, okP, clamp, right, wrap_id, dv_eq, md_eq, quo_id, rem_id, ltr, advT, advV, advH, advG, av, next_, room, did, doT, doV, doH, doG, mayC, retry, until_, posT, Sl.nil]
                    refine ret_wp ?_
                    (try simp only [vd1, vd2, vd3, vd4, vd5, vd6, vd7, reduceCtorEq, Option.some.injEq, new_, adv, doS, doN] at *) <;> grind (splits := 40) [chk, okP, clamp, right, wrap_id, dv_eq, md_eq, quo_id, rem_id, ltr, advT, advV, advH, advG, av, next_, room, did, doT, doV, doH, doG, mayC, retry, until_, posT, Sl.nil]
                  · refine need_wp ?_ ?_
                    · (try simp only [vd1, vd2, vd3, vd4, vd5, vd6, vd7, reduceCtorEq, Option.some.injEq, new_, adv, doS, doN] at *) <;> grind (splits := 40) [chk, okP, clamp, right, wrap_id, dv_eq, md_eq, quo_id, rem_id, ltr, advT, advV, advH, advG, av, next_, room, did, doT, doV, doH, doG, mayC, retry, until_, posT, Sl.nil]
                    refine ret_wp ?_
                    (try simp only [vd1, vd2, vd3, vd4, vd5, vd6, vd7, reduceCtorEq, Option.some.injEq, new_, adv, doS, doN] at *) <;> grind (splits := 40) [chk, okP, clamp, right, wrap_id, dv_eq, md_eq, quo_id, rem_id, ltr, advT, advV, advH, advG, av, next_, room, did, doT, doV, doH, doG, mayC, retry, until_, posT, Sl.nil]
            · refine br_wp (fun c31 => ?_) (fun c31 => ?_)
              · refine need_wp ?_ ?_
                · (try simp only [vd1, vd2, vd3, vd4, vd5, vd6, vd7, reduceCtorEq, Option.some.injEq, new_, adv, doS, doN] at *) <;> grind (splits := 40) [chk, okP, clamp, right, wrap_id, dv_eq, md_eq, quo_id, rem_id, ltr, advT, advV, advH, advG, av, next_, room, did, doT, doV, doH, doG, mayC, retry, until_, posT, Sl.nil]
                refine ret_wp ?_
                (try simp only [vd1, vd2, vd3, vd4, vd5, vd6, vd7, reduceCtorEq, Option.some.injEq, new_, adv, doS, doN] at *) <;> grind (splits := 40) [chk, okP, clamp, right, wrap_id, dv_eq, md_eq, quo_id, rem_id, ltr, advT, advV, advH, advG, av, next_, room, did, doT, doV, doH, doG, mayC, retry, until_, posT, Sl.nil]
              · refine br_wp (fun c32 => ?_) (fun c32 => ?_)
                · refine need_wp ?_ ?_
                  · (try simp only [vd1, vd2, vd3, vd4, vd5, vd6, vd7, reduceCtorEq, Option.some.injEq, new_, adv, doS, doN] at *) <;> grind (splits := 40) [chk, okP, clamp, right, wrap_id, dv_eq, md_eq, quo_id, rem_id, ltr, advT, advV, advH, advG, av, next_, room, did, doT, doV, doH, doG, mayC, retry, until_, posT, Sl.nil]
                  refine ret_wp ?_
                  (try simp only [vd1, vd2, vd3, vd4, vd5, vd6, vd7, reduceCtorEq, Option.some.injEq, new_, adv, doS, doN] at *) <;> grind (splits := 40) [chk, okP, clamp, right, wrap_id, dv_eq, md_eq, quo_id, rem_id, ltr, advT, advV, advH, advG, av, next_, room, did, doT, doV, doH, doG, mayC, retry, until_, posT, Sl.nil]
                · refine br_wp (fun c33 => ?_) (fun c33 => ?_)
                  · refine need_wp ?_ ?_
                    · (try simp only [vd1, vd2, vd3, vd4, vd5, vd6, vd7, reduceCtorEq, Option.some.injEq, new_, adv, doS, doN] at *) <;> grind (splits := 40) [chk, okP, clamp, right, wrap_id, dv_eq, md_eq, quo_id, rem_id, ltr, advT, advV, advH, advG, av, next_, room, did, doT, doV, doH, doG, mayC, retry, until_, posT, Sl.nil]
                    refine ret_wp ?_
                    (try simp only [vd1, vd2, vd3, vd4, vd5, vd6, vd7, reduceCtorEq, Option.some.injEq, new_, adv, doS, doN] at *) <;> grind (splits := 40) [chk, okP, clamp, right, wrap_id, dv_eq, md_eq, quo_id, rem_id, ltr, advT, advV, advH, advG, av, next_, room, did, doT, doV, doH, doG, mayC, retry, until_, posT, Sl.nil]
                  · refine need_wp ?_ ?_
                    · (try simp only [vd1, vd2, vd3, vd4, vd5, vd6, vd7, reduceCtorEq, Option.some.injEq, new_, adv, doS, doN] at *) <;> grind (splits := 40) [chk, okP, clamp, right, wrap_id, dv_eq, md_eq, quo_id, rem_id, ltr, advT, advV, advH, advG, av, next_, room, did, doT, doV, doH, doG, mayC, retry, until_, posT, Sl.nil]
                    refine ret_wp ?_
                    (try simp only [vd1, vd2, vd3, vd4, vd5, vd6, vd7, reduceCtorEq, Option.some.injEq, new_, adv, doS, doN] at *) <;> grind (splits := 40) [chk, okP, clamp, right, wrap_id, dv_eq, md_eq, quo_id, rem_id, ltr, advT, advV, advH, advG, av, next_, room, did, doT, doV, doH, doG, mayC, retry, until_, posT, Sl.nil]
          · refine need_wp ?_ ?_
            · (try simp only [vd1, vd2, vd3, vd4, vd5, vd6, vd7, reduceCtorEq, Option.some.injEq, new_, adv, doS, doN] at *) <;> grind (splits := 40) [chk, okP, clamp, right, wrap_id, dv_eq, md_eq, quo_id, rem_id, ltr, advT, advV, advH, advG, av, next_, room, did, doT, doV, doH, doG, mayC, retry, until_, posT, Sl.nil]
            refine ret_wp ?_
            (try simp only [vd1, vd2, vd3, vd4, vd5, vd6, vd7, reduceCtorEq, Option.some.injEq, new_, adv, doS, doN] at *) <;> grind (splits := 40) [chk, okP, clamp, right, wrap_id, dv_eq, md_eq, quo_id, rem_id, ltr, advT, advV, advH, advG, av, next_, room, did, doT, doV, doH, doG, mayC, retry, until_, posT, Sl.nil]
  · refine need_wp ?_ ?_
    · (try simp only [vd1, vd2, vd3, vd4, vd5, vd6, vd7, reduceCtorEq, Option.some.injEq, new_, adv, doS, doN] at *) <;> grind (splits := 40) [chk, okP, clamp, right, wrap_id, dv_eq, md_eq, quo_id, rem_id, ltr, advT, advV, advH, advG, av, next_, room, did, doT, doV, doH, doG, mayC, retry, until_, posT, Sl.nil]
    refine ret_wp ?_
    (try simp only [vd1, vd2, vd3, vd4, vd5, vd6, vd7, reduceCtorEq, Option.some.injEq, new_, adv, doS, doN] at *) <;> grind (splits := 40) [chk, okP, clamp, right, wrap_id, dv_eq, md_eq, quo_id, rem_id, ltr, advT, advV, advH, advG, av, next_, room, did, doT, doV, doH, doG, mayC, retry, until_, posT, Sl.nil]
set_option maxHeartbeats 1000000 in
theorem h25 : holds Try.prog (kDoR sg25) := by
  refine fn_holds (l := [kRight sg32, kAdvR sg31, kRoom sg33]) ⟨h32, h31, h33, trivial⟩ hP rs25 encPSA_inj Try.func25 (by kernel_rfl) (c := code Try.f25) (by kernel_rfl) (an := an25) (by kernel_rfl) (pk := pk25) rfl (t := t25) (by kernel_rfl) ?_
  rintro ⟨p, s, a⟩ hpre
  refine ⟨by simp [pk25, KindsOk, encPS, encPSn, encPSnc, encPSA, encPn, encSS, encI, Pol.enc, Stt.enc, Ac.enc, Sl.atom, Sl.nil, Stt.zero, RK.ok], ?_⟩
  unfold t25
  refine call_fun ((p, s)) rfl (by simp only [vd1, vd2, vd3, vd4, vd5, vd6, vd7, reduceCtorEq, Option.some.injEq, new_, adv, doS, doN]) trivial ?_
  refine br_wp (fun c1 => ?_) (fun c1 => ?_)
  · refine call_fun ((p, s, a.t)) rfl (by simp only [vd1, vd2, vd3, vd4, vd5, vd6, vd7, reduceCtorEq, Option.some.injEq, new_, adv, doS, doN]) trivial ?_
    refine br_wp (fun c2 => ?_) (fun c2 => ?_)
    · refine need_wp ?_ ?_
      · (try simp only [vd1, vd2, vd3, vd4, vd5, vd6, vd7, reduceCtorEq, Option.some.injEq, new_, adv, doS, doN] at *) <;> grind (splits := 40) [chk, okP, clamp, right, wrap_id, dv_eq, md_eq, quo_id, rem_id, ltr, advT, advV, advH, advG, av, next_, room, did, doT, doV, doH, doG, mayC, retry, until_, posT, Sl.nil]
      refine ret_wp ?_
      (try simp only [vd1, vd2, vd3, vd4, vd5, vd6, vd7, reduceCtorEq, Option.some.injEq, new_, adv, doS, doN] at *) <;> grind (splits := 40) [chk, okP, clamp, right, wrap_id, dv_eq, md_eq, quo_id, rem_id, ltr, advT, advV, advH, advG, av, next_, room, did, doT, doV, doH, doG, mayC, retry, until_, posT, Sl.nil]
    · refine br_wp (fun c3 => ?_) (fun c3 => ?_)
      · refine need_wp ?_ ?_
        · (try simp only [vd1, vd2, vd3, vd4, vd5, vd6, vd7, reduceCtorEq, Option.some.injEq, new_, adv, doS, doN] at *) <;> grind (splits := 40) [chk, okP, clamp, right, wrap_id, dv_eq, md_eq, quo_id, rem_id, ltr, advT, advV, advH, advG, av, next_, room, did, doT, doV, doH, doG, mayC, retry, until_, posT, Sl.nil]
        refine ret_wp ?_
        (try simp only [vd1, vd2, vd3, vd4, vd5, vd6, vd7, reduceCtorEq, Option.some.injEq, new_, adv, doS, doN] at *) <;> grind (splits := 40) [chk, okP, clamp, right, wrap_id, dv_eq, md_eq, quo_id, rem_id, ltr, advT, advV, advH, advG, av, next_, room, did, doT, doV, doH, doG, mayC, retry, until_, posT, Sl.nil]
      · refine br_wp (fun c4 => ?_) (fun c4 => ?_)
        · refine need_wp ?_ ?_
          · (try simp only [vd1, vd2, vd3, vd4, vd5, vd6, vd7, reduceCtorEq, Option.some.injEq, new_, adv, doS, doN] at *) <;> grind (splits := 40) [chk, okP, clamp, right, wrap_id, dv_eq, md_eq, quo_id, rem_id, ltr, advT, advV, advH, advG, av, next_, room, did, doT, doV, doH, doG, mayC, retry, until_, posT, Sl.nil]
          refine ret_wp ?_
          (try simp only [vd1, vd2, vd3, vd4, vd5, vd6, vd7, reduceCtorEq, Option.some.injEq, new_, adv, doS, doN] at *) <;> grind (splits := 40) [chk, okP, clamp, right, wrap_id, dv_eq, md_eq, quo_id, rem_id, ltr, advT, advV, advH, advG, av, next_, room, did, doT, doV, doH, doG, mayC, retry, until_, posT, Sl.nil]
        · refine br_wp (fun c5 => ?_) (fun c5 => ?_)
          · refine call_fun ((p, s, a.t)) rfl (by simp only [vd1, vd2, vd3, vd4, vd5, vd6, vd7, reduceCtorEq, Option.some.injEq, new_, adv, doS, doN]) trivial ?_
            refine br_wp (fun c6 => ?_) (fun c6 => ?_)
            · refine need_wp ?_ ?_
              · (try simp only [vd1, vd2, vd3, vd4, vd5, vd6, vd7, reduceCtorEq, Option.some.injEq, new_, adv, doS, doN] at *) <;> grind (splits := 40) [chk, okP, clamp, right, wrap_id, dv_eq, md_eq, quo_id, rem_id, ltr, advT, advV, advH, advG, av, next_, room, did, doT, doV, doH, doG, mayC, retry, until_, posT, Sl.nil]
              refine ret_wp ?_
              (try simp only [vd1, vd2, vd3, vd4, vd5, vd6, vd7, reduceCtorEq, Option.some.injEq, new_, adv, doS, doN] at *) <;> grind (splits := 40) [chk, okP, clamp, right, wrap_id, dv_eq, md_eq, quo_id, rem_id, ltr, advT, advV, advH, advG, av, next_, room, did, doT, doV, doH, doG, mayC, retry, until_, posT, Sl.nil]
            · refine br_wp (fun c7 => ?_) (fun c7 => ?_)
              · refine br_wp (fun c8 => ?_) (fun c8 => ?_)
                · refine need_wp ?_ ?_
                  · (try simp only [vd1, vd2, vd3, vd4, vd5, vd6, vd7, reduceCtorEq, Option.some.injEq, new_, adv, doS, doN] at *) <;> grind (splits := 40) [chk, okP, clamp, right, wrap_id, dv_eq, md_eq, quo_id, rem_id, ltr, advT, advV, advH, advG, av, next_, room, did, doT, doV, doH, doG, mayC, retry, until_, posT, Sl.nil]
                  refine ret_wp ?_
                  (try simp only [vd1, vd2, vd3, vd4, vd5, vd6, vd7, reduceCtorEq, Option.some.injEq, new_, adv, doS, doN] at *) <;> grind (splits := 40) [chk, okP, clamp, right, wrap_id, dv_eq, md_eq, quo_id, rem_id, ltr, advT, advV, advH, advG, av, next_, room, did, doT, doV, doH, doG, mayC, retry, until_, posT, Sl.nil]
                · refine br_wp (fun c9 => ?_) (fun c9 => ?_)
                  · refine need_wp ?_ ?_
                    · (try simp only [vd1, vd2, vd3, vd4, vd5, vd6, vd7, reduceCtorEq, Option.some.injEq, new_, adv, doS, doN] at *) <;> grind (splits := 40) [chk, okP, clamp, right, wrap_id, dv_eq, md_eq, quo_id, rem_id, ltr, advT, advV, advH, advG, av, next_, room, did, doT, doV, doH, doG, mayC, retry, until_, posT, Sl.nil]
                    refine ret_wp ?_
                    (try simp only [vd1, vd2, vd3, vd4, vd5, vd6, vd7, reduceCtorEq, Option.some.injEq, new_, adv, doS, doN] at *) <;> grind (splits := 40) [chk, okP, clamp, right, wrap_id, dv_eq, md_eq, quo_id, rem_id, ltr, advT, advV, advH, advG, av, next_, room, did, doT, doV, doH, doG, mayC, retry, until_, posT, Sl.nil]
                  · refine br_wp (fun c10 => ?_) (fun c10 => ?_)
                    · refine need_wp ?_ ?_
                      · (try simp only [vd1, vd2, vd3, vd4, vd5, vd6, vd7, reduceCtorEq, Option.some.injEq, new_, adv, doS, doN] at *) <;> grind (splits := 40) [chk, okP, clamp, right, wrap_id, dv_eq, md_eq, quo_id, rem_id, ltr, advT, advV, advH, advG, av, next_, room, did, doT, doV, doH, doG, mayC, retry, until_, posT, Sl.nil]
                      refine ret_wp ?_
                      (try simp only [vd1, vd2, vd3, vd4, vd5, vd6, vd7, reduceCtorEq, Option.some.injEq, new_, adv, doS, doN] at *) <;> grind (splits := 40) [chk, okP, clamp, right, wrap_id, dv_eq, md_eq, quo_id, rem_id, ltr, advT, advV, advH, advG, av, next_, room, did, doT, doV, doH, doG, mayC, retry, until_, posT, Sl.nil]
                    · refine br_wp (fun c11 => ?_) (fun c11 => ?_)
                      · refine need_wp ?_ ?_
                        · (try simp only [vd1, vd2, vd3, vd4, vd5, vd6, vd7, reduceCtorEq, Option.some.injEq, new_, adv, doS, doN] at *) <;> grind (splits := 40) [chk, okP, clamp, right, wrap_id, dv_eq, md_eq, quo_id, rem_id, ltr, advT, advV, advH, advG, av, next_, room, did, doT, doV, doH, doG, mayC, retry, until_, posT, Sl.nil]
                        refine ret_wp ?_
                        (try simp only [vd1, vd2, vd3, vd4, vd5, vd6, vd7, reduceCtorEq, Option.some.injEq, new_, adv, doS, doN] at *) <;> grind (splits := 40) [chk, okP, clamp, right, wrap_id, dv_eq, md_eq, quo_id, rem_id, ltr, advT, advV, advH, advG, av, next_, room, did, doT, doV, doH, doG, mayC, retry, until_, posT, Sl.nil]
                      · refine br_wp (fun c12 => ?_) (fun c12 => ?_)
                        · refine need_wp ?_ ?_
                          · (try simp only [vd1, vd2, vd3, vd4, vd5, vd6, vd7, reduceCtorEq, Option.some.injEq, new_, adv, doS, doN] at *) <;> grind (splits := 40) [chk, okP, clamp, right, wrap_id, dv_eq, md_eq, quo_id, rem_id, ltr, advT, advV, advH, advG, av, next_, room, did, doT, doV, doH, doG, mayC, retry, until_, posT, Sl.nil]
                          refine ret_wp ?_
                          (try simp only [vd1, vd2, vd3, vd4, vd5, vd6, vd7, reduceCtorEq, Option.some.injEq, new_, adv, doS, doN] at *) <;> grind (splits := 40) [chk, okP, clamp, right, wrap_id, dv_eq, md_eq, quo_id, rem_id, ltr, advT, advV, advH, advG, av, next_, room, did, doT, doV, doH, doG, mayC, retry, until_, posT, Sl.nil]
                        · refine need_wp ?_ ?_
                          · (try simp only [vd1, vd2, vd3, vd4, vd5, vd6, vd7, reduceCtorEq, Option.some.injEq, new_, adv, doS, doN] at *) <;> grind (splits := 40) [chk, okP, clamp, right, wrap_id, dv_eq, md_eq, quo_id, rem_id, ltr, advT, advV, advH, advG, av, next_, room, did, doT, doV, doH, doG, mayC, retry, until_, posT, Sl.nil]
                          refine ret_wp ?_
                          (try simp only [vd1, vd2, vd3, vd4, vd5, vd6, vd7, reduceCtorEq, Option.some.injEq, new_, adv, doS, doN] at *) <;> grind (splits := 40) [chk, okP, clamp, right, wrap_id, dv_eq, md_eq, quo_id, rem_id, ltr, advT, advV, advH, advG, av, next_, room, did, doT, doV, doH, doG, mayC, retry, until_, posT, Sl.nil]
              · refine br_wp (fun c13 => ?_) (fun c13 => ?_)
                · refine need_wp ?_ ?_
                  · (try simp only [vd1, vd2, vd3, vd4, vd5, vd6, vd7, reduceCtorEq, Option.some.injEq, new_, adv, doS, doN] at *) <;> grind (splits := 40) [chk, okP, clamp, right, wrap_id, dv_eq, md_eq, quo_id, rem_id, ltr, advT, advV, advH, advG, av, next_, room, did, doT, doV, doH, doG, mayC, retry, until_, posT, Sl.nil]
                  refine ret_wp ?_
                  (try simp only [vd1, vd2, vd3, vd4, vd5, vd6, vd7, reduceCtorEq, Option.some.injEq, new_, adv, doS, doN] at *) <;> grind (splits := 40) [chk, okP, clamp, right, wrap_id, dv_eq, md_eq, quo_id, rem_id, ltr, advT, advV, advH, advG, av, next_, room, did, doT, doV, doH, doG, mayC, retry, until_, posT, Sl.nil]
                · refine br_wp (fun c14 => ?_) (fun c14 => ?_)
                  · refine need_wp ?_ ?_
                    · (try simp only [vd1, vd2, vd3, vd4, vd5, vd6, vd7, reduceCtorEq, Option.some.injEq, new_, adv, doS, doN] at *) <;> grind (splits := 40) [chk, okP, clamp, right, wrap_id, dv_eq, md_eq, quo_id, rem_id, ltr, advT, advV, advH, advG, av, next_, room, did, doT, doV, doH, doG, mayC, retry, until_, posT, Sl.nil]
                    refine ret_wp ?_
                    (try simp only [vd1, vd2, vd3, vd4, vd5, vd6, vd7, reduceCtorEq, Option.some.injEq, new_, adv, doS, doN] at *) <;> grind (splits := 40) [chk, okP, clamp, right, wrap_id, dv_eq, md_eq, quo_id, rem_id, ltr, advT, advV, advH, advG, av, next_, room, did, doT, doV, doH, doG, mayC, retry, until_, posT, Sl.nil]
                  · refine br_wp (fun c15 => ?_) (fun c15 => ?_)
                    · refine need_wp ?_ ?_
                      · (try simp only [vd1, vd2, vd3, vd4, vd5, vd6, vd7, reduceCtorEq, Option.some.injEq, new_, adv, doS, doN] at *) <;> grind (splits := 40) [chk, okP, clamp, right, wrap_id, dv_eq, md_eq, quo_id, rem_id, ltr, advT, advV, advH, advG, av, next_, room, did, doT, doV, doH, doG, mayC, retry, until_, posT, Sl.nil]
                      refine ret_wp ?_
                      (try simp only [vd1, vd2, vd3, vd4, vd5, vd6, vd7, reduceCtorEq, Option.some.injEq, new_, adv, doS, doN] at *) <;> grind (splits := 40) [chk, okP, clamp, right, wrap_id, dv_eq, md_eq, quo_id, rem_id, ltr, advT, advV, advH, advG, av, next_, room, did, doT, doV, doH, doG, mayC, retry, until_, posT, Sl.nil]
                    · refine br_wp (fun c16 => ?_) (fun c16 => ?_)
                      · refine need_wp ?_ ?_
                        · (try simp only [vd1, vd2, vd3, vd4, vd5, vd6, vd7, reduceCtorEq, Option.some.injEq, new_, adv, doS, doN] at *) <;> grind (splits := 40) [chk, okP, clamp, right, wrap_id, dv_eq, md_eq, quo_id, rem_id, ltr, advT, advV, advH, advG, av, next_, room, did, doT, doV, doH, doG, mayC, retry, until_, posT, Sl.nil]
                        refine ret_wp ?_
                        (try simp only [vd1, vd2, vd3, vd4, vd5, vd6, vd7, reduceCtorEq, Option.some.injEq, new_, adv, doS, doN] at *) <;> grind (splits := 40) [chk, okP, clamp, right, wrap_id, dv_eq, md_eq, quo_id, rem_id, ltr, advT, advV, advH, advG, av, next_, room, did, doT, doV, doH, doG, mayC, retry, until_, posT, Sl.nil]
                      · refine need_wp ?_ ?_
                        · (try simp only [vd1, vd2, vd3, vd4, vd5, vd6, vd7, reduceCtorEq, Option.some.injEq, new_, adv, doS, doN] at *) <;> grind (splits := 40) [chk, okP, clamp, right, wrap_id, dv_eq, md_eq, quo_id, rem_id, ltr, advT, advV, advH, advG, av, next_, room, did, doT, doV, doH, doG, mayC, retry, until_, posT, Sl.nil]
                        refine ret_wp ?_
                        (try simp only [vd1, vd2, vd3, vd4, vd5, vd6, vd7, reduceCtorEq, Option.some.injEq, new_, adv, doS, doN] at *) <;> grind (splits := 40) [chk, okP, clamp, right, wrap_id, dv_eq, md_eq, quo_id, rem_id, ltr, advT, advV, advH, advG, av, next_, room, did, doT, doV, doH, doG, mayC, retry, until_, posT, Sl.nil]
          · refine br_wp (fun c17 => ?_) (fun c17 => ?_)
            · refine br_wp (fun c18 => ?_) (fun c18 => ?_)
              · refine need_wp ?_ ?_
                · (try simp only [vd1, vd2, vd3, vd4, vd5, vd6, vd7, reduceCtorEq, Option.some.injEq, new_, adv, doS, doN] at *) <;> grind (splits := 40) [chk, okP, clamp, right, wrap_id, dv_eq, md_eq, quo_id, rem_id, ltr, advT, advV, advH, advG, av, next_, room, did, doT, doV, doH, doG, mayC, retry, until_, posT, Sl.nil]
                refine ret_wp ?_
                (try simp only [vd1, vd2, vd3, vd4, vd5, vd6, vd7, reduceCtorEq, Option.some.injEq, new_, adv, doS, doN] at *) <;> grind (splits := 40) [chk, okP, clamp, right, wrap_id, dv_eq, md_eq, quo_id, rem_id, ltr, advT, advV, advH, advG, av, next_, room, did, doT, doV, doH, doG, mayC, retry, until_, posT, Sl.nil]
              · refine br_wp (fun c19 => ?_) (fun c19 => ?_)
                · refine need_wp ?_ ?_
                  · (try simp only [vd1, vd2, vd3, vd4, vd5, vd6, vd7, reduceCtorEq, Option.some.injEq, new_, adv, doS, doN] at *) <;> grind (splits := 40) [chk, okP, clamp, right, wrap_id, dv_eq, md_eq, quo_id, rem_id, ltr, advT, advV, advH, advG, av, next_, room, did, doT, doV, doH, doG, mayC, retry, until_, posT, Sl.nil]
                  refine ret_wp ?_
                  (try simp only [vd1, vd2, vd3, vd4, vd5, vd6, vd7, reduceCtorEq, Option.some.injEq, new_, adv, doS, doN] at *) <;> grind (splits := 40) [chk, okP, clamp, right, wrap_id, dv_eq, md_eq, quo_id, rem_id, ltr, advT, advV, advH, advG, av, next_, room, did, doT, doV, doH, doG, mayC, retry, until_, posT, Sl.nil]
                · refine br_wp (fun c20 => ?_) (fun c20 => ?_)
                  · refine need_wp ?_ ?_
                    · (try simp only [vd1, vd2, vd3, vd4, vd5, vd6, vd7, reduceCtorEq, Option.some.injEq, new_, adv, doS, doN] at *) <;> grind (splits := 40) [chk, okP, clamp, right, wrap_id, dv_eq, md_eq, quo_id, rem_id, ltr, advT, advV, advH, advG, av, next_, room, did, doT, doV, doH, doG, mayC, retry, until_, posT, Sl.nil]
                    refine ret_wp ?_
                    (try simp only [vd1, vd2, vd3, vd4, vd5, vd6, vd7, reduceCtorEq, Option.some.injEq, new_, adv, doS, doN] at *) <;> grind (splits := 40) [chk, okP, clamp, right, wrap_id, dv_eq, md_eq, quo_id, rem_id, ltr, advT, advV, advH, advG, av, next_, room, did, doT, doV, doH, doG, mayC, retry, until_, posT, Sl.nil]
                  · refine br_wp (fun c21 => ?_) (fun c21 => ?_)
                    · refine need_wp ?_ ?_
                      · (try simp only [vd1, vd2, vd3, vd4, vd5, vd6, vd7, reduceCtorEq, Option.some.injEq, new_, adv, doS, doN] at *) <;> grind (splits := 40) [chk, okP, clamp, right, wrap_id, dv_eq, md_eq, quo_id, rem_id, ltr, advT, advV, advH, advG, av, next_, room, did, doT, doV, doH, doG, mayC, retry, until_, posT, Sl.nil]
                      refine ret_wp ?_
                      (try simp only [vd1, vd2, vd3, vd4, vd5, vd6, vd7, reduceCtorEq, Option.some.injEq, new_, adv, doS, doN] at *) <;> grind (splits := 40) [chk, okP, clamp, right, wrap_id, dv_eq, md_eq, quo_id, rem_id, ltr, advT, advV, advH, advG, av, next_, room, did, doT, doV, doH, doG, mayC, retry, until_, posT, Sl.nil]
                    · refine br_wp (fun c22 => ?_) (fun c22 => ?_)
                      · refine need_wp ?_ ?_
                        · (try simp only [vd1, vd2, vd3, vd4, vd5, vd6, vd7, reduceCtorEq, Option.some.injEq, new_, adv, doS, doN] at *) <;> grind (splits := 40) [chk, okP, clamp, right, wrap_id, dv_eq, md_eq, quo_id, rem_id, ltr, advT, advV, advH, advG, av, next_, room, did, doT, doV, doH, doG, mayC, retry, until_, posT, Sl.nil]
                        refine ret_wp ?_
                        (try simp only [vd1, vd2, vd3, vd4, vd5, vd6, vd7, reduceCtorEq, Option.some.injEq, new_, adv, doS, doN] at *) <;> grind (splits := 40) [chk, okP, clamp, right, wrap_id, dv_eq, md_eq, quo_id, rem_id, ltr, advT, advV, advH, advG, av, next_, room, did, doT, doV, doH, doG, mayC, retry, until_, posT, Sl.nil]
                      · refine need_wp ?_ ?_
                        · (try simp only [vd1, vd2, vd3, vd4, vd5, vd6, vd7, reduceCtorEq, Option.some.injEq, new_, adv, doS, doN] at *) <;> grind (splits := 40) [chk, okP, clamp, right, wrap_id, dv_eq, md_eq, quo_id, rem_id, ltr, advT, advV, advH, advG, av, next_, room, did, doT, doV, doH, doG, mayC, retry, until_, posT, Sl.nil]
                        refine ret_wp ?_
                        (try simp only [vd1, vd2, vd3, vd4, vd5, vd6, vd7, reduceCtorEq, Option.some.injEq, new_, adv, doS, doN] at *) <;> grind (splits := 40) [chk, okP, clamp, right, wrap_id, dv_eq, md_eq, quo_id, rem_id, ltr, advT, advV, advH, advG, av, next_, room, did, doT, doV, doH, doG, mayC, retry, until_, posT, Sl.nil]
            · refine br_wp (fun c23 => ?_) (fun c23 => ?_)
              · refine need_wp ?_ ?_
                · (try simp only [vd1, vd2, vd3, vd4, vd5, vd6, vd7, reduceCtorEq, Option.some.injEq, new_, adv, doS, doN] at *) <;> grind (splits := 40) [chk, okP, clamp, right, wrap_id, dv_eq, md_eq, quo_id, rem_id, ltr, advT, advV, advH, advG, av, next_, room, did, doT, doV, doH, doG, mayC, retry, until_, posT, Sl.nil]
                refine ret_wp ?_
                (try simp only [vd1, vd2, vd3, vd4, vd5, vd6, vd7, reduceCtorEq, Option.some.injEq, new_, adv, doS, doN] at *) <;> grind (splits := 40) [chk, okP, clamp, right, wrap_id, dv_eq, md_eq, quo_id, rem_id, ltr, advT, advV, advH, advG, av, next_, room, did, doT, doV, doH, doG, mayC, retry, until_, posT, Sl.nil]
              · refine br_wp (fun c24 => ?_) (fun c24 => ?_)
                · refine need_wp ?_ ?_
                  · (try simp only [vd1, vd2, vd3, vd4, vd5, vd6, vd7, reduceCtorEq, Option.some.injEq, new_, adv, doS, doN] at *) <;> grind (splits := 40) [chk, okP, clamp, right, wrap_id, dv_eq, md_eq, quo_id, rem_id, ltr, advT, advV, advH, advG, av, next_, room, did, doT, doV, doH, doG, mayC, retry, until_, posT, Sl.nil]
                  refine ret_wp ?_
                  (try simp only [vd1, vd2, vd3, vd4, vd5, vd6, vd7, reduceCtorEq, Option.some.injEq, new_, adv, doS, doN] at *) <;> grind (splits := 40) [chk, okP, clamp, right, wrap_id, dv_eq, md_eq, quo_id, rem_id, ltr, advT, advV, advH, advG, av, next_, room, did, doT, doV, doH, doG, mayC, retry, until_, posT, Sl.nil]
                · refine br_wp (fun c25 => ?_) (fun c25 => ?_)
                  · refine need_wp ?_ ?_
                    · (try simp only [vd1, vd2, vd3, vd4, vd5, vd6, vd7, reduceCtorEq, Option.some.injEq, new_, adv, doS, doN] at *) <;> grind (splits := 40) [chk, okP, clamp, right, wrap_id, dv_eq, md_eq, quo_id, rem_id, ltr, advT, advV, advH, advG, av, next_, room, did, doT, doV, doH, doG, mayC, retry, until_, posT, Sl.nil]
                    refine ret_wp ?_
                    (try simp only [vd1, vd2, vd3, vd4, vd5, vd6, vd7, reduceCtorEq, Option.some.injEq, new_, adv, doS, doN] at *) <;> grind (splits := 40) [chk, okP, clamp, right, wrap_id, dv_eq, md_eq, quo_id, rem_id, ltr, advT, advV, advH, advG, av, next_, room, did, doT, doV, doH, doG, mayC, retry, until_, posT, Sl.nil]
                  · refine br_wp (fun c26 => ?_) (fun c26 => ?_)
                    · refine need_wp ?_ ?_
                      · (try simp only [vd1, vd2, vd3, vd4, vd5, vd6, vd7, reduceCtorEq, Option.some.injEq, new_, adv, doS, doN] at *) <;> grind (splits := 40) [chk, okP, clamp, right, wrap_id, dv_eq, md_eq, quo_id, rem_id, ltr, advT, advV, advH, advG, av, next_, room, did, doT, doV, doH, doG, mayC, retry, until_, posT, Sl.nil]
                      refine ret_wp ?_
                      (try simp only [vd1, vd2, vd3, vd4, vd5, vd6, vd7, reduceCtorEq, Option.some.injEq, new_, adv, doS, doN] at *) <;> grind (splits := 40) [chk, okP, clamp, right, wrap_id, dv_eq, md_eq, quo_id, rem_id, ltr, advT, advV, advH, advG, av, next_, room, did, doT, doV, doH, doG, mayC, retry, until_, posT, Sl.nil]
                    · refine need_wp ?_ ?_
                      · (try simp only [vd1, vd2, vd3, vd4, vd5, vd6, vd7, reduceCtorEq, Option.some.injEq, new_, adv, doS, doN] at *) <;> grind (splits := 40) [chk, okP, clamp, right, wrap_id, dv_eq, md_eq, quo_id, rem_id, ltr, advT, advV, advH, advG, av, next_, room, did, doT, doV, doH, doG, mayC, retry, until_, posT, Sl.nil]
                      refine ret_wp ?_
                      (try simp only [vd1, vd2, vd3, vd4, vd5, vd6, vd7, reduceCtorEq, Option.some.injEq, new_, adv, doS, doN] at *) <;> grind (splits := 40) [chk, okP, clamp, right, wrap_id, dv_eq, md_eq, quo_id, rem_id, ltr, advT, advV, advH, advG, av, next_, room, did, doT, doV, doH, doG, mayC, retry, until_, posT, Sl.nil]
  · refine need_wp ?_ ?_
    · (try simp only [vd1, vd2, vd3, vd4, vd5, vd6, vd7, reduceCtorEq, Option.some.injEq, new_, adv, doS, doN] at *) <;> grind (splits := 40) [chk, okP, clamp, right, wrap_id, dv_eq, md_eq, quo_id, rem_id, ltr, advT, advV, advH, advG, av, next_, room, did, doT, doV, doH, doG, mayC, retry, until_, posT, Sl.nil]
    refine ret_wp ?_
    (try simp only [vd1, vd2, vd3, vd4, vd5, vd6, vd7, reduceCtorEq, Option.some.injEq, new_, adv, doS, doN] at *) <;> grind (splits := 40) [chk, okP, clamp, right, wrap_id, dv_eq, md_eq, quo_id, rem_id, ltr, advT, advV, advH, advG, av, next_, room, did, doT, doV, doH, doG, mayC, retry, until_, posT, Sl.nil]
end Go.Proofs.YtfiggilfgjpodaaK
