import Derived.Test.YtjmenmnjkfnhgaaVB1
import Derived.Test.YtjmenmnjkfnhgaaVR4tm
import Derived.Test.YtjmenmnjkfnhgaaVR4tm
import Derived.Test.YtjmenmnjkfnhgaaVR4b
set_option linter.unusedSimpArgs false
set_option linter.unusedVariables false
namespace Go.Proofs.YtjmenmnjkfnhgaaK
open Go Go.Proofs.YtjmenmnjkfnhgaaV Go.Proofs
open Go.RowKit Go.Proofs.Ytjmenmnjkfnhgaa.PGcraStates
/-- A contract, out of a call's law. -/
theorem holds_fun {P : Program} {sg : Sig} {fn : Func} {α : Type} {enc : α → List Atom} {pre : α → Prop} {f : α → List Atom} (hinj : ∀ x y, enc x = enc y → x = y)
    (hfn : P.funcs[sg.f]? = some fn) (hname : (fn.name == "runtime.NumGoroutine") = false) (hbody : fn.body.isSome = true)
    (h : ∀ x, pre x → ∀ w : World, Calls P sg.f (mkVals sg.ash ((enc x).map (·.1))).toArray w fun e w' => e = .returned (mkRes sg.tup sg.rsh ((f x).map (·.1))) ∧ Below w.heap.size w w')
    (hk : ∀ x, pre x → KindsOk sg.res (f x) ∧ ∀ a ∈ f x, a.2 = .leaf ∧ a.1.oneCell' = true) (hown : sg.own = [] := by rfl) : holds P (sg, mkFun enc pre f) := by
  refine ⟨⟨fn, hfn, hname, hbody⟩, ?_⟩
  rintro args m w hm hg ⟨x, rfl, hp⟩
  refine (h x hp w).mono fun e w' ⟨he, hb⟩ => ?_
  have hgood : ∀ (M : Addr → Option Value), ∀ a ∈ f x, Go.Proofs.YtjmenmnjkfnhgaaV.Good M a := by
    intro M a ha
    obtain ⟨h1, h2⟩ := (hk x hp).2 a ha
    obtain ⟨v, d⟩ := a
    simp only at h1
    subst h1
    exact ⟨.leaf _, h2⟩
  have ho : (sg, mkFun enc pre f).1.own = [] := hown
  refine ⟨f x, he, (hk x hp).1, fun y hy _ => by rw [hinj _ _ hy], ?_, hb⟩
  rw [ho]
  exact ⟨fun i a ha => ⟨(hgood _ a (List.mem_of_getElem? ha)).elt, fun _ => hgood _ a (List.mem_of_getElem? ha)⟩, fun p hp => absurd hp (by simp), List.Pairwise.nil⟩
theorem fits_in (n : Int) : fitsB n = true ↔ in64 n := by unfold fitsB in64; simp
theorem fits_okv (n : Int) : (if fitsB n = true then n else 0) = okv n ∧ fitsB n = decide (in64 n) := by
  refine ⟨?_, by rw [Bool.eq_iff_iff, fits_in]; simp⟩
  unfold okv
  by_cases h : in64 n
  · rw [if_pos h, if_pos ((fits_in n).2 h)]
  · rw [if_neg h, if_neg (fun h2 => h ((fits_in n).1 h2))]
theorem fits_mul (a b : Int) : (if fitsB (a * b) = true then a * b else 0) = mulV a b ∧ fitsB (a * b) = decide (mulO a b) := by
  have e : ∀ n : Int, fitsB n = true ↔ in64 n := fits_in
  refine ⟨?_, by rw [Bool.eq_iff_iff, fits_in, decide_eq_true_iff]; exact Iff.rfl⟩
  unfold mulV
  by_cases h : mulO a b
  · rw [if_pos h, if_pos ((fits_in (a * b)).2 h)]; rfl
  · rw [if_neg h, if_neg (fun h2 => h ((fits_in (a * b)).1 h2))]
theorem h74 : holds Try.prog (kMul sg74) := by
  refine holds_fun (inj_of (fun l : List Atom => ((vi (l.getD 0 atom0).1, vi (l.getD 1 atom0).1) : Int × Int)) (fun _ => rfl)) (fn := Try.f74) Try.func74 (by kernel_rfl) (by kernel_rfl) ?_ ?_
  · rintro ⟨a, b⟩ ⟨⟨h1, h2⟩, h3, h4⟩ w
    have e := Mul_is h1 h2 h3 h4 (Nat.le_refl 1000000)
    rw [(fits_mul a b).1, (fits_mul a b).2] at e
    exact tapsterref01_Mul.calls _ a b _ _ w e
  · rintro ⟨a, b⟩ _
    refine ⟨⟨⟨_, rfl⟩, ⟨_, rfl⟩, trivial⟩, ?_⟩
    intro x hx
    simp only [List.mem_cons, List.not_mem_nil, or_false] at hx
    rcases hx with rfl | rfl <;> exact ⟨rfl, rfl⟩
set_option maxHeartbeats 4000000 in
theorem h47 : holds Try.prog (kChk4 sg47) := by
  refine fn_holds (l := []) trivial hP rs47 (inj_of (fun l : List Atom => ((⟨vi (l.getD 0 atom0).1, vi (l.getD 1 atom0).1, vi (l.getD 2 atom0).1, vi (l.getD 3 atom0).1, vi (l.getD 4 atom0).1, vb (l.getD 5 atom0).1⟩ : Pol) : Pol)) (fun _ => rfl)) Try.func47 (by kernel_rfl) (c := code Try.f47) (by kernel_rfl) (an := an47) (by kernel_rfl) (pk := pk47) rfl (t := t47) (by kernel_rfl) ?_
  rintro p hpre
  refine ⟨by simp [pk47, KindsOk, encPS, encPSn, encPSnc, encPSA, encPn, encSS, encI, Pol.enc, Stt.enc, Ac.enc, Sl.atom, Sl.nil, Stt.zero, RK.ok], ?_⟩
  unfold t47
  refine br_wp (fun c1 => ?_) (fun c1 => ?_)
  · refine br_wp (fun c2 => ?_) (fun c2 => ?_)
    · refine br_wp (fun c3 => ?_) (fun c3 => ?_)
      · refine br_wp (fun c4 => ?_) (fun c4 => ?_)
        · refine br_wp (fun c5 => ?_) (fun c5 => ?_)
          · refine br_wp (fun c6 => ?_) (fun c6 => ?_)
            · refine br_wp (fun c7 => ?_) (fun c7 => ?_)
              · refine br_wp (fun c8 => ?_) (fun c8 => ?_)
                · refine ret_wp ?_
                  ((try simp only [vd1, vd2, vd3, vd4, vd5, vd6, vd7, reduceCtorEq, Option.some.injEq, vb_ite, vi_ite, List.getD_cons_zero, List.getD_cons_succ] at *) <;> grind (splits := 40) [chk4, okB])
                · refine ret_wp ?_
                  ((try simp only [vd1, vd2, vd3, vd4, vd5, vd6, vd7, reduceCtorEq, Option.some.injEq, vb_ite, vi_ite, List.getD_cons_zero, List.getD_cons_succ] at *) <;> grind (splits := 40) [chk4, okB])
              · refine ret_wp ?_
                ((try simp only [vd1, vd2, vd3, vd4, vd5, vd6, vd7, reduceCtorEq, Option.some.injEq, vb_ite, vi_ite, List.getD_cons_zero, List.getD_cons_succ] at *) <;> grind (splits := 40) [chk4, okB])
            · refine ret_wp ?_
              ((try simp only [vd1, vd2, vd3, vd4, vd5, vd6, vd7, reduceCtorEq, Option.some.injEq, vb_ite, vi_ite, List.getD_cons_zero, List.getD_cons_succ] at *) <;> grind (splits := 40) [chk4, okB])
          · refine ret_wp ?_
            ((try simp only [vd1, vd2, vd3, vd4, vd5, vd6, vd7, reduceCtorEq, Option.some.injEq, vb_ite, vi_ite, List.getD_cons_zero, List.getD_cons_succ] at *) <;> grind (splits := 40) [chk4, okB])
        · refine ret_wp ?_
          ((try simp only [vd1, vd2, vd3, vd4, vd5, vd6, vd7, reduceCtorEq, Option.some.injEq, vb_ite, vi_ite, List.getD_cons_zero, List.getD_cons_succ] at *) <;> grind (splits := 40) [chk4, okB])
      · refine ret_wp ?_
        ((try simp only [vd1, vd2, vd3, vd4, vd5, vd6, vd7, reduceCtorEq, Option.some.injEq, vb_ite, vi_ite, List.getD_cons_zero, List.getD_cons_succ] at *) <;> grind (splits := 40) [chk4, okB])
    · refine ret_wp ?_
      ((try simp only [vd1, vd2, vd3, vd4, vd5, vd6, vd7, reduceCtorEq, Option.some.injEq, vb_ite, vi_ite, List.getD_cons_zero, List.getD_cons_succ] at *) <;> grind (splits := 40) [chk4, okB])
  · refine ret_wp ?_
    ((try simp only [vd1, vd2, vd3, vd4, vd5, vd6, vd7, reduceCtorEq, Option.some.injEq, vb_ite, vi_ite, List.getD_cons_zero, List.getD_cons_succ] at *) <;> grind (splits := 40) [chk4, okB])
set_option maxHeartbeats 4000000 in
theorem h56 : holds Try.prog (kClamp sg56) := by
  refine fn_holds (l := []) trivial hP rs56 (inj_of (fun l : List Atom => (vi (l.getD 0 atom0).1 : Int)) (fun _ => rfl)) Try.func56 (by kernel_rfl) (c := code Try.f56) (by kernel_rfl) (an := an56) (by kernel_rfl) (pk := pk56) rfl (t := t56) (by kernel_rfl) ?_
  rintro n hpre
  refine ⟨by simp [pk56, KindsOk, encPS, encPSn, encPSnc, encPSA, encPn, encSS, encI, Pol.enc, Stt.enc, Ac.enc, Sl.atom, Sl.nil, Stt.zero, RK.ok], ?_⟩
  unfold t56
  refine br_wp (fun c1 => ?_) (fun c1 => ?_)
  · refine ret_wp ?_
    (simp only [vd1, vd2, vd3, vd4, vd5, vd6, vd7, reduceCtorEq, Option.some.injEq, vb_ite, vi_ite, List.getD_cons_zero, List.getD_cons_succ] at *; unfold clamp; grind)
  · refine br_wp (fun c2 => ?_) (fun c2 => ?_)
    · refine ret_wp ?_
      (simp only [vd1, vd2, vd3, vd4, vd5, vd6, vd7, reduceCtorEq, Option.some.injEq, vb_ite, vi_ite, List.getD_cons_zero, List.getD_cons_succ] at *; unfold clamp; grind)
    · refine ret_wp ?_
      (simp only [vd1, vd2, vd3, vd4, vd5, vd6, vd7, reduceCtorEq, Option.some.injEq, vb_ite, vi_ite, List.getD_cons_zero, List.getD_cons_succ] at *; unfold clamp; grind)
def kAdvBR (sg : Sig) : Sig × Con := (sg, mkFun (fun x : Pol × Stt × Int => ([aI x.1.k, aI x.1.l, aI x.1.p, aI x.1.b, aI x.1.c, aB x.1.o, aI x.2.1.t, aI x.2.1.v, aI x.2.1.h, Sl.atom x.2.1.g, aI x.2.2] : List Atom)) (fun _ => True) (fun x => (advBR x.1 x.2.1 x.2.2).enc))
def kDoBR (sg : Sig) : Sig × Con := (sg, mkFun (fun x : Pol × Stt × Ac => ([aI x.1.k, aI x.1.l, aI x.1.p, aI x.1.b, aI x.1.c, aB x.1.o, aI x.2.1.t, aI x.2.1.v, aI x.2.1.h, Sl.atom x.2.1.g, aI x.2.2.k, aI x.2.2.t, aI x.2.2.c] : List Atom)) (fun _ => True) (fun x => (doBR x.1 x.2.1 x.2.2).enc ++ [aB (decide (didB x.1 x.2.1 x.2.2))]))
set_option maxHeartbeats 4000000 in
theorem h37 : holds Try.prog (kNewB sg37) := by
  refine fn_holds (l := [kChk4 sg47, kClamp sg56]) ⟨h47, h56, trivial⟩ hP rs37 (inj_of (fun l : List Atom => (((⟨vi (l.getD 0 atom0).1, vi (l.getD 1 atom0).1, vi (l.getD 2 atom0).1, vi (l.getD 3 atom0).1, vi (l.getD 4 atom0).1, vb (l.getD 5 atom0).1⟩ : Pol), vi (l.getD 6 atom0).1) : Pol × Int)) (fun _ => rfl)) Try.func37 (by kernel_rfl) (c := code Try.f37) (by kernel_rfl) (an := an37) (by kernel_rfl) (pk := pk37) rfl (t := t37) (by kernel_rfl) ?_
  rintro ⟨p, n⟩ hpre
  refine ⟨by simp [pk37, KindsOk, encPS, encPSn, encPSnc, encPSA, encPn, encSS, encI, Pol.enc, Stt.enc, Ac.enc, Sl.atom, Sl.nil, Stt.zero, RK.ok], ?_⟩
  unfold t37
  refine call_fun (p) rfl (by simp only [vd1, vd2, vd3, vd4, vd5, vd6, vd7, reduceCtorEq, Option.some.injEq, vb_ite, vi_ite, List.getD_cons_zero, List.getD_cons_succ, advBR, newB, doBR]) trivial ?_
  refine br_wp (fun c1 => ?_) (fun c1 => ?_)
  · refine need_wp ?_ ?_
    · exact ⟨_, _, _, rfl⟩
    refine ret_wp ?_
    ((try simp only [vd1, vd2, vd3, vd4, vd5, vd6, vd7, reduceCtorEq, Option.some.injEq, vb_ite, vi_ite, List.getD_cons_zero, List.getD_cons_succ, advBR, newB, doBR] at *) <;> grind (splits := 40) [chk4, Sl.nil])
  · have ok : okB p := by simp only [vd1, vd2, vd3, vd4, vd5, vd6, vd7, reduceCtorEq, Option.some.injEq, vb_ite, vi_ite, List.getD_cons_zero, List.getD_cons_succ, advBR, newB, doBR] at c1; unfold chk4 at c1; grind
    have ok2 := ok
    unfold okB at ok2
    have w2 := (mul_fit (x := p.b) (y := p.p) (by omega) (by omega) (by omega) (by omega)).1
    refine call_fun (n) rfl (by simp only [vd1, vd2, vd3, vd4, vd5, vd6, vd7, reduceCtorEq, Option.some.injEq, vb_ite, vi_ite, List.getD_cons_zero, List.getD_cons_succ, advBR, newB, doBR, w2]) trivial ?_
    refine need_wp ?_ ?_
    · exact ⟨_, _, _, rfl⟩
    refine ret_wp ?_
    ((try simp only [vd1, vd2, vd3, vd4, vd5, vd6, vd7, reduceCtorEq, Option.some.injEq, vb_ite, vi_ite, List.getD_cons_zero, List.getD_cons_succ, advBR, newB, doBR, w2] at *) <;> grind (splits := 40) [chk4, Sl.nil])
set_option maxHeartbeats 4000000 in
theorem h62 : holds Try.prog (kRightB sg62) := by
  refine fn_holds (l := [kChk4 sg47]) ⟨h47, trivial⟩ hP rs62 (inj_of (fun l : List Atom => (((⟨vi (l.getD 0 atom0).1, vi (l.getD 1 atom0).1, vi (l.getD 2 atom0).1, vi (l.getD 3 atom0).1, vi (l.getD 4 atom0).1, vb (l.getD 5 atom0).1⟩ : Pol), (⟨vi (l.getD 6 atom0).1, vi (l.getD 7 atom0).1, vi (l.getD 8 atom0).1, (⟨va (l.getD 9 atom0).1, vn (l.getD 9 atom0).1, vc (l.getD 9 atom0).1, (l.getD 9 atom0).2⟩ : Sl)⟩ : Stt)) : Pol × Stt)) (fun _ => rfl)) Try.func62 (by kernel_rfl) (c := code Try.f62) (by kernel_rfl) (an := an62) (by kernel_rfl) (pk := pk62) rfl (t := t62) (by kernel_rfl) ?_
  rintro ⟨p, s⟩ hpre
  refine ⟨by simp [pk62, KindsOk, encPS, encPSn, encPSnc, encPSA, encPn, encSS, encI, Pol.enc, Stt.enc, Ac.enc, Sl.atom, Sl.nil, Stt.zero, RK.ok], ?_⟩
  unfold t62
  refine call_fun (p) rfl (by simp only [vd1, vd2, vd3, vd4, vd5, vd6, vd7, reduceCtorEq, Option.some.injEq, vb_ite, vi_ite, List.getD_cons_zero, List.getD_cons_succ]) trivial ?_
  refine br_wp (fun c1 => ?_) (fun c1 => ?_)
  · have ok : ¬okB p := by simp only [vd1, vd2, vd3, vd4, vd5, vd6, vd7, reduceCtorEq, Option.some.injEq, vb_ite, vi_ite, List.getD_cons_zero, List.getD_cons_succ] at c1; unfold chk4 at c1; grind
    refine ret_wp ?_
    ((try simp only [vd1, vd2, vd3, vd4, vd5, vd6, vd7, reduceCtorEq, Option.some.injEq, vb_ite, vi_ite, List.getD_cons_zero, List.getD_cons_succ] at *) <;> grind (splits := 40) [rightB])
  · have ok : okB p := by simp only [vd1, vd2, vd3, vd4, vd5, vd6, vd7, reduceCtorEq, Option.some.injEq, vb_ite, vi_ite, List.getD_cons_zero, List.getD_cons_succ] at c1; unfold chk4 at c1; grind
    have ok2 := ok
    unfold okB at ok2
    refine br_wp (fun c2 => ?_) (fun c2 => ?_)
    · refine ret_wp ?_
      ((try simp only [vd1, vd2, vd3, vd4, vd5, vd6, vd7, reduceCtorEq, Option.some.injEq, vb_ite, vi_ite, List.getD_cons_zero, List.getD_cons_succ] at *) <;> grind (splits := 40) [rightB])
    · refine br_wp (fun c3 => ?_) (fun c3 => ?_)
      · refine ret_wp ?_
        ((try simp only [vd1, vd2, vd3, vd4, vd5, vd6, vd7, reduceCtorEq, Option.some.injEq, vb_ite, vi_ite, List.getD_cons_zero, List.getD_cons_succ] at *) <;> grind (splits := 40) [rightB])
      · refine br_wp (fun c4 => ?_) (fun c4 => ?_)
        · refine ret_wp ?_
          ((try simp only [vd1, vd2, vd3, vd4, vd5, vd6, vd7, reduceCtorEq, Option.some.injEq, vb_ite, vi_ite, List.getD_cons_zero, List.getD_cons_succ] at *) <;> grind (splits := 40) [rightB])
        · refine br_wp (fun c5 => ?_) (fun c5 => ?_)
          · refine ret_wp ?_
            ((try simp only [vd1, vd2, vd3, vd4, vd5, vd6, vd7, reduceCtorEq, Option.some.injEq, vb_ite, vi_ite, List.getD_cons_zero, List.getD_cons_succ] at *) <;> grind (splits := 40) [rightB])
          · have hh : 0 ≤ s.h ∧ s.h ≤ p.b := by simp only [vd1, vd2, vd3, vd4, vd5, vd6, vd7, reduceCtorEq, Option.some.injEq, vb_ite, vi_ite, List.getD_cons_zero, List.getD_cons_succ] at c4 c5; simp at c4 c5; exact ⟨c4, c5⟩
            have w0 : IntKind.i64.wrap (p.b - s.h) = p.b - s.h := wrap_id _ (by omega) (by omega)
            have w1 := (mul_fit (x := p.b - s.h) (y := p.p) (by omega) (by omega) (by omega) (by omega)).1
            refine need_wp ?_ ?_
            · exact ⟨_, _, _, rfl⟩
            refine br_wp (fun c6 => ?_) (fun c6 => ?_)
            · refine ret_wp ?_
              ((try simp only [vd1, vd2, vd3, vd4, vd5, vd6, vd7, reduceCtorEq, Option.some.injEq, vb_ite, vi_ite, List.getD_cons_zero, List.getD_cons_succ, w0, w1] at *) <;> grind (splits := 40) [rightB])
            · refine br_wp (fun c7 => ?_) (fun c7 => ?_)
              · refine ret_wp ?_
                ((try simp only [vd1, vd2, vd3, vd4, vd5, vd6, vd7, reduceCtorEq, Option.some.injEq, vb_ite, vi_ite, List.getD_cons_zero, List.getD_cons_succ, w0, w1] at *) <;> grind (splits := 40) [rightB])
              · refine ret_wp ?_
                ((try simp only [vd1, vd2, vd3, vd4, vd5, vd6, vd7, reduceCtorEq, Option.some.injEq, vb_ite, vi_ite, List.getD_cons_zero, List.getD_cons_succ, w0, w1] at *) <;> grind (splits := 40) [rightB])
set_option maxHeartbeats 4000000 in
theorem h63 : holds Try.prog (kAdvBR sg63) := by
  refine fn_holds (l := [kRightB sg62, kClamp sg56, kMul sg74]) ⟨h62, h56, h74, trivial⟩ hP rs63 (inj_of (fun l : List Atom => (((⟨vi (l.getD 0 atom0).1, vi (l.getD 1 atom0).1, vi (l.getD 2 atom0).1, vi (l.getD 3 atom0).1, vi (l.getD 4 atom0).1, vb (l.getD 5 atom0).1⟩ : Pol), (⟨vi (l.getD 6 atom0).1, vi (l.getD 7 atom0).1, vi (l.getD 8 atom0).1, (⟨va (l.getD 9 atom0).1, vn (l.getD 9 atom0).1, vc (l.getD 9 atom0).1, (l.getD 9 atom0).2⟩ : Sl)⟩ : Stt), vi (l.getD 10 atom0).1) : Pol × Stt × Int)) (fun _ => rfl)) Try.func63 (by kernel_rfl) (c := code Try.f63) (by kernel_rfl) (an := an63) (by kernel_rfl) (pk := pk63) rfl (t := t63) (by kernel_rfl) ?_
  rintro ⟨p, s, n⟩ hpre
  refine ⟨by simp [pk63, KindsOk, encPS, encPSn, encPSnc, encPSA, encPn, encSS, encI, Pol.enc, Stt.enc, Ac.enc, Sl.atom, Sl.nil, Stt.zero, RK.ok], ?_⟩
  unfold t63
  refine call_fun ((p, s)) rfl (by simp only [vd1, vd2, vd3, vd4, vd5, vd6, vd7, reduceCtorEq, Option.some.injEq, vb_ite, vi_ite, List.getD_cons_zero, List.getD_cons_succ, advBR, newB, doBR]) trivial ?_
  refine br_wp (fun c1 => ?_) (fun c1 => ?_)
  · have hr : rightB p s := by simp only [vd1, vd2, vd3, vd4, vd5, vd6, vd7, reduceCtorEq, Option.some.injEq, vb_ite, vi_ite, List.getD_cons_zero, List.getD_cons_succ, advBR, newB, doBR] at c1; exact c1
    obtain ⟨b1, b2, b3, b4, w0, w1, w2, b5⟩ := rightB_bd hr
    have hr2 := hr
    unfold rightB okB at hr2
    refine call_fun (n) rfl (by simp only [vd1, vd2, vd3, vd4, vd5, vd6, vd7, reduceCtorEq, Option.some.injEq, vb_ite, vi_ite, List.getD_cons_zero, List.getD_cons_succ, advBR, newB, doBR]) trivial ?_
    refine br_wp (fun c2 => ?_) (fun c2 => ?_)
    · have hx : s.t < clamp n := by simp only [vd1, vd2, vd3, vd4, vd5, vd6, vd7, reduceCtorEq, Option.some.injEq, vb_ite, vi_ite, List.getD_cons_zero, List.getD_cons_succ, advBR, newB, doBR] at c2; simpa using c2
      have cb := clamp_bd n
      have hl : ltr s n = clamp n := by unfold ltr; omega
      have w3 : IntKind.i64.wrap (clamp n - s.t) = clamp n - s.t := wrap_id _ (by omega) (by omega)
      obtain ⟨d, hd⟩ : ∃ d : Int, d = ml (clamp n - s.t) p.l := ⟨_, rfl⟩
      have hd0 : 0 ≤ d := by rw [hd]; exact Int.mul_nonneg (by omega) (by omega)
      have ha : avB p s n = min (ml (p.b - s.h) p.p) (s.v + d) := by unfold avB; rw [hl, hd]
      have w4 : IntKind.i64.wrap (ml (p.b - s.h) p.p - s.v) = ml (p.b - s.h) p.p - s.v := wrap_id _ (by omega) (by omega)
      have hmv := mulV_cases (clamp n - s.t) p.l
      rw [← hd] at hmv
      have w6 : d ≤ ml (p.b - s.h) p.p - s.v → IntKind.i64.wrap (s.v + d) = s.v + d := fun _ => wrap_id _ (by omega) (by omega)
      have w7 : ¬mulO (clamp n - s.t) p.l → ml (p.b - s.h) p.p < d := fun h => by unfold mulO at h; rw [← hd] at h; omega
      refine call_fun (((clamp n - s.t), p.l)) rfl (by simp only [vd1, vd2, vd3, vd4, vd5, vd6, vd7, reduceCtorEq, Option.some.injEq, vb_ite, vi_ite, List.getD_cons_zero, List.getD_cons_succ, advBR, newB, doBR, w0, w1, w3, w4]) (by refine ⟨⟨?_, ?_⟩, ?_, ?_⟩ <;> simp only [] <;> omega) ?_
      refine br_wp (fun c3 => ?_) (fun c3 => ?_)
      · refine br_wp (fun c4 => ?_) (fun c4 => ?_)
        · refine need_wp ?_ ?_
          · exact ⟨_, _, _, rfl⟩
          refine ret_wp ?_
          ((try simp only [vd1, vd2, vd3, vd4, vd5, vd6, vd7, reduceCtorEq, Option.some.injEq, vb_ite, vi_ite, List.getD_cons_zero, List.getD_cons_succ, advBR, newB, doBR, w0, w1, w3, w4] at *) <;> grind (splits := 40) [advBT, advBV, advBH, advBL, Sl.nil])
        · refine need_wp ?_ ?_
          · exact ⟨_, _, _, rfl⟩
          refine ret_wp ?_
          ((try simp only [vd1, vd2, vd3, vd4, vd5, vd6, vd7, reduceCtorEq, Option.some.injEq, vb_ite, vi_ite, List.getD_cons_zero, List.getD_cons_succ, advBR, newB, doBR, w0, w1, w3, w4] at *) <;> grind (splits := 40) [advBT, advBV, advBH, advBL, Sl.nil])
      · refine need_wp ?_ ?_
        · exact ⟨_, _, _, rfl⟩
        refine ret_wp ?_
        ((try simp only [vd1, vd2, vd3, vd4, vd5, vd6, vd7, reduceCtorEq, Option.some.injEq, vb_ite, vi_ite, List.getD_cons_zero, List.getD_cons_succ, advBR, newB, doBR, w0, w1, w3, w4] at *) <;> grind (splits := 40) [advBT, advBV, advBH, advBL, Sl.nil])
    · have hx : clamp n ≤ s.t := by simp only [vd1, vd2, vd3, vd4, vd5, vd6, vd7, reduceCtorEq, Option.some.injEq, vb_ite, vi_ite, List.getD_cons_zero, List.getD_cons_succ, advBR, newB, doBR] at c2; simpa using c2
      have hl : ltr s n = s.t := by unfold ltr; omega
      have ha : avB p s n = s.v := by unfold avB; rw [hl, Int.sub_self]; have : ml 0 p.l = 0 := Int.zero_mul _; omega
      refine need_wp ?_ ?_
      · exact ⟨_, _, _, rfl⟩
      refine ret_wp ?_
      ((try simp only [vd1, vd2, vd3, vd4, vd5, vd6, vd7, reduceCtorEq, Option.some.injEq, vb_ite, vi_ite, List.getD_cons_zero, List.getD_cons_succ, advBR, newB, doBR] at *) <;> grind (splits := 40) [advBT, advBV, advBH, advBL, Sl.nil])
  · refine need_wp ?_ ?_
    · exact ⟨_, _, _, rfl⟩
    refine ret_wp ?_
    ((try simp only [vd1, vd2, vd3, vd4, vd5, vd6, vd7, reduceCtorEq, Option.some.injEq, vb_ite, vi_ite, List.getD_cons_zero, List.getD_cons_succ, advBR, newB, doBR] at *) <;> grind (splits := 40) [advBT, advBV, advBH, advBL, Sl.nil])
set_option maxHeartbeats 4000000 in
theorem h40 : holds Try.prog (kRoomB sg40) := by
  refine fn_holds (l := [kRightB sg62, kAdvBR sg63]) ⟨h62, h63, trivial⟩ hP rs40 (inj_of (fun l : List Atom => (((⟨vi (l.getD 0 atom0).1, vi (l.getD 1 atom0).1, vi (l.getD 2 atom0).1, vi (l.getD 3 atom0).1, vi (l.getD 4 atom0).1, vb (l.getD 5 atom0).1⟩ : Pol), (⟨vi (l.getD 6 atom0).1, vi (l.getD 7 atom0).1, vi (l.getD 8 atom0).1, (⟨va (l.getD 9 atom0).1, vn (l.getD 9 atom0).1, vc (l.getD 9 atom0).1, (l.getD 9 atom0).2⟩ : Sl)⟩ : Stt), vi (l.getD 10 atom0).1) : Pol × Stt × Int)) (fun _ => rfl)) Try.func40 (by kernel_rfl) (c := code Try.f40) (by kernel_rfl) (an := an40) (by kernel_rfl) (pk := pk40) rfl (t := t40) (by kernel_rfl) ?_
  rintro ⟨p, s, n⟩ hpre
  refine ⟨by simp [pk40, KindsOk, encPS, encPSn, encPSnc, encPSA, encPn, encSS, encI, Pol.enc, Stt.enc, Ac.enc, Sl.atom, Sl.nil, Stt.zero, RK.ok], ?_⟩
  unfold t40
  refine call_fun ((p, s)) rfl (by simp only [vd1, vd2, vd3, vd4, vd5, vd6, vd7, reduceCtorEq, Option.some.injEq, vb_ite, vi_ite, List.getD_cons_zero, List.getD_cons_succ, advBR, newB, doBR]) trivial ?_
  refine br_wp (fun c1 => ?_) (fun c1 => ?_)
  · have hr : rightB p s := by simp only [vd1, vd2, vd3, vd4, vd5, vd6, vd7, reduceCtorEq, Option.some.injEq, vb_ite, vi_ite, List.getD_cons_zero, List.getD_cons_succ, advBR, newB, doBR] at c1; exact c1
    obtain ⟨b1, b2, b3, b4, w0, w1, w2, b5⟩ := rightB_bd hr
    have hr2 := hr
    unfold rightB okB at hr2
    have bd := avB_bd n hr
    have av : advBV p s n = avB p s n := by unfold advBV; rw [if_pos hr]
    have hp : 1 ≤ p.p := hr.1.2.2.2.2.2.1
    have q1 := rem_id (avB p s n) p.p bd.2.2
    have q2 := md_ok (avB p s n) p.p bd.2.2 hp
    have w3 : IntKind.i64.wrap (avB p s n - md (avB p s n) p.p) = avB p s n - md (avB p s n) p.p := wrap_id _ (by omega) (by omega)
    have q3 := quo_id (avB p s n - md (avB p s n) p.p) p.p (by omega) (by omega) hp
    have q4 : dv (avB p s n - md (avB p s n) p.p) p.p = dv (avB p s n) p.p := dv_floor _ _ hp
    refine call_fun ((p, s, n)) rfl (by simp only [vd1, vd2, vd3, vd4, vd5, vd6, vd7, reduceCtorEq, Option.some.injEq, vb_ite, vi_ite, List.getD_cons_zero, List.getD_cons_succ, advBR, newB, doBR, av, q1, w3, q3, q4]) trivial ?_
    refine need_wp ?_ ?_
    · (simp only [vd1, vd2, vd3, vd4, vd5, vd6, vd7, reduceCtorEq, Option.some.injEq, vb_ite, vi_ite, List.getD_cons_zero, List.getD_cons_succ, advBR, newB, doBR, av, q1, w3, q3, q4] at *; grind)
    refine ret_wp ?_
    ((try simp only [vd1, vd2, vd3, vd4, vd5, vd6, vd7, reduceCtorEq, Option.some.injEq, vb_ite, vi_ite, List.getD_cons_zero, List.getD_cons_succ, advBR, newB, doBR, av, q1, w3, q3, q4] at *) <;> grind (splits := 40) [roomB])
  · have hr : ¬rightB p s := by simp only [vd1, vd2, vd3, vd4, vd5, vd6, vd7, reduceCtorEq, Option.some.injEq, vb_ite, vi_ite, List.getD_cons_zero, List.getD_cons_succ, advBR, newB, doBR] at c1; simpa using c1
    refine ret_wp ?_
    ((try simp only [vd1, vd2, vd3, vd4, vd5, vd6, vd7, reduceCtorEq, Option.some.injEq, vb_ite, vi_ite, List.getD_cons_zero, List.getD_cons_succ, advBR, newB, doBR] at *) <;> grind (splits := 40) [roomB])
set_option maxHeartbeats 4000000 in
theorem h64 : holds Try.prog (kLastsB sg64) := by
  refine fn_holds (l := []) trivial hP rs64 (inj_of (fun l : List Atom => (((⟨vi (l.getD 0 atom0).1, vi (l.getD 1 atom0).1, vi (l.getD 2 atom0).1, vi (l.getD 3 atom0).1, vi (l.getD 4 atom0).1, vb (l.getD 5 atom0).1⟩ : Pol), vi (l.getD 6 atom0).1) : Pol × Int)) (fun _ => rfl)) Try.func64 (by kernel_rfl) (c := code Try.f64) (by kernel_rfl) (an := an64) (by kernel_rfl) (pk := pk64) rfl (t := t64) (by kernel_rfl) ?_
  rintro ⟨p, n⟩ ⟨u1, u2⟩
  refine ⟨by simp [pk64, KindsOk, encPS, encPSn, encPSnc, encPSA, encPn, encSS, encI, Pol.enc, Stt.enc, Ac.enc, Sl.atom, Sl.nil, Stt.zero, RK.ok], ?_⟩
  unfold t64
  simp only at u1 u2
  have u3 := u1
  unfold okB at u3
  have hl : 1 ≤ p.l := u3.2.1
  refine br_wp (fun c1 => ?_) (fun c1 => ?_)
  · refine ret_wp ?_
    ((try simp only [vd1, vd2, vd3, vd4, vd5, vd6, vd7, reduceCtorEq, Option.some.injEq, vb_ite, vi_ite, List.getD_cons_zero, List.getD_cons_succ] at *) <;> grind (splits := 40) [lst])
  · have hn : 0 < n := by simp only [vd1, vd2, vd3, vd4, vd5, vd6, vd7, reduceCtorEq, Option.some.injEq, vb_ite, vi_ite, List.getD_cons_zero, List.getD_cons_succ] at c1; grind
    have w1 := wrap_id (n + p.l) (by omega) (by omega)
    have w2 := wrap_id (n + p.l - 1) (by omega) (by omega)
    have q1 := quo_id (n + p.l - 1) p.l (by omega) (by omega) hl
    have q2 : dv (n + p.l - 1) p.l = cdv n p.l := lst_up hn hl
    refine need_wp ?_ ?_
    · (simp only [vd1, vd2, vd3, vd4, vd5, vd6, vd7, reduceCtorEq, Option.some.injEq, vb_ite, vi_ite, List.getD_cons_zero, List.getD_cons_succ, w1, w2, q1, q2] at *; grind)
    refine ret_wp ?_
    ((try simp only [vd1, vd2, vd3, vd4, vd5, vd6, vd7, reduceCtorEq, Option.some.injEq, vb_ite, vi_ite, List.getD_cons_zero, List.getD_cons_succ, w1, w2, q1, q2] at *) <;> grind (splits := 40) [lst])
set_option maxHeartbeats 4000000 in
theorem h41 : holds Try.prog (kUntB sg41) := by
  refine fn_holds (l := [kRightB sg62, kAdvBR sg63, kLastsB sg64]) ⟨h62, h63, h64, trivial⟩ hP rs41 (inj_of (fun l : List Atom => (((⟨vi (l.getD 0 atom0).1, vi (l.getD 1 atom0).1, vi (l.getD 2 atom0).1, vi (l.getD 3 atom0).1, vi (l.getD 4 atom0).1, vb (l.getD 5 atom0).1⟩ : Pol), (⟨vi (l.getD 6 atom0).1, vi (l.getD 7 atom0).1, vi (l.getD 8 atom0).1, (⟨va (l.getD 9 atom0).1, vn (l.getD 9 atom0).1, vc (l.getD 9 atom0).1, (l.getD 9 atom0).2⟩ : Sl)⟩ : Stt), vi (l.getD 10 atom0).1) : Pol × Stt × Int)) (fun _ => rfl)) Try.func41 (by kernel_rfl) (c := code Try.f41) (by kernel_rfl) (an := an41) (by kernel_rfl) (pk := pk41) rfl (t := t41) (by kernel_rfl) ?_
  rintro ⟨p, s, n⟩ hpre
  refine ⟨by simp [pk41, KindsOk, encPS, encPSn, encPSnc, encPSA, encPn, encSS, encI, Pol.enc, Stt.enc, Ac.enc, Sl.atom, Sl.nil, Stt.zero, RK.ok], ?_⟩
  unfold t41
  refine call_fun ((p, s)) rfl (by simp only [vd1, vd2, vd3, vd4, vd5, vd6, vd7, reduceCtorEq, Option.some.injEq, vb_ite, vi_ite, List.getD_cons_zero, List.getD_cons_succ, advBR, newB, doBR]) trivial ?_
  refine br_wp (fun c1 => ?_) (fun c1 => ?_)
  · have hr : rightB p s := by simp only [vd1, vd2, vd3, vd4, vd5, vd6, vd7, reduceCtorEq, Option.some.injEq, vb_ite, vi_ite, List.getD_cons_zero, List.getD_cons_succ, advBR, newB, doBR] at c1; exact c1
    obtain ⟨b1, b2, b3, b4, w0, w1, w2, b5⟩ := rightB_bd hr
    have hr2 := hr
    unfold rightB okB at hr2
    have bd := avB_bd n hr
    have av : advBV p s n = avB p s n := by unfold advBV; rw [if_pos hr]
    have w3 : IntKind.i64.wrap (ml p.b p.p - advBV p s n) = ml p.b p.p - avB p s n := by rw [av]; exact wrap_id _ (by omega) (by omega)
    refine br_wp (fun c2 => ?_) (fun c2 => ?_)
    · refine ret_wp ?_
      ((try simp only [vd1, vd2, vd3, vd4, vd5, vd6, vd7, reduceCtorEq, Option.some.injEq, vb_ite, vi_ite, List.getD_cons_zero, List.getD_cons_succ, advBR, newB, doBR, w2, w3] at *) <;> grind (splits := 40) [untB, advBV])
    · refine call_fun ((p, s, n)) rfl (by simp only [vd1, vd2, vd3, vd4, vd5, vd6, vd7, reduceCtorEq, Option.some.injEq, vb_ite, vi_ite, List.getD_cons_zero, List.getD_cons_succ, advBR, newB, doBR, w2, w3]) trivial ?_
      refine call_fun ((p, (ml p.b p.p - avB p s n))) rfl (by simp only [vd1, vd2, vd3, vd4, vd5, vd6, vd7, reduceCtorEq, Option.some.injEq, vb_ite, vi_ite, List.getD_cons_zero, List.getD_cons_succ, advBR, newB, doBR, w2, w3]) (by refine ⟨hr.1, ?_⟩; simp only; omega) ?_
      refine ret_wp ?_
      ((try simp only [vd1, vd2, vd3, vd4, vd5, vd6, vd7, reduceCtorEq, Option.some.injEq, vb_ite, vi_ite, List.getD_cons_zero, List.getD_cons_succ, advBR, newB, doBR, w2, w3] at *) <;> grind (splits := 40) [untB, advBV])
  · refine ret_wp ?_
    ((try simp only [vd1, vd2, vd3, vd4, vd5, vd6, vd7, reduceCtorEq, Option.some.injEq, vb_ite, vi_ite, List.getD_cons_zero, List.getD_cons_succ, advBR, newB, doBR] at *) <;> grind (splits := 40) [untB, advBV])
set_option maxHeartbeats 4000000 in
theorem h39 : holds Try.prog (kRetB sg39) := by
  refine fn_holds (l := [kRightB sg62, kAdvBR sg63, kLastsB sg64]) ⟨h62, h63, h64, trivial⟩ hP rs39 (inj_of (fun l : List Atom => (((⟨vi (l.getD 0 atom0).1, vi (l.getD 1 atom0).1, vi (l.getD 2 atom0).1, vi (l.getD 3 atom0).1, vi (l.getD 4 atom0).1, vb (l.getD 5 atom0).1⟩ : Pol), (⟨vi (l.getD 6 atom0).1, vi (l.getD 7 atom0).1, vi (l.getD 8 atom0).1, (⟨va (l.getD 9 atom0).1, vn (l.getD 9 atom0).1, vc (l.getD 9 atom0).1, (l.getD 9 atom0).2⟩ : Sl)⟩ : Stt), vi (l.getD 10 atom0).1, vi (l.getD 11 atom0).1) : Pol × Stt × Int × Int)) (fun _ => rfl)) Try.func39 (by kernel_rfl) (c := code Try.f39) (by kernel_rfl) (an := an39) (by kernel_rfl) (pk := pk39) rfl (t := t39) (by kernel_rfl) ?_
  rintro ⟨p, s, n, c⟩ hpre
  refine ⟨by simp [pk39, KindsOk, encPS, encPSn, encPSnc, encPSA, encPn, encSS, encI, Pol.enc, Stt.enc, Ac.enc, Sl.atom, Sl.nil, Stt.zero, RK.ok], ?_⟩
  unfold t39
  refine call_fun ((p, s)) rfl (by simp only [vd1, vd2, vd3, vd4, vd5, vd6, vd7, reduceCtorEq, Option.some.injEq, vb_ite, vi_ite, List.getD_cons_zero, List.getD_cons_succ, advBR, newB, doBR]) trivial ?_
  refine br_wp (fun c1 => ?_) (fun c1 => ?_)
  · have hr : rightB p s := by simp only [vd1, vd2, vd3, vd4, vd5, vd6, vd7, reduceCtorEq, Option.some.injEq, vb_ite, vi_ite, List.getD_cons_zero, List.getD_cons_succ, advBR, newB, doBR] at c1; exact c1
    obtain ⟨b1, b2, b3, b4, w0, w1, w2, b5⟩ := rightB_bd hr
    have hr2 := hr
    unfold rightB okB at hr2
    have bd := avB_bd n hr
    have av : advBV p s n = avB p s n := by unfold advBV; rw [if_pos hr]
    refine br_wp (fun c2 => ?_) (fun c2 => ?_)
    · refine ret_wp ?_
      ((try simp only [vd1, vd2, vd3, vd4, vd5, vd6, vd7, reduceCtorEq, Option.some.injEq, vb_ite, vi_ite, List.getD_cons_zero, List.getD_cons_succ, advBR, newB, doBR, w0] at *) <;> grind (splits := 40) [retB, mayB, advBV])
    · refine br_wp (fun c3 => ?_) (fun c3 => ?_)
      · refine ret_wp ?_
        ((try simp only [vd1, vd2, vd3, vd4, vd5, vd6, vd7, reduceCtorEq, Option.some.injEq, vb_ite, vi_ite, List.getD_cons_zero, List.getD_cons_succ, advBR, newB, doBR, w0] at *) <;> grind (splits := 40) [retB, mayB, advBV])
      · have hc : 1 ≤ c ∧ c ≤ p.b - s.h := by simp only [vd1, vd2, vd3, vd4, vd5, vd6, vd7, reduceCtorEq, Option.some.injEq, vb_ite, vi_ite, List.getD_cons_zero, List.getD_cons_succ, advBR, newB, doBR, w0] at c2 c3; simp at c2 c3; exact ⟨c2, c3⟩
        obtain ⟨w5, d1, d2⟩ := mul_fit (x := c) (y := p.p) (by omega) (by omega) (by omega) (by omega)
        have w4 : IntKind.i64.wrap (ml c p.p - advBV p s n) = ml c p.p - avB p s n := by rw [av]; exact wrap_id _ (by omega) (by omega)
        refine call_fun ((p, s, n)) rfl (by simp only [vd1, vd2, vd3, vd4, vd5, vd6, vd7, reduceCtorEq, Option.some.injEq, vb_ite, vi_ite, List.getD_cons_zero, List.getD_cons_succ, advBR, newB, doBR, w0, w4, w5]) trivial ?_
        refine call_fun ((p, (ml c p.p - avB p s n))) rfl (by simp only [vd1, vd2, vd3, vd4, vd5, vd6, vd7, reduceCtorEq, Option.some.injEq, vb_ite, vi_ite, List.getD_cons_zero, List.getD_cons_succ, advBR, newB, doBR, w0, w4, w5]) (by refine ⟨hr.1, ?_⟩; simp only; omega) ?_
        refine ret_wp ?_
        ((try simp only [vd1, vd2, vd3, vd4, vd5, vd6, vd7, reduceCtorEq, Option.some.injEq, vb_ite, vi_ite, List.getD_cons_zero, List.getD_cons_succ, advBR, newB, doBR, w0, w4, w5] at *) <;> grind (splits := 40) [retB, mayB, advBV])
  · refine ret_wp ?_
    ((try simp only [vd1, vd2, vd3, vd4, vd5, vd6, vd7, reduceCtorEq, Option.some.injEq, vb_ite, vi_ite, List.getD_cons_zero, List.getD_cons_succ, advBR, newB, doBR] at *) <;> grind (splits := 40) [retB, mayB, advBV])
set_option maxHeartbeats 8000000 in
theorem h38 : holds Try.prog (kDoBR sg38) := by
  refine fn_holds (l := [kRightB sg62, kAdvBR sg63, kRoomB sg40]) ⟨h62, h63, h40, trivial⟩ hP rs38 (inj_of (fun l : List Atom => (((⟨vi (l.getD 0 atom0).1, vi (l.getD 1 atom0).1, vi (l.getD 2 atom0).1, vi (l.getD 3 atom0).1, vi (l.getD 4 atom0).1, vb (l.getD 5 atom0).1⟩ : Pol), (⟨vi (l.getD 6 atom0).1, vi (l.getD 7 atom0).1, vi (l.getD 8 atom0).1, (⟨va (l.getD 9 atom0).1, vn (l.getD 9 atom0).1, vc (l.getD 9 atom0).1, (l.getD 9 atom0).2⟩ : Sl)⟩ : Stt), (⟨vi (l.getD 10 atom0).1, vi (l.getD 11 atom0).1, vi (l.getD 12 atom0).1⟩ : Ac)) : Pol × Stt × Ac)) (fun _ => rfl)) Try.func38 (by kernel_rfl) (c := code Try.f38) (by kernel_rfl) (an := an38) (by kernel_rfl) (pk := pk38) rfl (t := t38) (by kernel_rfl) ?_
  rintro ⟨p, s, a⟩ hpre
  refine ⟨by simp [pk38, KindsOk, encPS, encPSn, encPSnc, encPSA, encPn, encSS, encI, Pol.enc, Stt.enc, Ac.enc, Sl.atom, Sl.nil, Stt.zero, RK.ok], ?_⟩
  unfold t38
  refine call_fun ((p, s)) rfl (by simp only [vd1, vd2, vd3, vd4, vd5, vd6, vd7, reduceCtorEq, Option.some.injEq, vb_ite, vi_ite, List.getD_cons_zero, List.getD_cons_succ, advBR, newB, doBR]) trivial ?_
  refine br_wp (fun c1 => ?_) (fun c1 => ?_)
  · have hr : rightB p s := by simp only [vd1, vd2, vd3, vd4, vd5, vd6, vd7, reduceCtorEq, Option.some.injEq, vb_ite, vi_ite, List.getD_cons_zero, List.getD_cons_succ, advBR, newB, doBR] at c1; exact c1
    obtain ⟨b1, b2, b3, b4, w0, w1, w2, b5⟩ := rightB_bd hr
    have hr2 := hr
    unfold rightB okB at hr2
    have bd := avB_bd a.t hr
    have ri := roomB_iff a.t a.c hr
    have wm := fun (h : 1 ≤ a.c ∧ a.c ≤ p.b) => mul_fit (x := a.c) (y := p.p) (by omega) (by omega) (by omega) (by omega)
    have hcb : ml a.c p.p ≤ avB p s a.t → a.c ≤ p.b - s.h := fun h => ml_leq (p := p.p) (by omega) (by omega)
    have hrel : a.c ≤ s.h → ml (p.b - s.h) p.p + ml a.c p.p ≤ ml p.b p.p := fun h => by rw [← ml_add]; exact ml_mono (by omega) (by omega)
    have wi := wrap_id
    refine call_fun ((p, s, a.t)) rfl (by simp only [vd1, vd2, vd3, vd4, vd5, vd6, vd7, reduceCtorEq, Option.some.injEq, vb_ite, vi_ite, List.getD_cons_zero, List.getD_cons_succ, advBR, newB, doBR]) trivial ?_
    refine br_wp (fun c2 => ?_) (fun c2 => ?_)
    · refine need_wp ?_ ?_
      · exact ⟨_, _, _, rfl⟩
      refine ret_wp ?_
      ((try simp only [vd1, vd2, vd3, vd4, vd5, vd6, vd7, reduceCtorEq, Option.some.injEq, vb_ite, vi_ite, List.getD_cons_zero, List.getD_cons_succ, advBR, newB, doBR] at *) <;> grind (splits := 40) [doBT, doBV, doBH, doBL, didB, advBT, advBV, advBH, advBL, Sl.nil])
    · refine br_wp (fun c3 => ?_) (fun c3 => ?_)
      · refine need_wp ?_ ?_
        · exact ⟨_, _, _, rfl⟩
        refine ret_wp ?_
        ((try simp only [vd1, vd2, vd3, vd4, vd5, vd6, vd7, reduceCtorEq, Option.some.injEq, vb_ite, vi_ite, List.getD_cons_zero, List.getD_cons_succ, advBR, newB, doBR] at *) <;> grind (splits := 40) [doBT, doBV, doBH, doBL, didB, advBT, advBV, advBH, advBL, Sl.nil])
      · refine br_wp (fun c4 => ?_) (fun c4 => ?_)
        · refine need_wp ?_ ?_
          · exact ⟨_, _, _, rfl⟩
          refine ret_wp ?_
          ((try simp only [vd1, vd2, vd3, vd4, vd5, vd6, vd7, reduceCtorEq, Option.some.injEq, vb_ite, vi_ite, List.getD_cons_zero, List.getD_cons_succ, advBR, newB, doBR] at *) <;> grind (splits := 40) [doBT, doBV, doBH, doBL, didB, advBT, advBV, advBH, advBL, Sl.nil])
        · refine br_wp (fun c5 => ?_) (fun c5 => ?_)
          · refine call_fun ((p, s, a.t)) rfl (by simp only [vd1, vd2, vd3, vd4, vd5, vd6, vd7, reduceCtorEq, Option.some.injEq, vb_ite, vi_ite, List.getD_cons_zero, List.getD_cons_succ, advBR, newB, doBR]) trivial ?_
            refine br_wp (fun c6 => ?_) (fun c6 => ?_)
            · refine need_wp ?_ ?_
              · exact ⟨_, _, _, rfl⟩
              refine ret_wp ?_
              ((try simp only [vd1, vd2, vd3, vd4, vd5, vd6, vd7, reduceCtorEq, Option.some.injEq, vb_ite, vi_ite, List.getD_cons_zero, List.getD_cons_succ, advBR, newB, doBR] at *) <;> grind (splits := 40) [doBT, doBV, doBH, doBL, didB, advBT, advBV, advBH, advBL, Sl.nil])
            · refine br_wp (fun c7 => ?_) (fun c7 => ?_)
              · refine br_wp (fun c8 => ?_) (fun c8 => ?_)
                · refine need_wp ?_ ?_
                  · exact ⟨_, _, _, rfl⟩
                  refine ret_wp ?_
                  ((try simp only [vd1, vd2, vd3, vd4, vd5, vd6, vd7, reduceCtorEq, Option.some.injEq, vb_ite, vi_ite, List.getD_cons_zero, List.getD_cons_succ, advBR, newB, doBR] at *) <;> grind (splits := 40) [doBT, doBV, doBH, doBL, didB, advBT, advBV, advBH, advBL, Sl.nil])
                · refine br_wp (fun c9 => ?_) (fun c9 => ?_)
                  · refine need_wp ?_ ?_
                    · exact ⟨_, _, _, rfl⟩
                    refine ret_wp ?_
                    ((try simp only [vd1, vd2, vd3, vd4, vd5, vd6, vd7, reduceCtorEq, Option.some.injEq, vb_ite, vi_ite, List.getD_cons_zero, List.getD_cons_succ, advBR, newB, doBR] at *) <;> grind (splits := 40) [doBT, doBV, doBH, doBL, didB, advBT, advBV, advBH, advBL, Sl.nil])
                  · refine br_wp (fun c10 => ?_) (fun c10 => ?_)
                    · refine need_wp ?_ ?_
                      · exact ⟨_, _, _, rfl⟩
                      refine ret_wp ?_
                      ((try simp only [vd1, vd2, vd3, vd4, vd5, vd6, vd7, reduceCtorEq, Option.some.injEq, vb_ite, vi_ite, List.getD_cons_zero, List.getD_cons_succ, advBR, newB, doBR] at *) <;> grind (splits := 40) [doBT, doBV, doBH, doBL, didB, advBT, advBV, advBH, advBL, Sl.nil])
                    · refine br_wp (fun c11 => ?_) (fun c11 => ?_)
                      · refine need_wp ?_ ?_
                        · exact ⟨_, _, _, rfl⟩
                        refine ret_wp ?_
                        ((try simp only [vd1, vd2, vd3, vd4, vd5, vd6, vd7, reduceCtorEq, Option.some.injEq, vb_ite, vi_ite, List.getD_cons_zero, List.getD_cons_succ, advBR, newB, doBR] at *) <;> grind (splits := 40) [doBT, doBV, doBH, doBL, didB, advBT, advBV, advBH, advBL, Sl.nil])
                      · refine br_wp (fun c12 => ?_) (fun c12 => ?_)
                        · refine need_wp ?_ ?_
                          · exact ⟨_, _, _, rfl⟩
                          refine ret_wp ?_
                          ((try simp only [vd1, vd2, vd3, vd4, vd5, vd6, vd7, reduceCtorEq, Option.some.injEq, vb_ite, vi_ite, List.getD_cons_zero, List.getD_cons_succ, advBR, newB, doBR] at *) <;> grind (splits := 40) [doBT, doBV, doBH, doBL, didB, advBT, advBV, advBH, advBL, Sl.nil])
                        · refine need_wp ?_ ?_
                          · exact ⟨_, _, _, rfl⟩
                          refine ret_wp ?_
                          ((try simp only [vd1, vd2, vd3, vd4, vd5, vd6, vd7, reduceCtorEq, Option.some.injEq, vb_ite, vi_ite, List.getD_cons_zero, List.getD_cons_succ, advBR, newB, doBR] at *) <;> grind (splits := 40) [doBT, doBV, doBH, doBL, didB, advBT, advBV, advBH, advBL, Sl.nil])
              · refine br_wp (fun c13 => ?_) (fun c13 => ?_)
                · refine need_wp ?_ ?_
                  · exact ⟨_, _, _, rfl⟩
                  refine ret_wp ?_
                  ((try simp only [vd1, vd2, vd3, vd4, vd5, vd6, vd7, reduceCtorEq, Option.some.injEq, vb_ite, vi_ite, List.getD_cons_zero, List.getD_cons_succ, advBR, newB, doBR] at *) <;> grind (splits := 40) [doBT, doBV, doBH, doBL, didB, advBT, advBV, advBH, advBL, Sl.nil])
                · refine br_wp (fun c14 => ?_) (fun c14 => ?_)
                  · refine need_wp ?_ ?_
                    · exact ⟨_, _, _, rfl⟩
                    refine ret_wp ?_
                    ((try simp only [vd1, vd2, vd3, vd4, vd5, vd6, vd7, reduceCtorEq, Option.some.injEq, vb_ite, vi_ite, List.getD_cons_zero, List.getD_cons_succ, advBR, newB, doBR] at *) <;> grind (splits := 40) [doBT, doBV, doBH, doBL, didB, advBT, advBV, advBH, advBL, Sl.nil])
                  · refine br_wp (fun c15 => ?_) (fun c15 => ?_)
                    · refine need_wp ?_ ?_
                      · exact ⟨_, _, _, rfl⟩
                      refine ret_wp ?_
                      ((try simp only [vd1, vd2, vd3, vd4, vd5, vd6, vd7, reduceCtorEq, Option.some.injEq, vb_ite, vi_ite, List.getD_cons_zero, List.getD_cons_succ, advBR, newB, doBR] at *) <;> grind (splits := 40) [doBT, doBV, doBH, doBL, didB, advBT, advBV, advBH, advBL, Sl.nil])
                    · refine br_wp (fun c16 => ?_) (fun c16 => ?_)
                      · refine need_wp ?_ ?_
                        · exact ⟨_, _, _, rfl⟩
                        refine ret_wp ?_
                        ((try simp only [vd1, vd2, vd3, vd4, vd5, vd6, vd7, reduceCtorEq, Option.some.injEq, vb_ite, vi_ite, List.getD_cons_zero, List.getD_cons_succ, advBR, newB, doBR] at *) <;> grind (splits := 40) [doBT, doBV, doBH, doBL, didB, advBT, advBV, advBH, advBL, Sl.nil])
                      · refine need_wp ?_ ?_
                        · exact ⟨_, _, _, rfl⟩
                        refine ret_wp ?_
                        ((try simp only [vd1, vd2, vd3, vd4, vd5, vd6, vd7, reduceCtorEq, Option.some.injEq, vb_ite, vi_ite, List.getD_cons_zero, List.getD_cons_succ, advBR, newB, doBR] at *) <;> grind (splits := 40) [doBT, doBV, doBH, doBL, didB, advBT, advBV, advBH, advBL, Sl.nil])
          · refine br_wp (fun c17 => ?_) (fun c17 => ?_)
            · refine br_wp (fun c18 => ?_) (fun c18 => ?_)
              · refine need_wp ?_ ?_
                · exact ⟨_, _, _, rfl⟩
                refine ret_wp ?_
                ((try simp only [vd1, vd2, vd3, vd4, vd5, vd6, vd7, reduceCtorEq, Option.some.injEq, vb_ite, vi_ite, List.getD_cons_zero, List.getD_cons_succ, advBR, newB, doBR] at *) <;> grind (splits := 40) [doBT, doBV, doBH, doBL, didB, advBT, advBV, advBH, advBL, Sl.nil])
              · refine br_wp (fun c19 => ?_) (fun c19 => ?_)
                · refine need_wp ?_ ?_
                  · exact ⟨_, _, _, rfl⟩
                  refine ret_wp ?_
                  ((try simp only [vd1, vd2, vd3, vd4, vd5, vd6, vd7, reduceCtorEq, Option.some.injEq, vb_ite, vi_ite, List.getD_cons_zero, List.getD_cons_succ, advBR, newB, doBR] at *) <;> grind (splits := 40) [doBT, doBV, doBH, doBL, didB, advBT, advBV, advBH, advBL, Sl.nil])
                · refine br_wp (fun c20 => ?_) (fun c20 => ?_)
                  · refine need_wp ?_ ?_
                    · exact ⟨_, _, _, rfl⟩
                    refine ret_wp ?_
                    ((try simp only [vd1, vd2, vd3, vd4, vd5, vd6, vd7, reduceCtorEq, Option.some.injEq, vb_ite, vi_ite, List.getD_cons_zero, List.getD_cons_succ, advBR, newB, doBR] at *) <;> grind (splits := 40) [doBT, doBV, doBH, doBL, didB, advBT, advBV, advBH, advBL, Sl.nil])
                  · refine br_wp (fun c21 => ?_) (fun c21 => ?_)
                    · refine need_wp ?_ ?_
                      · exact ⟨_, _, _, rfl⟩
                      refine ret_wp ?_
                      ((try simp only [vd1, vd2, vd3, vd4, vd5, vd6, vd7, reduceCtorEq, Option.some.injEq, vb_ite, vi_ite, List.getD_cons_zero, List.getD_cons_succ, advBR, newB, doBR] at *) <;> grind (splits := 40) [doBT, doBV, doBH, doBL, didB, advBT, advBV, advBH, advBL, Sl.nil])
                    · refine br_wp (fun c22 => ?_) (fun c22 => ?_)
                      · refine need_wp ?_ ?_
                        · exact ⟨_, _, _, rfl⟩
                        refine ret_wp ?_
                        ((try simp only [vd1, vd2, vd3, vd4, vd5, vd6, vd7, reduceCtorEq, Option.some.injEq, vb_ite, vi_ite, List.getD_cons_zero, List.getD_cons_succ, advBR, newB, doBR] at *) <;> grind (splits := 40) [doBT, doBV, doBH, doBL, didB, advBT, advBV, advBH, advBL, Sl.nil])
                      · refine need_wp ?_ ?_
                        · exact ⟨_, _, _, rfl⟩
                        refine ret_wp ?_
                        ((try simp only [vd1, vd2, vd3, vd4, vd5, vd6, vd7, reduceCtorEq, Option.some.injEq, vb_ite, vi_ite, List.getD_cons_zero, List.getD_cons_succ, advBR, newB, doBR] at *) <;> grind (splits := 40) [doBT, doBV, doBH, doBL, didB, advBT, advBV, advBH, advBL, Sl.nil])
            · refine br_wp (fun c23 => ?_) (fun c23 => ?_)
              · refine need_wp ?_ ?_
                · exact ⟨_, _, _, rfl⟩
                refine ret_wp ?_
                ((try simp only [vd1, vd2, vd3, vd4, vd5, vd6, vd7, reduceCtorEq, Option.some.injEq, vb_ite, vi_ite, List.getD_cons_zero, List.getD_cons_succ, advBR, newB, doBR] at *) <;> grind (splits := 40) [doBT, doBV, doBH, doBL, didB, advBT, advBV, advBH, advBL, Sl.nil])
              · refine br_wp (fun c24 => ?_) (fun c24 => ?_)
                · refine need_wp ?_ ?_
                  · exact ⟨_, _, _, rfl⟩
                  refine ret_wp ?_
                  ((try simp only [vd1, vd2, vd3, vd4, vd5, vd6, vd7, reduceCtorEq, Option.some.injEq, vb_ite, vi_ite, List.getD_cons_zero, List.getD_cons_succ, advBR, newB, doBR] at *) <;> grind (splits := 40) [doBT, doBV, doBH, doBL, didB, advBT, advBV, advBH, advBL, Sl.nil])
                · refine br_wp (fun c25 => ?_) (fun c25 => ?_)
                  · refine need_wp ?_ ?_
                    · exact ⟨_, _, _, rfl⟩
                    refine ret_wp ?_
                    ((try simp only [vd1, vd2, vd3, vd4, vd5, vd6, vd7, reduceCtorEq, Option.some.injEq, vb_ite, vi_ite, List.getD_cons_zero, List.getD_cons_succ, advBR, newB, doBR] at *) <;> grind (splits := 40) [doBT, doBV, doBH, doBL, didB, advBT, advBV, advBH, advBL, Sl.nil])
                  · refine br_wp (fun c26 => ?_) (fun c26 => ?_)
                    · refine need_wp ?_ ?_
                      · exact ⟨_, _, _, rfl⟩
                      refine ret_wp ?_
                      ((try simp only [vd1, vd2, vd3, vd4, vd5, vd6, vd7, reduceCtorEq, Option.some.injEq, vb_ite, vi_ite, List.getD_cons_zero, List.getD_cons_succ, advBR, newB, doBR] at *) <;> grind (splits := 40) [doBT, doBV, doBH, doBL, didB, advBT, advBV, advBH, advBL, Sl.nil])
                    · refine need_wp ?_ ?_
                      · exact ⟨_, _, _, rfl⟩
                      refine ret_wp ?_
                      ((try simp only [vd1, vd2, vd3, vd4, vd5, vd6, vd7, reduceCtorEq, Option.some.injEq, vb_ite, vi_ite, List.getD_cons_zero, List.getD_cons_succ, advBR, newB, doBR] at *) <;> grind (splits := 40) [doBT, doBV, doBH, doBL, didB, advBT, advBV, advBH, advBL, Sl.nil])
  · refine need_wp ?_ ?_
    · exact ⟨_, _, _, rfl⟩
    refine ret_wp ?_
    ((try simp only [vd1, vd2, vd3, vd4, vd5, vd6, vd7, reduceCtorEq, Option.some.injEq, vb_ite, vi_ite, List.getD_cons_zero, List.getD_cons_succ, advBR, newB, doBR] at *) <;> grind (splits := 40) [doBT, doBV, doBH, doBL, didB, advBT, advBV, advBH, advBL, Sl.nil])
def kToldB (sg : Sig) : Sig × Con := (sg, mkFun (fun x : Pol × Stt × Stt × Int × Int => ([aI x.1.k, aI x.1.l, aI x.1.p, aI x.1.b, aI x.1.c, aB x.1.o, aI x.2.1.t, aI x.2.1.v, aI x.2.1.h, Sl.atom x.2.1.g, aI x.2.2.1.t, aI x.2.2.1.v, aI x.2.2.1.h, Sl.atom x.2.2.1.g, aI x.2.2.2.1, aI x.2.2.2.2] : List Atom)) preToldB (fun _ => [aB true]))
set_option maxHeartbeats 4000000 in
theorem h49 : holds Try.prog (kToldB sg49) := by
  refine fn_holds (l := [kRetB sg42, kRetB sg39, kAdvB sg46, kAdvBR sg63, kSame sg21, kRightB sg44, kRightB sg62, kRoomB sg45, kRoomB sg40, kUntB sg43, kUntB sg41]) ⟨h42, h39, h46, h63, h21, h44, h62, h45, h40, h43, h41, trivial⟩ hP rs49 (inj_of (fun l : List Atom => (((⟨vi (l.getD 0 atom0).1, vi (l.getD 1 atom0).1, vi (l.getD 2 atom0).1, vi (l.getD 3 atom0).1, vi (l.getD 4 atom0).1, vb (l.getD 5 atom0).1⟩ : Pol), (⟨vi (l.getD 6 atom0).1, vi (l.getD 7 atom0).1, vi (l.getD 8 atom0).1, (⟨va (l.getD 9 atom0).1, vn (l.getD 9 atom0).1, vc (l.getD 9 atom0).1, (l.getD 9 atom0).2⟩ : Sl)⟩ : Stt), (⟨vi (l.getD 10 atom0).1, vi (l.getD 11 atom0).1, vi (l.getD 12 atom0).1, (⟨va (l.getD 13 atom0).1, vn (l.getD 13 atom0).1, vc (l.getD 13 atom0).1, (l.getD 13 atom0).2⟩ : Sl)⟩ : Stt), vi (l.getD 14 atom0).1, vi (l.getD 15 atom0).1) : Pol × Stt × Stt × Int × Int)) (fun _ => rfl)) Try.func49 (by kernel_rfl) (c := code Try.f49) (by kernel_rfl) (an := an49) (by kernel_rfl) (pk := pk49) rfl (t := t49) (by kernel_rfl) ?_
  rintro ⟨p, s, t, n, c⟩ hpre
  refine ⟨by simp [pk49, KindsOk, encPS, encPSn, encPSnc, encPSA, encPn, encSS, encI, Pol.enc, Stt.enc, Ac.enc, Sl.atom, Sl.nil, Stt.zero, RK.ok], ?_⟩
  unfold t49
  have hs := hpre.2.2
  have hx := sim_of hs
  have f1 := toldB p n c hx
  simp only at f1 hs
  have f2 := same_advB p n hx
  obtain ⟨o1, o2, _⟩ := hpre
  refine call_fun ((p, s, n, c)) rfl (by simp only [vd1, vd2, vd3, vd4, vd5, vd6, vd7, reduceCtorEq, Option.some.injEq, vb_ite, vi_ite, List.getD_cons_zero, List.getD_cons_succ]) trivial ?_
  refine call_fun ((p, t, n, c)) rfl (by simp only [vd1, vd2, vd3, vd4, vd5, vd6, vd7, reduceCtorEq, Option.some.injEq, vb_ite, vi_ite, List.getD_cons_zero, List.getD_cons_succ]) trivial ?_
  refine call_fun ((p, s, n)) rfl (by simp only [vd1, vd2, vd3, vd4, vd5, vd6, vd7, reduceCtorEq, Option.some.injEq, vb_ite, vi_ite, List.getD_cons_zero, List.getD_cons_succ]) trivial ?_
  refine call_fun ((p, t, n)) rfl (by simp only [vd1, vd2, vd3, vd4, vd5, vd6, vd7, reduceCtorEq, Option.some.injEq, vb_ite, vi_ite, List.getD_cons_zero, List.getD_cons_succ]) trivial ?_
  refine call_fun ((s, t)) rfl (by simp only [vd1, vd2, vd3, vd4, vd5, vd6, vd7, reduceCtorEq, Option.some.injEq, vb_ite, vi_ite, List.getD_cons_zero, List.getD_cons_succ]) (by first | exact ⟨o1, o2⟩ | exact ⟨lgOk_nil rfl, lgOk_nil (advBL_n p t)⟩) ?_
  refine br_wp (fun c1 => ?_) (fun c1 => ?_)
  · refine call_fun (((advB p s n), (advBR p t n))) rfl (by simp only [vd1, vd2, vd3, vd4, vd5, vd6, vd7, reduceCtorEq, Option.some.injEq, vb_ite, vi_ite, List.getD_cons_zero, List.getD_cons_succ]) (by first | exact ⟨o1, o2⟩ | exact ⟨lgOk_nil rfl, lgOk_nil (advBL_n p t)⟩) ?_
    refine br_wp (fun c2 => ?_) (fun c2 => ?_)
    · refine call_fun ((p, s)) rfl (by simp only [vd1, vd2, vd3, vd4, vd5, vd6, vd7, reduceCtorEq, Option.some.injEq, vb_ite, vi_ite, List.getD_cons_zero, List.getD_cons_succ]) trivial ?_
      refine call_fun ((p, t)) rfl (by simp only [vd1, vd2, vd3, vd4, vd5, vd6, vd7, reduceCtorEq, Option.some.injEq, vb_ite, vi_ite, List.getD_cons_zero, List.getD_cons_succ]) trivial ?_
      refine br_wp (fun c3 => ?_) (fun c3 => ?_)
      · refine call_fun ((p, s, n)) rfl (by simp only [vd1, vd2, vd3, vd4, vd5, vd6, vd7, reduceCtorEq, Option.some.injEq, vb_ite, vi_ite, List.getD_cons_zero, List.getD_cons_succ]) trivial ?_
        refine call_fun ((p, t, n)) rfl (by simp only [vd1, vd2, vd3, vd4, vd5, vd6, vd7, reduceCtorEq, Option.some.injEq, vb_ite, vi_ite, List.getD_cons_zero, List.getD_cons_succ]) trivial ?_
        refine br_wp (fun c4 => ?_) (fun c4 => ?_)
        · refine call_fun ((p, s, n)) rfl (by simp only [vd1, vd2, vd3, vd4, vd5, vd6, vd7, reduceCtorEq, Option.some.injEq, vb_ite, vi_ite, List.getD_cons_zero, List.getD_cons_succ]) trivial ?_
          refine call_fun ((p, t, n)) rfl (by simp only [vd1, vd2, vd3, vd4, vd5, vd6, vd7, reduceCtorEq, Option.some.injEq, vb_ite, vi_ite, List.getD_cons_zero, List.getD_cons_succ]) trivial ?_
          refine br_wp (fun c5 => ?_) (fun c5 => ?_)
          · refine br_wp (fun c6 => ?_) (fun c6 => ?_)
            · refine ret_wp ?_
              (first | rfl | ((simp only [vd1, vd2, vd3, vd4, vd5, vd6, vd7, reduceCtorEq, Option.some.injEq, vb_ite, vi_ite, List.getD_cons_zero, List.getD_cons_succ, f1.2.2.2.2, beq_self_eq_true]); done) | (exfalso; (simp only [vd1, vd2, vd3, vd4, vd5, vd6, vd7, reduceCtorEq, Option.some.injEq, vb_ite, vi_ite, List.getD_cons_zero, List.getD_cons_succ] at *) <;> grind))
            · refine ret_wp ?_
              (first | rfl | ((simp only [vd1, vd2, vd3, vd4, vd5, vd6, vd7, reduceCtorEq, Option.some.injEq, vb_ite, vi_ite, List.getD_cons_zero, List.getD_cons_succ, f1.2.2.2.2, beq_self_eq_true]); done) | (exfalso; (simp only [vd1, vd2, vd3, vd4, vd5, vd6, vd7, reduceCtorEq, Option.some.injEq, vb_ite, vi_ite, List.getD_cons_zero, List.getD_cons_succ] at *) <;> grind))
          · refine ret_wp ?_
            (first | rfl | ((simp only [vd1, vd2, vd3, vd4, vd5, vd6, vd7, reduceCtorEq, Option.some.injEq, vb_ite, vi_ite, List.getD_cons_zero, List.getD_cons_succ, f1.2.2.2.2, beq_self_eq_true]); done) | (exfalso; (simp only [vd1, vd2, vd3, vd4, vd5, vd6, vd7, reduceCtorEq, Option.some.injEq, vb_ite, vi_ite, List.getD_cons_zero, List.getD_cons_succ] at *) <;> grind))
        · refine ret_wp ?_
          (first | rfl | ((simp only [vd1, vd2, vd3, vd4, vd5, vd6, vd7, reduceCtorEq, Option.some.injEq, vb_ite, vi_ite, List.getD_cons_zero, List.getD_cons_succ, f1.2.2.2.2, beq_self_eq_true]); done) | (exfalso; (simp only [vd1, vd2, vd3, vd4, vd5, vd6, vd7, reduceCtorEq, Option.some.injEq, vb_ite, vi_ite, List.getD_cons_zero, List.getD_cons_succ] at *) <;> grind))
      · refine ret_wp ?_
        (first | rfl | ((simp only [vd1, vd2, vd3, vd4, vd5, vd6, vd7, reduceCtorEq, Option.some.injEq, vb_ite, vi_ite, List.getD_cons_zero, List.getD_cons_succ, f1.2.2.2.2, beq_self_eq_true]); done) | (exfalso; (simp only [vd1, vd2, vd3, vd4, vd5, vd6, vd7, reduceCtorEq, Option.some.injEq, vb_ite, vi_ite, List.getD_cons_zero, List.getD_cons_succ] at *) <;> grind))
    · refine ret_wp ?_
      (first | rfl | ((simp only [vd1, vd2, vd3, vd4, vd5, vd6, vd7, reduceCtorEq, Option.some.injEq, vb_ite, vi_ite, List.getD_cons_zero, List.getD_cons_succ, f1.2.2.2.2, beq_self_eq_true]); done) | (exfalso; (simp only [vd1, vd2, vd3, vd4, vd5, vd6, vd7, reduceCtorEq, Option.some.injEq, vb_ite, vi_ite, List.getD_cons_zero, List.getD_cons_succ] at *) <;> grind))
  · refine ret_wp ?_
    (first | rfl | ((simp only [vd1, vd2, vd3, vd4, vd5, vd6, vd7, reduceCtorEq, Option.some.injEq, vb_ite, vi_ite, List.getD_cons_zero, List.getD_cons_succ, f1.2.2.2.2, beq_self_eq_true]); done) | (exfalso; (simp only [vd1, vd2, vd3, vd4, vd5, vd6, vd7, reduceCtorEq, Option.some.injEq, vb_ite, vi_ite, List.getD_cons_zero, List.getD_cons_succ] at *) <;> grind))
end Go.Proofs.YtjmenmnjkfnhgaaK
