import Derived.Test.YtjmenmnjkfnhgaaVN6
import Derived.Test.YtjmenmnjkfnhgaaVN8m
import Derived.Test.YtjmenmnjkfnhgaaVR4tm
import Derived.Test.YtjmenmnjkfnhgaaVR4tm
import Derived.Test.YtjmenmnjkfnhgaaVR4b
set_option linter.unusedSimpArgs false
set_option linter.unusedVariables false
namespace Go.Proofs.YtjmenmnjkfnhgaaK
open Go Go.Proofs.YtjmenmnjkfnhgaaV Go.Proofs Go.RowKit Go.Proofs.Ytjmenmnjkfnhgaa.PGcraStates
def okB (p : Pol) : Prop := p.k = 1 ∧ 1 ≤ p.l ∧ p.l ≤ 1048576 ∧ 1 ≤ p.b ∧ p.b ≤ 1048576 ∧ 1 ≤ p.p ∧ p.p ≤ 1099511627776 ∧ p.c = 0
instance (p : Pol) : Decidable (okB p) := by unfold okB; exact inferInstance
def chk4 (p : Pol) : Int := if okB p then 0 else 2
def asP (p : Pol) : Pol := ⟨if p.k = 2 then 1 else 0, p.l, p.p, p.b, p.c, p.o⟩
theorem chk_as (p : Pol) : chk4 (asP p) = chkG p := by
  have e : okB (asP p) ↔ okG p := by unfold okB okG asP; grind
  unfold chk4 chkG
  by_cases h : okG p
  · rw [if_pos h, if_pos (e.2 h)]
  · rw [if_neg h, if_neg (fun h2 => h (e.1 h2))]
def advL (p : Pol) (s : Stt) (n : Int) : Sl := if rightG p s ∧ clamp n ≤ s.t then s.g else Sl.nil
def advR (p : Pol) (s : Stt) (n : Int) : Stt := ⟨advT p s n, advV p s n, advH p s, advL p s n⟩
def doL (p : Pol) (s : Stt) (a : Ac) : Sl := if didG p s a then advL p s a.t else if rightG p s then s.g else Sl.nil
def doR (p : Pol) (s : Stt) (a : Ac) : Stt := ⟨doT p s a, doV p s a, doH p s a, doL p s a⟩
theorem room_iff {p : Pol} {s : Stt} (n c : Int) (h : rightG p s) : c ≤ roomG p s n ↔ avG p s n + ml c p.p ≤ ml p.b p.p := by
  have hp : 1 ≤ p.p := h.1.2.2.2.2.2.2.1
  unfold roomG dv
  rw [if_pos h, Int.le_ediv_iff_mul_le (by omega)]
  unfold ml; omega
theorem room_le {p : Pol} {s : Stt} (n : Int) (h : rightG p s) : 0 ≤ roomG p s n ∧ roomG p s n ≤ p.b := by
  have hp : 1 ≤ p.p := h.1.2.2.2.2.2.2.1
  have bd := avG_bd n h
  have b0 := (rightG_bd h).1
  refine ⟨(room_iff n 0 h).2 (by have : ml 0 p.p = 0 := Int.zero_mul _; omega), ?_⟩
  have h1 := (room_iff n (roomG p s n) h).1 (Int.le_refl _)
  exact Int.le_of_mul_le_mul_right (show roomG p s n * p.p ≤ p.b * p.p by unfold ml at h1 bd b0; omega) (by omega)
theorem dvl_spec {n l : Int} (h : 0 ≤ n) (hl : 1 ≤ l) : n = ml (dv n l) l + md n l ∧ 0 ≤ md n l ∧ md n l < l ∧ 0 ≤ dv n l ∧ dv n l ≤ n := by
  have e := Int.emod_add_mul_ediv n l
  refine ⟨?_, Int.emod_nonneg n (by omega), Int.emod_lt_of_pos n (by omega), (dv_ok n l h hl).1, (dv_ok n l h hl).2⟩
  unfold ml dv md
  rw [Int.mul_comm]; omega
theorem clamp_bd (n : Int) : 0 ≤ clamp n ∧ clamp n ≤ 9007199254740992 := by unfold clamp; split <;> (try split) <;> omega
theorem mulV_cases (a b : Int) : (mulO a b ∧ mulV a b = ml a b) ∨ (¬mulO a b ∧ mulV a b = 0) := by
  unfold mulV; by_cases h : mulO a b
  · exact Or.inl ⟨h, by rw [if_pos h]⟩
  · exact Or.inr ⟨h, by rw [if_neg h]⟩
instance (a : Int) : Decidable (in64 a) := by unfold in64; exact inferInstance
def okv (n : Int) : Int := if in64 n then n else 0
/-- A contract, out of a call's law. -/
theorem holds_fun {P : Program} {sg : Sig} {fn : Func} {α : Type} {enc : α → List Atom} {pre : α → Prop} {f : α → List Atom} (hinj : ∀ x y, enc x = enc y → x = y)
    (hfn : P.funcs[sg.f]? = some fn) (hname : (fn.name == "runtime.NumGoroutine") = false) (hbody : fn.body.isSome = true)
    (h : ∀ x, pre x → ∀ w : World, Calls P sg.f (mkVals sg.ash ((enc x).map (·.1))).toArray w fun e w' => e = .returned (mkRes sg.tup sg.rsh ((f x).map (·.1))) ∧ Below w.heap.size w w')
    (hk : ∀ x, pre x → KindsOk sg.res (f x) ∧ ∀ a ∈ f x, a.2 = .leaf ∧ a.1.oneCell' = true) : holds P (sg, mkFun enc pre f) := by
  refine ⟨⟨fn, hfn, hname, hbody⟩, ?_⟩
  rintro args m w hm hg ⟨x, rfl, hp⟩
  refine (h x hp w).mono fun e w' ⟨he, hb⟩ => ?_
  refine ⟨f x, he, (hk x hp).1, fun y hy _ => by rw [hinj _ _ hy], fun a ha => ?_, hb⟩
  obtain ⟨h1, h2⟩ := (hk x hp).2 a ha
  obtain ⟨v, d⟩ := a
  simp only at h1
  subst h1
  exact ⟨.leaf _, h2⟩
theorem fits_in (n : Int) : fitsB n = true ↔ in64 n := by unfold fitsB in64; simp
theorem fits_okv (n : Int) : (if fitsB n = true then n else 0) = okv n ∧ fitsB n = decide (in64 n) := by
  refine ⟨?_, by rw [Bool.eq_iff_iff, fits_in]; simp⟩
  unfold okv
  by_cases h : in64 n
  · rw [if_pos h, if_pos ((fits_in n).2 h)]
  · rw [if_neg h, if_neg (fun h2 => h ((fits_in n).1 h2))]
theorem fits_mul (a b : Int) : (if fitsB (a * b) = true then a * b else 0) = mulV a b ∧ fitsB (a * b) = decide (mulO a b) := by
  have e : ∀ n : Int, fitsB n = true ↔ in64 n := fits_in
  refine ⟨?_, by rw [Bool.eq_iff_iff, fits_in, decide_eq_true_iff]; exact Iff.rfl⟩
  unfold mulV
  by_cases h : mulO a b
  · rw [if_pos h, if_pos ((fits_in (a * b)).2 h)]; rfl
  · rw [if_neg h, if_neg (fun h2 => h ((fits_in (a * b)).1 h2))]
theorem h74 : holds Try.prog (kMul sg74) := by
  refine holds_fun (inj_of (fun l : List Atom => ((vi (l.getD 0 atom0).1, vi (l.getD 1 atom0).1) : Int × Int)) (fun _ => rfl)) (fn := Try.f74) Try.func74 (by kernel_rfl) (by kernel_rfl) ?_ ?_
  · rintro ⟨a, b⟩ ⟨⟨h1, h2⟩, h3, h4⟩ w
    have e := Mul_is h1 h2 h3 h4 (Nat.le_refl 1000000)
    rw [(fits_mul a b).1, (fits_mul a b).2] at e
    exact tapsterref01_Mul.calls _ a b _ _ w e
  · rintro ⟨a, b⟩ _
    refine ⟨⟨⟨_, rfl⟩, ⟨_, rfl⟩, trivial⟩, ?_⟩
    intro x hx
    simp only [List.mem_cons, List.not_mem_nil, or_false] at hx
    rcases hx with rfl | rfl <;> exact ⟨rfl, rfl⟩
def kChk4 (sg : Sig) : Sig × Con := (sg, mkFun (fun x : Pol => ([aI x.k, aI x.l, aI x.p, aI x.b, aI x.c, aB x.o] : List Atom)) (fun _ => True) (fun p => [aI (chk4 p)]))
set_option maxHeartbeats 4000000 in
theorem h47 : holds Try.prog (kChk4 sg47) := by
  refine fn_holds (l := []) trivial hP rs47 (inj_of (fun l : List Atom => ((⟨vi (l.getD 0 atom0).1, vi (l.getD 1 atom0).1, vi (l.getD 2 atom0).1, vi (l.getD 3 atom0).1, vi (l.getD 4 atom0).1, vb (l.getD 5 atom0).1⟩ : Pol) : Pol)) (fun _ => rfl)) Try.func47 (by kernel_rfl) (c := code Try.f47) (by kernel_rfl) (an := an47) (by kernel_rfl) (pk := pk47) rfl (t := t47) (by kernel_rfl) ?_
  rintro p hpre
  refine ⟨by simp [pk47, KindsOk, encPS, encPSn, encPSnc, encPSA, encPn, encSS, encI, Pol.enc, Stt.enc, Ac.enc, Sl.atom, Sl.nil, Stt.zero, RK.ok], ?_⟩
  unfold t47
  refine br_wp (fun c1 => ?_) (fun c1 => ?_)
  · refine br_wp (fun c2 => ?_) (fun c2 => ?_)
    · refine br_wp (fun c3 => ?_) (fun c3 => ?_)
      · refine br_wp (fun c4 => ?_) (fun c4 => ?_)
        · refine br_wp (fun c5 => ?_) (fun c5 => ?_)
          · refine br_wp (fun c6 => ?_) (fun c6 => ?_)
            · refine br_wp (fun c7 => ?_) (fun c7 => ?_)
              · refine br_wp (fun c8 => ?_) (fun c8 => ?_)
                · refine ret_wp ?_
                  ((try simp only [vd1, vd2, vd3, vd4, vd5, vd6, reduceCtorEq, Option.some.injEq, vb_ite, vi_ite, List.getD_cons_zero, List.getD_cons_succ] at *) <;> grind (splits := 40) [chk4, okB])
                · refine ret_wp ?_
                  ((try simp only [vd1, vd2, vd3, vd4, vd5, vd6, reduceCtorEq, Option.some.injEq, vb_ite, vi_ite, List.getD_cons_zero, List.getD_cons_succ] at *) <;> grind (splits := 40) [chk4, okB])
              · refine ret_wp ?_
                ((try simp only [vd1, vd2, vd3, vd4, vd5, vd6, reduceCtorEq, Option.some.injEq, vb_ite, vi_ite, List.getD_cons_zero, List.getD_cons_succ] at *) <;> grind (splits := 40) [chk4, okB])
            · refine ret_wp ?_
              ((try simp only [vd1, vd2, vd3, vd4, vd5, vd6, reduceCtorEq, Option.some.injEq, vb_ite, vi_ite, List.getD_cons_zero, List.getD_cons_succ] at *) <;> grind (splits := 40) [chk4, okB])
          · refine ret_wp ?_
            ((try simp only [vd1, vd2, vd3, vd4, vd5, vd6, reduceCtorEq, Option.some.injEq, vb_ite, vi_ite, List.getD_cons_zero, List.getD_cons_succ] at *) <;> grind (splits := 40) [chk4, okB])
        · refine ret_wp ?_
          ((try simp only [vd1, vd2, vd3, vd4, vd5, vd6, reduceCtorEq, Option.some.injEq, vb_ite, vi_ite, List.getD_cons_zero, List.getD_cons_succ] at *) <;> grind (splits := 40) [chk4, okB])
      · refine ret_wp ?_
        ((try simp only [vd1, vd2, vd3, vd4, vd5, vd6, reduceCtorEq, Option.some.injEq, vb_ite, vi_ite, List.getD_cons_zero, List.getD_cons_succ] at *) <;> grind (splits := 40) [chk4, okB])
    · refine ret_wp ?_
      ((try simp only [vd1, vd2, vd3, vd4, vd5, vd6, reduceCtorEq, Option.some.injEq, vb_ite, vi_ite, List.getD_cons_zero, List.getD_cons_succ] at *) <;> grind (splits := 40) [chk4, okB])
  · refine ret_wp ?_
    ((try simp only [vd1, vd2, vd3, vd4, vd5, vd6, reduceCtorEq, Option.some.injEq, vb_ite, vi_ite, List.getD_cons_zero, List.getD_cons_succ] at *) <;> grind (splits := 40) [chk4, okB])
def kAs (sg : Sig) : Sig × Con := (sg, mkFun (fun x : Pol => ([aI x.k, aI x.l, aI x.p, aI x.b, aI x.c, aB x.o] : List Atom)) (fun _ => True) (fun p => (asP p).enc))
set_option maxHeartbeats 4000000 in
theorem h55 : holds Try.prog (kAs sg55) := by
  refine fn_holds (l := []) trivial hP rs55 (inj_of (fun l : List Atom => ((⟨vi (l.getD 0 atom0).1, vi (l.getD 1 atom0).1, vi (l.getD 2 atom0).1, vi (l.getD 3 atom0).1, vi (l.getD 4 atom0).1, vb (l.getD 5 atom0).1⟩ : Pol) : Pol)) (fun _ => rfl)) Try.func55 (by kernel_rfl) (c := code Try.f55) (by kernel_rfl) (an := an55) (by kernel_rfl) (pk := pk55) rfl (t := t55) (by kernel_rfl) ?_
  rintro p hpre
  refine ⟨by simp [pk55, KindsOk, encPS, encPSn, encPSnc, encPSA, encPn, encSS, encI, Pol.enc, Stt.enc, Ac.enc, Sl.atom, Sl.nil, Stt.zero, RK.ok], ?_⟩
  unfold t55
  refine br_wp (fun c1 => ?_) (fun c1 => ?_)
  · refine ret_wp ?_
    ((try simp only [vd1, vd2, vd3, vd4, vd5, vd6, reduceCtorEq, Option.some.injEq, vb_ite, vi_ite, List.getD_cons_zero, List.getD_cons_succ, advR, advG, newG, doN, doR, asP] at *) <;> grind (splits := 40) [asP])
  · refine ret_wp ?_
    ((try simp only [vd1, vd2, vd3, vd4, vd5, vd6, reduceCtorEq, Option.some.injEq, vb_ite, vi_ite, List.getD_cons_zero, List.getD_cons_succ, advR, advG, newG, doN, doR, asP] at *) <;> grind (splits := 40) [asP])
set_option maxHeartbeats 4000000 in
theorem h32 : holds Try.prog (kCheckG sg32) := by
  refine fn_holds (l := [kAs sg55, kChk4 sg47]) ⟨h55, h47, trivial⟩ hP rs32 (inj_of (fun l : List Atom => ((⟨vi (l.getD 0 atom0).1, vi (l.getD 1 atom0).1, vi (l.getD 2 atom0).1, vi (l.getD 3 atom0).1, vi (l.getD 4 atom0).1, vb (l.getD 5 atom0).1⟩ : Pol) : Pol)) (fun _ => rfl)) Try.func32 (by kernel_rfl) (c := code Try.f32) (by kernel_rfl) (an := an32) (by kernel_rfl) (pk := pk32) rfl (t := t32) (by kernel_rfl) ?_
  rintro p hpre
  refine ⟨by simp [pk32, KindsOk, encPS, encPSn, encPSnc, encPSA, encPn, encSS, encI, Pol.enc, Stt.enc, Ac.enc, Sl.atom, Sl.nil, Stt.zero, RK.ok], ?_⟩
  unfold t32
  refine call_fun (p) rfl (by simp only [vd1, vd2, vd3, vd4, vd5, vd6, reduceCtorEq, Option.some.injEq, vb_ite, vi_ite, List.getD_cons_zero, List.getD_cons_succ]) trivial ?_
  refine call_fun ((asP p)) rfl (by simp only [vd1, vd2, vd3, vd4, vd5, vd6, reduceCtorEq, Option.some.injEq, vb_ite, vi_ite, List.getD_cons_zero, List.getD_cons_succ]) trivial ?_
  refine ret_wp ?_
  ((simp only [vd1, vd2, vd3, vd4, vd5, vd6, reduceCtorEq, Option.some.injEq, vb_ite, vi_ite, List.getD_cons_zero, List.getD_cons_succ] at *); first | exact chk_as p | exact congrArg (fun x => [aI x]) (chk_as p) | (rw [chk_as]))
set_option maxHeartbeats 4000000 in
theorem h56 : holds Try.prog (kClamp sg56) := by
  refine fn_holds (l := []) trivial hP rs56 (inj_of (fun l : List Atom => (vi (l.getD 0 atom0).1 : Int)) (fun _ => rfl)) Try.func56 (by kernel_rfl) (c := code Try.f56) (by kernel_rfl) (an := an56) (by kernel_rfl) (pk := pk56) rfl (t := t56) (by kernel_rfl) ?_
  rintro n hpre
  refine ⟨by simp [pk56, KindsOk, encPS, encPSn, encPSnc, encPSA, encPn, encSS, encI, Pol.enc, Stt.enc, Ac.enc, Sl.atom, Sl.nil, Stt.zero, RK.ok], ?_⟩
  unfold t56
  refine br_wp (fun c1 => ?_) (fun c1 => ?_)
  · refine ret_wp ?_
    (simp only [vd1, vd2, vd3, vd4, vd5, vd6, reduceCtorEq, Option.some.injEq, vb_ite, vi_ite, List.getD_cons_zero, List.getD_cons_succ] at *; unfold clamp; grind)
  · refine br_wp (fun c2 => ?_) (fun c2 => ?_)
    · refine ret_wp ?_
      (simp only [vd1, vd2, vd3, vd4, vd5, vd6, reduceCtorEq, Option.some.injEq, vb_ite, vi_ite, List.getD_cons_zero, List.getD_cons_succ] at *; unfold clamp; grind)
    · refine ret_wp ?_
      (simp only [vd1, vd2, vd3, vd4, vd5, vd6, reduceCtorEq, Option.some.injEq, vb_ite, vi_ite, List.getD_cons_zero, List.getD_cons_succ] at *; unfold clamp; grind)
set_option maxHeartbeats 4000000 in
theorem h34 : holds Try.prog (kNewG sg34) := by
  refine fn_holds (l := [kCheckG sg32, kClamp sg56]) ⟨h32, h56, trivial⟩ hP rs34 (inj_of (fun l : List Atom => (((⟨vi (l.getD 0 atom0).1, vi (l.getD 1 atom0).1, vi (l.getD 2 atom0).1, vi (l.getD 3 atom0).1, vi (l.getD 4 atom0).1, vb (l.getD 5 atom0).1⟩ : Pol), vi (l.getD 6 atom0).1) : Pol × Int)) (fun _ => rfl)) Try.func34 (by kernel_rfl) (c := code Try.f34) (by kernel_rfl) (an := an34) (by kernel_rfl) (pk := pk34) rfl (t := t34) (by kernel_rfl) ?_
  rintro ⟨p, n⟩ hpre
  refine ⟨by simp [pk34, KindsOk, encPS, encPSn, encPSnc, encPSA, encPn, encSS, encI, Pol.enc, Stt.enc, Ac.enc, Sl.atom, Sl.nil, Stt.zero, RK.ok], ?_⟩
  unfold t34
  refine call_fun (p) rfl (by simp only [vd1, vd2, vd3, vd4, vd5, vd6, reduceCtorEq, Option.some.injEq, vb_ite, vi_ite, List.getD_cons_zero, List.getD_cons_succ, advR, advG, newG, doN, doR, asP]) trivial ?_
  refine br_wp (fun c1 => ?_) (fun c1 => ?_)
  · refine need_wp ?_ ?_
    · exact ⟨_, _, _, rfl⟩
    refine ret_wp ?_
    ((try simp only [vd1, vd2, vd3, vd4, vd5, vd6, reduceCtorEq, Option.some.injEq, vb_ite, vi_ite, List.getD_cons_zero, List.getD_cons_succ, advR, advG, newG, doN, doR, asP] at *) <;> grind (splits := 40) [chkG, Sl.nil])
  · refine call_fun (n) rfl (by simp only [vd1, vd2, vd3, vd4, vd5, vd6, reduceCtorEq, Option.some.injEq, vb_ite, vi_ite, List.getD_cons_zero, List.getD_cons_succ, advR, advG, newG, doN, doR, asP]) trivial ?_
    refine need_wp ?_ ?_
    · exact ⟨_, _, _, rfl⟩
    refine ret_wp ?_
    ((try simp only [vd1, vd2, vd3, vd4, vd5, vd6, reduceCtorEq, Option.some.injEq, vb_ite, vi_ite, List.getD_cons_zero, List.getD_cons_succ, advR, advG, newG, doN, doR, asP] at *) <;> grind (splits := 40) [chkG, Sl.nil])
set_option maxHeartbeats 4000000 in
theorem h59 : holds Try.prog (kRightG sg59) := by
  refine fn_holds (l := [kCheckG sg32]) ⟨h32, trivial⟩ hP rs59 (inj_of (fun l : List Atom => (((⟨vi (l.getD 0 atom0).1, vi (l.getD 1 atom0).1, vi (l.getD 2 atom0).1, vi (l.getD 3 atom0).1, vi (l.getD 4 atom0).1, vb (l.getD 5 atom0).1⟩ : Pol), (⟨vi (l.getD 6 atom0).1, vi (l.getD 7 atom0).1, vi (l.getD 8 atom0).1, (⟨va (l.getD 9 atom0).1, vn (l.getD 9 atom0).1, vc (l.getD 9 atom0).1, (l.getD 9 atom0).2⟩ : Sl)⟩ : Stt)) : Pol × Stt)) (fun _ => rfl)) Try.func59 (by kernel_rfl) (c := code Try.f59) (by kernel_rfl) (an := an59) (by kernel_rfl) (pk := pk59) rfl (t := t59) (by kernel_rfl) ?_
  rintro ⟨p, s⟩ hpre
  refine ⟨by simp [pk59, KindsOk, encPS, encPSn, encPSnc, encPSA, encPn, encSS, encI, Pol.enc, Stt.enc, Ac.enc, Sl.atom, Sl.nil, Stt.zero, RK.ok], ?_⟩
  unfold t59
  refine call_fun (p) rfl (by simp only [vd1, vd2, vd3, vd4, vd5, vd6, reduceCtorEq, Option.some.injEq, vb_ite, vi_ite, List.getD_cons_zero, List.getD_cons_succ]) trivial ?_
  refine br_wp (fun c1 => ?_) (fun c1 => ?_)
  · have ok : ¬okG p := by simp only [vd1, vd2, vd3, vd4, vd5, vd6, reduceCtorEq, Option.some.injEq, vb_ite, vi_ite, List.getD_cons_zero, List.getD_cons_succ] at c1; unfold chkG at c1; grind
    refine ret_wp ?_
    ((try simp only [vd1, vd2, vd3, vd4, vd5, vd6, reduceCtorEq, Option.some.injEq, vb_ite, vi_ite, List.getD_cons_zero, List.getD_cons_succ] at *) <;> grind (splits := 40) [rightG])
  · have ok : okG p := by simp only [vd1, vd2, vd3, vd4, vd5, vd6, reduceCtorEq, Option.some.injEq, vb_ite, vi_ite, List.getD_cons_zero, List.getD_cons_succ] at c1; unfold chkG at c1; grind
    have ok2 := ok
    unfold okG at ok2
    refine br_wp (fun c2 => ?_) (fun c2 => ?_)
    · refine ret_wp ?_
      ((try simp only [vd1, vd2, vd3, vd4, vd5, vd6, reduceCtorEq, Option.some.injEq, vb_ite, vi_ite, List.getD_cons_zero, List.getD_cons_succ] at *) <;> grind (splits := 40) [rightG])
    · refine br_wp (fun c3 => ?_) (fun c3 => ?_)
      · refine ret_wp ?_
        ((try simp only [vd1, vd2, vd3, vd4, vd5, vd6, reduceCtorEq, Option.some.injEq, vb_ite, vi_ite, List.getD_cons_zero, List.getD_cons_succ] at *) <;> grind (splits := 40) [rightG])
      · refine br_wp (fun c4 => ?_) (fun c4 => ?_)
        · refine ret_wp ?_
          ((try simp only [vd1, vd2, vd3, vd4, vd5, vd6, reduceCtorEq, Option.some.injEq, vb_ite, vi_ite, List.getD_cons_zero, List.getD_cons_succ] at *) <;> grind (splits := 40) [rightG])
        · refine br_wp (fun c5 => ?_) (fun c5 => ?_)
          · refine ret_wp ?_
            ((try simp only [vd1, vd2, vd3, vd4, vd5, vd6, reduceCtorEq, Option.some.injEq, vb_ite, vi_ite, List.getD_cons_zero, List.getD_cons_succ] at *) <;> grind (splits := 40) [rightG])
          · have hh : 0 ≤ s.h ∧ s.h ≤ p.b := by simp only [vd1, vd2, vd3, vd4, vd5, vd6, reduceCtorEq, Option.some.injEq, vb_ite, vi_ite, List.getD_cons_zero, List.getD_cons_succ] at c4 c5; simp at c4 c5; exact ⟨c4, c5⟩
            have w1 := (mul_fit (x := s.h) hh.1 (by omega) (by omega) ok2.2.2.2.2.2.2.2).1
            have w2 := (mul_fit (x := p.b) (by omega) ok2.2.2.2.2.2.1 (by omega) ok2.2.2.2.2.2.2.2).1
            refine need_wp ?_ ?_
            · exact ⟨_, _, _, rfl⟩
            refine br_wp (fun c6 => ?_) (fun c6 => ?_)
            · refine ret_wp ?_
              ((try simp only [vd1, vd2, vd3, vd4, vd5, vd6, reduceCtorEq, Option.some.injEq, vb_ite, vi_ite, List.getD_cons_zero, List.getD_cons_succ, w1, w2] at *) <;> grind (splits := 40) [rightG])
            · refine br_wp (fun c7 => ?_) (fun c7 => ?_)
              · refine ret_wp ?_
                ((try simp only [vd1, vd2, vd3, vd4, vd5, vd6, reduceCtorEq, Option.some.injEq, vb_ite, vi_ite, List.getD_cons_zero, List.getD_cons_succ, w1, w2] at *) <;> grind (splits := 40) [rightG])
              · refine ret_wp ?_
                ((try simp only [vd1, vd2, vd3, vd4, vd5, vd6, reduceCtorEq, Option.some.injEq, vb_ite, vi_ite, List.getD_cons_zero, List.getD_cons_succ, w1, w2] at *) <;> grind (splits := 40) [rightG])
def kAdvR (sg : Sig) : Sig × Con := (sg, mkFun (fun x : Pol × Stt × Int => ([aI x.1.k, aI x.1.l, aI x.1.p, aI x.1.b, aI x.1.c, aB x.1.o, aI x.2.1.t, aI x.2.1.v, aI x.2.1.h, Sl.atom x.2.1.g, aI x.2.2] : List Atom)) (fun _ => True) (fun x => (advR x.1 x.2.1 x.2.2).enc))
set_option maxHeartbeats 4000000 in
theorem h58 : holds Try.prog (kAdvR sg58) := by
  refine fn_holds (l := [kRightG sg59, kClamp sg56, kMul sg74]) ⟨h59, h56, h74, trivial⟩ hP rs58 (inj_of (fun l : List Atom => (((⟨vi (l.getD 0 atom0).1, vi (l.getD 1 atom0).1, vi (l.getD 2 atom0).1, vi (l.getD 3 atom0).1, vi (l.getD 4 atom0).1, vb (l.getD 5 atom0).1⟩ : Pol), (⟨vi (l.getD 6 atom0).1, vi (l.getD 7 atom0).1, vi (l.getD 8 atom0).1, (⟨va (l.getD 9 atom0).1, vn (l.getD 9 atom0).1, vc (l.getD 9 atom0).1, (l.getD 9 atom0).2⟩ : Sl)⟩ : Stt), vi (l.getD 10 atom0).1) : Pol × Stt × Int)) (fun _ => rfl)) Try.func58 (by kernel_rfl) (c := code Try.f58) (by kernel_rfl) (an := an58) (by kernel_rfl) (pk := pk58) rfl (t := t58) (by kernel_rfl) ?_
  rintro ⟨p, s, n⟩ hpre
  refine ⟨by simp [pk58, KindsOk, encPS, encPSn, encPSnc, encPSA, encPn, encSS, encI, Pol.enc, Stt.enc, Ac.enc, Sl.atom, Sl.nil, Stt.zero, RK.ok], ?_⟩
  unfold t58
  refine call_fun ((p, s)) rfl (by simp only [vd1, vd2, vd3, vd4, vd5, vd6, reduceCtorEq, Option.some.injEq, vb_ite, vi_ite, List.getD_cons_zero, List.getD_cons_succ, advR, advG, newG, doN, doR, asP]) trivial ?_
  refine br_wp (fun c1 => ?_) (fun c1 => ?_)
  · have hr : rightG p s := by simp only [vd1, vd2, vd3, vd4, vd5, vd6, reduceCtorEq, Option.some.injEq, vb_ite, vi_ite, List.getD_cons_zero, List.getD_cons_succ, advR, advG, newG, doN, doR, asP] at c1; exact c1
    obtain ⟨b1, b2, b3, b4, w1, w2⟩ := rightG_bd hr
    have hr2 := hr
    unfold rightG okG at hr2
    refine call_fun (n) rfl (by simp only [vd1, vd2, vd3, vd4, vd5, vd6, reduceCtorEq, Option.some.injEq, vb_ite, vi_ite, List.getD_cons_zero, List.getD_cons_succ, advR, advG, newG, doN, doR, asP]) trivial ?_
    refine br_wp (fun c2 => ?_) (fun c2 => ?_)
    · have hx : clamp n ≤ s.t := by simp only [vd1, vd2, vd3, vd4, vd5, vd6, reduceCtorEq, Option.some.injEq, vb_ite, vi_ite, List.getD_cons_zero, List.getD_cons_succ, advR, advG, newG, doN, doR, asP] at c2; simpa using c2
      have hl : ltr s n = s.t := by unfold ltr; omega
      have ha : avG p s n = s.v := by unfold avG; rw [hl, Int.sub_self]; have : ml 0 p.l = 0 := Int.zero_mul _; omega
      refine need_wp ?_ ?_
      · exact ⟨_, _, _, rfl⟩
      refine ret_wp ?_
      ((try simp only [vd1, vd2, vd3, vd4, vd5, vd6, reduceCtorEq, Option.some.injEq, vb_ite, vi_ite, List.getD_cons_zero, List.getD_cons_succ, advR, advG, newG, doN, doR, asP] at *) <;> grind (splits := 40) [advT, advV, advH, advL, ltr, avG, Sl.nil, mulV, mulO])
    · have hx : ¬clamp n ≤ s.t := by simp only [vd1, vd2, vd3, vd4, vd5, vd6, reduceCtorEq, Option.some.injEq, vb_ite, vi_ite, List.getD_cons_zero, List.getD_cons_succ, advR, advG, newG, doN, doR, asP] at c2; simpa using c2
      have cb := clamp_bd n
      have hl : ltr s n = clamp n := by unfold ltr; omega
      have w3 : IntKind.i64.wrap (clamp n - s.t) = clamp n - s.t := wrap_id _ (by omega) (by omega)
      obtain ⟨d, hd⟩ : ∃ d : Int, d = ml (clamp n - s.t) p.l := ⟨_, rfl⟩
      have hd0 : 0 ≤ d := by rw [hd]; exact Int.mul_nonneg (by omega) (by omega)
      have ha : avG p s n = max (ml s.h p.p) (s.v - d) := by unfold avG; rw [hl, hd]
      have w4 : IntKind.i64.wrap (s.v - ml s.h p.p) = s.v - ml s.h p.p := wrap_id _ (by omega) (by omega)
      have w5 : IntKind.i64.wrap (s.v - (s.v - ml s.h p.p)) = s.v - (s.v - ml s.h p.p) := wrap_id _ (by omega) (by omega)
      have hmv := mulV_cases (clamp n - s.t) p.l
      rw [← hd] at hmv
      have w6 : d ≤ s.v - ml s.h p.p → IntKind.i64.wrap (s.v - d) = s.v - d := fun _ => wrap_id _ (by omega) (by omega)
      have w7 : ¬mulO (clamp n - s.t) p.l → s.v < d := fun h => by unfold mulO at h; rw [← hd] at h; omega
      refine call_fun (((clamp n - s.t), p.l)) rfl (by simp only [vd1, vd2, vd3, vd4, vd5, vd6, reduceCtorEq, Option.some.injEq, vb_ite, vi_ite, List.getD_cons_zero, List.getD_cons_succ, advR, advG, newG, doN, doR, asP, w1, w2, w3, w4, w5]) (by refine ⟨⟨?_, ?_⟩, ?_, ?_⟩ <;> simp only [] <;> omega) ?_
      refine br_wp (fun c3 => ?_) (fun c3 => ?_)
      · refine br_wp (fun c4 => ?_) (fun c4 => ?_)
        · refine need_wp ?_ ?_
          · exact ⟨_, _, _, rfl⟩
          refine ret_wp ?_
          ((try simp only [vd1, vd2, vd3, vd4, vd5, vd6, reduceCtorEq, Option.some.injEq, vb_ite, vi_ite, List.getD_cons_zero, List.getD_cons_succ, advR, advG, newG, doN, doR, asP, w1, w2, w3, w4, w5] at *) <;> grind (splits := 40) [advT, advV, advH, advL, ltr, avG, Sl.nil, mulV, mulO])
        · refine need_wp ?_ ?_
          · exact ⟨_, _, _, rfl⟩
          refine ret_wp ?_
          ((try simp only [vd1, vd2, vd3, vd4, vd5, vd6, reduceCtorEq, Option.some.injEq, vb_ite, vi_ite, List.getD_cons_zero, List.getD_cons_succ, advR, advG, newG, doN, doR, asP, w1, w2, w3, w4, w5] at *) <;> grind (splits := 40) [advT, advV, advH, advL, ltr, avG, Sl.nil, mulV, mulO])
      · refine need_wp ?_ ?_
        · exact ⟨_, _, _, rfl⟩
        refine ret_wp ?_
        ((try simp only [vd1, vd2, vd3, vd4, vd5, vd6, reduceCtorEq, Option.some.injEq, vb_ite, vi_ite, List.getD_cons_zero, List.getD_cons_succ, advR, advG, newG, doN, doR, asP, w1, w2, w3, w4, w5] at *) <;> grind (splits := 40) [advT, advV, advH, advL, ltr, avG, Sl.nil, mulV, mulO])
  · refine need_wp ?_ ?_
    · exact ⟨_, _, _, rfl⟩
    refine ret_wp ?_
    ((try simp only [vd1, vd2, vd3, vd4, vd5, vd6, reduceCtorEq, Option.some.injEq, vb_ite, vi_ite, List.getD_cons_zero, List.getD_cons_succ, advR, advG, newG, doN, doR, asP] at *) <;> grind (splits := 40) [advT, advV, advH, advL, ltr, avG, Sl.nil, mulV, mulO])
set_option maxHeartbeats 4000000 in
theorem h60 : holds Try.prog (kRoomG sg60) := by
  refine fn_holds (l := [kRightG sg59, kAdvR sg58]) ⟨h59, h58, trivial⟩ hP rs60 (inj_of (fun l : List Atom => (((⟨vi (l.getD 0 atom0).1, vi (l.getD 1 atom0).1, vi (l.getD 2 atom0).1, vi (l.getD 3 atom0).1, vi (l.getD 4 atom0).1, vb (l.getD 5 atom0).1⟩ : Pol), (⟨vi (l.getD 6 atom0).1, vi (l.getD 7 atom0).1, vi (l.getD 8 atom0).1, (⟨va (l.getD 9 atom0).1, vn (l.getD 9 atom0).1, vc (l.getD 9 atom0).1, (l.getD 9 atom0).2⟩ : Sl)⟩ : Stt), vi (l.getD 10 atom0).1) : Pol × Stt × Int)) (fun _ => rfl)) Try.func60 (by kernel_rfl) (c := code Try.f60) (by kernel_rfl) (an := an60) (by kernel_rfl) (pk := pk60) rfl (t := t60) (by kernel_rfl) ?_
  rintro ⟨p, s, n⟩ hpre
  refine ⟨by simp [pk60, KindsOk, encPS, encPSn, encPSnc, encPSA, encPn, encSS, encI, Pol.enc, Stt.enc, Ac.enc, Sl.atom, Sl.nil, Stt.zero, RK.ok], ?_⟩
  unfold t60
  refine call_fun ((p, s)) rfl (by simp only [vd1, vd2, vd3, vd4, vd5, vd6, reduceCtorEq, Option.some.injEq, vb_ite, vi_ite, List.getD_cons_zero, List.getD_cons_succ, advR, advG, newG, doN, doR, asP]) trivial ?_
  refine br_wp (fun c1 => ?_) (fun c1 => ?_)
  · have hr : rightG p s := by simp only [vd1, vd2, vd3, vd4, vd5, vd6, reduceCtorEq, Option.some.injEq, vb_ite, vi_ite, List.getD_cons_zero, List.getD_cons_succ, advR, advG, newG, doN, doR, asP] at c1; exact c1
    obtain ⟨b1, b2, b3, b4, w1, w2⟩ := rightG_bd hr
    have hr2 := hr
    unfold rightG okG at hr2
    have bd := avG_bd n hr
    have av : advV p s n = avG p s n := by unfold advV; rw [if_pos hr]
    have rl := room_le n hr
    have ri := fun c => room_iff n c hr
    obtain ⟨R, hR⟩ : ∃ R, R = roomG p s n := ⟨_, rfl⟩
    rw [← hR] at rl
    simp only [← hR] at ri
    refine call_fun ((p, s, n)) rfl (by simp only [vd1, vd2, vd3, vd4, vd5, vd6, reduceCtorEq, Option.some.injEq, vb_ite, vi_ite, List.getD_cons_zero, List.getD_cons_succ, advR, advG, newG, doN, doR, asP, w2]) trivial ?_
    refine loop_wp (fun bs0 => ∃ (i : Int) (j : Int), bs0 = [aI i, aI j] ∧ (0 ≤ i ∧ i ≤ R ∧ R ≤ j ∧ j ≤ p.b)) (fun bs0 => (vi (bs0.getD 1 atom0).1 - vi (bs0.getD 0 atom0).1).toNat) ?_ ?_
    · refine ⟨0, p.b, by simp only [vd1, vd2, vd3, vd4, vd5, vd6, reduceCtorEq, Option.some.injEq, vb_ite, vi_ite, List.getD_cons_zero, List.getD_cons_succ, advR, advG, newG, doN, doR, asP, w2], ?_⟩
      exact ⟨by omega, by omega, by omega, by omega⟩
    rintro _ _ ⟨i, j, rfl, ⟨i0, i1, i2, i3⟩⟩
    refine br_wp (fun c2 => ?_) (fun c2 => ?_)
    · have hlt : i < j := by simp only [vd1, vd2, vd3, vd4, vd5, vd6, reduceCtorEq, Option.some.injEq, vb_ite, vi_ite, List.getD_cons_zero, List.getD_cons_succ, advR, advG, newG, doN, doR, asP, w2] at c2; simpa using c2
      obtain ⟨c, hc⟩ : ∃ c : Int, c = (i + j + 1) / 2 := ⟨_, rfl⟩
      have w3 : IntKind.i64.wrap (i + j) = i + j := wrap_id _ (by omega) (by omega)
      have w4 : IntKind.i64.wrap (i + j + 1) = i + j + 1 := wrap_id _ (by omega) (by omega)
      have w5 : quoD .i64 (i + j + 1) 2 = c := by rw [quo_id _ _ (by omega) (by omega) (by omega), hc]; rfl
      have cb : i < c ∧ c ≤ j := by omega
      obtain ⟨w6, d1, d2⟩ := mul_fit (x := c) (y := p.p) (by omega) (by omega) (by omega) (by omega)
      have w7 : IntKind.i64.wrap (advV p s n + ml c p.p) = avG p s n + ml c p.p := by rw [av]; exact wrap_id _ (by omega) (by omega)
      have w8 : IntKind.i64.wrap (c - 1) = c - 1 := wrap_id _ (by omega) (by omega)
      have rc := ri c
      refine br_wp (fun c3 => ?_) (fun c3 => ?_)
      · refine again_wp rfl ⟨c, j, by simp only [vd1, vd2, vd3, vd4, vd5, vd6, reduceCtorEq, Option.some.injEq, vb_ite, vi_ite, List.getD_cons_zero, List.getD_cons_succ, advR, advG, newG, doN, doR, asP, w2, w2, w3, w4, w5, w6, w7, w8], ?_⟩ ?_
        · ((simp only [vd1, vd2, vd3, vd4, vd5, vd6, reduceCtorEq, Option.some.injEq, vb_ite, vi_ite, List.getD_cons_zero, List.getD_cons_succ, advR, advG, newG, doN, doR, asP, w2, w2, w3, w4, w5, w6, w7, w8] at *); grind)
        · ((simp only [vd1, vd2, vd3, vd4, vd5, vd6, reduceCtorEq, Option.some.injEq, vb_ite, vi_ite, List.getD_cons_zero, List.getD_cons_succ, advR, advG, newG, doN, doR, asP, w2, w2, w3, w4, w5, w6, w7, w8] at *); grind)
      · refine again_wp rfl ⟨i, (c - 1), by simp only [vd1, vd2, vd3, vd4, vd5, vd6, reduceCtorEq, Option.some.injEq, vb_ite, vi_ite, List.getD_cons_zero, List.getD_cons_succ, advR, advG, newG, doN, doR, asP, w2, w2, w3, w4, w5, w6, w7, w8], ?_⟩ ?_
        · ((simp only [vd1, vd2, vd3, vd4, vd5, vd6, reduceCtorEq, Option.some.injEq, vb_ite, vi_ite, List.getD_cons_zero, List.getD_cons_succ, advR, advG, newG, doN, doR, asP, w2, w2, w3, w4, w5, w6, w7, w8] at *); grind)
        · ((simp only [vd1, vd2, vd3, vd4, vd5, vd6, reduceCtorEq, Option.some.injEq, vb_ite, vi_ite, List.getD_cons_zero, List.getD_cons_succ, advR, advG, newG, doN, doR, asP, w2, w2, w3, w4, w5, w6, w7, w8] at *); grind)
    · have hge : ¬(i < j) := by simp only [vd1, vd2, vd3, vd4, vd5, vd6, reduceCtorEq, Option.some.injEq, vb_ite, vi_ite, List.getD_cons_zero, List.getD_cons_succ, advR, advG, newG, doN, doR, asP, w2] at c2; simpa using c2
      have e : i = R := by omega
      refine pop_wp ?_
      refine ret_wp ?_
      ((try simp only [vd1, vd2, vd3, vd4, vd5, vd6, reduceCtorEq, Option.some.injEq, vb_ite, vi_ite, List.getD_cons_zero, List.getD_cons_succ, advR, advG, newG, doN, doR, asP, w2, e, hR] at *) <;> grind (splits := 40) [roomG])
  · refine ret_wp ?_
    ((try simp only [vd1, vd2, vd3, vd4, vd5, vd6, reduceCtorEq, Option.some.injEq, vb_ite, vi_ite, List.getD_cons_zero, List.getD_cons_succ, advR, advG, newG, doN, doR, asP] at *) <;> grind (splits := 40) [roomG])
set_option maxHeartbeats 4000000 in
theorem h73 : holds Try.prog (kLasts sg73) := by
  refine fn_holds (l := []) trivial hP rs73 (inj_of (fun l : List Atom => (((⟨vi (l.getD 0 atom0).1, vi (l.getD 1 atom0).1, vi (l.getD 2 atom0).1, vi (l.getD 3 atom0).1, vi (l.getD 4 atom0).1, vb (l.getD 5 atom0).1⟩ : Pol), vi (l.getD 6 atom0).1) : Pol × Int)) (fun _ => rfl)) Try.func73 (by kernel_rfl) (c := code Try.f73) (by kernel_rfl) (an := an73) (by kernel_rfl) (pk := pk73) rfl (t := t73) (by kernel_rfl) ?_
  rintro ⟨p, n⟩ ⟨u1, u2⟩
  refine ⟨by simp [pk73, KindsOk, encPS, encPSn, encPSnc, encPSA, encPn, encSS, encI, Pol.enc, Stt.enc, Ac.enc, Sl.atom, Sl.nil, Stt.zero, RK.ok], ?_⟩
  unfold t73
  simp only at u1 u2
  have u3 := u1
  unfold okG at u3
  have q := fun h => quo_id n p.l h (by omega) (by omega)
  have ds := fun h => dvl_spec (n := n) (l := p.l) h (by omega)
  have w1 := fun h => wrap_id (ml (dv n p.l) p.l) (by have := ds h; omega) (by have := ds h; omega)
  have w2 := fun h => wrap_id (dv n p.l + 1) (by have := ds h; omega) (by have := ds h; omega)
  refine br_wp (fun c1 => ?_) (fun c1 => ?_)
  · refine ret_wp ?_
    ((try simp only [vd1, vd2, vd3, vd4, vd5, vd6, reduceCtorEq, Option.some.injEq, vb_ite, vi_ite, List.getD_cons_zero, List.getD_cons_succ] at *) <;> grind (splits := 40) [lst, cdv])
  · have hn : 0 < n := by simp only [vd1, vd2, vd3, vd4, vd5, vd6, reduceCtorEq, Option.some.injEq, vb_ite, vi_ite, List.getD_cons_zero, List.getD_cons_succ] at c1; grind
    have q1 := q (by omega)
    have w3 := w1 (by omega)
    have w4 := w2 (by omega)
    have d1 := ds (by omega)
    have w5 : IntKind.i64.wrap (dv n p.l * p.l) = ml (dv n p.l) p.l := w3
    refine need_wp ?_ ?_
    · (simp only [vd1, vd2, vd3, vd4, vd5, vd6, reduceCtorEq, Option.some.injEq, vb_ite, vi_ite, List.getD_cons_zero, List.getD_cons_succ, q1, w4, w5] at *; grind)
    refine br_wp (fun c2 => ?_) (fun c2 => ?_)
    · refine ret_wp ?_
      ((try simp only [vd1, vd2, vd3, vd4, vd5, vd6, reduceCtorEq, Option.some.injEq, vb_ite, vi_ite, List.getD_cons_zero, List.getD_cons_succ, q1, w4, w5] at *) <;> grind (splits := 40) [lst, cdv])
    · refine ret_wp ?_
      ((try simp only [vd1, vd2, vd3, vd4, vd5, vd6, reduceCtorEq, Option.some.injEq, vb_ite, vi_ite, List.getD_cons_zero, List.getD_cons_succ, q1, w4, w5] at *) <;> grind (splits := 40) [lst, cdv])
set_option maxHeartbeats 4000000 in
theorem h61 : holds Try.prog (kUntG sg61) := by
  refine fn_holds (l := [kRightG sg59, kAdvR sg58, kLasts sg73]) ⟨h59, h58, h73, trivial⟩ hP rs61 (inj_of (fun l : List Atom => (((⟨vi (l.getD 0 atom0).1, vi (l.getD 1 atom0).1, vi (l.getD 2 atom0).1, vi (l.getD 3 atom0).1, vi (l.getD 4 atom0).1, vb (l.getD 5 atom0).1⟩ : Pol), (⟨vi (l.getD 6 atom0).1, vi (l.getD 7 atom0).1, vi (l.getD 8 atom0).1, (⟨va (l.getD 9 atom0).1, vn (l.getD 9 atom0).1, vc (l.getD 9 atom0).1, (l.getD 9 atom0).2⟩ : Sl)⟩ : Stt), vi (l.getD 10 atom0).1) : Pol × Stt × Int)) (fun _ => rfl)) Try.func61 (by kernel_rfl) (c := code Try.f61) (by kernel_rfl) (an := an61) (by kernel_rfl) (pk := pk61) rfl (t := t61) (by kernel_rfl) ?_
  rintro ⟨p, s, n⟩ hpre
  refine ⟨by simp [pk61, KindsOk, encPS, encPSn, encPSnc, encPSA, encPn, encSS, encI, Pol.enc, Stt.enc, Ac.enc, Sl.atom, Sl.nil, Stt.zero, RK.ok], ?_⟩
  unfold t61
  refine call_fun ((p, s)) rfl (by simp only [vd1, vd2, vd3, vd4, vd5, vd6, reduceCtorEq, Option.some.injEq, vb_ite, vi_ite, List.getD_cons_zero, List.getD_cons_succ, advR, advG, newG, doN, doR, asP]) trivial ?_
  refine br_wp (fun c1 => ?_) (fun c1 => ?_)
  · have hr : rightG p s := by simp only [vd1, vd2, vd3, vd4, vd5, vd6, reduceCtorEq, Option.some.injEq, vb_ite, vi_ite, List.getD_cons_zero, List.getD_cons_succ, advR, advG, newG, doN, doR, asP] at c1; exact c1
    obtain ⟨b1, b2, b3, b4, w1, w2⟩ := rightG_bd hr
    have hr2 := hr
    unfold rightG okG at hr2
    have bd := avG_bd n hr
    have av : advV p s n = avG p s n := by unfold advV; rw [if_pos hr]
    refine br_wp (fun c2 => ?_) (fun c2 => ?_)
    · refine ret_wp ?_
      ((try simp only [vd1, vd2, vd3, vd4, vd5, vd6, reduceCtorEq, Option.some.injEq, vb_ite, vi_ite, List.getD_cons_zero, List.getD_cons_succ, advR, advG, newG, doN, doR, asP] at *) <;> grind (splits := 40) [untG, advV])
    · refine call_fun ((p, s, n)) rfl (by simp only [vd1, vd2, vd3, vd4, vd5, vd6, reduceCtorEq, Option.some.injEq, vb_ite, vi_ite, List.getD_cons_zero, List.getD_cons_succ, advR, advG, newG, doN, doR, asP]) trivial ?_
      refine call_fun ((p, (advR p s n).v)) rfl (by simp only [vd1, vd2, vd3, vd4, vd5, vd6, reduceCtorEq, Option.some.injEq, vb_ite, vi_ite, List.getD_cons_zero, List.getD_cons_succ, advR, advG, newG, doN, doR, asP]) (by refine ⟨hr.1, ?_⟩; show advV p s n ≤ _; rw [av]; omega) ?_
      refine ret_wp ?_
      ((try simp only [vd1, vd2, vd3, vd4, vd5, vd6, reduceCtorEq, Option.some.injEq, vb_ite, vi_ite, List.getD_cons_zero, List.getD_cons_succ, advR, advG, newG, doN, doR, asP] at *) <;> grind (splits := 40) [untG, advV])
  · refine ret_wp ?_
    ((try simp only [vd1, vd2, vd3, vd4, vd5, vd6, reduceCtorEq, Option.some.injEq, vb_ite, vi_ite, List.getD_cons_zero, List.getD_cons_succ, advR, advG, newG, doN, doR, asP] at *) <;> grind (splits := 40) [untG, advV])
set_option maxHeartbeats 4000000 in
theorem h57 : holds Try.prog (kRetG sg57) := by
  refine fn_holds (l := [kRightG sg59, kAdvR sg58, kLasts sg73]) ⟨h59, h58, h73, trivial⟩ hP rs57 (inj_of (fun l : List Atom => (((⟨vi (l.getD 0 atom0).1, vi (l.getD 1 atom0).1, vi (l.getD 2 atom0).1, vi (l.getD 3 atom0).1, vi (l.getD 4 atom0).1, vb (l.getD 5 atom0).1⟩ : Pol), (⟨vi (l.getD 6 atom0).1, vi (l.getD 7 atom0).1, vi (l.getD 8 atom0).1, (⟨va (l.getD 9 atom0).1, vn (l.getD 9 atom0).1, vc (l.getD 9 atom0).1, (l.getD 9 atom0).2⟩ : Sl)⟩ : Stt), vi (l.getD 10 atom0).1, vi (l.getD 11 atom0).1) : Pol × Stt × Int × Int)) (fun _ => rfl)) Try.func57 (by kernel_rfl) (c := code Try.f57) (by kernel_rfl) (an := an57) (by kernel_rfl) (pk := pk57) rfl (t := t57) (by kernel_rfl) ?_
  rintro ⟨p, s, n, c⟩ hpre
  refine ⟨by simp [pk57, KindsOk, encPS, encPSn, encPSnc, encPSA, encPn, encSS, encI, Pol.enc, Stt.enc, Ac.enc, Sl.atom, Sl.nil, Stt.zero, RK.ok], ?_⟩
  unfold t57
  refine call_fun ((p, s)) rfl (by simp only [vd1, vd2, vd3, vd4, vd5, vd6, reduceCtorEq, Option.some.injEq, vb_ite, vi_ite, List.getD_cons_zero, List.getD_cons_succ, advR, advG, newG, doN, doR, asP]) trivial ?_
  refine br_wp (fun c1 => ?_) (fun c1 => ?_)
  · have hr : rightG p s := by simp only [vd1, vd2, vd3, vd4, vd5, vd6, reduceCtorEq, Option.some.injEq, vb_ite, vi_ite, List.getD_cons_zero, List.getD_cons_succ, advR, advG, newG, doN, doR, asP] at c1; exact c1
    obtain ⟨b1, b2, b3, b4, w1, w2⟩ := rightG_bd hr
    have hr2 := hr
    unfold rightG okG at hr2
    have bd := avG_bd n hr
    have av : advV p s n = avG p s n := by unfold advV; rw [if_pos hr]
    have w3 : IntKind.i64.wrap (p.b - s.h) = p.b - s.h := wrap_id _ (by omega) (by omega)
    refine br_wp (fun c2 => ?_) (fun c2 => ?_)
    · refine ret_wp ?_
      ((try simp only [vd1, vd2, vd3, vd4, vd5, vd6, reduceCtorEq, Option.some.injEq, vb_ite, vi_ite, List.getD_cons_zero, List.getD_cons_succ, advR, advG, newG, doN, doR, asP, w3] at *) <;> grind (splits := 40) [retG, mayC, advV])
    · refine br_wp (fun c3 => ?_) (fun c3 => ?_)
      · refine ret_wp ?_
        ((try simp only [vd1, vd2, vd3, vd4, vd5, vd6, reduceCtorEq, Option.some.injEq, vb_ite, vi_ite, List.getD_cons_zero, List.getD_cons_succ, advR, advG, newG, doN, doR, asP, w3] at *) <;> grind (splits := 40) [retG, mayC, advV])
      · have hc : 1 ≤ c ∧ c ≤ p.b - s.h := by simp only [vd1, vd2, vd3, vd4, vd5, vd6, reduceCtorEq, Option.some.injEq, vb_ite, vi_ite, List.getD_cons_zero, List.getD_cons_succ, advR, advG, newG, doN, doR, asP, w3] at c2 c3; simp at c2 c3; exact ⟨c2, c3⟩
        obtain ⟨w5, d1, d2⟩ := mul_fit (x := c) (y := p.p) (by omega) (by omega) (by omega) (by omega)
        have w4 : IntKind.i64.wrap (advV p s n + ml c p.p) = avG p s n + ml c p.p := by rw [av]; exact wrap_id _ (by omega) (by omega)
        have ms := ml_sub p.b c p.p
        have w6 : IntKind.i64.wrap (avG p s n + ml c p.p - ml p.b p.p) = avG p s n - ml (p.b - c) p.p := by rw [wrap_id _ (by omega) (by omega)]; omega
        refine call_fun ((p, s, n)) rfl (by simp only [vd1, vd2, vd3, vd4, vd5, vd6, reduceCtorEq, Option.some.injEq, vb_ite, vi_ite, List.getD_cons_zero, List.getD_cons_succ, advR, advG, newG, doN, doR, asP, w3, w2, w4, w5, w6]) trivial ?_
        refine call_fun ((p, (avG p s n - ml (p.b - c) p.p))) rfl (by simp only [vd1, vd2, vd3, vd4, vd5, vd6, reduceCtorEq, Option.some.injEq, vb_ite, vi_ite, List.getD_cons_zero, List.getD_cons_succ, advR, advG, newG, doN, doR, asP, w3, w2, w4, w5, w6]) (by refine ⟨hr.1, ?_⟩; simp only; omega) ?_
        refine ret_wp ?_
        ((try simp only [vd1, vd2, vd3, vd4, vd5, vd6, reduceCtorEq, Option.some.injEq, vb_ite, vi_ite, List.getD_cons_zero, List.getD_cons_succ, advR, advG, newG, doN, doR, asP, w3, w2, w4, w5, w6] at *) <;> grind (splits := 40) [retG, mayC, advV])
  · refine ret_wp ?_
    ((try simp only [vd1, vd2, vd3, vd4, vd5, vd6, reduceCtorEq, Option.some.injEq, vb_ite, vi_ite, List.getD_cons_zero, List.getD_cons_succ, advR, advG, newG, doN, doR, asP] at *) <;> grind (splits := 40) [retG, mayC, advV])
def kDoR (sg : Sig) : Sig × Con := (sg, mkFun (fun x : Pol × Stt × Ac => ([aI x.1.k, aI x.1.l, aI x.1.p, aI x.1.b, aI x.1.c, aB x.1.o, aI x.2.1.t, aI x.2.1.v, aI x.2.1.h, Sl.atom x.2.1.g, aI x.2.2.k, aI x.2.2.t, aI x.2.2.c] : List Atom)) (fun _ => True) (fun x => (doR x.1 x.2.1 x.2.2).enc ++ [aB (decide (didG x.1 x.2.1 x.2.2))]))
set_option maxHeartbeats 4000000 in
theorem h36 : holds Try.prog (kDoR sg36) := by
  refine fn_holds (l := [kRightG sg59, kAdvR sg58, kRoomG sg60]) ⟨h59, h58, h60, trivial⟩ hP rs36 (inj_of (fun l : List Atom => (((⟨vi (l.getD 0 atom0).1, vi (l.getD 1 atom0).1, vi (l.getD 2 atom0).1, vi (l.getD 3 atom0).1, vi (l.getD 4 atom0).1, vb (l.getD 5 atom0).1⟩ : Pol), (⟨vi (l.getD 6 atom0).1, vi (l.getD 7 atom0).1, vi (l.getD 8 atom0).1, (⟨va (l.getD 9 atom0).1, vn (l.getD 9 atom0).1, vc (l.getD 9 atom0).1, (l.getD 9 atom0).2⟩ : Sl)⟩ : Stt), (⟨vi (l.getD 10 atom0).1, vi (l.getD 11 atom0).1, vi (l.getD 12 atom0).1⟩ : Ac)) : Pol × Stt × Ac)) (fun _ => rfl)) Try.func36 (by kernel_rfl) (c := code Try.f36) (by kernel_rfl) (an := an36) (by kernel_rfl) (pk := pk36) rfl (t := t36) (by kernel_rfl) ?_
  rintro ⟨p, s, a⟩ hpre
  refine ⟨by simp [pk36, KindsOk, encPS, encPSn, encPSnc, encPSA, encPn, encSS, encI, Pol.enc, Stt.enc, Ac.enc, Sl.atom, Sl.nil, Stt.zero, RK.ok], ?_⟩
  unfold t36
  refine call_fun ((p, s)) rfl (by simp only [vd1, vd2, vd3, vd4, vd5, vd6, reduceCtorEq, Option.some.injEq, vb_ite, vi_ite, List.getD_cons_zero, List.getD_cons_succ, advR, advG, newG, doN, doR, asP]) trivial ?_
  refine br_wp (fun c1 => ?_) (fun c1 => ?_)
  · have hr : rightG p s := by simp only [vd1, vd2, vd3, vd4, vd5, vd6, reduceCtorEq, Option.some.injEq, vb_ite, vi_ite, List.getD_cons_zero, List.getD_cons_succ, advR, advG, newG, doN, doR, asP] at c1; exact c1
    obtain ⟨b1, b2, b3, b4, w1, w2⟩ := rightG_bd hr
    have hr2 := hr
    unfold rightG okG at hr2
    have bd := avG_bd a.t hr
    have rl := room_le a.t hr
    have ri := room_iff a.t a.c hr
    have wm := fun (h : 1 ≤ a.c ∧ a.c ≤ p.b) => mul_fit (x := a.c) (y := p.p) (by omega) (by omega) (by omega) (by omega)
    have av : advV p s a.t = avG p s a.t := by unfold advV; rw [if_pos hr]
    have ah : advH p s = s.h := by unfold advH; rw [if_pos hr]
    have wi := wrap_id
    refine call_fun ((p, s, a.t)) rfl (by simp only [vd1, vd2, vd3, vd4, vd5, vd6, reduceCtorEq, Option.some.injEq, vb_ite, vi_ite, List.getD_cons_zero, List.getD_cons_succ, advR, advG, newG, doN, doR, asP]) trivial ?_
    refine br_wp (fun c2 => ?_) (fun c2 => ?_)
    · refine need_wp ?_ ?_
      · exact ⟨_, _, _, rfl⟩
      refine ret_wp ?_
      ((try simp only [vd1, vd2, vd3, vd4, vd5, vd6, reduceCtorEq, Option.some.injEq, vb_ite, vi_ite, List.getD_cons_zero, List.getD_cons_succ, advR, advG, newG, doN, doR, asP] at *) <;> grind (splits := 40) [doT, doV, doH, doL, didG, advT, advV, advH, Sl.nil])
    · refine br_wp (fun c3 => ?_) (fun c3 => ?_)
      · refine call_fun ((p, s, a.t)) rfl (by simp only [vd1, vd2, vd3, vd4, vd5, vd6, reduceCtorEq, Option.some.injEq, vb_ite, vi_ite, List.getD_cons_zero, List.getD_cons_succ, advR, advG, newG, doN, doR, asP]) trivial ?_
        refine br_wp (fun c4 => ?_) (fun c4 => ?_)
        · refine need_wp ?_ ?_
          · exact ⟨_, _, _, rfl⟩
          refine ret_wp ?_
          ((try simp only [vd1, vd2, vd3, vd4, vd5, vd6, reduceCtorEq, Option.some.injEq, vb_ite, vi_ite, List.getD_cons_zero, List.getD_cons_succ, advR, advG, newG, doN, doR, asP] at *) <;> grind (splits := 40) [doT, doV, doH, doL, didG, advT, advV, advH, Sl.nil])
        · refine br_wp (fun c5 => ?_) (fun c5 => ?_)
          · refine call_fun ((p, s, a.t)) rfl (by simp only [vd1, vd2, vd3, vd4, vd5, vd6, reduceCtorEq, Option.some.injEq, vb_ite, vi_ite, List.getD_cons_zero, List.getD_cons_succ, advR, advG, newG, doN, doR, asP]) trivial ?_
            refine br_wp (fun c6 => ?_) (fun c6 => ?_)
            · refine need_wp ?_ ?_
              · exact ⟨_, _, _, rfl⟩
              refine ret_wp ?_
              ((try simp only [vd1, vd2, vd3, vd4, vd5, vd6, reduceCtorEq, Option.some.injEq, vb_ite, vi_ite, List.getD_cons_zero, List.getD_cons_succ, advR, advG, newG, doN, doR, asP] at *) <;> grind (splits := 40) [doT, doV, doH, doL, didG, advT, advV, advH, Sl.nil])
            · refine br_wp (fun c7 => ?_) (fun c7 => ?_)
              · refine br_wp (fun c8 => ?_) (fun c8 => ?_)
                · refine need_wp ?_ ?_
                  · exact ⟨_, _, _, rfl⟩
                  refine ret_wp ?_
                  ((try simp only [vd1, vd2, vd3, vd4, vd5, vd6, reduceCtorEq, Option.some.injEq, vb_ite, vi_ite, List.getD_cons_zero, List.getD_cons_succ, advR, advG, newG, doN, doR, asP] at *) <;> grind (splits := 40) [doT, doV, doH, doL, didG, advT, advV, advH, Sl.nil])
                · refine br_wp (fun c9 => ?_) (fun c9 => ?_)
                  · refine need_wp ?_ ?_
                    · exact ⟨_, _, _, rfl⟩
                    refine ret_wp ?_
                    ((try simp only [vd1, vd2, vd3, vd4, vd5, vd6, reduceCtorEq, Option.some.injEq, vb_ite, vi_ite, List.getD_cons_zero, List.getD_cons_succ, advR, advG, newG, doN, doR, asP] at *) <;> grind (splits := 40) [doT, doV, doH, doL, didG, advT, advV, advH, Sl.nil])
                  · refine need_wp ?_ ?_
                    · exact ⟨_, _, _, rfl⟩
                    refine ret_wp ?_
                    ((try simp only [vd1, vd2, vd3, vd4, vd5, vd6, reduceCtorEq, Option.some.injEq, vb_ite, vi_ite, List.getD_cons_zero, List.getD_cons_succ, advR, advG, newG, doN, doR, asP] at *) <;> grind (splits := 40) [doT, doV, doH, doL, didG, advT, advV, advH, Sl.nil])
              · refine br_wp (fun c10 => ?_) (fun c10 => ?_)
                · refine br_wp (fun c11 => ?_) (fun c11 => ?_)
                  · refine need_wp ?_ ?_
                    · exact ⟨_, _, _, rfl⟩
                    refine ret_wp ?_
                    ((try simp only [vd1, vd2, vd3, vd4, vd5, vd6, reduceCtorEq, Option.some.injEq, vb_ite, vi_ite, List.getD_cons_zero, List.getD_cons_succ, advR, advG, newG, doN, doR, asP] at *) <;> grind (splits := 40) [doT, doV, doH, doL, didG, advT, advV, advH, Sl.nil])
                  · refine need_wp ?_ ?_
                    · exact ⟨_, _, _, rfl⟩
                    refine ret_wp ?_
                    ((try simp only [vd1, vd2, vd3, vd4, vd5, vd6, reduceCtorEq, Option.some.injEq, vb_ite, vi_ite, List.getD_cons_zero, List.getD_cons_succ, advR, advG, newG, doN, doR, asP] at *) <;> grind (splits := 40) [doT, doV, doH, doL, didG, advT, advV, advH, Sl.nil])
                · refine need_wp ?_ ?_
                  · exact ⟨_, _, _, rfl⟩
                  refine ret_wp ?_
                  ((try simp only [vd1, vd2, vd3, vd4, vd5, vd6, reduceCtorEq, Option.some.injEq, vb_ite, vi_ite, List.getD_cons_zero, List.getD_cons_succ, advR, advG, newG, doN, doR, asP] at *) <;> grind (splits := 40) [doT, doV, doH, doL, didG, advT, advV, advH, Sl.nil])
          · refine br_wp (fun c12 => ?_) (fun c12 => ?_)
            · refine br_wp (fun c13 => ?_) (fun c13 => ?_)
              · refine need_wp ?_ ?_
                · exact ⟨_, _, _, rfl⟩
                refine ret_wp ?_
                ((try simp only [vd1, vd2, vd3, vd4, vd5, vd6, reduceCtorEq, Option.some.injEq, vb_ite, vi_ite, List.getD_cons_zero, List.getD_cons_succ, advR, advG, newG, doN, doR, asP] at *) <;> grind (splits := 40) [doT, doV, doH, doL, didG, advT, advV, advH, Sl.nil])
              · refine br_wp (fun c14 => ?_) (fun c14 => ?_)
                · refine need_wp ?_ ?_
                  · exact ⟨_, _, _, rfl⟩
                  refine ret_wp ?_
                  ((try simp only [vd1, vd2, vd3, vd4, vd5, vd6, reduceCtorEq, Option.some.injEq, vb_ite, vi_ite, List.getD_cons_zero, List.getD_cons_succ, advR, advG, newG, doN, doR, asP] at *) <;> grind (splits := 40) [doT, doV, doH, doL, didG, advT, advV, advH, Sl.nil])
                · refine need_wp ?_ ?_
                  · exact ⟨_, _, _, rfl⟩
                  refine ret_wp ?_
                  ((try simp only [vd1, vd2, vd3, vd4, vd5, vd6, reduceCtorEq, Option.some.injEq, vb_ite, vi_ite, List.getD_cons_zero, List.getD_cons_succ, advR, advG, newG, doN, doR, asP] at *) <;> grind (splits := 40) [doT, doV, doH, doL, didG, advT, advV, advH, Sl.nil])
            · refine br_wp (fun c15 => ?_) (fun c15 => ?_)
              · refine br_wp (fun c16 => ?_) (fun c16 => ?_)
                · refine need_wp ?_ ?_
                  · exact ⟨_, _, _, rfl⟩
                  refine ret_wp ?_
                  ((try simp only [vd1, vd2, vd3, vd4, vd5, vd6, reduceCtorEq, Option.some.injEq, vb_ite, vi_ite, List.getD_cons_zero, List.getD_cons_succ, advR, advG, newG, doN, doR, asP] at *) <;> grind (splits := 40) [doT, doV, doH, doL, didG, advT, advV, advH, Sl.nil])
                · refine need_wp ?_ ?_
                  · exact ⟨_, _, _, rfl⟩
                  refine ret_wp ?_
                  ((try simp only [vd1, vd2, vd3, vd4, vd5, vd6, reduceCtorEq, Option.some.injEq, vb_ite, vi_ite, List.getD_cons_zero, List.getD_cons_succ, advR, advG, newG, doN, doR, asP] at *) <;> grind (splits := 40) [doT, doV, doH, doL, didG, advT, advV, advH, Sl.nil])
              · refine need_wp ?_ ?_
                · exact ⟨_, _, _, rfl⟩
                refine ret_wp ?_
                ((try simp only [vd1, vd2, vd3, vd4, vd5, vd6, reduceCtorEq, Option.some.injEq, vb_ite, vi_ite, List.getD_cons_zero, List.getD_cons_succ, advR, advG, newG, doN, doR, asP] at *) <;> grind (splits := 40) [doT, doV, doH, doL, didG, advT, advV, advH, Sl.nil])
      · refine br_wp (fun c17 => ?_) (fun c17 => ?_)
        · refine call_fun ((p, s, a.t)) rfl (by simp only [vd1, vd2, vd3, vd4, vd5, vd6, reduceCtorEq, Option.some.injEq, vb_ite, vi_ite, List.getD_cons_zero, List.getD_cons_succ, advR, advG, newG, doN, doR, asP]) trivial ?_
          refine br_wp (fun c18 => ?_) (fun c18 => ?_)
          · refine need_wp ?_ ?_
            · exact ⟨_, _, _, rfl⟩
            refine ret_wp ?_
            ((try simp only [vd1, vd2, vd3, vd4, vd5, vd6, reduceCtorEq, Option.some.injEq, vb_ite, vi_ite, List.getD_cons_zero, List.getD_cons_succ, advR, advG, newG, doN, doR, asP] at *) <;> grind (splits := 40) [doT, doV, doH, doL, didG, advT, advV, advH, Sl.nil])
          · refine br_wp (fun c19 => ?_) (fun c19 => ?_)
            · refine br_wp (fun c20 => ?_) (fun c20 => ?_)
              · refine need_wp ?_ ?_
                · exact ⟨_, _, _, rfl⟩
                refine ret_wp ?_
                ((try simp only [vd1, vd2, vd3, vd4, vd5, vd6, reduceCtorEq, Option.some.injEq, vb_ite, vi_ite, List.getD_cons_zero, List.getD_cons_succ, advR, advG, newG, doN, doR, asP] at *) <;> grind (splits := 40) [doT, doV, doH, doL, didG, advT, advV, advH, Sl.nil])
              · refine br_wp (fun c21 => ?_) (fun c21 => ?_)
                · refine need_wp ?_ ?_
                  · exact ⟨_, _, _, rfl⟩
                  refine ret_wp ?_
                  ((try simp only [vd1, vd2, vd3, vd4, vd5, vd6, reduceCtorEq, Option.some.injEq, vb_ite, vi_ite, List.getD_cons_zero, List.getD_cons_succ, advR, advG, newG, doN, doR, asP] at *) <;> grind (splits := 40) [doT, doV, doH, doL, didG, advT, advV, advH, Sl.nil])
                · refine need_wp ?_ ?_
                  · exact ⟨_, _, _, rfl⟩
                  refine ret_wp ?_
                  ((try simp only [vd1, vd2, vd3, vd4, vd5, vd6, reduceCtorEq, Option.some.injEq, vb_ite, vi_ite, List.getD_cons_zero, List.getD_cons_succ, advR, advG, newG, doN, doR, asP] at *) <;> grind (splits := 40) [doT, doV, doH, doL, didG, advT, advV, advH, Sl.nil])
            · refine br_wp (fun c22 => ?_) (fun c22 => ?_)
              · refine br_wp (fun c23 => ?_) (fun c23 => ?_)
                · refine need_wp ?_ ?_
                  · exact ⟨_, _, _, rfl⟩
                  refine ret_wp ?_
                  ((try simp only [vd1, vd2, vd3, vd4, vd5, vd6, reduceCtorEq, Option.some.injEq, vb_ite, vi_ite, List.getD_cons_zero, List.getD_cons_succ, advR, advG, newG, doN, doR, asP] at *) <;> grind (splits := 40) [doT, doV, doH, doL, didG, advT, advV, advH, Sl.nil])
                · refine need_wp ?_ ?_
                  · exact ⟨_, _, _, rfl⟩
                  refine ret_wp ?_
                  ((try simp only [vd1, vd2, vd3, vd4, vd5, vd6, reduceCtorEq, Option.some.injEq, vb_ite, vi_ite, List.getD_cons_zero, List.getD_cons_succ, advR, advG, newG, doN, doR, asP] at *) <;> grind (splits := 40) [doT, doV, doH, doL, didG, advT, advV, advH, Sl.nil])
              · refine need_wp ?_ ?_
                · exact ⟨_, _, _, rfl⟩
                refine ret_wp ?_
                ((try simp only [vd1, vd2, vd3, vd4, vd5, vd6, reduceCtorEq, Option.some.injEq, vb_ite, vi_ite, List.getD_cons_zero, List.getD_cons_succ, advR, advG, newG, doN, doR, asP] at *) <;> grind (splits := 40) [doT, doV, doH, doL, didG, advT, advV, advH, Sl.nil])
        · refine br_wp (fun c24 => ?_) (fun c24 => ?_)
          · refine br_wp (fun c25 => ?_) (fun c25 => ?_)
            · refine need_wp ?_ ?_
              · exact ⟨_, _, _, rfl⟩
              refine ret_wp ?_
              ((try simp only [vd1, vd2, vd3, vd4, vd5, vd6, reduceCtorEq, Option.some.injEq, vb_ite, vi_ite, List.getD_cons_zero, List.getD_cons_succ, advR, advG, newG, doN, doR, asP] at *) <;> grind (splits := 40) [doT, doV, doH, doL, didG, advT, advV, advH, Sl.nil])
            · refine br_wp (fun c26 => ?_) (fun c26 => ?_)
              · refine need_wp ?_ ?_
                · exact ⟨_, _, _, rfl⟩
                refine ret_wp ?_
                ((try simp only [vd1, vd2, vd3, vd4, vd5, vd6, reduceCtorEq, Option.some.injEq, vb_ite, vi_ite, List.getD_cons_zero, List.getD_cons_succ, advR, advG, newG, doN, doR, asP] at *) <;> grind (splits := 40) [doT, doV, doH, doL, didG, advT, advV, advH, Sl.nil])
              · refine need_wp ?_ ?_
                · exact ⟨_, _, _, rfl⟩
                refine ret_wp ?_
                ((try simp only [vd1, vd2, vd3, vd4, vd5, vd6, reduceCtorEq, Option.some.injEq, vb_ite, vi_ite, List.getD_cons_zero, List.getD_cons_succ, advR, advG, newG, doN, doR, asP] at *) <;> grind (splits := 40) [doT, doV, doH, doL, didG, advT, advV, advH, Sl.nil])
          · refine br_wp (fun c27 => ?_) (fun c27 => ?_)
            · refine br_wp (fun c28 => ?_) (fun c28 => ?_)
              · refine need_wp ?_ ?_
                · exact ⟨_, _, _, rfl⟩
                refine ret_wp ?_
                ((try simp only [vd1, vd2, vd3, vd4, vd5, vd6, reduceCtorEq, Option.some.injEq, vb_ite, vi_ite, List.getD_cons_zero, List.getD_cons_succ, advR, advG, newG, doN, doR, asP] at *) <;> grind (splits := 40) [doT, doV, doH, doL, didG, advT, advV, advH, Sl.nil])
              · refine need_wp ?_ ?_
                · exact ⟨_, _, _, rfl⟩
                refine ret_wp ?_
                ((try simp only [vd1, vd2, vd3, vd4, vd5, vd6, reduceCtorEq, Option.some.injEq, vb_ite, vi_ite, List.getD_cons_zero, List.getD_cons_succ, advR, advG, newG, doN, doR, asP] at *) <;> grind (splits := 40) [doT, doV, doH, doL, didG, advT, advV, advH, Sl.nil])
            · refine need_wp ?_ ?_
              · exact ⟨_, _, _, rfl⟩
              refine ret_wp ?_
              ((try simp only [vd1, vd2, vd3, vd4, vd5, vd6, reduceCtorEq, Option.some.injEq, vb_ite, vi_ite, List.getD_cons_zero, List.getD_cons_succ, advR, advG, newG, doN, doR, asP] at *) <;> grind (splits := 40) [doT, doV, doH, doL, didG, advT, advV, advH, Sl.nil])
  · refine need_wp ?_ ?_
    · exact ⟨_, _, _, rfl⟩
    refine ret_wp ?_
    ((try simp only [vd1, vd2, vd3, vd4, vd5, vd6, reduceCtorEq, Option.some.injEq, vb_ite, vi_ite, List.getD_cons_zero, List.getD_cons_succ, advR, advG, newG, doN, doR, asP] at *) <;> grind (splits := 40) [doT, doV, doH, doL, didG, advT, advV, advH, Sl.nil])
end Go.Proofs.YtjmenmnjkfnhgaaK
