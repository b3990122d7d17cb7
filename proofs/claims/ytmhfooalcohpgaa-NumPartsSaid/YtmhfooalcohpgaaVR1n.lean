import Derived.Test.YtmhfooalcohpgaaVN0
import Derived.Test.YtmhfooalcohpgaaVR1tm
import Derived.Test.YtmhfooalcohpgaaProg
import Derived.Test.YtmhfooalcohpgaaChecked
set_option linter.unusedSimpArgs false
set_option linter.unusedVariables false
namespace Go.Proofs.YtmhfooalcohpgaaK
open Go Go.Proofs.YtmhfooalcohpgaaV Go.Proofs
theorem hP : Try.prog.follows .mixedOrders = true := rfl
def mlH (a b : Int) : Int := ml a b / 18446744073709551616
def mlL (a b : Int) : Int := ml a b % 18446744073709551616
theorem ml_parts {a b : Int} (h : 0 ≤ ml a b) : ml a b = mlH a b * 18446744073709551616 + mlL a b ∧ 0 ≤ mlL a b ∧ mlL a b < 18446744073709551616 ∧ 0 ≤ mlH a b := by unfold mlH mlL; omega
def szA (n : Int) : Int := if n < 0 then -n else n
theorem ml_size (a b : Int) : 0 ≤ ml (szA a) (szA b) ∧ ((a < 0 ↔ b < 0) → ml (szA a) (szA b) = ml a b) ∧ (¬(a < 0 ↔ b < 0) → ml (szA a) (szA b) = -ml a b) := by
  unfold ml szA
  refine ⟨?_, ?_, ?_⟩
  · split <;> split <;> exact Int.mul_nonneg (by omega) (by omega)
  · intro h; by_cases h1 : a < 0
    · have h2 := h.1 h1
      rw [if_pos h1, if_pos h2, Int.neg_mul_neg]
    · rw [if_neg h1, if_neg (fun h2 => h1 (h.2 h2))]
  · intro h
    by_cases h1 : a < 0
    · have h2 : ¬b < 0 := fun h2 => h ⟨fun _ => h2, fun _ => h1⟩
      rw [if_pos h1, if_neg h2, Int.neg_mul]
    · have h2 : b < 0 := by
        by_cases h2 : b < 0
        · exact h2
        · exact absurd ⟨fun h3 => absurd h3 h1, fun h3 => absurd h3 h2⟩ h
      rw [if_neg h1, if_pos h2, Int.mul_neg]
theorem ml_four (a b : Int) : (a < 0 ∧ b < 0 ∧ ml (szA a) (szA b) = ml a b) ∨ (0 ≤ a ∧ 0 ≤ b ∧ ml (szA a) (szA b) = ml a b) ∨ (a < 0 ∧ 0 ≤ b ∧ ml (szA a) (szA b) = -ml a b) ∨ (0 ≤ a ∧ b < 0 ∧ ml (szA a) (szA b) = -ml a b) := by
  obtain ⟨_, h1, h2⟩ := ml_size a b
  by_cases ha : a < 0 <;> by_cases hb : b < 0
  · exact Or.inl ⟨ha, hb, h1 ⟨fun _ => hb, fun _ => ha⟩⟩
  · exact Or.inr (Or.inr (Or.inl ⟨ha, by omega, h2 (fun h => hb (h.1 ha))⟩))
  · exact Or.inr (Or.inr (Or.inr ⟨by omega, hb, h2 (fun h => ha (h.2 hb))⟩))
  · exact Or.inr (Or.inl ⟨by omega, by omega, h1 ⟨fun h => absurd h ha, fun h => absurd h hb⟩⟩)
def mulO (a b : Int) : Prop := -9223372036854775808 ≤ ml a b ∧ ml a b ≤ 9223372036854775807
instance (a b : Int) : Decidable (mulO a b) := by unfold mulO; exact inferInstance
def mulV (a b : Int) : Int := if mulO a b then ml a b else 0
def dvO (a b c : Int) : Prop := 0 ≤ a ∧ 0 ≤ b ∧ 0 < c
instance (a b c : Int) : Decidable (dvO a b c) := by unfold dvO; exact inferInstance
def cdv (m c : Int) : Int := dv m c + (if 0 < md m c then 1 else 0)
def in64 (a : Int) : Prop := -9223372036854775808 ≤ a ∧ a ≤ 9223372036854775807
theorem wrap_u64_neg {n : Int} (h : -9223372036854775808 ≤ n) (h2 : n < 0) : IntKind.u64.wrap (0 - IntKind.u64.wrap n) = -n := by rw [IntKind.wrap_u64, IntKind.wrap_u64]; omega
theorem wrap_u64_id {n : Int} (h : 0 ≤ n) (h2 : n < 18446744073709551616) : IntKind.u64.wrap n = n := by rw [IntKind.wrap_u64]; omega
theorem wrap_i64_low {n : Int} (h : 0 ≤ n) (h2 : n ≤ 9223372036854775808) : IntKind.i64.wrap (IntKind.u64.wrap (0 - n)) = -n := by rw [IntKind.wrap_u64, IntKind.wrap_i64]; omega
def clamp (n : Int) : Int := if n < 0 then 0 else if n > 9007199254740992 then 9007199254740992 else n
def kMul64 (sg : Sig) : Sig × Con := (sg, mkFun (fun x : Int × Int => ([aK .u64 x.1, aK .u64 x.2] : List Atom)) (fun x => (0 ≤ x.1 ∧ x.1 < 18446744073709551616) ∧ 0 ≤ x.2 ∧ x.2 < 18446744073709551616) (fun x => [aK .u64 (mlH x.1 x.2), aK .u64 (mlL x.1 x.2)]))
set_option maxHeartbeats 4000000 in
theorem h28 : holds Try.prog (kMul64 sg28) := by
  refine fn_holds (l := []) trivial hP rs28 (inj_of (fun l : List Atom => ((vi (l.getD 0 atom0).1, vi (l.getD 1 atom0).1) : Int × Int)) (fun _ => rfl)) Try.func28 (by kernel_rfl) (c := code Try.f28) (by kernel_rfl) (an := an28) (by kernel_rfl) (pk := pk28) rfl (t := t28) (by kernel_rfl) ?_
  rintro ⟨x, y⟩ ⟨⟨u1, u2⟩, u3, u4⟩
  refine ⟨by simp [pk28, KindsOk, encPS, encPSn, encPSnc, encPSA, encPn, encSS, encI, Pol.enc, Stt.enc, Ac.enc, Sl.atom, Sl.nil, Stt.zero, RK.ok], ?_⟩
  unfold t28
  refine ret_wp ?_
  exact congrArg (fun a => [aK .u64 a, aK .u64 (mlL x y)]) (mul64_hi_is u1 u2 u3 u4) |> fun h => by (refine Eq.trans ?_ h; refine congrArg (fun b => [aK .u64 _, aK .u64 b]) ?_; exact IntKind.wrap_u64 _)
def kSize (sg : Sig) : Sig × Con := (sg, mkFun (fun x : Int => ([aI x] : List Atom)) in64 (fun n => [aK .u64 (szA n)]))
set_option maxHeartbeats 4000000 in
theorem h29 : holds Try.prog (kSize sg29) := by
  refine fn_holds (l := []) trivial hP rs29 (inj_of (fun l : List Atom => (vi (l.getD 0 atom0).1 : Int)) (fun _ => rfl)) Try.func29 (by kernel_rfl) (c := code Try.f29) (by kernel_rfl) (an := an29) (by kernel_rfl) (pk := pk29) rfl (t := t29) (by kernel_rfl) ?_
  rintro n ⟨u1, u2⟩
  refine ⟨by simp [pk29, KindsOk, encPS, encPSn, encPSnc, encPSA, encPn, encSS, encI, Pol.enc, Stt.enc, Ac.enc, Sl.atom, Sl.nil, Stt.zero, RK.ok], ?_⟩
  unfold t29
  refine br_wp (fun c1 => ?_) (fun c1 => ?_)
  · refine ret_wp ?_
    (simp only [vd1, vd2, vd3, vd4, vd5, vd6, vd7, reduceCtorEq, Option.some.injEq, vb_ite, vi_ite, List.getD_cons_zero, List.getD_cons_succ] at *; unfold szA; first | rw [if_pos (by omega), wrap_u64_neg u1 (by omega)] | rw [if_neg (by omega), wrap_u64_id (by omega) (by omega)])
  · refine ret_wp ?_
    (simp only [vd1, vd2, vd3, vd4, vd5, vd6, vd7, reduceCtorEq, Option.some.injEq, vb_ite, vi_ite, List.getD_cons_zero, List.getD_cons_succ] at *; unfold szA; first | rw [if_pos (by omega), wrap_u64_neg u1 (by omega)] | rw [if_neg (by omega), wrap_u64_id (by omega) (by omega)])
def kMul (sg : Sig) : Sig × Con := (sg, mkFun (fun x : Int × Int => ([aI x.1, aI x.2] : List Atom)) (fun x => in64 x.1 ∧ in64 x.2) (fun x => [aI (mulV x.1 x.2), aB (decide (mulO x.1 x.2))]))
set_option maxHeartbeats 4000000 in
theorem h12 : holds Try.prog (kMul sg12) := by
  refine fn_holds (l := [kSize sg29, kMul64 sg28]) ⟨h29, h28, trivial⟩ hP rs12 (inj_of (fun l : List Atom => ((vi (l.getD 0 atom0).1, vi (l.getD 1 atom0).1) : Int × Int)) (fun _ => rfl)) Try.func12 (by kernel_rfl) (c := code Try.f12) (by kernel_rfl) (an := an12) (by kernel_rfl) (pk := pk12) rfl (t := t12) (by kernel_rfl) ?_
  rintro ⟨a, b⟩ ⟨⟨u1, u2⟩, u3, u4⟩
  refine ⟨by simp [pk12, KindsOk, encPS, encPSn, encPSnc, encPSA, encPn, encSS, encI, Pol.enc, Stt.enc, Ac.enc, Sl.atom, Sl.nil, Stt.zero, RK.ok], ?_⟩
  unfold t12
  have f1 := (ml_size a b).1
  have f2 := ml_four a b
  obtain ⟨p1, p2, p3, p4⟩ := ml_parts f1
  have w1 := @wrap_i64_low (mlL (szA a) (szA b)) p2
  have w2 := @wrap_id (mlL (szA a) (szA b)) (by omega)
  refine call_fun (a) rfl (by simp only [vd1, vd2, vd3, vd4, vd5, vd6, vd7, reduceCtorEq, Option.some.injEq, vb_ite, vi_ite, List.getD_cons_zero, List.getD_cons_succ]) (by first | exact ⟨u1, u2⟩ | exact ⟨u3, u4⟩) ?_
  refine call_fun (b) rfl (by simp only [vd1, vd2, vd3, vd4, vd5, vd6, vd7, reduceCtorEq, Option.some.injEq, vb_ite, vi_ite, List.getD_cons_zero, List.getD_cons_succ]) (by first | exact ⟨u1, u2⟩ | exact ⟨u3, u4⟩) ?_
  refine call_fun (((szA a), (szA b))) rfl (by simp only [vd1, vd2, vd3, vd4, vd5, vd6, vd7, reduceCtorEq, Option.some.injEq, vb_ite, vi_ite, List.getD_cons_zero, List.getD_cons_succ]) (by unfold szA; refine ⟨⟨?_, ?_⟩, ?_, ?_⟩ <;> simp only <;> split <;> (simp only at u1 u2 u3 u4; omega)) ?_
  refine br_wp (fun c1 => ?_) (fun c1 => ?_)
  · refine ret_wp ?_
    (simp only [vd1, vd2, vd3, vd4, vd5, vd6, vd7, reduceCtorEq, Option.some.injEq, vb_ite, vi_ite, List.getD_cons_zero, List.getD_cons_succ] at *; unfold mulV mulO; grind)
  · refine br_wp (fun c2 => ?_) (fun c2 => ?_)
    · refine ret_wp ?_
      (simp only [vd1, vd2, vd3, vd4, vd5, vd6, vd7, reduceCtorEq, Option.some.injEq, vb_ite, vi_ite, List.getD_cons_zero, List.getD_cons_succ] at *; unfold mulV mulO; grind)
    · refine br_wp (fun c3 => ?_) (fun c3 => ?_)
      · refine br_wp (fun c4 => ?_) (fun c4 => ?_)
        · refine ret_wp ?_
          (simp only [vd1, vd2, vd3, vd4, vd5, vd6, vd7, reduceCtorEq, Option.some.injEq, vb_ite, vi_ite, List.getD_cons_zero, List.getD_cons_succ] at *; unfold mulV mulO; grind)
        · refine ret_wp ?_
          (simp only [vd1, vd2, vd3, vd4, vd5, vd6, vd7, reduceCtorEq, Option.some.injEq, vb_ite, vi_ite, List.getD_cons_zero, List.getD_cons_succ] at *; unfold mulV mulO; grind)
      · refine br_wp (fun c5 => ?_) (fun c5 => ?_)
        · refine ret_wp ?_
          (simp only [vd1, vd2, vd3, vd4, vd5, vd6, vd7, reduceCtorEq, Option.some.injEq, vb_ite, vi_ite, List.getD_cons_zero, List.getD_cons_succ] at *; unfold mulV mulO; grind)
        · refine ret_wp ?_
          (simp only [vd1, vd2, vd3, vd4, vd5, vd6, vd7, reduceCtorEq, Option.some.injEq, vb_ite, vi_ite, List.getD_cons_zero, List.getD_cons_succ] at *; unfold mulV mulO; grind)
def kTold0 (sg : Sig) : Sig × Con := (sg, mkFun (fun x : Int × Bool => ([aI x.1, aB x.2] : List Atom)) (fun _ => True) (fun x => [aI (if x.2 = true then x.1 else 0), aB x.2]))
set_option maxHeartbeats 4000000 in
theorem h27 : holds Try.prog (kTold0 sg27) := by
  refine fn_holds (l := []) trivial hP rs27 (inj_of (fun l : List Atom => ((vi (l.getD 0 atom0).1, vb (l.getD 1 atom0).1) : Int × Bool)) (fun _ => rfl)) Try.func27 (by kernel_rfl) (c := code Try.f27) (by kernel_rfl) (an := an27) (by kernel_rfl) (pk := pk27) rfl (t := t27) (by kernel_rfl) ?_
  rintro ⟨n, o⟩ hpre
  refine ⟨by simp [pk27, KindsOk, encPS, encPSn, encPSnc, encPSA, encPn, encSS, encI, Pol.enc, Stt.enc, Ac.enc, Sl.atom, Sl.nil, Stt.zero, RK.ok], ?_⟩
  unfold t27
  refine br_wp (fun c1 => ?_) (fun c1 => ?_)
  · refine ret_wp ?_
    (simp only [vd1, vd2, vd3, vd4, vd5, vd6, vd7, reduceCtorEq, Option.some.injEq, vb_ite, vi_ite, List.getD_cons_zero, List.getD_cons_succ] at *; simp [c1])
  · refine ret_wp ?_
    (simp only [vd1, vd2, vd3, vd4, vd5, vd6, vd7, reduceCtorEq, Option.some.injEq, vb_ite, vi_ite, List.getD_cons_zero, List.getD_cons_succ] at *; simp [c1])
def kClamp (sg : Sig) : Sig × Con := (sg, mkFun (fun x : Int => ([aI x] : List Atom)) (fun _ => True) (fun n => [aI (clamp n)]))
set_option maxHeartbeats 4000000 in
theorem h17 : holds Try.prog (kClamp sg17) := by
  refine fn_holds (l := []) trivial hP rs17 (inj_of (fun l : List Atom => (vi (l.getD 0 atom0).1 : Int)) (fun _ => rfl)) Try.func17 (by kernel_rfl) (c := code Try.f17) (by kernel_rfl) (an := an17) (by kernel_rfl) (pk := pk17) rfl (t := t17) (by kernel_rfl) ?_
  rintro n hpre
  refine ⟨by simp [pk17, KindsOk, encPS, encPSn, encPSnc, encPSA, encPn, encSS, encI, Pol.enc, Stt.enc, Ac.enc, Sl.atom, Sl.nil, Stt.zero, RK.ok], ?_⟩
  unfold t17
  refine ret_wp ?_
  (simp only [vd1, vd2, vd3, vd4, vd5, vd6, vd7, reduceCtorEq, Option.some.injEq, vb_ite, vi_ite, List.getD_cons_zero, List.getD_cons_succ] at *; unfold clamp; congr 2; congr 1; omega)
def kNone (sg : Sig) : Sig × Con := (sg, mkFun (fun x : Int => [aK .u64 x]) (fun _ => False) (fun _ => [aI 0]))
theorem h41 : holds Try.prog (kNone sg41) := ⟨⟨Try.f41, Try.func41, by kernel_rfl, by kernel_rfl⟩, fun _ _ _ _ _ h => by obtain ⟨_, _, h⟩ := h; exact h.elim⟩
theorem quo_u64 (a p : Int) (h : 0 ≤ a) (h2 : a < 18446744073709551616) (hp : 1 ≤ p) : quoD .u64 a p = dv a p := by
  have := dv_ok a p h hp
  unfold quoD
  rw [Int.tdiv_eq_ediv_of_nonneg h]
  exact wrap_u64_id (by unfold dv at this; omega) (by unfold dv at this; omega)
def kDiv64 (sg : Sig) : Sig × Con := (sg, mkFun (fun x : Int × Int × Int => ([aK .u64 x.1, aK .u64 x.2.1, aK .u64 x.2.2] : List Atom)) (fun x => x.1 = 0 ∧ (0 ≤ x.2.1 ∧ x.2.1 < 18446744073709551616) ∧ 1 ≤ x.2.2 ∧ x.2.2 < 18446744073709551616) (fun x => [aK .u64 (dv x.2.1 x.2.2), aK .u64 (md x.2.1 x.2.2)]))
set_option maxHeartbeats 4000000 in
theorem h38 : holds Try.prog (kDiv64 sg38) := by
  refine fn_holds (l := [kNone sg41]) ⟨h41, trivial⟩ hP rs38 (inj_of (fun l : List Atom => ((vi (l.getD 0 atom0).1, vi (l.getD 1 atom0).1, vi (l.getD 2 atom0).1) : Int × Int × Int)) (fun _ => rfl)) Try.func38 (by kernel_rfl) (c := code Try.f38) (by kernel_rfl) (an := an38) (by kernel_rfl) (pk := pk38) rfl (t := t38) (by kernel_rfl) ?_
  rintro ⟨x, y, z⟩ ⟨u1, ⟨u2, u3⟩, u4, u5⟩
  refine ⟨by simp [pk38, KindsOk, encPS, encPSn, encPSnc, encPSA, encPn, encSS, encI, Pol.enc, Stt.enc, Ac.enc, Sl.atom, Sl.nil, Stt.zero, RK.ok], ?_⟩
  unfold t38
  simp only at u1 u2 u3 u4 u5
  refine br_wp (fun c1 => ?_) (fun c1 => ?_)
  · exfalso; (simp only [vd1, vd2, vd3, vd4, vd5, vd6, vd7, reduceCtorEq, Option.some.injEq, vb_ite, vi_ite, List.getD_cons_zero, List.getD_cons_succ] at *; grind [quo_u64, rem_id])
  · refine br_wp (fun c2 => ?_) (fun c2 => ?_)
    · exfalso; (simp only [vd1, vd2, vd3, vd4, vd5, vd6, vd7, reduceCtorEq, Option.some.injEq, vb_ite, vi_ite, List.getD_cons_zero, List.getD_cons_succ] at *; grind [quo_u64, rem_id])
    · refine br_wp (fun c3 => ?_) (fun c3 => ?_)
      · refine need_wp ?_ ?_
        · (simp only [vd1, vd2, vd3, vd4, vd5, vd6, vd7, reduceCtorEq, Option.some.injEq, vb_ite, vi_ite, List.getD_cons_zero, List.getD_cons_succ] at *; grind [quo_u64, rem_id])
        refine ret_wp ?_
        (simp only [vd1, vd2, vd3, vd4, vd5, vd6, vd7, reduceCtorEq, Option.some.injEq, vb_ite, vi_ite, List.getD_cons_zero, List.getD_cons_succ] at *; grind [quo_u64, rem_id])
      · refine call_fun (z) rfl (by simp only [vd1, vd2, vd3, vd4, vd5, vd6, vd7, reduceCtorEq, Option.some.injEq, vb_ite, vi_ite, List.getD_cons_zero, List.getD_cons_succ]) (by exfalso; simp only [vd1, vd2, vd3, vd4, vd5, vd6, vd7, reduceCtorEq, Option.some.injEq, vb_ite, vi_ite, List.getD_cons_zero, List.getD_cons_succ] at *; omega) ?_
        refine need_wp ?_ ?_
        · (simp only [vd1, vd2, vd3, vd4, vd5, vd6, vd7, reduceCtorEq, Option.some.injEq, vb_ite, vi_ite, List.getD_cons_zero, List.getD_cons_succ] at *; grind [quo_u64, rem_id])
        refine need_wp ?_ ?_
        · (simp only [vd1, vd2, vd3, vd4, vd5, vd6, vd7, reduceCtorEq, Option.some.injEq, vb_ite, vi_ite, List.getD_cons_zero, List.getD_cons_succ] at *; grind [quo_u64, rem_id])
        refine need_wp ?_ ?_
        · (simp only [vd1, vd2, vd3, vd4, vd5, vd6, vd7, reduceCtorEq, Option.some.injEq, vb_ite, vi_ite, List.getD_cons_zero, List.getD_cons_succ] at *; grind [quo_u64, rem_id])
        exfalso; (simp only [vd1, vd2, vd3, vd4, vd5, vd6, vd7, reduceCtorEq, Option.some.injEq, vb_ite, vi_ite, List.getD_cons_zero, List.getD_cons_succ] at *; grind [quo_u64, rem_id])
def kDivided (sg : Sig) : Sig × Con := (sg, mkFun (fun x : Int × Int × Int => ([aI x.1, aI x.2.1, aI x.2.2] : List Atom)) (fun x => (in64 x.1 ∧ in64 x.2.1 ∧ in64 x.2.2) ∧ (dvO x.1 x.2.1 x.2.2 → ml x.1 x.2.1 < 9223372036854775808)) (fun x => [aK .u64 (if dvO x.1 x.2.1 x.2.2 then dv (ml x.1 x.2.1) x.2.2 else 0), aK .u64 (if dvO x.1 x.2.1 x.2.2 then md (ml x.1 x.2.1) x.2.2 else 0), aB (decide (dvO x.1 x.2.1 x.2.2))]))
set_option maxHeartbeats 4000000 in
theorem h26 : holds Try.prog (kDivided sg26) := by
  refine fn_holds (l := [kMul64 sg28, kDiv64 sg38]) ⟨h28, h38, trivial⟩ hP rs26 (inj_of (fun l : List Atom => ((vi (l.getD 0 atom0).1, vi (l.getD 1 atom0).1, vi (l.getD 2 atom0).1) : Int × Int × Int)) (fun _ => rfl)) Try.func26 (by kernel_rfl) (c := code Try.f26) (by kernel_rfl) (an := an26) (by kernel_rfl) (pk := pk26) rfl (t := t26) (by kernel_rfl) ?_
  rintro ⟨a, b, c⟩ ⟨⟨⟨u1, u2⟩, ⟨u3, u4⟩, u5, u6⟩, hm⟩
  refine ⟨by simp [pk26, KindsOk, encPS, encPSn, encPSnc, encPSA, encPn, encSS, encI, Pol.enc, Stt.enc, Ac.enc, Sl.atom, Sl.nil, Stt.zero, RK.ok], ?_⟩
  unfold t26
  simp only at u1 u2 u3 u4 u5 u6 hm
  refine br_wp (fun c1 => ?_) (fun c1 => ?_)
  · refine ret_wp ?_
    (simp only [vd1, vd2, vd3, vd4, vd5, vd6, vd7, reduceCtorEq, Option.some.injEq, vb_ite, vi_ite, List.getD_cons_zero, List.getD_cons_succ] at *; grind [dvO])
  · refine br_wp (fun c2 => ?_) (fun c2 => ?_)
    · refine ret_wp ?_
      (simp only [vd1, vd2, vd3, vd4, vd5, vd6, vd7, reduceCtorEq, Option.some.injEq, vb_ite, vi_ite, List.getD_cons_zero, List.getD_cons_succ] at *; grind [dvO])
    · have hd : dvO a b c := by simp only [vd1, vd2, vd3, vd4, vd5, vd6, vd7, reduceCtorEq, Option.some.injEq, vb_ite, vi_ite, List.getD_cons_zero, List.getD_cons_succ] at c1 c2; unfold dvO; omega
      have hd2 := hd
      unfold dvO at hd2
      have hm2 := hm hd
      have hm3 : 0 ≤ ml a b := Int.mul_nonneg hd2.1 hd2.2.1
      have hh : mlH a b = 0 := by unfold mlH; omega
      have hl : mlL a b = ml a b := by unfold mlL; omega
      have wa := @wrap_u64_id a (by omega) (by omega)
      have wb := @wrap_u64_id b (by omega) (by omega)
      have wc := @wrap_u64_id c (by omega) (by omega)
      refine call_fun ((a, b)) rfl (by simp only [vd1, vd2, vd3, vd4, vd5, vd6, vd7, reduceCtorEq, Option.some.injEq, vb_ite, vi_ite, List.getD_cons_zero, List.getD_cons_succ, wa, wb, wc]) ⟨⟨hd2.1, by omega⟩, hd2.2.1, by omega⟩ ?_
      refine br_wp (fun c3 => ?_) (fun c3 => ?_)
      · refine ret_wp ?_
        (simp only [vd1, vd2, vd3, vd4, vd5, vd6, vd7, reduceCtorEq, Option.some.injEq, vb_ite, vi_ite, List.getD_cons_zero, List.getD_cons_succ, wa, wb, wc] at *; grind [dvO])
      · refine call_fun (((mlH a b), (mlL a b), c)) rfl (by simp only [vd1, vd2, vd3, vd4, vd5, vd6, vd7, reduceCtorEq, Option.some.injEq, vb_ite, vi_ite, List.getD_cons_zero, List.getD_cons_succ, wa, wb, wc]) (by refine ⟨hh, ⟨?_, ?_⟩, ?_, ?_⟩ <;> simp only [hl] <;> omega) ?_
        refine ret_wp ?_
        (simp only [vd1, vd2, vd3, vd4, vd5, vd6, vd7, reduceCtorEq, Option.some.injEq, vb_ite, vi_ite, List.getD_cons_zero, List.getD_cons_succ, wa, wb, wc] at *; grind [dvO])
theorem dv_le {a b c : Int} (h : dvO a b c) (hm : ml a b < 9223372036854775808) : 0 ≤ dv (ml a b) c ∧ dv (ml a b) c ≤ 9223372036854775807 := by
  have := dv_ok (ml a b) c (Int.mul_nonneg h.1 h.2.1) (by have := h.2.2; omega)
  omega
theorem cdv_le {a b c : Int} (h : dvO a b c) (hm : ml a b < 9223372036854775808) : 0 ≤ cdv (ml a b) c ∧ cdv (ml a b) c ≤ 9223372036854775807 := by
  have h0 : 0 ≤ ml a b := Int.mul_nonneg h.1 h.2.1
  have hc : 0 < c := h.2.2
  have h1 := dv_le h hm
  refine ⟨by unfold cdv; split <;> omega, ?_⟩
  unfold cdv
  split
  · rename_i hp
    unfold md at hp
    have e := Int.emod_add_mul_ediv (ml a b) c
    have e2 : 1 ≤ c * (ml a b / c) → True := fun _ => trivial
    have h2 : dv (ml a b) c < ml a b ∨ ml a b = 0 := by
      by_cases h3 : c = 1
      · subst h3; simp at hp
      · unfold dv
        by_cases h4 : ml a b = 0
        · exact Or.inr h4
        · left; exact Int.ediv_lt_self_of_pos_of_ne_one (by omega) h3
    rcases h2 with h2 | h2
    · omega
    · rw [h2] at hp; simp at hp
  · omega
theorem shr_small (a : Int) (h : 0 ≤ a) (h2 : a ≤ 9223372036854775807) : a.fdiv (2 ^ (min (Int.toNat 63) IntKind.u64.bits)) = 0 ∧ IntKind.i64.wrap a = a ∧ IntKind.u64.wrap a = a := by
  have e : (2 : Int) ^ (min (Int.toNat 63) IntKind.u64.bits) = 9223372036854775808 := by decide
  rw [e, Int.fdiv_eq_ediv_of_nonneg _ (by omega)]
  exact ⟨by omega, wrap_id a (by omega) h2, wrap_u64_id h (by omega)⟩
def kWhole (sg : Sig) : Sig × Con := (sg, mkFun (fun x : Int × Int × Int => ([aI x.1, aI x.2.1, aI x.2.2] : List Atom)) (fun x => (in64 x.1 ∧ in64 x.2.1 ∧ in64 x.2.2) ∧ (dvO x.1 x.2.1 x.2.2 → ml x.1 x.2.1 < 9223372036854775808)) (fun x => [aI (if dvO x.1 x.2.1 x.2.2 then cdv (ml x.1 x.2.1) x.2.2 else 0), aB (decide (dvO x.1 x.2.1 x.2.2))]))
set_option maxHeartbeats 4000000 in
theorem h13 : holds Try.prog (kWhole sg13) := by
  refine fn_holdsI (l := [kDivided sg26, kTold0 sg27]) ⟨h26, h27, trivial⟩ (inl := [in13_30]) (by refine ⟨⟨Try.func30, by kernel_rfl, by kernel_rfl, by kernel_rfl⟩, trivial⟩) hP rs13 (inj_of (fun l : List Atom => ((vi (l.getD 0 atom0).1, vi (l.getD 1 atom0).1, vi (l.getD 2 atom0).1) : Int × Int × Int)) (fun _ => rfl)) Try.func13 (by kernel_rfl) (c := code Try.f13) (by kernel_rfl) (an := an13) (by kernel_rfl) (pk := pk13) rfl (t := t13) (by kernel_rfl) ?_
  rintro ⟨a, b, c⟩ ⟨⟨⟨u1, u2⟩, ⟨u3, u4⟩, u5, u6⟩, hm⟩
  refine ⟨by simp [pk13, KindsOk, encPS, encPSn, encPSnc, encPSA, encPn, encSS, encI, Pol.enc, Stt.enc, Ac.enc, Sl.atom, Sl.nil, Stt.zero, RK.ok], ?_⟩
  unfold t13
  simp only at u1 u2 u3 u4 u5 u6 hm
  have hf := fun hd => cdv_le hd (hm hd)
  have hg := fun hd => dv_le hd (hm hd)
  have ws := shr_small
  refine call_fun ((a, b, c)) rfl (by simp only [vd1, vd2, vd3, vd4, vd5, vd6, vd7, reduceCtorEq, Option.some.injEq, vb_ite, vi_ite, List.getD_cons_zero, List.getD_cons_succ]) ⟨⟨⟨u1, u2⟩, ⟨u3, u4⟩, u5, u6⟩, hm⟩ ?_
  refine br_wp (fun c1 => ?_) (fun c1 => ?_)
  · refine br_wp (fun c2 => ?_) (fun c2 => ?_)
    · refine br_wp (fun c3 => ?_) (fun c3 => ?_)
      · refine call_fun (((IntKind.i64.wrap (IntKind.u64.wrap ((if dvO a b c then dv (ml a b) c else 0) + 1))), ((arD .shr .u64 (IntKind.u64.wrap ((if dvO a b c then dv (ml a b) c else 0) + 1)) 63) == 0))) rfl (by simp only [vd1, vd2, vd3, vd4, vd5, vd6, vd7, reduceCtorEq, Option.some.injEq, vb_ite, vi_ite, List.getD_cons_zero, List.getD_cons_succ]) trivial ?_
        refine ret_wp ?_
        (simp only [vd1, vd2, vd3, vd4, vd5, vd6, vd7, reduceCtorEq, Option.some.injEq, vb_ite, vi_ite, List.getD_cons_zero, List.getD_cons_succ] at *; by_cases hd : dvO a b c <;> simp only [hd, if_true, if_false, decide_true, decide_false] at * <;> grind [cdv])
      · refine call_fun (((IntKind.i64.wrap (IntKind.u64.wrap ((if dvO a b c then dv (ml a b) c else 0) + 1))), false)) rfl (by simp only [vd1, vd2, vd3, vd4, vd5, vd6, vd7, reduceCtorEq, Option.some.injEq, vb_ite, vi_ite, List.getD_cons_zero, List.getD_cons_succ]) trivial ?_
        refine ret_wp ?_
        (simp only [vd1, vd2, vd3, vd4, vd5, vd6, vd7, reduceCtorEq, Option.some.injEq, vb_ite, vi_ite, List.getD_cons_zero, List.getD_cons_succ] at *; by_cases hd : dvO a b c <;> simp only [hd, if_true, if_false, decide_true, decide_false] at * <;> grind [cdv])
    · refine call_fun (((IntKind.i64.wrap (IntKind.u64.wrap ((if dvO a b c then dv (ml a b) c else 0) + 1))), false)) rfl (by simp only [vd1, vd2, vd3, vd4, vd5, vd6, vd7, reduceCtorEq, Option.some.injEq, vb_ite, vi_ite, List.getD_cons_zero, List.getD_cons_succ]) trivial ?_
      refine ret_wp ?_
      (simp only [vd1, vd2, vd3, vd4, vd5, vd6, vd7, reduceCtorEq, Option.some.injEq, vb_ite, vi_ite, List.getD_cons_zero, List.getD_cons_succ] at *; by_cases hd : dvO a b c <;> simp only [hd, if_true, if_false, decide_true, decide_false] at * <;> grind [cdv])
  · refine br_wp (fun c4 => ?_) (fun c4 => ?_)
    · refine br_wp (fun c5 => ?_) (fun c5 => ?_)
      · refine call_fun (((IntKind.i64.wrap (if dvO a b c then dv (ml a b) c else 0)), ((arD .shr .u64 (if dvO a b c then dv (ml a b) c else 0) 63) == 0))) rfl (by simp only [vd1, vd2, vd3, vd4, vd5, vd6, vd7, reduceCtorEq, Option.some.injEq, vb_ite, vi_ite, List.getD_cons_zero, List.getD_cons_succ]) trivial ?_
        refine ret_wp ?_
        (simp only [vd1, vd2, vd3, vd4, vd5, vd6, vd7, reduceCtorEq, Option.some.injEq, vb_ite, vi_ite, List.getD_cons_zero, List.getD_cons_succ] at *; by_cases hd : dvO a b c <;> simp only [hd, if_true, if_false, decide_true, decide_false] at * <;> grind [cdv])
      · refine call_fun (((IntKind.i64.wrap (if dvO a b c then dv (ml a b) c else 0)), false)) rfl (by simp only [vd1, vd2, vd3, vd4, vd5, vd6, vd7, reduceCtorEq, Option.some.injEq, vb_ite, vi_ite, List.getD_cons_zero, List.getD_cons_succ]) trivial ?_
        refine ret_wp ?_
        (simp only [vd1, vd2, vd3, vd4, vd5, vd6, vd7, reduceCtorEq, Option.some.injEq, vb_ite, vi_ite, List.getD_cons_zero, List.getD_cons_succ] at *; by_cases hd : dvO a b c <;> simp only [hd, if_true, if_false, decide_true, decide_false] at * <;> grind [cdv])
    · refine call_fun (((IntKind.i64.wrap (if dvO a b c then dv (ml a b) c else 0)), false)) rfl (by simp only [vd1, vd2, vd3, vd4, vd5, vd6, vd7, reduceCtorEq, Option.some.injEq, vb_ite, vi_ite, List.getD_cons_zero, List.getD_cons_succ]) trivial ?_
      refine ret_wp ?_
      (simp only [vd1, vd2, vd3, vd4, vd5, vd6, vd7, reduceCtorEq, Option.some.injEq, vb_ite, vi_ite, List.getD_cons_zero, List.getD_cons_succ] at *; by_cases hd : dvO a b c <;> simp only [hd, if_true, if_false, decide_true, decide_false] at * <;> grind [cdv])
instance (a : Int) : Decidable (in64 a) := by unfold in64; exact inferInstance
def okv (n : Int) : Int := if in64 n then n else 0
def later (t d : Int) : Int := clamp (clamp t + clamp d)
theorem clamp_bd (n : Int) : 0 ≤ clamp n ∧ clamp n ≤ 9007199254740992 := by unfold clamp; split <;> (try split) <;> omega
theorem wrap_cases (n : Int) (h : -18446744073709551616 ≤ n) (h2 : n < 18446744073709551616) : (-9223372036854775808 ≤ n ∧ n ≤ 9223372036854775807 ∧ IntKind.i64.wrap n = n) ∨ (n < -9223372036854775808 ∧ IntKind.i64.wrap n = n + 18446744073709551616) ∨ (9223372036854775807 < n ∧ IntKind.i64.wrap n = n - 18446744073709551616) := by rw [IntKind.wrap_i64]; omega
def kPart (sg : Sig) : Sig × Con := (sg, mkFun (fun x : Int × Int × Int => ([aI x.1, aI x.2.1, aI x.2.2] : List Atom)) (fun x => (in64 x.1 ∧ in64 x.2.1 ∧ in64 x.2.2) ∧ (dvO x.1 x.2.1 x.2.2 → ml x.1 x.2.1 < 9223372036854775808)) (fun x => [aI (if dvO x.1 x.2.1 x.2.2 then dv (ml x.1 x.2.1) x.2.2 else 0), aB (decide (dvO x.1 x.2.1 x.2.2))]))
set_option maxHeartbeats 4000000 in
theorem h11 : holds Try.prog (kPart sg11) := by
  refine fn_holds (l := [kDivided sg26, kTold0 sg27]) ⟨h26, h27, trivial⟩ hP rs11 (inj_of (fun l : List Atom => ((vi (l.getD 0 atom0).1, vi (l.getD 1 atom0).1, vi (l.getD 2 atom0).1) : Int × Int × Int)) (fun _ => rfl)) Try.func11 (by kernel_rfl) (c := code Try.f11) (by kernel_rfl) (an := an11) (by kernel_rfl) (pk := pk11) rfl (t := t11) (by kernel_rfl) ?_
  rintro ⟨a, b, c⟩ ⟨⟨⟨u1, u2⟩, ⟨u3, u4⟩, u5, u6⟩, hm⟩
  refine ⟨by simp [pk11, KindsOk, encPS, encPSn, encPSnc, encPSA, encPn, encSS, encI, Pol.enc, Stt.enc, Ac.enc, Sl.atom, Sl.nil, Stt.zero, RK.ok], ?_⟩
  unfold t11
  simp only at u1 u2 u3 u4 u5 u6 hm
  have hg := fun hd => dv_le hd (hm hd)
  have ws := shr_small
  refine call_fun ((a, b, c)) rfl (by simp only [vd1, vd2, vd3, vd4, vd5, vd6, vd7, reduceCtorEq, Option.some.injEq, vb_ite, vi_ite, List.getD_cons_zero, List.getD_cons_succ]) ⟨⟨⟨u1, u2⟩, ⟨u3, u4⟩, u5, u6⟩, hm⟩ ?_
  refine br_wp (fun c1 => ?_) (fun c1 => ?_)
  · refine call_fun (((IntKind.i64.wrap (if dvO a b c then dv (ml a b) c else 0)), ((arD .shr .u64 (if dvO a b c then dv (ml a b) c else 0) 63) == 0))) rfl (by simp only [vd1, vd2, vd3, vd4, vd5, vd6, vd7, reduceCtorEq, Option.some.injEq, vb_ite, vi_ite, List.getD_cons_zero, List.getD_cons_succ]) trivial ?_
    refine ret_wp ?_
    (simp only [vd1, vd2, vd3, vd4, vd5, vd6, vd7, reduceCtorEq, Option.some.injEq, vb_ite, vi_ite, List.getD_cons_zero, List.getD_cons_succ] at *; by_cases hd : dvO a b c <;> simp only [hd, if_true, if_false, decide_true, decide_false] at * <;> grind)
  · refine call_fun (((IntKind.i64.wrap (if dvO a b c then dv (ml a b) c else 0)), false)) rfl (by simp only [vd1, vd2, vd3, vd4, vd5, vd6, vd7, reduceCtorEq, Option.some.injEq, vb_ite, vi_ite, List.getD_cons_zero, List.getD_cons_succ]) trivial ?_
    refine ret_wp ?_
    (simp only [vd1, vd2, vd3, vd4, vd5, vd6, vd7, reduceCtorEq, Option.some.injEq, vb_ite, vi_ite, List.getD_cons_zero, List.getD_cons_succ] at *; by_cases hd : dvO a b c <;> simp only [hd, if_true, if_false, decide_true, decide_false] at * <;> grind)
def kLater (sg : Sig) : Sig × Con := (sg, mkFun (fun x : Int × Int => ([aI x.1, aI x.2] : List Atom)) (fun _ => True) (fun x => [aI (later x.1 x.2)]))
set_option maxHeartbeats 4000000 in
theorem h19 : holds Try.prog (kLater sg19) := by
  refine fn_holds (l := [kClamp sg17]) ⟨h17, trivial⟩ hP rs19 (inj_of (fun l : List Atom => ((vi (l.getD 0 atom0).1, vi (l.getD 1 atom0).1) : Int × Int)) (fun _ => rfl)) Try.func19 (by kernel_rfl) (c := code Try.f19) (by kernel_rfl) (an := an19) (by kernel_rfl) (pk := pk19) rfl (t := t19) (by kernel_rfl) ?_
  rintro ⟨t, d⟩ hpre
  refine ⟨by simp [pk19, KindsOk, encPS, encPSn, encPSnc, encPSA, encPn, encSS, encI, Pol.enc, Stt.enc, Ac.enc, Sl.atom, Sl.nil, Stt.zero, RK.ok], ?_⟩
  unfold t19
  have h1 := clamp_bd t
  have h2 := clamp_bd d
  have hw : IntKind.i64.wrap (clamp t + clamp d) = clamp t + clamp d := wrap_id _ (by omega) (by omega)
  refine call_fun (t) rfl (by simp only [vd1, vd2, vd3, vd4, vd5, vd6, vd7, reduceCtorEq, Option.some.injEq, vb_ite, vi_ite, List.getD_cons_zero, List.getD_cons_succ, hw]) trivial ?_
  refine call_fun (d) rfl (by simp only [vd1, vd2, vd3, vd4, vd5, vd6, vd7, reduceCtorEq, Option.some.injEq, vb_ite, vi_ite, List.getD_cons_zero, List.getD_cons_succ, hw]) trivial ?_
  refine call_fun ((clamp t + clamp d)) rfl (by simp only [vd1, vd2, vd3, vd4, vd5, vd6, vd7, reduceCtorEq, Option.some.injEq, vb_ite, vi_ite, List.getD_cons_zero, List.getD_cons_succ, hw]) trivial ?_
  refine ret_wp ?_
  (simp only [vd1, vd2, vd3, vd4, vd5, vd6, vd7, reduceCtorEq, Option.some.injEq, vb_ite, vi_ite, List.getD_cons_zero, List.getD_cons_succ, hw] at *; rfl)
def kAdd (sg : Sig) : Sig × Con := (sg, mkFun (fun x : Int × Int => ([aI x.1, aI x.2] : List Atom)) (fun x => in64 x.1 ∧ in64 x.2) (fun x => [aI (okv (x.1 + x.2)), aB (decide (in64 (x.1 + x.2)))]))
set_option maxHeartbeats 4000000 in
theorem h21 : holds Try.prog (kAdd sg21) := by
  refine fn_holds (l := [kTold0 sg27]) ⟨h27, trivial⟩ hP rs21 (inj_of (fun l : List Atom => ((vi (l.getD 0 atom0).1, vi (l.getD 1 atom0).1) : Int × Int)) (fun _ => rfl)) Try.func21 (by kernel_rfl) (c := code Try.f21) (by kernel_rfl) (an := an21) (by kernel_rfl) (pk := pk21) rfl (t := t21) (by kernel_rfl) ?_
  rintro ⟨a, b⟩ ⟨⟨u1, u2⟩, u3, u4⟩
  refine ⟨by simp [pk21, KindsOk, encPS, encPSn, encPSnc, encPSA, encPn, encSS, encI, Pol.enc, Stt.enc, Ac.enc, Sl.atom, Sl.nil, Stt.zero, RK.ok], ?_⟩
  unfold t21
  simp only at u1 u2 u3 u4
  have wc := wrap_cases (a + b) (by omega) (by omega)
  refine call_fun (((IntKind.i64.wrap (a + b)), ((decide ((IntKind.i64.wrap (a + b)) > a)) == (decide (b > 0))))) rfl (by simp only [vd1, vd2, vd3, vd4, vd5, vd6, vd7, reduceCtorEq, Option.some.injEq, vb_ite, vi_ite, List.getD_cons_zero, List.getD_cons_succ]) trivial ?_
  refine ret_wp ?_
  (simp only [vd1, vd2, vd3, vd4, vd5, vd6, vd7, reduceCtorEq, Option.some.injEq, vb_ite, vi_ite, List.getD_cons_zero, List.getD_cons_succ] at *; unfold okv in64; grind)
def kSub (sg : Sig) : Sig × Con := (sg, mkFun (fun x : Int × Int => ([aI x.1, aI x.2] : List Atom)) (fun x => in64 x.1 ∧ in64 x.2) (fun x => [aI (okv (x.1 - x.2)), aB (decide (in64 (x.1 - x.2)))]))
set_option maxHeartbeats 4000000 in
theorem h23 : holds Try.prog (kSub sg23) := by
  refine fn_holds (l := [kTold0 sg27]) ⟨h27, trivial⟩ hP rs23 (inj_of (fun l : List Atom => ((vi (l.getD 0 atom0).1, vi (l.getD 1 atom0).1) : Int × Int)) (fun _ => rfl)) Try.func23 (by kernel_rfl) (c := code Try.f23) (by kernel_rfl) (an := an23) (by kernel_rfl) (pk := pk23) rfl (t := t23) (by kernel_rfl) ?_
  rintro ⟨a, b⟩ ⟨⟨u1, u2⟩, u3, u4⟩
  refine ⟨by simp [pk23, KindsOk, encPS, encPSn, encPSnc, encPSA, encPn, encSS, encI, Pol.enc, Stt.enc, Ac.enc, Sl.atom, Sl.nil, Stt.zero, RK.ok], ?_⟩
  unfold t23
  simp only at u1 u2 u3 u4
  have wc := wrap_cases (a - b) (by omega) (by omega)
  refine call_fun (((IntKind.i64.wrap (a - b)), ((decide ((IntKind.i64.wrap (a - b)) < a)) == (decide (b > 0))))) rfl (by simp only [vd1, vd2, vd3, vd4, vd5, vd6, vd7, reduceCtorEq, Option.some.injEq, vb_ite, vi_ite, List.getD_cons_zero, List.getD_cons_succ]) trivial ?_
  refine ret_wp ?_
  (simp only [vd1, vd2, vd3, vd4, vd5, vd6, vd7, reduceCtorEq, Option.some.injEq, vb_ite, vi_ite, List.getD_cons_zero, List.getD_cons_succ] at *; unfold okv in64; grind)
end Go.Proofs.YtmhfooalcohpgaaK
