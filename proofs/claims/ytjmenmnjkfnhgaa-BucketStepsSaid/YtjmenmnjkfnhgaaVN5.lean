import Derived.Test.YtjmenmnjkfnhgaaVN0
import Derived.Test.YtjmenmnjkfnhgaaVG5t
import Derived.Test.YtjmenmnjkfnhgaaProg
import Derived.Test.YtjmenmnjkfnhgaaChecked
set_option linter.unusedSimpArgs false
set_option linter.unusedVariables false
namespace Go.Proofs.YtjmenmnjkfnhgaaK
open Go Go.Proofs.YtjmenmnjkfnhgaaV Go.Proofs
theorem hP : Try.prog.follows .mixedOrders = true := rfl
def mlH (a b : Int) : Int := ml a b / 18446744073709551616
def mlL (a b : Int) : Int := ml a b % 18446744073709551616
theorem ml_parts {a b : Int} (h : 0 ≤ ml a b) : ml a b = mlH a b * 18446744073709551616 + mlL a b ∧ 0 ≤ mlL a b ∧ mlL a b < 18446744073709551616 ∧ 0 ≤ mlH a b := by unfold mlH mlL; omega
def szA (n : Int) : Int := if n < 0 then -n else n
theorem ml_size (a b : Int) : 0 ≤ ml (szA a) (szA b) ∧ ((a < 0 ↔ b < 0) → ml (szA a) (szA b) = ml a b) ∧ (¬(a < 0 ↔ b < 0) → ml (szA a) (szA b) = -ml a b) := by
  unfold ml szA
  refine ⟨?_, ?_, ?_⟩
  · split <;> split <;> exact Int.mul_nonneg (by omega) (by omega)
  · intro h; by_cases h1 : a < 0
    · have h2 := h.1 h1
      rw [if_pos h1, if_pos h2, Int.neg_mul_neg]
    · rw [if_neg h1, if_neg (fun h2 => h1 (h.2 h2))]
  · intro h
    by_cases h1 : a < 0
    · have h2 : ¬b < 0 := fun h2 => h ⟨fun _ => h2, fun _ => h1⟩
      rw [if_pos h1, if_neg h2, Int.neg_mul]
    · have h2 : b < 0 := by
        by_cases h2 : b < 0
        · exact h2
        · exact absurd ⟨fun h3 => absurd h3 h1, fun h3 => absurd h3 h2⟩ h
      rw [if_neg h1, if_pos h2, Int.mul_neg]
theorem ml_four (a b : Int) : (a < 0 ∧ b < 0 ∧ ml (szA a) (szA b) = ml a b) ∨ (0 ≤ a ∧ 0 ≤ b ∧ ml (szA a) (szA b) = ml a b) ∨ (a < 0 ∧ 0 ≤ b ∧ ml (szA a) (szA b) = -ml a b) ∨ (0 ≤ a ∧ b < 0 ∧ ml (szA a) (szA b) = -ml a b) := by
  obtain ⟨_, h1, h2⟩ := ml_size a b
  by_cases ha : a < 0 <;> by_cases hb : b < 0
  · exact Or.inl ⟨ha, hb, h1 ⟨fun _ => hb, fun _ => ha⟩⟩
  · exact Or.inr (Or.inr (Or.inl ⟨ha, by omega, h2 (fun h => hb (h.1 ha))⟩))
  · exact Or.inr (Or.inr (Or.inr ⟨by omega, hb, h2 (fun h => ha (h.2 hb))⟩))
  · exact Or.inr (Or.inl ⟨by omega, by omega, h1 ⟨fun h => absurd h ha, fun h => absurd h hb⟩⟩)
def mulO (a b : Int) : Prop := -9223372036854775808 ≤ ml a b ∧ ml a b ≤ 9223372036854775807
instance (a b : Int) : Decidable (mulO a b) := by unfold mulO; exact inferInstance
def mulV (a b : Int) : Int := if mulO a b then ml a b else 0
def dvO (a b c : Int) : Prop := 0 ≤ a ∧ 0 ≤ b ∧ 0 < c
instance (a b c : Int) : Decidable (dvO a b c) := by unfold dvO; exact inferInstance
def cdv (m c : Int) : Int := dv m c + (if 0 < md m c then 1 else 0)
def in64 (a : Int) : Prop := -9223372036854775808 ≤ a ∧ a ≤ 9223372036854775807
theorem wrap_u64_neg {n : Int} (h : -9223372036854775808 ≤ n) (h2 : n < 0) : IntKind.u64.wrap (0 - IntKind.u64.wrap n) = -n := by rw [IntKind.wrap_u64, IntKind.wrap_u64]; omega
theorem wrap_u64_id {n : Int} (h : 0 ≤ n) (h2 : n < 18446744073709551616) : IntKind.u64.wrap n = n := by rw [IntKind.wrap_u64]; omega
theorem wrap_i64_low {n : Int} (h : 0 ≤ n) (h2 : n ≤ 9223372036854775808) : IntKind.i64.wrap (IntKind.u64.wrap (0 - n)) = -n := by rw [IntKind.wrap_u64, IntKind.wrap_i64]; omega
def clamp (n : Int) : Int := if n < 0 then 0 else if n > 9007199254740992 then 9007199254740992 else n
def kMul64 (sg : Sig) : Sig × Con := (sg, mkFun (fun x : Int × Int => ([aK .u64 x.1, aK .u64 x.2] : List Atom)) (fun x => (0 ≤ x.1 ∧ x.1 < 18446744073709551616) ∧ 0 ≤ x.2 ∧ x.2 < 18446744073709551616) (fun x => [aK .u64 (mlH x.1 x.2), aK .u64 (mlL x.1 x.2)]))
set_option maxHeartbeats 4000000 in
theorem h78 : holds Try.prog (kMul64 sg78) := by
  refine fn_holds (l := []) trivial hP rs78 (inj_of (fun l : List Atom => ((vi (l.getD 0 atom0).1, vi (l.getD 1 atom0).1) : Int × Int)) (fun _ => rfl)) Try.func78 (by kernel_rfl) (c := code Try.f78) (by kernel_rfl) (an := an78) (by kernel_rfl) (pk := pk78) rfl (t := t78) (by kernel_rfl) ?_
  rintro ⟨x, y⟩ ⟨⟨u1, u2⟩, u3, u4⟩
  refine ⟨by simp [pk78, KindsOk, encPS, encPSn, encPSnc, encPSA, encPn, encSS, encI, Pol.enc, Stt.enc, Ac.enc, Sl.atom, Sl.nil, Stt.zero, RK.ok], ?_⟩
  unfold t78
  refine ret_wp ?_
  exact congrArg (fun a => [aK .u64 a, aK .u64 (mlL x y)]) (mul64_hi_is u1 u2 u3 u4) |> fun h => by (refine Eq.trans ?_ h; refine congrArg (fun b => [aK .u64 _, aK .u64 b]) ?_; exact IntKind.wrap_u64 _)
def kSize (sg : Sig) : Sig × Con := (sg, mkFun (fun x : Int => ([aI x] : List Atom)) in64 (fun n => [aK .u64 (szA n)]))
set_option maxHeartbeats 4000000 in
theorem h79 : holds Try.prog (kSize sg79) := by
  refine fn_holds (l := []) trivial hP rs79 (inj_of (fun l : List Atom => (vi (l.getD 0 atom0).1 : Int)) (fun _ => rfl)) Try.func79 (by kernel_rfl) (c := code Try.f79) (by kernel_rfl) (an := an79) (by kernel_rfl) (pk := pk79) rfl (t := t79) (by kernel_rfl) ?_
  rintro n ⟨u1, u2⟩
  refine ⟨by simp [pk79, KindsOk, encPS, encPSn, encPSnc, encPSA, encPn, encSS, encI, Pol.enc, Stt.enc, Ac.enc, Sl.atom, Sl.nil, Stt.zero, RK.ok], ?_⟩
  unfold t79
  refine br_wp (fun c1 => ?_) (fun c1 => ?_)
  · refine ret_wp ?_
    (simp only [vd1, vd2, vd3, vd4, vd5, vd6, vd7, reduceCtorEq, Option.some.injEq, vb_ite, vi_ite, List.getD_cons_zero, List.getD_cons_succ] at *; unfold szA; first | rw [if_pos (by omega), wrap_u64_neg u1 (by omega)] | rw [if_neg (by omega), wrap_u64_id (by omega) (by omega)])
  · refine ret_wp ?_
    (simp only [vd1, vd2, vd3, vd4, vd5, vd6, vd7, reduceCtorEq, Option.some.injEq, vb_ite, vi_ite, List.getD_cons_zero, List.getD_cons_succ] at *; unfold szA; first | rw [if_pos (by omega), wrap_u64_neg u1 (by omega)] | rw [if_neg (by omega), wrap_u64_id (by omega) (by omega)])
def kMul (sg : Sig) : Sig × Con := (sg, mkFun (fun x : Int × Int => ([aI x.1, aI x.2] : List Atom)) (fun x => in64 x.1 ∧ in64 x.2) (fun x => [aI (mulV x.1 x.2), aB (decide (mulO x.1 x.2))]))
set_option maxHeartbeats 4000000 in
theorem h68 : holds Try.prog (kMul sg68) := by
  refine fn_holds (l := [kSize sg79, kMul64 sg78]) ⟨h79, h78, trivial⟩ hP rs68 (inj_of (fun l : List Atom => ((vi (l.getD 0 atom0).1, vi (l.getD 1 atom0).1) : Int × Int)) (fun _ => rfl)) Try.func68 (by kernel_rfl) (c := code Try.f68) (by kernel_rfl) (an := an68) (by kernel_rfl) (pk := pk68) rfl (t := t68) (by kernel_rfl) ?_
  rintro ⟨a, b⟩ ⟨⟨u1, u2⟩, u3, u4⟩
  refine ⟨by simp [pk68, KindsOk, encPS, encPSn, encPSnc, encPSA, encPn, encSS, encI, Pol.enc, Stt.enc, Ac.enc, Sl.atom, Sl.nil, Stt.zero, RK.ok], ?_⟩
  unfold t68
  have f1 := (ml_size a b).1
  have f2 := ml_four a b
  obtain ⟨p1, p2, p3, p4⟩ := ml_parts f1
  have w1 := @wrap_i64_low (mlL (szA a) (szA b)) p2
  have w2 := @wrap_id (mlL (szA a) (szA b)) (by omega)
  refine call_fun (a) rfl (by simp only [vd1, vd2, vd3, vd4, vd5, vd6, vd7, reduceCtorEq, Option.some.injEq, vb_ite, vi_ite, List.getD_cons_zero, List.getD_cons_succ]) (by first | exact ⟨u1, u2⟩ | exact ⟨u3, u4⟩) ?_
  refine call_fun (b) rfl (by simp only [vd1, vd2, vd3, vd4, vd5, vd6, vd7, reduceCtorEq, Option.some.injEq, vb_ite, vi_ite, List.getD_cons_zero, List.getD_cons_succ]) (by first | exact ⟨u1, u2⟩ | exact ⟨u3, u4⟩) ?_
  refine call_fun (((szA a), (szA b))) rfl (by simp only [vd1, vd2, vd3, vd4, vd5, vd6, vd7, reduceCtorEq, Option.some.injEq, vb_ite, vi_ite, List.getD_cons_zero, List.getD_cons_succ]) (by unfold szA; refine ⟨⟨?_, ?_⟩, ?_, ?_⟩ <;> simp only <;> split <;> (simp only at u1 u2 u3 u4; omega)) ?_
  refine br_wp (fun c1 => ?_) (fun c1 => ?_)
  · refine ret_wp ?_
    (simp only [vd1, vd2, vd3, vd4, vd5, vd6, vd7, reduceCtorEq, Option.some.injEq, vb_ite, vi_ite, List.getD_cons_zero, List.getD_cons_succ] at *; unfold mulV mulO; grind)
  · refine br_wp (fun c2 => ?_) (fun c2 => ?_)
    · refine ret_wp ?_
      (simp only [vd1, vd2, vd3, vd4, vd5, vd6, vd7, reduceCtorEq, Option.some.injEq, vb_ite, vi_ite, List.getD_cons_zero, List.getD_cons_succ] at *; unfold mulV mulO; grind)
    · refine br_wp (fun c3 => ?_) (fun c3 => ?_)
      · refine br_wp (fun c4 => ?_) (fun c4 => ?_)
        · refine ret_wp ?_
          (simp only [vd1, vd2, vd3, vd4, vd5, vd6, vd7, reduceCtorEq, Option.some.injEq, vb_ite, vi_ite, List.getD_cons_zero, List.getD_cons_succ] at *; unfold mulV mulO; grind)
        · refine ret_wp ?_
          (simp only [vd1, vd2, vd3, vd4, vd5, vd6, vd7, reduceCtorEq, Option.some.injEq, vb_ite, vi_ite, List.getD_cons_zero, List.getD_cons_succ] at *; unfold mulV mulO; grind)
      · refine br_wp (fun c5 => ?_) (fun c5 => ?_)
        · refine ret_wp ?_
          (simp only [vd1, vd2, vd3, vd4, vd5, vd6, vd7, reduceCtorEq, Option.some.injEq, vb_ite, vi_ite, List.getD_cons_zero, List.getD_cons_succ] at *; unfold mulV mulO; grind)
        · refine ret_wp ?_
          (simp only [vd1, vd2, vd3, vd4, vd5, vd6, vd7, reduceCtorEq, Option.some.injEq, vb_ite, vi_ite, List.getD_cons_zero, List.getD_cons_succ] at *; unfold mulV mulO; grind)
def kTold0 (sg : Sig) : Sig × Con := (sg, mkFun (fun x : Int × Bool => ([aI x.1, aB x.2] : List Atom)) (fun _ => True) (fun x => [aI (if x.2 = true then x.1 else 0), aB x.2]))
set_option maxHeartbeats 4000000 in
theorem h77 : holds Try.prog (kTold0 sg77) := by
  refine fn_holds (l := []) trivial hP rs77 (inj_of (fun l : List Atom => ((vi (l.getD 0 atom0).1, vb (l.getD 1 atom0).1) : Int × Bool)) (fun _ => rfl)) Try.func77 (by kernel_rfl) (c := code Try.f77) (by kernel_rfl) (an := an77) (by kernel_rfl) (pk := pk77) rfl (t := t77) (by kernel_rfl) ?_
  rintro ⟨n, o⟩ hpre
  refine ⟨by simp [pk77, KindsOk, encPS, encPSn, encPSnc, encPSA, encPn, encSS, encI, Pol.enc, Stt.enc, Ac.enc, Sl.atom, Sl.nil, Stt.zero, RK.ok], ?_⟩
  unfold t77
  refine br_wp (fun c1 => ?_) (fun c1 => ?_)
  · refine ret_wp ?_
    (simp only [vd1, vd2, vd3, vd4, vd5, vd6, vd7, reduceCtorEq, Option.some.injEq, vb_ite, vi_ite, List.getD_cons_zero, List.getD_cons_succ] at *; simp [c1])
  · refine ret_wp ?_
    (simp only [vd1, vd2, vd3, vd4, vd5, vd6, vd7, reduceCtorEq, Option.some.injEq, vb_ite, vi_ite, List.getD_cons_zero, List.getD_cons_succ] at *; simp [c1])
def kClamp (sg : Sig) : Sig × Con := (sg, mkFun (fun x : Int => ([aI x] : List Atom)) (fun _ => True) (fun n => [aI (clamp n)]))
set_option maxHeartbeats 4000000 in
theorem h50 : holds Try.prog (kClamp sg50) := by
  refine fn_holds (l := []) trivial hP rs50 (inj_of (fun l : List Atom => (vi (l.getD 0 atom0).1 : Int)) (fun _ => rfl)) Try.func50 (by kernel_rfl) (c := code Try.f50) (by kernel_rfl) (an := an50) (by kernel_rfl) (pk := pk50) rfl (t := t50) (by kernel_rfl) ?_
  rintro n hpre
  refine ⟨by simp [pk50, KindsOk, encPS, encPSn, encPSnc, encPSA, encPn, encSS, encI, Pol.enc, Stt.enc, Ac.enc, Sl.atom, Sl.nil, Stt.zero, RK.ok], ?_⟩
  unfold t50
  refine ret_wp ?_
  (simp only [vd1, vd2, vd3, vd4, vd5, vd6, vd7, reduceCtorEq, Option.some.injEq, vb_ite, vi_ite, List.getD_cons_zero, List.getD_cons_succ] at *; unfold clamp; congr 2; congr 1; omega)
def kIn (sg : Sig) : Sig × Con := (sg, mkFun (fun x : Int × Int × Int => ([aI x.1, aI x.2.1, aI x.2.2] : List Atom)) (fun _ => True) (fun x => [aB (decide (x.2.1 ≤ x.1 ∧ x.1 ≤ x.2.2))]))
set_option maxHeartbeats 4000000 in
theorem h51 : holds Try.prog (kIn sg51) := by
  refine fn_holds (l := []) trivial hP rs51 (inj_of (fun l : List Atom => ((vi (l.getD 0 atom0).1, vi (l.getD 1 atom0).1, vi (l.getD 2 atom0).1) : Int × Int × Int)) (fun _ => rfl)) Try.func51 (by kernel_rfl) (c := code Try.f51) (by kernel_rfl) (an := an51) (by kernel_rfl) (pk := pk51) rfl (t := t51) (by kernel_rfl) ?_
  rintro ⟨n, a, b⟩ hpre
  refine ⟨by simp [pk51, KindsOk, encPS, encPSn, encPSnc, encPSA, encPn, encSS, encI, Pol.enc, Stt.enc, Ac.enc, Sl.atom, Sl.nil, Stt.zero, RK.ok], ?_⟩
  unfold t51
  refine br_wp (fun c1 => ?_) (fun c1 => ?_)
  · refine ret_wp ?_
    (simp only [vd1, vd2, vd3, vd4, vd5, vd6, vd7, reduceCtorEq, Option.some.injEq, vb_ite, vi_ite, List.getD_cons_zero, List.getD_cons_succ] at *; grind)
  · refine ret_wp ?_
    (simp only [vd1, vd2, vd3, vd4, vd5, vd6, vd7, reduceCtorEq, Option.some.injEq, vb_ite, vi_ite, List.getD_cons_zero, List.getD_cons_succ] at *; grind)
def kNone (sg : Sig) : Sig × Con := (sg, mkFun (fun x : Int => [aK .u64 x]) (fun _ => False) (fun _ => [aI 0]))
theorem h85 : holds Try.prog (kNone sg85) := ⟨⟨Try.f85, Try.func85, by kernel_rfl, by kernel_rfl⟩, fun _ _ _ _ _ h => by obtain ⟨_, _, h⟩ := h; exact h.elim⟩
theorem quo_u64 (a p : Int) (h : 0 ≤ a) (h2 : a < 18446744073709551616) (hp : 1 ≤ p) : quoD .u64 a p = dv a p := by
  have := dv_ok a p h hp
  unfold quoD
  rw [Int.tdiv_eq_ediv_of_nonneg h]
  exact wrap_u64_id (by unfold dv at this; omega) (by unfold dv at this; omega)
def kDiv64 (sg : Sig) : Sig × Con := (sg, mkFun (fun x : Int × Int × Int => ([aK .u64 x.1, aK .u64 x.2.1, aK .u64 x.2.2] : List Atom)) (fun x => x.1 = 0 ∧ (0 ≤ x.2.1 ∧ x.2.1 < 18446744073709551616) ∧ 1 ≤ x.2.2 ∧ x.2.2 < 18446744073709551616) (fun x => [aK .u64 (dv x.2.1 x.2.2), aK .u64 (md x.2.1 x.2.2)]))
set_option maxHeartbeats 4000000 in
theorem h83 : holds Try.prog (kDiv64 sg83) := by
  refine fn_holds (l := [kNone sg85]) ⟨h85, trivial⟩ hP rs83 (inj_of (fun l : List Atom => ((vi (l.getD 0 atom0).1, vi (l.getD 1 atom0).1, vi (l.getD 2 atom0).1) : Int × Int × Int)) (fun _ => rfl)) Try.func83 (by kernel_rfl) (c := code Try.f83) (by kernel_rfl) (an := an83) (by kernel_rfl) (pk := pk83) rfl (t := t83) (by kernel_rfl) ?_
  rintro ⟨x, y, z⟩ ⟨u1, ⟨u2, u3⟩, u4, u5⟩
  refine ⟨by simp [pk83, KindsOk, encPS, encPSn, encPSnc, encPSA, encPn, encSS, encI, Pol.enc, Stt.enc, Ac.enc, Sl.atom, Sl.nil, Stt.zero, RK.ok], ?_⟩
  unfold t83
  simp only at u1 u2 u3 u4 u5
  refine br_wp (fun c1 => ?_) (fun c1 => ?_)
  · exfalso; (simp only [vd1, vd2, vd3, vd4, vd5, vd6, vd7, reduceCtorEq, Option.some.injEq, vb_ite, vi_ite, List.getD_cons_zero, List.getD_cons_succ] at *; grind [quo_u64, rem_id])
  · refine br_wp (fun c2 => ?_) (fun c2 => ?_)
    · exfalso; (simp only [vd1, vd2, vd3, vd4, vd5, vd6, vd7, reduceCtorEq, Option.some.injEq, vb_ite, vi_ite, List.getD_cons_zero, List.getD_cons_succ] at *; grind [quo_u64, rem_id])
    · refine br_wp (fun c3 => ?_) (fun c3 => ?_)
      · refine need_wp ?_ ?_
        · (simp only [vd1, vd2, vd3, vd4, vd5, vd6, vd7, reduceCtorEq, Option.some.injEq, vb_ite, vi_ite, List.getD_cons_zero, List.getD_cons_succ] at *; grind [quo_u64, rem_id])
        refine ret_wp ?_
        (simp only [vd1, vd2, vd3, vd4, vd5, vd6, vd7, reduceCtorEq, Option.some.injEq, vb_ite, vi_ite, List.getD_cons_zero, List.getD_cons_succ] at *; grind [quo_u64, rem_id])
      · refine call_fun (z) rfl (by simp only [vd1, vd2, vd3, vd4, vd5, vd6, vd7, reduceCtorEq, Option.some.injEq, vb_ite, vi_ite, List.getD_cons_zero, List.getD_cons_succ]) (by exfalso; simp only [vd1, vd2, vd3, vd4, vd5, vd6, vd7, reduceCtorEq, Option.some.injEq, vb_ite, vi_ite, List.getD_cons_zero, List.getD_cons_succ] at *; omega) ?_
        refine need_wp ?_ ?_
        · (simp only [vd1, vd2, vd3, vd4, vd5, vd6, vd7, reduceCtorEq, Option.some.injEq, vb_ite, vi_ite, List.getD_cons_zero, List.getD_cons_succ] at *; grind [quo_u64, rem_id])
        refine need_wp ?_ ?_
        · (simp only [vd1, vd2, vd3, vd4, vd5, vd6, vd7, reduceCtorEq, Option.some.injEq, vb_ite, vi_ite, List.getD_cons_zero, List.getD_cons_succ] at *; grind [quo_u64, rem_id])
        refine need_wp ?_ ?_
        · (simp only [vd1, vd2, vd3, vd4, vd5, vd6, vd7, reduceCtorEq, Option.some.injEq, vb_ite, vi_ite, List.getD_cons_zero, List.getD_cons_succ] at *; grind [quo_u64, rem_id])
        exfalso; (simp only [vd1, vd2, vd3, vd4, vd5, vd6, vd7, reduceCtorEq, Option.some.injEq, vb_ite, vi_ite, List.getD_cons_zero, List.getD_cons_succ] at *; grind [quo_u64, rem_id])
def kDivided (sg : Sig) : Sig × Con := (sg, mkFun (fun x : Int × Int × Int => ([aI x.1, aI x.2.1, aI x.2.2] : List Atom)) (fun x => (in64 x.1 ∧ in64 x.2.1 ∧ in64 x.2.2) ∧ (dvO x.1 x.2.1 x.2.2 → ml x.1 x.2.1 < 9223372036854775808)) (fun x => [aK .u64 (if dvO x.1 x.2.1 x.2.2 then dv (ml x.1 x.2.1) x.2.2 else 0), aK .u64 (if dvO x.1 x.2.1 x.2.2 then md (ml x.1 x.2.1) x.2.2 else 0), aB (decide (dvO x.1 x.2.1 x.2.2))]))
set_option maxHeartbeats 4000000 in
theorem h75 : holds Try.prog (kDivided sg75) := by
  refine fn_holds (l := [kMul64 sg78, kDiv64 sg83]) ⟨h78, h83, trivial⟩ hP rs75 (inj_of (fun l : List Atom => ((vi (l.getD 0 atom0).1, vi (l.getD 1 atom0).1, vi (l.getD 2 atom0).1) : Int × Int × Int)) (fun _ => rfl)) Try.func75 (by kernel_rfl) (c := code Try.f75) (by kernel_rfl) (an := an75) (by kernel_rfl) (pk := pk75) rfl (t := t75) (by kernel_rfl) ?_
  rintro ⟨a, b, c⟩ ⟨⟨⟨u1, u2⟩, ⟨u3, u4⟩, u5, u6⟩, hm⟩
  refine ⟨by simp [pk75, KindsOk, encPS, encPSn, encPSnc, encPSA, encPn, encSS, encI, Pol.enc, Stt.enc, Ac.enc, Sl.atom, Sl.nil, Stt.zero, RK.ok], ?_⟩
  unfold t75
  simp only at u1 u2 u3 u4 u5 u6 hm
  refine br_wp (fun c1 => ?_) (fun c1 => ?_)
  · refine ret_wp ?_
    (simp only [vd1, vd2, vd3, vd4, vd5, vd6, vd7, reduceCtorEq, Option.some.injEq, vb_ite, vi_ite, List.getD_cons_zero, List.getD_cons_succ] at *; grind [dvO])
  · refine br_wp (fun c2 => ?_) (fun c2 => ?_)
    · refine ret_wp ?_
      (simp only [vd1, vd2, vd3, vd4, vd5, vd6, vd7, reduceCtorEq, Option.some.injEq, vb_ite, vi_ite, List.getD_cons_zero, List.getD_cons_succ] at *; grind [dvO])
    · have hd : dvO a b c := by simp only [vd1, vd2, vd3, vd4, vd5, vd6, vd7, reduceCtorEq, Option.some.injEq, vb_ite, vi_ite, List.getD_cons_zero, List.getD_cons_succ] at c1 c2; unfold dvO; omega
      have hd2 := hd
      unfold dvO at hd2
      have hm2 := hm hd
      have hm3 : 0 ≤ ml a b := Int.mul_nonneg hd2.1 hd2.2.1
      have hh : mlH a b = 0 := by unfold mlH; omega
      have hl : mlL a b = ml a b := by unfold mlL; omega
      have wa := @wrap_u64_id a (by omega) (by omega)
      have wb := @wrap_u64_id b (by omega) (by omega)
      have wc := @wrap_u64_id c (by omega) (by omega)
      refine call_fun ((a, b)) rfl (by simp only [vd1, vd2, vd3, vd4, vd5, vd6, vd7, reduceCtorEq, Option.some.injEq, vb_ite, vi_ite, List.getD_cons_zero, List.getD_cons_succ, wa, wb, wc]) ⟨⟨hd2.1, by omega⟩, hd2.2.1, by omega⟩ ?_
      refine br_wp (fun c3 => ?_) (fun c3 => ?_)
      · refine ret_wp ?_
        (simp only [vd1, vd2, vd3, vd4, vd5, vd6, vd7, reduceCtorEq, Option.some.injEq, vb_ite, vi_ite, List.getD_cons_zero, List.getD_cons_succ, wa, wb, wc] at *; grind [dvO])
      · refine call_fun (((mlH a b), (mlL a b), c)) rfl (by simp only [vd1, vd2, vd3, vd4, vd5, vd6, vd7, reduceCtorEq, Option.some.injEq, vb_ite, vi_ite, List.getD_cons_zero, List.getD_cons_succ, wa, wb, wc]) (by refine ⟨hh, ⟨?_, ?_⟩, ?_, ?_⟩ <;> simp only [hl] <;> omega) ?_
        refine ret_wp ?_
        (simp only [vd1, vd2, vd3, vd4, vd5, vd6, vd7, reduceCtorEq, Option.some.injEq, vb_ite, vi_ite, List.getD_cons_zero, List.getD_cons_succ, wa, wb, wc] at *; grind [dvO])
theorem dv_le {a b c : Int} (h : dvO a b c) (hm : ml a b < 9223372036854775808) : 0 ≤ dv (ml a b) c ∧ dv (ml a b) c ≤ 9223372036854775807 := by
  have := dv_ok (ml a b) c (Int.mul_nonneg h.1 h.2.1) (by have := h.2.2; omega)
  omega
theorem cdv_le {a b c : Int} (h : dvO a b c) (hm : ml a b < 9223372036854775808) : 0 ≤ cdv (ml a b) c ∧ cdv (ml a b) c ≤ 9223372036854775807 := by
  have h0 : 0 ≤ ml a b := Int.mul_nonneg h.1 h.2.1
  have hc : 0 < c := h.2.2
  have h1 := dv_le h hm
  refine ⟨by unfold cdv; split <;> omega, ?_⟩
  unfold cdv
  split
  · rename_i hp
    unfold md at hp
    have e := Int.emod_add_mul_ediv (ml a b) c
    have e2 : 1 ≤ c * (ml a b / c) → True := fun _ => trivial
    have h2 : dv (ml a b) c < ml a b ∨ ml a b = 0 := by
      by_cases h3 : c = 1
      · subst h3; simp at hp
      · unfold dv
        by_cases h4 : ml a b = 0
        · exact Or.inr h4
        · left; exact Int.ediv_lt_self_of_pos_of_ne_one (by omega) h3
    rcases h2 with h2 | h2
    · omega
    · rw [h2] at hp; simp at hp
  · omega
theorem shr_small (a : Int) (h : 0 ≤ a) (h2 : a ≤ 9223372036854775807) : a.fdiv (2 ^ (min (Int.toNat 63) IntKind.u64.bits)) = 0 ∧ IntKind.i64.wrap a = a ∧ IntKind.u64.wrap a = a := by
  have e : (2 : Int) ^ (min (Int.toNat 63) IntKind.u64.bits) = 9223372036854775808 := by decide
  rw [e, Int.fdiv_eq_ediv_of_nonneg _ (by omega)]
  exact ⟨by omega, wrap_id a (by omega) h2, wrap_u64_id h (by omega)⟩
def kWhole (sg : Sig) : Sig × Con := (sg, mkFun (fun x : Int × Int × Int => ([aI x.1, aI x.2.1, aI x.2.2] : List Atom)) (fun x => (in64 x.1 ∧ in64 x.2.1 ∧ in64 x.2.2) ∧ (dvO x.1 x.2.1 x.2.2 → ml x.1 x.2.1 < 9223372036854775808)) (fun x => [aI (if dvO x.1 x.2.1 x.2.2 then cdv (ml x.1 x.2.1) x.2.2 else 0), aB (decide (dvO x.1 x.2.1 x.2.2))]))
set_option maxHeartbeats 4000000 in
theorem h67 : holds Try.prog (kWhole sg67) := by
  refine fn_holdsI (l := [kDivided sg75, kTold0 sg77]) ⟨h75, h77, trivial⟩ (inl := [in67_76]) (by refine ⟨⟨Try.func76, by kernel_rfl, by kernel_rfl, by kernel_rfl⟩, trivial⟩) hP rs67 (inj_of (fun l : List Atom => ((vi (l.getD 0 atom0).1, vi (l.getD 1 atom0).1, vi (l.getD 2 atom0).1) : Int × Int × Int)) (fun _ => rfl)) Try.func67 (by kernel_rfl) (c := code Try.f67) (by kernel_rfl) (an := an67) (by kernel_rfl) (pk := pk67) rfl (t := t67) (by kernel_rfl) ?_
  rintro ⟨a, b, c⟩ ⟨⟨⟨u1, u2⟩, ⟨u3, u4⟩, u5, u6⟩, hm⟩
  refine ⟨by simp [pk67, KindsOk, encPS, encPSn, encPSnc, encPSA, encPn, encSS, encI, Pol.enc, Stt.enc, Ac.enc, Sl.atom, Sl.nil, Stt.zero, RK.ok], ?_⟩
  unfold t67
  simp only at u1 u2 u3 u4 u5 u6 hm
  have hf := fun hd => cdv_le hd (hm hd)
  have hg := fun hd => dv_le hd (hm hd)
  have ws := shr_small
  refine call_fun ((a, b, c)) rfl (by simp only [vd1, vd2, vd3, vd4, vd5, vd6, vd7, reduceCtorEq, Option.some.injEq, vb_ite, vi_ite, List.getD_cons_zero, List.getD_cons_succ]) ⟨⟨⟨u1, u2⟩, ⟨u3, u4⟩, u5, u6⟩, hm⟩ ?_
  refine br_wp (fun c1 => ?_) (fun c1 => ?_)
  · refine br_wp (fun c2 => ?_) (fun c2 => ?_)
    · refine br_wp (fun c3 => ?_) (fun c3 => ?_)
      · refine call_fun (((IntKind.i64.wrap ((IntKind.u64.wrap ((if dvO a b c then dv (ml a b) c else 0) + 1)))), ((arD .shr .u64 (IntKind.u64.wrap ((if dvO a b c then dv (ml a b) c else 0) + 1)) 63) == 0))) rfl (by simp only [vd1, vd2, vd3, vd4, vd5, vd6, vd7, reduceCtorEq, Option.some.injEq, vb_ite, vi_ite, List.getD_cons_zero, List.getD_cons_succ]) trivial ?_
        refine ret_wp ?_
        (simp only [vd1, vd2, vd3, vd4, vd5, vd6, vd7, reduceCtorEq, Option.some.injEq, vb_ite, vi_ite, List.getD_cons_zero, List.getD_cons_succ] at *; by_cases hd : dvO a b c <;> simp only [hd, if_true, if_false, decide_true, decide_false] at * <;> grind [cdv])
      · refine call_fun (((IntKind.i64.wrap ((IntKind.u64.wrap ((if dvO a b c then dv (ml a b) c else 0) + 1)))), false)) rfl (by simp only [vd1, vd2, vd3, vd4, vd5, vd6, vd7, reduceCtorEq, Option.some.injEq, vb_ite, vi_ite, List.getD_cons_zero, List.getD_cons_succ]) trivial ?_
        refine ret_wp ?_
        (simp only [vd1, vd2, vd3, vd4, vd5, vd6, vd7, reduceCtorEq, Option.some.injEq, vb_ite, vi_ite, List.getD_cons_zero, List.getD_cons_succ] at *; by_cases hd : dvO a b c <;> simp only [hd, if_true, if_false, decide_true, decide_false] at * <;> grind [cdv])
    · refine call_fun (((IntKind.i64.wrap ((IntKind.u64.wrap ((if dvO a b c then dv (ml a b) c else 0) + 1)))), false)) rfl (by simp only [vd1, vd2, vd3, vd4, vd5, vd6, vd7, reduceCtorEq, Option.some.injEq, vb_ite, vi_ite, List.getD_cons_zero, List.getD_cons_succ]) trivial ?_
      refine ret_wp ?_
      (simp only [vd1, vd2, vd3, vd4, vd5, vd6, vd7, reduceCtorEq, Option.some.injEq, vb_ite, vi_ite, List.getD_cons_zero, List.getD_cons_succ] at *; by_cases hd : dvO a b c <;> simp only [hd, if_true, if_false, decide_true, decide_false] at * <;> grind [cdv])
  · refine br_wp (fun c4 => ?_) (fun c4 => ?_)
    · refine br_wp (fun c5 => ?_) (fun c5 => ?_)
      · refine call_fun (((IntKind.i64.wrap ((if dvO a b c then dv (ml a b) c else 0))), ((arD .shr .u64 (if dvO a b c then dv (ml a b) c else 0) 63) == 0))) rfl (by simp only [vd1, vd2, vd3, vd4, vd5, vd6, vd7, reduceCtorEq, Option.some.injEq, vb_ite, vi_ite, List.getD_cons_zero, List.getD_cons_succ]) trivial ?_
        refine ret_wp ?_
        (simp only [vd1, vd2, vd3, vd4, vd5, vd6, vd7, reduceCtorEq, Option.some.injEq, vb_ite, vi_ite, List.getD_cons_zero, List.getD_cons_succ] at *; by_cases hd : dvO a b c <;> simp only [hd, if_true, if_false, decide_true, decide_false] at * <;> grind [cdv])
      · refine call_fun (((IntKind.i64.wrap ((if dvO a b c then dv (ml a b) c else 0))), false)) rfl (by simp only [vd1, vd2, vd3, vd4, vd5, vd6, vd7, reduceCtorEq, Option.some.injEq, vb_ite, vi_ite, List.getD_cons_zero, List.getD_cons_succ]) trivial ?_
        refine ret_wp ?_
        (simp only [vd1, vd2, vd3, vd4, vd5, vd6, vd7, reduceCtorEq, Option.some.injEq, vb_ite, vi_ite, List.getD_cons_zero, List.getD_cons_succ] at *; by_cases hd : dvO a b c <;> simp only [hd, if_true, if_false, decide_true, decide_false] at * <;> grind [cdv])
    · refine call_fun (((IntKind.i64.wrap ((if dvO a b c then dv (ml a b) c else 0))), false)) rfl (by simp only [vd1, vd2, vd3, vd4, vd5, vd6, vd7, reduceCtorEq, Option.some.injEq, vb_ite, vi_ite, List.getD_cons_zero, List.getD_cons_succ]) trivial ?_
      refine ret_wp ?_
      (simp only [vd1, vd2, vd3, vd4, vd5, vd6, vd7, reduceCtorEq, Option.some.injEq, vb_ite, vi_ite, List.getD_cons_zero, List.getD_cons_succ] at *; by_cases hd : dvO a b c <;> simp only [hd, if_true, if_false, decide_true, decide_false] at * <;> grind [cdv])
end Go.Proofs.YtjmenmnjkfnhgaaK
