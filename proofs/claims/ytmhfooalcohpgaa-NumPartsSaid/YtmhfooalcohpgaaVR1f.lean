import Derived.Test.YtmhfooalcohpgaaVR1n
set_option linter.unusedSimpArgs false
set_option linter.unusedVariables false
namespace Go.Proofs.YtmhfooalcohpgaaK
open Go Go.Proofs.YtmhfooalcohpgaaV Go.Proofs
theorem ml_comm (a b : Int) : ml a b = ml b a := Int.mul_comm a b
theorem mulO_comm (a b : Int) : mulO a b = mulO b a := by unfold mulO; rw [ml_comm]
theorem mulV_comm (a b : Int) : mulV a b = mulV b a := by unfold mulV; simp only [mulO_comm a b, ml_comm a b]
theorem mul_fact {a b c : Int} (h : ml a b = c) (h1 : -9223372036854775808 ≤ c) (h2 : c ≤ 9223372036854775807) : mulO a b ∧ mulV a b = c := by
  have h0 : mulO a b := by unfold mulO; omega
  exact ⟨h0, by unfold mulV; rw [if_pos h0]; exact h⟩
theorem sub_fact (a : Int) : in64 (a - a) ∧ okv (a - a) = 0 := by
  have h : in64 (a - a) := by unfold in64; omega
  exact ⟨h, by unfold okv; rw [if_pos h]; omega⟩
theorem sign_fact (a b : Int) : (a < 0 ∧ b < 0 ∧ 0 < ml a b) ∨ (0 < a ∧ 0 < b ∧ 0 < ml a b) ∨ (a < 0 ∧ 0 < b ∧ ml a b < 0) ∨ (0 < a ∧ b < 0 ∧ ml a b < 0) ∨ ((a = 0 ∨ b = 0) ∧ ml a b = 0) := by
  unfold ml
  rcases Int.lt_trichotomy a 0 with ha | ha | ha <;> rcases Int.lt_trichotomy b 0 with hb | hb | hb
  · exact Or.inl ⟨ha, hb, Int.mul_pos_of_neg_of_neg ha hb⟩
  · simp [hb]
  · exact Or.inr (Or.inr (Or.inl ⟨ha, hb, Int.mul_neg_of_neg_of_pos ha hb⟩))
  · simp [ha]
  · simp [ha]
  · simp [ha]
  · exact Or.inr (Or.inr (Or.inr (Or.inl ⟨ha, hb, Int.mul_neg_of_pos_of_neg ha hb⟩)))
  · simp [hb]
  · exact Or.inr (Or.inl ⟨ha, hb, Int.mul_pos ha hb⟩)
theorem mulV_cases (a b : Int) : (mulO a b ∧ mulV a b = ml a b) ∨ (¬mulO a b ∧ mulV a b = 0) := by
  unfold mulV; by_cases h : mulO a b
  · exact Or.inl ⟨h, by rw [if_pos h]⟩
  · exact Or.inr ⟨h, by rw [if_neg h]⟩
theorem okv_in (n : Int) : (in64 n ∧ okv n = n) ∨ (¬in64 n ∧ okv n = 0) := by
  unfold okv; by_cases h : in64 n
  · exact Or.inl ⟨h, by rw [if_pos h]⟩
  · exact Or.inr ⟨h, by rw [if_neg h]⟩
theorem okv_bd (n : Int) : -9223372036854775808 ≤ okv n ∧ okv n ≤ 9223372036854775807 := by
  rcases okv_in n with ⟨h, e⟩ | ⟨h, e⟩ <;> rw [e]
  · exact h
  · omega
theorem prod_bd {a d A D : Int} (h1 : 0 ≤ a) (h2 : a ≤ A) (h3 : 0 ≤ d) (h4 : d ≤ D) (h5 : A * D < 9223372036854775808) : 0 ≤ ml a d ∧ ml a d < 9223372036854775808 ∧ ml a d ≤ A * D := by
  have := Int.mul_le_mul h2 h4 h3 (by omega)
  exact ⟨Int.mul_nonneg h1 h3, by unfold ml; omega, this⟩
theorem dv_spec {m k : Int} (hm : 0 ≤ m) (hk : 1 ≤ k) : m = ml (dv m k) k + md m k ∧ 0 ≤ md m k ∧ md m k < k ∧ 0 ≤ dv m k ∧ dv m k ≤ m := by
  have e := Int.emod_add_mul_ediv m k
  refine ⟨?_, Int.emod_nonneg m (by omega), Int.emod_lt_of_pos m (by omega), (dv_ok m k hm hk).1, (dv_ok m k hm hk).2⟩
  unfold ml dv md
  rw [Int.mul_comm]; omega
theorem ml_add1 (x k : Int) : ml (x + 1) k = ml x k + k := by unfold ml; rw [Int.add_mul, Int.one_mul]
theorem cdv_spec {m k : Int} (hm : 0 ≤ m) (hk : 1 ≤ k) : m ≤ ml (cdv m k) k ∧ ml (cdv m k) k < m + k ∧ ml (cdv m k) k - ml (dv m k) k ≤ k ∧ dv m k ≤ cdv m k ∧ cdv m k ≤ dv m k + 1 := by
  obtain ⟨h1, h2, h3, h4, h5⟩ := dv_spec hm hk
  unfold cdv
  split
  · rw [ml_add1]; omega
  · rw [Int.add_zero]; omega
theorem cdv_anti {m k l : Int} (hm : 0 ≤ m) (hk : 1 ≤ k) (hl : k ≤ l) : cdv m l ≤ cdv m k := by
  obtain ⟨a1, a2, _, a4, _⟩ := cdv_spec hm hk
  obtain ⟨b1, b2, _, _, _⟩ := cdv_spec hm (show 1 ≤ l by omega)
  have h0 := (dv_spec hm hk).2.2.2.1
  by_cases h : cdv m l ≤ cdv m k
  · exact h
  · exfalso
    have h1 : cdv m k * k ≤ cdv m k * l := Int.mul_le_mul_of_nonneg_left hl (by omega)
    have h2 : (cdv m k + 1) * l ≤ cdv m l * l := Int.mul_le_mul_of_nonneg_right (by omega) (by omega)
    rw [Int.add_mul, Int.one_mul] at h2
    unfold ml at a1 b2
    omega
theorem dv_le2 {m n k : Int} (h : m ≤ n) (hk : 1 ≤ k) : dv m k ≤ dv n k := Int.ediv_le_ediv (by omega) h
theorem clamp_mm (n : Int) : clamp n = max 0 (min n 9007199254740992) := by unfold clamp; split <;> (try split) <;> omega
theorem later_mm (t d : Int) : later t d = max 0 (min (max 0 (min t 9007199254740992) + max 0 (min d 9007199254740992)) 9007199254740992) := by unfold later; rw [clamp_mm, clamp_mm t, clamp_mm d]
theorem clamp_clamp (n : Int) : clamp (clamp n) = clamp n := by simp only [clamp_mm]; omega
theorem later_ge (t d : Int) : clamp t ≤ later t d ∧ later t d ≤ 9007199254740992 := by simp only [clamp_mm, later_mm]; omega
theorem later_zero (t : Int) : later t 0 = clamp t := by simp only [clamp_mm, later_mm]; omega
theorem later_two (t d e : Int) (h : 0 ≤ d) (h2 : 0 ≤ e) : later (later t d) e = later t (d + e) := by simp only [later_mm]; omega
theorem later_clamp (t d : Int) : later (clamp t) d = later t d := by unfold later; rw [clamp_clamp]
theorem later_mono (t u d : Int) (h : t ≤ u) : later t d ≤ later u d := by simp only [later_mm]; omega
def kClampR (sg : Sig) : Sig × Con := (sg, mkFun (fun x : Int => ([aI x] : List Atom)) (fun _ => True) (fun n => [aI (clamp n)]))
set_option maxHeartbeats 4000000 in
theorem h18 : holds Try.prog (kClampR sg18) := by
  refine fn_holds (l := []) trivial hP rs18 (inj_of (fun l : List Atom => (vi (l.getD 0 atom0).1 : Int)) (fun _ => rfl)) Try.func18 (by kernel_rfl) (c := code Try.f18) (by kernel_rfl) (an := an18) (by kernel_rfl) (pk := pk18) rfl (t := t18) (by kernel_rfl) ?_
  rintro n hpre
  refine ⟨by simp [pk18, KindsOk, encPS, encPSn, encPSnc, encPSA, encPn, encSS, encI, Pol.enc, Stt.enc, Ac.enc, Sl.atom, Sl.nil, Stt.zero, RK.ok], ?_⟩
  unfold t18
  refine br_wp (fun c1 => ?_) (fun c1 => ?_)
  · refine ret_wp ?_
    (simp only [vd1, vd2, vd3, vd4, vd5, vd6, vd7, reduceCtorEq, Option.some.injEq, vb_ite, vi_ite, List.getD_cons_zero, List.getD_cons_succ] at *; unfold clamp; grind)
  · refine br_wp (fun c2 => ?_) (fun c2 => ?_)
    · refine ret_wp ?_
      (simp only [vd1, vd2, vd3, vd4, vd5, vd6, vd7, reduceCtorEq, Option.some.injEq, vb_ite, vi_ite, List.getD_cons_zero, List.getD_cons_succ] at *; unfold clamp; grind)
    · refine ret_wp ?_
      (simp only [vd1, vd2, vd3, vd4, vd5, vd6, vd7, reduceCtorEq, Option.some.injEq, vb_ite, vi_ite, List.getD_cons_zero, List.getD_cons_succ] at *; unfold clamp; grind)
def kLaterR (sg : Sig) : Sig × Con := (sg, mkFun (fun x : Int × Int => ([aI x.1, aI x.2] : List Atom)) (fun _ => True) (fun x => [aI (later x.1 x.2)]))
set_option maxHeartbeats 4000000 in
theorem h20 : holds Try.prog (kLaterR sg20) := by
  refine fn_holds (l := [kClampR sg18]) ⟨h18, trivial⟩ hP rs20 (inj_of (fun l : List Atom => ((vi (l.getD 0 atom0).1, vi (l.getD 1 atom0).1) : Int × Int)) (fun _ => rfl)) Try.func20 (by kernel_rfl) (c := code Try.f20) (by kernel_rfl) (an := an20) (by kernel_rfl) (pk := pk20) rfl (t := t20) (by kernel_rfl) ?_
  rintro ⟨t, d⟩ hpre
  refine ⟨by simp [pk20, KindsOk, encPS, encPSn, encPSnc, encPSA, encPn, encSS, encI, Pol.enc, Stt.enc, Ac.enc, Sl.atom, Sl.nil, Stt.zero, RK.ok], ?_⟩
  unfold t20
  have h1 := clamp_bd t
  have h2 := clamp_bd d
  have hw : IntKind.i64.wrap (clamp t + clamp d) = clamp t + clamp d := wrap_id _ (by omega) (by omega)
  refine call_fun (t) rfl (by simp only [vd1, vd2, vd3, vd4, vd5, vd6, vd7, reduceCtorEq, Option.some.injEq, vb_ite, vi_ite, List.getD_cons_zero, List.getD_cons_succ, hw]) trivial ?_
  refine call_fun (d) rfl (by simp only [vd1, vd2, vd3, vd4, vd5, vd6, vd7, reduceCtorEq, Option.some.injEq, vb_ite, vi_ite, List.getD_cons_zero, List.getD_cons_succ, hw]) trivial ?_
  refine call_fun ((clamp t + clamp d)) rfl (by simp only [vd1, vd2, vd3, vd4, vd5, vd6, vd7, reduceCtorEq, Option.some.injEq, vb_ite, vi_ite, List.getD_cons_zero, List.getD_cons_succ, hw]) trivial ?_
  refine ret_wp ?_
  (simp only [vd1, vd2, vd3, vd4, vd5, vd6, vd7, reduceCtorEq, Option.some.injEq, vb_ite, vi_ite, List.getD_cons_zero, List.getD_cons_succ, hw] at *; rfl)
def kKnown (sg : Sig) : Sig × Con := (sg, mkFun (fun _ : Unit => ([] : List Atom)) (fun _ => True) (fun _ => [aB true]))
set_option maxHeartbeats 4000000 in
theorem h14 : holds Try.prog (kKnown sg14) := by
  refine fn_holds (l := [kMul sg12, kPart sg11, kWhole sg13, kClamp sg17]) ⟨h12, h11, h13, h17, trivial⟩ hP rs14 (inj_of (fun l : List Atom => (() : Unit)) (fun _ => rfl)) Try.func14 (by kernel_rfl) (c := code Try.f14) (by kernel_rfl) (an := an14) (by kernel_rfl) (pk := pk14) rfl (t := t14) (by kernel_rfl) ?_
  rintro _ hpre
  refine ⟨by simp [pk14, KindsOk, encPS, encPSn, encPSnc, encPSA, encPn, encSS, encI, Pol.enc, Stt.enc, Ac.enc, Sl.atom, Sl.nil, Stt.zero, RK.ok], ?_⟩
  unfold t14
  refine call_fun ((4294967296, 2147483648)) rfl (by simp only [vd1, vd2, vd3, vd4, vd5, vd6, vd7, reduceCtorEq, Option.some.injEq, vb_ite, vi_ite, List.getD_cons_zero, List.getD_cons_succ]) ⟨⟨by decide, by decide⟩, by decide, by decide⟩ ?_
  refine call_fun ((7, 3, 2)) rfl (by simp only [vd1, vd2, vd3, vd4, vd5, vd6, vd7, reduceCtorEq, Option.some.injEq, vb_ite, vi_ite, List.getD_cons_zero, List.getD_cons_succ]) ⟨⟨⟨by decide, by decide⟩, ⟨by decide, by decide⟩, by decide, by decide⟩, fun _ => by decide⟩ ?_
  refine call_fun ((7, 3, 2)) rfl (by simp only [vd1, vd2, vd3, vd4, vd5, vd6, vd7, reduceCtorEq, Option.some.injEq, vb_ite, vi_ite, List.getD_cons_zero, List.getD_cons_succ]) ⟨⟨⟨by decide, by decide⟩, ⟨by decide, by decide⟩, by decide, by decide⟩, fun _ => by decide⟩ ?_
  refine br_wp (fun c1 => ?_) (fun c1 => ?_)
  · refine ret_wp ?_
    (first | rfl | (exfalso; revert c1; decide) | (exfalso; revert c2; decide) | (exfalso; revert c3; decide) | (exfalso; revert c4; decide) | (exfalso; revert c5; decide))
  · refine br_wp (fun c2 => ?_) (fun c2 => ?_)
    · refine br_wp (fun c3 => ?_) (fun c3 => ?_)
      · refine br_wp (fun c4 => ?_) (fun c4 => ?_)
        · refine br_wp (fun c5 => ?_) (fun c5 => ?_)
          · refine call_fun ((-1)) rfl (by simp only [vd1, vd2, vd3, vd4, vd5, vd6, vd7, reduceCtorEq, Option.some.injEq, vb_ite, vi_ite, List.getD_cons_zero, List.getD_cons_succ]) trivial ?_
            refine ret_wp ?_
            (first | rfl | (exfalso; revert c1; decide) | (exfalso; revert c2; decide) | (exfalso; revert c3; decide) | (exfalso; revert c4; decide) | (exfalso; revert c5; decide))
          · refine ret_wp ?_
            (first | rfl | (exfalso; revert c1; decide) | (exfalso; revert c2; decide) | (exfalso; revert c3; decide) | (exfalso; revert c4; decide) | (exfalso; revert c5; decide))
        · refine ret_wp ?_
          (first | rfl | (exfalso; revert c1; decide) | (exfalso; revert c2; decide) | (exfalso; revert c3; decide) | (exfalso; revert c4; decide) | (exfalso; revert c5; decide))
      · refine ret_wp ?_
        (first | rfl | (exfalso; revert c1; decide) | (exfalso; revert c2; decide) | (exfalso; revert c3; decide) | (exfalso; revert c4; decide) | (exfalso; revert c5; decide))
    · refine ret_wp ?_
      (first | rfl | (exfalso; revert c1; decide) | (exfalso; revert c2; decide) | (exfalso; revert c3; decide) | (exfalso; revert c4; decide) | (exfalso; revert c5; decide))
end Go.Proofs.YtmhfooalcohpgaaK
