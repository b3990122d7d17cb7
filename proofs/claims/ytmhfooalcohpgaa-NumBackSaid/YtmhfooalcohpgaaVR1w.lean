import Derived.Test.YtmhfooalcohpgaaVR1y
set_option linter.unusedSimpArgs false
set_option linter.unusedVariables false
namespace Go.Proofs.YtmhfooalcohpgaaK
open Go Go.Proofs.YtmhfooalcohpgaaV Go.Proofs
theorem back_sum {a b : Int} (ha : in64 a) (h : in64 (a + b)) : okv (okv (a + b) - b) = a ∧ in64 (okv (a + b) - b) := by
  have e : okv (a + b) - b = a := by unfold okv; rw [if_pos h]; omega
  rw [e]
  exact ⟨by unfold okv; rw [if_pos ha], ha⟩
theorem back_mul {a b : Int} (h0 : 0 ≤ a) (h1 : a ≤ 9223372036854775807) (hb : 0 < b) (h : mulO a b) : okP (mulV a b) 1 b ∧ dv (ml (mulV a b) 1) b = a ∧ okP a b b ∧ dv (ml a b) b = a := by
  have e : dv (ml a b) b = a := by unfold dv ml; exact Int.mul_ediv_cancel a (by omega)
  have e2 : mulV a b = ml a b := by unfold mulV; rw [if_pos h]
  have e3 : ml (ml a b) 1 = ml a b := Int.mul_one _
  have h2 : 0 ≤ ml a b := Int.mul_nonneg h0 (by omega)
  rw [e2]
  refine ⟨⟨⟨h2, by omega, hb⟩, by rw [e3, e]; exact h1⟩, by rw [e3, e], ⟨⟨h0, by omega, hb⟩, by rw [e]; exact h1⟩, e⟩
theorem back_part {a b c : Int} (h : dvO a b c) : dv (ml a b) c ≤ cdv (ml a b) c ∧ cdv (ml a b) c ≤ dv (ml a b) c + 1 ∧ 0 ≤ dv (ml a b) c := by
  have h0 : 0 ≤ ml a b := Int.mul_nonneg h.1 h.2.1
  have s := cdv_spec h0 (show 1 ≤ c by have := h.2.2; omega)
  have t := dv_spec h0 (show 1 ≤ c by have := h.2.2; omega)
  exact ⟨s.2.2.2.1, s.2.2.2.2, t.2.2.2.1⟩
def kLaw8 (sg : Sig) : Sig × Con := (sg, mkFun (fun x : Int × Int × Int => ([aI x.1, aI x.2.1, aI x.2.2] : List Atom)) (fun x => in64 x.1 ∧ in64 x.2.1 ∧ in64 x.2.2) (fun _ => [aB true]))
set_option maxHeartbeats 4000000 in
theorem h8 : holds Try.prog (kLaw8 sg8) := by
  refine fn_holds (l := [kAdd sg21, kSub sg23, kMul sg12, kPartF sg11, kWholeF sg13, kKnown sg14]) ⟨h21, h23, h12, hf11, hf13, h14, trivial⟩ hP rs8 (inj_of (fun l : List Atom => ((vi (l.getD 0 atom0).1, vi (l.getD 1 atom0).1, vi (l.getD 2 atom0).1) : Int × Int × Int)) (fun _ => rfl)) Try.func8 (by kernel_rfl) (c := code Try.f8) (by kernel_rfl) (an := an8) (by kernel_rfl) (pk := pk8) rfl (t := t8) (by kernel_rfl) ?_
  rintro ⟨a, b, c⟩ ⟨⟨u1, u2⟩, ⟨u3, u4⟩, u5, u6⟩
  refine ⟨by simp [pk8, KindsOk, encPS, encPSn, encPSnc, encPSA, encPn, encSS, encI, Pol.enc, Stt.enc, Ac.enc, Sl.atom, Sl.nil, Stt.zero, RK.ok], ?_⟩
  unfold t8
  simp only at u1 u2 u3 u4 u5 u6
  have f0 := okv_bd (a + b)
  have f1 := okv_in (a + b)
  have f2 := back_sum (a := a) (b := b) ⟨u1, u2⟩
  have f3 := mulV_cases a b
  have f4 := fun h => back_mul (a := a) (b := b) h u2
  have f5 := fun h => back_part (a := a) (b := b) (c := c) h
  have f6 := okv_bd (okv (a + b) - b)
  have f7 : -9223372036854775808 ≤ mulV a b ∧ mulV a b ≤ 9223372036854775807 := by rcases f3 with ⟨h, e⟩ | ⟨h, e⟩ <;> rw [e] <;> (try unfold mulO at h) <;> omega
  have f8 := wrap_id
  refine call_fun ((a, b)) rfl (by simp only [vd1, vd2, vd3, vd4, vd5, vd6, reduceCtorEq, Option.some.injEq, vb_ite, vi_ite, List.getD_cons_zero, List.getD_cons_succ]) (by refine ⟨⟨?_, ?_⟩, ?_, ?_⟩ <;> simp only [] <;> omega) ?_
  refine call_fun (((okv (a + b)), b)) rfl (by simp only [vd1, vd2, vd3, vd4, vd5, vd6, reduceCtorEq, Option.some.injEq, vb_ite, vi_ite, List.getD_cons_zero, List.getD_cons_succ]) (by refine ⟨⟨?_, ?_⟩, ?_, ?_⟩ <;> simp only [] <;> omega) ?_
  refine br_wp (fun c1 => ?_) (fun c1 => ?_)
  · refine br_wp (fun c2 => ?_) (fun c2 => ?_)
    · refine br_wp (fun c3 => ?_) (fun c3 => ?_)
      · refine ret_wp ?_
        (first | rfl | ((simp only [vd1, vd2, vd3, vd4, vd5, vd6, reduceCtorEq, Option.some.injEq, vb_ite, vi_ite, List.getD_cons_zero, List.getD_cons_succ] at *) <;> grind [okP, okW]))
      · refine call_fun ((a, b)) rfl (by simp only [vd1, vd2, vd3, vd4, vd5, vd6, reduceCtorEq, Option.some.injEq, vb_ite, vi_ite, List.getD_cons_zero, List.getD_cons_succ]) (by refine ⟨⟨?_, ?_⟩, ?_, ?_⟩ <;> simp only [] <;> omega) ?_
        refine br_wp (fun c4 => ?_) (fun c4 => ?_)
        · refine br_wp (fun c5 => ?_) (fun c5 => ?_)
          · refine br_wp (fun c6 => ?_) (fun c6 => ?_)
            · refine call_fun (((mulV a b), 1, b)) rfl (by simp only [vd1, vd2, vd3, vd4, vd5, vd6, reduceCtorEq, Option.some.injEq, vb_ite, vi_ite, List.getD_cons_zero, List.getD_cons_succ]) (by refine ⟨⟨?_, ?_⟩, ⟨?_, ?_⟩, ?_, ?_⟩ <;> simp only [] <;> omega) ?_
              refine call_fun ((a, b, b)) rfl (by simp only [vd1, vd2, vd3, vd4, vd5, vd6, reduceCtorEq, Option.some.injEq, vb_ite, vi_ite, List.getD_cons_zero, List.getD_cons_succ]) (by refine ⟨⟨?_, ?_⟩, ⟨?_, ?_⟩, ?_, ?_⟩ <;> simp only [] <;> omega) ?_
              refine br_wp (fun c7 => ?_) (fun c7 => ?_)
              · refine br_wp (fun c8 => ?_) (fun c8 => ?_)
                · refine ret_wp ?_
                  (first | rfl | ((simp only [vd1, vd2, vd3, vd4, vd5, vd6, reduceCtorEq, Option.some.injEq, vb_ite, vi_ite, List.getD_cons_zero, List.getD_cons_succ] at *) <;> grind [okP, okW]))
                · refine br_wp (fun c9 => ?_) (fun c9 => ?_)
                  · refine br_wp (fun c10 => ?_) (fun c10 => ?_)
                    · refine ret_wp ?_
                      (first | rfl | ((simp only [vd1, vd2, vd3, vd4, vd5, vd6, reduceCtorEq, Option.some.injEq, vb_ite, vi_ite, List.getD_cons_zero, List.getD_cons_succ] at *) <;> grind [okP, okW]))
                    · refine call_fun ((a, b, c)) rfl (by simp only [vd1, vd2, vd3, vd4, vd5, vd6, reduceCtorEq, Option.some.injEq, vb_ite, vi_ite, List.getD_cons_zero, List.getD_cons_succ]) (by refine ⟨⟨?_, ?_⟩, ⟨?_, ?_⟩, ?_, ?_⟩ <;> simp only [] <;> omega) ?_
                      refine call_fun ((a, b, c)) rfl (by simp only [vd1, vd2, vd3, vd4, vd5, vd6, reduceCtorEq, Option.some.injEq, vb_ite, vi_ite, List.getD_cons_zero, List.getD_cons_succ]) (by refine ⟨⟨?_, ?_⟩, ⟨?_, ?_⟩, ?_, ?_⟩ <;> simp only [] <;> omega) ?_
                      refine br_wp (fun c11 => ?_) (fun c11 => ?_)
                      · refine br_wp (fun c12 => ?_) (fun c12 => ?_)
                        · refine br_wp (fun c13 => ?_) (fun c13 => ?_)
                          · refine call_fun (()) rfl (by simp only [vd1, vd2, vd3, vd4, vd5, vd6, reduceCtorEq, Option.some.injEq, vb_ite, vi_ite, List.getD_cons_zero, List.getD_cons_succ]) trivial ?_
                            refine ret_wp ?_
                            (first | rfl | ((simp only [vd1, vd2, vd3, vd4, vd5, vd6, reduceCtorEq, Option.some.injEq, vb_ite, vi_ite, List.getD_cons_zero, List.getD_cons_succ] at *) <;> grind [okP, okW]))
                          · refine br_wp (fun c14 => ?_) (fun c14 => ?_)
                            · refine call_fun (()) rfl (by simp only [vd1, vd2, vd3, vd4, vd5, vd6, reduceCtorEq, Option.some.injEq, vb_ite, vi_ite, List.getD_cons_zero, List.getD_cons_succ]) trivial ?_
                              refine ret_wp ?_
                              (first | rfl | ((simp only [vd1, vd2, vd3, vd4, vd5, vd6, reduceCtorEq, Option.some.injEq, vb_ite, vi_ite, List.getD_cons_zero, List.getD_cons_succ] at *) <;> grind [okP, okW]))
                            · refine ret_wp ?_
                              (first | rfl | ((simp only [vd1, vd2, vd3, vd4, vd5, vd6, reduceCtorEq, Option.some.injEq, vb_ite, vi_ite, List.getD_cons_zero, List.getD_cons_succ] at *) <;> grind [okP, okW]))
                        · refine ret_wp ?_
                          (first | rfl | ((simp only [vd1, vd2, vd3, vd4, vd5, vd6, reduceCtorEq, Option.some.injEq, vb_ite, vi_ite, List.getD_cons_zero, List.getD_cons_succ] at *) <;> grind [okP, okW]))
                      · refine br_wp (fun c15 => ?_) (fun c15 => ?_)
                        · refine br_wp (fun c16 => ?_) (fun c16 => ?_)
                          · refine call_fun (()) rfl (by simp only [vd1, vd2, vd3, vd4, vd5, vd6, reduceCtorEq, Option.some.injEq, vb_ite, vi_ite, List.getD_cons_zero, List.getD_cons_succ]) trivial ?_
                            refine ret_wp ?_
                            (first | rfl | ((simp only [vd1, vd2, vd3, vd4, vd5, vd6, reduceCtorEq, Option.some.injEq, vb_ite, vi_ite, List.getD_cons_zero, List.getD_cons_succ] at *) <;> grind [okP, okW]))
                          · refine ret_wp ?_
                            (first | rfl | ((simp only [vd1, vd2, vd3, vd4, vd5, vd6, reduceCtorEq, Option.some.injEq, vb_ite, vi_ite, List.getD_cons_zero, List.getD_cons_succ] at *) <;> grind [okP, okW]))
                        · refine call_fun (()) rfl (by simp only [vd1, vd2, vd3, vd4, vd5, vd6, reduceCtorEq, Option.some.injEq, vb_ite, vi_ite, List.getD_cons_zero, List.getD_cons_succ]) trivial ?_
                          refine ret_wp ?_
                          (first | rfl | ((simp only [vd1, vd2, vd3, vd4, vd5, vd6, reduceCtorEq, Option.some.injEq, vb_ite, vi_ite, List.getD_cons_zero, List.getD_cons_succ] at *) <;> grind [okP, okW]))
                  · refine ret_wp ?_
                    (first | rfl | ((simp only [vd1, vd2, vd3, vd4, vd5, vd6, reduceCtorEq, Option.some.injEq, vb_ite, vi_ite, List.getD_cons_zero, List.getD_cons_succ] at *) <;> grind [okP, okW]))
              · refine ret_wp ?_
                (first | rfl | ((simp only [vd1, vd2, vd3, vd4, vd5, vd6, reduceCtorEq, Option.some.injEq, vb_ite, vi_ite, List.getD_cons_zero, List.getD_cons_succ] at *) <;> grind [okP, okW]))
            · refine call_fun ((a, b, c)) rfl (by simp only [vd1, vd2, vd3, vd4, vd5, vd6, reduceCtorEq, Option.some.injEq, vb_ite, vi_ite, List.getD_cons_zero, List.getD_cons_succ]) (by refine ⟨⟨?_, ?_⟩, ⟨?_, ?_⟩, ?_, ?_⟩ <;> simp only [] <;> omega) ?_
              refine call_fun ((a, b, c)) rfl (by simp only [vd1, vd2, vd3, vd4, vd5, vd6, reduceCtorEq, Option.some.injEq, vb_ite, vi_ite, List.getD_cons_zero, List.getD_cons_succ]) (by refine ⟨⟨?_, ?_⟩, ⟨?_, ?_⟩, ?_, ?_⟩ <;> simp only [] <;> omega) ?_
              refine br_wp (fun c17 => ?_) (fun c17 => ?_)
              · refine br_wp (fun c18 => ?_) (fun c18 => ?_)
                · refine br_wp (fun c19 => ?_) (fun c19 => ?_)
                  · refine call_fun (()) rfl (by simp only [vd1, vd2, vd3, vd4, vd5, vd6, reduceCtorEq, Option.some.injEq, vb_ite, vi_ite, List.getD_cons_zero, List.getD_cons_succ]) trivial ?_
                    refine ret_wp ?_
                    (first | rfl | ((simp only [vd1, vd2, vd3, vd4, vd5, vd6, reduceCtorEq, Option.some.injEq, vb_ite, vi_ite, List.getD_cons_zero, List.getD_cons_succ] at *) <;> grind [okP, okW]))
                  · refine br_wp (fun c20 => ?_) (fun c20 => ?_)
                    · refine call_fun (()) rfl (by simp only [vd1, vd2, vd3, vd4, vd5, vd6, reduceCtorEq, Option.some.injEq, vb_ite, vi_ite, List.getD_cons_zero, List.getD_cons_succ]) trivial ?_
                      refine ret_wp ?_
                      (first | rfl | ((simp only [vd1, vd2, vd3, vd4, vd5, vd6, reduceCtorEq, Option.some.injEq, vb_ite, vi_ite, List.getD_cons_zero, List.getD_cons_succ] at *) <;> grind [okP, okW]))
                    · refine ret_wp ?_
                      (first | rfl | ((simp only [vd1, vd2, vd3, vd4, vd5, vd6, reduceCtorEq, Option.some.injEq, vb_ite, vi_ite, List.getD_cons_zero, List.getD_cons_succ] at *) <;> grind [okP, okW]))
                · refine ret_wp ?_
                  (first | rfl | ((simp only [vd1, vd2, vd3, vd4, vd5, vd6, reduceCtorEq, Option.some.injEq, vb_ite, vi_ite, List.getD_cons_zero, List.getD_cons_succ] at *) <;> grind [okP, okW]))
              · refine br_wp (fun c21 => ?_) (fun c21 => ?_)
                · refine br_wp (fun c22 => ?_) (fun c22 => ?_)
                  · refine call_fun (()) rfl (by simp only [vd1, vd2, vd3, vd4, vd5, vd6, reduceCtorEq, Option.some.injEq, vb_ite, vi_ite, List.getD_cons_zero, List.getD_cons_succ]) trivial ?_
                    refine ret_wp ?_
                    (first | rfl | ((simp only [vd1, vd2, vd3, vd4, vd5, vd6, reduceCtorEq, Option.some.injEq, vb_ite, vi_ite, List.getD_cons_zero, List.getD_cons_succ] at *) <;> grind [okP, okW]))
                  · refine ret_wp ?_
                    (first | rfl | ((simp only [vd1, vd2, vd3, vd4, vd5, vd6, reduceCtorEq, Option.some.injEq, vb_ite, vi_ite, List.getD_cons_zero, List.getD_cons_succ] at *) <;> grind [okP, okW]))
                · refine call_fun (()) rfl (by simp only [vd1, vd2, vd3, vd4, vd5, vd6, reduceCtorEq, Option.some.injEq, vb_ite, vi_ite, List.getD_cons_zero, List.getD_cons_succ]) trivial ?_
                  refine ret_wp ?_
                  (first | rfl | ((simp only [vd1, vd2, vd3, vd4, vd5, vd6, reduceCtorEq, Option.some.injEq, vb_ite, vi_ite, List.getD_cons_zero, List.getD_cons_succ] at *) <;> grind [okP, okW]))
          · refine call_fun ((a, b, c)) rfl (by simp only [vd1, vd2, vd3, vd4, vd5, vd6, reduceCtorEq, Option.some.injEq, vb_ite, vi_ite, List.getD_cons_zero, List.getD_cons_succ]) (by refine ⟨⟨?_, ?_⟩, ⟨?_, ?_⟩, ?_, ?_⟩ <;> simp only [] <;> omega) ?_
            refine call_fun ((a, b, c)) rfl (by simp only [vd1, vd2, vd3, vd4, vd5, vd6, reduceCtorEq, Option.some.injEq, vb_ite, vi_ite, List.getD_cons_zero, List.getD_cons_succ]) (by refine ⟨⟨?_, ?_⟩, ⟨?_, ?_⟩, ?_, ?_⟩ <;> simp only [] <;> omega) ?_
            refine br_wp (fun c23 => ?_) (fun c23 => ?_)
            · refine br_wp (fun c24 => ?_) (fun c24 => ?_)
              · refine br_wp (fun c25 => ?_) (fun c25 => ?_)
                · refine call_fun (()) rfl (by simp only [vd1, vd2, vd3, vd4, vd5, vd6, reduceCtorEq, Option.some.injEq, vb_ite, vi_ite, List.getD_cons_zero, List.getD_cons_succ]) trivial ?_
                  refine ret_wp ?_
                  (first | rfl | ((simp only [vd1, vd2, vd3, vd4, vd5, vd6, reduceCtorEq, Option.some.injEq, vb_ite, vi_ite, List.getD_cons_zero, List.getD_cons_succ] at *) <;> grind [okP, okW]))
                · refine br_wp (fun c26 => ?_) (fun c26 => ?_)
                  · refine call_fun (()) rfl (by simp only [vd1, vd2, vd3, vd4, vd5, vd6, reduceCtorEq, Option.some.injEq, vb_ite, vi_ite, List.getD_cons_zero, List.getD_cons_succ]) trivial ?_
                    refine ret_wp ?_
                    (first | rfl | ((simp only [vd1, vd2, vd3, vd4, vd5, vd6, reduceCtorEq, Option.some.injEq, vb_ite, vi_ite, List.getD_cons_zero, List.getD_cons_succ] at *) <;> grind [okP, okW]))
                  · refine ret_wp ?_
                    (first | rfl | ((simp only [vd1, vd2, vd3, vd4, vd5, vd6, reduceCtorEq, Option.some.injEq, vb_ite, vi_ite, List.getD_cons_zero, List.getD_cons_succ] at *) <;> grind [okP, okW]))
              · refine ret_wp ?_
                (first | rfl | ((simp only [vd1, vd2, vd3, vd4, vd5, vd6, reduceCtorEq, Option.some.injEq, vb_ite, vi_ite, List.getD_cons_zero, List.getD_cons_succ] at *) <;> grind [okP, okW]))
            · refine br_wp (fun c27 => ?_) (fun c27 => ?_)
              · refine br_wp (fun c28 => ?_) (fun c28 => ?_)
                · refine call_fun (()) rfl (by simp only [vd1, vd2, vd3, vd4, vd5, vd6, reduceCtorEq, Option.some.injEq, vb_ite, vi_ite, List.getD_cons_zero, List.getD_cons_succ]) trivial ?_
                  refine ret_wp ?_
                  (first | rfl | ((simp only [vd1, vd2, vd3, vd4, vd5, vd6, reduceCtorEq, Option.some.injEq, vb_ite, vi_ite, List.getD_cons_zero, List.getD_cons_succ] at *) <;> grind [okP, okW]))
                · refine ret_wp ?_
                  (first | rfl | ((simp only [vd1, vd2, vd3, vd4, vd5, vd6, reduceCtorEq, Option.some.injEq, vb_ite, vi_ite, List.getD_cons_zero, List.getD_cons_succ] at *) <;> grind [okP, okW]))
              · refine call_fun (()) rfl (by simp only [vd1, vd2, vd3, vd4, vd5, vd6, reduceCtorEq, Option.some.injEq, vb_ite, vi_ite, List.getD_cons_zero, List.getD_cons_succ]) trivial ?_
                refine ret_wp ?_
                (first | rfl | ((simp only [vd1, vd2, vd3, vd4, vd5, vd6, reduceCtorEq, Option.some.injEq, vb_ite, vi_ite, List.getD_cons_zero, List.getD_cons_succ] at *) <;> grind [okP, okW]))
        · refine call_fun ((a, b, c)) rfl (by simp only [vd1, vd2, vd3, vd4, vd5, vd6, reduceCtorEq, Option.some.injEq, vb_ite, vi_ite, List.getD_cons_zero, List.getD_cons_succ]) (by refine ⟨⟨?_, ?_⟩, ⟨?_, ?_⟩, ?_, ?_⟩ <;> simp only [] <;> omega) ?_
          refine call_fun ((a, b, c)) rfl (by simp only [vd1, vd2, vd3, vd4, vd5, vd6, reduceCtorEq, Option.some.injEq, vb_ite, vi_ite, List.getD_cons_zero, List.getD_cons_succ]) (by refine ⟨⟨?_, ?_⟩, ⟨?_, ?_⟩, ?_, ?_⟩ <;> simp only [] <;> omega) ?_
          refine br_wp (fun c29 => ?_) (fun c29 => ?_)
          · refine br_wp (fun c30 => ?_) (fun c30 => ?_)
            · refine br_wp (fun c31 => ?_) (fun c31 => ?_)
              · refine call_fun (()) rfl (by simp only [vd1, vd2, vd3, vd4, vd5, vd6, reduceCtorEq, Option.some.injEq, vb_ite, vi_ite, List.getD_cons_zero, List.getD_cons_succ]) trivial ?_
                refine ret_wp ?_
                (first | rfl | ((simp only [vd1, vd2, vd3, vd4, vd5, vd6, reduceCtorEq, Option.some.injEq, vb_ite, vi_ite, List.getD_cons_zero, List.getD_cons_succ] at *) <;> grind [okP, okW]))
              · refine br_wp (fun c32 => ?_) (fun c32 => ?_)
                · refine call_fun (()) rfl (by simp only [vd1, vd2, vd3, vd4, vd5, vd6, reduceCtorEq, Option.some.injEq, vb_ite, vi_ite, List.getD_cons_zero, List.getD_cons_succ]) trivial ?_
                  refine ret_wp ?_
                  (first | rfl | ((simp only [vd1, vd2, vd3, vd4, vd5, vd6, reduceCtorEq, Option.some.injEq, vb_ite, vi_ite, List.getD_cons_zero, List.getD_cons_succ] at *) <;> grind [okP, okW]))
                · refine ret_wp ?_
                  (first | rfl | ((simp only [vd1, vd2, vd3, vd4, vd5, vd6, reduceCtorEq, Option.some.injEq, vb_ite, vi_ite, List.getD_cons_zero, List.getD_cons_succ] at *) <;> grind [okP, okW]))
            · refine ret_wp ?_
              (first | rfl | ((simp only [vd1, vd2, vd3, vd4, vd5, vd6, reduceCtorEq, Option.some.injEq, vb_ite, vi_ite, List.getD_cons_zero, List.getD_cons_succ] at *) <;> grind [okP, okW]))
          · refine br_wp (fun c33 => ?_) (fun c33 => ?_)
            · refine br_wp (fun c34 => ?_) (fun c34 => ?_)
              · refine call_fun (()) rfl (by simp only [vd1, vd2, vd3, vd4, vd5, vd6, reduceCtorEq, Option.some.injEq, vb_ite, vi_ite, List.getD_cons_zero, List.getD_cons_succ]) trivial ?_
                refine ret_wp ?_
                (first | rfl | ((simp only [vd1, vd2, vd3, vd4, vd5, vd6, reduceCtorEq, Option.some.injEq, vb_ite, vi_ite, List.getD_cons_zero, List.getD_cons_succ] at *) <;> grind [okP, okW]))
              · refine ret_wp ?_
                (first | rfl | ((simp only [vd1, vd2, vd3, vd4, vd5, vd6, reduceCtorEq, Option.some.injEq, vb_ite, vi_ite, List.getD_cons_zero, List.getD_cons_succ] at *) <;> grind [okP, okW]))
            · refine call_fun (()) rfl (by simp only [vd1, vd2, vd3, vd4, vd5, vd6, reduceCtorEq, Option.some.injEq, vb_ite, vi_ite, List.getD_cons_zero, List.getD_cons_succ]) trivial ?_
              refine ret_wp ?_
              (first | rfl | ((simp only [vd1, vd2, vd3, vd4, vd5, vd6, reduceCtorEq, Option.some.injEq, vb_ite, vi_ite, List.getD_cons_zero, List.getD_cons_succ] at *) <;> grind [okP, okW]))
    · refine ret_wp ?_
      (first | rfl | ((simp only [vd1, vd2, vd3, vd4, vd5, vd6, reduceCtorEq, Option.some.injEq, vb_ite, vi_ite, List.getD_cons_zero, List.getD_cons_succ] at *) <;> grind [okP, okW]))
  · refine call_fun ((a, b)) rfl (by simp only [vd1, vd2, vd3, vd4, vd5, vd6, reduceCtorEq, Option.some.injEq, vb_ite, vi_ite, List.getD_cons_zero, List.getD_cons_succ]) (by refine ⟨⟨?_, ?_⟩, ?_, ?_⟩ <;> simp only [] <;> omega) ?_
    refine br_wp (fun c35 => ?_) (fun c35 => ?_)
    · refine br_wp (fun c36 => ?_) (fun c36 => ?_)
      · refine br_wp (fun c37 => ?_) (fun c37 => ?_)
        · refine call_fun (((mulV a b), 1, b)) rfl (by simp only [vd1, vd2, vd3, vd4, vd5, vd6, reduceCtorEq, Option.some.injEq, vb_ite, vi_ite, List.getD_cons_zero, List.getD_cons_succ]) (by refine ⟨⟨?_, ?_⟩, ⟨?_, ?_⟩, ?_, ?_⟩ <;> simp only [] <;> omega) ?_
          refine call_fun ((a, b, b)) rfl (by simp only [vd1, vd2, vd3, vd4, vd5, vd6, reduceCtorEq, Option.some.injEq, vb_ite, vi_ite, List.getD_cons_zero, List.getD_cons_succ]) (by refine ⟨⟨?_, ?_⟩, ⟨?_, ?_⟩, ?_, ?_⟩ <;> simp only [] <;> omega) ?_
          refine br_wp (fun c38 => ?_) (fun c38 => ?_)
          · refine br_wp (fun c39 => ?_) (fun c39 => ?_)
            · refine ret_wp ?_
              (first | rfl | ((simp only [vd1, vd2, vd3, vd4, vd5, vd6, reduceCtorEq, Option.some.injEq, vb_ite, vi_ite, List.getD_cons_zero, List.getD_cons_succ] at *) <;> grind [okP, okW]))
            · refine br_wp (fun c40 => ?_) (fun c40 => ?_)
              · refine br_wp (fun c41 => ?_) (fun c41 => ?_)
                · refine ret_wp ?_
                  (first | rfl | ((simp only [vd1, vd2, vd3, vd4, vd5, vd6, reduceCtorEq, Option.some.injEq, vb_ite, vi_ite, List.getD_cons_zero, List.getD_cons_succ] at *) <;> grind [okP, okW]))
                · refine call_fun ((a, b, c)) rfl (by simp only [vd1, vd2, vd3, vd4, vd5, vd6, reduceCtorEq, Option.some.injEq, vb_ite, vi_ite, List.getD_cons_zero, List.getD_cons_succ]) (by refine ⟨⟨?_, ?_⟩, ⟨?_, ?_⟩, ?_, ?_⟩ <;> simp only [] <;> omega) ?_
                  refine call_fun ((a, b, c)) rfl (by simp only [vd1, vd2, vd3, vd4, vd5, vd6, reduceCtorEq, Option.some.injEq, vb_ite, vi_ite, List.getD_cons_zero, List.getD_cons_succ]) (by refine ⟨⟨?_, ?_⟩, ⟨?_, ?_⟩, ?_, ?_⟩ <;> simp only [] <;> omega) ?_
                  refine br_wp (fun c42 => ?_) (fun c42 => ?_)
                  · refine br_wp (fun c43 => ?_) (fun c43 => ?_)
                    · refine br_wp (fun c44 => ?_) (fun c44 => ?_)
                      · refine call_fun (()) rfl (by simp only [vd1, vd2, vd3, vd4, vd5, vd6, reduceCtorEq, Option.some.injEq, vb_ite, vi_ite, List.getD_cons_zero, List.getD_cons_succ]) trivial ?_
                        refine ret_wp ?_
                        (first | rfl | ((simp only [vd1, vd2, vd3, vd4, vd5, vd6, reduceCtorEq, Option.some.injEq, vb_ite, vi_ite, List.getD_cons_zero, List.getD_cons_succ] at *) <;> grind [okP, okW]))
                      · refine br_wp (fun c45 => ?_) (fun c45 => ?_)
                        · refine call_fun (()) rfl (by simp only [vd1, vd2, vd3, vd4, vd5, vd6, reduceCtorEq, Option.some.injEq, vb_ite, vi_ite, List.getD_cons_zero, List.getD_cons_succ]) trivial ?_
                          refine ret_wp ?_
                          (first | rfl | ((simp only [vd1, vd2, vd3, vd4, vd5, vd6, reduceCtorEq, Option.some.injEq, vb_ite, vi_ite, List.getD_cons_zero, List.getD_cons_succ] at *) <;> grind [okP, okW]))
                        · refine ret_wp ?_
                          (first | rfl | ((simp only [vd1, vd2, vd3, vd4, vd5, vd6, reduceCtorEq, Option.some.injEq, vb_ite, vi_ite, List.getD_cons_zero, List.getD_cons_succ] at *) <;> grind [okP, okW]))
                    · refine ret_wp ?_
                      (first | rfl | ((simp only [vd1, vd2, vd3, vd4, vd5, vd6, reduceCtorEq, Option.some.injEq, vb_ite, vi_ite, List.getD_cons_zero, List.getD_cons_succ] at *) <;> grind [okP, okW]))
                  · refine br_wp (fun c46 => ?_) (fun c46 => ?_)
                    · refine br_wp (fun c47 => ?_) (fun c47 => ?_)
                      · refine call_fun (()) rfl (by simp only [vd1, vd2, vd3, vd4, vd5, vd6, reduceCtorEq, Option.some.injEq, vb_ite, vi_ite, List.getD_cons_zero, List.getD_cons_succ]) trivial ?_
                        refine ret_wp ?_
                        (first | rfl | ((simp only [vd1, vd2, vd3, vd4, vd5, vd6, reduceCtorEq, Option.some.injEq, vb_ite, vi_ite, List.getD_cons_zero, List.getD_cons_succ] at *) <;> grind [okP, okW]))
                      · refine ret_wp ?_
                        (first | rfl | ((simp only [vd1, vd2, vd3, vd4, vd5, vd6, reduceCtorEq, Option.some.injEq, vb_ite, vi_ite, List.getD_cons_zero, List.getD_cons_succ] at *) <;> grind [okP, okW]))
                    · refine call_fun (()) rfl (by simp only [vd1, vd2, vd3, vd4, vd5, vd6, reduceCtorEq, Option.some.injEq, vb_ite, vi_ite, List.getD_cons_zero, List.getD_cons_succ]) trivial ?_
                      refine ret_wp ?_
                      (first | rfl | ((simp only [vd1, vd2, vd3, vd4, vd5, vd6, reduceCtorEq, Option.some.injEq, vb_ite, vi_ite, List.getD_cons_zero, List.getD_cons_succ] at *) <;> grind [okP, okW]))
              · refine ret_wp ?_
                (first | rfl | ((simp only [vd1, vd2, vd3, vd4, vd5, vd6, reduceCtorEq, Option.some.injEq, vb_ite, vi_ite, List.getD_cons_zero, List.getD_cons_succ] at *) <;> grind [okP, okW]))
          · refine ret_wp ?_
            (first | rfl | ((simp only [vd1, vd2, vd3, vd4, vd5, vd6, reduceCtorEq, Option.some.injEq, vb_ite, vi_ite, List.getD_cons_zero, List.getD_cons_succ] at *) <;> grind [okP, okW]))
        · refine call_fun ((a, b, c)) rfl (by simp only [vd1, vd2, vd3, vd4, vd5, vd6, reduceCtorEq, Option.some.injEq, vb_ite, vi_ite, List.getD_cons_zero, List.getD_cons_succ]) (by refine ⟨⟨?_, ?_⟩, ⟨?_, ?_⟩, ?_, ?_⟩ <;> simp only [] <;> omega) ?_
          refine call_fun ((a, b, c)) rfl (by simp only [vd1, vd2, vd3, vd4, vd5, vd6, reduceCtorEq, Option.some.injEq, vb_ite, vi_ite, List.getD_cons_zero, List.getD_cons_succ]) (by refine ⟨⟨?_, ?_⟩, ⟨?_, ?_⟩, ?_, ?_⟩ <;> simp only [] <;> omega) ?_
          refine br_wp (fun c48 => ?_) (fun c48 => ?_)
          · refine br_wp (fun c49 => ?_) (fun c49 => ?_)
            · refine br_wp (fun c50 => ?_) (fun c50 => ?_)
              · refine call_fun (()) rfl (by simp only [vd1, vd2, vd3, vd4, vd5, vd6, reduceCtorEq, Option.some.injEq, vb_ite, vi_ite, List.getD_cons_zero, List.getD_cons_succ]) trivial ?_
                refine ret_wp ?_
                (first | rfl | ((simp only [vd1, vd2, vd3, vd4, vd5, vd6, reduceCtorEq, Option.some.injEq, vb_ite, vi_ite, List.getD_cons_zero, List.getD_cons_succ] at *) <;> grind [okP, okW]))
              · refine br_wp (fun c51 => ?_) (fun c51 => ?_)
                · refine call_fun (()) rfl (by simp only [vd1, vd2, vd3, vd4, vd5, vd6, reduceCtorEq, Option.some.injEq, vb_ite, vi_ite, List.getD_cons_zero, List.getD_cons_succ]) trivial ?_
                  refine ret_wp ?_
                  (first | rfl | ((simp only [vd1, vd2, vd3, vd4, vd5, vd6, reduceCtorEq, Option.some.injEq, vb_ite, vi_ite, List.getD_cons_zero, List.getD_cons_succ] at *) <;> grind [okP, okW]))
                · refine ret_wp ?_
                  (first | rfl | ((simp only [vd1, vd2, vd3, vd4, vd5, vd6, reduceCtorEq, Option.some.injEq, vb_ite, vi_ite, List.getD_cons_zero, List.getD_cons_succ] at *) <;> grind [okP, okW]))
            · refine ret_wp ?_
              (first | rfl | ((simp only [vd1, vd2, vd3, vd4, vd5, vd6, reduceCtorEq, Option.some.injEq, vb_ite, vi_ite, List.getD_cons_zero, List.getD_cons_succ] at *) <;> grind [okP, okW]))
          · refine br_wp (fun c52 => ?_) (fun c52 => ?_)
            · refine br_wp (fun c53 => ?_) (fun c53 => ?_)
              · refine call_fun (()) rfl (by simp only [vd1, vd2, vd3, vd4, vd5, vd6, reduceCtorEq, Option.some.injEq, vb_ite, vi_ite, List.getD_cons_zero, List.getD_cons_succ]) trivial ?_
                refine ret_wp ?_
                (first | rfl | ((simp only [vd1, vd2, vd3, vd4, vd5, vd6, reduceCtorEq, Option.some.injEq, vb_ite, vi_ite, List.getD_cons_zero, List.getD_cons_succ] at *) <;> grind [okP, okW]))
              · refine ret_wp ?_
                (first | rfl | ((simp only [vd1, vd2, vd3, vd4, vd5, vd6, reduceCtorEq, Option.some.injEq, vb_ite, vi_ite, List.getD_cons_zero, List.getD_cons_succ] at *) <;> grind [okP, okW]))
            · refine call_fun (()) rfl (by simp only [vd1, vd2, vd3, vd4, vd5, vd6, reduceCtorEq, Option.some.injEq, vb_ite, vi_ite, List.getD_cons_zero, List.getD_cons_succ]) trivial ?_
              refine ret_wp ?_
              (first | rfl | ((simp only [vd1, vd2, vd3, vd4, vd5, vd6, reduceCtorEq, Option.some.injEq, vb_ite, vi_ite, List.getD_cons_zero, List.getD_cons_succ] at *) <;> grind [okP, okW]))
      · refine call_fun ((a, b, c)) rfl (by simp only [vd1, vd2, vd3, vd4, vd5, vd6, reduceCtorEq, Option.some.injEq, vb_ite, vi_ite, List.getD_cons_zero, List.getD_cons_succ]) (by refine ⟨⟨?_, ?_⟩, ⟨?_, ?_⟩, ?_, ?_⟩ <;> simp only [] <;> omega) ?_
        refine call_fun ((a, b, c)) rfl (by simp only [vd1, vd2, vd3, vd4, vd5, vd6, reduceCtorEq, Option.some.injEq, vb_ite, vi_ite, List.getD_cons_zero, List.getD_cons_succ]) (by refine ⟨⟨?_, ?_⟩, ⟨?_, ?_⟩, ?_, ?_⟩ <;> simp only [] <;> omega) ?_
        refine br_wp (fun c54 => ?_) (fun c54 => ?_)
        · refine br_wp (fun c55 => ?_) (fun c55 => ?_)
          · refine br_wp (fun c56 => ?_) (fun c56 => ?_)
            · refine call_fun (()) rfl (by simp only [vd1, vd2, vd3, vd4, vd5, vd6, reduceCtorEq, Option.some.injEq, vb_ite, vi_ite, List.getD_cons_zero, List.getD_cons_succ]) trivial ?_
              refine ret_wp ?_
              (first | rfl | ((simp only [vd1, vd2, vd3, vd4, vd5, vd6, reduceCtorEq, Option.some.injEq, vb_ite, vi_ite, List.getD_cons_zero, List.getD_cons_succ] at *) <;> grind [okP, okW]))
            · refine br_wp (fun c57 => ?_) (fun c57 => ?_)
              · refine call_fun (()) rfl (by simp only [vd1, vd2, vd3, vd4, vd5, vd6, reduceCtorEq, Option.some.injEq, vb_ite, vi_ite, List.getD_cons_zero, List.getD_cons_succ]) trivial ?_
                refine ret_wp ?_
                (first | rfl | ((simp only [vd1, vd2, vd3, vd4, vd5, vd6, reduceCtorEq, Option.some.injEq, vb_ite, vi_ite, List.getD_cons_zero, List.getD_cons_succ] at *) <;> grind [okP, okW]))
              · refine ret_wp ?_
                (first | rfl | ((simp only [vd1, vd2, vd3, vd4, vd5, vd6, reduceCtorEq, Option.some.injEq, vb_ite, vi_ite, List.getD_cons_zero, List.getD_cons_succ] at *) <;> grind [okP, okW]))
          · refine ret_wp ?_
            (first | rfl | ((simp only [vd1, vd2, vd3, vd4, vd5, vd6, reduceCtorEq, Option.some.injEq, vb_ite, vi_ite, List.getD_cons_zero, List.getD_cons_succ] at *) <;> grind [okP, okW]))
        · refine br_wp (fun c58 => ?_) (fun c58 => ?_)
          · refine br_wp (fun c59 => ?_) (fun c59 => ?_)
            · refine call_fun (()) rfl (by simp only [vd1, vd2, vd3, vd4, vd5, vd6, reduceCtorEq, Option.some.injEq, vb_ite, vi_ite, List.getD_cons_zero, List.getD_cons_succ]) trivial ?_
              refine ret_wp ?_
              (first | rfl | ((simp only [vd1, vd2, vd3, vd4, vd5, vd6, reduceCtorEq, Option.some.injEq, vb_ite, vi_ite, List.getD_cons_zero, List.getD_cons_succ] at *) <;> grind [okP, okW]))
            · refine ret_wp ?_
              (first | rfl | ((simp only [vd1, vd2, vd3, vd4, vd5, vd6, reduceCtorEq, Option.some.injEq, vb_ite, vi_ite, List.getD_cons_zero, List.getD_cons_succ] at *) <;> grind [okP, okW]))
          · refine call_fun (()) rfl (by simp only [vd1, vd2, vd3, vd4, vd5, vd6, reduceCtorEq, Option.some.injEq, vb_ite, vi_ite, List.getD_cons_zero, List.getD_cons_succ]) trivial ?_
            refine ret_wp ?_
            (first | rfl | ((simp only [vd1, vd2, vd3, vd4, vd5, vd6, reduceCtorEq, Option.some.injEq, vb_ite, vi_ite, List.getD_cons_zero, List.getD_cons_succ] at *) <;> grind [okP, okW]))
    · refine call_fun ((a, b, c)) rfl (by simp only [vd1, vd2, vd3, vd4, vd5, vd6, reduceCtorEq, Option.some.injEq, vb_ite, vi_ite, List.getD_cons_zero, List.getD_cons_succ]) (by refine ⟨⟨?_, ?_⟩, ⟨?_, ?_⟩, ?_, ?_⟩ <;> simp only [] <;> omega) ?_
      refine call_fun ((a, b, c)) rfl (by simp only [vd1, vd2, vd3, vd4, vd5, vd6, reduceCtorEq, Option.some.injEq, vb_ite, vi_ite, List.getD_cons_zero, List.getD_cons_succ]) (by refine ⟨⟨?_, ?_⟩, ⟨?_, ?_⟩, ?_, ?_⟩ <;> simp only [] <;> omega) ?_
      refine br_wp (fun c60 => ?_) (fun c60 => ?_)
      · refine br_wp (fun c61 => ?_) (fun c61 => ?_)
        · refine br_wp (fun c62 => ?_) (fun c62 => ?_)
          · refine call_fun (()) rfl (by simp only [vd1, vd2, vd3, vd4, vd5, vd6, reduceCtorEq, Option.some.injEq, vb_ite, vi_ite, List.getD_cons_zero, List.getD_cons_succ]) trivial ?_
            refine ret_wp ?_
            (first | rfl | ((simp only [vd1, vd2, vd3, vd4, vd5, vd6, reduceCtorEq, Option.some.injEq, vb_ite, vi_ite, List.getD_cons_zero, List.getD_cons_succ] at *) <;> grind [okP, okW]))
          · refine br_wp (fun c63 => ?_) (fun c63 => ?_)
            · refine call_fun (()) rfl (by simp only [vd1, vd2, vd3, vd4, vd5, vd6, reduceCtorEq, Option.some.injEq, vb_ite, vi_ite, List.getD_cons_zero, List.getD_cons_succ]) trivial ?_
              refine ret_wp ?_
              (first | rfl | ((simp only [vd1, vd2, vd3, vd4, vd5, vd6, reduceCtorEq, Option.some.injEq, vb_ite, vi_ite, List.getD_cons_zero, List.getD_cons_succ] at *) <;> grind [okP, okW]))
            · refine ret_wp ?_
              (first | rfl | ((simp only [vd1, vd2, vd3, vd4, vd5, vd6, reduceCtorEq, Option.some.injEq, vb_ite, vi_ite, List.getD_cons_zero, List.getD_cons_succ] at *) <;> grind [okP, okW]))
        · refine ret_wp ?_
          (first | rfl | ((simp only [vd1, vd2, vd3, vd4, vd5, vd6, reduceCtorEq, Option.some.injEq, vb_ite, vi_ite, List.getD_cons_zero, List.getD_cons_succ] at *) <;> grind [okP, okW]))
      · refine br_wp (fun c64 => ?_) (fun c64 => ?_)
        · refine br_wp (fun c65 => ?_) (fun c65 => ?_)
          · refine call_fun (()) rfl (by simp only [vd1, vd2, vd3, vd4, vd5, vd6, reduceCtorEq, Option.some.injEq, vb_ite, vi_ite, List.getD_cons_zero, List.getD_cons_succ]) trivial ?_
            refine ret_wp ?_
            (first | rfl | ((simp only [vd1, vd2, vd3, vd4, vd5, vd6, reduceCtorEq, Option.some.injEq, vb_ite, vi_ite, List.getD_cons_zero, List.getD_cons_succ] at *) <;> grind [okP, okW]))
          · refine ret_wp ?_
            (first | rfl | ((simp only [vd1, vd2, vd3, vd4, vd5, vd6, reduceCtorEq, Option.some.injEq, vb_ite, vi_ite, List.getD_cons_zero, List.getD_cons_succ] at *) <;> grind [okP, okW]))
        · refine call_fun (()) rfl (by simp only [vd1, vd2, vd3, vd4, vd5, vd6, reduceCtorEq, Option.some.injEq, vb_ite, vi_ite, List.getD_cons_zero, List.getD_cons_succ]) trivial ?_
          refine ret_wp ?_
          (first | rfl | ((simp only [vd1, vd2, vd3, vd4, vd5, vd6, reduceCtorEq, Option.some.injEq, vb_ite, vi_ite, List.getD_cons_zero, List.getD_cons_succ] at *) <;> grind [okP, okW]))
end Go.Proofs.YtmhfooalcohpgaaK
