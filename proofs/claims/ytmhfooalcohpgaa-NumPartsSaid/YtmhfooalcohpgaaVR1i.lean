/- The chapter's own Part: over its digits' contracts. -/
import Derived.Test.YtmhfooalcohpgaaVR1h
import Derived.Test.YtmhfooalcohpgaaVR1y
set_option linter.unusedSimpArgs false
set_option linter.unusedVariables false
set_option maxRecDepth 100000
namespace Go.Proofs.YtmhfooalcohpgaaK
open Go Go.Proofs.YtmhfooalcohpgaaV Go.Proofs
def an15 : Ann := ⟨[], []⟩
def rs15 : List (Nat × RegT) := []
def t15 : T := (.br (.cmp .lss (.at 0) (.int 0)) (.ret [(.int .i64 (.int 0)), (.bool (.bool false))]) (.br (.cmp .lss (.at 1) (.int 0)) (.ret [(.int .i64 (.int 0)), (.bool (.bool false))]) (.br (.cmp .leq (.at 2) (.int 0)) (.ret [(.int .i64 (.int 0)), (.bool (.bool false))]) (.call 0 [(.int .i64 (.at 0))] (.call 0 [(.int .i64 (.at 1))] (.call 1 [(.slc (.at 3)), (.slc (.at 5))] (.call 0 [(.int .i64 (.at 2))] (.call 2 [(.slc (.at 7)), (.slc (.at 8))] (.call 3 [(.slc (.at 10)), (.int .i64 (.int 0))] (.ret [(.int .i64 (.at 12)), (.bool (.at 13))]))))))))))
set_option maxHeartbeats 4000000 in
theorem h15 : holds Try.prog (kPartF sg15) := by
  refine fn_holds (l := [kOfD sg33, kTwo 100 (fun l m r => val r = val l * val m ∧ r.length = l.length + m.length + 1) sg32, kBy sg31, kNumber sg34]) ⟨h33, h32, h31, h34, trivial⟩ hP rs15 (inj_of (fun l : List Atom => ((vi (l.getD 0 atom0).1, vi (l.getD 1 atom0).1, vi (l.getD 2 atom0).1) : Int × Int × Int)) (fun _ => rfl)) Try.func15 (by kernel_rfl) (c := code Try.f15) (by kernel_rfl) (an := an15) (by kernel_rfl) (pk := pk15) rfl (t := t15) (by kernel_rfl) ?_
  rintro ⟨a, b, c⟩ ⟨u1, u2, u3⟩
  refine ⟨by simp [pk15, KindsOk, RK.ok], ?_⟩
  unfold t15
  simp only at u1 u2 u3
  have nok : ¬ dvO a b c → [aI 0, aB false] = [aI (if okP a b c then dv (ml a b) c else 0), aB (decide (okP a b c))] := fun h => by
    have : ¬ okP a b c := fun h2 => h h2.1
    simp [this]
  refine br_wp (fun c1 => ?_) (fun c1 => br_wp (fun c2 => ?_) (fun c2 => br_wp (fun c3 => ?_) (fun c3 => ?_)))
  · exact ret_wp (nok (by have : a < 0 := of_decide_eq_true c1; unfold dvO; omega))
  · exact ret_wp (nok (by have : b < 0 := of_decide_eq_true c2; unfold dvO; omega))
  · exact ret_wp (nok (by have : c ≤ 0 := of_decide_eq_true c3; unfold dvO; omega))
  · have c1 : ¬ a < 0 := of_decide_eq_false c1
    have c2 : ¬ b < 0 := of_decide_eq_false c2
    have c3 : ¬ c ≤ 0 := of_decide_eq_false c3
    refine call_con a rfl rfl u1 ?_
    rintro outs - ⟨s1, l1, g1, rfl, d1, e1, f1⟩
    refine call_con b rfl rfl u2 ?_
    rintro outs - ⟨s2, l2, g2, rfl, d2, e2, f2⟩
    refine call_con (s1, s2) rfl rfl ⟨l1, l2, d1, d2, by omega, by omega⟩ ?_
    rintro outs - hq
    obtain ⟨s3, l3, rfl, d3, e3, f3⟩ := hq l1 l2 d1 d2
    refine call_con c rfl rfl u3 ?_
    rintro outs - ⟨s4, l4, g4, rfl, d4, e4, f4⟩
    have v1 : val l1 = a := by omega
    have v2 : val l2 = b := by omega
    have v4 : val l4 = c := by omega
    refine call_con (s3, s4) rfl rfl ⟨l3, l4, d3, d4, by omega, by omega, by omega, by omega⟩ ?_
    rintro outs - hq
    obtain ⟨s5, s6, q, r, rfl, d5, d6, n5, n6, e5, e6⟩ := hq l3 l4 d3 d4
    refine call_con (s5, 0) rfl rfl ⟨rfl, q, d5, by omega⟩ ?_
    rintro outs - hq
    obtain rfl := hq q d5
    refine ret_wp ?_
    have hr := (val_bd d6.2.2.1).1
    have hd : dv (ml a b) c = val q := by
      rw [v1, v2] at e3
      rw [e3, v4] at e5
      show a * b / c = val q
      rw [e5, Int.add_mul_ediv_left _ _ (by omega), Int.ediv_eq_zero_of_lt hr (by omega)]
      omega
    have ho : okP a b c ↔ val q ≤ 9223372036854775807 := by unfold okP dvO; rw [hd]; omega
    show [aI (if val q ≤ 9223372036854775807 then val q else 0), aB (decide (val q ≤ 9223372036854775807))] = [aI (if okP a b c then dv (ml a b) c else 0), aB (decide (okP a b c))]
    rw [hd]
    simp only [ho]
end Go.Proofs.YtmhfooalcohpgaaK
