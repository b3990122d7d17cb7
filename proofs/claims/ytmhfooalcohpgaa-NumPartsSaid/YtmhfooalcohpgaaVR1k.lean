/- The chapter's own Whole, over its digits' contracts; the law of parts. -/
import Derived.Test.YtmhfooalcohpgaaVR1i
set_option linter.unusedSimpArgs false
set_option linter.unusedVariables false
set_option maxRecDepth 100000
namespace Go.Proofs.YtmhfooalcohpgaaK
open Go Go.Proofs.YtmhfooalcohpgaaV Go.Proofs Go.RowKit Go.Proofs.Ytmhfooalcohpgaa.PNumParts Go.Proofs.YtmhfooalcohpgaaW.PrintWords Go.Proofs.YtmhfooalcohpgaaW.PrintMore
/-- Against no digits at all. -/
def kCmp2 (sg : Sig) : Sig × Con := (sg, mkCon two (fun x => ∃ l, dgs x.1 l ∧ l.length ≤ 500 ∧ x.2 = Sl.nil) (fun x outs => ∀ l, dgs x.1 l → ∃ c : Int, outs = [aI c] ∧ (0 < c ↔ 0 < val l)))
theorem h35n : holds Try.prog (kCmp2 sg35) := by
  refine ⟨⟨Try.f35, Try.func35, by kernel_rfl, by kernel_rfl⟩, ?_⟩
  rintro args mm w hm hg ⟨⟨x, y⟩, rfl, l, h1, h3, h0⟩
  simp only at h1 h0
  subst h0
  have hd0 : dig ([] : List Int) := fun d hd => absurd hd (by simp)
  obtain ⟨c, e, d1, d2⟩ := cmp_is h1.2.2.1 hd0 h3 (Nat.zero_le _) (Nat.le_refl _)
  have g1 := sl_reads hm (hg _ (by simp [two])) h1 (by omega)
  have g2 : Kd.C (Kd.int .i64) w (none : Option Addr) ([] : List Int).length [] := ⟨rfl, by simp, fun h => by simp at h⟩
  have hc := tapsterref01_cmp.calls 2000 x.a x.c l none 0 [] c w g1 h1.2.2.2 g2 (Nat.zero_le _) e
  rw [← h1.2.1] at hc
  refine hc.mono ?_
  rintro en w' ⟨rfl, hb⟩
  refine ⟨[aI c], rfl, ⟨⟨_, rfl⟩, trivial⟩, fun y hy _ l' k1 => ?_, ?_, hb⟩
  · obtain rfl := two_inj hy
    obtain rfl := dgs_inj h1 k1
    exact ⟨c, rfl, d1⟩
  · refine outs0 fun z hz => ?_
    simp only [List.mem_cons, List.not_mem_nil, or_false] at hz
    subst hz
    exact ⟨.leaf _, rfl⟩
end Go.Proofs.YtmhfooalcohpgaaK
namespace Go.Proofs.YtmhfooalcohpgaaK
open Go Go.Proofs.YtmhfooalcohpgaaV Go.Proofs
-- function 16, callees [33, 32, 31, 35, 36, 34]
def an16 : Ann := ⟨[], []⟩
def rs16 : List (Nat × RegT) := []
def t16 : T := (.br (.cmp .lss (.at 0) (.int 0)) (.ret [(.int .i64 (.int 0)), (.bool (.bool false))]) (.br (.cmp .lss (.at 1) (.int 0)) (.ret [(.int .i64 (.int 0)), (.bool (.bool false))]) (.br (.cmp .leq (.at 2) (.int 0)) (.ret [(.int .i64 (.int 0)), (.bool (.bool false))]) (.call 0 [(.int .i64 (.at 0))] (.call 0 [(.int .i64 (.at 1))] (.call 1 [(.slc (.at 3)), (.slc (.at 5))] (.call 0 [(.int .i64 (.at 2))] (.call 2 [(.slc (.at 7)), (.slc (.at 8))] (.call 3 [(.slc (.at 11)), (.slc (.nil 0))] (.br (.cmp .gtr (.at 12) (.int 0)) (.new 1 [[(.int .i64 (.int 1))]] (.call 4 [(.slc (.at 10)), (.slc (.at 13))] (.call 5 [(.slc (.at 14)), (.int .i64 (.int 0))] (.ret [(.int .i64 (.at 15)), (.bool (.at 16))])))) (.call 5 [(.slc (.at 10)), (.int .i64 (.int 0))] (.ret [(.int .i64 (.at 13)), (.bool (.at 14))]))))))))))))
set_option maxHeartbeats 4000000 in
theorem h16 : holds Try.prog (kWholeF sg16) := by
  refine fn_holds (l := [kOfD sg33, kTwo 100 (fun l m r => val r = val l * val m ∧ r.length = l.length + m.length + 1) sg32, kBy sg31, kCmp2 sg35, kTwo 400 (fun l m r => val r = val l + val m ∧ r.length ≤ max l.length m.length + 1) sg36, kNumber sg34]) ⟨h33, h32, h31, h35n, h36, h34, trivial⟩ hP rs16 (inj_of (fun l : List Atom => ((vi (l.getD 0 atom0).1, vi (l.getD 1 atom0).1, vi (l.getD 2 atom0).1) : Int × Int × Int)) (fun _ => rfl)) Try.func16 (by kernel_rfl) (c := code Try.f16) (by kernel_rfl) (an := an16) (by kernel_rfl) (pk := pk16) rfl (t := t16) (by kernel_rfl) ?_
  rintro ⟨a, b, c⟩ ⟨u1, u2, u3⟩
  refine ⟨by simp [pk16, KindsOk, RK.ok], ?_⟩
  unfold t16
  simp only at u1 u2 u3
  have nok : ¬ dvO a b c → [aI 0, aB false] = [aI (if okW a b c then cdv (ml a b) c else 0), aB (decide (okW a b c))] := fun h => by
    have : ¬ okW a b c := fun h2 => h h2.1
    simp [this]
  refine br_wp (fun c1 => ?_) (fun c1 => br_wp (fun c2 => ?_) (fun c2 => br_wp (fun c3 => ?_) (fun c3 => ?_)))
  · exact ret_wp (nok (by have : a < 0 := of_decide_eq_true c1; unfold dvO; omega))
  · exact ret_wp (nok (by have : b < 0 := of_decide_eq_true c2; unfold dvO; omega))
  · exact ret_wp (nok (by have : c ≤ 0 := of_decide_eq_true c3; unfold dvO; omega))
  · have c1 : ¬ a < 0 := of_decide_eq_false c1
    have c2 : ¬ b < 0 := of_decide_eq_false c2
    have c3 : ¬ c ≤ 0 := of_decide_eq_false c3
    refine call_con a rfl rfl u1 ?_
    rintro outs - ⟨s1, l1, g1, rfl, d1, e1, f1⟩
    refine call_con b rfl rfl u2 ?_
    rintro outs - ⟨s2, l2, g2, rfl, d2, e2, f2⟩
    refine call_con (s1, s2) rfl rfl ⟨l1, l2, d1, d2, by omega, by omega⟩ ?_
    rintro outs - hq
    obtain ⟨s3, l3, rfl, d3, e3, f3⟩ := hq l1 l2 d1 d2
    refine call_con c rfl rfl u3 ?_
    rintro outs - ⟨s4, l4, g4, rfl, d4, e4, f4⟩
    have v1 : val l1 = a := by omega
    have v2 : val l2 = b := by omega
    have v4 : val l4 = c := by omega
    refine call_con (s3, s4) rfl rfl ⟨l3, l4, d3, d4, by omega, by omega, by omega, by omega⟩ ?_
    rintro outs - hq
    obtain ⟨s5, s6, q, r, rfl, d5, d6, n5, n6, e5, e6⟩ := hq l3 l4 d3 d4
    have hr := (val_bd d6.2.2.1).1
    have hd : dv (ml a b) c = val q := by
      rw [v1, v2] at e3
      rw [e3, v4] at e5
      show a * b / c = val q
      rw [e5, Int.add_mul_ediv_left _ _ (by omega), Int.ediv_eq_zero_of_lt hr (by omega)]
      omega
    have hm : md (ml a b) c = val r := by
      rw [v1, v2] at e3
      rw [e3, v4] at e5
      show a * b % c = val r
      rw [e5, Int.add_mul_emod_self_left, Int.emod_eq_of_lt hr (by omega)]
    refine call_con (s6, Sl.nil) rfl rfl ⟨r, d6, by omega, rfl⟩ ?_
    rintro outs - hq
    obtain ⟨z, rfl, hz⟩ := hq r d6
    have fin : ∀ x, cdv (ml a b) c = x → [aI (if x ≤ 9223372036854775807 then x else 0), aB (decide (x ≤ 9223372036854775807))] = [aI (if okW a b c then cdv (ml a b) c else 0), aB (decide (okW a b c))] := by
      rintro x rfl
      have ho : okW a b c ↔ cdv (ml a b) c ≤ 9223372036854775807 := by unfold okW dvO; omega
      simp only [ho]
    refine br_wp (fun c4 => ?_) (fun c4 => ?_)
    · have c4 : 0 < z := of_decide_eq_true c4
      intro g
      have d7 : dgs ⟨some ⟨g, 0, none⟩, 1, 1, rowI [1]⟩ [1] := ⟨rfl, rfl, by intro d hd; simp at hd; omega, Nat.le_refl _⟩
      refine call_con (s5, (⟨some ⟨g, 0, none⟩, 1, 1, rowI [1]⟩ : Sl)) rfl rfl ⟨q, [1], d5, d7, by omega, by simp⟩ ?_
      rintro outs - hq
      obtain ⟨s8, w8, rfl, d8, e8, n8⟩ := hq q [1] d5 d7
      refine call_con (s8, 0) rfl rfl ⟨rfl, w8, d8, by simp only [List.length_cons, List.length_nil] at n8; omega⟩ ?_
      rintro outs - hq
      obtain rfl := hq w8 d8
      refine ret_wp ?_
      refine fin (val w8) ?_
      have e1 : val [1] = 1 := by simp [val]
      unfold cdv
      rw [hd, hm, if_pos (hz.1 c4), e8, e1]
    · have c4 : ¬ 0 < z := of_decide_eq_false c4
      refine call_con (s5, 0) rfl rfl ⟨rfl, q, d5, by omega⟩ ?_
      rintro outs - hq
      obtain rfl := hq q d5
      refine ret_wp ?_
      refine fin (val q) ?_
      unfold cdv
      rw [hd, hm, if_neg (fun h => c4 (hz.2 h)), Int.add_zero]
theorem beq_ff (b : Bool) : (b == b) = false → False := by cases b <;> simp
def kLaw4 (sg : Sig) : Sig × Con := (sg, mkFun (fun x : Int × Int × Int => ([aI x.1, aI x.2.1, aI x.2.2] : List Atom)) (fun x => in64 x.1 ∧ in64 x.2.1 ∧ in64 x.2.2) (fun _ => [aB true]))
theorem h4 : holds Try.prog (kLaw4 sg4) := by
  refine fn_holds (l := [kPartF sg11, kPartF sg15, kWholeF sg13, kWholeF sg16, kClamp sg17, kClampR sg18, kLater sg19, kLaterR sg20, kKnown sg14]) ⟨hf11, h15, hf13, h16, h17, h18, h19, h20, h14, trivial⟩ hP rs4 (inj_of (fun l : List Atom => ((vi (l.getD 0 atom0).1, vi (l.getD 1 atom0).1, vi (l.getD 2 atom0).1) : Int × Int × Int)) (fun _ => rfl)) Try.func4 (by kernel_rfl) (c := code Try.f4) (by kernel_rfl) (an := an4) (by kernel_rfl) (pk := pk4) rfl (t := t4) (by kernel_rfl) ?_
  rintro ⟨a, b, c⟩ hpre
  refine ⟨by simp [pk4, KindsOk, RK.ok], ?_⟩
  unfold t4
  refine call_fun (a, b, c) rfl rfl hpre ?_
  refine call_fun (a, b, c) rfl rfl hpre ?_
  refine call_fun (a, b, c) rfl rfl hpre ?_
  refine call_fun (a, b, c) rfl rfl hpre ?_
  refine br_wp (fun c1 => ?_) (fun c1 => absurd rfl (of_decide_eq_false c1))
  refine br_wp (fun c2 => ?_) (fun c2 => (beq_ff (decide (okP a b c)) c2).elim)
  refine br_wp (fun c3 => ?_) (fun c3 => absurd rfl (of_decide_eq_false c3))
  refine br_wp (fun c4 => ?_) (fun c4 => (beq_ff (decide (okW a b c)) c4).elim)
  refine call_fun a rfl rfl trivial ?_
  refine call_fun a rfl rfl trivial ?_
  refine br_wp (fun c5 => ?_) (fun c5 => absurd rfl (of_decide_eq_false c5))
  refine call_fun (a, b) rfl rfl trivial ?_
  refine call_fun (a, b) rfl rfl trivial ?_
  refine br_wp (fun c6 => ?_) (fun c6 => absurd rfl (of_decide_eq_false c6))
  refine call_fun () rfl rfl trivial ?_
  exact ret_wp rfl
end Go.Proofs.YtmhfooalcohpgaaK
