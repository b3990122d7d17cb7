import Derived.Test.YtmhfooalcohpgaaVR1z
import Derived.Test.YtmhfooalcohpgaaVR1f
set_option linter.unusedSimpArgs false
set_option linter.unusedVariables false
namespace Go.Proofs.YtmhfooalcohpgaaK
open Go Go.Proofs.YtmhfooalcohpgaaV Go.Proofs
def dvG (a b c : Int) : Prop := dvO a b c ∧ ml a b < c * 18446744073709551616
instance (a b c : Int) : Decidable (dvG a b c) := by unfold dvG; exact inferInstance
def okP (a b c : Int) : Prop := dvO a b c ∧ dv (ml a b) c ≤ 9223372036854775807
instance (a b c : Int) : Decidable (okP a b c) := by unfold okP; exact inferInstance
def okW (a b c : Int) : Prop := dvO a b c ∧ cdv (ml a b) c ≤ 9223372036854775807
instance (a b c : Int) : Decidable (okW a b c) := by unfold okW; exact inferInstance
theorem fd63 (a : Int) : a.fdiv (2 ^ (min (Int.toNat 63) IntKind.u64.bits)) = a / 9223372036854775808 := by
  have e : (2 : Int) ^ (min (Int.toNat 63) IntKind.u64.bits) = 9223372036854775808 := by decide
  rw [e, Int.fdiv_eq_ediv_of_nonneg _ (by omega)]
theorem dvG_bd {a b c : Int} (h : dvO a b c) : (dvG a b c ↔ dv (ml a b) c < 18446744073709551616) ∧ 0 ≤ dv (ml a b) c ∧ 0 ≤ md (ml a b) c ∧ md (ml a b) c < c ∧ 0 ≤ ml a b := by
  have h0 : 0 ≤ ml a b := Int.mul_nonneg h.1 h.2.1
  have hc := h.2.2
  have s := dv_spec h0 (show 1 ≤ c by omega)
  refine ⟨?_, s.2.2.2.1, s.2.1, s.2.2.1, h0⟩
  unfold dvG dv
  rw [Int.ediv_lt_iff_lt_mul hc, Int.mul_comm]
  exact ⟨fun h => h.2, fun h2 => ⟨h, h2⟩⟩
def kDividedF (sg : Sig) : Sig × Con := (sg, mkFun (fun x : Int × Int × Int => ([aI x.1, aI x.2.1, aI x.2.2] : List Atom)) (fun x => in64 x.1 ∧ in64 x.2.1 ∧ in64 x.2.2) (fun x => [aK .u64 (if dvG x.1 x.2.1 x.2.2 then dv (ml x.1 x.2.1) x.2.2 else 0), aK .u64 (if dvG x.1 x.2.1 x.2.2 then md (ml x.1 x.2.1) x.2.2 else 0), aB (decide (dvG x.1 x.2.1 x.2.2))]))
theorem hi_bd {a b : Int} (h : 0 ≤ a) (h2 : a ≤ 9223372036854775807) (h3 : 0 ≤ b) (h4 : b ≤ 9223372036854775807) : mlH a b < 9223372036854775808 := by
  have := Int.mul_le_mul h2 h4 h3 (by omega)
  unfold mlH ml; omega
set_option maxHeartbeats 4000000 in
theorem hf26 : holds Try.prog (kDividedF sg26) := by
  refine fn_holds (l := [kMul64 sg28, kDiv64F sg38]) ⟨h28, hf38, trivial⟩ hP rs26 (inj_of (fun l : List Atom => ((vi (l.getD 0 atom0).1, vi (l.getD 1 atom0).1, vi (l.getD 2 atom0).1) : Int × Int × Int)) (fun _ => rfl)) Try.func26 (by kernel_rfl) (c := code Try.f26) (by kernel_rfl) (an := an26) (by kernel_rfl) (pk := pk26) rfl (t := t26) (by kernel_rfl) ?_
  rintro ⟨a, b, c⟩ ⟨⟨u1, u2⟩, ⟨u3, u4⟩, u5, u6⟩
  refine ⟨by simp [pk26, KindsOk, encPS, encPSn, encPSnc, encPSA, encPn, encSS, encI, Pol.enc, Stt.enc, Ac.enc, Sl.atom, Sl.nil, Stt.zero, RK.ok], ?_⟩
  unfold t26
  simp only at u1 u2 u3 u4 u5 u6
  refine br_wp (fun c1 => ?_) (fun c1 => ?_)
  · refine ret_wp ?_
    ((simp only [vd1, vd2, vd3, vd4, vd5, vd6, vd7, reduceCtorEq, Option.some.injEq, vb_ite, vi_ite, List.getD_cons_zero, List.getD_cons_succ] at *) <;> grind [dvO, dvG])
  · refine br_wp (fun c2 => ?_) (fun c2 => ?_)
    · refine ret_wp ?_
      ((simp only [vd1, vd2, vd3, vd4, vd5, vd6, vd7, reduceCtorEq, Option.some.injEq, vb_ite, vi_ite, List.getD_cons_zero, List.getD_cons_succ] at *) <;> grind [dvO, dvG])
    · have hd : dvO a b c := by simp only [vd1, vd2, vd3, vd4, vd5, vd6, vd7, reduceCtorEq, Option.some.injEq, vb_ite, vi_ite, List.getD_cons_zero, List.getD_cons_succ] at c1 c2; unfold dvO; omega
      have hd2 := hd
      unfold dvO at hd2
      have hb := dvG_bd hd
      obtain ⟨p1, p2, p3, p4⟩ := ml_parts hb.2.2.2.2
      have wa := @wrap_u64_id a (by omega) (by omega)
      have wb := @wrap_u64_id b (by omega) (by omega)
      have wc := @wrap_u64_id c (by omega) (by omega)
      have e1 : mlH a b * 18446744073709551616 + mlL a b = ml a b := p1.symm
      have hg : dvG a b c ↔ mlH a b < c := by unfold dvG; exact ⟨fun h => by have := h.2; omega, fun h => ⟨hd, by omega⟩⟩
      have hm : mlH a b < 9223372036854775808 := hi_bd hd2.1 u2 hd2.2.1 u4
      refine call_fun ((a, b)) rfl (by simp only [vd1, vd2, vd3, vd4, vd5, vd6, vd7, reduceCtorEq, Option.some.injEq, vb_ite, vi_ite, List.getD_cons_zero, List.getD_cons_succ, wa, wb, wc, e1]) ⟨⟨hd2.1, by omega⟩, hd2.2.1, by omega⟩ ?_
      refine br_wp (fun c3 => ?_) (fun c3 => ?_)
      · refine ret_wp ?_
        ((simp only [vd1, vd2, vd3, vd4, vd5, vd6, vd7, reduceCtorEq, Option.some.injEq, vb_ite, vi_ite, List.getD_cons_zero, List.getD_cons_succ, wa, wb, wc, e1] at *) <;> grind [dvO, dvG])
      · refine call_fun (((mlH a b), (mlL a b), c)) rfl (by simp only [vd1, vd2, vd3, vd4, vd5, vd6, vd7, reduceCtorEq, Option.some.injEq, vb_ite, vi_ite, List.getD_cons_zero, List.getD_cons_succ, wa, wb, wc, e1]) (by refine ⟨?_, ?_, ⟨?_, ?_⟩, ?_, ?_⟩ <;> simp only [] <;> (try simp only [vd1, vd2, vd3, vd4, vd5, vd6, vd7, reduceCtorEq, Option.some.injEq, vb_ite, vi_ite, List.getD_cons_zero, List.getD_cons_succ, wa, wb, wc, e1] at *) <;> omega) ?_
        refine ret_wp ?_
        ((simp only [vd1, vd2, vd3, vd4, vd5, vd6, vd7, reduceCtorEq, Option.some.injEq, vb_ite, vi_ite, List.getD_cons_zero, List.getD_cons_succ, wa, wb, wc, e1] at *) <;> grind [dvO, dvG])
def kPartF (sg : Sig) : Sig × Con := (sg, mkFun (fun x : Int × Int × Int => ([aI x.1, aI x.2.1, aI x.2.2] : List Atom)) (fun x => in64 x.1 ∧ in64 x.2.1 ∧ in64 x.2.2) (fun x => [aI (if okP x.1 x.2.1 x.2.2 then dv (ml x.1 x.2.1) x.2.2 else 0), aB (decide (okP x.1 x.2.1 x.2.2))]))
set_option maxHeartbeats 4000000 in
theorem hf11 : holds Try.prog (kPartF sg11) := by
  refine fn_holds (l := [kDividedF sg26, kTold0 sg27]) ⟨hf26, h27, trivial⟩ hP rs11 (inj_of (fun l : List Atom => ((vi (l.getD 0 atom0).1, vi (l.getD 1 atom0).1, vi (l.getD 2 atom0).1) : Int × Int × Int)) (fun _ => rfl)) Try.func11 (by kernel_rfl) (c := code Try.f11) (by kernel_rfl) (an := an11) (by kernel_rfl) (pk := pk11) rfl (t := t11) (by kernel_rfl) ?_
  rintro ⟨a, b, c⟩ ⟨⟨u1, u2⟩, ⟨u3, u4⟩, u5, u6⟩
  refine ⟨by simp [pk11, KindsOk, encPS, encPSn, encPSnc, encPSA, encPn, encSS, encI, Pol.enc, Stt.enc, Ac.enc, Sl.atom, Sl.nil, Stt.zero, RK.ok], ?_⟩
  unfold t11
  simp only at u1 u2 u3 u4 u5 u6
  have ws : ∀ n : Int, 0 ≤ n → n ≤ 9223372036854775807 → IntKind.i64.wrap n = n := fun n h1 h2 => wrap_id n (by omega) (by omega)
  have hb := fun hd => dvG_bd (a := a) (b := b) (c := c) hd
  have hg : dvG a b c → dvO a b c := fun h => h.1
  refine call_fun ((a, b, c)) rfl (by simp only [vd1, vd2, vd3, vd4, vd5, vd6, vd7, reduceCtorEq, Option.some.injEq, vb_ite, vi_ite, List.getD_cons_zero, List.getD_cons_succ]) ⟨⟨u1, u2⟩, ⟨u3, u4⟩, u5, u6⟩ ?_
  refine br_wp (fun c1 => ?_) (fun c1 => ?_)
  · refine call_fun (((IntKind.i64.wrap (if dvG a b c then dv (ml a b) c else 0)), ((arD .shr .u64 (if dvG a b c then dv (ml a b) c else 0) 63) == 0))) rfl (by simp only [vd1, vd2, vd3, vd4, vd5, vd6, vd7, reduceCtorEq, Option.some.injEq, vb_ite, vi_ite, List.getD_cons_zero, List.getD_cons_succ]) trivial ?_
    refine ret_wp ?_
    ((simp only [vd1, vd2, vd3, vd4, vd5, vd6, vd7, reduceCtorEq, Option.some.injEq, vb_ite, vi_ite, List.getD_cons_zero, List.getD_cons_succ, fd63] at *) <;> grind [okP])
  · refine call_fun (((IntKind.i64.wrap (if dvG a b c then dv (ml a b) c else 0)), false)) rfl (by simp only [vd1, vd2, vd3, vd4, vd5, vd6, vd7, reduceCtorEq, Option.some.injEq, vb_ite, vi_ite, List.getD_cons_zero, List.getD_cons_succ]) trivial ?_
    refine ret_wp ?_
    ((simp only [vd1, vd2, vd3, vd4, vd5, vd6, vd7, reduceCtorEq, Option.some.injEq, vb_ite, vi_ite, List.getD_cons_zero, List.getD_cons_succ, fd63] at *) <;> grind [okP])
def kWholeF (sg : Sig) : Sig × Con := (sg, mkFun (fun x : Int × Int × Int => ([aI x.1, aI x.2.1, aI x.2.2] : List Atom)) (fun x => in64 x.1 ∧ in64 x.2.1 ∧ in64 x.2.2) (fun x => [aI (if okW x.1 x.2.1 x.2.2 then cdv (ml x.1 x.2.1) x.2.2 else 0), aB (decide (okW x.1 x.2.1 x.2.2))]))
set_option maxHeartbeats 4000000 in
theorem hf13 : holds Try.prog (kWholeF sg13) := by
  refine fn_holdsI (l := [kDividedF sg26, kTold0 sg27]) ⟨hf26, h27, trivial⟩ (inl := [in13_30]) (by refine ⟨⟨Try.func30, by kernel_rfl, by kernel_rfl, by kernel_rfl⟩, trivial⟩) hP rs13 (inj_of (fun l : List Atom => ((vi (l.getD 0 atom0).1, vi (l.getD 1 atom0).1, vi (l.getD 2 atom0).1) : Int × Int × Int)) (fun _ => rfl)) Try.func13 (by kernel_rfl) (c := code Try.f13) (by kernel_rfl) (an := an13) (by kernel_rfl) (pk := pk13) rfl (t := t13) (by kernel_rfl) ?_
  rintro ⟨a, b, c⟩ ⟨⟨u1, u2⟩, ⟨u3, u4⟩, u5, u6⟩
  refine ⟨by simp [pk13, KindsOk, encPS, encPSn, encPSnc, encPSA, encPn, encSS, encI, Pol.enc, Stt.enc, Ac.enc, Sl.atom, Sl.nil, Stt.zero, RK.ok], ?_⟩
  unfold t13
  simp only at u1 u2 u3 u4 u5 u6
  have ws : ∀ n : Int, 0 ≤ n → n ≤ 9223372036854775807 → IntKind.i64.wrap n = n := fun n h1 h2 => wrap_id n (by omega) (by omega)
  have hb := fun hd => dvG_bd (a := a) (b := b) (c := c) hd
  have hg : dvG a b c → dvO a b c := fun h => h.1
  have wu := wrap_u
  refine call_fun ((a, b, c)) rfl (by simp only [vd1, vd2, vd3, vd4, vd5, vd6, vd7, reduceCtorEq, Option.some.injEq, vb_ite, vi_ite, List.getD_cons_zero, List.getD_cons_succ]) ⟨⟨u1, u2⟩, ⟨u3, u4⟩, u5, u6⟩ ?_
  refine br_wp (fun c1 => ?_) (fun c1 => ?_)
  · refine br_wp (fun c2 => ?_) (fun c2 => ?_)
    · refine br_wp (fun c3 => ?_) (fun c3 => ?_)
      · refine call_fun (((IntKind.i64.wrap (IntKind.u64.wrap ((if dvG a b c then dv (ml a b) c else 0) + 1))), ((arD .shr .u64 (IntKind.u64.wrap ((if dvG a b c then dv (ml a b) c else 0) + 1)) 63) == 0))) rfl (by simp only [vd1, vd2, vd3, vd4, vd5, vd6, vd7, reduceCtorEq, Option.some.injEq, vb_ite, vi_ite, List.getD_cons_zero, List.getD_cons_succ]) trivial ?_
        refine ret_wp ?_
        ((simp only [vd1, vd2, vd3, vd4, vd5, vd6, vd7, reduceCtorEq, Option.some.injEq, vb_ite, vi_ite, List.getD_cons_zero, List.getD_cons_succ, fd63] at *) <;> grind [okW, cdv])
      · refine call_fun (((IntKind.i64.wrap (IntKind.u64.wrap ((if dvG a b c then dv (ml a b) c else 0) + 1))), false)) rfl (by simp only [vd1, vd2, vd3, vd4, vd5, vd6, vd7, reduceCtorEq, Option.some.injEq, vb_ite, vi_ite, List.getD_cons_zero, List.getD_cons_succ]) trivial ?_
        refine ret_wp ?_
        ((simp only [vd1, vd2, vd3, vd4, vd5, vd6, vd7, reduceCtorEq, Option.some.injEq, vb_ite, vi_ite, List.getD_cons_zero, List.getD_cons_succ, fd63] at *) <;> grind [okW, cdv])
    · refine call_fun (((IntKind.i64.wrap (IntKind.u64.wrap ((if dvG a b c then dv (ml a b) c else 0) + 1))), false)) rfl (by simp only [vd1, vd2, vd3, vd4, vd5, vd6, vd7, reduceCtorEq, Option.some.injEq, vb_ite, vi_ite, List.getD_cons_zero, List.getD_cons_succ]) trivial ?_
      refine ret_wp ?_
      ((simp only [vd1, vd2, vd3, vd4, vd5, vd6, vd7, reduceCtorEq, Option.some.injEq, vb_ite, vi_ite, List.getD_cons_zero, List.getD_cons_succ, fd63] at *) <;> grind [okW, cdv])
  · refine br_wp (fun c4 => ?_) (fun c4 => ?_)
    · refine br_wp (fun c5 => ?_) (fun c5 => ?_)
      · refine call_fun (((IntKind.i64.wrap (if dvG a b c then dv (ml a b) c else 0)), ((arD .shr .u64 (if dvG a b c then dv (ml a b) c else 0) 63) == 0))) rfl (by simp only [vd1, vd2, vd3, vd4, vd5, vd6, vd7, reduceCtorEq, Option.some.injEq, vb_ite, vi_ite, List.getD_cons_zero, List.getD_cons_succ]) trivial ?_
        refine ret_wp ?_
        ((simp only [vd1, vd2, vd3, vd4, vd5, vd6, vd7, reduceCtorEq, Option.some.injEq, vb_ite, vi_ite, List.getD_cons_zero, List.getD_cons_succ, fd63] at *) <;> grind [okW, cdv])
      · refine call_fun (((IntKind.i64.wrap (if dvG a b c then dv (ml a b) c else 0)), false)) rfl (by simp only [vd1, vd2, vd3, vd4, vd5, vd6, vd7, reduceCtorEq, Option.some.injEq, vb_ite, vi_ite, List.getD_cons_zero, List.getD_cons_succ]) trivial ?_
        refine ret_wp ?_
        ((simp only [vd1, vd2, vd3, vd4, vd5, vd6, vd7, reduceCtorEq, Option.some.injEq, vb_ite, vi_ite, List.getD_cons_zero, List.getD_cons_succ, fd63] at *) <;> grind [okW, cdv])
    · refine call_fun (((IntKind.i64.wrap (if dvG a b c then dv (ml a b) c else 0)), false)) rfl (by simp only [vd1, vd2, vd3, vd4, vd5, vd6, vd7, reduceCtorEq, Option.some.injEq, vb_ite, vi_ite, List.getD_cons_zero, List.getD_cons_succ]) trivial ?_
      refine ret_wp ?_
      ((simp only [vd1, vd2, vd3, vd4, vd5, vd6, vd7, reduceCtorEq, Option.some.injEq, vb_ite, vi_ite, List.getD_cons_zero, List.getD_cons_succ, fd63] at *) <;> grind [okW, cdv])
end Go.Proofs.YtmhfooalcohpgaaK
