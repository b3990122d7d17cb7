import Derived.Test.YtlcbhmkmadfabaaDoorVR2C0
import Derived.Test.YtlcbhmkmadfabaaDoorVR2t
import Derived.Test.YtlcbhmkmadfabaaDoorVR2l
set_option linter.unusedSimpArgs false
set_option linter.unusedVariables false
set_option linter.unnecessarySimpa false
namespace Go.Proofs.YtlcbhmkmadfabaaDoorK
open Go Go.Proofs.YtlcbhmkmadfabaaDoorV Go.Proofs
set_option maxHeartbeats 1000000 in
theorem h12s {k : Nat} (h12 : holds Tryd.prog (kP12 k sg12)) : holds Tryd.prog (kP12 (k + 1) sg12) := by
  refine fn_holds (l := [kP12 k sg12]) ⟨h12, trivial⟩ hP rs12 (inj_of (fun l : List Atom => (vi (l.getD 0 atom0).1 : Int)) (fun _ => rfl)) Tryd.func12 (by kernel_rfl) (c := code Tryd.f12) (by kernel_rfl) (an := an12) (by kernel_rfl) (pk := pk12) rfl (t := t12) (by kernel_rfl) ?_
  rintro n ⟨hpre, h64⟩
  refine ⟨by simp [pk12, KindsOk, RK.ok, Rw.atom, Sl.atom], ?_⟩
  unfold t12
  unfold in64 at h64
  refine br_wp (fun c1 => ?_) (fun c1 => ?_)
  · replace c1 : n ≥ 0 := by first | simpa only [vd1, vd2, vd3, vd4, vd5, vd6, vd7, reduceCtorEq, Option.some.injEq, vn_rw, va_rw, isNone_f, isNone_t, vi_cell_I, vi_cell_E0, vi_cell_E1, vi_cell_A0, vi_cell_A1, vi_cell_A2, vb_ite, vi_ite, updD, seq_b, byD_rw, ofBytes_one] using c1 | (simp only [vd1, vd2, vd3, vd4, vd5, vd6, vd7, reduceCtorEq, Option.some.injEq, vn_rw, va_rw, isNone_f, isNone_t, vi_cell_I, vi_cell_E0, vi_cell_E1, vi_cell_A0, vi_cell_A1, vi_cell_A2, vb_ite, vi_ite, updD, seq_b, byD_rw, ofBytes_one] at c1; grind)
    refine br_wp (fun c2 => ?_) (fun c2 => ?_)
    · replace c2 : n < 10 := by first | simpa only [vd1, vd2, vd3, vd4, vd5, vd6, vd7, reduceCtorEq, Option.some.injEq, vn_rw, va_rw, isNone_f, isNone_t, vi_cell_I, vi_cell_E0, vi_cell_E1, vi_cell_A0, vi_cell_A1, vi_cell_A2, vb_ite, vi_ite, updD, seq_b, byD_rw, ofBytes_one] using c2 | (simp only [vd1, vd2, vd3, vd4, vd5, vd6, vd7, reduceCtorEq, Option.some.injEq, vn_rw, va_rw, isNone_f, isNone_t, vi_cell_I, vi_cell_E0, vi_cell_E1, vi_cell_A0, vi_cell_A1, vi_cell_A2, vb_ite, vi_ite, updD, seq_b, byD_rw, ofBytes_one] at c2; grind)
      have wu : IntKind.i64.wrap (48 + n) = 48 + n := wrap_id _ (by omega) (by omega)
      have w8 : IntKind.u8.wrap (48 + n) = 48 + n := by rw [IntKind.wrap_u8]; omega
      refine new_wp eB [(48 + n)] (by simp only [vd1, vd2, vd3, vd4, vd5, vd6, vd7, reduceCtorEq, Option.some.injEq, vn_rw, va_rw, isNone_f, isNone_t, vi_cell_I, vi_cell_E0, vi_cell_E1, vi_cell_A0, vi_cell_A1, vi_cell_A2, vb_ite, vi_ite, updD, seq_b, byD_rw, ofBytes_one, wu, w8, eB]) ?_
      intro a1 b1
      refine need_wp (by first | exact ⟨_, _, _, rfl⟩ | (simp only [vd1, vd2, vd3, vd4, vd5, vd6, vd7, reduceCtorEq, Option.some.injEq, vn_rw, va_rw, isNone_f, isNone_t, vi_cell_I, vi_cell_E0, vi_cell_E1, vi_cell_A0, vi_cell_A1, vi_cell_A2, vb_ite, vi_ite, updD, seq_b, byD_rw, ofBytes_one, wu, w8]; exact ⟨_, _, _, rfl⟩)) ?_
      refine need_wp (by simp only [vd1, vd2, vd3, vd4, vd5, vd6, vd7, reduceCtorEq, Option.some.injEq, vn_rw, va_rw, isNone_f, isNone_t, vi_cell_I, vi_cell_E0, vi_cell_E1, vi_cell_A0, vi_cell_A1, vi_cell_A2, vb_ite, vi_ite, updD, seq_b, byD_rw, ofBytes_one, wu, w8]; exact bytes_one _ _ (by omega) (by omega)) ?_
      refine ret_wp ?_
      try dsimp only
      simp only [vd1, vd2, vd3, vd4, vd5, vd6, vd7, reduceCtorEq, Option.some.injEq, vn_rw, va_rw, isNone_f, isNone_t, vi_cell_I, vi_cell_E0, vi_cell_E1, vi_cell_A0, vi_cell_A1, vi_cell_A2, vb_ite, vi_ite, updD, seq_b, byD_rw, ofBytes_one, wu, w8]; rw [prt_one (by omega) (by omega), show (48 + n).toNat = 48 + n.toNat by omega]
    · replace c2 : ¬(n < 10) := by first | simpa only [vd1, vd2, vd3, vd4, vd5, vd6, vd7, reduceCtorEq, Option.some.injEq, vn_rw, va_rw, isNone_f, isNone_t, vi_cell_I, vi_cell_E0, vi_cell_E1, vi_cell_A0, vi_cell_A1, vi_cell_A2, vb_ite, vi_ite, updD, seq_b, byD_rw, ofBytes_one] using c2 | (simp only [vd1, vd2, vd3, vd4, vd5, vd6, vd7, reduceCtorEq, Option.some.injEq, vn_rw, va_rw, isNone_f, isNone_t, vi_cell_I, vi_cell_E0, vi_cell_E1, vi_cell_A0, vi_cell_A1, vi_cell_A2, vb_ite, vi_ite, updD, seq_b, byD_rw, ofBytes_one] at c2; grind)
      refine br_wp (fun c3 => ?_) (fun c3 => ?_)
      · replace c3 : n > 0 := by first | simpa only [vd1, vd2, vd3, vd4, vd5, vd6, vd7, reduceCtorEq, Option.some.injEq, vn_rw, va_rw, isNone_f, isNone_t, vi_cell_I, vi_cell_E0, vi_cell_E1, vi_cell_A0, vi_cell_A1, vi_cell_A2, vb_ite, vi_ite, updD, seq_b, byD_rw, ofBytes_one] using c3 | (simp only [vd1, vd2, vd3, vd4, vd5, vd6, vd7, reduceCtorEq, Option.some.injEq, vn_rw, va_rw, isNone_f, isNone_t, vi_cell_I, vi_cell_E0, vi_cell_E1, vi_cell_A0, vi_cell_A1, vi_cell_A2, vb_ite, vi_ite, updD, seq_b, byD_rw, ofBytes_one] at c3; grind)
        have pu := pre_up hpre (by omega)
        have u1 : quoD .i64 n 10 = n / 10 := quo_id n 10 (by omega) (by omega) (by omega)
        have u2 : remD n 10 = n % 10 := rem_id n 10 (by omega)
        refine call_fun ((n / 10)) rfl (by simp only [vd1, vd2, vd3, vd4, vd5, vd6, vd7, reduceCtorEq, Option.some.injEq, vn_rw, va_rw, isNone_f, isNone_t, vi_cell_I, vi_cell_E0, vi_cell_E1, vi_cell_A0, vi_cell_A1, vi_cell_A2, vb_ite, vi_ite, updD, seq_b, byD_rw, ofBytes_one, u1, u2]) (⟨pu.1, by unfold in64; omega⟩) ?_
        refine call_fun ((n % 10)) rfl (by simp only [vd1, vd2, vd3, vd4, vd5, vd6, vd7, reduceCtorEq, Option.some.injEq, vn_rw, va_rw, isNone_f, isNone_t, vi_cell_I, vi_cell_E0, vi_cell_E1, vi_cell_A0, vi_cell_A1, vi_cell_A2, vb_ite, vi_ite, updD, seq_b, byD_rw, ofBytes_one, u1, u2]) (⟨pu.2, by unfold in64; omega⟩) ?_
        refine need_wp (by simp only [vd1, vd2, vd3, vd4, vd5, vd6, vd7, reduceCtorEq, Option.some.injEq, vn_rw, va_rw, isNone_f, isNone_t, vi_cell_I, vi_cell_E0, vi_cell_E1, vi_cell_A0, vi_cell_A1, vi_cell_A2, vb_ite, vi_ite, updD, seq_b, byD_rw, ofBytes_one, u1, u2, size_app]; have z1 := prt_size (n := n / 10) (by unfold in64; omega); have z2 := prt_size (n := n % 10) (by unfold in64; omega); omega) ?_
        refine ret_wp ?_
        try dsimp only
        simp only [vd1, vd2, vd3, vd4, vd5, vd6, vd7, reduceCtorEq, Option.some.injEq, vn_rw, va_rw, isNone_f, isNone_t, vi_cell_I, vi_cell_E0, vi_cell_E1, vi_cell_A0, vi_cell_A1, vi_cell_A2, vb_ite, vi_ite, updD, seq_b, byD_rw, ofBytes_one, u1, u2]; rw [prt_up (n := n) (by omega)]
      · replace c3 : ¬(n > 0) := by first | simpa only [vd1, vd2, vd3, vd4, vd5, vd6, vd7, reduceCtorEq, Option.some.injEq, vn_rw, va_rw, isNone_f, isNone_t, vi_cell_I, vi_cell_E0, vi_cell_E1, vi_cell_A0, vi_cell_A1, vi_cell_A2, vb_ite, vi_ite, updD, seq_b, byD_rw, ofBytes_one] using c3 | (simp only [vd1, vd2, vd3, vd4, vd5, vd6, vd7, reduceCtorEq, Option.some.injEq, vn_rw, va_rw, isNone_f, isNone_t, vi_cell_I, vi_cell_E0, vi_cell_E1, vi_cell_A0, vi_cell_A1, vi_cell_A2, vb_ite, vi_ite, updD, seq_b, byD_rw, ofBytes_one] at c3; grind)
        exfalso; omega
  · replace c1 : ¬(n ≥ 0) := by first | simpa only [vd1, vd2, vd3, vd4, vd5, vd6, vd7, reduceCtorEq, Option.some.injEq, vn_rw, va_rw, isNone_f, isNone_t, vi_cell_I, vi_cell_E0, vi_cell_E1, vi_cell_A0, vi_cell_A1, vi_cell_A2, vb_ite, vi_ite, updD, seq_b, byD_rw, ofBytes_one] using c1 | (simp only [vd1, vd2, vd3, vd4, vd5, vd6, vd7, reduceCtorEq, Option.some.injEq, vn_rw, va_rw, isNone_f, isNone_t, vi_cell_I, vi_cell_E0, vi_cell_E1, vi_cell_A0, vi_cell_A1, vi_cell_A2, vb_ite, vi_ite, updD, seq_b, byD_rw, ofBytes_one] at c1; grind)
    refine br_wp (fun c5 => ?_) (fun c5 => ?_)
    · replace c5 : n > 0 := by first | simpa only [vd1, vd2, vd3, vd4, vd5, vd6, vd7, reduceCtorEq, Option.some.injEq, vn_rw, va_rw, isNone_f, isNone_t, vi_cell_I, vi_cell_E0, vi_cell_E1, vi_cell_A0, vi_cell_A1, vi_cell_A2, vb_ite, vi_ite, updD, seq_b, byD_rw, ofBytes_one] using c5 | (simp only [vd1, vd2, vd3, vd4, vd5, vd6, vd7, reduceCtorEq, Option.some.injEq, vn_rw, va_rw, isNone_f, isNone_t, vi_cell_I, vi_cell_E0, vi_cell_E1, vi_cell_A0, vi_cell_A1, vi_cell_A2, vb_ite, vi_ite, updD, seq_b, byD_rw, ofBytes_one] at c5; grind)
      exfalso; omega
    · replace c5 : ¬(n > 0) := by first | simpa only [vd1, vd2, vd3, vd4, vd5, vd6, vd7, reduceCtorEq, Option.some.injEq, vn_rw, va_rw, isNone_f, isNone_t, vi_cell_I, vi_cell_E0, vi_cell_E1, vi_cell_A0, vi_cell_A1, vi_cell_A2, vb_ite, vi_ite, updD, seq_b, byD_rw, ofBytes_one] using c5 | (simp only [vd1, vd2, vd3, vd4, vd5, vd6, vd7, reduceCtorEq, Option.some.injEq, vn_rw, va_rw, isNone_f, isNone_t, vi_cell_I, vi_cell_E0, vi_cell_E1, vi_cell_A0, vi_cell_A1, vi_cell_A2, vb_ite, vi_ite, updD, seq_b, byD_rw, ofBytes_one] at c5; grind)
      refine br_wp (fun c6 => ?_) (fun c6 => ?_)
      · replace c6 : n > (-10) := by first | simpa only [vd1, vd2, vd3, vd4, vd5, vd6, vd7, reduceCtorEq, Option.some.injEq, vn_rw, va_rw, isNone_f, isNone_t, vi_cell_I, vi_cell_E0, vi_cell_E1, vi_cell_A0, vi_cell_A1, vi_cell_A2, vb_ite, vi_ite, updD, seq_b, byD_rw, ofBytes_one] using c6 | (simp only [vd1, vd2, vd3, vd4, vd5, vd6, vd7, reduceCtorEq, Option.some.injEq, vn_rw, va_rw, isNone_f, isNone_t, vi_cell_I, vi_cell_E0, vi_cell_E1, vi_cell_A0, vi_cell_A1, vi_cell_A2, vb_ite, vi_ite, updD, seq_b, byD_rw, ofBytes_one] at c6; grind)
        have pn := pre_neg hpre (by omega) (by omega)
        have u6 : IntKind.i64.wrap (0 - n) = -n := by rw [wrap_id _ (by omega) (by omega)]; omega
        refine call_fun ((-n)) rfl (by simp only [vd1, vd2, vd3, vd4, vd5, vd6, vd7, reduceCtorEq, Option.some.injEq, vn_rw, va_rw, isNone_f, isNone_t, vi_cell_I, vi_cell_E0, vi_cell_E1, vi_cell_A0, vi_cell_A1, vi_cell_A2, vb_ite, vi_ite, updD, seq_b, byD_rw, ofBytes_one, u6]) (⟨pn, by unfold in64; omega⟩) ?_
        refine need_wp (by simp only [vd1, vd2, vd3, vd4, vd5, vd6, vd7, reduceCtorEq, Option.some.injEq, vn_rw, va_rw, isNone_f, isNone_t, vi_cell_I, vi_cell_E0, vi_cell_E1, vi_cell_A0, vi_cell_A1, vi_cell_A2, vb_ite, vi_ite, updD, seq_b, byD_rw, ofBytes_one, u6, size_app]; have z0 : ((⟨#[45]⟩ : ByteArray).size : Int) = 1 := rfl; have z1 := prt_size (n := -n) (by unfold in64; omega); omega) ?_
        refine ret_wp ?_
        try dsimp only
        simp only [vd1, vd2, vd3, vd4, vd5, vd6, vd7, reduceCtorEq, Option.some.injEq, vn_rw, va_rw, isNone_f, isNone_t, vi_cell_I, vi_cell_E0, vi_cell_E1, vi_cell_A0, vi_cell_A1, vi_cell_A2, vb_ite, vi_ite, updD, seq_b, byD_rw, ofBytes_one, u6]; rw [prt_ng (n := n) (by omega)]; rfl
      · replace c6 : ¬(n > (-10)) := by first | simpa only [vd1, vd2, vd3, vd4, vd5, vd6, vd7, reduceCtorEq, Option.some.injEq, vn_rw, va_rw, isNone_f, isNone_t, vi_cell_I, vi_cell_E0, vi_cell_E1, vi_cell_A0, vi_cell_A1, vi_cell_A2, vb_ite, vi_ite, updD, seq_b, byD_rw, ofBytes_one] using c6 | (simp only [vd1, vd2, vd3, vd4, vd5, vd6, vd7, reduceCtorEq, Option.some.injEq, vn_rw, va_rw, isNone_f, isNone_t, vi_cell_I, vi_cell_E0, vi_cell_E1, vi_cell_A0, vi_cell_A1, vi_cell_A2, vb_ite, vi_ite, updD, seq_b, byD_rw, ofBytes_one] at c6; grind)
        have pd := pre_dn hpre (by omega)
        have u3 := quo_neg (n := n) (by omega) (by omega)
        have u4 := rem_neg (n := n) (by omega)
        have u5 : IntKind.i64.wrap (0 - -(-n % 10)) = -n % 10 := by rw [wrap_id _ (by omega) (by omega)]; omega
        refine call_fun ((-(-n / 10))) rfl (by simp only [vd1, vd2, vd3, vd4, vd5, vd6, vd7, reduceCtorEq, Option.some.injEq, vn_rw, va_rw, isNone_f, isNone_t, vi_cell_I, vi_cell_E0, vi_cell_E1, vi_cell_A0, vi_cell_A1, vi_cell_A2, vb_ite, vi_ite, updD, seq_b, byD_rw, ofBytes_one, u3, u4, u5]) (⟨pd.1, by unfold in64; omega⟩) ?_
        refine call_fun ((-n % 10)) rfl (by simp only [vd1, vd2, vd3, vd4, vd5, vd6, vd7, reduceCtorEq, Option.some.injEq, vn_rw, va_rw, isNone_f, isNone_t, vi_cell_I, vi_cell_E0, vi_cell_E1, vi_cell_A0, vi_cell_A1, vi_cell_A2, vb_ite, vi_ite, updD, seq_b, byD_rw, ofBytes_one, u3, u4, u5]) (⟨pd.2, by unfold in64; omega⟩) ?_
        refine need_wp (by simp only [vd1, vd2, vd3, vd4, vd5, vd6, vd7, reduceCtorEq, Option.some.injEq, vn_rw, va_rw, isNone_f, isNone_t, vi_cell_I, vi_cell_E0, vi_cell_E1, vi_cell_A0, vi_cell_A1, vi_cell_A2, vb_ite, vi_ite, updD, seq_b, byD_rw, ofBytes_one, u3, u4, u5, size_app]; have z1 := prt_size (n := -(-n / 10)) (by unfold in64; omega); have z2 := prt_size (n := -n % 10) (by unfold in64; omega); omega) ?_
        refine ret_wp ?_
        try dsimp only
        simp only [vd1, vd2, vd3, vd4, vd5, vd6, vd7, reduceCtorEq, Option.some.injEq, vn_rw, va_rw, isNone_f, isNone_t, vi_cell_I, vi_cell_E0, vi_cell_E1, vi_cell_A0, vi_cell_A1, vi_cell_A2, vb_ite, vi_ite, updD, seq_b, byD_rw, ofBytes_one, u3, u4, u5]; rw [prt_dn (n := n) (by omega)]
theorem h12k (k : Nat) : holds Tryd.prog (kP12 k sg12) := by
  induction k with
  | zero => exact ⟨⟨Tryd.f12, Tryd.func12, by kernel_rfl, by kernel_rfl⟩, fun _ _ _ _ _ h => by obtain ⟨x, _, ⟨h, _⟩, _⟩ := h; omega⟩
  | succ k ih => exact h12s ih
theorem h12 : holds Tryd.prog (kPrint sg12) := holds_pre (h12k 21) fun x h => ⟨pre_64 h, h⟩
def kCount (sg : Sig) : Sig × Con := (sg, mkFun (fun x : Int => ([aI x] : List Atom)) in64 (fun n => [aI ((prt n).size : Int)]))
set_option maxHeartbeats 1000000 in
theorem h13 : holds Tryd.prog (kCount sg13) := by
  refine fn_holds (l := [kPrint sg11]) ⟨h11, trivial⟩ hP rs13 (inj_of (fun l : List Atom => (vi (l.getD 0 atom0).1 : Int)) (fun _ => rfl)) Tryd.func13 (by kernel_rfl) (c := code Tryd.f13) (by kernel_rfl) (an := an13) (by kernel_rfl) (pk := pk13) rfl (t := t13) (by kernel_rfl) ?_
  rintro n hn
  refine ⟨by simp [pk13, KindsOk, RK.ok, Rw.atom, Sl.atom], ?_⟩
  unfold t13
  refine call_fun (n) rfl (by simp only [vd1, vd2, vd3, vd4, vd5, vd6, vd7, reduceCtorEq, Option.some.injEq, vn_rw, va_rw, isNone_f, isNone_t, vi_cell_I, vi_cell_E0, vi_cell_E1, vi_cell_A0, vi_cell_A1, vi_cell_A2, vb_ite, vi_ite, updD, seq_b, byD_rw, ofBytes_one]) hn ?_
  refine ret_wp ?_
  try dsimp only
  rfl
def kParse (sg : Sig) : Sig × Con := (sg, mkFun (fun x : ByteArray × Gh => ([aS x.1, Rw.atom eF x.2.a, Rw.atom eF x.2.b] : List Atom)) (fun x => x.1.size ≤ 281474976710656 ∧ pG x.2) (fun x => [aI (rd x.1), aB (decide (can x.1))]))
set_option maxHeartbeats 1000000 in
theorem h10 : holds Tryd.prog (kParse sg10) := by
  refine fn_holdsH (inl := []) (l := [kAtoi sg17, kPrint sg11]) ⟨h17, h11, trivial⟩ trivial hP gh10 rs10 (inj_of (fun l : List Atom => ((vs (l.getD 0 atom0).1, (⟨Rw.un unF (l.getD 1 atom0), Rw.un unF (l.getD 2 atom0)⟩ : Gh)) : ByteArray × Gh)) (fun _ => by simp [List.getD_cons_zero, List.getD_cons_succ, unA_atom, unF_at])) Tryd.func10 (by kernel_rfl) (c := code Tryd.f10) (by kernel_rfl) (an := an10) (by kernel_rfl) (pk := pk10g) rfl (t := t10) (by kernel_rfl) ?_
  rintro ⟨s, q⟩ hnil hp
  refine ⟨by simp [pk10g, pk10, KindsOk, RK.ok, Rw.atom, Sl.atom], ?_⟩
  unfold t10
  refine call_rel ((s, q)) rfl (by simp only [vd1, vd2, vd3, vd4, vd5, vd6, vd7, reduceCtorEq, Option.some.injEq, vn_rw, va_rw, isNone_f, isNone_t, vi_cell_I, vi_cell_E0, vi_cell_E1, vi_cell_A0, vi_cell_A1, vi_cell_A2, vb_ite, vi_ite, updD, seq_b, byD_rw, ofBytes_one]) hp ?_
  rintro ⟨n1, f1⟩ ⟨ei1, hf1⟩
  try dsimp only at ei1 hf1
  refine need_wp (by simp only [vd1, vd2, vd3, vd4, vd5, vd6, vd7, reduceCtorEq, Option.some.injEq, vn_rw, va_rw, isNone_f, isNone_t, vi_cell_I, vi_cell_E0, vi_cell_E1, vi_cell_A0, vi_cell_A1, vi_cell_A2, vb_ite, vi_ite, updD, seq_b, byD_rw, ofBytes_one]; rcases hf1 with ⟨h, _⟩ | ⟨⟨t, p, h⟩, _⟩; exact .inl (by rw [h]); exact .inr ⟨t, p, by rw [h]⟩) ?_
  refine br_wp (fun c1 => ?_) (fun c1 => ?_)
  · replace c1 : isNilI f1.1 = true := by first | simpa only [vd1, vd2, vd3, vd4, vd5, vd6, vd7, reduceCtorEq, Option.some.injEq, vn_rw, va_rw, isNone_f, isNone_t, vi_cell_I, vi_cell_E0, vi_cell_E1, vi_cell_A0, vi_cell_A1, vi_cell_A2, vb_ite, vi_ite, updD, seq_b, byD_rw, ofBytes_one] using c1 | (simp only [vd1, vd2, vd3, vd4, vd5, vd6, vd7, reduceCtorEq, Option.some.injEq, vn_rw, va_rw, isNone_f, isNone_t, vi_cell_I, vi_cell_E0, vi_cell_E1, vi_cell_A0, vi_cell_A1, vi_cell_A2, vb_ite, vi_ite, updD, seq_b, byD_rw, ofBytes_one] at c1; grind)
    have ha : Lib.atoiAll (ls s) = .ok n1 := by rcases hf1 with ⟨_, h⟩ | ⟨⟨t, p, h⟩, _⟩; exact h; rw [h] at c1; exact absurd c1 (by simp [isNilI])
    have hc := fun h : can s => Lib.NumEnd.ok.inj ((atoi_can h).symm.trans ha)
    refine call_fun (n1) rfl (by simp only [vd1, vd2, vd3, vd4, vd5, vd6, vd7, reduceCtorEq, Option.some.injEq, vn_rw, va_rw, isNone_f, isNone_t, vi_cell_I, vi_cell_E0, vi_cell_E1, vi_cell_A0, vi_cell_A1, vi_cell_A2, vb_ite, vi_ite, updD, seq_b, byD_rw, ofBytes_one]) ei1 ?_
    refine br_wp (fun c2 => ?_) (fun c2 => ?_)
    · replace c2 : (prt n1) = s := by first | simpa only [vd1, vd2, vd3, vd4, vd5, vd6, vd7, reduceCtorEq, Option.some.injEq, vn_rw, va_rw, isNone_f, isNone_t, vi_cell_I, vi_cell_E0, vi_cell_E1, vi_cell_A0, vi_cell_A1, vi_cell_A2, vb_ite, vi_ite, updD, seq_b, byD_rw, ofBytes_one] using c2 | (simp only [vd1, vd2, vd3, vd4, vd5, vd6, vd7, reduceCtorEq, Option.some.injEq, vn_rw, va_rw, isNone_f, isNone_t, vi_cell_I, vi_cell_E0, vi_cell_E1, vi_cell_A0, vi_cell_A1, vi_cell_A2, vb_ite, vi_ite, updD, seq_b, byD_rw, ofBytes_one] at c2; grind)
      refine ret_wp ?_
      try dsimp only
      simp only [vd1, vd2, vd3, vd4, vd5, vd6, vd7, reduceCtorEq, Option.some.injEq, vn_rw, va_rw, isNone_f, isNone_t, vi_cell_I, vi_cell_E0, vi_cell_E1, vi_cell_A0, vi_cell_A1, vi_cell_A2, vb_ite, vi_ite, updD, seq_b, byD_rw, ofBytes_one]; have h := can_of ei1 c2; rw [rd_yes h.1, h.2, decide_eq_true h.1]; exact ⟨rfl, rfl⟩
    · replace c2 : ¬((prt n1) = s) := by first | simpa only [vd1, vd2, vd3, vd4, vd5, vd6, vd7, reduceCtorEq, Option.some.injEq, vn_rw, va_rw, isNone_f, isNone_t, vi_cell_I, vi_cell_E0, vi_cell_E1, vi_cell_A0, vi_cell_A1, vi_cell_A2, vb_ite, vi_ite, updD, seq_b, byD_rw, ofBytes_one] using c2 | (simp only [vd1, vd2, vd3, vd4, vd5, vd6, vd7, reduceCtorEq, Option.some.injEq, vn_rw, va_rw, isNone_f, isNone_t, vi_cell_I, vi_cell_E0, vi_cell_E1, vi_cell_A0, vi_cell_A1, vi_cell_A2, vb_ite, vi_ite, updD, seq_b, byD_rw, ofBytes_one] at c2; grind)
      refine ret_wp ?_
      try dsimp only
      simp only [vd1, vd2, vd3, vd4, vd5, vd6, vd7, reduceCtorEq, Option.some.injEq, vn_rw, va_rw, isNone_f, isNone_t, vi_cell_I, vi_cell_E0, vi_cell_E1, vi_cell_A0, vi_cell_A1, vi_cell_A2, vb_ite, vi_ite, updD, seq_b, byD_rw, ofBytes_one]; have h : ¬can s := (fun h => c2 (by rw [← hc h]; exact can_prt h)); rw [rd_no h, decide_eq_false h]; exact ⟨rfl, rfl⟩
  · replace c1 : ¬(isNilI f1.1 = true) := by first | simpa only [vd1, vd2, vd3, vd4, vd5, vd6, vd7, reduceCtorEq, Option.some.injEq, vn_rw, va_rw, isNone_f, isNone_t, vi_cell_I, vi_cell_E0, vi_cell_E1, vi_cell_A0, vi_cell_A1, vi_cell_A2, vb_ite, vi_ite, updD, seq_b, byD_rw, ofBytes_one] using c1 | (simp only [vd1, vd2, vd3, vd4, vd5, vd6, vd7, reduceCtorEq, Option.some.injEq, vn_rw, va_rw, isNone_f, isNone_t, vi_cell_I, vi_cell_E0, vi_cell_E1, vi_cell_A0, vi_cell_A1, vi_cell_A2, vb_ite, vi_ite, updD, seq_b, byD_rw, ofBytes_one] at c1; grind)
    have hc : ¬can s := fun h => by rcases hf1 with ⟨h2, _⟩ | ⟨_, h2⟩; rw [h2] at c1; exact c1 rfl; exact h2 _ (atoi_can h)
    refine ret_wp ?_
    try dsimp only
    simp only [vd1, vd2, vd3, vd4, vd5, vd6, vd7, reduceCtorEq, Option.some.injEq, vn_rw, va_rw, isNone_f, isNone_t, vi_cell_I, vi_cell_E0, vi_cell_E1, vi_cell_A0, vi_cell_A1, vi_cell_A2, vb_ite, vi_ite, updD, seq_b, byD_rw, ofBytes_one]; rw [rd_no hc, decide_eq_false hc]; exact ⟨rfl, rfl⟩
def kParseR (sg : Sig) : Sig × Con := (sg, mkRel (fun x : ByteArray => ([aS x] : List Atom)) (fun _ => True) (fun x : Int × Bool => ([aI x.1, aB x.2] : List Atom)) parR)
set_option maxHeartbeats 1000000 in
theorem h14 : holds Tryd.prog (kParseR sg14) := by
  refine fn_holds (l := [kPrint sg12]) ⟨h12, trivial⟩ hP rs14 (inj_of (fun l : List Atom => (vs (l.getD 0 atom0).1 : ByteArray)) (fun _ => rfl)) Tryd.func14 (by kernel_rfl) (c := code Tryd.f14) (by kernel_rfl) (an := an14) (by kernel_rfl) (pk := pk14) rfl (t := t14) (by kernel_rfl) ?_
  rintro s hpre
  refine ⟨by simp [pk14, KindsOk, RK.ok, Rw.atom, Sl.atom], ?_⟩
  unfold t14
  refine br_wp (fun c1 => ?_) (fun c1 => ?_)
  · replace c1 : (s.size : Int) < 1 := by first | simpa only [vd1, vd2, vd3, vd4, vd5, vd6, vd7, reduceCtorEq, Option.some.injEq, vn_rw, va_rw, isNone_f, isNone_t, vi_cell_I, vi_cell_E0, vi_cell_E1, vi_cell_A0, vi_cell_A1, vi_cell_A2, vb_ite, vi_ite, updD, seq_b, byD_rw, ofBytes_one] using c1 | (simp only [vd1, vd2, vd3, vd4, vd5, vd6, vd7, reduceCtorEq, Option.some.injEq, vn_rw, va_rw, isNone_f, isNone_t, vi_cell_I, vi_cell_E0, vi_cell_E1, vi_cell_A0, vi_cell_A1, vi_cell_A2, vb_ite, vi_ite, updD, seq_b, byD_rw, ofBytes_one] at c1; grind)
    refine ret_wp ?_
    refine ⟨(0, false), by first | (simp only [vd1, vd2, vd3, vd4, vd5, vd6, vd7, reduceCtorEq, Option.some.injEq, vn_rw, va_rw, isNone_f, isNone_t, vi_cell_I, vi_cell_E0, vi_cell_E1, vi_cell_A0, vi_cell_A1, vi_cell_A2, vb_ite, vi_ite, updD, seq_b, byD_rw, ofBytes_one]; done) | (simp only [vd1, vd2, vd3, vd4, vd5, vd6, vd7, reduceCtorEq, Option.some.injEq, vn_rw, va_rw, isNone_f, isNone_t, vi_cell_I, vi_cell_E0, vi_cell_E1, vi_cell_A0, vi_cell_A1, vi_cell_A2, vb_ite, vi_ite, updD, seq_b, byD_rw, ofBytes_one]; rfl), ?_⟩
    try dsimp only
    exact par_no (fun h => by have := can_len h; omega)
  · replace c1 : ¬((s.size : Int) < 1) := by first | simpa only [vd1, vd2, vd3, vd4, vd5, vd6, vd7, reduceCtorEq, Option.some.injEq, vn_rw, va_rw, isNone_f, isNone_t, vi_cell_I, vi_cell_E0, vi_cell_E1, vi_cell_A0, vi_cell_A1, vi_cell_A2, vb_ite, vi_ite, updD, seq_b, byD_rw, ofBytes_one] using c1 | (simp only [vd1, vd2, vd3, vd4, vd5, vd6, vd7, reduceCtorEq, Option.some.injEq, vn_rw, va_rw, isNone_f, isNone_t, vi_cell_I, vi_cell_E0, vi_cell_E1, vi_cell_A0, vi_cell_A1, vi_cell_A2, vb_ite, vi_ite, updD, seq_b, byD_rw, ofBytes_one] at c1; grind)
    refine br_wp (fun c2 => ?_) (fun c2 => ?_)
    · replace c2 : (s.size : Int) > 20 := by first | simpa only [vd1, vd2, vd3, vd4, vd5, vd6, vd7, reduceCtorEq, Option.some.injEq, vn_rw, va_rw, isNone_f, isNone_t, vi_cell_I, vi_cell_E0, vi_cell_E1, vi_cell_A0, vi_cell_A1, vi_cell_A2, vb_ite, vi_ite, updD, seq_b, byD_rw, ofBytes_one] using c2 | (simp only [vd1, vd2, vd3, vd4, vd5, vd6, vd7, reduceCtorEq, Option.some.injEq, vn_rw, va_rw, isNone_f, isNone_t, vi_cell_I, vi_cell_E0, vi_cell_E1, vi_cell_A0, vi_cell_A1, vi_cell_A2, vb_ite, vi_ite, updD, seq_b, byD_rw, ofBytes_one] at c2; grind)
      refine ret_wp ?_
      refine ⟨(0, false), by first | (simp only [vd1, vd2, vd3, vd4, vd5, vd6, vd7, reduceCtorEq, Option.some.injEq, vn_rw, va_rw, isNone_f, isNone_t, vi_cell_I, vi_cell_E0, vi_cell_E1, vi_cell_A0, vi_cell_A1, vi_cell_A2, vb_ite, vi_ite, updD, seq_b, byD_rw, ofBytes_one]; done) | (simp only [vd1, vd2, vd3, vd4, vd5, vd6, vd7, reduceCtorEq, Option.some.injEq, vn_rw, va_rw, isNone_f, isNone_t, vi_cell_I, vi_cell_E0, vi_cell_E1, vi_cell_A0, vi_cell_A1, vi_cell_A2, vb_ite, vi_ite, updD, seq_b, byD_rw, ofBytes_one]; rfl), ?_⟩
      try dsimp only
      exact par_no (fun h => by have := can_len h; omega)
    · replace c2 : ¬((s.size : Int) > 20) := by first | simpa only [vd1, vd2, vd3, vd4, vd5, vd6, vd7, reduceCtorEq, Option.some.injEq, vn_rw, va_rw, isNone_f, isNone_t, vi_cell_I, vi_cell_E0, vi_cell_E1, vi_cell_A0, vi_cell_A1, vi_cell_A2, vb_ite, vi_ite, updD, seq_b, byD_rw, ofBytes_one] using c2 | (simp only [vd1, vd2, vd3, vd4, vd5, vd6, vd7, reduceCtorEq, Option.some.injEq, vn_rw, va_rw, isNone_f, isNone_t, vi_cell_I, vi_cell_E0, vi_cell_E1, vi_cell_A0, vi_cell_A1, vi_cell_A2, vb_ite, vi_ite, updD, seq_b, byD_rw, ofBytes_one] at c2; grind)
      refine loop_wp (fun bs0 => ∃ (n : Int) (i : Int), bs0 = [aI n, aI i] ∧ (0 ≤ i ∧ i ≤ (s.size : Int) ∧ n = IntKind.i64.wrap (vl (body (ls s) i.toNat) : Int))) (fun bs0 => ((s.size : Int) - vi (bs0.getD 1 atom0).1).toNat) ?_ ?_
      · refine ⟨0, 0, by simp only [vd1, vd2, vd3, vd4, vd5, vd6, vd7, reduceCtorEq, Option.some.injEq, vn_rw, va_rw, isNone_f, isNone_t, vi_cell_I, vi_cell_E0, vi_cell_E1, vi_cell_A0, vi_cell_A1, vi_cell_A2, vb_ite, vi_ite, updD, seq_b, byD_rw, ofBytes_one, Rw.atom, Rw.nil, List.length_nil, List.map_nil], ?_⟩
        exact ⟨by omega, by omega, by simp [body_zero, vl, vl0]; rfl⟩
      rintro _ _ ⟨n, i, rfl, ⟨i0, i1, hn⟩⟩
      refine br_wp (fun c3 => ?_) (fun c3 => ?_)
      · replace c3 : i < (s.size : Int) := by first | simpa only [vd1, vd2, vd3, vd4, vd5, vd6, vd7, reduceCtorEq, Option.some.injEq, vn_rw, va_rw, isNone_f, isNone_t, vi_cell_I, vi_cell_E0, vi_cell_E1, vi_cell_A0, vi_cell_A1, vi_cell_A2, vb_ite, vi_ite, updD, seq_b, byD_rw, ofBytes_one] using c3 | (simp only [vd1, vd2, vd3, vd4, vd5, vd6, vd7, reduceCtorEq, Option.some.injEq, vn_rw, va_rw, isNone_f, isNone_t, vi_cell_I, vi_cell_E0, vi_cell_E1, vi_cell_A0, vi_cell_A1, vi_cell_A2, vb_ite, vi_ite, updD, seq_b, byD_rw, ofBytes_one] at c3; grind)
        refine br_wp (fun c4 => ?_) (fun c4 => ?_)
        · replace c4 : i = 0 := by first | simpa only [vd1, vd2, vd3, vd4, vd5, vd6, vd7, reduceCtorEq, Option.some.injEq, vn_rw, va_rw, isNone_f, isNone_t, vi_cell_I, vi_cell_E0, vi_cell_E1, vi_cell_A0, vi_cell_A1, vi_cell_A2, vb_ite, vi_ite, updD, seq_b, byD_rw, ofBytes_one] using c4 | (simp only [vd1, vd2, vd3, vd4, vd5, vd6, vd7, reduceCtorEq, Option.some.injEq, vn_rw, va_rw, isNone_f, isNone_t, vi_cell_I, vi_cell_E0, vi_cell_E1, vi_cell_A0, vi_cell_A1, vi_cell_A2, vb_ite, vi_ite, updD, seq_b, byD_rw, ofBytes_one] at c4; grind)
          obtain ⟨ch_, hl, hb⟩ := byteAt_is (s := s) (i := i) (by omega) (by omega)
          have wi : IntKind.i64.wrap (i + 1) = i + 1 := wrap_id _ (by omega) (by omega)
          refine need_wp (by simp only [vd1, vd2, vd3, vd4, vd5, vd6, vd7, reduceCtorEq, Option.some.injEq, vn_rw, va_rw, isNone_f, isNone_t, vi_cell_I, vi_cell_E0, vi_cell_E1, vi_cell_A0, vi_cell_A1, vi_cell_A2, vb_ite, vi_ite, updD, seq_b, byD_rw, ofBytes_one, wi, List.length_cons, List.length_nil, List.length_append, List.length_set]; first | omega | (grind)) ?_
          refine br_wp (fun c5 => ?_) (fun c5 => ?_)
          · replace c5 : (byteAt s 0) = 45 := by first | simpa only [vd1, vd2, vd3, vd4, vd5, vd6, vd7, reduceCtorEq, Option.some.injEq, vn_rw, va_rw, isNone_f, isNone_t, vi_cell_I, vi_cell_E0, vi_cell_E1, vi_cell_A0, vi_cell_A1, vi_cell_A2, vb_ite, vi_ite, updD, seq_b, byD_rw, ofBytes_one, wi] using c5 | (simp only [vd1, vd2, vd3, vd4, vd5, vd6, vd7, reduceCtorEq, Option.some.injEq, vn_rw, va_rw, isNone_f, isNone_t, vi_cell_I, vi_cell_E0, vi_cell_E1, vi_cell_A0, vi_cell_A1, vi_cell_A2, vb_ite, vi_ite, updD, seq_b, byD_rw, ofBytes_one, wi] at c5; grind)
            refine again_wp rfl ⟨n, (i + 1), by simp only [vd1, vd2, vd3, vd4, vd5, vd6, vd7, reduceCtorEq, Option.some.injEq, vn_rw, va_rw, isNone_f, isNone_t, vi_cell_I, vi_cell_E0, vi_cell_E1, vi_cell_A0, vi_cell_A1, vi_cell_A2, vb_ite, vi_ite, updD, seq_b, byD_rw, ofBytes_one, wi], ?_⟩ ?_
            · have h0 : i = 0 := (by omega); subst h0; have h45 : (ls s)[0]? = some 45 := (by have : ch_ = 45 := (UInt8.toNat_inj.1 (by rw [hb] at c5; simpa using Int.ofNat.inj c5)); rw [← this]; exact hl); exact ⟨by omega, by omega, by rw [hn, show ((0:Int) + 1).toNat = 1 from rfl, body_one h45]; simp [body_zero]⟩
            · (try simp only [vd1, vd2, vd3, vd4, vd5, vd6, vd7, reduceCtorEq, Option.some.injEq, vn_rw, va_rw, isNone_f, isNone_t, vi_cell_I, vi_cell_E0, vi_cell_E1, vi_cell_A0, vi_cell_A1, vi_cell_A2, vb_ite, vi_ite, updD, seq_b, byD_rw, ofBytes_one, wi]); omega
          · replace c5 : ¬((byteAt s 0) = 45) := by first | simpa only [vd1, vd2, vd3, vd4, vd5, vd6, vd7, reduceCtorEq, Option.some.injEq, vn_rw, va_rw, isNone_f, isNone_t, vi_cell_I, vi_cell_E0, vi_cell_E1, vi_cell_A0, vi_cell_A1, vi_cell_A2, vb_ite, vi_ite, updD, seq_b, byD_rw, ofBytes_one, wi] using c5 | (simp only [vd1, vd2, vd3, vd4, vd5, vd6, vd7, reduceCtorEq, Option.some.injEq, vn_rw, va_rw, isNone_f, isNone_t, vi_cell_I, vi_cell_E0, vi_cell_E1, vi_cell_A0, vi_cell_A1, vi_cell_A2, vb_ite, vi_ite, updD, seq_b, byD_rw, ofBytes_one, wi] at c5; grind)
            refine need_wp (by simp only [vd1, vd2, vd3, vd4, vd5, vd6, vd7, reduceCtorEq, Option.some.injEq, vn_rw, va_rw, isNone_f, isNone_t, vi_cell_I, vi_cell_E0, vi_cell_E1, vi_cell_A0, vi_cell_A1, vi_cell_A2, vb_ite, vi_ite, updD, seq_b, byD_rw, ofBytes_one, wi, List.length_cons, List.length_nil, List.length_append, List.length_set]; first | omega | (grind)) ?_
            refine br_wp (fun c6 => ?_) (fun c6 => ?_)
            · replace c6 : (byteAt s i) < 48 := by first | simpa only [vd1, vd2, vd3, vd4, vd5, vd6, vd7, reduceCtorEq, Option.some.injEq, vn_rw, va_rw, isNone_f, isNone_t, vi_cell_I, vi_cell_E0, vi_cell_E1, vi_cell_A0, vi_cell_A1, vi_cell_A2, vb_ite, vi_ite, updD, seq_b, byD_rw, ofBytes_one, wi] using c6 | (simp only [vd1, vd2, vd3, vd4, vd5, vd6, vd7, reduceCtorEq, Option.some.injEq, vn_rw, va_rw, isNone_f, isNone_t, vi_cell_I, vi_cell_E0, vi_cell_E1, vi_cell_A0, vi_cell_A1, vi_cell_A2, vb_ite, vi_ite, updD, seq_b, byD_rw, ofBytes_one, wi] at c6; grind)
              refine pop_wp ?_
              refine ret_wp ?_
              refine ⟨(0, false), by first | (simp only [vd1, vd2, vd3, vd4, vd5, vd6, vd7, reduceCtorEq, Option.some.injEq, vn_rw, va_rw, isNone_f, isNone_t, vi_cell_I, vi_cell_E0, vi_cell_E1, vi_cell_A0, vi_cell_A1, vi_cell_A2, vb_ite, vi_ite, updD, seq_b, byD_rw, ofBytes_one, wi]; done) | (simp only [vd1, vd2, vd3, vd4, vd5, vd6, vd7, reduceCtorEq, Option.some.injEq, vn_rw, va_rw, isNone_f, isNone_t, vi_cell_I, vi_cell_E0, vi_cell_E1, vi_cell_A0, vi_cell_A1, vi_cell_A2, vb_ite, vi_ite, updD, seq_b, byD_rw, ofBytes_one, wi]; rfl), ?_⟩
              try dsimp only
              exact par_no (fun h => by rcases can_dig h hl with h2 | ⟨h2, h3⟩; (unfold dig at h2; omega); first | omega | (subst h3; have : i = 0 := (by omega); subst this; exact c5 hb))
            · replace c6 : ¬((byteAt s i) < 48) := by first | simpa only [vd1, vd2, vd3, vd4, vd5, vd6, vd7, reduceCtorEq, Option.some.injEq, vn_rw, va_rw, isNone_f, isNone_t, vi_cell_I, vi_cell_E0, vi_cell_E1, vi_cell_A0, vi_cell_A1, vi_cell_A2, vb_ite, vi_ite, updD, seq_b, byD_rw, ofBytes_one, wi] using c6 | (simp only [vd1, vd2, vd3, vd4, vd5, vd6, vd7, reduceCtorEq, Option.some.injEq, vn_rw, va_rw, isNone_f, isNone_t, vi_cell_I, vi_cell_E0, vi_cell_E1, vi_cell_A0, vi_cell_A1, vi_cell_A2, vb_ite, vi_ite, updD, seq_b, byD_rw, ofBytes_one, wi] at c6; grind)
              refine br_wp (fun c7 => ?_) (fun c7 => ?_)
              · replace c7 : (byteAt s i) > 57 := by first | simpa only [vd1, vd2, vd3, vd4, vd5, vd6, vd7, reduceCtorEq, Option.some.injEq, vn_rw, va_rw, isNone_f, isNone_t, vi_cell_I, vi_cell_E0, vi_cell_E1, vi_cell_A0, vi_cell_A1, vi_cell_A2, vb_ite, vi_ite, updD, seq_b, byD_rw, ofBytes_one, wi] using c7 | (simp only [vd1, vd2, vd3, vd4, vd5, vd6, vd7, reduceCtorEq, Option.some.injEq, vn_rw, va_rw, isNone_f, isNone_t, vi_cell_I, vi_cell_E0, vi_cell_E1, vi_cell_A0, vi_cell_A1, vi_cell_A2, vb_ite, vi_ite, updD, seq_b, byD_rw, ofBytes_one, wi] at c7; grind)
                refine pop_wp ?_
                refine ret_wp ?_
                refine ⟨(0, false), by first | (simp only [vd1, vd2, vd3, vd4, vd5, vd6, vd7, reduceCtorEq, Option.some.injEq, vn_rw, va_rw, isNone_f, isNone_t, vi_cell_I, vi_cell_E0, vi_cell_E1, vi_cell_A0, vi_cell_A1, vi_cell_A2, vb_ite, vi_ite, updD, seq_b, byD_rw, ofBytes_one, wi]; done) | (simp only [vd1, vd2, vd3, vd4, vd5, vd6, vd7, reduceCtorEq, Option.some.injEq, vn_rw, va_rw, isNone_f, isNone_t, vi_cell_I, vi_cell_E0, vi_cell_E1, vi_cell_A0, vi_cell_A1, vi_cell_A2, vb_ite, vi_ite, updD, seq_b, byD_rw, ofBytes_one, wi]; rfl), ?_⟩
                try dsimp only
                exact par_no (fun h => by rcases can_dig h hl with h2 | ⟨h2, h3⟩; (unfold dig at h2; omega); first | omega | (subst h3; have : i = 0 := (by omega); subst this; exact c5 hb))
              · replace c7 : ¬((byteAt s i) > 57) := by first | simpa only [vd1, vd2, vd3, vd4, vd5, vd6, vd7, reduceCtorEq, Option.some.injEq, vn_rw, va_rw, isNone_f, isNone_t, vi_cell_I, vi_cell_E0, vi_cell_E1, vi_cell_A0, vi_cell_A1, vi_cell_A2, vb_ite, vi_ite, updD, seq_b, byD_rw, ofBytes_one, wi] using c7 | (simp only [vd1, vd2, vd3, vd4, vd5, vd6, vd7, reduceCtorEq, Option.some.injEq, vn_rw, va_rw, isNone_f, isNone_t, vi_cell_I, vi_cell_E0, vi_cell_E1, vi_cell_A0, vi_cell_A1, vi_cell_A2, vb_ite, vi_ite, updD, seq_b, byD_rw, ofBytes_one, wi] at c7; grind)
                refine again_wp rfl ⟨(IntKind.i64.wrap ((IntKind.i64.wrap ((IntKind.i64.wrap (10 * n)) + (IntKind.i64.wrap (byteAt s i)))) - 48)), (i + 1), by simp only [vd1, vd2, vd3, vd4, vd5, vd6, vd7, reduceCtorEq, Option.some.injEq, vn_rw, va_rw, isNone_f, isNone_t, vi_cell_I, vi_cell_E0, vi_cell_E1, vi_cell_A0, vi_cell_A1, vi_cell_A2, vb_ite, vi_ite, updD, seq_b, byD_rw, ofBytes_one, wi], ?_⟩ ?_
                · refine ⟨by omega, by omega, ?_⟩; rw [hb, hn, show (i + 1).toNat = i.toNat + 1 by omega, body_succ hl (fun h => by obtain ⟨h2, h3⟩ := h; subst h3; have : i = 0 := (by omega); subst this; exact c5 hb), vl_app]; exact wrap_step _ (by unfold dig; omega)
                · (try simp only [vd1, vd2, vd3, vd4, vd5, vd6, vd7, reduceCtorEq, Option.some.injEq, vn_rw, va_rw, isNone_f, isNone_t, vi_cell_I, vi_cell_E0, vi_cell_E1, vi_cell_A0, vi_cell_A1, vi_cell_A2, vb_ite, vi_ite, updD, seq_b, byD_rw, ofBytes_one, wi]); omega
        · replace c4 : ¬(i = 0) := by first | simpa only [vd1, vd2, vd3, vd4, vd5, vd6, vd7, reduceCtorEq, Option.some.injEq, vn_rw, va_rw, isNone_f, isNone_t, vi_cell_I, vi_cell_E0, vi_cell_E1, vi_cell_A0, vi_cell_A1, vi_cell_A2, vb_ite, vi_ite, updD, seq_b, byD_rw, ofBytes_one] using c4 | (simp only [vd1, vd2, vd3, vd4, vd5, vd6, vd7, reduceCtorEq, Option.some.injEq, vn_rw, va_rw, isNone_f, isNone_t, vi_cell_I, vi_cell_E0, vi_cell_E1, vi_cell_A0, vi_cell_A1, vi_cell_A2, vb_ite, vi_ite, updD, seq_b, byD_rw, ofBytes_one] at c4; grind)
          obtain ⟨ch_, hl, hb⟩ := byteAt_is (s := s) (i := i) (by omega) (by omega)
          have wi : IntKind.i64.wrap (i + 1) = i + 1 := wrap_id _ (by omega) (by omega)
          refine need_wp (by simp only [vd1, vd2, vd3, vd4, vd5, vd6, vd7, reduceCtorEq, Option.some.injEq, vn_rw, va_rw, isNone_f, isNone_t, vi_cell_I, vi_cell_E0, vi_cell_E1, vi_cell_A0, vi_cell_A1, vi_cell_A2, vb_ite, vi_ite, updD, seq_b, byD_rw, ofBytes_one, wi, List.length_cons, List.length_nil, List.length_append, List.length_set]; first | omega | (grind)) ?_
          refine br_wp (fun c8 => ?_) (fun c8 => ?_)
          · replace c8 : (byteAt s i) < 48 := by first | simpa only [vd1, vd2, vd3, vd4, vd5, vd6, vd7, reduceCtorEq, Option.some.injEq, vn_rw, va_rw, isNone_f, isNone_t, vi_cell_I, vi_cell_E0, vi_cell_E1, vi_cell_A0, vi_cell_A1, vi_cell_A2, vb_ite, vi_ite, updD, seq_b, byD_rw, ofBytes_one, wi] using c8 | (simp only [vd1, vd2, vd3, vd4, vd5, vd6, vd7, reduceCtorEq, Option.some.injEq, vn_rw, va_rw, isNone_f, isNone_t, vi_cell_I, vi_cell_E0, vi_cell_E1, vi_cell_A0, vi_cell_A1, vi_cell_A2, vb_ite, vi_ite, updD, seq_b, byD_rw, ofBytes_one, wi] at c8; grind)
            refine pop_wp ?_
            refine ret_wp ?_
            refine ⟨(0, false), by first | (simp only [vd1, vd2, vd3, vd4, vd5, vd6, vd7, reduceCtorEq, Option.some.injEq, vn_rw, va_rw, isNone_f, isNone_t, vi_cell_I, vi_cell_E0, vi_cell_E1, vi_cell_A0, vi_cell_A1, vi_cell_A2, vb_ite, vi_ite, updD, seq_b, byD_rw, ofBytes_one, wi]; done) | (simp only [vd1, vd2, vd3, vd4, vd5, vd6, vd7, reduceCtorEq, Option.some.injEq, vn_rw, va_rw, isNone_f, isNone_t, vi_cell_I, vi_cell_E0, vi_cell_E1, vi_cell_A0, vi_cell_A1, vi_cell_A2, vb_ite, vi_ite, updD, seq_b, byD_rw, ofBytes_one, wi]; rfl), ?_⟩
            try dsimp only
            exact par_no (fun h => by rcases can_dig h hl with h2 | ⟨h2, h3⟩; (unfold dig at h2; omega); first | omega | (subst h3; have : i = 0 := (by omega); subst this; exact c5 hb))
          · replace c8 : ¬((byteAt s i) < 48) := by first | simpa only [vd1, vd2, vd3, vd4, vd5, vd6, vd7, reduceCtorEq, Option.some.injEq, vn_rw, va_rw, isNone_f, isNone_t, vi_cell_I, vi_cell_E0, vi_cell_E1, vi_cell_A0, vi_cell_A1, vi_cell_A2, vb_ite, vi_ite, updD, seq_b, byD_rw, ofBytes_one, wi] using c8 | (simp only [vd1, vd2, vd3, vd4, vd5, vd6, vd7, reduceCtorEq, Option.some.injEq, vn_rw, va_rw, isNone_f, isNone_t, vi_cell_I, vi_cell_E0, vi_cell_E1, vi_cell_A0, vi_cell_A1, vi_cell_A2, vb_ite, vi_ite, updD, seq_b, byD_rw, ofBytes_one, wi] at c8; grind)
            refine br_wp (fun c9 => ?_) (fun c9 => ?_)
            · replace c9 : (byteAt s i) > 57 := by first | simpa only [vd1, vd2, vd3, vd4, vd5, vd6, vd7, reduceCtorEq, Option.some.injEq, vn_rw, va_rw, isNone_f, isNone_t, vi_cell_I, vi_cell_E0, vi_cell_E1, vi_cell_A0, vi_cell_A1, vi_cell_A2, vb_ite, vi_ite, updD, seq_b, byD_rw, ofBytes_one, wi] using c9 | (simp only [vd1, vd2, vd3, vd4, vd5, vd6, vd7, reduceCtorEq, Option.some.injEq, vn_rw, va_rw, isNone_f, isNone_t, vi_cell_I, vi_cell_E0, vi_cell_E1, vi_cell_A0, vi_cell_A1, vi_cell_A2, vb_ite, vi_ite, updD, seq_b, byD_rw, ofBytes_one, wi] at c9; grind)
              refine pop_wp ?_
              refine ret_wp ?_
              refine ⟨(0, false), by first | (simp only [vd1, vd2, vd3, vd4, vd5, vd6, vd7, reduceCtorEq, Option.some.injEq, vn_rw, va_rw, isNone_f, isNone_t, vi_cell_I, vi_cell_E0, vi_cell_E1, vi_cell_A0, vi_cell_A1, vi_cell_A2, vb_ite, vi_ite, updD, seq_b, byD_rw, ofBytes_one, wi]; done) | (simp only [vd1, vd2, vd3, vd4, vd5, vd6, vd7, reduceCtorEq, Option.some.injEq, vn_rw, va_rw, isNone_f, isNone_t, vi_cell_I, vi_cell_E0, vi_cell_E1, vi_cell_A0, vi_cell_A1, vi_cell_A2, vb_ite, vi_ite, updD, seq_b, byD_rw, ofBytes_one, wi]; rfl), ?_⟩
              try dsimp only
              exact par_no (fun h => by rcases can_dig h hl with h2 | ⟨h2, h3⟩; (unfold dig at h2; omega); first | omega | (subst h3; have : i = 0 := (by omega); subst this; exact c5 hb))
            · replace c9 : ¬((byteAt s i) > 57) := by first | simpa only [vd1, vd2, vd3, vd4, vd5, vd6, vd7, reduceCtorEq, Option.some.injEq, vn_rw, va_rw, isNone_f, isNone_t, vi_cell_I, vi_cell_E0, vi_cell_E1, vi_cell_A0, vi_cell_A1, vi_cell_A2, vb_ite, vi_ite, updD, seq_b, byD_rw, ofBytes_one, wi] using c9 | (simp only [vd1, vd2, vd3, vd4, vd5, vd6, vd7, reduceCtorEq, Option.some.injEq, vn_rw, va_rw, isNone_f, isNone_t, vi_cell_I, vi_cell_E0, vi_cell_E1, vi_cell_A0, vi_cell_A1, vi_cell_A2, vb_ite, vi_ite, updD, seq_b, byD_rw, ofBytes_one, wi] at c9; grind)
              refine again_wp rfl ⟨(IntKind.i64.wrap ((IntKind.i64.wrap ((IntKind.i64.wrap (10 * n)) + (IntKind.i64.wrap (byteAt s i)))) - 48)), (i + 1), by simp only [vd1, vd2, vd3, vd4, vd5, vd6, vd7, reduceCtorEq, Option.some.injEq, vn_rw, va_rw, isNone_f, isNone_t, vi_cell_I, vi_cell_E0, vi_cell_E1, vi_cell_A0, vi_cell_A1, vi_cell_A2, vb_ite, vi_ite, updD, seq_b, byD_rw, ofBytes_one, wi], ?_⟩ ?_
              · refine ⟨by omega, by omega, ?_⟩; rw [hb, hn, show (i + 1).toNat = i.toNat + 1 by omega, body_succ hl (fun h => by obtain ⟨h2, h3⟩ := h; omega), vl_app]; exact wrap_step _ (by unfold dig; omega)
              · (try simp only [vd1, vd2, vd3, vd4, vd5, vd6, vd7, reduceCtorEq, Option.some.injEq, vn_rw, va_rw, isNone_f, isNone_t, vi_cell_I, vi_cell_E0, vi_cell_E1, vi_cell_A0, vi_cell_A1, vi_cell_A2, vb_ite, vi_ite, updD, seq_b, byD_rw, ofBytes_one, wi]); omega
      · replace c3 : ¬(i < (s.size : Int)) := by first | simpa only [vd1, vd2, vd3, vd4, vd5, vd6, vd7, reduceCtorEq, Option.some.injEq, vn_rw, va_rw, isNone_f, isNone_t, vi_cell_I, vi_cell_E0, vi_cell_E1, vi_cell_A0, vi_cell_A1, vi_cell_A2, vb_ite, vi_ite, updD, seq_b, byD_rw, ofBytes_one] using c3 | (simp only [vd1, vd2, vd3, vd4, vd5, vd6, vd7, reduceCtorEq, Option.some.injEq, vn_rw, va_rw, isNone_f, isNone_t, vi_cell_I, vi_cell_E0, vi_cell_E1, vi_cell_A0, vi_cell_A1, vi_cell_A2, vb_ite, vi_ite, updD, seq_b, byD_rw, ofBytes_one] at c3; grind)
        have hi : i.toNat = (ls s).length := by have := size_ls s; omega
        rw [hi] at hn
        have hv := sgn_val (ls s)
        unfold sgn at hv
        obtain ⟨ch_, hl, hb⟩ := byteAt_is (s := s) (i := 0) (by omega) (by omega)
        have hh := List.head?_eq_getElem? (l := ls s)
        have hl0 : (ls s)[0]? = some ch_ := hl
        refine pop_wp ?_
        refine need_wp (by simp only [vd1, vd2, vd3, vd4, vd5, vd6, vd7, reduceCtorEq, Option.some.injEq, vn_rw, va_rw, isNone_f, isNone_t, vi_cell_I, vi_cell_E0, vi_cell_E1, vi_cell_A0, vi_cell_A1, vi_cell_A2, vb_ite, vi_ite, updD, seq_b, byD_rw, ofBytes_one, List.length_cons, List.length_nil, List.length_append, List.length_set]; first | omega | (grind)) ?_
        refine br_wp (fun c10 => ?_) (fun c10 => ?_)
        · replace c10 : (byteAt s 0) = 45 := by first | simpa only [vd1, vd2, vd3, vd4, vd5, vd6, vd7, reduceCtorEq, Option.some.injEq, vn_rw, va_rw, isNone_f, isNone_t, vi_cell_I, vi_cell_E0, vi_cell_E1, vi_cell_A0, vi_cell_A1, vi_cell_A2, vb_ite, vi_ite, updD, seq_b, byD_rw, ofBytes_one] using c10 | (simp only [vd1, vd2, vd3, vd4, vd5, vd6, vd7, reduceCtorEq, Option.some.injEq, vn_rw, va_rw, isNone_f, isNone_t, vi_cell_I, vi_cell_E0, vi_cell_E1, vi_cell_A0, vi_cell_A1, vi_cell_A2, vb_ite, vi_ite, updD, seq_b, byD_rw, ofBytes_one] at c10; grind)
          refine call_fun ((IntKind.i64.wrap (0 - n))) rfl (by simp only [vd1, vd2, vd3, vd4, vd5, vd6, vd7, reduceCtorEq, Option.some.injEq, vn_rw, va_rw, isNone_f, isNone_t, vi_cell_I, vi_cell_E0, vi_cell_E1, vi_cell_A0, vi_cell_A1, vi_cell_A2, vb_ite, vi_ite, updD, seq_b, byD_rw, ofBytes_one]) (wrap_in64 _) ?_
          refine ret_wp ?_
          refine ⟨((IntKind.i64.wrap (0 - n)), (decide ((prt (IntKind.i64.wrap (0 - n))) = s))), by first | (simp only [vd1, vd2, vd3, vd4, vd5, vd6, vd7, reduceCtorEq, Option.some.injEq, vn_rw, va_rw, isNone_f, isNone_t, vi_cell_I, vi_cell_E0, vi_cell_E1, vi_cell_A0, vi_cell_A1, vi_cell_A2, vb_ite, vi_ite, updD, seq_b, byD_rw, ofBytes_one]; done) | (simp only [vd1, vd2, vd3, vd4, vd5, vd6, vd7, reduceCtorEq, Option.some.injEq, vn_rw, va_rw, isNone_f, isNone_t, vi_cell_I, vi_cell_E0, vi_cell_E1, vi_cell_A0, vi_cell_A1, vi_cell_A2, vb_ite, vi_ite, updD, seq_b, byD_rw, ofBytes_one]; rfl), ?_⟩
          try dsimp only
          exact par_yes (wrap_in64 _) (fun h => by have h45 : ch_ = 45 := (UInt8.toNat_inj.1 (by rw [hb] at c10; simpa using Int.ofNat.inj c10)); rw [hh, hl0, h45, if_pos rfl] at hv; rw [hn, wrap_neg, hv]; exact wrap_in h.1)
        · replace c10 : ¬((byteAt s 0) = 45) := by first | simpa only [vd1, vd2, vd3, vd4, vd5, vd6, vd7, reduceCtorEq, Option.some.injEq, vn_rw, va_rw, isNone_f, isNone_t, vi_cell_I, vi_cell_E0, vi_cell_E1, vi_cell_A0, vi_cell_A1, vi_cell_A2, vb_ite, vi_ite, updD, seq_b, byD_rw, ofBytes_one] using c10 | (simp only [vd1, vd2, vd3, vd4, vd5, vd6, vd7, reduceCtorEq, Option.some.injEq, vn_rw, va_rw, isNone_f, isNone_t, vi_cell_I, vi_cell_E0, vi_cell_E1, vi_cell_A0, vi_cell_A1, vi_cell_A2, vb_ite, vi_ite, updD, seq_b, byD_rw, ofBytes_one] at c10; grind)
          refine call_fun (n) rfl (by simp only [vd1, vd2, vd3, vd4, vd5, vd6, vd7, reduceCtorEq, Option.some.injEq, vn_rw, va_rw, isNone_f, isNone_t, vi_cell_I, vi_cell_E0, vi_cell_E1, vi_cell_A0, vi_cell_A1, vi_cell_A2, vb_ite, vi_ite, updD, seq_b, byD_rw, ofBytes_one]) (by rw [hn]; exact wrap_in64 _) ?_
          refine ret_wp ?_
          refine ⟨(n, (decide ((prt n) = s))), by first | (simp only [vd1, vd2, vd3, vd4, vd5, vd6, vd7, reduceCtorEq, Option.some.injEq, vn_rw, va_rw, isNone_f, isNone_t, vi_cell_I, vi_cell_E0, vi_cell_E1, vi_cell_A0, vi_cell_A1, vi_cell_A2, vb_ite, vi_ite, updD, seq_b, byD_rw, ofBytes_one]; done) | (simp only [vd1, vd2, vd3, vd4, vd5, vd6, vd7, reduceCtorEq, Option.some.injEq, vn_rw, va_rw, isNone_f, isNone_t, vi_cell_I, vi_cell_E0, vi_cell_E1, vi_cell_A0, vi_cell_A1, vi_cell_A2, vb_ite, vi_ite, updD, seq_b, byD_rw, ofBytes_one]; rfl), ?_⟩
          try dsimp only
          exact par_yes (by rw [hn]; exact wrap_in64 _) (fun h => by have h45 : ¬ch_ = 45 := (fun e => c10 (by rw [hb, e]; rfl)); rw [hh, hl0, if_neg (fun e => h45 (Option.some.inj e))] at hv; rw [hn, hv]; exact wrap_in h.1)
def kUpto (sg : Sig) : Sig × Con := (sg, mkFun (fun x : ByteArray × Int × Int × Gh => ([aS x.1, aI x.2.1, aI x.2.2.1, Rw.atom eF x.2.2.2.a, Rw.atom eF x.2.2.2.b] : List Atom)) (fun x => x.1.size ≤ 281474976710656 ∧ pG x.2.2.2) (fun x => [aI (if upt x.1 x.2.1 x.2.2.1 then val (ls x.1) else 0), aB (decide (upt x.1 x.2.1 x.2.2.1))]))
set_option maxHeartbeats 1000000 in
theorem h15 : holds Tryd.prog (kUpto sg15) := by
  refine fn_holdsH (inl := []) (l := [kParse sg10]) ⟨h10, trivial⟩ trivial hP gh15 rs15 (inj_of (fun l : List Atom => ((vs (l.getD 0 atom0).1, vi (l.getD 1 atom0).1, vi (l.getD 2 atom0).1, (⟨Rw.un unF (l.getD 3 atom0), Rw.un unF (l.getD 4 atom0)⟩ : Gh)) : ByteArray × Int × Int × Gh)) (fun _ => by simp [List.getD_cons_zero, List.getD_cons_succ, unA_atom, unF_at])) Tryd.func15 (by kernel_rfl) (c := code Tryd.f15) (by kernel_rfl) (an := an15) (by kernel_rfl) (pk := pk15g) rfl (t := t15) (by kernel_rfl) ?_
  rintro ⟨s, a, b, q⟩ hnil hp
  refine ⟨by simp [pk15g, pk15, KindsOk, RK.ok, Rw.atom, Sl.atom], ?_⟩
  unfold t15
  refine call_fun ((s, q)) rfl (by simp only [vd1, vd2, vd3, vd4, vd5, vd6, vd7, reduceCtorEq, Option.some.injEq, vn_rw, va_rw, isNone_f, isNone_t, vi_cell_I, vi_cell_E0, vi_cell_E1, vi_cell_A0, vi_cell_A1, vi_cell_A2, vb_ite, vi_ite, updD, seq_b, byD_rw, ofBytes_one]) hp ?_
  refine br_wp (fun c1 => ?_) (fun c1 => ?_)
  · replace c1 : can s := by first | simpa only [vd1, vd2, vd3, vd4, vd5, vd6, vd7, reduceCtorEq, Option.some.injEq, vn_rw, va_rw, isNone_f, isNone_t, vi_cell_I, vi_cell_E0, vi_cell_E1, vi_cell_A0, vi_cell_A1, vi_cell_A2, vb_ite, vi_ite, updD, seq_b, byD_rw, ofBytes_one] using c1 | (simp only [vd1, vd2, vd3, vd4, vd5, vd6, vd7, reduceCtorEq, Option.some.injEq, vn_rw, va_rw, isNone_f, isNone_t, vi_cell_I, vi_cell_E0, vi_cell_E1, vi_cell_A0, vi_cell_A1, vi_cell_A2, vb_ite, vi_ite, updD, seq_b, byD_rw, ofBytes_one] at c1; grind)
    have hc := c1
    have hv := rd_yes hc
    refine br_wp (fun c2 => ?_) (fun c2 => ?_)
    · replace c2 : (rd s) < a := by first | simpa only [vd1, vd2, vd3, vd4, vd5, vd6, vd7, reduceCtorEq, Option.some.injEq, vn_rw, va_rw, isNone_f, isNone_t, vi_cell_I, vi_cell_E0, vi_cell_E1, vi_cell_A0, vi_cell_A1, vi_cell_A2, vb_ite, vi_ite, updD, seq_b, byD_rw, ofBytes_one] using c2 | (simp only [vd1, vd2, vd3, vd4, vd5, vd6, vd7, reduceCtorEq, Option.some.injEq, vn_rw, va_rw, isNone_f, isNone_t, vi_cell_I, vi_cell_E0, vi_cell_E1, vi_cell_A0, vi_cell_A1, vi_cell_A2, vb_ite, vi_ite, updD, seq_b, byD_rw, ofBytes_one] at c2; grind)
      refine ret_wp ?_
      try dsimp only
      simp only [vd1, vd2, vd3, vd4, vd5, vd6, vd7, reduceCtorEq, Option.some.injEq, vn_rw, va_rw, isNone_f, isNone_t, vi_cell_I, vi_cell_E0, vi_cell_E1, vi_cell_A0, vi_cell_A1, vi_cell_A2, vb_ite, vi_ite, updD, seq_b, byD_rw, ofBytes_one]; rw [if_neg (fun h => by have := h.2; omega), decide_eq_false (fun h => by have := h.2; omega)]; exact ⟨rfl, rfl⟩
    · replace c2 : ¬((rd s) < a) := by first | simpa only [vd1, vd2, vd3, vd4, vd5, vd6, vd7, reduceCtorEq, Option.some.injEq, vn_rw, va_rw, isNone_f, isNone_t, vi_cell_I, vi_cell_E0, vi_cell_E1, vi_cell_A0, vi_cell_A1, vi_cell_A2, vb_ite, vi_ite, updD, seq_b, byD_rw, ofBytes_one] using c2 | (simp only [vd1, vd2, vd3, vd4, vd5, vd6, vd7, reduceCtorEq, Option.some.injEq, vn_rw, va_rw, isNone_f, isNone_t, vi_cell_I, vi_cell_E0, vi_cell_E1, vi_cell_A0, vi_cell_A1, vi_cell_A2, vb_ite, vi_ite, updD, seq_b, byD_rw, ofBytes_one] at c2; grind)
      refine br_wp (fun c3 => ?_) (fun c3 => ?_)
      · replace c3 : (rd s) > b := by first | simpa only [vd1, vd2, vd3, vd4, vd5, vd6, vd7, reduceCtorEq, Option.some.injEq, vn_rw, va_rw, isNone_f, isNone_t, vi_cell_I, vi_cell_E0, vi_cell_E1, vi_cell_A0, vi_cell_A1, vi_cell_A2, vb_ite, vi_ite, updD, seq_b, byD_rw, ofBytes_one] using c3 | (simp only [vd1, vd2, vd3, vd4, vd5, vd6, vd7, reduceCtorEq, Option.some.injEq, vn_rw, va_rw, isNone_f, isNone_t, vi_cell_I, vi_cell_E0, vi_cell_E1, vi_cell_A0, vi_cell_A1, vi_cell_A2, vb_ite, vi_ite, updD, seq_b, byD_rw, ofBytes_one] at c3; grind)
        refine ret_wp ?_
        try dsimp only
        simp only [vd1, vd2, vd3, vd4, vd5, vd6, vd7, reduceCtorEq, Option.some.injEq, vn_rw, va_rw, isNone_f, isNone_t, vi_cell_I, vi_cell_E0, vi_cell_E1, vi_cell_A0, vi_cell_A1, vi_cell_A2, vb_ite, vi_ite, updD, seq_b, byD_rw, ofBytes_one]; rw [if_neg (fun h => by have := h.2; omega), decide_eq_false (fun h => by have := h.2; omega)]; exact ⟨rfl, rfl⟩
      · replace c3 : ¬((rd s) > b) := by first | simpa only [vd1, vd2, vd3, vd4, vd5, vd6, vd7, reduceCtorEq, Option.some.injEq, vn_rw, va_rw, isNone_f, isNone_t, vi_cell_I, vi_cell_E0, vi_cell_E1, vi_cell_A0, vi_cell_A1, vi_cell_A2, vb_ite, vi_ite, updD, seq_b, byD_rw, ofBytes_one] using c3 | (simp only [vd1, vd2, vd3, vd4, vd5, vd6, vd7, reduceCtorEq, Option.some.injEq, vn_rw, va_rw, isNone_f, isNone_t, vi_cell_I, vi_cell_E0, vi_cell_E1, vi_cell_A0, vi_cell_A1, vi_cell_A2, vb_ite, vi_ite, updD, seq_b, byD_rw, ofBytes_one] at c3; grind)
        refine ret_wp ?_
        try dsimp only
        simp only [vd1, vd2, vd3, vd4, vd5, vd6, vd7, reduceCtorEq, Option.some.injEq, vn_rw, va_rw, isNone_f, isNone_t, vi_cell_I, vi_cell_E0, vi_cell_E1, vi_cell_A0, vi_cell_A1, vi_cell_A2, vb_ite, vi_ite, updD, seq_b, byD_rw, ofBytes_one]; have h : upt s a b := ⟨hc, by omega, by omega⟩; rw [if_pos h, decide_eq_true h, hv]; exact ⟨rfl, rfl⟩
  · replace c1 : ¬(can s) := by first | simpa only [vd1, vd2, vd3, vd4, vd5, vd6, vd7, reduceCtorEq, Option.some.injEq, vn_rw, va_rw, isNone_f, isNone_t, vi_cell_I, vi_cell_E0, vi_cell_E1, vi_cell_A0, vi_cell_A1, vi_cell_A2, vb_ite, vi_ite, updD, seq_b, byD_rw, ofBytes_one] using c1 | (simp only [vd1, vd2, vd3, vd4, vd5, vd6, vd7, reduceCtorEq, Option.some.injEq, vn_rw, va_rw, isNone_f, isNone_t, vi_cell_I, vi_cell_E0, vi_cell_E1, vi_cell_A0, vi_cell_A1, vi_cell_A2, vb_ite, vi_ite, updD, seq_b, byD_rw, ofBytes_one] at c1; grind)
    have hc : ¬can s := c1
    refine ret_wp ?_
    try dsimp only
    simp only [vd1, vd2, vd3, vd4, vd5, vd6, vd7, reduceCtorEq, Option.some.injEq, vn_rw, va_rw, isNone_f, isNone_t, vi_cell_I, vi_cell_E0, vi_cell_E1, vi_cell_A0, vi_cell_A1, vi_cell_A2, vb_ite, vi_ite, updD, seq_b, byD_rw, ofBytes_one]; rw [if_neg (fun h => hc h.1), decide_eq_false (fun h => hc h.1)]; exact ⟨rfl, rfl⟩
def kUptoR (sg : Sig) : Sig × Con := (sg, mkFun (fun x : ByteArray × Int × Int => ([aS x.1, aI x.2.1, aI x.2.2] : List Atom)) (fun _ => True) (fun x => [aI (if upt x.1 x.2.1 x.2.2 then val (ls x.1) else 0), aB (decide (upt x.1 x.2.1 x.2.2))]))
set_option maxHeartbeats 1000000 in
theorem h16 : holds Tryd.prog (kUptoR sg16) := by
  refine fn_holds (l := [kParseR sg14]) ⟨h14, trivial⟩ hP rs16 (inj_of (fun l : List Atom => ((vs (l.getD 0 atom0).1, vi (l.getD 1 atom0).1, vi (l.getD 2 atom0).1) : ByteArray × Int × Int)) (fun _ => rfl)) Tryd.func16 (by kernel_rfl) (c := code Tryd.f16) (by kernel_rfl) (an := an16) (by kernel_rfl) (pk := pk16) rfl (t := t16) (by kernel_rfl) ?_
  rintro ⟨s, a, b⟩ hpre
  refine ⟨by simp [pk16, KindsOk, RK.ok, Rw.atom, Sl.atom], ?_⟩
  unfold t16
  refine call_rel (s) rfl (by simp only [vd1, vd2, vd3, vd4, vd5, vd6, vd7, reduceCtorEq, Option.some.injEq, vn_rw, va_rw, isNone_f, isNone_t, vi_cell_I, vi_cell_E0, vi_cell_E1, vi_cell_A0, vi_cell_A1, vi_cell_A2, vb_ite, vi_ite, updD, seq_b, byD_rw, ofBytes_one]) trivial ?_
  rintro ⟨y1, b1⟩ ⟨eb1, ey1⟩
  try dsimp only at eb1 ey1
  refine br_wp (fun c1 => ?_) (fun c1 => ?_)
  · replace c1 : b1 = true := by first | simpa only [vd1, vd2, vd3, vd4, vd5, vd6, vd7, reduceCtorEq, Option.some.injEq, vn_rw, va_rw, isNone_f, isNone_t, vi_cell_I, vi_cell_E0, vi_cell_E1, vi_cell_A0, vi_cell_A1, vi_cell_A2, vb_ite, vi_ite, updD, seq_b, byD_rw, ofBytes_one] using c1 | (simp only [vd1, vd2, vd3, vd4, vd5, vd6, vd7, reduceCtorEq, Option.some.injEq, vn_rw, va_rw, isNone_f, isNone_t, vi_cell_I, vi_cell_E0, vi_cell_E1, vi_cell_A0, vi_cell_A1, vi_cell_A2, vb_ite, vi_ite, updD, seq_b, byD_rw, ofBytes_one] at c1; grind)
    have hc : can s := of_decide_eq_true (eb1.symm.trans c1)
    have hv := ey1 c1
    refine br_wp (fun c2 => ?_) (fun c2 => ?_)
    · replace c2 : y1 < a := by first | simpa only [vd1, vd2, vd3, vd4, vd5, vd6, vd7, reduceCtorEq, Option.some.injEq, vn_rw, va_rw, isNone_f, isNone_t, vi_cell_I, vi_cell_E0, vi_cell_E1, vi_cell_A0, vi_cell_A1, vi_cell_A2, vb_ite, vi_ite, updD, seq_b, byD_rw, ofBytes_one] using c2 | (simp only [vd1, vd2, vd3, vd4, vd5, vd6, vd7, reduceCtorEq, Option.some.injEq, vn_rw, va_rw, isNone_f, isNone_t, vi_cell_I, vi_cell_E0, vi_cell_E1, vi_cell_A0, vi_cell_A1, vi_cell_A2, vb_ite, vi_ite, updD, seq_b, byD_rw, ofBytes_one] at c2; grind)
      refine ret_wp ?_
      try dsimp only
      simp only [vd1, vd2, vd3, vd4, vd5, vd6, vd7, reduceCtorEq, Option.some.injEq, vn_rw, va_rw, isNone_f, isNone_t, vi_cell_I, vi_cell_E0, vi_cell_E1, vi_cell_A0, vi_cell_A1, vi_cell_A2, vb_ite, vi_ite, updD, seq_b, byD_rw, ofBytes_one]; rw [if_neg (fun h => by have := h.2; omega), decide_eq_false (fun h => by have := h.2; omega)]; exact ⟨rfl, rfl⟩
    · replace c2 : ¬(y1 < a) := by first | simpa only [vd1, vd2, vd3, vd4, vd5, vd6, vd7, reduceCtorEq, Option.some.injEq, vn_rw, va_rw, isNone_f, isNone_t, vi_cell_I, vi_cell_E0, vi_cell_E1, vi_cell_A0, vi_cell_A1, vi_cell_A2, vb_ite, vi_ite, updD, seq_b, byD_rw, ofBytes_one] using c2 | (simp only [vd1, vd2, vd3, vd4, vd5, vd6, vd7, reduceCtorEq, Option.some.injEq, vn_rw, va_rw, isNone_f, isNone_t, vi_cell_I, vi_cell_E0, vi_cell_E1, vi_cell_A0, vi_cell_A1, vi_cell_A2, vb_ite, vi_ite, updD, seq_b, byD_rw, ofBytes_one] at c2; grind)
      refine br_wp (fun c3 => ?_) (fun c3 => ?_)
      · replace c3 : y1 > b := by first | simpa only [vd1, vd2, vd3, vd4, vd5, vd6, vd7, reduceCtorEq, Option.some.injEq, vn_rw, va_rw, isNone_f, isNone_t, vi_cell_I, vi_cell_E0, vi_cell_E1, vi_cell_A0, vi_cell_A1, vi_cell_A2, vb_ite, vi_ite, updD, seq_b, byD_rw, ofBytes_one] using c3 | (simp only [vd1, vd2, vd3, vd4, vd5, vd6, vd7, reduceCtorEq, Option.some.injEq, vn_rw, va_rw, isNone_f, isNone_t, vi_cell_I, vi_cell_E0, vi_cell_E1, vi_cell_A0, vi_cell_A1, vi_cell_A2, vb_ite, vi_ite, updD, seq_b, byD_rw, ofBytes_one] at c3; grind)
        refine ret_wp ?_
        try dsimp only
        simp only [vd1, vd2, vd3, vd4, vd5, vd6, vd7, reduceCtorEq, Option.some.injEq, vn_rw, va_rw, isNone_f, isNone_t, vi_cell_I, vi_cell_E0, vi_cell_E1, vi_cell_A0, vi_cell_A1, vi_cell_A2, vb_ite, vi_ite, updD, seq_b, byD_rw, ofBytes_one]; rw [if_neg (fun h => by have := h.2; omega), decide_eq_false (fun h => by have := h.2; omega)]; exact ⟨rfl, rfl⟩
      · replace c3 : ¬(y1 > b) := by first | simpa only [vd1, vd2, vd3, vd4, vd5, vd6, vd7, reduceCtorEq, Option.some.injEq, vn_rw, va_rw, isNone_f, isNone_t, vi_cell_I, vi_cell_E0, vi_cell_E1, vi_cell_A0, vi_cell_A1, vi_cell_A2, vb_ite, vi_ite, updD, seq_b, byD_rw, ofBytes_one] using c3 | (simp only [vd1, vd2, vd3, vd4, vd5, vd6, vd7, reduceCtorEq, Option.some.injEq, vn_rw, va_rw, isNone_f, isNone_t, vi_cell_I, vi_cell_E0, vi_cell_E1, vi_cell_A0, vi_cell_A1, vi_cell_A2, vb_ite, vi_ite, updD, seq_b, byD_rw, ofBytes_one] at c3; grind)
        refine ret_wp ?_
        try dsimp only
        simp only [vd1, vd2, vd3, vd4, vd5, vd6, vd7, reduceCtorEq, Option.some.injEq, vn_rw, va_rw, isNone_f, isNone_t, vi_cell_I, vi_cell_E0, vi_cell_E1, vi_cell_A0, vi_cell_A1, vi_cell_A2, vb_ite, vi_ite, updD, seq_b, byD_rw, ofBytes_one]; have h : upt s a b := ⟨hc, by omega, by omega⟩; rw [if_pos h, decide_eq_true h, hv]; exact ⟨rfl, rfl⟩
  · replace c1 : ¬(b1 = true) := by first | simpa only [vd1, vd2, vd3, vd4, vd5, vd6, vd7, reduceCtorEq, Option.some.injEq, vn_rw, va_rw, isNone_f, isNone_t, vi_cell_I, vi_cell_E0, vi_cell_E1, vi_cell_A0, vi_cell_A1, vi_cell_A2, vb_ite, vi_ite, updD, seq_b, byD_rw, ofBytes_one] using c1 | (simp only [vd1, vd2, vd3, vd4, vd5, vd6, vd7, reduceCtorEq, Option.some.injEq, vn_rw, va_rw, isNone_f, isNone_t, vi_cell_I, vi_cell_E0, vi_cell_E1, vi_cell_A0, vi_cell_A1, vi_cell_A2, vb_ite, vi_ite, updD, seq_b, byD_rw, ofBytes_one] at c1; grind)
    have hc : ¬can s := fun h => c1 (eb1.trans (decide_eq_true h))
    refine ret_wp ?_
    try dsimp only
    simp only [vd1, vd2, vd3, vd4, vd5, vd6, vd7, reduceCtorEq, Option.some.injEq, vn_rw, va_rw, isNone_f, isNone_t, vi_cell_I, vi_cell_E0, vi_cell_E1, vi_cell_A0, vi_cell_A1, vi_cell_A2, vb_ite, vi_ite, updD, seq_b, byD_rw, ofBytes_one]; rw [if_neg (fun h => hc h.1), decide_eq_false (fun h => hc h.1)]; exact ⟨rfl, rfl⟩
def kKnown (sg : Sig) : Sig × Con := (sg, mkFun (fun x : Gh => ([Rw.atom eF x.a, Rw.atom eF x.b] : List Atom)) pG (fun _ => [aB true]))
set_option maxHeartbeats 1000000 in
theorem h9 : holds Tryd.prog (kKnown sg9) := by
  refine fn_holdsH (inl := []) (l := [kParse sg10, kPrint sg11]) ⟨h10, h11, trivial⟩ trivial hP gh9 rs9 (inj_of (fun l : List Atom => ((⟨Rw.un unF (l.getD 0 atom0), Rw.un unF (l.getD 1 atom0)⟩ : Gh) : Gh)) (fun _ => by simp [List.getD_cons_zero, List.getD_cons_succ, unA_atom, unF_at])) Tryd.func9 (by kernel_rfl) (c := code Tryd.f9) (by kernel_rfl) (an := an9) (by kernel_rfl) (pk := pk9g) rfl (t := t9) (by kernel_rfl) ?_
  rintro q hnil hq
  refine ⟨by simp [pk9g, pk9, KindsOk, RK.ok, Rw.atom, Sl.atom], ?_⟩
  unfold t9
  have k1 := can_12
  have k2 := rd_yes k1.1
  rw [k1.2] at k2
  have k3 := can_007
  refine call_fun (((⟨#[45, 49, 50]⟩ : ByteArray), q)) rfl (by simp only [vd1, vd2, vd3, vd4, vd5, vd6, vd7, reduceCtorEq, Option.some.injEq, vn_rw, va_rw, isNone_f, isNone_t, vi_cell_I, vi_cell_E0, vi_cell_E1, vi_cell_A0, vi_cell_A1, vi_cell_A2, vb_ite, vi_ite, updD, seq_b, byD_rw, ofBytes_one]) (⟨by show 3 ≤ 281474976710656; omega, hq⟩) ?_
  refine call_fun (((⟨#[48, 48, 55]⟩ : ByteArray), q)) rfl (by simp only [vd1, vd2, vd3, vd4, vd5, vd6, vd7, reduceCtorEq, Option.some.injEq, vn_rw, va_rw, isNone_f, isNone_t, vi_cell_I, vi_cell_E0, vi_cell_E1, vi_cell_A0, vi_cell_A1, vi_cell_A2, vb_ite, vi_ite, updD, seq_b, byD_rw, ofBytes_one]) (⟨by show 3 ≤ 281474976710656; omega, hq⟩) ?_
  refine br_wp (fun c1 => ?_) (fun c1 => ?_)
  · replace c1 : (rd (⟨#[45, 49, 50]⟩ : ByteArray)) = (-12) := by first | simpa only [vd1, vd2, vd3, vd4, vd5, vd6, vd7, reduceCtorEq, Option.some.injEq, vn_rw, va_rw, isNone_f, isNone_t, vi_cell_I, vi_cell_E0, vi_cell_E1, vi_cell_A0, vi_cell_A1, vi_cell_A2, vb_ite, vi_ite, updD, seq_b, byD_rw, ofBytes_one] using c1 | (simp only [vd1, vd2, vd3, vd4, vd5, vd6, vd7, reduceCtorEq, Option.some.injEq, vn_rw, va_rw, isNone_f, isNone_t, vi_cell_I, vi_cell_E0, vi_cell_E1, vi_cell_A0, vi_cell_A1, vi_cell_A2, vb_ite, vi_ite, updD, seq_b, byD_rw, ofBytes_one] at c1; grind)
    refine br_wp (fun c2 => ?_) (fun c2 => ?_)
    · replace c2 : can (⟨#[45, 49, 50]⟩ : ByteArray) := by first | simpa only [vd1, vd2, vd3, vd4, vd5, vd6, vd7, reduceCtorEq, Option.some.injEq, vn_rw, va_rw, isNone_f, isNone_t, vi_cell_I, vi_cell_E0, vi_cell_E1, vi_cell_A0, vi_cell_A1, vi_cell_A2, vb_ite, vi_ite, updD, seq_b, byD_rw, ofBytes_one] using c2 | (simp only [vd1, vd2, vd3, vd4, vd5, vd6, vd7, reduceCtorEq, Option.some.injEq, vn_rw, va_rw, isNone_f, isNone_t, vi_cell_I, vi_cell_E0, vi_cell_E1, vi_cell_A0, vi_cell_A1, vi_cell_A2, vb_ite, vi_ite, updD, seq_b, byD_rw, ofBytes_one] at c2; grind)
      refine br_wp (fun c3 => ?_) (fun c3 => ?_)
      · replace c3 : can (⟨#[48, 48, 55]⟩ : ByteArray) := by first | simpa only [vd1, vd2, vd3, vd4, vd5, vd6, vd7, reduceCtorEq, Option.some.injEq, vn_rw, va_rw, isNone_f, isNone_t, vi_cell_I, vi_cell_E0, vi_cell_E1, vi_cell_A0, vi_cell_A1, vi_cell_A2, vb_ite, vi_ite, updD, seq_b, byD_rw, ofBytes_one] using c3 | (simp only [vd1, vd2, vd3, vd4, vd5, vd6, vd7, reduceCtorEq, Option.some.injEq, vn_rw, va_rw, isNone_f, isNone_t, vi_cell_I, vi_cell_E0, vi_cell_E1, vi_cell_A0, vi_cell_A1, vi_cell_A2, vb_ite, vi_ite, updD, seq_b, byD_rw, ofBytes_one] at c3; grind)
        exfalso; exact k3 c3
      · replace c3 : ¬(can (⟨#[48, 48, 55]⟩ : ByteArray)) := by first | simpa only [vd1, vd2, vd3, vd4, vd5, vd6, vd7, reduceCtorEq, Option.some.injEq, vn_rw, va_rw, isNone_f, isNone_t, vi_cell_I, vi_cell_E0, vi_cell_E1, vi_cell_A0, vi_cell_A1, vi_cell_A2, vb_ite, vi_ite, updD, seq_b, byD_rw, ofBytes_one] using c3 | (simp only [vd1, vd2, vd3, vd4, vd5, vd6, vd7, reduceCtorEq, Option.some.injEq, vn_rw, va_rw, isNone_f, isNone_t, vi_cell_I, vi_cell_E0, vi_cell_E1, vi_cell_A0, vi_cell_A1, vi_cell_A2, vb_ite, vi_ite, updD, seq_b, byD_rw, ofBytes_one] at c3; grind)
        refine call_fun ((-12)) rfl (by simp only [vd1, vd2, vd3, vd4, vd5, vd6, vd7, reduceCtorEq, Option.some.injEq, vn_rw, va_rw, isNone_f, isNone_t, vi_cell_I, vi_cell_E0, vi_cell_E1, vi_cell_A0, vi_cell_A1, vi_cell_A2, vb_ite, vi_ite, updD, seq_b, byD_rw, ofBytes_one]) (by unfold in64; omega) ?_
        refine ret_wp ?_
        try dsimp only
        simp only [vd1, vd2, vd3, vd4, vd5, vd6, vd7, reduceCtorEq, Option.some.injEq, vn_rw, va_rw, isNone_f, isNone_t, vi_cell_I, vi_cell_E0, vi_cell_E1, vi_cell_A0, vi_cell_A1, vi_cell_A2, vb_ite, vi_ite, updD, seq_b, byD_rw, ofBytes_one]; exact pr_12
    · replace c2 : ¬(can (⟨#[45, 49, 50]⟩ : ByteArray)) := by first | simpa only [vd1, vd2, vd3, vd4, vd5, vd6, vd7, reduceCtorEq, Option.some.injEq, vn_rw, va_rw, isNone_f, isNone_t, vi_cell_I, vi_cell_E0, vi_cell_E1, vi_cell_A0, vi_cell_A1, vi_cell_A2, vb_ite, vi_ite, updD, seq_b, byD_rw, ofBytes_one] using c2 | (simp only [vd1, vd2, vd3, vd4, vd5, vd6, vd7, reduceCtorEq, Option.some.injEq, vn_rw, va_rw, isNone_f, isNone_t, vi_cell_I, vi_cell_E0, vi_cell_E1, vi_cell_A0, vi_cell_A1, vi_cell_A2, vb_ite, vi_ite, updD, seq_b, byD_rw, ofBytes_one] at c2; grind)
      exfalso; exact c2 k1.1
  · replace c1 : ¬((rd (⟨#[45, 49, 50]⟩ : ByteArray)) = (-12)) := by first | simpa only [vd1, vd2, vd3, vd4, vd5, vd6, vd7, reduceCtorEq, Option.some.injEq, vn_rw, va_rw, isNone_f, isNone_t, vi_cell_I, vi_cell_E0, vi_cell_E1, vi_cell_A0, vi_cell_A1, vi_cell_A2, vb_ite, vi_ite, updD, seq_b, byD_rw, ofBytes_one] using c1 | (simp only [vd1, vd2, vd3, vd4, vd5, vd6, vd7, reduceCtorEq, Option.some.injEq, vn_rw, va_rw, isNone_f, isNone_t, vi_cell_I, vi_cell_E0, vi_cell_E1, vi_cell_A0, vi_cell_A1, vi_cell_A2, vb_ite, vi_ite, updD, seq_b, byD_rw, ofBytes_one] at c1; grind)
    exfalso; exact c1 k2
end Go.Proofs.YtlcbhmkmadfabaaDoorK
