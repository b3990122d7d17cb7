import Derived.Test.YtlcbhmkmadfabaaDoorVR2C
set_option linter.unusedSimpArgs false
set_option linter.unusedVariables false
set_option linter.unnecessarySimpa false
namespace Go.Proofs.YtlcbhmkmadfabaaDoorK
open Go Go.Proofs.YtlcbhmkmadfabaaDoorV Go.Proofs
def kLaw5 (sg : Sig) : Sig × Con := (sg, mkFun (fun x : Int × Int × Gh => ([aK .u32 x.1, aK .u8 x.2.1, Rw.atom eF x.2.2.a, Rw.atom eF x.2.2.b] : List Atom)) (fun x => (0 ≤ x.1 ∧ x.1 < 4294967296) ∧ (0 ≤ x.2.1 ∧ x.2.1 < 256) ∧ pG x.2.2) (fun _ => [aB true]))
set_option maxHeartbeats 1000000 in
theorem h5 : holds Tryd.prog (kLaw5 sg5) := by
  refine fn_holdsH (inl := []) (l := [kPrint sg11, kCount sg13, kKnown sg9]) ⟨h11, h13, h9, trivial⟩ trivial hP gh5 rs5 (inj_of (fun l : List Atom => ((vi (l.getD 0 atom0).1, vi (l.getD 1 atom0).1, (⟨Rw.un unF (l.getD 2 atom0), Rw.un unF (l.getD 3 atom0)⟩ : Gh)) : Int × Int × Gh)) (fun _ => by simp [List.getD_cons_zero, List.getD_cons_succ, unA_atom, unF_at])) Tryd.func5 (by kernel_rfl) (c := code Tryd.f5) (by kernel_rfl) (an := an5) (by kernel_rfl) (pk := pk5g) rfl (t := t5) (by kernel_rfl) ?_
  rintro ⟨n, k, q⟩ hnil ⟨⟨u1, u2⟩, ⟨u3, u4⟩, hq⟩
  refine ⟨by simp [pk5g, pk5, KindsOk, RK.ok, Rw.atom, Sl.atom], ?_⟩
  unfold t5
  dsimp only at u1 u2 u3 u4 hq
  obtain ⟨x, hx⟩ : ∃ x : Int, x = 1 + n := ⟨_, rfl⟩
  obtain ⟨d, hd⟩ : ∃ d : Int, d = k % 10 := ⟨_, rfl⟩
  have w1 : IntKind.i64.wrap n = n := wrap_id _ (by omega) (by omega)
  have w2 : IntKind.i64.wrap (1 + n) = x := by rw [hx]; exact wrap_id _ (by omega) (by omega)
  have w3 : IntKind.i64.wrap (0 - x) = -x := by rw [wrap_id _ (by omega) (by omega)]; omega
  have w4 : IntKind.i64.wrap (10 * x) = 10 * x := wrap_id _ (by omega) (by omega)
  have w5 : IntKind.i64.wrap k = k := wrap_id _ (by omega) (by omega)
  have w6 : remD k 10 = d := by rw [hd]; exact rem_id _ _ u3
  have w7 : IntKind.i64.wrap (10 * x + d) = 10 * x + d := wrap_id _ (by omega) (by omega)
  have pn : prt (-x) = (⟨#[45]⟩ : ByteArray) ++ prt x := by have := prt_ng (n := -x) (by omega); rw [Int.neg_neg] at this; exact this
  have pt : prt (10 * x) = prt x ++ (⟨#[48]⟩ : ByteArray) := by have := prt_ten (x := x) (by omega) (d := 0) (by omega) (by omega); rw [Int.add_zero, prt_0] at this; exact this
  have pd := prt_ten (x := x) (by omega) (d := d) (by omega) (by omega)
  have z1 := prt_size (n := x) (by unfold in64; omega)
  have z2 := size_1 (d := d) (by omega) (by omega)
  have z3 : ((⟨#[45]⟩ : ByteArray).size : Int) = 1 := rfl
  have z4 : ((⟨#[48]⟩ : ByteArray).size : Int) = 1 := rfl
  have z5 : ((prt (-x)).size : Int) = (prt x).size + 1 := by rw [pn, size_app]; omega
  have w8 : IntKind.i64.wrap (((prt x).size : Int) + 1) = (prt x).size + 1 := wrap_id _ (by omega) (by omega)
  refine call_fun (x) rfl (by simp only [vd1, vd2, vd3, vd4, vd5, vd6, vd7, reduceCtorEq, Option.some.injEq, vn_rw, va_rw, isNone_f, isNone_t, vi_cell_I, vi_cell_E0, vi_cell_E1, vi_cell_A0, vi_cell_A1, vi_cell_A2, vb_ite, vi_ite, updD, seq_b, byD_rw, ofBytes_one, w1, w2, w3, w4, w5, w6, w7, w8]) (by unfold in64; omega) ?_
  refine call_fun ((-x)) rfl (by simp only [vd1, vd2, vd3, vd4, vd5, vd6, vd7, reduceCtorEq, Option.some.injEq, vn_rw, va_rw, isNone_f, isNone_t, vi_cell_I, vi_cell_E0, vi_cell_E1, vi_cell_A0, vi_cell_A1, vi_cell_A2, vb_ite, vi_ite, updD, seq_b, byD_rw, ofBytes_one, w1, w2, w3, w4, w5, w6, w7, w8]) (by unfold in64; omega) ?_
  refine call_fun ((10 * x)) rfl (by simp only [vd1, vd2, vd3, vd4, vd5, vd6, vd7, reduceCtorEq, Option.some.injEq, vn_rw, va_rw, isNone_f, isNone_t, vi_cell_I, vi_cell_E0, vi_cell_E1, vi_cell_A0, vi_cell_A1, vi_cell_A2, vb_ite, vi_ite, updD, seq_b, byD_rw, ofBytes_one, w1, w2, w3, w4, w5, w6, w7, w8]) (by unfold in64; omega) ?_
  refine need_wp (need_size (den_cat (den_str _) rfl) (big_45 (by unfold in64; omega))) ?_
  refine br_wp (fun c1 => ?_) (fun c1 => ?_)
  · replace c1 : (prt (-x)) = ((⟨#[45]⟩ : ByteArray) ++ (prt x)) := by first | simpa only [vd1, vd2, vd3, vd4, vd5, vd6, vd7, reduceCtorEq, Option.some.injEq, vn_rw, va_rw, isNone_f, isNone_t, vi_cell_I, vi_cell_E0, vi_cell_E1, vi_cell_A0, vi_cell_A1, vi_cell_A2, vb_ite, vi_ite, updD, seq_b, byD_rw, ofBytes_one, w1, w2, w3, w4, w5, w6, w7, w8] using c1 | (simp only [vd1, vd2, vd3, vd4, vd5, vd6, vd7, reduceCtorEq, Option.some.injEq, vn_rw, va_rw, isNone_f, isNone_t, vi_cell_I, vi_cell_E0, vi_cell_E1, vi_cell_A0, vi_cell_A1, vi_cell_A2, vb_ite, vi_ite, updD, seq_b, byD_rw, ofBytes_one, w1, w2, w3, w4, w5, w6, w7, w8] at c1; grind)
    refine need_wp (need_size (den_cat rfl (den_str _)) (big_r (by unfold in64; omega))) ?_
    refine br_wp (fun c2 => ?_) (fun c2 => ?_)
    · replace c2 : (prt (10 * x)) = ((prt x) ++ (⟨#[48]⟩ : ByteArray)) := by first | simpa only [vd1, vd2, vd3, vd4, vd5, vd6, vd7, reduceCtorEq, Option.some.injEq, vn_rw, va_rw, isNone_f, isNone_t, vi_cell_I, vi_cell_E0, vi_cell_E1, vi_cell_A0, vi_cell_A1, vi_cell_A2, vb_ite, vi_ite, updD, seq_b, byD_rw, ofBytes_one, w1, w2, w3, w4, w5, w6, w7, w8] using c2 | (simp only [vd1, vd2, vd3, vd4, vd5, vd6, vd7, reduceCtorEq, Option.some.injEq, vn_rw, va_rw, isNone_f, isNone_t, vi_cell_I, vi_cell_E0, vi_cell_E1, vi_cell_A0, vi_cell_A1, vi_cell_A2, vb_ite, vi_ite, updD, seq_b, byD_rw, ofBytes_one, w1, w2, w3, w4, w5, w6, w7, w8] at c2; grind)
      refine call_fun (x) rfl (by simp only [vd1, vd2, vd3, vd4, vd5, vd6, vd7, reduceCtorEq, Option.some.injEq, vn_rw, va_rw, isNone_f, isNone_t, vi_cell_I, vi_cell_E0, vi_cell_E1, vi_cell_A0, vi_cell_A1, vi_cell_A2, vb_ite, vi_ite, updD, seq_b, byD_rw, ofBytes_one, w1, w2, w3, w4, w5, w6, w7, w8]) (by unfold in64; omega) ?_
      refine br_wp (fun c3 => ?_) (fun c3 => ?_)
      · replace c3 : ((prt x).size : Int) ≠ ((prt x).size : Int) := by first | simpa only [vd1, vd2, vd3, vd4, vd5, vd6, vd7, reduceCtorEq, Option.some.injEq, vn_rw, va_rw, isNone_f, isNone_t, vi_cell_I, vi_cell_E0, vi_cell_E1, vi_cell_A0, vi_cell_A1, vi_cell_A2, vb_ite, vi_ite, updD, seq_b, byD_rw, ofBytes_one, w1, w2, w3, w4, w5, w6, w7, w8] using c3 | (simp only [vd1, vd2, vd3, vd4, vd5, vd6, vd7, reduceCtorEq, Option.some.injEq, vn_rw, va_rw, isNone_f, isNone_t, vi_cell_I, vi_cell_E0, vi_cell_E1, vi_cell_A0, vi_cell_A1, vi_cell_A2, vb_ite, vi_ite, updD, seq_b, byD_rw, ofBytes_one, w1, w2, w3, w4, w5, w6, w7, w8] at c3; grind)
        exfalso; exact c3 rfl
      · replace c3 : ¬(((prt x).size : Int) ≠ ((prt x).size : Int)) := by first | simpa only [vd1, vd2, vd3, vd4, vd5, vd6, vd7, reduceCtorEq, Option.some.injEq, vn_rw, va_rw, isNone_f, isNone_t, vi_cell_I, vi_cell_E0, vi_cell_E1, vi_cell_A0, vi_cell_A1, vi_cell_A2, vb_ite, vi_ite, updD, seq_b, byD_rw, ofBytes_one, w1, w2, w3, w4, w5, w6, w7, w8] using c3 | (simp only [vd1, vd2, vd3, vd4, vd5, vd6, vd7, reduceCtorEq, Option.some.injEq, vn_rw, va_rw, isNone_f, isNone_t, vi_cell_I, vi_cell_E0, vi_cell_E1, vi_cell_A0, vi_cell_A1, vi_cell_A2, vb_ite, vi_ite, updD, seq_b, byD_rw, ofBytes_one, w1, w2, w3, w4, w5, w6, w7, w8] at c3; grind)
        refine call_fun ((-x)) rfl (by simp only [vd1, vd2, vd3, vd4, vd5, vd6, vd7, reduceCtorEq, Option.some.injEq, vn_rw, va_rw, isNone_f, isNone_t, vi_cell_I, vi_cell_E0, vi_cell_E1, vi_cell_A0, vi_cell_A1, vi_cell_A2, vb_ite, vi_ite, updD, seq_b, byD_rw, ofBytes_one, w1, w2, w3, w4, w5, w6, w7, w8]) (by unfold in64; omega) ?_
        refine br_wp (fun c4 => ?_) (fun c4 => ?_)
        · replace c4 : ((prt (-x)).size : Int) ≠ (((prt x).size : Int) + 1) := by first | simpa only [vd1, vd2, vd3, vd4, vd5, vd6, vd7, reduceCtorEq, Option.some.injEq, vn_rw, va_rw, isNone_f, isNone_t, vi_cell_I, vi_cell_E0, vi_cell_E1, vi_cell_A0, vi_cell_A1, vi_cell_A2, vb_ite, vi_ite, updD, seq_b, byD_rw, ofBytes_one, w1, w2, w3, w4, w5, w6, w7, w8] using c4 | (simp only [vd1, vd2, vd3, vd4, vd5, vd6, vd7, reduceCtorEq, Option.some.injEq, vn_rw, va_rw, isNone_f, isNone_t, vi_cell_I, vi_cell_E0, vi_cell_E1, vi_cell_A0, vi_cell_A1, vi_cell_A2, vb_ite, vi_ite, updD, seq_b, byD_rw, ofBytes_one, w1, w2, w3, w4, w5, w6, w7, w8] at c4; grind)
          exfalso; exact c4 z5
        · replace c4 : ¬(((prt (-x)).size : Int) ≠ (((prt x).size : Int) + 1)) := by first | simpa only [vd1, vd2, vd3, vd4, vd5, vd6, vd7, reduceCtorEq, Option.some.injEq, vn_rw, va_rw, isNone_f, isNone_t, vi_cell_I, vi_cell_E0, vi_cell_E1, vi_cell_A0, vi_cell_A1, vi_cell_A2, vb_ite, vi_ite, updD, seq_b, byD_rw, ofBytes_one, w1, w2, w3, w4, w5, w6, w7, w8] using c4 | (simp only [vd1, vd2, vd3, vd4, vd5, vd6, vd7, reduceCtorEq, Option.some.injEq, vn_rw, va_rw, isNone_f, isNone_t, vi_cell_I, vi_cell_E0, vi_cell_E1, vi_cell_A0, vi_cell_A1, vi_cell_A2, vb_ite, vi_ite, updD, seq_b, byD_rw, ofBytes_one, w1, w2, w3, w4, w5, w6, w7, w8] at c4; grind)
          refine call_fun ((10 * x + d)) rfl (by simp only [vd1, vd2, vd3, vd4, vd5, vd6, vd7, reduceCtorEq, Option.some.injEq, vn_rw, va_rw, isNone_f, isNone_t, vi_cell_I, vi_cell_E0, vi_cell_E1, vi_cell_A0, vi_cell_A1, vi_cell_A2, vb_ite, vi_ite, updD, seq_b, byD_rw, ofBytes_one, w1, w2, w3, w4, w5, w6, w7, w8]) (by unfold in64; omega) ?_
          refine call_fun (d) rfl (by simp only [vd1, vd2, vd3, vd4, vd5, vd6, vd7, reduceCtorEq, Option.some.injEq, vn_rw, va_rw, isNone_f, isNone_t, vi_cell_I, vi_cell_E0, vi_cell_E1, vi_cell_A0, vi_cell_A1, vi_cell_A2, vb_ite, vi_ite, updD, seq_b, byD_rw, ofBytes_one, w1, w2, w3, w4, w5, w6, w7, w8]) (by unfold in64; omega) ?_
          refine need_wp (need_size (den_cat rfl rfl) (big_2 (by unfold in64; omega) (by unfold in64; omega))) ?_
          refine br_wp (fun c5 => ?_) (fun c5 => ?_)
          · replace c5 : (prt (10 * x + d)) = ((prt x) ++ (prt d)) := by first | simpa only [vd1, vd2, vd3, vd4, vd5, vd6, vd7, reduceCtorEq, Option.some.injEq, vn_rw, va_rw, isNone_f, isNone_t, vi_cell_I, vi_cell_E0, vi_cell_E1, vi_cell_A0, vi_cell_A1, vi_cell_A2, vb_ite, vi_ite, updD, seq_b, byD_rw, ofBytes_one, w1, w2, w3, w4, w5, w6, w7, w8] using c5 | (simp only [vd1, vd2, vd3, vd4, vd5, vd6, vd7, reduceCtorEq, Option.some.injEq, vn_rw, va_rw, isNone_f, isNone_t, vi_cell_I, vi_cell_E0, vi_cell_E1, vi_cell_A0, vi_cell_A1, vi_cell_A2, vb_ite, vi_ite, updD, seq_b, byD_rw, ofBytes_one, w1, w2, w3, w4, w5, w6, w7, w8] at c5; grind)
            refine call_fun (d) rfl (by simp only [vd1, vd2, vd3, vd4, vd5, vd6, vd7, reduceCtorEq, Option.some.injEq, vn_rw, va_rw, isNone_f, isNone_t, vi_cell_I, vi_cell_E0, vi_cell_E1, vi_cell_A0, vi_cell_A1, vi_cell_A2, vb_ite, vi_ite, updD, seq_b, byD_rw, ofBytes_one, w1, w2, w3, w4, w5, w6, w7, w8]) (by unfold in64; omega) ?_
            refine br_wp (fun c6 => ?_) (fun c6 => ?_)
            · replace c6 : ((prt d).size : Int) = 1 := by first | simpa only [vd1, vd2, vd3, vd4, vd5, vd6, vd7, reduceCtorEq, Option.some.injEq, vn_rw, va_rw, isNone_f, isNone_t, vi_cell_I, vi_cell_E0, vi_cell_E1, vi_cell_A0, vi_cell_A1, vi_cell_A2, vb_ite, vi_ite, updD, seq_b, byD_rw, ofBytes_one, w1, w2, w3, w4, w5, w6, w7, w8] using c6 | (simp only [vd1, vd2, vd3, vd4, vd5, vd6, vd7, reduceCtorEq, Option.some.injEq, vn_rw, va_rw, isNone_f, isNone_t, vi_cell_I, vi_cell_E0, vi_cell_E1, vi_cell_A0, vi_cell_A1, vi_cell_A2, vb_ite, vi_ite, updD, seq_b, byD_rw, ofBytes_one, w1, w2, w3, w4, w5, w6, w7, w8] at c6; grind)
              refine call_fun (q) rfl (by simp only [vd1, vd2, vd3, vd4, vd5, vd6, vd7, reduceCtorEq, Option.some.injEq, vn_rw, va_rw, isNone_f, isNone_t, vi_cell_I, vi_cell_E0, vi_cell_E1, vi_cell_A0, vi_cell_A1, vi_cell_A2, vb_ite, vi_ite, updD, seq_b, byD_rw, ofBytes_one, w1, w2, w3, w4, w5, w6, w7, w8]) hq ?_
              refine ret_wp ?_
              try dsimp only
              rfl
            · replace c6 : ¬(((prt d).size : Int) = 1) := by first | simpa only [vd1, vd2, vd3, vd4, vd5, vd6, vd7, reduceCtorEq, Option.some.injEq, vn_rw, va_rw, isNone_f, isNone_t, vi_cell_I, vi_cell_E0, vi_cell_E1, vi_cell_A0, vi_cell_A1, vi_cell_A2, vb_ite, vi_ite, updD, seq_b, byD_rw, ofBytes_one, w1, w2, w3, w4, w5, w6, w7, w8] using c6 | (simp only [vd1, vd2, vd3, vd4, vd5, vd6, vd7, reduceCtorEq, Option.some.injEq, vn_rw, va_rw, isNone_f, isNone_t, vi_cell_I, vi_cell_E0, vi_cell_E1, vi_cell_A0, vi_cell_A1, vi_cell_A2, vb_ite, vi_ite, updD, seq_b, byD_rw, ofBytes_one, w1, w2, w3, w4, w5, w6, w7, w8] at c6; grind)
              exfalso; exact c6 z2
          · replace c5 : ¬((prt (10 * x + d)) = ((prt x) ++ (prt d))) := by first | simpa only [vd1, vd2, vd3, vd4, vd5, vd6, vd7, reduceCtorEq, Option.some.injEq, vn_rw, va_rw, isNone_f, isNone_t, vi_cell_I, vi_cell_E0, vi_cell_E1, vi_cell_A0, vi_cell_A1, vi_cell_A2, vb_ite, vi_ite, updD, seq_b, byD_rw, ofBytes_one, w1, w2, w3, w4, w5, w6, w7, w8] using c5 | (simp only [vd1, vd2, vd3, vd4, vd5, vd6, vd7, reduceCtorEq, Option.some.injEq, vn_rw, va_rw, isNone_f, isNone_t, vi_cell_I, vi_cell_E0, vi_cell_E1, vi_cell_A0, vi_cell_A1, vi_cell_A2, vb_ite, vi_ite, updD, seq_b, byD_rw, ofBytes_one, w1, w2, w3, w4, w5, w6, w7, w8] at c5; grind)
            exfalso; exact c5 pd
    · replace c2 : ¬((prt (10 * x)) = ((prt x) ++ (⟨#[48]⟩ : ByteArray))) := by first | simpa only [vd1, vd2, vd3, vd4, vd5, vd6, vd7, reduceCtorEq, Option.some.injEq, vn_rw, va_rw, isNone_f, isNone_t, vi_cell_I, vi_cell_E0, vi_cell_E1, vi_cell_A0, vi_cell_A1, vi_cell_A2, vb_ite, vi_ite, updD, seq_b, byD_rw, ofBytes_one, w1, w2, w3, w4, w5, w6, w7, w8] using c2 | (simp only [vd1, vd2, vd3, vd4, vd5, vd6, vd7, reduceCtorEq, Option.some.injEq, vn_rw, va_rw, isNone_f, isNone_t, vi_cell_I, vi_cell_E0, vi_cell_E1, vi_cell_A0, vi_cell_A1, vi_cell_A2, vb_ite, vi_ite, updD, seq_b, byD_rw, ofBytes_one, w1, w2, w3, w4, w5, w6, w7, w8] at c2; grind)
      exfalso; exact c2 pt
  · replace c1 : ¬((prt (-x)) = ((⟨#[45]⟩ : ByteArray) ++ (prt x))) := by first | simpa only [vd1, vd2, vd3, vd4, vd5, vd6, vd7, reduceCtorEq, Option.some.injEq, vn_rw, va_rw, isNone_f, isNone_t, vi_cell_I, vi_cell_E0, vi_cell_E1, vi_cell_A0, vi_cell_A1, vi_cell_A2, vb_ite, vi_ite, updD, seq_b, byD_rw, ofBytes_one, w1, w2, w3, w4, w5, w6, w7, w8] using c1 | (simp only [vd1, vd2, vd3, vd4, vd5, vd6, vd7, reduceCtorEq, Option.some.injEq, vn_rw, va_rw, isNone_f, isNone_t, vi_cell_I, vi_cell_E0, vi_cell_E1, vi_cell_A0, vi_cell_A1, vi_cell_A2, vb_ite, vi_ite, updD, seq_b, byD_rw, ofBytes_one, w1, w2, w3, w4, w5, w6, w7, w8] at c1; grind)
    exfalso; exact c1 pn
end Go.Proofs.YtlcbhmkmadfabaaDoorK
