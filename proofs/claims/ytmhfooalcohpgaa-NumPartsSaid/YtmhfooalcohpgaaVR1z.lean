import Derived.Test.YtmhfooalcohpgaaVR1n
import Derived.Test.YtmhfooalcohpgaaVR1tm
import Derived.Test.YtmhfooalcohpgaaVL64
import Derived.Test.YtmhfooalcohpgaaVD64m
set_option linter.unusedSimpArgs false
set_option linter.unusedVariables false
set_option maxRecDepth 20000
namespace Go.Proofs.YtmhfooalcohpgaaK
open Go Go.Proofs.YtmhfooalcohpgaaV Go.Proofs
theorem fd32 (a : Int) : a.fdiv (2 ^ (min (Int.toNat 32) IntKind.u64.bits)) = a / 4294967296 := by
  have e : (2 : Int) ^ (min (Int.toNat 32) IntKind.u64.bits) = 4294967296 := by decide
  rw [e, Int.fdiv_eq_ediv_of_nonneg _ (by omega)]
theorem fd16 (a : Int) : a.fdiv (2 ^ (min (Int.toNat 16) IntKind.u64.bits)) = a / 65536 := by
  have e : (2 : Int) ^ (min (Int.toNat 16) IntKind.u64.bits) = 65536 := by decide
  rw [e, Int.fdiv_eq_ediv_of_nonneg _ (by omega)]
theorem fd8 (a : Int) : a.fdiv (2 ^ (min (Int.toNat 8) IntKind.u64.bits)) = a / 256 := by
  have e : (2 : Int) ^ (min (Int.toNat 8) IntKind.u64.bits) = 256 := by decide
  rw [e, Int.fdiv_eq_ediv_of_nonneg _ (by omega)]
theorem need_len (env : List Atom) (x : X) : Nd.ok env (.tru (.cmp .lss (.wrap .u8 x) (.size (.str tabL)))) := by
  show decide (IntKind.u8.wrap (vi (x.den env).1) < (((⟨tabL.toArray⟩ : ByteArray).size : Nat) : Int)) = true
  have e : (⟨tabL.toArray⟩ : ByteArray).size = 256 := by decide +kernel
  rw [e, IntKind.wrap_u8]
  exact decide_eq_true (by omega)
theorem need_0 (env : List Atom) (x : X) : Nd.ok env (.tru (.cmp .leq (.int 0) (.wrap .u8 x))) := by
  show decide (0 ≤ IntKind.u8.wrap (vi (x.den env).1)) = true
  rw [IntKind.wrap_u8]
  exact decide_eq_true (by omega)
theorem ret_len {env : List Atom} {x : X} {v : Int} (K : Nat) (he : vi (x.den env).1 = v / (2 ^ K : Nat)) (h0 : 0 ≤ v) (h1 : 1 ≤ vi (x.den env).1) (h2 : vi (x.den env).1 < 256) (hk : K ≤ 56) :
    [S.atom env (.int .i64 (.ar .add .i64 (.int K) (.wrap .i64 (.byte (.str tabL) (.wrap .u8 x)))))] = [aI (len64 v)] := by
  show [((.int .i64 (IntKind.i64.wrap ((K : Int) + IntKind.i64.wrap (tabV (IntKind.u8.wrap (vi (x.den env).1))))), .leaf) : Atom)] = _
  rw [len_of K h0 he h1 h2 hk]
theorem lz_len (x : Int) (h : 1 ≤ x) (h2 : x < 18446744073709551616) : IntKind.i64.wrap (64 - len64 x) = lz x := by
  obtain ⟨k, e, hk, _⟩ := lz_spec h h2
  have : len64 x = 64 - lz x := by unfold len64 lz; omega
  rw [this, e, wrap_id _ (by omega) (by omega)]; omega
def kLen (sg : Sig) : Sig × Con := (sg, mkFun (fun x : Int => ([aK .u64 x] : List Atom)) (fun x => 1 ≤ x ∧ x < 18446744073709551616) (fun x => [aI (len64 x)]))
set_option maxHeartbeats 4000000 in
theorem h42 : holds Try.prog (kLen sg42) := by
  refine fn_holds (l := []) trivial hP rs42 (inj_of (fun l : List Atom => (vi (l.getD 0 atom0).1 : Int)) (fun _ => rfl)) Try.func42 (by kernel_rfl) (c := code Try.f42) (by kernel_rfl) (an := an42) (by kernel_rfl) (pk := pk42) rfl (t := t42) (by kernel_rfl) ?_
  rintro x ⟨u0, u2⟩
  refine ⟨by simp [pk42, KindsOk, encPS, encPSn, encPSnc, encPSA, encPn, encSS, encI, Pol.enc, Stt.enc, Ac.enc, Sl.atom, Sl.nil, Stt.zero, RK.ok], ?_⟩
  unfold t42
  have u1 : 0 ≤ x := by omega
  refine br_wp (fun c1 => ?_) (fun c1 => ?_)
  · refine br_wp (fun c2 => ?_) (fun c2 => ?_)
    · refine br_wp (fun c3 => ?_) (fun c3 => ?_)
      · refine need_wp ?_ ?_
        · (first | exact need_len _ _ | exact need_0 _ _)
        refine need_wp ?_ ?_
        · (first | exact need_len _ _ | exact need_0 _ _)
        refine ret_wp ?_
        refine ret_len 56 ?_ u1 ?_ ?_ (by omega) <;> ((simp only [vd1, vd2, vd3, vd4, vd5, vd6, vd7, reduceCtorEq, Option.some.injEq, vb_ite, vi_ite, List.getD_cons_zero, List.getD_cons_succ, fd32, fd16, fd8] at *); omega)
      · refine need_wp ?_ ?_
        · (first | exact need_len _ _ | exact need_0 _ _)
        refine need_wp ?_ ?_
        · (first | exact need_len _ _ | exact need_0 _ _)
        refine ret_wp ?_
        refine ret_len 48 ?_ u1 ?_ ?_ (by omega) <;> ((simp only [vd1, vd2, vd3, vd4, vd5, vd6, vd7, reduceCtorEq, Option.some.injEq, vb_ite, vi_ite, List.getD_cons_zero, List.getD_cons_succ, fd32, fd16, fd8] at *); omega)
    · refine br_wp (fun c4 => ?_) (fun c4 => ?_)
      · refine need_wp ?_ ?_
        · (first | exact need_len _ _ | exact need_0 _ _)
        refine need_wp ?_ ?_
        · (first | exact need_len _ _ | exact need_0 _ _)
        refine ret_wp ?_
        refine ret_len 40 ?_ u1 ?_ ?_ (by omega) <;> ((simp only [vd1, vd2, vd3, vd4, vd5, vd6, vd7, reduceCtorEq, Option.some.injEq, vb_ite, vi_ite, List.getD_cons_zero, List.getD_cons_succ, fd32, fd16, fd8] at *); omega)
      · refine need_wp ?_ ?_
        · (first | exact need_len _ _ | exact need_0 _ _)
        refine need_wp ?_ ?_
        · (first | exact need_len _ _ | exact need_0 _ _)
        refine ret_wp ?_
        refine ret_len 32 ?_ u1 ?_ ?_ (by omega) <;> ((simp only [vd1, vd2, vd3, vd4, vd5, vd6, vd7, reduceCtorEq, Option.some.injEq, vb_ite, vi_ite, List.getD_cons_zero, List.getD_cons_succ, fd32, fd16, fd8] at *); omega)
  · refine br_wp (fun c5 => ?_) (fun c5 => ?_)
    · refine br_wp (fun c6 => ?_) (fun c6 => ?_)
      · refine need_wp ?_ ?_
        · (first | exact need_len _ _ | exact need_0 _ _)
        refine need_wp ?_ ?_
        · (first | exact need_len _ _ | exact need_0 _ _)
        refine ret_wp ?_
        refine ret_len 24 ?_ u1 ?_ ?_ (by omega) <;> ((simp only [vd1, vd2, vd3, vd4, vd5, vd6, vd7, reduceCtorEq, Option.some.injEq, vb_ite, vi_ite, List.getD_cons_zero, List.getD_cons_succ, fd32, fd16, fd8] at *); omega)
      · refine need_wp ?_ ?_
        · (first | exact need_len _ _ | exact need_0 _ _)
        refine need_wp ?_ ?_
        · (first | exact need_len _ _ | exact need_0 _ _)
        refine ret_wp ?_
        refine ret_len 16 ?_ u1 ?_ ?_ (by omega) <;> ((simp only [vd1, vd2, vd3, vd4, vd5, vd6, vd7, reduceCtorEq, Option.some.injEq, vb_ite, vi_ite, List.getD_cons_zero, List.getD_cons_succ, fd32, fd16, fd8] at *); omega)
    · refine br_wp (fun c7 => ?_) (fun c7 => ?_)
      · refine need_wp ?_ ?_
        · (first | exact need_len _ _ | exact need_0 _ _)
        refine need_wp ?_ ?_
        · (first | exact need_len _ _ | exact need_0 _ _)
        refine ret_wp ?_
        refine ret_len 8 ?_ u1 ?_ ?_ (by omega) <;> ((simp only [vd1, vd2, vd3, vd4, vd5, vd6, vd7, reduceCtorEq, Option.some.injEq, vb_ite, vi_ite, List.getD_cons_zero, List.getD_cons_succ, fd32, fd16, fd8] at *); omega)
      · refine need_wp ?_ ?_
        · (first | exact need_len _ _ | exact need_0 _ _)
        refine need_wp ?_ ?_
        · (first | exact need_len _ _ | exact need_0 _ _)
        refine ret_wp ?_
        refine ret_len 0 ?_ u1 ?_ ?_ (by omega) <;> ((simp only [vd1, vd2, vd3, vd4, vd5, vd6, vd7, reduceCtorEq, Option.some.injEq, vb_ite, vi_ite, List.getD_cons_zero, List.getD_cons_succ, fd32, fd16, fd8] at *); omega)
def kLz (sg : Sig) : Sig × Con := (sg, mkFun (fun x : Int => ([aK .u64 x] : List Atom)) (fun x => 1 ≤ x ∧ x < 18446744073709551616) (fun x => [aI (lz x)]))
set_option maxHeartbeats 4000000 in
theorem hz41 : holds Try.prog (kLz sg41) := by
  refine fn_holds (l := [kLen sg42]) ⟨h42, trivial⟩ hP rs41 (inj_of (fun l : List Atom => (vi (l.getD 0 atom0).1 : Int)) (fun _ => rfl)) Try.func41 (by kernel_rfl) (c := code Try.f41) (by kernel_rfl) (an := an41) (by kernel_rfl) (pk := pk41) rfl (t := t41) (by kernel_rfl) ?_
  rintro x ⟨u0, u2⟩
  refine ⟨by simp [pk41, KindsOk, encPS, encPSn, encPSnc, encPSA, encPn, encSS, encI, Pol.enc, Stt.enc, Ac.enc, Sl.atom, Sl.nil, Stt.zero, RK.ok], ?_⟩
  unfold t41
  refine call_fun (x) rfl (by simp only [vd1, vd2, vd3, vd4, vd5, vd6, vd7, reduceCtorEq, Option.some.injEq, vb_ite, vi_ite, List.getD_cons_zero, List.getD_cons_succ]) ⟨u0, u2⟩ ?_
  refine ret_wp ?_
  ((simp only [vd1, vd2, vd3, vd4, vd5, vd6, vd7, reduceCtorEq, Option.some.injEq, vb_ite, vi_ite, List.getD_cons_zero, List.getD_cons_succ] at *); first | exact lz_len _ u0 u2 | (rw [lz_len _ u0 u2]))
theorem mulB {i B : Int} (h : i < 4294967296) (h0 : 0 ≤ i) (hb : 0 ≤ B) (hb2 : B < 4294967296) : i * B < 18446744073709551616 := by
  have := Int.mul_le_mul (show i ≤ 4294967295 by omega) (show B ≤ 4294967295 by omega) hb (by omega)
  omega
def kDiv64F (sg : Sig) : Sig × Con := (sg, mkFun (fun x : Int × Int × Int => ([aK .u64 x.1, aK .u64 x.2.1, aK .u64 x.2.2] : List Atom)) (fun x => x.1 < x.2.2 ∧ 0 ≤ x.1 ∧ (0 ≤ x.2.1 ∧ x.2.1 < 18446744073709551616) ∧ 1 ≤ x.2.2 ∧ x.2.2 < 18446744073709551616) (fun x => [aK .u64 (dv (x.1 * 18446744073709551616 + x.2.1) x.2.2), aK .u64 (md (x.1 * 18446744073709551616 + x.2.1) x.2.2)]))
set_option maxHeartbeats 4000000 in
theorem hf38 : holds Try.prog (kDiv64F sg38) := by
  refine fn_holds (l := [kLz sg41]) ⟨hz41, trivial⟩ hP rs38f (inj_of (fun l : List Atom => ((vi (l.getD 0 atom0).1, vi (l.getD 1 atom0).1, vi (l.getD 2 atom0).1) : Int × Int × Int)) (fun _ => rfl)) Try.func38 (by kernel_rfl) (c := code Try.f38) (by kernel_rfl) (an := an38f) (by kernel_rfl) (pk := pk38) rfl (t := t38f) (by kernel_rfl) ?_
  rintro ⟨x, z, y⟩ ⟨u0, u1, ⟨u2, u3⟩, u4, u5⟩
  refine ⟨by simp [pk38, KindsOk, encPS, encPSn, encPSnc, encPSA, encPn, encSS, encI, Pol.enc, Stt.enc, Ac.enc, Sl.atom, Sl.nil, Stt.zero, RK.ok], ?_⟩
  unfold t38f
  simp only at u0 u1 u2 u3 u4 u5
  refine br_wp (fun c1 => ?_) (fun c1 => ?_)
  · exfalso; ((simp only [vd1, vd2, vd3, vd4, vd5, vd6, vd7, reduceCtorEq, Option.some.injEq, vb_ite, vi_ite, List.getD_cons_zero, List.getD_cons_succ] at *); omega)
  · refine br_wp (fun c2 => ?_) (fun c2 => ?_)
    · exfalso; ((simp only [vd1, vd2, vd3, vd4, vd5, vd6, vd7, reduceCtorEq, Option.some.injEq, vb_ite, vi_ite, List.getD_cons_zero, List.getD_cons_succ] at *); omega)
    · refine br_wp (fun c3 => ?_) (fun c3 => ?_)
      · have hx : x = 0 := by simp only [vd1, vd2, vd3, vd4, vd5, vd6, vd7, reduceCtorEq, Option.some.injEq, vb_ite, vi_ite, List.getD_cons_zero, List.getD_cons_succ] at c3; simpa using c3
        have q := quo_u64 z y (by omega) (by omega) (by omega)
        have q2 := rem_id z y (by omega)
        have e0 : x * 18446744073709551616 + z = z := by omega
        refine need_wp ?_ ?_
        · (simp only [vd1, vd2, vd3, vd4, vd5, vd6, vd7, reduceCtorEq, Option.some.injEq, vb_ite, vi_ite, List.getD_cons_zero, List.getD_cons_succ, q, q2, e0] at *; first | omega | (exact hne) | grind)
        refine ret_wp ?_
        (first | ((simp only [vd1, vd2, vd3, vd4, vd5, vd6, vd7, reduceCtorEq, Option.some.injEq, vb_ite, vi_ite, List.getD_cons_zero, List.getD_cons_succ, q, q2, e0]); done) | ((simp only [vd1, vd2, vd3, vd4, vd5, vd6, vd7, reduceCtorEq, Option.some.injEq, vb_ite, vi_ite, List.getD_cons_zero, List.getD_cons_succ, q, q2, e0, hmd]); done))
      · have hx : x ≠ 0 := by simp only [vd1, vd2, vd3, vd4, vd5, vd6, vd7, reduceCtorEq, Option.some.injEq, vb_ite, vi_ite, List.getD_cons_zero, List.getD_cons_succ] at c3; simpa using c3
        obtain ⟨k, j, P, J, Y, A, B, H, K, U, V, C, D, hs, hm, hshl, hshr, hshj, eY, eA, eB, eH, eK, eU, eV, eC, eD, hh, hY2, hP, hYP, hD, hD2, hVC, hN⟩ := div_setup (x := x) (z := z) (y := y) (by omega) (by omega) (by omega) (by omega) (by omega)
        obtain ⟨TT, hT⟩ : ∃ TT, TT = U * 4294967296 + C - q1 U C Y * Y := ⟨_, rfl⟩
        obtain ⟨hh2, hdv, hmd⟩ := div_both hP (by omega) hYP hh hT hD hD2 hVC hN
        have fT := rest_fact hh hY2
        rw [← hT] at fT
        have fR := rest_fact hh2 hY2
        have s1 := q1_spec hh
        have s2 := q1_spec hh2
        have fO : IntKind.u64.wrap (IntKind.u64.wrap (q1 U C Y * 4294967296) + q1 TT D Y) = q1 U C Y * 4294967296 + q1 TT D Y := by rw [wrap_u (q1 U C Y * 4294967296) (by omega) (by omega), wrap_u _ (by omega) (by omega)]
        obtain ⟨q, r, p0, p1, p2, p3, p4, p5, p6, p7, p8, p9⟩ := half_init hh
        obtain ⟨g, h, r0, r1, r2, r3, r4, r5, r6, r7, r8, r9⟩ := half_init hh2
        have hhu := hh.u2
        have hhu2 := hh2.u2
        have hha := hh.a
        have hha2 := hh.a2
        have hq0 : quoD .u64 U A = q := by rw [quo_u64 _ _ hh.u (by omega) (by omega)]; exact p0
        have hq1 := wrap_u (q * A) p8 (by omega)
        have hq2 : IntKind.u64.wrap (U - q * A) = r := by rw [p1]; exact wrap_u _ p2 (by omega)
        have hg0 : quoD .u64 TT A = g := by rw [quo_u64 _ _ hh2.u (by omega) (by omega)]; exact r0
        have hg1 := wrap_u (g * A) r8 (by omega)
        have hg2 : IntKind.u64.wrap (TT - g * A) = h := by rw [r1]; exact wrap_u _ r2 (by omega)
        have hC := hh.c
        have hC2 := hh.c2
        have wu1 : ∀ e : Int, 0 ≤ e → e < 4294967296 → IntKind.u64.wrap (IntKind.u64.wrap (4294967296 * e) + C) = 4294967296 * e + C := fun e h1 h2 => by rw [wrap_u (4294967296 * e) (by omega) (by omega), wrap_u _ (by omega) (by omega)]
        have wu2 : ∀ e : Int, 0 ≤ e → e < 4294967296 → IntKind.u64.wrap (IntKind.u64.wrap (4294967296 * e) + D) = 4294967296 * e + D := fun e h1 h2 => by rw [wrap_u (4294967296 * e) (by omega) (by omega), wrap_u _ (by omega) (by omega)]
        have hk0 : (0 : Int) ≤ k := by omega
        refine call_fun (y) rfl (by simp only [vd1, vd2, vd3, vd4, vd5, vd6, vd7, reduceCtorEq, Option.some.injEq, vb_ite, vi_ite, List.getD_cons_zero, List.getD_cons_succ, hs, hm, hshl, hshr, hshj, fd32, eY, eA, eB, eH, eK, eU, eV, eC, eD, hq0, hq1, hq2, hg0, hg1, hg2]) ⟨u4, u5⟩ ?_
        refine need_wp ?_ ?_
        · (simp only [vd1, vd2, vd3, vd4, vd5, vd6, vd7, reduceCtorEq, Option.some.injEq, vb_ite, vi_ite, List.getD_cons_zero, List.getD_cons_succ, hs, hm, hshl, hshr, hshj, fd32, eY, eA, eB, eH, eK, eU, eV, eC, eD, hq0, hq1, hq2, hg0, hg1, hg2] at *; first | omega | (exact hne) | grind)
        refine need_wp ?_ ?_
        · (simp only [vd1, vd2, vd3, vd4, vd5, vd6, vd7, reduceCtorEq, Option.some.injEq, vb_ite, vi_ite, List.getD_cons_zero, List.getD_cons_succ, hs, hm, hshl, hshr, hshj, fd32, eY, eA, eB, eH, eK, eU, eV, eC, eD, hq0, hq1, hq2, hg0, hg1, hg2] at *; first | omega | (exact hne) | grind)
        refine need_wp ?_ ?_
        · (simp only [vd1, vd2, vd3, vd4, vd5, vd6, vd7, reduceCtorEq, Option.some.injEq, vb_ite, vi_ite, List.getD_cons_zero, List.getD_cons_succ, hs, hm, hshl, hshr, hshj, fd32, eY, eA, eB, eH, eK, eU, eV, eC, eD, hq0, hq1, hq2, hg0, hg1, hg2] at *; first | omega | (exact hne) | grind)
        refine loop_wp (fun bs0 => ∃ (i : Int) (e : Int), bs0 = [aK .u64 i, aK .u64 e] ∧ (i * A + e = U ∧ q1 U C Y ≤ i ∧ 0 ≤ i ∧ i ≤ 4294967297 ∧ 0 ≤ e ∧ e < 4294967296)) (fun bs0 => (vi (bs0.getD 0 atom0).1).toNat) ?_ ?_
        · refine ⟨q, r, by simp only [vd1, vd2, vd3, vd4, vd5, vd6, vd7, reduceCtorEq, Option.some.injEq, vb_ite, vi_ite, List.getD_cons_zero, List.getD_cons_succ, hs, hm, hshl, hshr, hshj, fd32, eY, eA, eB, eH, eK, eU, eV, eC, eD, hq0, hq1, hq2, hg0, hg1, hg2], ?_⟩
          exact ⟨p4, p5, p6, p7, p2, p3⟩
        rintro _ _ ⟨i, e, rfl, ⟨i0, i1, i2, i3, i4, i5⟩⟩
        refine br_wp (fun c4 => ?_) (fun c4 => ?_)
        · have hc : 4294967296 ≤ i ∨ 4294967296 * e + C < i * B := by simp only [vd1, vd2, vd3, vd4, vd5, vd6, vd7, reduceCtorEq, Option.some.injEq, vb_ite, vi_ite, List.getD_cons_zero, List.getD_cons_succ, hs, hm, hshl, hshr, hshj, fd32, eY, eA, eB, eH, eK, eU, eV, eC, eD, hq0, hq1, hq2, hg0, hg1, hg2] at *; omega
          have hl := half_less hh i0 i1 hc
          have hp0 := (q1_spec hh).2.2.1
          obtain ⟨d, hd⟩ : ∃ d, d = i - 1 := ⟨_, rfl⟩
          have w1 : IntKind.u64.wrap (i - 1) = d := by rw [hd]; exact wrap_u _ (by omega) (by omega)
          obtain ⟨e1, he1⟩ : ∃ e1, e1 = e + A := ⟨_, rfl⟩
          have w2 : IntKind.u64.wrap (e + A) = e1 := by rw [he1]; exact wrap_u _ (by omega) (by omega)
          rw [← hd, ← he1] at hl
          refine br_wp (fun c5 => ?_) (fun c5 => ?_)
          · have hq : d = q1 U C Y := half_break hh hl.2 hl.1 (by omega) (by omega) (by simp only [vd1, vd2, vd3, vd4, vd5, vd6, vd7, reduceCtorEq, Option.some.injEq, vb_ite, vi_ite, List.getD_cons_zero, List.getD_cons_succ, hs, hm, hshl, hshr, hshj, fd32, eY, eA, eB, eH, eK, eU, eV, eC, eD, hq0, hq1, hq2, hg0, hg1, hg2, w1, w2] at c5; omega)
            refine pop_wp ?_
            refine loop_wp (fun bs0 => ∃ (m : Int) (f : Int), bs0 = [aK .u64 m, aK .u64 f] ∧ (m * A + f = TT ∧ q1 TT D Y ≤ m ∧ 0 ≤ m ∧ m ≤ 4294967297 ∧ 0 ≤ f ∧ f < 4294967296)) (fun bs0 => (vi (bs0.getD 0 atom0).1).toNat) ?_ ?_
            · refine ⟨g, h, by simp only [vd1, vd2, vd3, vd4, vd5, vd6, vd7, reduceCtorEq, Option.some.injEq, vb_ite, vi_ite, List.getD_cons_zero, List.getD_cons_succ, hs, hm, hshl, hshr, hshj, fd32, eY, eA, eB, eH, eK, eU, eV, eC, eD, hq0, hq1, hq2, hg0, hg1, hg2, w1, w2, hq, fT], ?_⟩
              exact ⟨r4, r5, r6, r7, r2, r3⟩
            rintro _ _ ⟨m, f, rfl, ⟨m0, m1, m2, m3, m4, m5⟩⟩
            refine br_wp (fun c6 => ?_) (fun c6 => ?_)
            · have hc2 : 4294967296 ≤ m ∨ 4294967296 * f + D < m * B := by simp only [vd1, vd2, vd3, vd4, vd5, vd6, vd7, reduceCtorEq, Option.some.injEq, vb_ite, vi_ite, List.getD_cons_zero, List.getD_cons_succ, hs, hm, hshl, hshr, hshj, fd32, eY, eA, eB, eH, eK, eU, eV, eC, eD, hq0, hq1, hq2, hg0, hg1, hg2, w1, w2, hq, fT] at *; omega
              have hl := half_less hh2 m0 m1 hc2
              have hp0 := (q1_spec hh2).2.2.1
              obtain ⟨o, ho⟩ : ∃ o, o = m - 1 := ⟨_, rfl⟩
              have w3 : IntKind.u64.wrap (m - 1) = o := by rw [ho]; exact wrap_u _ (by omega) (by omega)
              obtain ⟨f1, hf1⟩ : ∃ f1, f1 = f + A := ⟨_, rfl⟩
              have w4 : IntKind.u64.wrap (f + A) = f1 := by rw [hf1]; exact wrap_u _ (by omega) (by omega)
              rw [← ho, ← hf1] at hl
              refine br_wp (fun c7 => ?_) (fun c7 => ?_)
              · have hq2 : o = q1 TT D Y := half_break hh2 hl.2 hl.1 (by omega) (by omega) (by simp only [vd1, vd2, vd3, vd4, vd5, vd6, vd7, reduceCtorEq, Option.some.injEq, vb_ite, vi_ite, List.getD_cons_zero, List.getD_cons_succ, hs, hm, hshl, hshr, hshj, fd32, eY, eA, eB, eH, eK, eU, eV, eC, eD, hq0, hq1, hq2, hg0, hg1, hg2, w1, w2, hq, fT, w3, w4] at c7; omega)
                refine pop_wp ?_
                refine ret_wp ?_
                (first | ((simp only [vd1, vd2, vd3, vd4, vd5, vd6, vd7, reduceCtorEq, Option.some.injEq, vb_ite, vi_ite, List.getD_cons_zero, List.getD_cons_succ, hs, hm, hshl, hshr, hshj, fd32, eY, eA, eB, eH, eK, eU, eV, eC, eD, hq0, hq1, hq2, hg0, hg1, hg2, w1, w2, hq, fT, w3, w4, hq2, fR, fO, hdv]); done) | ((simp only [vd1, vd2, vd3, vd4, vd5, vd6, vd7, reduceCtorEq, Option.some.injEq, vb_ite, vi_ite, List.getD_cons_zero, List.getD_cons_succ, hs, hm, hshl, hshr, hshj, fd32, eY, eA, eB, eH, eK, eU, eV, eC, eD, hq0, hq1, hq2, hg0, hg1, hg2, w1, w2, hq, fT, w3, w4, hq2, fR, fO, hdv, hmd]); done))
              · refine again_wp rfl ⟨o, f1, by simp only [vd1, vd2, vd3, vd4, vd5, vd6, vd7, reduceCtorEq, Option.some.injEq, vb_ite, vi_ite, List.getD_cons_zero, List.getD_cons_succ, hs, hm, hshl, hshr, hshj, fd32, eY, eA, eB, eH, eK, eU, eV, eC, eD, hq0, hq1, hq2, hg0, hg1, hg2, w1, w2, hq, fT, w3, w4], ?_⟩ ?_
                · exact ⟨hl.2, hl.1, by omega, by omega, by omega, by simp only [vd1, vd2, vd3, vd4, vd5, vd6, vd7, reduceCtorEq, Option.some.injEq, vb_ite, vi_ite, List.getD_cons_zero, List.getD_cons_succ, hs, hm, hshl, hshr, hshj, fd32, eY, eA, eB, eH, eK, eU, eV, eC, eD, hq0, hq1, hq2, hg0, hg1, hg2, w1, w2, hq, fT, w3, w4] at *; omega⟩
                · (simp only [vd1, vd2, vd3, vd4, vd5, vd6, vd7, reduceCtorEq, Option.some.injEq, vb_ite, vi_ite, List.getD_cons_zero, List.getD_cons_succ, hs, hm, hshl, hshr, hshj, fd32, eY, eA, eB, eH, eK, eU, eV, eC, eD, hq0, hq1, hq2, hg0, hg1, hg2, w1, w2, hq, fT, w3, w4]; omega)
            · refine br_wp (fun c8 => ?_) (fun c8 => ?_)
              · have hc2 : 4294967296 ≤ m ∨ 4294967296 * f + D < m * B := by have z1 := c6; simp only [vd1, vd2, vd3, vd4, vd5, vd6, vd7, reduceCtorEq, Option.some.injEq, vb_ite, vi_ite, List.getD_cons_zero, List.getD_cons_succ, hs, hm, hshl, hshr, hshj, fd32, eY, eA, eB, eH, eK, eU, eV, eC, eD, hq0, hq1, hq2, hg0, hg1, hg2, w1, w2, hq, fT] at z1; have wb1 := wrap_u (m * B) (Int.mul_nonneg m2 hh.b) (mulB (by omega) m2 hh.b hh.b2); have wz := wu2 f m4 m5; simp only [vd1, vd2, vd3, vd4, vd5, vd6, vd7, reduceCtorEq, Option.some.injEq, vb_ite, vi_ite, List.getD_cons_zero, List.getD_cons_succ, hs, hm, hshl, hshr, hshj, fd32, eY, eA, eB, eH, eK, eU, eV, eC, eD, hq0, hq1, hq2, hg0, hg1, hg2, w1, w2, hq, fT, wb1, wz] at c8; omega
                have hl := half_less hh2 m0 m1 hc2
                have hp0 := (q1_spec hh2).2.2.1
                obtain ⟨o, ho⟩ : ∃ o, o = m - 1 := ⟨_, rfl⟩
                have w3 : IntKind.u64.wrap (m - 1) = o := by rw [ho]; exact wrap_u _ (by omega) (by omega)
                obtain ⟨f1, hf1⟩ : ∃ f1, f1 = f + A := ⟨_, rfl⟩
                have w4 : IntKind.u64.wrap (f + A) = f1 := by rw [hf1]; exact wrap_u _ (by omega) (by omega)
                rw [← ho, ← hf1] at hl
                refine br_wp (fun c9 => ?_) (fun c9 => ?_)
                · have hq2 : o = q1 TT D Y := half_break hh2 hl.2 hl.1 (by omega) (by omega) (by simp only [vd1, vd2, vd3, vd4, vd5, vd6, vd7, reduceCtorEq, Option.some.injEq, vb_ite, vi_ite, List.getD_cons_zero, List.getD_cons_succ, hs, hm, hshl, hshr, hshj, fd32, eY, eA, eB, eH, eK, eU, eV, eC, eD, hq0, hq1, hq2, hg0, hg1, hg2, w1, w2, hq, fT, w3, w4] at c9; omega)
                  refine pop_wp ?_
                  refine ret_wp ?_
                  (first | ((simp only [vd1, vd2, vd3, vd4, vd5, vd6, vd7, reduceCtorEq, Option.some.injEq, vb_ite, vi_ite, List.getD_cons_zero, List.getD_cons_succ, hs, hm, hshl, hshr, hshj, fd32, eY, eA, eB, eH, eK, eU, eV, eC, eD, hq0, hq1, hq2, hg0, hg1, hg2, w1, w2, hq, fT, w3, w4, hq2, fR, fO, hdv]); done) | ((simp only [vd1, vd2, vd3, vd4, vd5, vd6, vd7, reduceCtorEq, Option.some.injEq, vb_ite, vi_ite, List.getD_cons_zero, List.getD_cons_succ, hs, hm, hshl, hshr, hshj, fd32, eY, eA, eB, eH, eK, eU, eV, eC, eD, hq0, hq1, hq2, hg0, hg1, hg2, w1, w2, hq, fT, w3, w4, hq2, fR, fO, hdv, hmd]); done))
                · refine again_wp rfl ⟨o, f1, by simp only [vd1, vd2, vd3, vd4, vd5, vd6, vd7, reduceCtorEq, Option.some.injEq, vb_ite, vi_ite, List.getD_cons_zero, List.getD_cons_succ, hs, hm, hshl, hshr, hshj, fd32, eY, eA, eB, eH, eK, eU, eV, eC, eD, hq0, hq1, hq2, hg0, hg1, hg2, w1, w2, hq, fT, w3, w4], ?_⟩ ?_
                  · exact ⟨hl.2, hl.1, by omega, by omega, by omega, by simp only [vd1, vd2, vd3, vd4, vd5, vd6, vd7, reduceCtorEq, Option.some.injEq, vb_ite, vi_ite, List.getD_cons_zero, List.getD_cons_succ, hs, hm, hshl, hshr, hshj, fd32, eY, eA, eB, eH, eK, eU, eV, eC, eD, hq0, hq1, hq2, hg0, hg1, hg2, w1, w2, hq, fT, w3, w4] at *; omega⟩
                  · (simp only [vd1, vd2, vd3, vd4, vd5, vd6, vd7, reduceCtorEq, Option.some.injEq, vb_ite, vi_ite, List.getD_cons_zero, List.getD_cons_succ, hs, hm, hshl, hshr, hshj, fd32, eY, eA, eB, eH, eK, eU, eV, eC, eD, hq0, hq1, hq2, hg0, hg1, hg2, w1, w2, hq, fT, w3, w4]; omega)
              · have hq2 : m = q1 TT D Y := half_done hh2 m0 m1 (by have z1 := c6; simp only [vd1, vd2, vd3, vd4, vd5, vd6, vd7, reduceCtorEq, Option.some.injEq, vb_ite, vi_ite, List.getD_cons_zero, List.getD_cons_succ, hs, hm, hshl, hshr, hshj, fd32, eY, eA, eB, eH, eK, eU, eV, eC, eD, hq0, hq1, hq2, hg0, hg1, hg2, w1, w2, hq, fT] at z1; have wb1 := wrap_u (m * B) (Int.mul_nonneg m2 hh.b) (mulB (by omega) m2 hh.b hh.b2); have wz := wu2 f m4 m5; simp only [vd1, vd2, vd3, vd4, vd5, vd6, vd7, reduceCtorEq, Option.some.injEq, vb_ite, vi_ite, List.getD_cons_zero, List.getD_cons_succ, hs, hm, hshl, hshr, hshj, fd32, eY, eA, eB, eH, eK, eU, eV, eC, eD, hq0, hq1, hq2, hg0, hg1, hg2, w1, w2, hq, fT, wb1, wz] at c8; omega)
                refine pop_wp ?_
                refine ret_wp ?_
                (first | ((simp only [vd1, vd2, vd3, vd4, vd5, vd6, vd7, reduceCtorEq, Option.some.injEq, vb_ite, vi_ite, List.getD_cons_zero, List.getD_cons_succ, hs, hm, hshl, hshr, hshj, fd32, eY, eA, eB, eH, eK, eU, eV, eC, eD, hq0, hq1, hq2, hg0, hg1, hg2, w1, w2, hq, fT, hq2, fR, fO, hdv]); done) | ((simp only [vd1, vd2, vd3, vd4, vd5, vd6, vd7, reduceCtorEq, Option.some.injEq, vb_ite, vi_ite, List.getD_cons_zero, List.getD_cons_succ, hs, hm, hshl, hshr, hshj, fd32, eY, eA, eB, eH, eK, eU, eV, eC, eD, hq0, hq1, hq2, hg0, hg1, hg2, w1, w2, hq, fT, hq2, fR, fO, hdv, hmd]); done))
          · refine again_wp rfl ⟨d, e1, by simp only [vd1, vd2, vd3, vd4, vd5, vd6, vd7, reduceCtorEq, Option.some.injEq, vb_ite, vi_ite, List.getD_cons_zero, List.getD_cons_succ, hs, hm, hshl, hshr, hshj, fd32, eY, eA, eB, eH, eK, eU, eV, eC, eD, hq0, hq1, hq2, hg0, hg1, hg2, w1, w2], ?_⟩ ?_
            · exact ⟨hl.2, hl.1, by omega, by omega, by omega, by simp only [vd1, vd2, vd3, vd4, vd5, vd6, vd7, reduceCtorEq, Option.some.injEq, vb_ite, vi_ite, List.getD_cons_zero, List.getD_cons_succ, hs, hm, hshl, hshr, hshj, fd32, eY, eA, eB, eH, eK, eU, eV, eC, eD, hq0, hq1, hq2, hg0, hg1, hg2, w1, w2] at *; omega⟩
            · (simp only [vd1, vd2, vd3, vd4, vd5, vd6, vd7, reduceCtorEq, Option.some.injEq, vb_ite, vi_ite, List.getD_cons_zero, List.getD_cons_succ, hs, hm, hshl, hshr, hshj, fd32, eY, eA, eB, eH, eK, eU, eV, eC, eD, hq0, hq1, hq2, hg0, hg1, hg2, w1, w2]; omega)
        · refine br_wp (fun c10 => ?_) (fun c10 => ?_)
          · have hc : 4294967296 ≤ i ∨ 4294967296 * e + C < i * B := by have z1 := c4; simp only [vd1, vd2, vd3, vd4, vd5, vd6, vd7, reduceCtorEq, Option.some.injEq, vb_ite, vi_ite, List.getD_cons_zero, List.getD_cons_succ, hs, hm, hshl, hshr, hshj, fd32, eY, eA, eB, eH, eK, eU, eV, eC, eD, hq0, hq1, hq2, hg0, hg1, hg2] at z1; have wb1 := wrap_u (i * B) (Int.mul_nonneg i2 hh.b) (mulB (by omega) i2 hh.b hh.b2); have wz := wu1 e i4 i5; simp only [vd1, vd2, vd3, vd4, vd5, vd6, vd7, reduceCtorEq, Option.some.injEq, vb_ite, vi_ite, List.getD_cons_zero, List.getD_cons_succ, hs, hm, hshl, hshr, hshj, fd32, eY, eA, eB, eH, eK, eU, eV, eC, eD, hq0, hq1, hq2, hg0, hg1, hg2, wb1, wz] at c10; omega
            have hl := half_less hh i0 i1 hc
            have hp0 := (q1_spec hh).2.2.1
            obtain ⟨d, hd⟩ : ∃ d, d = i - 1 := ⟨_, rfl⟩
            have w1 : IntKind.u64.wrap (i - 1) = d := by rw [hd]; exact wrap_u _ (by omega) (by omega)
            obtain ⟨e1, he1⟩ : ∃ e1, e1 = e + A := ⟨_, rfl⟩
            have w2 : IntKind.u64.wrap (e + A) = e1 := by rw [he1]; exact wrap_u _ (by omega) (by omega)
            rw [← hd, ← he1] at hl
            refine br_wp (fun c11 => ?_) (fun c11 => ?_)
            · have hq : d = q1 U C Y := half_break hh hl.2 hl.1 (by omega) (by omega) (by simp only [vd1, vd2, vd3, vd4, vd5, vd6, vd7, reduceCtorEq, Option.some.injEq, vb_ite, vi_ite, List.getD_cons_zero, List.getD_cons_succ, hs, hm, hshl, hshr, hshj, fd32, eY, eA, eB, eH, eK, eU, eV, eC, eD, hq0, hq1, hq2, hg0, hg1, hg2, w1, w2] at c11; omega)
              refine pop_wp ?_
              refine loop_wp (fun bs0 => ∃ (m : Int) (f : Int), bs0 = [aK .u64 m, aK .u64 f] ∧ (m * A + f = TT ∧ q1 TT D Y ≤ m ∧ 0 ≤ m ∧ m ≤ 4294967297 ∧ 0 ≤ f ∧ f < 4294967296)) (fun bs0 => (vi (bs0.getD 0 atom0).1).toNat) ?_ ?_
              · refine ⟨g, h, by simp only [vd1, vd2, vd3, vd4, vd5, vd6, vd7, reduceCtorEq, Option.some.injEq, vb_ite, vi_ite, List.getD_cons_zero, List.getD_cons_succ, hs, hm, hshl, hshr, hshj, fd32, eY, eA, eB, eH, eK, eU, eV, eC, eD, hq0, hq1, hq2, hg0, hg1, hg2, w1, w2, hq, fT], ?_⟩
                exact ⟨r4, r5, r6, r7, r2, r3⟩
              rintro _ _ ⟨m, f, rfl, ⟨m0, m1, m2, m3, m4, m5⟩⟩
              refine br_wp (fun c12 => ?_) (fun c12 => ?_)
              · have hc2 : 4294967296 ≤ m ∨ 4294967296 * f + D < m * B := by simp only [vd1, vd2, vd3, vd4, vd5, vd6, vd7, reduceCtorEq, Option.some.injEq, vb_ite, vi_ite, List.getD_cons_zero, List.getD_cons_succ, hs, hm, hshl, hshr, hshj, fd32, eY, eA, eB, eH, eK, eU, eV, eC, eD, hq0, hq1, hq2, hg0, hg1, hg2, w1, w2, hq, fT] at *; omega
                have hl := half_less hh2 m0 m1 hc2
                have hp0 := (q1_spec hh2).2.2.1
                obtain ⟨o, ho⟩ : ∃ o, o = m - 1 := ⟨_, rfl⟩
                have w3 : IntKind.u64.wrap (m - 1) = o := by rw [ho]; exact wrap_u _ (by omega) (by omega)
                obtain ⟨f1, hf1⟩ : ∃ f1, f1 = f + A := ⟨_, rfl⟩
                have w4 : IntKind.u64.wrap (f + A) = f1 := by rw [hf1]; exact wrap_u _ (by omega) (by omega)
                rw [← ho, ← hf1] at hl
                refine br_wp (fun c13 => ?_) (fun c13 => ?_)
                · have hq2 : o = q1 TT D Y := half_break hh2 hl.2 hl.1 (by omega) (by omega) (by simp only [vd1, vd2, vd3, vd4, vd5, vd6, vd7, reduceCtorEq, Option.some.injEq, vb_ite, vi_ite, List.getD_cons_zero, List.getD_cons_succ, hs, hm, hshl, hshr, hshj, fd32, eY, eA, eB, eH, eK, eU, eV, eC, eD, hq0, hq1, hq2, hg0, hg1, hg2, w1, w2, hq, fT, w3, w4] at c13; omega)
                  refine pop_wp ?_
                  refine ret_wp ?_
                  (first | ((simp only [vd1, vd2, vd3, vd4, vd5, vd6, vd7, reduceCtorEq, Option.some.injEq, vb_ite, vi_ite, List.getD_cons_zero, List.getD_cons_succ, hs, hm, hshl, hshr, hshj, fd32, eY, eA, eB, eH, eK, eU, eV, eC, eD, hq0, hq1, hq2, hg0, hg1, hg2, w1, w2, hq, fT, w3, w4, hq2, fR, fO, hdv]); done) | ((simp only [vd1, vd2, vd3, vd4, vd5, vd6, vd7, reduceCtorEq, Option.some.injEq, vb_ite, vi_ite, List.getD_cons_zero, List.getD_cons_succ, hs, hm, hshl, hshr, hshj, fd32, eY, eA, eB, eH, eK, eU, eV, eC, eD, hq0, hq1, hq2, hg0, hg1, hg2, w1, w2, hq, fT, w3, w4, hq2, fR, fO, hdv, hmd]); done))
                · refine again_wp rfl ⟨o, f1, by simp only [vd1, vd2, vd3, vd4, vd5, vd6, vd7, reduceCtorEq, Option.some.injEq, vb_ite, vi_ite, List.getD_cons_zero, List.getD_cons_succ, hs, hm, hshl, hshr, hshj, fd32, eY, eA, eB, eH, eK, eU, eV, eC, eD, hq0, hq1, hq2, hg0, hg1, hg2, w1, w2, hq, fT, w3, w4], ?_⟩ ?_
                  · exact ⟨hl.2, hl.1, by omega, by omega, by omega, by simp only [vd1, vd2, vd3, vd4, vd5, vd6, vd7, reduceCtorEq, Option.some.injEq, vb_ite, vi_ite, List.getD_cons_zero, List.getD_cons_succ, hs, hm, hshl, hshr, hshj, fd32, eY, eA, eB, eH, eK, eU, eV, eC, eD, hq0, hq1, hq2, hg0, hg1, hg2, w1, w2, hq, fT, w3, w4] at *; omega⟩
                  · (simp only [vd1, vd2, vd3, vd4, vd5, vd6, vd7, reduceCtorEq, Option.some.injEq, vb_ite, vi_ite, List.getD_cons_zero, List.getD_cons_succ, hs, hm, hshl, hshr, hshj, fd32, eY, eA, eB, eH, eK, eU, eV, eC, eD, hq0, hq1, hq2, hg0, hg1, hg2, w1, w2, hq, fT, w3, w4]; omega)
              · refine br_wp (fun c14 => ?_) (fun c14 => ?_)
                · have hc2 : 4294967296 ≤ m ∨ 4294967296 * f + D < m * B := by have z1 := c12; simp only [vd1, vd2, vd3, vd4, vd5, vd6, vd7, reduceCtorEq, Option.some.injEq, vb_ite, vi_ite, List.getD_cons_zero, List.getD_cons_succ, hs, hm, hshl, hshr, hshj, fd32, eY, eA, eB, eH, eK, eU, eV, eC, eD, hq0, hq1, hq2, hg0, hg1, hg2, w1, w2, hq, fT] at z1; have wb1 := wrap_u (m * B) (Int.mul_nonneg m2 hh.b) (mulB (by omega) m2 hh.b hh.b2); have wz := wu2 f m4 m5; simp only [vd1, vd2, vd3, vd4, vd5, vd6, vd7, reduceCtorEq, Option.some.injEq, vb_ite, vi_ite, List.getD_cons_zero, List.getD_cons_succ, hs, hm, hshl, hshr, hshj, fd32, eY, eA, eB, eH, eK, eU, eV, eC, eD, hq0, hq1, hq2, hg0, hg1, hg2, w1, w2, hq, fT, wb1, wz] at c14; omega
                  have hl := half_less hh2 m0 m1 hc2
                  have hp0 := (q1_spec hh2).2.2.1
                  obtain ⟨o, ho⟩ : ∃ o, o = m - 1 := ⟨_, rfl⟩
                  have w3 : IntKind.u64.wrap (m - 1) = o := by rw [ho]; exact wrap_u _ (by omega) (by omega)
                  obtain ⟨f1, hf1⟩ : ∃ f1, f1 = f + A := ⟨_, rfl⟩
                  have w4 : IntKind.u64.wrap (f + A) = f1 := by rw [hf1]; exact wrap_u _ (by omega) (by omega)
                  rw [← ho, ← hf1] at hl
                  refine br_wp (fun c15 => ?_) (fun c15 => ?_)
                  · have hq2 : o = q1 TT D Y := half_break hh2 hl.2 hl.1 (by omega) (by omega) (by simp only [vd1, vd2, vd3, vd4, vd5, vd6, vd7, reduceCtorEq, Option.some.injEq, vb_ite, vi_ite, List.getD_cons_zero, List.getD_cons_succ, hs, hm, hshl, hshr, hshj, fd32, eY, eA, eB, eH, eK, eU, eV, eC, eD, hq0, hq1, hq2, hg0, hg1, hg2, w1, w2, hq, fT, w3, w4] at c15; omega)
                    refine pop_wp ?_
                    refine ret_wp ?_
                    (first | ((simp only [vd1, vd2, vd3, vd4, vd5, vd6, vd7, reduceCtorEq, Option.some.injEq, vb_ite, vi_ite, List.getD_cons_zero, List.getD_cons_succ, hs, hm, hshl, hshr, hshj, fd32, eY, eA, eB, eH, eK, eU, eV, eC, eD, hq0, hq1, hq2, hg0, hg1, hg2, w1, w2, hq, fT, w3, w4, hq2, fR, fO, hdv]); done) | ((simp only [vd1, vd2, vd3, vd4, vd5, vd6, vd7, reduceCtorEq, Option.some.injEq, vb_ite, vi_ite, List.getD_cons_zero, List.getD_cons_succ, hs, hm, hshl, hshr, hshj, fd32, eY, eA, eB, eH, eK, eU, eV, eC, eD, hq0, hq1, hq2, hg0, hg1, hg2, w1, w2, hq, fT, w3, w4, hq2, fR, fO, hdv, hmd]); done))
                  · refine again_wp rfl ⟨o, f1, by simp only [vd1, vd2, vd3, vd4, vd5, vd6, vd7, reduceCtorEq, Option.some.injEq, vb_ite, vi_ite, List.getD_cons_zero, List.getD_cons_succ, hs, hm, hshl, hshr, hshj, fd32, eY, eA, eB, eH, eK, eU, eV, eC, eD, hq0, hq1, hq2, hg0, hg1, hg2, w1, w2, hq, fT, w3, w4], ?_⟩ ?_
                    · exact ⟨hl.2, hl.1, by omega, by omega, by omega, by simp only [vd1, vd2, vd3, vd4, vd5, vd6, vd7, reduceCtorEq, Option.some.injEq, vb_ite, vi_ite, List.getD_cons_zero, List.getD_cons_succ, hs, hm, hshl, hshr, hshj, fd32, eY, eA, eB, eH, eK, eU, eV, eC, eD, hq0, hq1, hq2, hg0, hg1, hg2, w1, w2, hq, fT, w3, w4] at *; omega⟩
                    · (simp only [vd1, vd2, vd3, vd4, vd5, vd6, vd7, reduceCtorEq, Option.some.injEq, vb_ite, vi_ite, List.getD_cons_zero, List.getD_cons_succ, hs, hm, hshl, hshr, hshj, fd32, eY, eA, eB, eH, eK, eU, eV, eC, eD, hq0, hq1, hq2, hg0, hg1, hg2, w1, w2, hq, fT, w3, w4]; omega)
                · have hq2 : m = q1 TT D Y := half_done hh2 m0 m1 (by have z1 := c12; simp only [vd1, vd2, vd3, vd4, vd5, vd6, vd7, reduceCtorEq, Option.some.injEq, vb_ite, vi_ite, List.getD_cons_zero, List.getD_cons_succ, hs, hm, hshl, hshr, hshj, fd32, eY, eA, eB, eH, eK, eU, eV, eC, eD, hq0, hq1, hq2, hg0, hg1, hg2, w1, w2, hq, fT] at z1; have wb1 := wrap_u (m * B) (Int.mul_nonneg m2 hh.b) (mulB (by omega) m2 hh.b hh.b2); have wz := wu2 f m4 m5; simp only [vd1, vd2, vd3, vd4, vd5, vd6, vd7, reduceCtorEq, Option.some.injEq, vb_ite, vi_ite, List.getD_cons_zero, List.getD_cons_succ, hs, hm, hshl, hshr, hshj, fd32, eY, eA, eB, eH, eK, eU, eV, eC, eD, hq0, hq1, hq2, hg0, hg1, hg2, w1, w2, hq, fT, wb1, wz] at c14; omega)
                  refine pop_wp ?_
                  refine ret_wp ?_
                  (first | ((simp only [vd1, vd2, vd3, vd4, vd5, vd6, vd7, reduceCtorEq, Option.some.injEq, vb_ite, vi_ite, List.getD_cons_zero, List.getD_cons_succ, hs, hm, hshl, hshr, hshj, fd32, eY, eA, eB, eH, eK, eU, eV, eC, eD, hq0, hq1, hq2, hg0, hg1, hg2, w1, w2, hq, fT, hq2, fR, fO, hdv]); done) | ((simp only [vd1, vd2, vd3, vd4, vd5, vd6, vd7, reduceCtorEq, Option.some.injEq, vb_ite, vi_ite, List.getD_cons_zero, List.getD_cons_succ, hs, hm, hshl, hshr, hshj, fd32, eY, eA, eB, eH, eK, eU, eV, eC, eD, hq0, hq1, hq2, hg0, hg1, hg2, w1, w2, hq, fT, hq2, fR, fO, hdv, hmd]); done))
            · refine again_wp rfl ⟨d, e1, by simp only [vd1, vd2, vd3, vd4, vd5, vd6, vd7, reduceCtorEq, Option.some.injEq, vb_ite, vi_ite, List.getD_cons_zero, List.getD_cons_succ, hs, hm, hshl, hshr, hshj, fd32, eY, eA, eB, eH, eK, eU, eV, eC, eD, hq0, hq1, hq2, hg0, hg1, hg2, w1, w2], ?_⟩ ?_
              · exact ⟨hl.2, hl.1, by omega, by omega, by omega, by simp only [vd1, vd2, vd3, vd4, vd5, vd6, vd7, reduceCtorEq, Option.some.injEq, vb_ite, vi_ite, List.getD_cons_zero, List.getD_cons_succ, hs, hm, hshl, hshr, hshj, fd32, eY, eA, eB, eH, eK, eU, eV, eC, eD, hq0, hq1, hq2, hg0, hg1, hg2, w1, w2] at *; omega⟩
              · (simp only [vd1, vd2, vd3, vd4, vd5, vd6, vd7, reduceCtorEq, Option.some.injEq, vb_ite, vi_ite, List.getD_cons_zero, List.getD_cons_succ, hs, hm, hshl, hshr, hshj, fd32, eY, eA, eB, eH, eK, eU, eV, eC, eD, hq0, hq1, hq2, hg0, hg1, hg2, w1, w2]; omega)
          · have hq : i = q1 U C Y := half_done hh i0 i1 (by have z1 := c4; simp only [vd1, vd2, vd3, vd4, vd5, vd6, vd7, reduceCtorEq, Option.some.injEq, vb_ite, vi_ite, List.getD_cons_zero, List.getD_cons_succ, hs, hm, hshl, hshr, hshj, fd32, eY, eA, eB, eH, eK, eU, eV, eC, eD, hq0, hq1, hq2, hg0, hg1, hg2] at z1; have wb1 := wrap_u (i * B) (Int.mul_nonneg i2 hh.b) (mulB (by omega) i2 hh.b hh.b2); have wz := wu1 e i4 i5; simp only [vd1, vd2, vd3, vd4, vd5, vd6, vd7, reduceCtorEq, Option.some.injEq, vb_ite, vi_ite, List.getD_cons_zero, List.getD_cons_succ, hs, hm, hshl, hshr, hshj, fd32, eY, eA, eB, eH, eK, eU, eV, eC, eD, hq0, hq1, hq2, hg0, hg1, hg2, wb1, wz] at c10; omega)
            refine pop_wp ?_
            refine loop_wp (fun bs0 => ∃ (m : Int) (f : Int), bs0 = [aK .u64 m, aK .u64 f] ∧ (m * A + f = TT ∧ q1 TT D Y ≤ m ∧ 0 ≤ m ∧ m ≤ 4294967297 ∧ 0 ≤ f ∧ f < 4294967296)) (fun bs0 => (vi (bs0.getD 0 atom0).1).toNat) ?_ ?_
            · refine ⟨g, h, by simp only [vd1, vd2, vd3, vd4, vd5, vd6, vd7, reduceCtorEq, Option.some.injEq, vb_ite, vi_ite, List.getD_cons_zero, List.getD_cons_succ, hs, hm, hshl, hshr, hshj, fd32, eY, eA, eB, eH, eK, eU, eV, eC, eD, hq0, hq1, hq2, hg0, hg1, hg2, hq, fT], ?_⟩
              exact ⟨r4, r5, r6, r7, r2, r3⟩
            rintro _ _ ⟨m, f, rfl, ⟨m0, m1, m2, m3, m4, m5⟩⟩
            refine br_wp (fun c16 => ?_) (fun c16 => ?_)
            · have hc2 : 4294967296 ≤ m ∨ 4294967296 * f + D < m * B := by simp only [vd1, vd2, vd3, vd4, vd5, vd6, vd7, reduceCtorEq, Option.some.injEq, vb_ite, vi_ite, List.getD_cons_zero, List.getD_cons_succ, hs, hm, hshl, hshr, hshj, fd32, eY, eA, eB, eH, eK, eU, eV, eC, eD, hq0, hq1, hq2, hg0, hg1, hg2, hq, fT] at *; omega
              have hl := half_less hh2 m0 m1 hc2
              have hp0 := (q1_spec hh2).2.2.1
              obtain ⟨o, ho⟩ : ∃ o, o = m - 1 := ⟨_, rfl⟩
              have w3 : IntKind.u64.wrap (m - 1) = o := by rw [ho]; exact wrap_u _ (by omega) (by omega)
              obtain ⟨f1, hf1⟩ : ∃ f1, f1 = f + A := ⟨_, rfl⟩
              have w4 : IntKind.u64.wrap (f + A) = f1 := by rw [hf1]; exact wrap_u _ (by omega) (by omega)
              rw [← ho, ← hf1] at hl
              refine br_wp (fun c17 => ?_) (fun c17 => ?_)
              · have hq2 : o = q1 TT D Y := half_break hh2 hl.2 hl.1 (by omega) (by omega) (by simp only [vd1, vd2, vd3, vd4, vd5, vd6, vd7, reduceCtorEq, Option.some.injEq, vb_ite, vi_ite, List.getD_cons_zero, List.getD_cons_succ, hs, hm, hshl, hshr, hshj, fd32, eY, eA, eB, eH, eK, eU, eV, eC, eD, hq0, hq1, hq2, hg0, hg1, hg2, hq, fT, w3, w4] at c17; omega)
                refine pop_wp ?_
                refine ret_wp ?_
                (first | ((simp only [vd1, vd2, vd3, vd4, vd5, vd6, vd7, reduceCtorEq, Option.some.injEq, vb_ite, vi_ite, List.getD_cons_zero, List.getD_cons_succ, hs, hm, hshl, hshr, hshj, fd32, eY, eA, eB, eH, eK, eU, eV, eC, eD, hq0, hq1, hq2, hg0, hg1, hg2, hq, fT, w3, w4, hq2, fR, fO, hdv]); done) | ((simp only [vd1, vd2, vd3, vd4, vd5, vd6, vd7, reduceCtorEq, Option.some.injEq, vb_ite, vi_ite, List.getD_cons_zero, List.getD_cons_succ, hs, hm, hshl, hshr, hshj, fd32, eY, eA, eB, eH, eK, eU, eV, eC, eD, hq0, hq1, hq2, hg0, hg1, hg2, hq, fT, w3, w4, hq2, fR, fO, hdv, hmd]); done))
              · refine again_wp rfl ⟨o, f1, by simp only [vd1, vd2, vd3, vd4, vd5, vd6, vd7, reduceCtorEq, Option.some.injEq, vb_ite, vi_ite, List.getD_cons_zero, List.getD_cons_succ, hs, hm, hshl, hshr, hshj, fd32, eY, eA, eB, eH, eK, eU, eV, eC, eD, hq0, hq1, hq2, hg0, hg1, hg2, hq, fT, w3, w4], ?_⟩ ?_
                · exact ⟨hl.2, hl.1, by omega, by omega, by omega, by simp only [vd1, vd2, vd3, vd4, vd5, vd6, vd7, reduceCtorEq, Option.some.injEq, vb_ite, vi_ite, List.getD_cons_zero, List.getD_cons_succ, hs, hm, hshl, hshr, hshj, fd32, eY, eA, eB, eH, eK, eU, eV, eC, eD, hq0, hq1, hq2, hg0, hg1, hg2, hq, fT, w3, w4] at *; omega⟩
                · (simp only [vd1, vd2, vd3, vd4, vd5, vd6, vd7, reduceCtorEq, Option.some.injEq, vb_ite, vi_ite, List.getD_cons_zero, List.getD_cons_succ, hs, hm, hshl, hshr, hshj, fd32, eY, eA, eB, eH, eK, eU, eV, eC, eD, hq0, hq1, hq2, hg0, hg1, hg2, hq, fT, w3, w4]; omega)
            · refine br_wp (fun c18 => ?_) (fun c18 => ?_)
              · have hc2 : 4294967296 ≤ m ∨ 4294967296 * f + D < m * B := by have z1 := c16; simp only [vd1, vd2, vd3, vd4, vd5, vd6, vd7, reduceCtorEq, Option.some.injEq, vb_ite, vi_ite, List.getD_cons_zero, List.getD_cons_succ, hs, hm, hshl, hshr, hshj, fd32, eY, eA, eB, eH, eK, eU, eV, eC, eD, hq0, hq1, hq2, hg0, hg1, hg2, hq, fT] at z1; have wb1 := wrap_u (m * B) (Int.mul_nonneg m2 hh.b) (mulB (by omega) m2 hh.b hh.b2); have wz := wu2 f m4 m5; simp only [vd1, vd2, vd3, vd4, vd5, vd6, vd7, reduceCtorEq, Option.some.injEq, vb_ite, vi_ite, List.getD_cons_zero, List.getD_cons_succ, hs, hm, hshl, hshr, hshj, fd32, eY, eA, eB, eH, eK, eU, eV, eC, eD, hq0, hq1, hq2, hg0, hg1, hg2, hq, fT, wb1, wz] at c18; omega
                have hl := half_less hh2 m0 m1 hc2
                have hp0 := (q1_spec hh2).2.2.1
                obtain ⟨o, ho⟩ : ∃ o, o = m - 1 := ⟨_, rfl⟩
                have w3 : IntKind.u64.wrap (m - 1) = o := by rw [ho]; exact wrap_u _ (by omega) (by omega)
                obtain ⟨f1, hf1⟩ : ∃ f1, f1 = f + A := ⟨_, rfl⟩
                have w4 : IntKind.u64.wrap (f + A) = f1 := by rw [hf1]; exact wrap_u _ (by omega) (by omega)
                rw [← ho, ← hf1] at hl
                refine br_wp (fun c19 => ?_) (fun c19 => ?_)
                · have hq2 : o = q1 TT D Y := half_break hh2 hl.2 hl.1 (by omega) (by omega) (by simp only [vd1, vd2, vd3, vd4, vd5, vd6, vd7, reduceCtorEq, Option.some.injEq, vb_ite, vi_ite, List.getD_cons_zero, List.getD_cons_succ, hs, hm, hshl, hshr, hshj, fd32, eY, eA, eB, eH, eK, eU, eV, eC, eD, hq0, hq1, hq2, hg0, hg1, hg2, hq, fT, w3, w4] at c19; omega)
                  refine pop_wp ?_
                  refine ret_wp ?_
                  (first | ((simp only [vd1, vd2, vd3, vd4, vd5, vd6, vd7, reduceCtorEq, Option.some.injEq, vb_ite, vi_ite, List.getD_cons_zero, List.getD_cons_succ, hs, hm, hshl, hshr, hshj, fd32, eY, eA, eB, eH, eK, eU, eV, eC, eD, hq0, hq1, hq2, hg0, hg1, hg2, hq, fT, w3, w4, hq2, fR, fO, hdv]); done) | ((simp only [vd1, vd2, vd3, vd4, vd5, vd6, vd7, reduceCtorEq, Option.some.injEq, vb_ite, vi_ite, List.getD_cons_zero, List.getD_cons_succ, hs, hm, hshl, hshr, hshj, fd32, eY, eA, eB, eH, eK, eU, eV, eC, eD, hq0, hq1, hq2, hg0, hg1, hg2, hq, fT, w3, w4, hq2, fR, fO, hdv, hmd]); done))
                · refine again_wp rfl ⟨o, f1, by simp only [vd1, vd2, vd3, vd4, vd5, vd6, vd7, reduceCtorEq, Option.some.injEq, vb_ite, vi_ite, List.getD_cons_zero, List.getD_cons_succ, hs, hm, hshl, hshr, hshj, fd32, eY, eA, eB, eH, eK, eU, eV, eC, eD, hq0, hq1, hq2, hg0, hg1, hg2, hq, fT, w3, w4], ?_⟩ ?_
                  · exact ⟨hl.2, hl.1, by omega, by omega, by omega, by simp only [vd1, vd2, vd3, vd4, vd5, vd6, vd7, reduceCtorEq, Option.some.injEq, vb_ite, vi_ite, List.getD_cons_zero, List.getD_cons_succ, hs, hm, hshl, hshr, hshj, fd32, eY, eA, eB, eH, eK, eU, eV, eC, eD, hq0, hq1, hq2, hg0, hg1, hg2, hq, fT, w3, w4] at *; omega⟩
                  · (simp only [vd1, vd2, vd3, vd4, vd5, vd6, vd7, reduceCtorEq, Option.some.injEq, vb_ite, vi_ite, List.getD_cons_zero, List.getD_cons_succ, hs, hm, hshl, hshr, hshj, fd32, eY, eA, eB, eH, eK, eU, eV, eC, eD, hq0, hq1, hq2, hg0, hg1, hg2, hq, fT, w3, w4]; omega)
              · have hq2 : m = q1 TT D Y := half_done hh2 m0 m1 (by have z1 := c16; simp only [vd1, vd2, vd3, vd4, vd5, vd6, vd7, reduceCtorEq, Option.some.injEq, vb_ite, vi_ite, List.getD_cons_zero, List.getD_cons_succ, hs, hm, hshl, hshr, hshj, fd32, eY, eA, eB, eH, eK, eU, eV, eC, eD, hq0, hq1, hq2, hg0, hg1, hg2, hq, fT] at z1; have wb1 := wrap_u (m * B) (Int.mul_nonneg m2 hh.b) (mulB (by omega) m2 hh.b hh.b2); have wz := wu2 f m4 m5; simp only [vd1, vd2, vd3, vd4, vd5, vd6, vd7, reduceCtorEq, Option.some.injEq, vb_ite, vi_ite, List.getD_cons_zero, List.getD_cons_succ, hs, hm, hshl, hshr, hshj, fd32, eY, eA, eB, eH, eK, eU, eV, eC, eD, hq0, hq1, hq2, hg0, hg1, hg2, hq, fT, wb1, wz] at c18; omega)
                refine pop_wp ?_
                refine ret_wp ?_
                (first | ((simp only [vd1, vd2, vd3, vd4, vd5, vd6, vd7, reduceCtorEq, Option.some.injEq, vb_ite, vi_ite, List.getD_cons_zero, List.getD_cons_succ, hs, hm, hshl, hshr, hshj, fd32, eY, eA, eB, eH, eK, eU, eV, eC, eD, hq0, hq1, hq2, hg0, hg1, hg2, hq, fT, hq2, fR, fO, hdv]); done) | ((simp only [vd1, vd2, vd3, vd4, vd5, vd6, vd7, reduceCtorEq, Option.some.injEq, vb_ite, vi_ite, List.getD_cons_zero, List.getD_cons_succ, hs, hm, hshl, hshr, hshj, fd32, eY, eA, eB, eH, eK, eU, eV, eC, eD, hq0, hq1, hq2, hg0, hg1, hg2, hq, fT, hq2, fR, fO, hdv, hmd]); done))
end Go.Proofs.YtmhfooalcohpgaaK
