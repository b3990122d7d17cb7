import Derived.Test.YtjmenmnjkfnhgaaVR4w
import Derived.Test.YtjmenmnjkfnhgaaVN7
set_option linter.unusedSimpArgs false
set_option linter.unusedVariables false
namespace Go.Proofs.YtjmenmnjkfnhgaaK
open Go Go.Proofs.YtjmenmnjkfnhgaaV Go.Proofs
theorem okOf {m q b : Int} (h : pre16 (m, q, b)) : okG (ofP m q b) ∧ okB (of4 m q b) := by
  obtain ⟨⟨h1, h2⟩, ⟨h3, h4⟩, h5, h6⟩ := h
  simp only at h1 h2 h3 h4 h5 h6
  exact ⟨⟨rfl, rfl, by show 1 ≤ m + 1; omega, by show m + 1 ≤ 1048576; omega, by show 1 ≤ b + 1; omega, by show b + 1 ≤ 1048576; omega, by show 1 ≤ q + 1; omega, by show q + 1 ≤ 1099511627776; omega⟩,
    rfl, by show 1 ≤ m + 1; omega, by show m + 1 ≤ 1048576; omega, by show 1 ≤ b + 1; omega, by show b + 1 ≤ 1048576; omega, by show 1 ≤ q + 1; omega, by show q + 1 ≤ 1099511627776; omega, rfl⟩
def kLaw10 (sg : Sig) : Sig × Con := (sg, mkFun (fun x : Int × Int × Int × Sl × Int => ([aK .u16 x.1, aK .u16 x.2.1, aK .u16 x.2.2.1, Sl.atom x.2.2.2.1, aK .u32 x.2.2.2.2] : List Atom)) (fun x => actsOk x.2.2.2.1 ∧ pre16 (x.1, x.2.1, x.2.2.1) ∧ 0 ≤ x.2.2.2.2 ∧ x.2.2.2.2 < 4294967296) (fun _ => [aB true]))
set_option maxHeartbeats 4000000 in
theorem h10 : holds Try.prog (kLaw10 sg10) := by
  refine fn_holds (l := [kSmall sg16, kKnown sg17, kOf sg18, kOf4 sg29, kNewG sg19, kNewB sg37, kDoG sg20, kDoBR sg38, kRetG sg22, kRetB sg39, kRoomG sg25, kRoomB sg40, kUntG sg23, kUntB sg41]) ⟨h16, h17, h18, h29, h19, h37, h20, h38, h22, h39, h25, h40, h23, h41, trivial⟩ hP rs10 (inj_of (fun l : List Atom => ((vi (l.getD 0 atom0).1, vi (l.getD 1 atom0).1, vi (l.getD 2 atom0).1, (⟨va (l.getD 3 atom0).1, vn (l.getD 3 atom0).1, vc (l.getD 3 atom0).1, (l.getD 3 atom0).2⟩ : Sl), vi (l.getD 4 atom0).1) : Int × Int × Int × Sl × Int)) (fun _ => rfl)) Try.func10 (by kernel_rfl) (c := code Try.f10) (by kernel_rfl) (an := an10) (by kernel_rfl) (pk := pk10) rfl (t := t10) (by kernel_rfl) ?_
  rintro ⟨m, q, b, l, w⟩ ⟨hl, hu, u7, u8⟩
  refine ⟨by simp [pk10, KindsOk, encPS, encPSn, encPSnc, encPSA, encPn, encSS, encI, Pol.enc, Stt.enc, Ac.enc, Sl.atom, Sl.nil, Stt.zero, RK.ok], ?_⟩
  unfold t10
  simp only at hl hu u7 u8
  obtain ⟨v5, v6⟩ := hu.2.2
  simp only at v5 v6
  have hww := wrap_id w (by omega) (by omega)
  have hwb := wrap_id b (by omega) (by omega)
  obtain ⟨c, hc⟩ : ∃ c : Int, c = 1 + b / 2 := ⟨_, rfl⟩
  have hqb : quoD .i64 b 2 = b / 2 := quo_id b 2 (by omega) (by omega) (by omega)
  have hwc : IntKind.i64.wrap (1 + b / 2) = c := by rw [hc]; exact wrap_id _ (by omega) (by omega)
  refine call_fun (l) rfl (by simp only [vd1, vd2, vd3, vd4, vd5, vd6, reduceCtorEq, Option.some.injEq, vb_ite, vi_ite, List.getD_cons_zero, List.getD_cons_succ, hww, hwb, hqb, hwc]) trivial ?_
  refine br_wp (fun c1 => ?_) (fun c1 => ?_)
  · have hn : l.n ≤ 60 := by simp only [vd1, vd2, vd3, vd4, vd5, vd6, reduceCtorEq, Option.some.injEq, vb_ite, vi_ite, List.getD_cons_zero, List.getD_cons_succ, hww, hwb, hqb, hwc] at c1; omega
    refine call_fun ((m, q, b)) rfl (by simp only [vd1, vd2, vd3, vd4, vd5, vd6, reduceCtorEq, Option.some.injEq, vb_ite, vi_ite, List.getD_cons_zero, List.getD_cons_succ, hww, hwb, hqb, hwc]) hu ?_
    refine call_fun ((m, q, b)) rfl (by simp only [vd1, vd2, vd3, vd4, vd5, vd6, reduceCtorEq, Option.some.injEq, vb_ite, vi_ite, List.getD_cons_zero, List.getD_cons_succ, hww, hwb, hqb, hwc]) hu ?_
    refine call_fun (((ofP m q b), 0)) rfl (by simp only [vd1, vd2, vd3, vd4, vd5, vd6, reduceCtorEq, Option.some.injEq, vb_ite, vi_ite, List.getD_cons_zero, List.getD_cons_succ, hww, hwb, hqb, hwc]) trivial ?_
    refine call_fun (((of4 m q b), 0)) rfl (by simp only [vd1, vd2, vd3, vd4, vd5, vd6, reduceCtorEq, Option.some.injEq, vb_ite, vi_ite, List.getD_cons_zero, List.getD_cons_succ, hww, hwb, hqb, hwc]) trivial ?_
    refine need_wp ?_ ?_
    · (first | exact ⟨_, _, _, rfl⟩ | exact acts_row hl | exact acts_sz hl | (simp only [vd1, vd2, vd3, vd4, vd5, vd6, reduceCtorEq, Option.some.injEq, vb_ite, vi_ite, List.getD_cons_zero, List.getD_cons_succ, hww, hwb, hqb, hwc]; exact ⟨_, rfl⟩) | (simp only [vd1, vd2, vd3, vd4, vd5, vd6, reduceCtorEq, Option.some.injEq, vb_ite, vi_ite, List.getD_cons_zero, List.getD_cons_succ, hww, hwb, hqb, hwc] at *; grind))
    refine need_wp ?_ ?_
    · (first | exact ⟨_, _, _, rfl⟩ | exact acts_row hl | exact acts_sz hl | (simp only [vd1, vd2, vd3, vd4, vd5, vd6, reduceCtorEq, Option.some.injEq, vb_ite, vi_ite, List.getD_cons_zero, List.getD_cons_succ, hww, hwb, hqb, hwc]; exact ⟨_, rfl⟩) | (simp only [vd1, vd2, vd3, vd4, vd5, vd6, reduceCtorEq, Option.some.injEq, vb_ite, vi_ite, List.getD_cons_zero, List.getD_cons_succ, hww, hwb, hqb, hwc] at *; grind))
    refine loop_wp (fun bs0 => ∃ (i : Int) (s : Stt) (t : Stt), bs0 = [aI i, aI s.t, aI s.v, aI s.h, Sl.atom s.g, aI t.t, aI t.v, aI t.h, Sl.atom t.g] ∧ (0 ≤ i ∧ i ≤ l.n ∧ dual (ofP m q b) (of4 m q b) s t)) (fun bs0 => (l.n - vi (bs0.getD 0 atom0).1).toNat) ?_ ?_
    · refine ⟨0, (newG (ofP m q b) 0), (newB (of4 m q b) 0), by simp only [vd1, vd2, vd3, vd4, vd5, vd6, reduceCtorEq, Option.some.injEq, vb_ite, vi_ite, List.getD_cons_zero, List.getD_cons_succ, hww, hwb, hqb, hwc], ?_⟩
      exact ⟨by omega, by omega, dual_new rfl rfl rfl (okOf hu).1 (okOf hu).2⟩
    rintro _ _ ⟨i, s, t, rfl, ⟨i0, i1, hd⟩⟩
    refine need_wp ?_ ?_
    · (first | exact ⟨_, _, _, rfl⟩ | exact acts_row hl | exact acts_sz hl | (simp only [vd1, vd2, vd3, vd4, vd5, vd6, reduceCtorEq, Option.some.injEq, vb_ite, vi_ite, List.getD_cons_zero, List.getD_cons_succ, hww, hwb, hqb, hwc]; exact ⟨_, rfl⟩) | (simp only [vd1, vd2, vd3, vd4, vd5, vd6, reduceCtorEq, Option.some.injEq, vb_ite, vi_ite, List.getD_cons_zero, List.getD_cons_succ, hww, hwb, hqb, hwc] at *; grind))
    refine br_wp (fun c2 => ?_) (fun c2 => ?_)
    · have hi : i < l.n := by simp only [vd1, vd2, vd3, vd4, vd5, vd6, reduceCtorEq, Option.some.injEq, vb_ite, vi_ite, List.getD_cons_zero, List.getD_cons_succ, hww, hwb, hqb, hwc] at c2; omega
      obtain ⟨a0, z0, z1, z2⟩ := acts_at hl i0 hi
      obtain ⟨_, _, _, gr, _, g1, g2, g3⟩ := dual_do a0 hd
      have g4 := dual_did a0 hd
      obtain ⟨_, _, b3, b4, _, w2⟩ := rightG_bd gr
      have w3 : IntKind.i64.wrap ((doN (ofP m q b) s a0).v + (doBR (of4 m q b) t a0).v) = ml (ofP m q b).b (ofP m q b).p := by rw [g3]; exact wrap_id _ (by omega) (by omega)
      refine need_wp ?_ ?_
      · (first | exact ⟨_, _, _, rfl⟩ | exact acts_row hl | exact acts_sz hl | (simp only [vd1, vd2, vd3, vd4, vd5, vd6, reduceCtorEq, Option.some.injEq, vb_ite, vi_ite, List.getD_cons_zero, List.getD_cons_succ, hww, hwb, hqb, hwc, z0, z1, z2, w2, w3]; exact ⟨_, rfl⟩) | (simp only [vd1, vd2, vd3, vd4, vd5, vd6, reduceCtorEq, Option.some.injEq, vb_ite, vi_ite, List.getD_cons_zero, List.getD_cons_succ, hww, hwb, hqb, hwc, z0, z1, z2, w2, w3] at *; grind))
      refine need_wp ?_ ?_
      · (first | exact ⟨_, _, _, rfl⟩ | exact acts_row hl | exact acts_sz hl | (simp only [vd1, vd2, vd3, vd4, vd5, vd6, reduceCtorEq, Option.some.injEq, vb_ite, vi_ite, List.getD_cons_zero, List.getD_cons_succ, hww, hwb, hqb, hwc, z0, z1, z2, w2, w3]; exact ⟨_, rfl⟩) | (simp only [vd1, vd2, vd3, vd4, vd5, vd6, reduceCtorEq, Option.some.injEq, vb_ite, vi_ite, List.getD_cons_zero, List.getD_cons_succ, hww, hwb, hqb, hwc, z0, z1, z2, w2, w3] at *; grind))
      refine need_wp ?_ ?_
      · (first | exact ⟨_, _, _, rfl⟩ | exact acts_row hl | exact acts_sz hl | (simp only [vd1, vd2, vd3, vd4, vd5, vd6, reduceCtorEq, Option.some.injEq, vb_ite, vi_ite, List.getD_cons_zero, List.getD_cons_succ, hww, hwb, hqb, hwc, z0, z1, z2, w2, w3]; exact ⟨_, rfl⟩) | (simp only [vd1, vd2, vd3, vd4, vd5, vd6, reduceCtorEq, Option.some.injEq, vb_ite, vi_ite, List.getD_cons_zero, List.getD_cons_succ, hww, hwb, hqb, hwc, z0, z1, z2, w2, w3] at *; grind))
      refine need_wp ?_ ?_
      · (first | exact ⟨_, _, _, rfl⟩ | exact acts_row hl | exact acts_sz hl | (simp only [vd1, vd2, vd3, vd4, vd5, vd6, reduceCtorEq, Option.some.injEq, vb_ite, vi_ite, List.getD_cons_zero, List.getD_cons_succ, hww, hwb, hqb, hwc, z0, z1, z2, w2, w3]; exact ⟨_, rfl⟩) | (simp only [vd1, vd2, vd3, vd4, vd5, vd6, reduceCtorEq, Option.some.injEq, vb_ite, vi_ite, List.getD_cons_zero, List.getD_cons_succ, hww, hwb, hqb, hwc, z0, z1, z2, w2, w3] at *; grind))
      refine need_wp ?_ ?_
      · (first | exact ⟨_, _, _, rfl⟩ | exact acts_row hl | exact acts_sz hl | (simp only [vd1, vd2, vd3, vd4, vd5, vd6, reduceCtorEq, Option.some.injEq, vb_ite, vi_ite, List.getD_cons_zero, List.getD_cons_succ, hww, hwb, hqb, hwc, z0, z1, z2, w2, w3]; exact ⟨_, rfl⟩) | (simp only [vd1, vd2, vd3, vd4, vd5, vd6, reduceCtorEq, Option.some.injEq, vb_ite, vi_ite, List.getD_cons_zero, List.getD_cons_succ, hww, hwb, hqb, hwc, z0, z1, z2, w2, w3] at *; grind))
      refine need_wp ?_ ?_
      · (first | exact ⟨_, _, _, rfl⟩ | exact acts_row hl | exact acts_sz hl | (simp only [vd1, vd2, vd3, vd4, vd5, vd6, reduceCtorEq, Option.some.injEq, vb_ite, vi_ite, List.getD_cons_zero, List.getD_cons_succ, hww, hwb, hqb, hwc, z0, z1, z2, w2, w3]; exact ⟨_, rfl⟩) | (simp only [vd1, vd2, vd3, vd4, vd5, vd6, reduceCtorEq, Option.some.injEq, vb_ite, vi_ite, List.getD_cons_zero, List.getD_cons_succ, hww, hwb, hqb, hwc, z0, z1, z2, w2, w3] at *; grind))
      refine need_wp ?_ ?_
      · (first | exact ⟨_, _, _, rfl⟩ | exact acts_row hl | exact acts_sz hl | (simp only [vd1, vd2, vd3, vd4, vd5, vd6, reduceCtorEq, Option.some.injEq, vb_ite, vi_ite, List.getD_cons_zero, List.getD_cons_succ, hww, hwb, hqb, hwc, z0, z1, z2, w2, w3]; exact ⟨_, rfl⟩) | (simp only [vd1, vd2, vd3, vd4, vd5, vd6, reduceCtorEq, Option.some.injEq, vb_ite, vi_ite, List.getD_cons_zero, List.getD_cons_succ, hww, hwb, hqb, hwc, z0, z1, z2, w2, w3] at *; grind))
      refine need_wp ?_ ?_
      · (first | exact ⟨_, _, _, rfl⟩ | exact acts_row hl | exact acts_sz hl | (simp only [vd1, vd2, vd3, vd4, vd5, vd6, reduceCtorEq, Option.some.injEq, vb_ite, vi_ite, List.getD_cons_zero, List.getD_cons_succ, hww, hwb, hqb, hwc, z0, z1, z2, w2, w3]; exact ⟨_, rfl⟩) | (simp only [vd1, vd2, vd3, vd4, vd5, vd6, reduceCtorEq, Option.some.injEq, vb_ite, vi_ite, List.getD_cons_zero, List.getD_cons_succ, hww, hwb, hqb, hwc, z0, z1, z2, w2, w3] at *; grind))
      refine need_wp ?_ ?_
      · (first | exact ⟨_, _, _, rfl⟩ | exact acts_row hl | exact acts_sz hl | (simp only [vd1, vd2, vd3, vd4, vd5, vd6, reduceCtorEq, Option.some.injEq, vb_ite, vi_ite, List.getD_cons_zero, List.getD_cons_succ, hww, hwb, hqb, hwc, z0, z1, z2, w2, w3]; exact ⟨_, rfl⟩) | (simp only [vd1, vd2, vd3, vd4, vd5, vd6, reduceCtorEq, Option.some.injEq, vb_ite, vi_ite, List.getD_cons_zero, List.getD_cons_succ, hww, hwb, hqb, hwc, z0, z1, z2, w2, w3] at *; grind))
      refine call_fun (((ofP m q b), s, a0)) rfl (by simp only [vd1, vd2, vd3, vd4, vd5, vd6, reduceCtorEq, Option.some.injEq, vb_ite, vi_ite, List.getD_cons_zero, List.getD_cons_succ, hww, hwb, hqb, hwc, z0, z1, z2, w2, w3]) trivial ?_
      refine need_wp ?_ ?_
      · (first | exact ⟨_, _, _, rfl⟩ | exact acts_row hl | exact acts_sz hl | (simp only [vd1, vd2, vd3, vd4, vd5, vd6, reduceCtorEq, Option.some.injEq, vb_ite, vi_ite, List.getD_cons_zero, List.getD_cons_succ, hww, hwb, hqb, hwc, z0, z1, z2, w2, w3]; exact ⟨_, rfl⟩) | (simp only [vd1, vd2, vd3, vd4, vd5, vd6, reduceCtorEq, Option.some.injEq, vb_ite, vi_ite, List.getD_cons_zero, List.getD_cons_succ, hww, hwb, hqb, hwc, z0, z1, z2, w2, w3] at *; grind))
      refine need_wp ?_ ?_
      · (first | exact ⟨_, _, _, rfl⟩ | exact acts_row hl | exact acts_sz hl | (simp only [vd1, vd2, vd3, vd4, vd5, vd6, reduceCtorEq, Option.some.injEq, vb_ite, vi_ite, List.getD_cons_zero, List.getD_cons_succ, hww, hwb, hqb, hwc, z0, z1, z2, w2, w3]; exact ⟨_, rfl⟩) | (simp only [vd1, vd2, vd3, vd4, vd5, vd6, reduceCtorEq, Option.some.injEq, vb_ite, vi_ite, List.getD_cons_zero, List.getD_cons_succ, hww, hwb, hqb, hwc, z0, z1, z2, w2, w3] at *; grind))
      refine need_wp ?_ ?_
      · (first | exact ⟨_, _, _, rfl⟩ | exact acts_row hl | exact acts_sz hl | (simp only [vd1, vd2, vd3, vd4, vd5, vd6, reduceCtorEq, Option.some.injEq, vb_ite, vi_ite, List.getD_cons_zero, List.getD_cons_succ, hww, hwb, hqb, hwc, z0, z1, z2, w2, w3]; exact ⟨_, rfl⟩) | (simp only [vd1, vd2, vd3, vd4, vd5, vd6, reduceCtorEq, Option.some.injEq, vb_ite, vi_ite, List.getD_cons_zero, List.getD_cons_succ, hww, hwb, hqb, hwc, z0, z1, z2, w2, w3] at *; grind))
      refine need_wp ?_ ?_
      · (first | exact ⟨_, _, _, rfl⟩ | exact acts_row hl | exact acts_sz hl | (simp only [vd1, vd2, vd3, vd4, vd5, vd6, reduceCtorEq, Option.some.injEq, vb_ite, vi_ite, List.getD_cons_zero, List.getD_cons_succ, hww, hwb, hqb, hwc, z0, z1, z2, w2, w3]; exact ⟨_, rfl⟩) | (simp only [vd1, vd2, vd3, vd4, vd5, vd6, reduceCtorEq, Option.some.injEq, vb_ite, vi_ite, List.getD_cons_zero, List.getD_cons_succ, hww, hwb, hqb, hwc, z0, z1, z2, w2, w3] at *; grind))
      refine need_wp ?_ ?_
      · (first | exact ⟨_, _, _, rfl⟩ | exact acts_row hl | exact acts_sz hl | (simp only [vd1, vd2, vd3, vd4, vd5, vd6, reduceCtorEq, Option.some.injEq, vb_ite, vi_ite, List.getD_cons_zero, List.getD_cons_succ, hww, hwb, hqb, hwc, z0, z1, z2, w2, w3]; exact ⟨_, rfl⟩) | (simp only [vd1, vd2, vd3, vd4, vd5, vd6, reduceCtorEq, Option.some.injEq, vb_ite, vi_ite, List.getD_cons_zero, List.getD_cons_succ, hww, hwb, hqb, hwc, z0, z1, z2, w2, w3] at *; grind))
      refine need_wp ?_ ?_
      · (first | exact ⟨_, _, _, rfl⟩ | exact acts_row hl | exact acts_sz hl | (simp only [vd1, vd2, vd3, vd4, vd5, vd6, reduceCtorEq, Option.some.injEq, vb_ite, vi_ite, List.getD_cons_zero, List.getD_cons_succ, hww, hwb, hqb, hwc, z0, z1, z2, w2, w3]; exact ⟨_, rfl⟩) | (simp only [vd1, vd2, vd3, vd4, vd5, vd6, reduceCtorEq, Option.some.injEq, vb_ite, vi_ite, List.getD_cons_zero, List.getD_cons_succ, hww, hwb, hqb, hwc, z0, z1, z2, w2, w3] at *; grind))
      refine need_wp ?_ ?_
      · (first | exact ⟨_, _, _, rfl⟩ | exact acts_row hl | exact acts_sz hl | (simp only [vd1, vd2, vd3, vd4, vd5, vd6, reduceCtorEq, Option.some.injEq, vb_ite, vi_ite, List.getD_cons_zero, List.getD_cons_succ, hww, hwb, hqb, hwc, z0, z1, z2, w2, w3]; exact ⟨_, rfl⟩) | (simp only [vd1, vd2, vd3, vd4, vd5, vd6, reduceCtorEq, Option.some.injEq, vb_ite, vi_ite, List.getD_cons_zero, List.getD_cons_succ, hww, hwb, hqb, hwc, z0, z1, z2, w2, w3] at *; grind))
      refine need_wp ?_ ?_
      · (first | exact ⟨_, _, _, rfl⟩ | exact acts_row hl | exact acts_sz hl | (simp only [vd1, vd2, vd3, vd4, vd5, vd6, reduceCtorEq, Option.some.injEq, vb_ite, vi_ite, List.getD_cons_zero, List.getD_cons_succ, hww, hwb, hqb, hwc, z0, z1, z2, w2, w3]; exact ⟨_, rfl⟩) | (simp only [vd1, vd2, vd3, vd4, vd5, vd6, reduceCtorEq, Option.some.injEq, vb_ite, vi_ite, List.getD_cons_zero, List.getD_cons_succ, hww, hwb, hqb, hwc, z0, z1, z2, w2, w3] at *; grind))
      refine call_fun (((of4 m q b), t, a0)) rfl (by simp only [vd1, vd2, vd3, vd4, vd5, vd6, reduceCtorEq, Option.some.injEq, vb_ite, vi_ite, List.getD_cons_zero, List.getD_cons_succ, hww, hwb, hqb, hwc, z0, z1, z2, w2, w3]) trivial ?_
      refine br_wp (fun c3 => ?_) (fun c3 => ?_)
      · refine br_wp (fun c4 => ?_) (fun c4 => ?_)
        · refine pop_wp ?_
          refine ret_wp ?_
          (first | rfl | (exfalso; (simp only [vd1, vd2, vd3, vd4, vd5, vd6, reduceCtorEq, Option.some.injEq, vb_ite, vi_ite, List.getD_cons_zero, List.getD_cons_succ, hww, hwb, hqb, hwc, z0, z1, z2, w2, w3] at *) <;> grind))
        · refine br_wp (fun c5 => ?_) (fun c5 => ?_)
          · refine pop_wp ?_
            refine ret_wp ?_
            (first | rfl | (exfalso; (simp only [vd1, vd2, vd3, vd4, vd5, vd6, reduceCtorEq, Option.some.injEq, vb_ite, vi_ite, List.getD_cons_zero, List.getD_cons_succ, hww, hwb, hqb, hwc, z0, z1, z2, w2, w3] at *) <;> grind))
          · refine br_wp (fun c6 => ?_) (fun c6 => ?_)
            · refine pop_wp ?_
              refine ret_wp ?_
              (first | rfl | (exfalso; (simp only [vd1, vd2, vd3, vd4, vd5, vd6, reduceCtorEq, Option.some.injEq, vb_ite, vi_ite, List.getD_cons_zero, List.getD_cons_succ, hww, hwb, hqb, hwc, z0, z1, z2, w2, w3] at *) <;> grind))
            · refine need_wp ?_ ?_
              · (first | exact ⟨_, _, _, rfl⟩ | exact acts_row hl | exact acts_sz hl | (simp only [vd1, vd2, vd3, vd4, vd5, vd6, reduceCtorEq, Option.some.injEq, vb_ite, vi_ite, List.getD_cons_zero, List.getD_cons_succ, hww, hwb, hqb, hwc, z0, z1, z2, w2, w3]; exact ⟨_, rfl⟩) | (simp only [vd1, vd2, vd3, vd4, vd5, vd6, reduceCtorEq, Option.some.injEq, vb_ite, vi_ite, List.getD_cons_zero, List.getD_cons_succ, hww, hwb, hqb, hwc, z0, z1, z2, w2, w3] at *; grind))
              refine need_wp ?_ ?_
              · (first | exact ⟨_, _, _, rfl⟩ | exact acts_row hl | exact acts_sz hl | (simp only [vd1, vd2, vd3, vd4, vd5, vd6, reduceCtorEq, Option.some.injEq, vb_ite, vi_ite, List.getD_cons_zero, List.getD_cons_succ, hww, hwb, hqb, hwc, z0, z1, z2, w2, w3]; exact ⟨_, rfl⟩) | (simp only [vd1, vd2, vd3, vd4, vd5, vd6, reduceCtorEq, Option.some.injEq, vb_ite, vi_ite, List.getD_cons_zero, List.getD_cons_succ, hww, hwb, hqb, hwc, z0, z1, z2, w2, w3] at *; grind))
              refine again_wp rfl ⟨(IntKind.i64.wrap (i + 1)), (doN (ofP m q b) s a0), (doBR (of4 m q b) t a0), by simp only [vd1, vd2, vd3, vd4, vd5, vd6, reduceCtorEq, Option.some.injEq, vb_ite, vi_ite, List.getD_cons_zero, List.getD_cons_succ, hww, hwb, hqb, hwc, z0, z1, z2, w2, w3], ?_⟩ ?_
              · have hw := wrap_id (i + 1) (by omega) (by omega); simp only [vd1, vd2, vd3, vd4, vd5, vd6, reduceCtorEq, Option.some.injEq, vb_ite, vi_ite, List.getD_cons_zero, List.getD_cons_succ, hww, hwb, hqb, hwc, z0, z1, z2, w2, w3, hw]; exact ⟨by omega, by omega, dual_do a0 hd⟩
              · have hw := wrap_id (i + 1) (by omega) (by omega); simp only [vd1, vd2, vd3, vd4, vd5, vd6, reduceCtorEq, Option.some.injEq, vb_ite, vi_ite, List.getD_cons_zero, List.getD_cons_succ, hww, hwb, hqb, hwc, z0, z1, z2, w2, w3, hw]; omega
      · refine pop_wp ?_
        refine ret_wp ?_
        (first | rfl | (exfalso; (simp only [vd1, vd2, vd3, vd4, vd5, vd6, reduceCtorEq, Option.some.injEq, vb_ite, vi_ite, List.getD_cons_zero, List.getD_cons_succ, hww, hwb, hqb, hwc, z0, z1, z2, w2, w3] at *) <;> grind))
    · obtain ⟨f1, f2, f3, f4⟩ := dual_told w c hd
      refine pop_wp ?_
      refine call_fun (((ofP m q b), s, w, c)) rfl (by simp only [vd1, vd2, vd3, vd4, vd5, vd6, reduceCtorEq, Option.some.injEq, vb_ite, vi_ite, List.getD_cons_zero, List.getD_cons_succ, hww, hwb, hqb, hwc]) trivial ?_
      refine call_fun (((of4 m q b), t, w, c)) rfl (by simp only [vd1, vd2, vd3, vd4, vd5, vd6, reduceCtorEq, Option.some.injEq, vb_ite, vi_ite, List.getD_cons_zero, List.getD_cons_succ, hww, hwb, hqb, hwc]) trivial ?_
      refine br_wp (fun c7 => ?_) (fun c7 => ?_)
      · refine br_wp (fun c8 => ?_) (fun c8 => ?_)
        · refine call_fun (((ofP m q b), s, w)) rfl (by simp only [vd1, vd2, vd3, vd4, vd5, vd6, reduceCtorEq, Option.some.injEq, vb_ite, vi_ite, List.getD_cons_zero, List.getD_cons_succ, hww, hwb, hqb, hwc]) trivial ?_
          refine call_fun (((of4 m q b), t, w)) rfl (by simp only [vd1, vd2, vd3, vd4, vd5, vd6, reduceCtorEq, Option.some.injEq, vb_ite, vi_ite, List.getD_cons_zero, List.getD_cons_succ, hww, hwb, hqb, hwc]) trivial ?_
          refine br_wp (fun c9 => ?_) (fun c9 => ?_)
          · refine call_fun (((ofP m q b), s, w)) rfl (by simp only [vd1, vd2, vd3, vd4, vd5, vd6, reduceCtorEq, Option.some.injEq, vb_ite, vi_ite, List.getD_cons_zero, List.getD_cons_succ, hww, hwb, hqb, hwc]) trivial ?_
            refine call_fun (((of4 m q b), t, w)) rfl (by simp only [vd1, vd2, vd3, vd4, vd5, vd6, reduceCtorEq, Option.some.injEq, vb_ite, vi_ite, List.getD_cons_zero, List.getD_cons_succ, hww, hwb, hqb, hwc]) trivial ?_
            refine br_wp (fun c10 => ?_) (fun c10 => ?_)
            · refine call_fun (()) rfl (by simp only [vd1, vd2, vd3, vd4, vd5, vd6, reduceCtorEq, Option.some.injEq, vb_ite, vi_ite, List.getD_cons_zero, List.getD_cons_succ, hww, hwb, hqb, hwc]) trivial ?_
              refine ret_wp ?_
              (first | rfl | (exfalso; (simp only [vd1, vd2, vd3, vd4, vd5, vd6, reduceCtorEq, Option.some.injEq, vb_ite, vi_ite, List.getD_cons_zero, List.getD_cons_succ, hww, hwb, hqb, hwc] at *) <;> grind))
            · refine ret_wp ?_
              (first | rfl | (exfalso; (simp only [vd1, vd2, vd3, vd4, vd5, vd6, reduceCtorEq, Option.some.injEq, vb_ite, vi_ite, List.getD_cons_zero, List.getD_cons_succ, hww, hwb, hqb, hwc] at *) <;> grind))
          · refine ret_wp ?_
            (first | rfl | (exfalso; (simp only [vd1, vd2, vd3, vd4, vd5, vd6, reduceCtorEq, Option.some.injEq, vb_ite, vi_ite, List.getD_cons_zero, List.getD_cons_succ, hww, hwb, hqb, hwc] at *) <;> grind))
        · refine ret_wp ?_
          (first | rfl | (exfalso; (simp only [vd1, vd2, vd3, vd4, vd5, vd6, reduceCtorEq, Option.some.injEq, vb_ite, vi_ite, List.getD_cons_zero, List.getD_cons_succ, hww, hwb, hqb, hwc] at *) <;> grind))
      · refine ret_wp ?_
        (first | rfl | (exfalso; (simp only [vd1, vd2, vd3, vd4, vd5, vd6, reduceCtorEq, Option.some.injEq, vb_ite, vi_ite, List.getD_cons_zero, List.getD_cons_succ, hww, hwb, hqb, hwc] at *) <;> grind))
  · refine call_fun (()) rfl (by simp only [vd1, vd2, vd3, vd4, vd5, vd6, reduceCtorEq, Option.some.injEq, vb_ite, vi_ite, List.getD_cons_zero, List.getD_cons_succ, hww, hwb, hqb, hwc]) trivial ?_
    refine ret_wp ?_
    (first | rfl | (exfalso; (simp only [vd1, vd2, vd3, vd4, vd5, vd6, reduceCtorEq, Option.some.injEq, vb_ite, vi_ite, List.getD_cons_zero, List.getD_cons_succ, hww, hwb, hqb, hwc] at *) <;> grind))
end Go.Proofs.YtjmenmnjkfnhgaaK
