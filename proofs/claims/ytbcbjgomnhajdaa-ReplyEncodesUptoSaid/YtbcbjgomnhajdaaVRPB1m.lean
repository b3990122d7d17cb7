/-  -/
import Derived.Test.YtbcbjgomnhajdaaVRPB0
import Derived.Test.YtbcbjgomnhajdaaVRPp
import Derived.Test.YtbcbjgomnhajdaaVRPt
import Derived.Test.YtbcbjgomnhajdaaVRPC
set_option linter.unusedSimpArgs false
set_option linter.unusedVariables false
section
set_option linter.unusedSimpArgs false
set_option linter.unusedVariables false
set_option linter.unnecessarySimpa false
namespace Go.Proofs.YtbcbjgomnhajdaaK
open Go Go.Proofs.YtbcbjgomnhajdaaV Go.Proofs Go.Proofs.YtbcbjgomnhajdaaK
def kBulk (sg : Sig) : Sig × Con := (sg, mkFun (fun x : ByteArray => ([aS x] : List Atom)) (fun s => s.size ≤ 1000000) (fun s => [aS (bulkB s)]))
set_option maxHeartbeats 1000000 in
theorem h23 : holds Try.prog (kBulk sg23) := by
  refine fn_holds (l := [kPrint sg22]) ⟨h22, trivial⟩ hP rs23 (inj_of (fun l : List Atom => (vs (l.getD 0 atom0).1 : ByteArray)) (fun _ => rfl)) Try.func23 (by kernel_rfl) (c := code Try.f23) (by kernel_rfl) (an := an23) (by kernel_rfl) (pk := pk23) rfl (t := t23) (by kernel_rfl) ?_
  rintro s hs
  refine ⟨by simp [pk23, KindsOk, RK.ok, Rw.atom, Sl.atom], ?_⟩
  unfold t23
  have hp : in64 (s.size : Int) := by unfold in64; omega
  have z1 := prt_size hp
  have za : ((⟨#[36]⟩ : ByteArray).size : Int) = 1 := rfl
  have zb : ((⟨#[13, 10]⟩ : ByteArray).size : Int) = 2 := rfl
  refine call_fun ((s.size : Int)) rfl (by simp only [vd1, vd2, vd3, vd4, vd5, vd6, vd7, reduceCtorEq, Option.some.injEq, vn_rw, va_rw, isNone_f, isNone_t, vi_cell_I, vi_cell_E0, vi_cell_E1, vi_cell_A0, vi_cell_A1, vi_cell_A2, vb_ite, vi_ite, updD, vi_cell_P0, vs_cell_P1, vi_cell_P2, vs_cell_S, vi_cell_B, seq_b, byD_rw]) hp ?_
  refine need_wp (need_size (den_cat (den_str _) rfl) (by simp only [size_app]; omega)) ?_
  refine need_wp (need_size (den_cat (den_cat (den_str _) rfl) (den_str _)) (by simp only [size_app]; omega)) ?_
  refine need_wp (need_size (den_cat (den_cat (den_cat (den_str _) rfl) (den_str _)) rfl) (by simp only [size_app]; omega)) ?_
  refine need_wp (need_size (den_cat (den_cat (den_cat (den_cat (den_str _) rfl) (den_str _)) rfl) (den_str _)) (by simp only [size_app]; omega)) ?_
  refine ret_wp ?_
  try dsimp only
  rfl
set_option maxHeartbeats 1000000 in
theorem h25 : holds Try.prog (kBulk sg25) := by
  refine fn_holds (l := [kPrint sg24]) ⟨h24, trivial⟩ hP rs25 (inj_of (fun l : List Atom => (vs (l.getD 0 atom0).1 : ByteArray)) (fun _ => rfl)) Try.func25 (by kernel_rfl) (c := code Try.f25) (by kernel_rfl) (an := an25) (by kernel_rfl) (pk := pk25) rfl (t := t25) (by kernel_rfl) ?_
  rintro s hs
  refine ⟨by simp [pk25, KindsOk, RK.ok, Rw.atom, Sl.atom], ?_⟩
  unfold t25
  have hp : in64 (s.size : Int) := by unfold in64; omega
  have z1 := prt_size hp
  have za : ((⟨#[36]⟩ : ByteArray).size : Int) = 1 := rfl
  have zb : ((⟨#[13, 10]⟩ : ByteArray).size : Int) = 2 := rfl
  refine call_fun ((s.size : Int)) rfl (by simp only [vd1, vd2, vd3, vd4, vd5, vd6, vd7, reduceCtorEq, Option.some.injEq, vn_rw, va_rw, isNone_f, isNone_t, vi_cell_I, vi_cell_E0, vi_cell_E1, vi_cell_A0, vi_cell_A1, vi_cell_A2, vb_ite, vi_ite, updD, vi_cell_P0, vs_cell_P1, vi_cell_P2, vs_cell_S, vi_cell_B, seq_b, byD_rw]) hp ?_
  refine need_wp (need_size (den_cat (den_str _) rfl) (by simp only [size_app]; omega)) ?_
  refine need_wp (need_size (den_cat (den_cat (den_str _) rfl) (den_str _)) (by simp only [size_app]; omega)) ?_
  refine need_wp (need_size (den_cat (den_cat (den_cat (den_str _) rfl) (den_str _)) rfl) (by simp only [size_app]; omega)) ?_
  refine need_wp (need_size (den_cat (den_cat (den_cat (den_cat (den_str _) rfl) (den_str _)) rfl) (den_str _)) (by simp only [size_app]; omega)) ?_
  refine ret_wp ?_
  try dsimp only
  rfl
end Go.Proofs.YtbcbjgomnhajdaaK
end

section
set_option linter.unusedSimpArgs false
set_option linter.unusedVariables false
set_option linter.unnecessarySimpa false
namespace Go.Proofs.YtbcbjgomnhajdaaK
open Go Go.Proofs.YtbcbjgomnhajdaaV Go.Proofs Go.Proofs.YtbcbjgomnhajdaaK
def kLine (sg : Sig) : Sig × Con := (sg, mkFun (fun x : ByteArray => ([aS x] : List Atom)) (fun s => s.size ≤ 1000000) (fun s => [aS (lineB s)]))
set_option maxHeartbeats 1000000 in
theorem h15 : holds Try.prog (kLine sg15) := by
  refine fn_holds (l := []) trivial hP rs15 (inj_of (fun l : List Atom => (vs (l.getD 0 atom0).1 : ByteArray)) (fun _ => rfl)) Try.func15 (by kernel_rfl) (c := code Try.f15) (by kernel_rfl) (an := an15) (by kernel_rfl) (pk := pk15) rfl (t := t15) (by kernel_rfl) ?_
  rintro s hs
  refine ⟨by simp [pk15, KindsOk, RK.ok, Rw.atom, Sl.atom], ?_⟩
  unfold t15
  refine need_wp (by first | exact ⟨_, _, _, rfl⟩ | (simp only [vd1, vd2, vd3, vd4, vd5, vd6, vd7, reduceCtorEq, Option.some.injEq, vn_rw, va_rw, isNone_f, isNone_t, vi_cell_I, vi_cell_E0, vi_cell_E1, vi_cell_A0, vi_cell_A1, vi_cell_A2, vb_ite, vi_ite, updD, vi_cell_P0, vs_cell_P1, vi_cell_P2, vs_cell_S, vi_cell_B, seq_b, byD_rw]; exact ⟨_, _, _, rfl⟩)) ?_
  refine loop_wp (fun bs0 => ∃ (i : Int) (r : Rw Int), bs0 = [aI i, Rw.atom eB r] ∧ (0 ≤ i ∧ i ≤ (s.size : Int) ∧ r.l = ((bi s).map li).take i.toNat ∧ r.ok 1)) (fun bs0 => ((s.size : Int) - vi (bs0.getD 0 atom0).1).toNat) ?_ ?_
  · refine ⟨0, Rw.nil, by simp only [vd1, vd2, vd3, vd4, vd5, vd6, vd7, reduceCtorEq, Option.some.injEq, vn_rw, va_rw, isNone_f, isNone_t, vi_cell_I, vi_cell_E0, vi_cell_E1, vi_cell_A0, vi_cell_A1, vi_cell_A2, vb_ite, vi_ite, updD, vi_cell_P0, vs_cell_P1, vi_cell_P2, vs_cell_S, vi_cell_B, seq_b, byD_rw, Rw.atom, Rw.nil, List.length_nil, List.map_nil], ?_⟩
    exact ⟨by omega, by omega, rfl, .inl rfl⟩
  rintro _ _ ⟨i, r, rfl, ⟨i0, i1, hr, kr⟩⟩
  have hn : (r.l.length : Int) = i := by rw [hr]; exact take_len i0 i1
  refine br_wp (fun c1 => ?_) (fun c1 => ?_)
  · replace c1 : i < (s.size : Int) := by first | simpa only [vd1, vd2, vd3, vd4, vd5, vd6, vd7, reduceCtorEq, Option.some.injEq, vn_rw, va_rw, isNone_f, isNone_t, vi_cell_I, vi_cell_E0, vi_cell_E1, vi_cell_A0, vi_cell_A1, vi_cell_A2, vb_ite, vi_ite, updD, vi_cell_P0, vs_cell_P1, vi_cell_P2, vs_cell_S, vi_cell_B, seq_b, byD_rw] using c1 | (simp only [vd1, vd2, vd3, vd4, vd5, vd6, vd7, reduceCtorEq, Option.some.injEq, vn_rw, va_rw, isNone_f, isNone_t, vi_cell_I, vi_cell_E0, vi_cell_E1, vi_cell_A0, vi_cell_A1, vi_cell_A2, vb_ite, vi_ite, updD, vi_cell_P0, vs_cell_P1, vi_cell_P2, vs_cell_S, vi_cell_B, seq_b, byD_rw] at c1; grind)
    have hb := byteAt_is i0 c1
    have w1 : IntKind.i64.wrap (i + 1) = i + 1 := wrap_id _ (by omega) (by omega)
    refine need_wp (by simp only [vd1, vd2, vd3, vd4, vd5, vd6, vd7, reduceCtorEq, Option.some.injEq, vn_rw, va_rw, isNone_f, isNone_t, vi_cell_I, vi_cell_E0, vi_cell_E1, vi_cell_A0, vi_cell_A1, vi_cell_A2, vb_ite, vi_ite, updD, vi_cell_P0, vs_cell_P1, vi_cell_P2, vs_cell_S, vi_cell_B, seq_b, byD_rw, w1, List.length_cons, List.length_nil, List.length_append, List.length_set]; first | omega | (grind)) ?_
    refine br_wp (fun c2 => ?_) (fun c2 => ?_)
    · replace c2 : (byteAt s i) = 13 := by first | simpa only [vd1, vd2, vd3, vd4, vd5, vd6, vd7, reduceCtorEq, Option.some.injEq, vn_rw, va_rw, isNone_f, isNone_t, vi_cell_I, vi_cell_E0, vi_cell_E1, vi_cell_A0, vi_cell_A1, vi_cell_A2, vb_ite, vi_ite, updD, vi_cell_P0, vs_cell_P1, vi_cell_P2, vs_cell_S, vi_cell_B, seq_b, byD_rw, w1] using c2 | (simp only [vd1, vd2, vd3, vd4, vd5, vd6, vd7, reduceCtorEq, Option.some.injEq, vn_rw, va_rw, isNone_f, isNone_t, vi_cell_I, vi_cell_E0, vi_cell_E1, vi_cell_A0, vi_cell_A1, vi_cell_A2, vb_ite, vi_ite, updD, vi_cell_P0, vs_cell_P1, vi_cell_P2, vs_cell_S, vi_cell_B, seq_b, byD_rw, w1] at c2; grind)
      refine new_wp eB [32] (by first | (simp only [vd1, vd2, vd3, vd4, vd5, vd6, vd7, reduceCtorEq, Option.some.injEq, vn_rw, va_rw, isNone_f, isNone_t, vi_cell_I, vi_cell_E0, vi_cell_E1, vi_cell_A0, vi_cell_A1, vi_cell_A2, vb_ite, vi_ite, updD, vi_cell_P0, vs_cell_P1, vi_cell_P2, vs_cell_S, vi_cell_B, seq_b, byD_rw, w1, eB]; done) | rfl) ?_
      intro a1 b1
      generalize hx1 : (⟨a1, b1, 1, [32]⟩ : Rw Int) = x1
      have lx1 : x1.l = [32] := by first | (rw [← hx1]; done) | (rw [← hx1]; rfl)
      have zx1 : x1.z = 1 := by rw [← hx1]
      have kx1 : Rw.ok 1 x1 := .inr zx1
      have nx1 : (x1.l.length : Int) = 1 := by first | (rw [← hx1]; done) | (rw [← hx1]; simp [Rw.nil])
      refine need_wp (by first | exact ⟨_, _, _, rfl⟩ | (simp only [vd1, vd2, vd3, vd4, vd5, vd6, vd7, reduceCtorEq, Option.some.injEq, vn_rw, va_rw, isNone_f, isNone_t, vi_cell_I, vi_cell_E0, vi_cell_E1, vi_cell_A0, vi_cell_A1, vi_cell_A2, vb_ite, vi_ite, updD, vi_cell_P0, vs_cell_P1, vi_cell_P2, vs_cell_S, vi_cell_B, seq_b, byD_rw, w1]; exact ⟨_, _, _, rfl⟩)) ?_
      refine need_wp (by first | exact rw_szz (by assumption) | exact rw_szz (.inr rfl)) ?_
      refine need_wp (by simp only [vd1, vd2, vd3, vd4, vd5, vd6, vd7, reduceCtorEq, Option.some.injEq, vn_rw, va_rw, isNone_f, isNone_t, vi_cell_I, vi_cell_E0, vi_cell_E1, vi_cell_A0, vi_cell_A1, vi_cell_A2, vb_ite, vi_ite, updD, vi_cell_P0, vs_cell_P1, vi_cell_P2, vs_cell_S, vi_cell_B, seq_b, byD_rw, w1, List.length_cons, List.length_nil, List.length_append, List.length_set]; first | omega | (grind)) ?_
      refine need_wp (by simp only [vd1, vd2, vd3, vd4, vd5, vd6, vd7, reduceCtorEq, Option.some.injEq, vn_rw, va_rw, isNone_f, isNone_t, vi_cell_I, vi_cell_E0, vi_cell_E1, vi_cell_A0, vi_cell_A1, vi_cell_A2, vb_ite, vi_ite, updD, vi_cell_P0, vs_cell_P1, vi_cell_P2, vs_cell_S, vi_cell_B, seq_b, byD_rw, w1, List.length_cons, List.length_nil, List.length_append, List.length_set]; first | omega | (grind)) ?_
      refine app_wp eB r x1 (by first | rfl | simp only [vd1, vd2, vd3, vd4, vd5, vd6, vd7, reduceCtorEq, Option.some.injEq, vn_rw, va_rw, isNone_f, isNone_t, vi_cell_I, vi_cell_E0, vi_cell_E1, vi_cell_A0, vi_cell_A1, vi_cell_A2, vb_ite, vi_ite, updD, vi_cell_P0, vs_cell_P1, vi_cell_P2, vs_cell_S, vi_cell_B, seq_b, byD_rw, w1]) (by first | rfl | simp only [vd1, vd2, vd3, vd4, vd5, vd6, vd7, reduceCtorEq, Option.some.injEq, vn_rw, va_rw, isNone_f, isNone_t, vi_cell_I, vi_cell_E0, vi_cell_E1, vi_cell_A0, vi_cell_A1, vi_cell_A2, vb_ite, vi_ite, updD, vi_cell_P0, vs_cell_P1, vi_cell_P2, vs_cell_S, vi_cell_B, seq_b, byD_rw, w1]) ?_
      intro a2 b2
      generalize hx2 : (⟨a2, b2, 1, r.l ++ x1.l⟩ : Rw Int) = x2
      have lx2 : x2.l = r.l ++ x1.l := by first | (rw [← hx2]; done) | (rw [← hx2]; rfl)
      have zx2 : x2.z = 1 := by rw [← hx2]
      have kx2 : Rw.ok 1 x2 := .inr zx2
      have nx2 : (x2.l.length : Int) = (r.l.length : Int) + (x1.l.length : Int) := by first | (rw [← hx2]; done) | (rw [← hx2]; simp [Rw.nil])
      refine need_wp (by first | exact ⟨_, _, _, rfl⟩ | (simp only [vd1, vd2, vd3, vd4, vd5, vd6, vd7, reduceCtorEq, Option.some.injEq, vn_rw, va_rw, isNone_f, isNone_t, vi_cell_I, vi_cell_E0, vi_cell_E1, vi_cell_A0, vi_cell_A1, vi_cell_A2, vb_ite, vi_ite, updD, vi_cell_P0, vs_cell_P1, vi_cell_P2, vs_cell_S, vi_cell_B, seq_b, byD_rw, w1]; exact ⟨_, _, _, rfl⟩)) ?_
      refine again_wp rfl ⟨(i + 1), x2, by simp only [vd1, vd2, vd3, vd4, vd5, vd6, vd7, reduceCtorEq, Option.some.injEq, vn_rw, va_rw, isNone_f, isNone_t, vi_cell_I, vi_cell_E0, vi_cell_E1, vi_cell_A0, vi_cell_A1, vi_cell_A2, vb_ite, vi_ite, updD, vi_cell_P0, vs_cell_P1, vi_cell_P2, vs_cell_S, vi_cell_B, seq_b, byD_rw, w1], ?_⟩ ?_
      · refine ⟨by omega, by omega, ?_, by assumption⟩; rw [take_li i0 hb, ← hr, lx2, lx1]; rw [li_end (.inl c2)]
      · (try simp only [vd1, vd2, vd3, vd4, vd5, vd6, vd7, reduceCtorEq, Option.some.injEq, vn_rw, va_rw, isNone_f, isNone_t, vi_cell_I, vi_cell_E0, vi_cell_E1, vi_cell_A0, vi_cell_A1, vi_cell_A2, vb_ite, vi_ite, updD, vi_cell_P0, vs_cell_P1, vi_cell_P2, vs_cell_S, vi_cell_B, seq_b, byD_rw, w1]); omega
    · replace c2 : ¬((byteAt s i) = 13) := by first | simpa only [vd1, vd2, vd3, vd4, vd5, vd6, vd7, reduceCtorEq, Option.some.injEq, vn_rw, va_rw, isNone_f, isNone_t, vi_cell_I, vi_cell_E0, vi_cell_E1, vi_cell_A0, vi_cell_A1, vi_cell_A2, vb_ite, vi_ite, updD, vi_cell_P0, vs_cell_P1, vi_cell_P2, vs_cell_S, vi_cell_B, seq_b, byD_rw, w1] using c2 | (simp only [vd1, vd2, vd3, vd4, vd5, vd6, vd7, reduceCtorEq, Option.some.injEq, vn_rw, va_rw, isNone_f, isNone_t, vi_cell_I, vi_cell_E0, vi_cell_E1, vi_cell_A0, vi_cell_A1, vi_cell_A2, vb_ite, vi_ite, updD, vi_cell_P0, vs_cell_P1, vi_cell_P2, vs_cell_S, vi_cell_B, seq_b, byD_rw, w1] at c2; grind)
      refine br_wp (fun c3 => ?_) (fun c3 => ?_)
      · replace c3 : (byteAt s i) = 10 := by first | simpa only [vd1, vd2, vd3, vd4, vd5, vd6, vd7, reduceCtorEq, Option.some.injEq, vn_rw, va_rw, isNone_f, isNone_t, vi_cell_I, vi_cell_E0, vi_cell_E1, vi_cell_A0, vi_cell_A1, vi_cell_A2, vb_ite, vi_ite, updD, vi_cell_P0, vs_cell_P1, vi_cell_P2, vs_cell_S, vi_cell_B, seq_b, byD_rw, w1] using c3 | (simp only [vd1, vd2, vd3, vd4, vd5, vd6, vd7, reduceCtorEq, Option.some.injEq, vn_rw, va_rw, isNone_f, isNone_t, vi_cell_I, vi_cell_E0, vi_cell_E1, vi_cell_A0, vi_cell_A1, vi_cell_A2, vb_ite, vi_ite, updD, vi_cell_P0, vs_cell_P1, vi_cell_P2, vs_cell_S, vi_cell_B, seq_b, byD_rw, w1] at c3; grind)
        refine new_wp eB [32] (by first | (simp only [vd1, vd2, vd3, vd4, vd5, vd6, vd7, reduceCtorEq, Option.some.injEq, vn_rw, va_rw, isNone_f, isNone_t, vi_cell_I, vi_cell_E0, vi_cell_E1, vi_cell_A0, vi_cell_A1, vi_cell_A2, vb_ite, vi_ite, updD, vi_cell_P0, vs_cell_P1, vi_cell_P2, vs_cell_S, vi_cell_B, seq_b, byD_rw, w1, eB]; done) | rfl) ?_
        intro a3 b3
        generalize hx3 : (⟨a3, b3, 1, [32]⟩ : Rw Int) = x3
        have lx3 : x3.l = [32] := by first | (rw [← hx3]; done) | (rw [← hx3]; rfl)
        have zx3 : x3.z = 1 := by rw [← hx3]
        have kx3 : Rw.ok 1 x3 := .inr zx3
        have nx3 : (x3.l.length : Int) = 1 := by first | (rw [← hx3]; done) | (rw [← hx3]; simp [Rw.nil])
        refine need_wp (by first | exact ⟨_, _, _, rfl⟩ | (simp only [vd1, vd2, vd3, vd4, vd5, vd6, vd7, reduceCtorEq, Option.some.injEq, vn_rw, va_rw, isNone_f, isNone_t, vi_cell_I, vi_cell_E0, vi_cell_E1, vi_cell_A0, vi_cell_A1, vi_cell_A2, vb_ite, vi_ite, updD, vi_cell_P0, vs_cell_P1, vi_cell_P2, vs_cell_S, vi_cell_B, seq_b, byD_rw, w1]; exact ⟨_, _, _, rfl⟩)) ?_
        refine need_wp (by first | exact rw_szz (by assumption) | exact rw_szz (.inr rfl)) ?_
        refine need_wp (by simp only [vd1, vd2, vd3, vd4, vd5, vd6, vd7, reduceCtorEq, Option.some.injEq, vn_rw, va_rw, isNone_f, isNone_t, vi_cell_I, vi_cell_E0, vi_cell_E1, vi_cell_A0, vi_cell_A1, vi_cell_A2, vb_ite, vi_ite, updD, vi_cell_P0, vs_cell_P1, vi_cell_P2, vs_cell_S, vi_cell_B, seq_b, byD_rw, w1, List.length_cons, List.length_nil, List.length_append, List.length_set]; first | omega | (grind)) ?_
        refine need_wp (by simp only [vd1, vd2, vd3, vd4, vd5, vd6, vd7, reduceCtorEq, Option.some.injEq, vn_rw, va_rw, isNone_f, isNone_t, vi_cell_I, vi_cell_E0, vi_cell_E1, vi_cell_A0, vi_cell_A1, vi_cell_A2, vb_ite, vi_ite, updD, vi_cell_P0, vs_cell_P1, vi_cell_P2, vs_cell_S, vi_cell_B, seq_b, byD_rw, w1, List.length_cons, List.length_nil, List.length_append, List.length_set]; first | omega | (grind)) ?_
        refine app_wp eB r x3 (by first | rfl | simp only [vd1, vd2, vd3, vd4, vd5, vd6, vd7, reduceCtorEq, Option.some.injEq, vn_rw, va_rw, isNone_f, isNone_t, vi_cell_I, vi_cell_E0, vi_cell_E1, vi_cell_A0, vi_cell_A1, vi_cell_A2, vb_ite, vi_ite, updD, vi_cell_P0, vs_cell_P1, vi_cell_P2, vs_cell_S, vi_cell_B, seq_b, byD_rw, w1]) (by first | rfl | simp only [vd1, vd2, vd3, vd4, vd5, vd6, vd7, reduceCtorEq, Option.some.injEq, vn_rw, va_rw, isNone_f, isNone_t, vi_cell_I, vi_cell_E0, vi_cell_E1, vi_cell_A0, vi_cell_A1, vi_cell_A2, vb_ite, vi_ite, updD, vi_cell_P0, vs_cell_P1, vi_cell_P2, vs_cell_S, vi_cell_B, seq_b, byD_rw, w1]) ?_
        intro a4 b4
        generalize hx4 : (⟨a4, b4, 1, r.l ++ x3.l⟩ : Rw Int) = x4
        have lx4 : x4.l = r.l ++ x3.l := by first | (rw [← hx4]; done) | (rw [← hx4]; rfl)
        have zx4 : x4.z = 1 := by rw [← hx4]
        have kx4 : Rw.ok 1 x4 := .inr zx4
        have nx4 : (x4.l.length : Int) = (r.l.length : Int) + (x3.l.length : Int) := by first | (rw [← hx4]; done) | (rw [← hx4]; simp [Rw.nil])
        refine need_wp (by first | exact ⟨_, _, _, rfl⟩ | (simp only [vd1, vd2, vd3, vd4, vd5, vd6, vd7, reduceCtorEq, Option.some.injEq, vn_rw, va_rw, isNone_f, isNone_t, vi_cell_I, vi_cell_E0, vi_cell_E1, vi_cell_A0, vi_cell_A1, vi_cell_A2, vb_ite, vi_ite, updD, vi_cell_P0, vs_cell_P1, vi_cell_P2, vs_cell_S, vi_cell_B, seq_b, byD_rw, w1]; exact ⟨_, _, _, rfl⟩)) ?_
        refine again_wp rfl ⟨(i + 1), x4, by simp only [vd1, vd2, vd3, vd4, vd5, vd6, vd7, reduceCtorEq, Option.some.injEq, vn_rw, va_rw, isNone_f, isNone_t, vi_cell_I, vi_cell_E0, vi_cell_E1, vi_cell_A0, vi_cell_A1, vi_cell_A2, vb_ite, vi_ite, updD, vi_cell_P0, vs_cell_P1, vi_cell_P2, vs_cell_S, vi_cell_B, seq_b, byD_rw, w1], ?_⟩ ?_
        · refine ⟨by omega, by omega, ?_, by assumption⟩; rw [take_li i0 hb, ← hr, lx4, lx3]; rw [li_end (.inr c3)]
        · (try simp only [vd1, vd2, vd3, vd4, vd5, vd6, vd7, reduceCtorEq, Option.some.injEq, vn_rw, va_rw, isNone_f, isNone_t, vi_cell_I, vi_cell_E0, vi_cell_E1, vi_cell_A0, vi_cell_A1, vi_cell_A2, vb_ite, vi_ite, updD, vi_cell_P0, vs_cell_P1, vi_cell_P2, vs_cell_S, vi_cell_B, seq_b, byD_rw, w1]); omega
      · replace c3 : ¬((byteAt s i) = 10) := by first | simpa only [vd1, vd2, vd3, vd4, vd5, vd6, vd7, reduceCtorEq, Option.some.injEq, vn_rw, va_rw, isNone_f, isNone_t, vi_cell_I, vi_cell_E0, vi_cell_E1, vi_cell_A0, vi_cell_A1, vi_cell_A2, vb_ite, vi_ite, updD, vi_cell_P0, vs_cell_P1, vi_cell_P2, vs_cell_S, vi_cell_B, seq_b, byD_rw, w1] using c3 | (simp only [vd1, vd2, vd3, vd4, vd5, vd6, vd7, reduceCtorEq, Option.some.injEq, vn_rw, va_rw, isNone_f, isNone_t, vi_cell_I, vi_cell_E0, vi_cell_E1, vi_cell_A0, vi_cell_A1, vi_cell_A2, vb_ite, vi_ite, updD, vi_cell_P0, vs_cell_P1, vi_cell_P2, vs_cell_S, vi_cell_B, seq_b, byD_rw, w1] at c3; grind)
        refine new_wp eB [(byteAt s i)] (by first | (simp only [vd1, vd2, vd3, vd4, vd5, vd6, vd7, reduceCtorEq, Option.some.injEq, vn_rw, va_rw, isNone_f, isNone_t, vi_cell_I, vi_cell_E0, vi_cell_E1, vi_cell_A0, vi_cell_A1, vi_cell_A2, vb_ite, vi_ite, updD, vi_cell_P0, vs_cell_P1, vi_cell_P2, vs_cell_S, vi_cell_B, seq_b, byD_rw, w1, eB]; done) | rfl) ?_
        intro a5 b5
        generalize hx5 : (⟨a5, b5, 1, [(byteAt s i)]⟩ : Rw Int) = x5
        have lx5 : x5.l = [(byteAt s i)] := by first | (rw [← hx5]; done) | (rw [← hx5]; rfl)
        have zx5 : x5.z = 1 := by rw [← hx5]
        have kx5 : Rw.ok 1 x5 := .inr zx5
        have nx5 : (x5.l.length : Int) = 1 := by first | (rw [← hx5]; done) | (rw [← hx5]; simp [Rw.nil])
        refine need_wp (by first | exact ⟨_, _, _, rfl⟩ | (simp only [vd1, vd2, vd3, vd4, vd5, vd6, vd7, reduceCtorEq, Option.some.injEq, vn_rw, va_rw, isNone_f, isNone_t, vi_cell_I, vi_cell_E0, vi_cell_E1, vi_cell_A0, vi_cell_A1, vi_cell_A2, vb_ite, vi_ite, updD, vi_cell_P0, vs_cell_P1, vi_cell_P2, vs_cell_S, vi_cell_B, seq_b, byD_rw, w1]; exact ⟨_, _, _, rfl⟩)) ?_
        refine need_wp (by first | exact rw_szz (by assumption) | exact rw_szz (.inr rfl)) ?_
        refine need_wp (by simp only [vd1, vd2, vd3, vd4, vd5, vd6, vd7, reduceCtorEq, Option.some.injEq, vn_rw, va_rw, isNone_f, isNone_t, vi_cell_I, vi_cell_E0, vi_cell_E1, vi_cell_A0, vi_cell_A1, vi_cell_A2, vb_ite, vi_ite, updD, vi_cell_P0, vs_cell_P1, vi_cell_P2, vs_cell_S, vi_cell_B, seq_b, byD_rw, w1, List.length_cons, List.length_nil, List.length_append, List.length_set]; first | omega | (grind)) ?_
        refine need_wp (by simp only [vd1, vd2, vd3, vd4, vd5, vd6, vd7, reduceCtorEq, Option.some.injEq, vn_rw, va_rw, isNone_f, isNone_t, vi_cell_I, vi_cell_E0, vi_cell_E1, vi_cell_A0, vi_cell_A1, vi_cell_A2, vb_ite, vi_ite, updD, vi_cell_P0, vs_cell_P1, vi_cell_P2, vs_cell_S, vi_cell_B, seq_b, byD_rw, w1, List.length_cons, List.length_nil, List.length_append, List.length_set]; first | omega | (grind)) ?_
        refine app_wp eB r x5 (by first | rfl | simp only [vd1, vd2, vd3, vd4, vd5, vd6, vd7, reduceCtorEq, Option.some.injEq, vn_rw, va_rw, isNone_f, isNone_t, vi_cell_I, vi_cell_E0, vi_cell_E1, vi_cell_A0, vi_cell_A1, vi_cell_A2, vb_ite, vi_ite, updD, vi_cell_P0, vs_cell_P1, vi_cell_P2, vs_cell_S, vi_cell_B, seq_b, byD_rw, w1]) (by first | rfl | simp only [vd1, vd2, vd3, vd4, vd5, vd6, vd7, reduceCtorEq, Option.some.injEq, vn_rw, va_rw, isNone_f, isNone_t, vi_cell_I, vi_cell_E0, vi_cell_E1, vi_cell_A0, vi_cell_A1, vi_cell_A2, vb_ite, vi_ite, updD, vi_cell_P0, vs_cell_P1, vi_cell_P2, vs_cell_S, vi_cell_B, seq_b, byD_rw, w1]) ?_
        intro a6 b6
        generalize hx6 : (⟨a6, b6, 1, r.l ++ x5.l⟩ : Rw Int) = x6
        have lx6 : x6.l = r.l ++ x5.l := by first | (rw [← hx6]; done) | (rw [← hx6]; rfl)
        have zx6 : x6.z = 1 := by rw [← hx6]
        have kx6 : Rw.ok 1 x6 := .inr zx6
        have nx6 : (x6.l.length : Int) = (r.l.length : Int) + (x5.l.length : Int) := by first | (rw [← hx6]; done) | (rw [← hx6]; simp [Rw.nil])
        refine need_wp (by first | exact ⟨_, _, _, rfl⟩ | (simp only [vd1, vd2, vd3, vd4, vd5, vd6, vd7, reduceCtorEq, Option.some.injEq, vn_rw, va_rw, isNone_f, isNone_t, vi_cell_I, vi_cell_E0, vi_cell_E1, vi_cell_A0, vi_cell_A1, vi_cell_A2, vb_ite, vi_ite, updD, vi_cell_P0, vs_cell_P1, vi_cell_P2, vs_cell_S, vi_cell_B, seq_b, byD_rw, w1]; exact ⟨_, _, _, rfl⟩)) ?_
        refine again_wp rfl ⟨(i + 1), x6, by simp only [vd1, vd2, vd3, vd4, vd5, vd6, vd7, reduceCtorEq, Option.some.injEq, vn_rw, va_rw, isNone_f, isNone_t, vi_cell_I, vi_cell_E0, vi_cell_E1, vi_cell_A0, vi_cell_A1, vi_cell_A2, vb_ite, vi_ite, updD, vi_cell_P0, vs_cell_P1, vi_cell_P2, vs_cell_S, vi_cell_B, seq_b, byD_rw, w1], ?_⟩ ?_
        · refine ⟨by omega, by omega, ?_, by assumption⟩; rw [take_li i0 hb, ← hr, lx6, lx5]; rw [li_not c2 c3]
        · (try simp only [vd1, vd2, vd3, vd4, vd5, vd6, vd7, reduceCtorEq, Option.some.injEq, vn_rw, va_rw, isNone_f, isNone_t, vi_cell_I, vi_cell_E0, vi_cell_E1, vi_cell_A0, vi_cell_A1, vi_cell_A2, vb_ite, vi_ite, updD, vi_cell_P0, vs_cell_P1, vi_cell_P2, vs_cell_S, vi_cell_B, seq_b, byD_rw, w1]); omega
  · replace c1 : ¬(i < (s.size : Int)) := by first | simpa only [vd1, vd2, vd3, vd4, vd5, vd6, vd7, reduceCtorEq, Option.some.injEq, vn_rw, va_rw, isNone_f, isNone_t, vi_cell_I, vi_cell_E0, vi_cell_E1, vi_cell_A0, vi_cell_A1, vi_cell_A2, vb_ite, vi_ite, updD, vi_cell_P0, vs_cell_P1, vi_cell_P2, vs_cell_S, vi_cell_B, seq_b, byD_rw] using c1 | (simp only [vd1, vd2, vd3, vd4, vd5, vd6, vd7, reduceCtorEq, Option.some.injEq, vn_rw, va_rw, isNone_f, isNone_t, vi_cell_I, vi_cell_E0, vi_cell_E1, vi_cell_A0, vi_cell_A1, vi_cell_A2, vb_ite, vi_ite, updD, vi_cell_P0, vs_cell_P1, vi_cell_P2, vs_cell_S, vi_cell_B, seq_b, byD_rw] at c1; grind)
    have hi : i = s.size := by omega
    have hB : isB r.l := by rw [hr]; exact isB_take (isB_line (isB_bi s)) _
    refine pop_wp ?_
    refine need_wp (by first | exact ⟨_, _, _, rfl⟩ | (simp only [vd1, vd2, vd3, vd4, vd5, vd6, vd7, reduceCtorEq, Option.some.injEq, vn_rw, va_rw, isNone_f, isNone_t, vi_cell_I, vi_cell_E0, vi_cell_E1, vi_cell_A0, vi_cell_A1, vi_cell_A2, vb_ite, vi_ite, updD, vi_cell_P0, vs_cell_P1, vi_cell_P2, vs_cell_S, vi_cell_B, seq_b, byD_rw]; exact ⟨_, _, _, rfl⟩)) ?_
    refine need_wp (by simp only [vd1, vd2, vd3, vd4, vd5, vd6, vd7, reduceCtorEq, Option.some.injEq, vn_rw, va_rw, isNone_f, isNone_t, vi_cell_I, vi_cell_E0, vi_cell_E1, vi_cell_A0, vi_cell_A1, vi_cell_A2, vb_ite, vi_ite, updD, vi_cell_P0, vs_cell_P1, vi_cell_P2, vs_cell_S, vi_cell_B, seq_b, byD_rw]; exact need_bytes (by assumption) (by assumption)) ?_
    refine ret_wp ?_
    try dsimp only
    simp only [vd1, vd2, vd3, vd4, vd5, vd6, vd7, reduceCtorEq, Option.some.injEq, vn_rw, va_rw, isNone_f, isNone_t, vi_cell_I, vi_cell_E0, vi_cell_E1, vi_cell_A0, vi_cell_A1, vi_cell_A2, vb_ite, vi_ite, updD, vi_cell_P0, vs_cell_P1, vi_cell_P2, vs_cell_S, vi_cell_B, seq_b, byD_rw]; rw [hr, hi, Int.toNat_natCast, take_all]; rfl
end Go.Proofs.YtbcbjgomnhajdaaK
end

section
set_option linter.unusedSimpArgs false
set_option linter.unusedVariables false
set_option linter.unnecessarySimpa false
namespace Go.Proofs.YtbcbjgomnhajdaaK
open Go Go.Proofs.YtbcbjgomnhajdaaV Go.Proofs Go.Proofs.YtbcbjgomnhajdaaK
def kPl (sg : Sig) : Sig × Con := (sg, mkRel (fun x : Rep => ([aI x.k, aS x.t, aI x.n, Rw.atom eS x.l] : List Atom)) okP (fun x : Rep => ([aI x.k, aS x.t, aI x.n, Rw.atom eS x.l] : List Atom)) (fun x y => y.v = plV x.v ∧ y.l.ok 1))
set_option maxHeartbeats 1000000 in
theorem h7 : holds Try.prog (kPl sg7) := by
  refine fn_holds (l := [kLine sg15]) ⟨h15, trivial⟩ hP rs7 (inj_of (fun l : List Atom => ((⟨vi (l.getD 0 atom0).1, vs (l.getD 1 atom0).1, vi (l.getD 2 atom0).1, Rw.un unS (l.getD 3 atom0)⟩ : Rep) : Rep)) (fun _ => by simp [List.getD_cons_zero, List.getD_cons_succ, unA_atom])) Try.func7 (by kernel_rfl) (c := code Try.f7) (by kernel_rfl) (an := an7) (by kernel_rfl) (pk := pk7) rfl (t := t7) (by kernel_rfl) ?_
  rintro x hp
  refine ⟨by simp [pk7, KindsOk, RK.ok, Rw.atom, Sl.atom], ?_⟩
  unfold t7
  have ht := okP_t hp
  have hl := okP_l hp
  have kl : x.l.ok 1 := hp.1
  refine br_wp (fun c1 => ?_) (fun c1 => ?_)
  · replace c1 : x.k = 1 := by first | simpa only [vd1, vd2, vd3, vd4, vd5, vd6, vd7, reduceCtorEq, Option.some.injEq, vn_rw, va_rw, isNone_f, isNone_t, vi_cell_I, vi_cell_E0, vi_cell_E1, vi_cell_A0, vi_cell_A1, vi_cell_A2, vb_ite, vi_ite, updD, vi_cell_P0, vs_cell_P1, vi_cell_P2, vs_cell_S, vi_cell_B, seq_b, byD_rw] using c1 | (simp only [vd1, vd2, vd3, vd4, vd5, vd6, vd7, reduceCtorEq, Option.some.injEq, vn_rw, va_rw, isNone_f, isNone_t, vi_cell_I, vi_cell_E0, vi_cell_E1, vi_cell_A0, vi_cell_A1, vi_cell_A2, vb_ite, vi_ite, updD, vi_cell_P0, vs_cell_P1, vi_cell_P2, vs_cell_S, vi_cell_B, seq_b, byD_rw] at c1; grind)
    refine call_fun (x.t) rfl (by simp only [vd1, vd2, vd3, vd4, vd5, vd6, vd7, reduceCtorEq, Option.some.injEq, vn_rw, va_rw, isNone_f, isNone_t, vi_cell_I, vi_cell_E0, vi_cell_E1, vi_cell_A0, vi_cell_A1, vi_cell_A2, vb_ite, vi_ite, updD, vi_cell_P0, vs_cell_P1, vi_cell_P2, vs_cell_S, vi_cell_B, seq_b, byD_rw]) (by omega) ?_
    refine need_wp (by first | exact ⟨_, _, _, rfl⟩ | (simp only [vd1, vd2, vd3, vd4, vd5, vd6, vd7, reduceCtorEq, Option.some.injEq, vn_rw, va_rw, isNone_f, isNone_t, vi_cell_I, vi_cell_E0, vi_cell_E1, vi_cell_A0, vi_cell_A1, vi_cell_A2, vb_ite, vi_ite, updD, vi_cell_P0, vs_cell_P1, vi_cell_P2, vs_cell_S, vi_cell_B, seq_b, byD_rw]; exact ⟨_, _, _, rfl⟩)) ?_
    refine ret_wp ?_
    refine ⟨(⟨x.k, (lineB x.t), 0, Rw.nil⟩ : Rep), by first | (simp only [vd1, vd2, vd3, vd4, vd5, vd6, vd7, reduceCtorEq, Option.some.injEq, vn_rw, va_rw, isNone_f, isNone_t, vi_cell_I, vi_cell_E0, vi_cell_E1, vi_cell_A0, vi_cell_A1, vi_cell_A2, vb_ite, vi_ite, updD, vi_cell_P0, vs_cell_P1, vi_cell_P2, vs_cell_S, vi_cell_B, seq_b, byD_rw]; done) | (simp only [vd1, vd2, vd3, vd4, vd5, vd6, vd7, reduceCtorEq, Option.some.injEq, vn_rw, va_rw, isNone_f, isNone_t, vi_cell_I, vi_cell_E0, vi_cell_E1, vi_cell_A0, vi_cell_A1, vi_cell_A2, vb_ite, vi_ite, updD, vi_cell_P0, vs_cell_P1, vi_cell_P2, vs_cell_S, vi_cell_B, seq_b, byD_rw]; rfl), ?_⟩
    try dsimp only
    exact ⟨by rw [plV_1 (x := x.v) (.inl c1)]; rfl, .inl rfl⟩
  · replace c1 : ¬(x.k = 1) := by first | simpa only [vd1, vd2, vd3, vd4, vd5, vd6, vd7, reduceCtorEq, Option.some.injEq, vn_rw, va_rw, isNone_f, isNone_t, vi_cell_I, vi_cell_E0, vi_cell_E1, vi_cell_A0, vi_cell_A1, vi_cell_A2, vb_ite, vi_ite, updD, vi_cell_P0, vs_cell_P1, vi_cell_P2, vs_cell_S, vi_cell_B, seq_b, byD_rw] using c1 | (simp only [vd1, vd2, vd3, vd4, vd5, vd6, vd7, reduceCtorEq, Option.some.injEq, vn_rw, va_rw, isNone_f, isNone_t, vi_cell_I, vi_cell_E0, vi_cell_E1, vi_cell_A0, vi_cell_A1, vi_cell_A2, vb_ite, vi_ite, updD, vi_cell_P0, vs_cell_P1, vi_cell_P2, vs_cell_S, vi_cell_B, seq_b, byD_rw] at c1; grind)
    refine br_wp (fun c2 => ?_) (fun c2 => ?_)
    · replace c2 : x.k = 2 := by first | simpa only [vd1, vd2, vd3, vd4, vd5, vd6, vd7, reduceCtorEq, Option.some.injEq, vn_rw, va_rw, isNone_f, isNone_t, vi_cell_I, vi_cell_E0, vi_cell_E1, vi_cell_A0, vi_cell_A1, vi_cell_A2, vb_ite, vi_ite, updD, vi_cell_P0, vs_cell_P1, vi_cell_P2, vs_cell_S, vi_cell_B, seq_b, byD_rw] using c2 | (simp only [vd1, vd2, vd3, vd4, vd5, vd6, vd7, reduceCtorEq, Option.some.injEq, vn_rw, va_rw, isNone_f, isNone_t, vi_cell_I, vi_cell_E0, vi_cell_E1, vi_cell_A0, vi_cell_A1, vi_cell_A2, vb_ite, vi_ite, updD, vi_cell_P0, vs_cell_P1, vi_cell_P2, vs_cell_S, vi_cell_B, seq_b, byD_rw] at c2; grind)
      refine call_fun (x.t) rfl (by simp only [vd1, vd2, vd3, vd4, vd5, vd6, vd7, reduceCtorEq, Option.some.injEq, vn_rw, va_rw, isNone_f, isNone_t, vi_cell_I, vi_cell_E0, vi_cell_E1, vi_cell_A0, vi_cell_A1, vi_cell_A2, vb_ite, vi_ite, updD, vi_cell_P0, vs_cell_P1, vi_cell_P2, vs_cell_S, vi_cell_B, seq_b, byD_rw]) (by omega) ?_
      refine need_wp (by first | exact ⟨_, _, _, rfl⟩ | (simp only [vd1, vd2, vd3, vd4, vd5, vd6, vd7, reduceCtorEq, Option.some.injEq, vn_rw, va_rw, isNone_f, isNone_t, vi_cell_I, vi_cell_E0, vi_cell_E1, vi_cell_A0, vi_cell_A1, vi_cell_A2, vb_ite, vi_ite, updD, vi_cell_P0, vs_cell_P1, vi_cell_P2, vs_cell_S, vi_cell_B, seq_b, byD_rw]; exact ⟨_, _, _, rfl⟩)) ?_
      refine ret_wp ?_
      refine ⟨(⟨x.k, (lineB x.t), 0, Rw.nil⟩ : Rep), by first | (simp only [vd1, vd2, vd3, vd4, vd5, vd6, vd7, reduceCtorEq, Option.some.injEq, vn_rw, va_rw, isNone_f, isNone_t, vi_cell_I, vi_cell_E0, vi_cell_E1, vi_cell_A0, vi_cell_A1, vi_cell_A2, vb_ite, vi_ite, updD, vi_cell_P0, vs_cell_P1, vi_cell_P2, vs_cell_S, vi_cell_B, seq_b, byD_rw]; done) | (simp only [vd1, vd2, vd3, vd4, vd5, vd6, vd7, reduceCtorEq, Option.some.injEq, vn_rw, va_rw, isNone_f, isNone_t, vi_cell_I, vi_cell_E0, vi_cell_E1, vi_cell_A0, vi_cell_A1, vi_cell_A2, vb_ite, vi_ite, updD, vi_cell_P0, vs_cell_P1, vi_cell_P2, vs_cell_S, vi_cell_B, seq_b, byD_rw]; rfl), ?_⟩
      try dsimp only
      exact ⟨by rw [plV_1 (x := x.v) (.inr c2)]; rfl, .inl rfl⟩
    · replace c2 : ¬(x.k = 2) := by first | simpa only [vd1, vd2, vd3, vd4, vd5, vd6, vd7, reduceCtorEq, Option.some.injEq, vn_rw, va_rw, isNone_f, isNone_t, vi_cell_I, vi_cell_E0, vi_cell_E1, vi_cell_A0, vi_cell_A1, vi_cell_A2, vb_ite, vi_ite, updD, vi_cell_P0, vs_cell_P1, vi_cell_P2, vs_cell_S, vi_cell_B, seq_b, byD_rw] using c2 | (simp only [vd1, vd2, vd3, vd4, vd5, vd6, vd7, reduceCtorEq, Option.some.injEq, vn_rw, va_rw, isNone_f, isNone_t, vi_cell_I, vi_cell_E0, vi_cell_E1, vi_cell_A0, vi_cell_A1, vi_cell_A2, vb_ite, vi_ite, updD, vi_cell_P0, vs_cell_P1, vi_cell_P2, vs_cell_S, vi_cell_B, seq_b, byD_rw] at c2; grind)
      refine br_wp (fun c3 => ?_) (fun c3 => ?_)
      · replace c3 : x.k = 3 := by first | simpa only [vd1, vd2, vd3, vd4, vd5, vd6, vd7, reduceCtorEq, Option.some.injEq, vn_rw, va_rw, isNone_f, isNone_t, vi_cell_I, vi_cell_E0, vi_cell_E1, vi_cell_A0, vi_cell_A1, vi_cell_A2, vb_ite, vi_ite, updD, vi_cell_P0, vs_cell_P1, vi_cell_P2, vs_cell_S, vi_cell_B, seq_b, byD_rw] using c3 | (simp only [vd1, vd2, vd3, vd4, vd5, vd6, vd7, reduceCtorEq, Option.some.injEq, vn_rw, va_rw, isNone_f, isNone_t, vi_cell_I, vi_cell_E0, vi_cell_E1, vi_cell_A0, vi_cell_A1, vi_cell_A2, vb_ite, vi_ite, updD, vi_cell_P0, vs_cell_P1, vi_cell_P2, vs_cell_S, vi_cell_B, seq_b, byD_rw] at c3; grind)
        refine need_wp (by first | exact ⟨_, _, _, rfl⟩ | (simp only [vd1, vd2, vd3, vd4, vd5, vd6, vd7, reduceCtorEq, Option.some.injEq, vn_rw, va_rw, isNone_f, isNone_t, vi_cell_I, vi_cell_E0, vi_cell_E1, vi_cell_A0, vi_cell_A1, vi_cell_A2, vb_ite, vi_ite, updD, vi_cell_P0, vs_cell_P1, vi_cell_P2, vs_cell_S, vi_cell_B, seq_b, byD_rw]; exact ⟨_, _, _, rfl⟩)) ?_
        refine ret_wp ?_
        refine ⟨(⟨x.k, (⟨#[]⟩ : ByteArray), x.n, Rw.nil⟩ : Rep), by first | (simp only [vd1, vd2, vd3, vd4, vd5, vd6, vd7, reduceCtorEq, Option.some.injEq, vn_rw, va_rw, isNone_f, isNone_t, vi_cell_I, vi_cell_E0, vi_cell_E1, vi_cell_A0, vi_cell_A1, vi_cell_A2, vb_ite, vi_ite, updD, vi_cell_P0, vs_cell_P1, vi_cell_P2, vs_cell_S, vi_cell_B, seq_b, byD_rw]; done) | (simp only [vd1, vd2, vd3, vd4, vd5, vd6, vd7, reduceCtorEq, Option.some.injEq, vn_rw, va_rw, isNone_f, isNone_t, vi_cell_I, vi_cell_E0, vi_cell_E1, vi_cell_A0, vi_cell_A1, vi_cell_A2, vb_ite, vi_ite, updD, vi_cell_P0, vs_cell_P1, vi_cell_P2, vs_cell_S, vi_cell_B, seq_b, byD_rw]; rfl), ?_⟩
        try dsimp only
        exact ⟨by rw [plV_3 (x := x.v) c3]; rfl, .inl rfl⟩
      · replace c3 : ¬(x.k = 3) := by first | simpa only [vd1, vd2, vd3, vd4, vd5, vd6, vd7, reduceCtorEq, Option.some.injEq, vn_rw, va_rw, isNone_f, isNone_t, vi_cell_I, vi_cell_E0, vi_cell_E1, vi_cell_A0, vi_cell_A1, vi_cell_A2, vb_ite, vi_ite, updD, vi_cell_P0, vs_cell_P1, vi_cell_P2, vs_cell_S, vi_cell_B, seq_b, byD_rw] using c3 | (simp only [vd1, vd2, vd3, vd4, vd5, vd6, vd7, reduceCtorEq, Option.some.injEq, vn_rw, va_rw, isNone_f, isNone_t, vi_cell_I, vi_cell_E0, vi_cell_E1, vi_cell_A0, vi_cell_A1, vi_cell_A2, vb_ite, vi_ite, updD, vi_cell_P0, vs_cell_P1, vi_cell_P2, vs_cell_S, vi_cell_B, seq_b, byD_rw] at c3; grind)
        refine br_wp (fun c4 => ?_) (fun c4 => ?_)
        · replace c4 : x.k = 4 := by first | simpa only [vd1, vd2, vd3, vd4, vd5, vd6, vd7, reduceCtorEq, Option.some.injEq, vn_rw, va_rw, isNone_f, isNone_t, vi_cell_I, vi_cell_E0, vi_cell_E1, vi_cell_A0, vi_cell_A1, vi_cell_A2, vb_ite, vi_ite, updD, vi_cell_P0, vs_cell_P1, vi_cell_P2, vs_cell_S, vi_cell_B, seq_b, byD_rw] using c4 | (simp only [vd1, vd2, vd3, vd4, vd5, vd6, vd7, reduceCtorEq, Option.some.injEq, vn_rw, va_rw, isNone_f, isNone_t, vi_cell_I, vi_cell_E0, vi_cell_E1, vi_cell_A0, vi_cell_A1, vi_cell_A2, vb_ite, vi_ite, updD, vi_cell_P0, vs_cell_P1, vi_cell_P2, vs_cell_S, vi_cell_B, seq_b, byD_rw] at c4; grind)
          refine need_wp (by first | exact ⟨_, _, _, rfl⟩ | (simp only [vd1, vd2, vd3, vd4, vd5, vd6, vd7, reduceCtorEq, Option.some.injEq, vn_rw, va_rw, isNone_f, isNone_t, vi_cell_I, vi_cell_E0, vi_cell_E1, vi_cell_A0, vi_cell_A1, vi_cell_A2, vb_ite, vi_ite, updD, vi_cell_P0, vs_cell_P1, vi_cell_P2, vs_cell_S, vi_cell_B, seq_b, byD_rw]; exact ⟨_, _, _, rfl⟩)) ?_
          refine ret_wp ?_
          refine ⟨(⟨x.k, x.t, 0, Rw.nil⟩ : Rep), by first | (simp only [vd1, vd2, vd3, vd4, vd5, vd6, vd7, reduceCtorEq, Option.some.injEq, vn_rw, va_rw, isNone_f, isNone_t, vi_cell_I, vi_cell_E0, vi_cell_E1, vi_cell_A0, vi_cell_A1, vi_cell_A2, vb_ite, vi_ite, updD, vi_cell_P0, vs_cell_P1, vi_cell_P2, vs_cell_S, vi_cell_B, seq_b, byD_rw]; done) | (simp only [vd1, vd2, vd3, vd4, vd5, vd6, vd7, reduceCtorEq, Option.some.injEq, vn_rw, va_rw, isNone_f, isNone_t, vi_cell_I, vi_cell_E0, vi_cell_E1, vi_cell_A0, vi_cell_A1, vi_cell_A2, vb_ite, vi_ite, updD, vi_cell_P0, vs_cell_P1, vi_cell_P2, vs_cell_S, vi_cell_B, seq_b, byD_rw]; rfl), ?_⟩
          try dsimp only
          exact ⟨by rw [plV_4 (x := x.v) c4]; rfl, .inl rfl⟩
        · replace c4 : ¬(x.k = 4) := by first | simpa only [vd1, vd2, vd3, vd4, vd5, vd6, vd7, reduceCtorEq, Option.some.injEq, vn_rw, va_rw, isNone_f, isNone_t, vi_cell_I, vi_cell_E0, vi_cell_E1, vi_cell_A0, vi_cell_A1, vi_cell_A2, vb_ite, vi_ite, updD, vi_cell_P0, vs_cell_P1, vi_cell_P2, vs_cell_S, vi_cell_B, seq_b, byD_rw] using c4 | (simp only [vd1, vd2, vd3, vd4, vd5, vd6, vd7, reduceCtorEq, Option.some.injEq, vn_rw, va_rw, isNone_f, isNone_t, vi_cell_I, vi_cell_E0, vi_cell_E1, vi_cell_A0, vi_cell_A1, vi_cell_A2, vb_ite, vi_ite, updD, vi_cell_P0, vs_cell_P1, vi_cell_P2, vs_cell_S, vi_cell_B, seq_b, byD_rw] at c4; grind)
          refine br_wp (fun c5 => ?_) (fun c5 => ?_)
          · replace c5 : x.k = 6 := by first | simpa only [vd1, vd2, vd3, vd4, vd5, vd6, vd7, reduceCtorEq, Option.some.injEq, vn_rw, va_rw, isNone_f, isNone_t, vi_cell_I, vi_cell_E0, vi_cell_E1, vi_cell_A0, vi_cell_A1, vi_cell_A2, vb_ite, vi_ite, updD, vi_cell_P0, vs_cell_P1, vi_cell_P2, vs_cell_S, vi_cell_B, seq_b, byD_rw] using c5 | (simp only [vd1, vd2, vd3, vd4, vd5, vd6, vd7, reduceCtorEq, Option.some.injEq, vn_rw, va_rw, isNone_f, isNone_t, vi_cell_I, vi_cell_E0, vi_cell_E1, vi_cell_A0, vi_cell_A1, vi_cell_A2, vb_ite, vi_ite, updD, vi_cell_P0, vs_cell_P1, vi_cell_P2, vs_cell_S, vi_cell_B, seq_b, byD_rw] at c5; grind)
            refine need_wp (by first | exact ⟨_, _, _, rfl⟩ | (simp only [vd1, vd2, vd3, vd4, vd5, vd6, vd7, reduceCtorEq, Option.some.injEq, vn_rw, va_rw, isNone_f, isNone_t, vi_cell_I, vi_cell_E0, vi_cell_E1, vi_cell_A0, vi_cell_A1, vi_cell_A2, vb_ite, vi_ite, updD, vi_cell_P0, vs_cell_P1, vi_cell_P2, vs_cell_S, vi_cell_B, seq_b, byD_rw]; exact ⟨_, _, _, rfl⟩)) ?_
            refine ret_wp ?_
            refine ⟨(⟨x.k, (⟨#[]⟩ : ByteArray), 0, x.l⟩ : Rep), by first | (simp only [vd1, vd2, vd3, vd4, vd5, vd6, vd7, reduceCtorEq, Option.some.injEq, vn_rw, va_rw, isNone_f, isNone_t, vi_cell_I, vi_cell_E0, vi_cell_E1, vi_cell_A0, vi_cell_A1, vi_cell_A2, vb_ite, vi_ite, updD, vi_cell_P0, vs_cell_P1, vi_cell_P2, vs_cell_S, vi_cell_B, seq_b, byD_rw]; done) | (simp only [vd1, vd2, vd3, vd4, vd5, vd6, vd7, reduceCtorEq, Option.some.injEq, vn_rw, va_rw, isNone_f, isNone_t, vi_cell_I, vi_cell_E0, vi_cell_E1, vi_cell_A0, vi_cell_A1, vi_cell_A2, vb_ite, vi_ite, updD, vi_cell_P0, vs_cell_P1, vi_cell_P2, vs_cell_S, vi_cell_B, seq_b, byD_rw]; rfl), ?_⟩
            try dsimp only
            exact ⟨by rw [plV_6 (x := x.v) c5]; rfl, kl⟩
          · replace c5 : ¬(x.k = 6) := by first | simpa only [vd1, vd2, vd3, vd4, vd5, vd6, vd7, reduceCtorEq, Option.some.injEq, vn_rw, va_rw, isNone_f, isNone_t, vi_cell_I, vi_cell_E0, vi_cell_E1, vi_cell_A0, vi_cell_A1, vi_cell_A2, vb_ite, vi_ite, updD, vi_cell_P0, vs_cell_P1, vi_cell_P2, vs_cell_S, vi_cell_B, seq_b, byD_rw] using c5 | (simp only [vd1, vd2, vd3, vd4, vd5, vd6, vd7, reduceCtorEq, Option.some.injEq, vn_rw, va_rw, isNone_f, isNone_t, vi_cell_I, vi_cell_E0, vi_cell_E1, vi_cell_A0, vi_cell_A1, vi_cell_A2, vb_ite, vi_ite, updD, vi_cell_P0, vs_cell_P1, vi_cell_P2, vs_cell_S, vi_cell_B, seq_b, byD_rw] at c5; grind)
            refine need_wp (by first | exact ⟨_, _, _, rfl⟩ | (simp only [vd1, vd2, vd3, vd4, vd5, vd6, vd7, reduceCtorEq, Option.some.injEq, vn_rw, va_rw, isNone_f, isNone_t, vi_cell_I, vi_cell_E0, vi_cell_E1, vi_cell_A0, vi_cell_A1, vi_cell_A2, vb_ite, vi_ite, updD, vi_cell_P0, vs_cell_P1, vi_cell_P2, vs_cell_S, vi_cell_B, seq_b, byD_rw]; exact ⟨_, _, _, rfl⟩)) ?_
            refine ret_wp ?_
            refine ⟨(⟨5, (⟨#[]⟩ : ByteArray), 0, Rw.nil⟩ : Rep), by first | (simp only [vd1, vd2, vd3, vd4, vd5, vd6, vd7, reduceCtorEq, Option.some.injEq, vn_rw, va_rw, isNone_f, isNone_t, vi_cell_I, vi_cell_E0, vi_cell_E1, vi_cell_A0, vi_cell_A1, vi_cell_A2, vb_ite, vi_ite, updD, vi_cell_P0, vs_cell_P1, vi_cell_P2, vs_cell_S, vi_cell_B, seq_b, byD_rw]; done) | (simp only [vd1, vd2, vd3, vd4, vd5, vd6, vd7, reduceCtorEq, Option.some.injEq, vn_rw, va_rw, isNone_f, isNone_t, vi_cell_I, vi_cell_E0, vi_cell_E1, vi_cell_A0, vi_cell_A1, vi_cell_A2, vb_ite, vi_ite, updD, vi_cell_P0, vs_cell_P1, vi_cell_P2, vs_cell_S, vi_cell_B, seq_b, byD_rw]; rfl), ?_⟩
            try dsimp only
            exact ⟨by rw [plV_5 (x := x.v) c1 c2 c3 c4 c5]; rfl, .inl rfl⟩
end Go.Proofs.YtbcbjgomnhajdaaK
end
