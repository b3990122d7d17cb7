/-  -/
import Derived.Test.YtbcbjgomnhajdaaDoorVRDB0
import Derived.Test.YtbcbjgomnhajdaaDoorVRDC
set_option linter.unusedSimpArgs false
set_option linter.unusedVariables false
section
set_option linter.unusedSimpArgs false
set_option linter.unusedVariables false
set_option linter.unnecessarySimpa false
namespace Go.Proofs.YtbcbjgomnhajdaaDoorK
open Go Go.Proofs.YtbcbjgomnhajdaaDoorV Go.Proofs Go.Proofs.YtbcbjgomnhajdaaDoorK Go.Proofs.YtbcbjgomnhajdaaDoorK
def kBulk (sg : Sig) : Sig × Con := (sg, mkFun (fun x : ByteArray => ([aS x] : List Atom)) (fun s => s.size ≤ 1000000) (fun s => [aS (bulkB s)]))
set_option maxHeartbeats 1000000 in
theorem h43 : holds Tryd.prog (kBulk sg43) := by
 refine fn_holds (l := [kPrint sg42]) ⟨h42, trivial⟩ hP rs43 (inj_of (fun l : List Atom => (vs (l.getD 0 atom0).1 : ByteArray)) (fun _ => rfl)) Tryd.func43 (by kernel_rfl) (c := code Tryd.f43) (by kernel_rfl) (an := an43) (by kernel_rfl) (pk := pk43) rfl (t := t43) (by kernel_rfl) ?_
 rintro s hs
 refine ⟨by simp [pk43, KindsOk, RK.ok, Rw.atom, Sl.atom], ?_⟩
 unfold t43
 have hp : in64 (s.size : Int) := by unfold in64; omega
 have z1 := prt_size hp
 have za : ((⟨#[36]⟩ : ByteArray).size : Int) = 1 := rfl
 have zb : ((⟨#[13, 10]⟩ : ByteArray).size : Int) = 2 := rfl
 refine call_fun ((s.size : Int)) rfl (by first | (simp only [vd, reduceCtorEq, ve, updD]; done) | (simp only [vd, reduceCtorEq, ve, updD]; rfl)) hp ?_
 refine need_wp (need_size (den_cat (den_str _) rfl) (by simp only [size_app]; omega)) ?_
 refine need_wp (need_size (den_cat (den_cat (den_str _) rfl) (den_str _)) (by simp only [size_app]; omega)) ?_
 refine need_wp (need_size (den_cat (den_cat (den_cat (den_str _) rfl) (den_str _)) rfl) (by simp only [size_app]; omega)) ?_
 refine need_wp (need_size (den_cat (den_cat (den_cat (den_cat (den_str _) rfl) (den_str _)) rfl) (den_str _)) (by simp only [size_app]; omega)) ?_
 refine ret_wp ?_
 try dsimp only
 rfl
def kLine (sg : Sig) : Sig × Con := (sg, mkFun (fun x : ByteArray => ([aS x] : List Atom)) (fun s => s.size ≤ 1000000) (fun s => [aS (lineB s)]))
set_option maxHeartbeats 1000000 in
theorem h24 : holds Tryd.prog (kLine sg24) := by
 refine fn_holds (l := []) trivial hP rs24 (inj_of (fun l : List Atom => (vs (l.getD 0 atom0).1 : ByteArray)) (fun _ => rfl)) Tryd.func24 (by kernel_rfl) (c := code Tryd.f24) (by kernel_rfl) (an := an24) (by kernel_rfl) (pk := pk24) rfl (t := t24) (by kernel_rfl) ?_
 rintro s hs
 refine ⟨by simp [pk24, KindsOk, RK.ok, Rw.atom, Sl.atom], ?_⟩
 unfold t24
 refine need_wp (by first | exact ⟨_, _, _, rfl⟩ | (simp only [vd, reduceCtorEq, ve, updD]; exact ⟨_, _, _, rfl⟩)) ?_
 refine loop_wp (fun bs0 => ∃ (i : Int) (r : Rw Int), bs0 = [aI i, Rw.atom eB r] ∧ (0 ≤ i ∧ i ≤ (s.size : Int) ∧ r.l = ((bi s).map li).take i.toNat ∧ r.ok 1)) (fun bs0 => ((s.size : Int) - vi (bs0.getD 0 atom0).1).toNat) ?_ ?_
 ·refine ⟨0, Rw.nil, by first | (simp only [vd, reduceCtorEq, ve, updD]; done) | (simp only [vd, reduceCtorEq, ve, updD]; rfl) | simp only [vd, reduceCtorEq, ve, updD, Rw.atom, Rw.nil, List.length_nil, List.map_nil], ?_⟩
  exact ⟨by omega, by omega, rfl, .inl rfl⟩
 rintro _ _ ⟨i, r, rfl, ⟨i0, i1, hr, kr⟩⟩
 have hn : (r.l.length : Int) = i := by rw [hr]; exact take_len i0 i1
 refine br_wp (fun c1 => ?_) (fun c1 => ?_)
 ·replace c1 : i < (s.size : Int) := by first | simpa only [vd, reduceCtorEq, ve, updD] using c1 | (simp only [vd, reduceCtorEq, ve, updD] at c1; grind)
  have hb := byteAt_is i0 c1
  have w1 : IntKind.i64.wrap (i + 1) = i + 1 := wrap_id _ (by omega) (by omega)
  refine need_wp (by simp only [vd, reduceCtorEq, ve, updD, w1, List.length_cons, List.length_nil, List.length_append, List.length_set]; first | omega | (grind)) ?_
  refine br_wp (fun c2 => ?_) (fun c2 => ?_)
  ·replace c2 : (byteAt s i) = 13 := by first | simpa only [vd, reduceCtorEq, ve, updD, w1] using c2 | (simp only [vd, reduceCtorEq, ve, updD, w1] at c2; grind)
   refine new_wp eB [32] (by first | (simp only [vd, reduceCtorEq, ve, updD, w1, eB]; done) | rfl) ?_
   intro a1 b1
   generalize hx1 : (⟨a1, b1, 1, [32]⟩ : Rw Int) = x1
   have lx1 : x1.l = [32] := by first | (rw [← hx1]; done) | (rw [← hx1]; rfl)
   have zx1 : x1.z = 1 := by rw [← hx1]
   have kx1 : Rw.ok 1 x1 := .inr zx1
   have nx1 : (x1.l.length : Int) = 1 := by first | (rw [← hx1]; done) | (rw [← hx1]; simp [Rw.nil])
   refine need_wp (by first | exact ⟨_, _, _, rfl⟩ | (simp only [vd, reduceCtorEq, ve, updD, w1]; exact ⟨_, _, _, rfl⟩)) ?_
   refine need_wp (by first | exact rw_szz (by assumption) | exact rw_szz (.inr rfl)) ?_
   refine need_wp (by simp only [vd, reduceCtorEq, ve, updD, w1, List.length_cons, List.length_nil, List.length_append, List.length_set]; first | omega | (grind)) ?_
   refine need_wp (by simp only [vd, reduceCtorEq, ve, updD, w1, List.length_cons, List.length_nil, List.length_append, List.length_set]; first | omega | (grind)) ?_
   refine app_wp eB r x1 (by first | rfl | simp only [vd, reduceCtorEq, ve, updD, w1]) (by first | rfl | simp only [vd, reduceCtorEq, ve, updD, w1]) ?_
   intro a2 b2
   generalize hx2 : (⟨a2, b2, 1, r.l ++ x1.l⟩ : Rw Int) = x2
   have lx2 : x2.l = r.l ++ x1.l := by first | (rw [← hx2]; done) | (rw [← hx2]; rfl)
   have zx2 : x2.z = 1 := by rw [← hx2]
   have kx2 : Rw.ok 1 x2 := .inr zx2
   have nx2 : (x2.l.length : Int) = (r.l.length : Int) + (x1.l.length : Int) := by first | (rw [← hx2]; done) | (rw [← hx2]; simp [Rw.nil])
   refine need_wp (by first | exact ⟨_, _, _, rfl⟩ | (simp only [vd, reduceCtorEq, ve, updD, w1]; exact ⟨_, _, _, rfl⟩)) ?_
   refine again_wp rfl ⟨(i + 1), x2, by simp only [vd, reduceCtorEq, ve, updD, w1], ?_⟩ ?_
   ·refine ⟨by omega, by omega, ?_, by assumption⟩; rw [take_li i0 hb, ← hr, lx2, lx1]; rw [li_end (.inl c2)]
   ·(try simp only [vd, reduceCtorEq, ve, updD, w1]); omega
  ·replace c2 : ¬((byteAt s i) = 13) := by first | simpa only [vd, reduceCtorEq, ve, updD, w1] using c2 | (simp only [vd, reduceCtorEq, ve, updD, w1] at c2; grind)
   refine br_wp (fun c3 => ?_) (fun c3 => ?_)
   ·replace c3 : (byteAt s i) = 10 := by first | simpa only [vd, reduceCtorEq, ve, updD, w1] using c3 | (simp only [vd, reduceCtorEq, ve, updD, w1] at c3; grind)
    refine new_wp eB [32] (by first | (simp only [vd, reduceCtorEq, ve, updD, w1, eB]; done) | rfl) ?_
    intro a3 b3
    generalize hx3 : (⟨a3, b3, 1, [32]⟩ : Rw Int) = x3
    have lx3 : x3.l = [32] := by first | (rw [← hx3]; done) | (rw [← hx3]; rfl)
    have zx3 : x3.z = 1 := by rw [← hx3]
    have kx3 : Rw.ok 1 x3 := .inr zx3
    have nx3 : (x3.l.length : Int) = 1 := by first | (rw [← hx3]; done) | (rw [← hx3]; simp [Rw.nil])
    refine need_wp (by first | exact ⟨_, _, _, rfl⟩ | (simp only [vd, reduceCtorEq, ve, updD, w1]; exact ⟨_, _, _, rfl⟩)) ?_
    refine need_wp (by first | exact rw_szz (by assumption) | exact rw_szz (.inr rfl)) ?_
    refine need_wp (by simp only [vd, reduceCtorEq, ve, updD, w1, List.length_cons, List.length_nil, List.length_append, List.length_set]; first | omega | (grind)) ?_
    refine need_wp (by simp only [vd, reduceCtorEq, ve, updD, w1, List.length_cons, List.length_nil, List.length_append, List.length_set]; first | omega | (grind)) ?_
    refine app_wp eB r x3 (by first | rfl | simp only [vd, reduceCtorEq, ve, updD, w1]) (by first | rfl | simp only [vd, reduceCtorEq, ve, updD, w1]) ?_
    intro a4 b4
    generalize hx4 : (⟨a4, b4, 1, r.l ++ x3.l⟩ : Rw Int) = x4
    have lx4 : x4.l = r.l ++ x3.l := by first | (rw [← hx4]; done) | (rw [← hx4]; rfl)
    have zx4 : x4.z = 1 := by rw [← hx4]
    have kx4 : Rw.ok 1 x4 := .inr zx4
    have nx4 : (x4.l.length : Int) = (r.l.length : Int) + (x3.l.length : Int) := by first | (rw [← hx4]; done) | (rw [← hx4]; simp [Rw.nil])
    refine need_wp (by first | exact ⟨_, _, _, rfl⟩ | (simp only [vd, reduceCtorEq, ve, updD, w1]; exact ⟨_, _, _, rfl⟩)) ?_
    refine again_wp rfl ⟨(i + 1), x4, by simp only [vd, reduceCtorEq, ve, updD, w1], ?_⟩ ?_
    ·refine ⟨by omega, by omega, ?_, by assumption⟩; rw [take_li i0 hb, ← hr, lx4, lx3]; rw [li_end (.inr c3)]
    ·(try simp only [vd, reduceCtorEq, ve, updD, w1]); omega
   ·replace c3 : ¬((byteAt s i) = 10) := by first | simpa only [vd, reduceCtorEq, ve, updD, w1] using c3 | (simp only [vd, reduceCtorEq, ve, updD, w1] at c3; grind)
    refine new_wp eB [(byteAt s i)] (by first | (simp only [vd, reduceCtorEq, ve, updD, w1, eB]; done) | rfl) ?_
    intro a5 b5
    generalize hx5 : (⟨a5, b5, 1, [(byteAt s i)]⟩ : Rw Int) = x5
    have lx5 : x5.l = [(byteAt s i)] := by first | (rw [← hx5]; done) | (rw [← hx5]; rfl)
    have zx5 : x5.z = 1 := by rw [← hx5]
    have kx5 : Rw.ok 1 x5 := .inr zx5
    have nx5 : (x5.l.length : Int) = 1 := by first | (rw [← hx5]; done) | (rw [← hx5]; simp [Rw.nil])
    refine need_wp (by first | exact ⟨_, _, _, rfl⟩ | (simp only [vd, reduceCtorEq, ve, updD, w1]; exact ⟨_, _, _, rfl⟩)) ?_
    refine need_wp (by first | exact rw_szz (by assumption) | exact rw_szz (.inr rfl)) ?_
    refine need_wp (by simp only [vd, reduceCtorEq, ve, updD, w1, List.length_cons, List.length_nil, List.length_append, List.length_set]; first | omega | (grind)) ?_
    refine need_wp (by simp only [vd, reduceCtorEq, ve, updD, w1, List.length_cons, List.length_nil, List.length_append, List.length_set]; first | omega | (grind)) ?_
    refine app_wp eB r x5 (by first | rfl | simp only [vd, reduceCtorEq, ve, updD, w1]) (by first | rfl | simp only [vd, reduceCtorEq, ve, updD, w1]) ?_
    intro a6 b6
    generalize hx6 : (⟨a6, b6, 1, r.l ++ x5.l⟩ : Rw Int) = x6
    have lx6 : x6.l = r.l ++ x5.l := by first | (rw [← hx6]; done) | (rw [← hx6]; rfl)
    have zx6 : x6.z = 1 := by rw [← hx6]
    have kx6 : Rw.ok 1 x6 := .inr zx6
    have nx6 : (x6.l.length : Int) = (r.l.length : Int) + (x5.l.length : Int) := by first | (rw [← hx6]; done) | (rw [← hx6]; simp [Rw.nil])
    refine need_wp (by first | exact ⟨_, _, _, rfl⟩ | (simp only [vd, reduceCtorEq, ve, updD, w1]; exact ⟨_, _, _, rfl⟩)) ?_
    refine again_wp rfl ⟨(i + 1), x6, by simp only [vd, reduceCtorEq, ve, updD, w1], ?_⟩ ?_
    ·refine ⟨by omega, by omega, ?_, by assumption⟩; rw [take_li i0 hb, ← hr, lx6, lx5]; rw [li_not c2 c3]
    ·(try simp only [vd, reduceCtorEq, ve, updD, w1]); omega
 ·replace c1 : ¬(i < (s.size : Int)) := by first | simpa only [vd, reduceCtorEq, ve, updD] using c1 | (simp only [vd, reduceCtorEq, ve, updD] at c1; grind)
  have hi : i = s.size := by omega
  have hB : isB r.l := by rw [hr]; exact isB_take (isB_line (isB_bi s)) _
  refine pop_wp ?_
  refine need_wp (by first | exact ⟨_, _, _, rfl⟩ | (simp only [vd, reduceCtorEq, ve, updD]; exact ⟨_, _, _, rfl⟩)) ?_
  refine need_wp (by simp only [vd, reduceCtorEq, ve, updD]; exact need_bytes (by assumption) (by assumption)) ?_
  refine ret_wp ?_
  try dsimp only
  simp only [vd, reduceCtorEq, ve, updD]; rw [hr, hi, Int.toNat_natCast, take_all]; rfl
def kLong (sg : Sig) : Sig × Con := (sg, mkFun (fun x : Rw Rep => ([Rw.atom eP x] : List Atom)) (okR 2000000) (fun r => [aI (lenL (r.l.map Rep.v) : Int)]))
set_option maxHeartbeats 1000000 in
theorem h13 : holds Tryd.prog (kLong sg13) := by
 refine fn_holds (l := []) trivial hP rs13 (inj_of (fun l : List Atom => (Rw.un unP (l.getD 0 atom0) : Rw Rep)) (fun _ => by simp [List.getD_cons_zero, List.getD_cons_succ, unA_atom, unF_at])) Tryd.func13 (by kernel_rfl) (c := code Tryd.f13) (by kernel_rfl) (an := an13) (by kernel_rfl) (pk := pk13) rfl (t := t13) (by kernel_rfl) ?_
 rintro r hr
 refine ⟨by simp [pk13, KindsOk, RK.ok, Rw.atom, Sl.atom], ?_⟩
 unfold t13
 have k4 : r.ok 4 := hr.1
 have hM := hr.2.2
 refine loop_wp (fun bs0 => ∃ (i : Int) (n : Int), bs0 = [aI i, aI n] ∧ (0 ≤ i ∧ i ≤ (r.l.length : Int) ∧ n = (lenL ((r.l.take i.toNat).map Rep.v) : Int))) (fun bs0 => ((r.l.length : Int) - vi (bs0.getD 0 atom0).1).toNat) ?_ ?_
 ·refine ⟨0, 0, by first | (simp only [vd, reduceCtorEq, ve, updD]; done) | (simp only [vd, reduceCtorEq, ve, updD]; rfl) | simp only [vd, reduceCtorEq, ve, updD, Rw.atom, Rw.nil, List.length_nil, List.map_nil], ?_⟩
  exact ⟨by omega, by omega, rfl⟩
 rintro _ _ ⟨i, n, rfl, ⟨i0, i1, hn⟩⟩
 have hL : (r.l.length : Int) ≤ 2000000 := by have := lenL_len (r.l.map Rep.v); rw [List.length_map] at this; omega
 refine need_wp (by first | exact ⟨_, _, _, rfl⟩ | (simp only [vd, reduceCtorEq, ve, updD]; exact ⟨_, _, _, rfl⟩)) ?_
 refine br_wp (fun c1 => ?_) (fun c1 => ?_)
 ·replace c1 : i < (r.l.length : Int) := by first | simpa only [vd, reduceCtorEq, ve, updD] using c1 | (simp only [vd, reduceCtorEq, ve, updD] at c1; grind)
  have hc3 := cell_P3 r i0 c1
  have kg := okR_ok hr i0 c1
  have w1 : IntKind.i64.wrap (i + 1) = i + 1 := wrap_id _ (by omega) (by omega)
  have hv := lenL_v i0 c1
  have ht2 : lenL ((r.l.take (i + 1).toNat).map Rep.v) ≤ 2000000 := by rw [List.map_take]; exact Nat.le_trans (lenL_take _ _) hM
  have hs2 := lenS_len (r.get i).l.l
  have wa : IntKind.i64.wrap (n + 1) = n + 1 := wrap_id _ (by omega) (by omega)
  have wb : IntKind.i64.wrap (n + 1 + (((r.get i).t).size : Int)) = n + 1 + (((r.get i).t).size : Int) := wrap_id _ (by omega) (by omega)
  refine need_wp (by first | exact ⟨_, _, _, rfl⟩ | (simp only [vd, reduceCtorEq, ve, updD, hc3, w1, wa, wb]; exact ⟨_, _, _, rfl⟩)) ?_
  refine need_wp (by first | exact rw_row _ _ | (simp only [vd, reduceCtorEq, ve, updD, hc3, w1, wa, wb]; exact ⟨_, _, rfl⟩)) ?_
  refine need_wp (by simp only [vd, reduceCtorEq, ve, updD, hc3, w1, wa, wb, List.length_cons, List.length_nil, List.length_append, List.length_set]; first | omega | (grind)) ?_
  refine need_wp (by first | exact ⟨_, _, _, rfl⟩ | (simp only [vd, reduceCtorEq, ve, updD, hc3, w1, wa, wb]; exact ⟨_, _, _, rfl⟩)) ?_
  refine need_wp (by first | exact rw_row _ _ | (simp only [vd, reduceCtorEq, ve, updD, hc3, w1, wa, wb]; exact ⟨_, _, rfl⟩)) ?_
  refine need_wp (by first | exact ⟨_, _, _, rfl⟩ | (simp only [vd, reduceCtorEq, ve, updD, hc3, w1, wa, wb]; exact ⟨_, _, _, rfl⟩)) ?_
  refine need_wp (by first | exact rw_row _ _ | (simp only [vd, reduceCtorEq, ve, updD, hc3, w1, wa, wb]; exact ⟨_, _, rfl⟩)) ?_
  refine need_wp (by first | exact rw_sz' rfl | exact rw_szn (by assumption) (.inr (by omega)) | (simp only [vd, reduceCtorEq, ve, updD, hc3, w1, wa, wb]; exact rw_szn (by assumption) (.inr (by omega))) | exact rw_szn (by simp [Rw.ok]) (.inr (by omega))) ?_
  refine need_wp (by simp only [vd, reduceCtorEq, ve, updD, hc3, w1, wa, wb]; exact kind_Rp1 (by omega) (by omega)) ?_
  refine loop_wp (fun bs0 => ∃ (j : Int) (m : Int), bs0 = [aI j, aI m] ∧ (0 ≤ j ∧ j ≤ ((r.get i).l.l.length : Int) ∧ m = n + 1 + (((r.get i).t).size : Int) + (lenS ((r.get i).l.l.take j.toNat) : Int))) (fun bs0 => (((r.get i).l.l.length : Int) - vi (bs0.getD 0 atom0).1).toNat) ?_ ?_
  ·refine ⟨0, ((n + 1) + (((r.get i).t).size : Int)), by first | (simp only [vd, reduceCtorEq, ve, updD, hc3, w1, wa, wb]; done) | (simp only [vd, reduceCtorEq, ve, updD, hc3, w1, wa, wb]; rfl) | simp only [vd, reduceCtorEq, ve, updD, hc3, w1, wa, wb, Rw.atom, Rw.nil, List.length_nil, List.map_nil], ?_⟩
   exact ⟨by omega, by omega, by simp [lenS]⟩
  rintro _ _ ⟨j, m, rfl, ⟨j0, j1, hm⟩⟩
  refine need_wp (by first | exact ⟨_, _, _, rfl⟩ | (simp only [vd, reduceCtorEq, ve, updD, hc3, w1, wa, wb]; exact ⟨_, _, _, rfl⟩)) ?_
  refine need_wp (by first | exact rw_row _ _ | (simp only [vd, reduceCtorEq, ve, updD, hc3, w1, wa, wb]; exact ⟨_, _, rfl⟩)) ?_
  refine need_wp (by first | exact ⟨_, _, _, rfl⟩ | (simp only [vd, reduceCtorEq, ve, updD, hc3, w1, wa, wb]; exact ⟨_, _, _, rfl⟩)) ?_
  refine need_wp (by first | exact rw_row _ _ | (simp only [vd, reduceCtorEq, ve, updD, hc3, w1, wa, wb]; exact ⟨_, _, rfl⟩)) ?_
  refine need_wp (by first | exact ⟨_, _, _, rfl⟩ | (simp only [vd, reduceCtorEq, ve, updD, hc3, w1, wa, wb]; exact ⟨_, _, _, rfl⟩)) ?_
  refine need_wp (by first | exact rw_row _ _ | (simp only [vd, reduceCtorEq, ve, updD, hc3, w1, wa, wb]; exact ⟨_, _, rfl⟩)) ?_
  refine need_wp (by first | exact rw_sz' rfl | exact rw_szn (by assumption) (.inr (by omega)) | (simp only [vd, reduceCtorEq, ve, updD, hc3, w1, wa, wb]; exact rw_szn (by assumption) (.inr (by omega))) | exact rw_szn (by simp [Rw.ok]) (.inr (by omega))) ?_
  refine need_wp (by simp only [vd, reduceCtorEq, ve, updD, hc3, w1, wa, wb]; first | exact ⟨_, _, _, rfl⟩ | exact kind_Rp3 (by omega) (by omega)) ?_
  refine need_wp (by simp only [vd, reduceCtorEq, ve, updD, hc3, w1, wa, wb]; first | exact ⟨_, _, _, rfl⟩ | exact kind_Rp3 (by omega) (by omega)) ?_
  refine br_wp (fun c2 => ?_) (fun c2 => ?_)
  ·replace c2 : j < (((r.get i).l).l.length : Int) := by first | simpa only [vd, reduceCtorEq, ve, updD, hc3, w1, wa, wb] using c2 | (simp only [vd, reduceCtorEq, ve, updD, hc3, w1, wa, wb] at c2; grind)
   have hs := take_s j0 c2
   have hs3 := lenS_take (r.get i).l.l (j + 1).toNat
   have wc : IntKind.i64.wrap (m + 1) = m + 1 := wrap_id _ (by omega) (by omega)
   have wd : IntKind.i64.wrap (m + 1 + ((((r.get i).l).get j).size : Int)) = m + 1 + ((((r.get i).l).get j).size : Int) := wrap_id _ (by omega) (by omega)
   have w5 : IntKind.i64.wrap (j + 1) = j + 1 := wrap_id _ (by omega) (by omega)
   refine need_wp (by first | exact ⟨_, _, _, rfl⟩ | (simp only [vd, reduceCtorEq, ve, updD, hc3, w1, wa, wb, wc, wd, w5]; exact ⟨_, _, _, rfl⟩)) ?_
   refine need_wp (by first | exact rw_row _ _ | (simp only [vd, reduceCtorEq, ve, updD, hc3, w1, wa, wb, wc, wd, w5]; exact ⟨_, _, rfl⟩)) ?_
   refine need_wp (by first | exact ⟨_, _, _, rfl⟩ | (simp only [vd, reduceCtorEq, ve, updD, hc3, w1, wa, wb, wc, wd, w5]; exact ⟨_, _, _, rfl⟩)) ?_
   refine need_wp (by first | exact rw_row _ _ | (simp only [vd, reduceCtorEq, ve, updD, hc3, w1, wa, wb, wc, wd, w5]; exact ⟨_, _, rfl⟩)) ?_
   refine need_wp (by first | exact ⟨_, _, _, rfl⟩ | (simp only [vd, reduceCtorEq, ve, updD, hc3, w1, wa, wb, wc, wd, w5]; exact ⟨_, _, _, rfl⟩)) ?_
   refine need_wp (by first | exact rw_row _ _ | (simp only [vd, reduceCtorEq, ve, updD, hc3, w1, wa, wb, wc, wd, w5]; exact ⟨_, _, rfl⟩)) ?_
   refine need_wp (by first | exact rw_sz' rfl | exact rw_szn (by assumption) (.inr (by omega)) | (simp only [vd, reduceCtorEq, ve, updD, hc3, w1, wa, wb, wc, wd, w5]; exact rw_szn (by assumption) (.inr (by omega))) | exact rw_szn (by simp [Rw.ok]) (.inr (by omega))) ?_
   refine need_wp (by simp only [vd, reduceCtorEq, ve, updD, hc3, w1, wa, wb, wc, wd, w5]; first | exact ⟨_, _, _, rfl⟩ | exact kind_Rp3 (by omega) (by omega)) ?_
   refine need_wp (by simp only [vd, reduceCtorEq, ve, updD, hc3, w1, wa, wb, wc, wd, w5]; first | exact ⟨_, _, _, rfl⟩ | exact kind_Rp3 (by omega) (by omega)) ?_
   refine need_wp (by first | exact rw_row _ _ | (simp only [vd, reduceCtorEq, ve, updD, hc3, w1, wa, wb, wc, wd, w5]; exact ⟨_, _, rfl⟩)) ?_
   refine need_wp (by simp only [vd, reduceCtorEq, ve, updD, hc3, w1, wa, wb, wc, wd, w5, List.length_cons, List.length_nil, List.length_append, List.length_set]; first | omega | (grind)) ?_
   refine need_wp (by simp only [vd, reduceCtorEq, ve, updD, hc3, w1, wa, wb, wc, wd, w5]; first | exact ⟨_, _, _, rfl⟩ | exact kind_Rp3 (by omega) (by omega)) ?_
   refine need_wp (by first | exact rw_row _ _ | (simp only [vd, reduceCtorEq, ve, updD, hc3, w1, wa, wb, wc, wd, w5]; exact ⟨_, _, rfl⟩)) ?_
   refine need_wp (by first | exact rw_sz' rfl | exact rw_szn (by assumption) (.inr (by omega)) | (simp only [vd, reduceCtorEq, ve, updD, hc3, w1, wa, wb, wc, wd, w5]; exact rw_szn (by assumption) (.inr (by omega))) | exact rw_szn (by simp [Rw.ok]) (.inr (by omega))) ?_
   refine need_wp (by simp only [vd, reduceCtorEq, ve, updD, hc3, w1, wa, wb, wc, wd, w5]; exact kind_Rs (by omega) (by omega)) ?_
   refine again_wp rfl ⟨(j + 1), ((m + 1) + ((((r.get i).l).get j).size : Int)), by simp only [vd, reduceCtorEq, ve, updD, hc3, w1, wa, wb, wc, wd, w5], ?_⟩ ?_
   ·refine ⟨by omega, by omega, ?_⟩; rw [hs, hm]; omega
   ·(try simp only [vd, reduceCtorEq, ve, updD, hc3, w1, wa, wb, wc, wd, w5]); omega
  ·replace c2 : ¬(j < (((r.get i).l).l.length : Int)) := by first | simpa only [vd, reduceCtorEq, ve, updD, hc3, w1, wa, wb] using c2 | (simp only [vd, reduceCtorEq, ve, updD, hc3, w1, wa, wb] at c2; grind)
   have hj : j = (r.get i).l.l.length := by omega
   rw [hj, Int.toNat_natCast, List.take_length] at hm
   refine pop_wp ?_
   refine again_wp rfl ⟨(i + 1), m, by simp only [vd, reduceCtorEq, ve, updD, hc3, w1, wa, wb], ?_⟩ ?_
   ·refine ⟨by omega, by omega, ?_⟩; rw [hv, hm]; omega
   ·(try simp only [vd, reduceCtorEq, ve, updD, hc3, w1, wa, wb]); omega
 ·replace c1 : ¬(i < (r.l.length : Int)) := by first | simpa only [vd, reduceCtorEq, ve, updD] using c1 | (simp only [vd, reduceCtorEq, ve, updD] at c1; grind)
  have hi : i = r.l.length := by omega
  refine pop_wp ?_
  refine ret_wp ?_
  try dsimp only
  simp only [vd, reduceCtorEq, ve, updD]; rw [hn, hi, Int.toNat_natCast, List.take_length]
def kSame (sg : Sig) : Sig × Con := (sg, mkFun (fun x : Rep × Rep => ([aI x.1.k, aS x.1.t, aI x.1.n, Rw.atom eS x.1.l, aI x.2.k, aS x.2.t, aI x.2.n, Rw.atom eS x.2.l] : List Atom)) (fun x => x.1.l.ok 1 ∧ x.2.l.ok 1 ∧ x.1.l.l.length ≤ 140737488355328) (fun x => [aB (decide (x.1.v = x.2.v))]))
set_option maxHeartbeats 1000000 in
theorem h12 : holds Tryd.prog (kSame sg12) := by
 refine fn_holds (l := []) trivial hP rs12 (inj_of (fun l : List Atom => (((⟨vi (l.getD 0 atom0).1, vs (l.getD 1 atom0).1, vi (l.getD 2 atom0).1, Rw.un unS (l.getD 3 atom0)⟩ : Rep), (⟨vi (l.getD 4 atom0).1, vs (l.getD 5 atom0).1, vi (l.getD 6 atom0).1, Rw.un unS (l.getD 7 atom0)⟩ : Rep)) : Rep × Rep)) (fun _ => by simp [List.getD_cons_zero, List.getD_cons_succ, unA_atom, unF_at])) Tryd.func12 (by kernel_rfl) (c := code Tryd.f12) (by kernel_rfl) (an := an12) (by kernel_rfl) (pk := pk12) rfl (t := t12) (by kernel_rfl) ?_
 rintro ⟨x, y⟩ ⟨kx, ky, hl⟩
 refine ⟨by simp [pk12, KindsOk, RK.ok, Rw.atom, Sl.atom], ?_⟩
 unfold t12
 dsimp only at kx ky hl
 refine br_wp (fun c1 => ?_) (fun c1 => ?_)
 ·replace c1 : x.k ≠ y.k := by first | simpa only [vd, reduceCtorEq, ve, updD] using c1 | (simp only [vd, reduceCtorEq, ve, updD] at c1; grind)
  refine ret_wp ?_
  try dsimp only
  simp only [vd, reduceCtorEq, ve, updD]; exact (decide_eq_false (fun h => c1 (congrArg RV.k h))).symm
 ·replace c1 : ¬(x.k ≠ y.k) := by first | simpa only [vd, reduceCtorEq, ve, updD] using c1 | (simp only [vd, reduceCtorEq, ve, updD] at c1; grind)
  refine br_wp (fun c2 => ?_) (fun c2 => ?_)
  ·replace c2 : x.t = y.t := by first | simpa only [vd, reduceCtorEq, ve, updD] using c2 | (simp only [vd, reduceCtorEq, ve, updD] at c2; grind)
   refine br_wp (fun c3 => ?_) (fun c3 => ?_)
   ·replace c3 : x.n ≠ y.n := by first | simpa only [vd, reduceCtorEq, ve, updD] using c3 | (simp only [vd, reduceCtorEq, ve, updD] at c3; grind)
    refine ret_wp ?_
    try dsimp only
    simp only [vd, reduceCtorEq, ve, updD]; exact (decide_eq_false (fun h => c3 (congrArg RV.n h))).symm
   ·replace c3 : ¬(x.n ≠ y.n) := by first | simpa only [vd, reduceCtorEq, ve, updD] using c3 | (simp only [vd, reduceCtorEq, ve, updD] at c3; grind)
    refine need_wp (by first | exact ⟨_, _, _, rfl⟩ | (simp only [vd, reduceCtorEq, ve, updD]; exact ⟨_, _, _, rfl⟩)) ?_
    refine need_wp (by first | exact ⟨_, _, _, rfl⟩ | (simp only [vd, reduceCtorEq, ve, updD]; exact ⟨_, _, _, rfl⟩)) ?_
    refine br_wp (fun c4 => ?_) (fun c4 => ?_)
    ·replace c4 : (x.l.l.length : Int) ≠ (y.l.l.length : Int) := by first | simpa only [vd, reduceCtorEq, ve, updD] using c4 | (simp only [vd, reduceCtorEq, ve, updD] at c4; grind)
     refine ret_wp ?_
     try dsimp only
     simp only [vd, reduceCtorEq, ve, updD]; exact (decide_eq_false (fun h => c4 (by have := congrArg (fun v : RV => (v.l.length : Int)) h; exact this))).symm
    ·replace c4 : ¬((x.l.l.length : Int) ≠ (y.l.l.length : Int)) := by first | simpa only [vd, reduceCtorEq, ve, updD] using c4 | (simp only [vd, reduceCtorEq, ve, updD] at c4; grind)
     refine loop_wp (fun bs0 => ∃ (i : Int), bs0 = [aI i] ∧ (0 ≤ i ∧ i ≤ (x.l.l.length : Int) ∧ x.l.l.take i.toNat = y.l.l.take i.toNat)) (fun bs0 => ((x.l.l.length : Int) - vi (bs0.getD 0 atom0).1).toNat) ?_ ?_
     ·refine ⟨0, by first | (simp only [vd, reduceCtorEq, ve, updD]; done) | (simp only [vd, reduceCtorEq, ve, updD]; rfl) | simp only [vd, reduceCtorEq, ve, updD, Rw.atom, Rw.nil, List.length_nil, List.map_nil], ?_⟩
      exact ⟨by omega, by omega, by simp⟩
     rintro _ _ ⟨i, rfl, ⟨i0, i1, hE⟩⟩
     refine need_wp (by first | exact ⟨_, _, _, rfl⟩ | (simp only [vd, reduceCtorEq, ve, updD]; exact ⟨_, _, _, rfl⟩)) ?_
     refine br_wp (fun c5 => ?_) (fun c5 => ?_)
     ·replace c5 : i < (x.l.l.length : Int) := by first | simpa only [vd, reduceCtorEq, ve, updD] using c5 | (simp only [vd, reduceCtorEq, ve, updD] at c5; grind)
      have w1 : IntKind.i64.wrap (i + 1) = i + 1 := wrap_id _ (by omega) (by omega)
      refine need_wp (by first | exact ⟨_, _, _, rfl⟩ | (simp only [vd, reduceCtorEq, ve, updD, w1]; exact ⟨_, _, _, rfl⟩)) ?_
      refine need_wp (by first | exact rw_row _ _ | (simp only [vd, reduceCtorEq, ve, updD, w1]; exact ⟨_, _, rfl⟩)) ?_
      refine need_wp (by simp only [vd, reduceCtorEq, ve, updD, w1, List.length_cons, List.length_nil, List.length_append, List.length_set]; first | omega | (grind)) ?_
      refine need_wp (by first | exact ⟨_, _, _, rfl⟩ | (simp only [vd, reduceCtorEq, ve, updD, w1]; exact ⟨_, _, _, rfl⟩)) ?_
      refine need_wp (by first | exact rw_row _ _ | (simp only [vd, reduceCtorEq, ve, updD, w1]; exact ⟨_, _, rfl⟩)) ?_
      refine need_wp (by first | exact rw_sz' rfl | exact rw_szn (by assumption) (.inr (by omega)) | (simp only [vd, reduceCtorEq, ve, updD, w1]; exact rw_szn (by assumption) (.inr (by omega))) | exact rw_szn (by simp [Rw.ok]) (.inr (by omega))) ?_
      refine need_wp (by simp only [vd, reduceCtorEq, ve, updD, w1]; exact kind_Rs (by omega) (by omega)) ?_
      refine need_wp (by first | exact ⟨_, _, _, rfl⟩ | (simp only [vd, reduceCtorEq, ve, updD, w1]; exact ⟨_, _, _, rfl⟩)) ?_
      refine need_wp (by first | exact rw_row _ _ | (simp only [vd, reduceCtorEq, ve, updD, w1]; exact ⟨_, _, rfl⟩)) ?_
      refine need_wp (by simp only [vd, reduceCtorEq, ve, updD, w1, List.length_cons, List.length_nil, List.length_append, List.length_set]; first | omega | (grind)) ?_
      refine need_wp (by first | exact ⟨_, _, _, rfl⟩ | (simp only [vd, reduceCtorEq, ve, updD, w1]; exact ⟨_, _, _, rfl⟩)) ?_
      refine need_wp (by first | exact rw_row _ _ | (simp only [vd, reduceCtorEq, ve, updD, w1]; exact ⟨_, _, rfl⟩)) ?_
      refine need_wp (by first | exact rw_sz' rfl | exact rw_szn (by assumption) (.inr (by omega)) | (simp only [vd, reduceCtorEq, ve, updD, w1]; exact rw_szn (by assumption) (.inr (by omega))) | exact rw_szn (by simp [Rw.ok]) (.inr (by omega))) ?_
      refine need_wp (by simp only [vd, reduceCtorEq, ve, updD, w1]; exact kind_Rs (by omega) (by omega)) ?_
      refine br_wp (fun c6 => ?_) (fun c6 => ?_)
      ·replace c6 : (x.l.get i) = (y.l.get i) := by first | simpa only [vd, reduceCtorEq, ve, updD, w1] using c6 | (simp only [vd, reduceCtorEq, ve, updD, w1] at c6; grind)
       refine again_wp rfl ⟨(i + 1), by simp only [vd, reduceCtorEq, ve, updD, w1], ?_⟩ ?_
       ·refine ⟨by omega, by omega, ?_⟩; exact take_eq i0 (by omega) (by omega) hE c6
       ·(try simp only [vd, reduceCtorEq, ve, updD, w1]); omega
      ·replace c6 : ¬((x.l.get i) = (y.l.get i)) := by first | simpa only [vd, reduceCtorEq, ve, updD, w1] using c6 | (simp only [vd, reduceCtorEq, ve, updD, w1] at c6; grind)
       refine pop_wp ?_
       refine ret_wp ?_
       try dsimp only
       simp only [vd, reduceCtorEq, ve, updD, w1]; exact (decide_eq_false (fun h => c6 (by have := congrArg RV.l h; unfold Rw.get; rw [show x.l.l = y.l.l from this]))).symm
     ·replace c5 : ¬(i < (x.l.l.length : Int)) := by first | simpa only [vd, reduceCtorEq, ve, updD] using c5 | (simp only [vd, reduceCtorEq, ve, updD] at c5; grind)
      refine pop_wp ?_
      refine ret_wp ?_
      try dsimp only
      simp only [vd, reduceCtorEq, ve, updD]; exact (decide_eq_true (same_v (by omega) c2 (by omega) (by omega) hE (by omega))).symm
  ·replace c2 : ¬(x.t = y.t) := by first | simpa only [vd, reduceCtorEq, ve, updD] using c2 | (simp only [vd, reduceCtorEq, ve, updD] at c2; grind)
   refine ret_wp ?_
   try dsimp only
   simp only [vd, reduceCtorEq, ve, updD]; exact (decide_eq_false (fun h => c2 (congrArg RV.t h))).symm
set_option maxHeartbeats 1000000 in
theorem h21 : holds Tryd.prog (kSame sg21) := by
 refine fn_holds (l := []) trivial hP rs21 (inj_of (fun l : List Atom => (((⟨vi (l.getD 0 atom0).1, vs (l.getD 1 atom0).1, vi (l.getD 2 atom0).1, Rw.un unS (l.getD 3 atom0)⟩ : Rep), (⟨vi (l.getD 4 atom0).1, vs (l.getD 5 atom0).1, vi (l.getD 6 atom0).1, Rw.un unS (l.getD 7 atom0)⟩ : Rep)) : Rep × Rep)) (fun _ => by simp [List.getD_cons_zero, List.getD_cons_succ, unA_atom, unF_at])) Tryd.func21 (by kernel_rfl) (c := code Tryd.f21) (by kernel_rfl) (an := an21) (by kernel_rfl) (pk := pk21) rfl (t := t21) (by kernel_rfl) ?_
 rintro ⟨x, y⟩ ⟨kx, ky, hl⟩
 refine ⟨by simp [pk21, KindsOk, RK.ok, Rw.atom, Sl.atom], ?_⟩
 unfold t21
 dsimp only at kx ky hl
 refine br_wp (fun c1 => ?_) (fun c1 => ?_)
 ·replace c1 : x.k ≠ y.k := by first | simpa only [vd, reduceCtorEq, ve, updD] using c1 | (simp only [vd, reduceCtorEq, ve, updD] at c1; grind)
  refine ret_wp ?_
  try dsimp only
  simp only [vd, reduceCtorEq, ve, updD]; exact (decide_eq_false (fun h => c1 (congrArg RV.k h))).symm
 ·replace c1 : ¬(x.k ≠ y.k) := by first | simpa only [vd, reduceCtorEq, ve, updD] using c1 | (simp only [vd, reduceCtorEq, ve, updD] at c1; grind)
  refine br_wp (fun c2 => ?_) (fun c2 => ?_)
  ·replace c2 : x.t = y.t := by first | simpa only [vd, reduceCtorEq, ve, updD] using c2 | (simp only [vd, reduceCtorEq, ve, updD] at c2; grind)
   refine br_wp (fun c3 => ?_) (fun c3 => ?_)
   ·replace c3 : x.n ≠ y.n := by first | simpa only [vd, reduceCtorEq, ve, updD] using c3 | (simp only [vd, reduceCtorEq, ve, updD] at c3; grind)
    refine ret_wp ?_
    try dsimp only
    simp only [vd, reduceCtorEq, ve, updD]; exact (decide_eq_false (fun h => c3 (congrArg RV.n h))).symm
   ·replace c3 : ¬(x.n ≠ y.n) := by first | simpa only [vd, reduceCtorEq, ve, updD] using c3 | (simp only [vd, reduceCtorEq, ve, updD] at c3; grind)
    refine need_wp (by first | exact ⟨_, _, _, rfl⟩ | (simp only [vd, reduceCtorEq, ve, updD]; exact ⟨_, _, _, rfl⟩)) ?_
    refine need_wp (by first | exact ⟨_, _, _, rfl⟩ | (simp only [vd, reduceCtorEq, ve, updD]; exact ⟨_, _, _, rfl⟩)) ?_
    refine br_wp (fun c4 => ?_) (fun c4 => ?_)
    ·replace c4 : (x.l.l.length : Int) ≠ (y.l.l.length : Int) := by first | simpa only [vd, reduceCtorEq, ve, updD] using c4 | (simp only [vd, reduceCtorEq, ve, updD] at c4; grind)
     refine ret_wp ?_
     try dsimp only
     simp only [vd, reduceCtorEq, ve, updD]; exact (decide_eq_false (fun h => c4 (by have := congrArg (fun v : RV => (v.l.length : Int)) h; exact this))).symm
    ·replace c4 : ¬((x.l.l.length : Int) ≠ (y.l.l.length : Int)) := by first | simpa only [vd, reduceCtorEq, ve, updD] using c4 | (simp only [vd, reduceCtorEq, ve, updD] at c4; grind)
     refine need_wp (by first | exact ⟨_, _, _, rfl⟩ | (simp only [vd, reduceCtorEq, ve, updD]; exact ⟨_, _, _, rfl⟩)) ?_
     refine loop_wp (fun bs0 => ∃ (i : Int), bs0 = [aI i] ∧ (0 ≤ i ∧ i ≤ (x.l.l.length : Int) ∧ x.l.l.take i.toNat = y.l.l.take i.toNat)) (fun bs0 => ((x.l.l.length : Int) - vi (bs0.getD 0 atom0).1).toNat) ?_ ?_
     ·refine ⟨0, by first | (simp only [vd, reduceCtorEq, ve, updD]; done) | (simp only [vd, reduceCtorEq, ve, updD]; rfl) | simp only [vd, reduceCtorEq, ve, updD, Rw.atom, Rw.nil, List.length_nil, List.map_nil], ?_⟩
      exact ⟨by omega, by omega, by simp⟩
     rintro _ _ ⟨i, rfl, ⟨i0, i1, hE⟩⟩
     refine br_wp (fun c5 => ?_) (fun c5 => ?_)
     ·replace c5 : i < (x.l.l.length : Int) := by first | simpa only [vd, reduceCtorEq, ve, updD] using c5 | (simp only [vd, reduceCtorEq, ve, updD] at c5; grind)
      have w1 : IntKind.i64.wrap (i + 1) = i + 1 := wrap_id _ (by omega) (by omega)
      refine need_wp (by first | exact ⟨_, _, _, rfl⟩ | (simp only [vd, reduceCtorEq, ve, updD, w1]; exact ⟨_, _, _, rfl⟩)) ?_
      refine need_wp (by first | exact rw_row _ _ | (simp only [vd, reduceCtorEq, ve, updD, w1]; exact ⟨_, _, rfl⟩)) ?_
      refine need_wp (by simp only [vd, reduceCtorEq, ve, updD, w1, List.length_cons, List.length_nil, List.length_append, List.length_set]; first | omega | (grind)) ?_
      refine need_wp (by first | exact ⟨_, _, _, rfl⟩ | (simp only [vd, reduceCtorEq, ve, updD, w1]; exact ⟨_, _, _, rfl⟩)) ?_
      refine need_wp (by first | exact rw_row _ _ | (simp only [vd, reduceCtorEq, ve, updD, w1]; exact ⟨_, _, rfl⟩)) ?_
      refine need_wp (by first | exact rw_sz' rfl | exact rw_szn (by assumption) (.inr (by omega)) | (simp only [vd, reduceCtorEq, ve, updD, w1]; exact rw_szn (by assumption) (.inr (by omega))) | exact rw_szn (by simp [Rw.ok]) (.inr (by omega))) ?_
      refine need_wp (by simp only [vd, reduceCtorEq, ve, updD, w1]; exact kind_Rs (by omega) (by omega)) ?_
      refine need_wp (by first | exact ⟨_, _, _, rfl⟩ | (simp only [vd, reduceCtorEq, ve, updD, w1]; exact ⟨_, _, _, rfl⟩)) ?_
      refine need_wp (by first | exact rw_row _ _ | (simp only [vd, reduceCtorEq, ve, updD, w1]; exact ⟨_, _, rfl⟩)) ?_
      refine need_wp (by simp only [vd, reduceCtorEq, ve, updD, w1, List.length_cons, List.length_nil, List.length_append, List.length_set]; first | omega | (grind)) ?_
      refine need_wp (by first | exact ⟨_, _, _, rfl⟩ | (simp only [vd, reduceCtorEq, ve, updD, w1]; exact ⟨_, _, _, rfl⟩)) ?_
      refine need_wp (by first | exact rw_row _ _ | (simp only [vd, reduceCtorEq, ve, updD, w1]; exact ⟨_, _, rfl⟩)) ?_
      refine need_wp (by first | exact rw_sz' rfl | exact rw_szn (by assumption) (.inr (by omega)) | (simp only [vd, reduceCtorEq, ve, updD, w1]; exact rw_szn (by assumption) (.inr (by omega))) | exact rw_szn (by simp [Rw.ok]) (.inr (by omega))) ?_
      refine need_wp (by simp only [vd, reduceCtorEq, ve, updD, w1]; exact kind_Rs (by omega) (by omega)) ?_
      refine br_wp (fun c6 => ?_) (fun c6 => ?_)
      ·replace c6 : (x.l.get i) = (y.l.get i) := by first | simpa only [vd, reduceCtorEq, ve, updD, w1] using c6 | (simp only [vd, reduceCtorEq, ve, updD, w1] at c6; grind)
       refine again_wp rfl ⟨(i + 1), by simp only [vd, reduceCtorEq, ve, updD, w1], ?_⟩ ?_
       ·refine ⟨by omega, by omega, ?_⟩; exact take_eq i0 (by omega) (by omega) hE c6
       ·(try simp only [vd, reduceCtorEq, ve, updD, w1]); omega
      ·replace c6 : ¬((x.l.get i) = (y.l.get i)) := by first | simpa only [vd, reduceCtorEq, ve, updD, w1] using c6 | (simp only [vd, reduceCtorEq, ve, updD, w1] at c6; grind)
       refine pop_wp ?_
       refine ret_wp ?_
       try dsimp only
       simp only [vd, reduceCtorEq, ve, updD, w1]; exact (decide_eq_false (fun h => c6 (by have := congrArg RV.l h; unfold Rw.get; rw [show x.l.l = y.l.l from this]))).symm
     ·replace c5 : ¬(i < (x.l.l.length : Int)) := by first | simpa only [vd, reduceCtorEq, ve, updD] using c5 | (simp only [vd, reduceCtorEq, ve, updD] at c5; grind)
      refine pop_wp ?_
      refine ret_wp ?_
      try dsimp only
      simp only [vd, reduceCtorEq, ve, updD]; exact (decide_eq_true (same_v (by omega) c2 (by omega) (by omega) hE (by omega))).symm
  ·replace c2 : ¬(x.t = y.t) := by first | simpa only [vd, reduceCtorEq, ve, updD] using c2 | (simp only [vd, reduceCtorEq, ve, updD] at c2; grind)
   refine ret_wp ?_
   try dsimp only
   simp only [vd, reduceCtorEq, ve, updD]; exact (decide_eq_false (fun h => c2 (congrArg RV.t h))).symm
end Go.Proofs.YtbcbjgomnhajdaaDoorK
end

section
set_option linter.unusedSimpArgs false
set_option linter.unusedVariables false
set_option linter.unnecessarySimpa false
namespace Go.Proofs.YtbcbjgomnhajdaaDoorK
open Go Go.Proofs.YtbcbjgomnhajdaaDoorV Go.Proofs Go.Proofs.YtbcbjgomnhajdaaDoorK Go.Proofs.YtbcbjgomnhajdaaDoorK
def kPl (sg : Sig) : Sig × Con := (sg, mkRel (fun x : Rep => ([aI x.k, aS x.t, aI x.n, Rw.atom eS x.l] : List Atom)) okP (fun x : Rep => ([aI x.k, aS x.t, aI x.n, Rw.atom eS x.l] : List Atom)) (fun x y => y.v = plV x.v ∧ y.l.ok 1))
set_option maxHeartbeats 1000000 in
theorem h14 : holds Tryd.prog (kPl sg14) := by
 refine fn_holds (l := [kLine sg24]) ⟨h24, trivial⟩ hP rs14 (inj_of (fun l : List Atom => ((⟨vi (l.getD 0 atom0).1, vs (l.getD 1 atom0).1, vi (l.getD 2 atom0).1, Rw.un unS (l.getD 3 atom0)⟩ : Rep) : Rep)) (fun _ => by simp [List.getD_cons_zero, List.getD_cons_succ, unA_atom, unF_at])) Tryd.func14 (by kernel_rfl) (c := code Tryd.f14) (by kernel_rfl) (an := an14) (by kernel_rfl) (pk := pk14) rfl (t := t14) (by kernel_rfl) ?_
 rintro x hp
 refine ⟨by simp [pk14, KindsOk, RK.ok, Rw.atom, Sl.atom], ?_⟩
 unfold t14
 have ht := okP_t hp
 have hl := okP_l hp
 have kl : x.l.ok 1 := hp.1
 refine br_wp (fun c1 => ?_) (fun c1 => ?_)
 ·replace c1 : x.k = 1 := by first | simpa only [vd, reduceCtorEq, ve, updD] using c1 | (simp only [vd, reduceCtorEq, ve, updD] at c1; grind)
  refine call_fun (x.t) rfl (by first | (simp only [vd, reduceCtorEq, ve, updD]; done) | (simp only [vd, reduceCtorEq, ve, updD]; rfl)) (by omega) ?_
  refine need_wp (by first | exact ⟨_, _, _, rfl⟩ | (simp only [vd, reduceCtorEq, ve, updD]; exact ⟨_, _, _, rfl⟩)) ?_
  refine ret_wp ?_
  refine ⟨(⟨x.k, (lineB x.t), 0, Rw.nil⟩ : Rep), by first | (simp only [vd, reduceCtorEq, ve, updD]; done) | (simp only [vd, reduceCtorEq, ve, updD]; rfl), ?_⟩
  try dsimp only
  exact ⟨by rw [plV_1 (x := x.v) (.inl c1)]; rfl, .inl rfl⟩
 ·replace c1 : ¬(x.k = 1) := by first | simpa only [vd, reduceCtorEq, ve, updD] using c1 | (simp only [vd, reduceCtorEq, ve, updD] at c1; grind)
  refine br_wp (fun c2 => ?_) (fun c2 => ?_)
  ·replace c2 : x.k = 2 := by first | simpa only [vd, reduceCtorEq, ve, updD] using c2 | (simp only [vd, reduceCtorEq, ve, updD] at c2; grind)
   refine call_fun (x.t) rfl (by first | (simp only [vd, reduceCtorEq, ve, updD]; done) | (simp only [vd, reduceCtorEq, ve, updD]; rfl)) (by omega) ?_
   refine need_wp (by first | exact ⟨_, _, _, rfl⟩ | (simp only [vd, reduceCtorEq, ve, updD]; exact ⟨_, _, _, rfl⟩)) ?_
   refine ret_wp ?_
   refine ⟨(⟨x.k, (lineB x.t), 0, Rw.nil⟩ : Rep), by first | (simp only [vd, reduceCtorEq, ve, updD]; done) | (simp only [vd, reduceCtorEq, ve, updD]; rfl), ?_⟩
   try dsimp only
   exact ⟨by rw [plV_1 (x := x.v) (.inr c2)]; rfl, .inl rfl⟩
  ·replace c2 : ¬(x.k = 2) := by first | simpa only [vd, reduceCtorEq, ve, updD] using c2 | (simp only [vd, reduceCtorEq, ve, updD] at c2; grind)
   refine br_wp (fun c3 => ?_) (fun c3 => ?_)
   ·replace c3 : x.k = 3 := by first | simpa only [vd, reduceCtorEq, ve, updD] using c3 | (simp only [vd, reduceCtorEq, ve, updD] at c3; grind)
    refine need_wp (by first | exact ⟨_, _, _, rfl⟩ | (simp only [vd, reduceCtorEq, ve, updD]; exact ⟨_, _, _, rfl⟩)) ?_
    refine ret_wp ?_
    refine ⟨(⟨x.k, (⟨#[]⟩ : ByteArray), x.n, Rw.nil⟩ : Rep), by first | (simp only [vd, reduceCtorEq, ve, updD]; done) | (simp only [vd, reduceCtorEq, ve, updD]; rfl), ?_⟩
    try dsimp only
    exact ⟨by rw [plV_3 (x := x.v) c3]; rfl, .inl rfl⟩
   ·replace c3 : ¬(x.k = 3) := by first | simpa only [vd, reduceCtorEq, ve, updD] using c3 | (simp only [vd, reduceCtorEq, ve, updD] at c3; grind)
    refine br_wp (fun c4 => ?_) (fun c4 => ?_)
    ·replace c4 : x.k = 4 := by first | simpa only [vd, reduceCtorEq, ve, updD] using c4 | (simp only [vd, reduceCtorEq, ve, updD] at c4; grind)
     refine need_wp (by first | exact ⟨_, _, _, rfl⟩ | (simp only [vd, reduceCtorEq, ve, updD]; exact ⟨_, _, _, rfl⟩)) ?_
     refine ret_wp ?_
     refine ⟨(⟨x.k, x.t, 0, Rw.nil⟩ : Rep), by first | (simp only [vd, reduceCtorEq, ve, updD]; done) | (simp only [vd, reduceCtorEq, ve, updD]; rfl), ?_⟩
     try dsimp only
     exact ⟨by rw [plV_4 (x := x.v) c4]; rfl, .inl rfl⟩
    ·replace c4 : ¬(x.k = 4) := by first | simpa only [vd, reduceCtorEq, ve, updD] using c4 | (simp only [vd, reduceCtorEq, ve, updD] at c4; grind)
     refine br_wp (fun c5 => ?_) (fun c5 => ?_)
     ·replace c5 : x.k = 6 := by first | simpa only [vd, reduceCtorEq, ve, updD] using c5 | (simp only [vd, reduceCtorEq, ve, updD] at c5; grind)
      refine need_wp (by first | exact ⟨_, _, _, rfl⟩ | (simp only [vd, reduceCtorEq, ve, updD]; exact ⟨_, _, _, rfl⟩)) ?_
      refine ret_wp ?_
      refine ⟨(⟨x.k, (⟨#[]⟩ : ByteArray), 0, x.l⟩ : Rep), by first | (simp only [vd, reduceCtorEq, ve, updD]; done) | (simp only [vd, reduceCtorEq, ve, updD]; rfl), ?_⟩
      try dsimp only
      exact ⟨by rw [plV_6 (x := x.v) c5]; rfl, kl⟩
     ·replace c5 : ¬(x.k = 6) := by first | simpa only [vd, reduceCtorEq, ve, updD] using c5 | (simp only [vd, reduceCtorEq, ve, updD] at c5; grind)
      refine need_wp (by first | exact ⟨_, _, _, rfl⟩ | (simp only [vd, reduceCtorEq, ve, updD]; exact ⟨_, _, _, rfl⟩)) ?_
      refine ret_wp ?_
      refine ⟨(⟨5, (⟨#[]⟩ : ByteArray), 0, Rw.nil⟩ : Rep), by first | (simp only [vd, reduceCtorEq, ve, updD]; done) | (simp only [vd, reduceCtorEq, ve, updD]; rfl), ?_⟩
      try dsimp only
      exact ⟨by rw [plV_5 (x := x.v) c1 c2 c3 c4 c5]; rfl, .inl rfl⟩
set_option maxHeartbeats 1000000 in
theorem h22 : holds Tryd.prog (kPl sg22) := by
 refine fn_holdsI (l := [kCA sg40]) ⟨h40, trivial⟩ (inl := [in22_41, in22_39]) (by refine ⟨⟨Tryd.func41, by kernel_rfl, by kernel_rfl, by kernel_rfl⟩, ⟨Tryd.func39, by kernel_rfl, by kernel_rfl, by kernel_rfl⟩, trivial⟩) hP rs22 (inj_of (fun l : List Atom => ((⟨vi (l.getD 0 atom0).1, vs (l.getD 1 atom0).1, vi (l.getD 2 atom0).1, Rw.un unS (l.getD 3 atom0)⟩ : Rep) : Rep)) (fun _ => by simp [List.getD_cons_zero, List.getD_cons_succ, unA_atom, unF_at])) Tryd.func22 (by kernel_rfl) (c := code Tryd.f22) (by kernel_rfl) (an := an22) (by kernel_rfl) (pk := pk22) rfl (t := t22) (by kernel_rfl) ?_
 rintro x hp
 refine ⟨by simp [pk22, KindsOk, RK.ok, Rw.atom, Sl.atom], ?_⟩
 unfold t22
 have ht := okP_t hp
 have hl := okP_l hp
 have kl : x.l.ok 1 := hp.1
 refine br_wp (fun c1 => ?_) (fun c1 => ?_)
 ·replace c1 : x.k = 1 := by first | simpa only [vd, reduceCtorEq, ve, updD] using c1 | (simp only [vd, reduceCtorEq, ve, updD] at c1; grind)
  refine call_rel ((x.t, (⟨#[13, 10]⟩ : ByteArray))) rfl (by first | (simp only [vd, reduceCtorEq, ve, updD]; done) | (simp only [vd, reduceCtorEq, ve, updD]; rfl)) (⟨by show x.t.size ≤ 1000000; omega, rfl⟩) ?_
  rintro b1 hca1
  try dsimp only at hca1
  refine br_wp (fun c2 => ?_) (fun c2 => ?_)
  ·replace c2 : b1 = true := by first | simpa only [vd, reduceCtorEq, ve, updD] using c2 | (simp only [vd, reduceCtorEq, ve, updD] at c2; grind)
   refine need_wp (by simp only [vd, reduceCtorEq, ve, updD, List.length_cons, List.length_nil, List.length_append, List.length_set]; first | omega | (grind)) ?_
   refine apps_wp (⟨none, 0, 1, []⟩ : Rw Int) x.t (by first | rfl | simp only [vd, reduceCtorEq, ve, updD]) (by first | rfl | simp only [vd, reduceCtorEq, ve, updD]) ?_
   intro a2 b2
   generalize hx2 : (⟨a2, b2, 1, ([] : List Int) ++ bi x.t⟩ : Rw Int) = x2
   have lx2 : x2.l = bi x.t := by rw [← hx2]; rfl
   have zx2 : x2.z = 1 := by rw [← hx2]
   have kx2 : Rw.ok 1 x2 := .inr zx2
   refine need_wp (by first | exact ⟨_, _, _, rfl⟩ | (simp only [vd, reduceCtorEq, ve, updD]; exact ⟨_, _, _, rfl⟩)) ?_
   refine need_wp (by first | exact ⟨_, _, _, rfl⟩ | (simp only [vd, reduceCtorEq, ve, updD]; exact ⟨_, _, _, rfl⟩)) ?_
   refine loop_wp (fun bs0 => ∃ (i : Int) (r : Rw Int), bs0 = [aI i, Rw.atom eB r] ∧ (0 ≤ i ∧ i ≤ (x.t.size : Int) ∧ r.l = ((bi x.t).map li).take i.toNat ++ (bi x.t).drop i.toNat ∧ r.z = 1)) (fun bs0 => ((x.t.size : Int) - vi (bs0.getD 0 atom0).1).toNat) ?_ ?_
   ·refine ⟨0, x2, by first | (simp only [vd, reduceCtorEq, ve, updD]; done) | (simp only [vd, reduceCtorEq, ve, updD]; rfl) | simp only [vd, reduceCtorEq, ve, updD, Rw.atom, Rw.nil, List.length_nil, List.map_nil], ?_⟩
    exact ⟨by omega, by omega, lx2, zx2⟩
   rintro _ _ ⟨i, r, rfl, ⟨i0, i1, hr, zr⟩⟩
   have kr : r.ok 1 := .inr zr
   have hn : (r.l.length : Int) = x.t.size := by rw [hr]; exact len_li i0 i1
   have hm : (x2.l.length : Int) = x.t.size := by rw [lx2, bi_len]
   refine br_wp (fun c3 => ?_) (fun c3 => ?_)
   ·replace c3 : i < (x2.l.length : Int) := by first | simpa only [vd, reduceCtorEq, ve, updD] using c3 | (simp only [vd, reduceCtorEq, ve, updD] at c3; grind)
    obtain ⟨hb, hg0, hg1⟩ := get_li i0 (by omega) hr
    have w2 : IntKind.i32.wrap (r.get i) = r.get i := by rw [IntKind.wrap_i32]; omega
    have w3 : IntKind.u8.wrap (r.get i) = r.get i := by rw [IntKind.wrap_u8]; omega
    have w4 : IntKind.u8.wrap 32 = 32 := rfl
    have w1 : IntKind.i64.wrap (i + 1) = i + 1 := wrap_id _ (by omega) (by omega)
    refine need_wp (by first | exact ⟨_, _, _, rfl⟩ | (simp only [vd, reduceCtorEq, ve, updD, w2, w3, w4, w1]; exact ⟨_, _, _, rfl⟩)) ?_
    refine need_wp (by first | exact rw_row _ _ | (simp only [vd, reduceCtorEq, ve, updD, w2, w3, w4, w1]; exact ⟨_, _, rfl⟩)) ?_
    refine need_wp (by simp only [vd, reduceCtorEq, ve, updD, w2, w3, w4, w1, List.length_cons, List.length_nil, List.length_append, List.length_set]; first | omega | (grind)) ?_
    refine need_wp (by simp only [vd, reduceCtorEq, ve, updD, w2, w3, w4, w1, List.length_cons, List.length_nil, List.length_append, List.length_set]; first | omega | (grind)) ?_
    refine need_wp (by first | exact ⟨_, _, _, rfl⟩ | (simp only [vd, reduceCtorEq, ve, updD, w2, w3, w4, w1]; exact ⟨_, _, _, rfl⟩)) ?_
    refine need_wp (by first | exact rw_row _ _ | (simp only [vd, reduceCtorEq, ve, updD, w2, w3, w4, w1]; exact ⟨_, _, rfl⟩)) ?_
    refine need_wp (by first | exact rw_sz' rfl | exact rw_szn (by assumption) (.inr (by omega)) | (simp only [vd, reduceCtorEq, ve, updD, w2, w3, w4, w1]; exact rw_szn (by assumption) (.inr (by omega))) | exact rw_szn (by simp [Rw.ok]) (.inr (by omega))) ?_
    refine need_wp (by simp only [vd, reduceCtorEq, ve, updD, w2, w3, w4, w1]; exact kind_Rb (by omega) (by omega)) ?_
    refine br_wp (fun c4 => ?_) (fun c4 => ?_)
    ·replace c4 : (r.get i) = 13 := by first | simpa only [vd, reduceCtorEq, ve, updD, w2, w3, w4, w1] using c4 | (simp only [vd, reduceCtorEq, ve, updD, w2, w3, w4, w1] at c4; grind)
     refine need_wp (by first | exact ⟨_, _, _, rfl⟩ | (simp only [vd, reduceCtorEq, ve, updD, w2, w3, w4, w1]; exact ⟨_, _, _, rfl⟩)) ?_
     refine need_wp (by first | exact rw_row _ _ | (simp only [vd, reduceCtorEq, ve, updD, w2, w3, w4, w1]; exact ⟨_, _, rfl⟩)) ?_
     refine need_wp (by first | exact ⟨_, _, _, rfl⟩ | (simp only [vd, reduceCtorEq, ve, updD, w2, w3, w4, w1]; exact ⟨_, _, _, rfl⟩)) ?_
     refine need_wp (by first | exact rw_row _ _ | (simp only [vd, reduceCtorEq, ve, updD, w2, w3, w4, w1]; exact ⟨_, _, rfl⟩)) ?_
     refine need_wp (by first | exact rw_sz' rfl | exact rw_szn (by assumption) (.inr (by omega)) | (simp only [vd, reduceCtorEq, ve, updD, w2, w3, w4, w1]; exact rw_szn (by assumption) (.inr (by omega))) | exact rw_szn (by simp [Rw.ok]) (.inr (by omega))) ?_
     refine sto_wp eB r i 32 (by first | rfl | simp only [vd, reduceCtorEq, ve, updD, w2, w3, w4, w1]) (by simp only [vd, reduceCtorEq, ve, updD, w2, w3, w4, w1]) (by intro x hx; have hx2 : r.get i = x := (by simp only [Rw.get, List.getD_eq_getElem?_getD, hx, Option.getD_some]); first | (simp only [vd, reduceCtorEq, ve, updD, w2, w3, w4, w1, eB]; done) | (simp only [vd, reduceCtorEq, ve, updD, w2, w3, w4, w1, eB]; simp; done) | (simp only [vd, reduceCtorEq, ve, updD, w2, w3, w4, w1, hx2, eB]; simp; done) | (simp only [vd, reduceCtorEq, ve, updD, w2, w3, w4, w1, hx2, eB]; done) | simp [Rw.get, hx, eB, S.atom, S.den, X.den]) ?_
     generalize hx3 : (⟨r.a, r.c, r.z, r.l.set (i).toNat 32⟩ : Rw Int) = x3
     have lx3 : x3.l = r.l.set (i).toNat 32 := by first | (rw [← hx3]; done) | (rw [← hx3]; rfl)
     have zx3 : x3.z = 1 := by first | (rw [← hx3]; done) | (rw [← hx3]; exact zr)
     have kx3 : Rw.ok 1 x3 := .inr zx3
     have nx3 : (x3.l.length : Int) = (r.l.length : Int) := by first | (rw [← hx3]; done) | (rw [← hx3]; simp [Rw.nil])
     refine need_wp (by first | exact ⟨_, _, _, rfl⟩ | (simp only [vd, reduceCtorEq, ve, updD, w2, w3, w4, w1]; exact ⟨_, _, _, rfl⟩)) ?_
     refine again_wp rfl ⟨(i + 1), x3, by simp only [vd, reduceCtorEq, ve, updD, w2, w3, w4, w1], ?_⟩ ?_
     ·refine ⟨by omega, by omega, ?_, by assumption⟩; rw [← set_li i0 hb, ← hr, lx3]; rw [li_end (.inl c4)]
     ·(try simp only [vd, reduceCtorEq, ve, updD, w2, w3, w4, w1]); omega
    ·replace c4 : ¬((r.get i) = 13) := by first | simpa only [vd, reduceCtorEq, ve, updD, w2, w3, w4, w1] using c4 | (simp only [vd, reduceCtorEq, ve, updD, w2, w3, w4, w1] at c4; grind)
     refine br_wp (fun c5 => ?_) (fun c5 => ?_)
     ·replace c5 : (r.get i) = 10 := by first | simpa only [vd, reduceCtorEq, ve, updD, w2, w3, w4, w1] using c5 | (simp only [vd, reduceCtorEq, ve, updD, w2, w3, w4, w1] at c5; grind)
      refine need_wp (by first | exact ⟨_, _, _, rfl⟩ | (simp only [vd, reduceCtorEq, ve, updD, w2, w3, w4, w1]; exact ⟨_, _, _, rfl⟩)) ?_
      refine need_wp (by first | exact rw_row _ _ | (simp only [vd, reduceCtorEq, ve, updD, w2, w3, w4, w1]; exact ⟨_, _, rfl⟩)) ?_
      refine need_wp (by first | exact ⟨_, _, _, rfl⟩ | (simp only [vd, reduceCtorEq, ve, updD, w2, w3, w4, w1]; exact ⟨_, _, _, rfl⟩)) ?_
      refine need_wp (by first | exact rw_row _ _ | (simp only [vd, reduceCtorEq, ve, updD, w2, w3, w4, w1]; exact ⟨_, _, rfl⟩)) ?_
      refine need_wp (by first | exact rw_sz' rfl | exact rw_szn (by assumption) (.inr (by omega)) | (simp only [vd, reduceCtorEq, ve, updD, w2, w3, w4, w1]; exact rw_szn (by assumption) (.inr (by omega))) | exact rw_szn (by simp [Rw.ok]) (.inr (by omega))) ?_
      refine sto_wp eB r i 32 (by first | rfl | simp only [vd, reduceCtorEq, ve, updD, w2, w3, w4, w1]) (by simp only [vd, reduceCtorEq, ve, updD, w2, w3, w4, w1]) (by intro x hx; have hx2 : r.get i = x := (by simp only [Rw.get, List.getD_eq_getElem?_getD, hx, Option.getD_some]); first | (simp only [vd, reduceCtorEq, ve, updD, w2, w3, w4, w1, eB]; done) | (simp only [vd, reduceCtorEq, ve, updD, w2, w3, w4, w1, eB]; simp; done) | (simp only [vd, reduceCtorEq, ve, updD, w2, w3, w4, w1, hx2, eB]; simp; done) | (simp only [vd, reduceCtorEq, ve, updD, w2, w3, w4, w1, hx2, eB]; done) | simp [Rw.get, hx, eB, S.atom, S.den, X.den]) ?_
      generalize hx4 : (⟨r.a, r.c, r.z, r.l.set (i).toNat 32⟩ : Rw Int) = x4
      have lx4 : x4.l = r.l.set (i).toNat 32 := by first | (rw [← hx4]; done) | (rw [← hx4]; rfl)
      have zx4 : x4.z = 1 := by first | (rw [← hx4]; done) | (rw [← hx4]; exact zr)
      have kx4 : Rw.ok 1 x4 := .inr zx4
      have nx4 : (x4.l.length : Int) = (r.l.length : Int) := by first | (rw [← hx4]; done) | (rw [← hx4]; simp [Rw.nil])
      refine need_wp (by first | exact ⟨_, _, _, rfl⟩ | (simp only [vd, reduceCtorEq, ve, updD, w2, w3, w4, w1]; exact ⟨_, _, _, rfl⟩)) ?_
      refine again_wp rfl ⟨(i + 1), x4, by simp only [vd, reduceCtorEq, ve, updD, w2, w3, w4, w1], ?_⟩ ?_
      ·refine ⟨by omega, by omega, ?_, by assumption⟩; rw [← set_li i0 hb, ← hr, lx4]; rw [li_end (.inr c5)]
      ·(try simp only [vd, reduceCtorEq, ve, updD, w2, w3, w4, w1]); omega
     ·replace c5 : ¬((r.get i) = 10) := by first | simpa only [vd, reduceCtorEq, ve, updD, w2, w3, w4, w1] using c5 | (simp only [vd, reduceCtorEq, ve, updD, w2, w3, w4, w1] at c5; grind)
      refine need_wp (by first | exact ⟨_, _, _, rfl⟩ | (simp only [vd, reduceCtorEq, ve, updD, w2, w3, w4, w1]; exact ⟨_, _, _, rfl⟩)) ?_
      refine need_wp (by first | exact rw_row _ _ | (simp only [vd, reduceCtorEq, ve, updD, w2, w3, w4, w1]; exact ⟨_, _, rfl⟩)) ?_
      refine need_wp (by first | exact ⟨_, _, _, rfl⟩ | (simp only [vd, reduceCtorEq, ve, updD, w2, w3, w4, w1]; exact ⟨_, _, _, rfl⟩)) ?_
      refine need_wp (by first | exact rw_row _ _ | (simp only [vd, reduceCtorEq, ve, updD, w2, w3, w4, w1]; exact ⟨_, _, rfl⟩)) ?_
      refine need_wp (by first | exact rw_sz' rfl | exact rw_szn (by assumption) (.inr (by omega)) | (simp only [vd, reduceCtorEq, ve, updD, w2, w3, w4, w1]; exact rw_szn (by assumption) (.inr (by omega))) | exact rw_szn (by simp [Rw.ok]) (.inr (by omega))) ?_
      refine sto_wp eB r i (r.get i) (by first | rfl | simp only [vd, reduceCtorEq, ve, updD, w2, w3, w4, w1]) (by simp only [vd, reduceCtorEq, ve, updD, w2, w3, w4, w1]) (by intro x hx; have hx2 : r.get i = x := (by simp only [Rw.get, List.getD_eq_getElem?_getD, hx, Option.getD_some]); first | (simp only [vd, reduceCtorEq, ve, updD, w2, w3, w4, w1, eB]; done) | (simp only [vd, reduceCtorEq, ve, updD, w2, w3, w4, w1, eB]; simp; done) | (simp only [vd, reduceCtorEq, ve, updD, w2, w3, w4, w1, hx2, eB]; simp; done) | (simp only [vd, reduceCtorEq, ve, updD, w2, w3, w4, w1, hx2, eB]; done) | simp [Rw.get, hx, eB, S.atom, S.den, X.den]) ?_
      generalize hx5 : (⟨r.a, r.c, r.z, r.l.set (i).toNat (r.get i)⟩ : Rw Int) = x5
      have lx5 : x5.l = r.l.set (i).toNat (r.get i) := by first | (rw [← hx5]; done) | (rw [← hx5]; rfl)
      have zx5 : x5.z = 1 := by first | (rw [← hx5]; done) | (rw [← hx5]; exact zr)
      have kx5 : Rw.ok 1 x5 := .inr zx5
      have nx5 : (x5.l.length : Int) = (r.l.length : Int) := by first | (rw [← hx5]; done) | (rw [← hx5]; simp [Rw.nil])
      refine need_wp (by first | exact ⟨_, _, _, rfl⟩ | (simp only [vd, reduceCtorEq, ve, updD, w2, w3, w4, w1]; exact ⟨_, _, _, rfl⟩)) ?_
      refine again_wp rfl ⟨(i + 1), x5, by simp only [vd, reduceCtorEq, ve, updD, w2, w3, w4, w1], ?_⟩ ?_
      ·refine ⟨by omega, by omega, ?_, by assumption⟩; rw [← set_li i0 hb, ← hr, lx5]; rw [li_not c4 c5]
      ·(try simp only [vd, reduceCtorEq, ve, updD, w2, w3, w4, w1]); omega
   ·replace c3 : ¬(i < (x2.l.length : Int)) := by first | simpa only [vd, reduceCtorEq, ve, updD] using c3 | (simp only [vd, reduceCtorEq, ve, updD] at c3; grind)
    have hi : i = x.t.size := by omega
    have hB : isB r.l := by rw [hr]; exact isB_app (isB_take (isB_line (isB_bi _)) _) (isB_drop (isB_bi _) _)
    refine pop_wp ?_
    refine need_wp (by first | exact ⟨_, _, _, rfl⟩ | (simp only [vd, reduceCtorEq, ve, updD]; exact ⟨_, _, _, rfl⟩)) ?_
    refine need_wp (by simp only [vd, reduceCtorEq, ve, updD]; exact need_bytes (by assumption) (by assumption)) ?_
    refine need_wp (by first | exact ⟨_, _, _, rfl⟩ | (simp only [vd, reduceCtorEq, ve, updD]; exact ⟨_, _, _, rfl⟩)) ?_
    refine ret_wp ?_
    refine ⟨(⟨x.k, (ofBytes r.l), 0, Rw.nil⟩ : Rep), by first | (simp only [vd, reduceCtorEq, ve, updD]; done) | (simp only [vd, reduceCtorEq, ve, updD]; rfl), ?_⟩
    try dsimp only
    exact ⟨by rw [plV_1 (x := x.v) (.inl c1)]; show RV.mk x.k (ofBytes r.l) 0 [] = _; rw [hr, hi, Int.toNat_natCast, end_li]; rfl, .inl rfl⟩
  ·replace c2 : ¬(b1 = true) := by first | simpa only [vd, reduceCtorEq, ve, updD] using c2 | (simp only [vd, reduceCtorEq, ve, updD] at c2; grind)
   refine need_wp (by first | exact ⟨_, _, _, rfl⟩ | (simp only [vd, reduceCtorEq, ve, updD]; exact ⟨_, _, _, rfl⟩)) ?_
   refine ret_wp ?_
   refine ⟨(⟨x.k, x.t, 0, Rw.nil⟩ : Rep), by first | (simp only [vd, reduceCtorEq, ve, updD]; done) | (simp only [vd, reduceCtorEq, ve, updD]; rfl), ?_⟩
   try dsimp only
   exact ⟨by rw [plV_1 (x := x.v) (.inl c1)]; show RV.mk x.k x.t 0 [] = RV.mk x.k (lineB x.t) 0 []; rw [lineB_clean (hca1 (by simpa using c2))], .inl rfl⟩
 ·replace c1 : ¬(x.k = 1) := by first | simpa only [vd, reduceCtorEq, ve, updD] using c1 | (simp only [vd, reduceCtorEq, ve, updD] at c1; grind)
  refine br_wp (fun c6 => ?_) (fun c6 => ?_)
  ·replace c6 : x.k = 2 := by first | simpa only [vd, reduceCtorEq, ve, updD] using c6 | (simp only [vd, reduceCtorEq, ve, updD] at c6; grind)
   refine call_rel ((x.t, (⟨#[13, 10]⟩ : ByteArray))) rfl (by first | (simp only [vd, reduceCtorEq, ve, updD]; done) | (simp only [vd, reduceCtorEq, ve, updD]; rfl)) (⟨by show x.t.size ≤ 1000000; omega, rfl⟩) ?_
   rintro b6 hca6
   try dsimp only at hca6
   refine br_wp (fun c7 => ?_) (fun c7 => ?_)
   ·replace c7 : b6 = true := by first | simpa only [vd, reduceCtorEq, ve, updD] using c7 | (simp only [vd, reduceCtorEq, ve, updD] at c7; grind)
    refine need_wp (by simp only [vd, reduceCtorEq, ve, updD, List.length_cons, List.length_nil, List.length_append, List.length_set]; first | omega | (grind)) ?_
    refine apps_wp (⟨none, 0, 1, []⟩ : Rw Int) x.t (by first | rfl | simp only [vd, reduceCtorEq, ve, updD]) (by first | rfl | simp only [vd, reduceCtorEq, ve, updD]) ?_
    intro a7 b7
    generalize hx7 : (⟨a7, b7, 1, ([] : List Int) ++ bi x.t⟩ : Rw Int) = x7
    have lx7 : x7.l = bi x.t := by rw [← hx7]; rfl
    have zx7 : x7.z = 1 := by rw [← hx7]
    have kx7 : Rw.ok 1 x7 := .inr zx7
    refine need_wp (by first | exact ⟨_, _, _, rfl⟩ | (simp only [vd, reduceCtorEq, ve, updD]; exact ⟨_, _, _, rfl⟩)) ?_
    refine need_wp (by first | exact ⟨_, _, _, rfl⟩ | (simp only [vd, reduceCtorEq, ve, updD]; exact ⟨_, _, _, rfl⟩)) ?_
    refine loop_wp (fun bs0 => ∃ (i : Int) (r : Rw Int), bs0 = [aI i, Rw.atom eB r] ∧ (0 ≤ i ∧ i ≤ (x.t.size : Int) ∧ r.l = ((bi x.t).map li).take i.toNat ++ (bi x.t).drop i.toNat ∧ r.z = 1)) (fun bs0 => ((x.t.size : Int) - vi (bs0.getD 0 atom0).1).toNat) ?_ ?_
    ·refine ⟨0, x7, by first | (simp only [vd, reduceCtorEq, ve, updD]; done) | (simp only [vd, reduceCtorEq, ve, updD]; rfl) | simp only [vd, reduceCtorEq, ve, updD, Rw.atom, Rw.nil, List.length_nil, List.map_nil], ?_⟩
     exact ⟨by omega, by omega, lx7, zx7⟩
    rintro _ _ ⟨i, r, rfl, ⟨i0, i1, hr, zr⟩⟩
    have kr : r.ok 1 := .inr zr
    have hn : (r.l.length : Int) = x.t.size := by rw [hr]; exact len_li i0 i1
    have hm : (x7.l.length : Int) = x.t.size := by rw [lx7, bi_len]
    refine br_wp (fun c8 => ?_) (fun c8 => ?_)
    ·replace c8 : i < (x7.l.length : Int) := by first | simpa only [vd, reduceCtorEq, ve, updD] using c8 | (simp only [vd, reduceCtorEq, ve, updD] at c8; grind)
     obtain ⟨hb, hg0, hg1⟩ := get_li i0 (by omega) hr
     have w2 : IntKind.i32.wrap (r.get i) = r.get i := by rw [IntKind.wrap_i32]; omega
     have w3 : IntKind.u8.wrap (r.get i) = r.get i := by rw [IntKind.wrap_u8]; omega
     have w4 : IntKind.u8.wrap 32 = 32 := rfl
     have w1 : IntKind.i64.wrap (i + 1) = i + 1 := wrap_id _ (by omega) (by omega)
     refine need_wp (by first | exact ⟨_, _, _, rfl⟩ | (simp only [vd, reduceCtorEq, ve, updD, w2, w3, w4, w1]; exact ⟨_, _, _, rfl⟩)) ?_
     refine need_wp (by first | exact rw_row _ _ | (simp only [vd, reduceCtorEq, ve, updD, w2, w3, w4, w1]; exact ⟨_, _, rfl⟩)) ?_
     refine need_wp (by simp only [vd, reduceCtorEq, ve, updD, w2, w3, w4, w1, List.length_cons, List.length_nil, List.length_append, List.length_set]; first | omega | (grind)) ?_
     refine need_wp (by simp only [vd, reduceCtorEq, ve, updD, w2, w3, w4, w1, List.length_cons, List.length_nil, List.length_append, List.length_set]; first | omega | (grind)) ?_
     refine need_wp (by first | exact ⟨_, _, _, rfl⟩ | (simp only [vd, reduceCtorEq, ve, updD, w2, w3, w4, w1]; exact ⟨_, _, _, rfl⟩)) ?_
     refine need_wp (by first | exact rw_row _ _ | (simp only [vd, reduceCtorEq, ve, updD, w2, w3, w4, w1]; exact ⟨_, _, rfl⟩)) ?_
     refine need_wp (by first | exact rw_sz' rfl | exact rw_szn (by assumption) (.inr (by omega)) | (simp only [vd, reduceCtorEq, ve, updD, w2, w3, w4, w1]; exact rw_szn (by assumption) (.inr (by omega))) | exact rw_szn (by simp [Rw.ok]) (.inr (by omega))) ?_
     refine need_wp (by simp only [vd, reduceCtorEq, ve, updD, w2, w3, w4, w1]; exact kind_Rb (by omega) (by omega)) ?_
     refine br_wp (fun c9 => ?_) (fun c9 => ?_)
     ·replace c9 : (r.get i) = 13 := by first | simpa only [vd, reduceCtorEq, ve, updD, w2, w3, w4, w1] using c9 | (simp only [vd, reduceCtorEq, ve, updD, w2, w3, w4, w1] at c9; grind)
      refine need_wp (by first | exact ⟨_, _, _, rfl⟩ | (simp only [vd, reduceCtorEq, ve, updD, w2, w3, w4, w1]; exact ⟨_, _, _, rfl⟩)) ?_
      refine need_wp (by first | exact rw_row _ _ | (simp only [vd, reduceCtorEq, ve, updD, w2, w3, w4, w1]; exact ⟨_, _, rfl⟩)) ?_
      refine need_wp (by first | exact ⟨_, _, _, rfl⟩ | (simp only [vd, reduceCtorEq, ve, updD, w2, w3, w4, w1]; exact ⟨_, _, _, rfl⟩)) ?_
      refine need_wp (by first | exact rw_row _ _ | (simp only [vd, reduceCtorEq, ve, updD, w2, w3, w4, w1]; exact ⟨_, _, rfl⟩)) ?_
      refine need_wp (by first | exact rw_sz' rfl | exact rw_szn (by assumption) (.inr (by omega)) | (simp only [vd, reduceCtorEq, ve, updD, w2, w3, w4, w1]; exact rw_szn (by assumption) (.inr (by omega))) | exact rw_szn (by simp [Rw.ok]) (.inr (by omega))) ?_
      refine sto_wp eB r i 32 (by first | rfl | simp only [vd, reduceCtorEq, ve, updD, w2, w3, w4, w1]) (by simp only [vd, reduceCtorEq, ve, updD, w2, w3, w4, w1]) (by intro x hx; have hx2 : r.get i = x := (by simp only [Rw.get, List.getD_eq_getElem?_getD, hx, Option.getD_some]); first | (simp only [vd, reduceCtorEq, ve, updD, w2, w3, w4, w1, eB]; done) | (simp only [vd, reduceCtorEq, ve, updD, w2, w3, w4, w1, eB]; simp; done) | (simp only [vd, reduceCtorEq, ve, updD, w2, w3, w4, w1, hx2, eB]; simp; done) | (simp only [vd, reduceCtorEq, ve, updD, w2, w3, w4, w1, hx2, eB]; done) | simp [Rw.get, hx, eB, S.atom, S.den, X.den]) ?_
      generalize hx8 : (⟨r.a, r.c, r.z, r.l.set (i).toNat 32⟩ : Rw Int) = x8
      have lx8 : x8.l = r.l.set (i).toNat 32 := by first | (rw [← hx8]; done) | (rw [← hx8]; rfl)
      have zx8 : x8.z = 1 := by first | (rw [← hx8]; done) | (rw [← hx8]; exact zr)
      have kx8 : Rw.ok 1 x8 := .inr zx8
      have nx8 : (x8.l.length : Int) = (r.l.length : Int) := by first | (rw [← hx8]; done) | (rw [← hx8]; simp [Rw.nil])
      refine need_wp (by first | exact ⟨_, _, _, rfl⟩ | (simp only [vd, reduceCtorEq, ve, updD, w2, w3, w4, w1]; exact ⟨_, _, _, rfl⟩)) ?_
      refine again_wp rfl ⟨(i + 1), x8, by simp only [vd, reduceCtorEq, ve, updD, w2, w3, w4, w1], ?_⟩ ?_
      ·refine ⟨by omega, by omega, ?_, by assumption⟩; rw [← set_li i0 hb, ← hr, lx8]; rw [li_end (.inl c9)]
      ·(try simp only [vd, reduceCtorEq, ve, updD, w2, w3, w4, w1]); omega
     ·replace c9 : ¬((r.get i) = 13) := by first | simpa only [vd, reduceCtorEq, ve, updD, w2, w3, w4, w1] using c9 | (simp only [vd, reduceCtorEq, ve, updD, w2, w3, w4, w1] at c9; grind)
      refine br_wp (fun c10 => ?_) (fun c10 => ?_)
      ·replace c10 : (r.get i) = 10 := by first | simpa only [vd, reduceCtorEq, ve, updD, w2, w3, w4, w1] using c10 | (simp only [vd, reduceCtorEq, ve, updD, w2, w3, w4, w1] at c10; grind)
       refine need_wp (by first | exact ⟨_, _, _, rfl⟩ | (simp only [vd, reduceCtorEq, ve, updD, w2, w3, w4, w1]; exact ⟨_, _, _, rfl⟩)) ?_
       refine need_wp (by first | exact rw_row _ _ | (simp only [vd, reduceCtorEq, ve, updD, w2, w3, w4, w1]; exact ⟨_, _, rfl⟩)) ?_
       refine need_wp (by first | exact ⟨_, _, _, rfl⟩ | (simp only [vd, reduceCtorEq, ve, updD, w2, w3, w4, w1]; exact ⟨_, _, _, rfl⟩)) ?_
       refine need_wp (by first | exact rw_row _ _ | (simp only [vd, reduceCtorEq, ve, updD, w2, w3, w4, w1]; exact ⟨_, _, rfl⟩)) ?_
       refine need_wp (by first | exact rw_sz' rfl | exact rw_szn (by assumption) (.inr (by omega)) | (simp only [vd, reduceCtorEq, ve, updD, w2, w3, w4, w1]; exact rw_szn (by assumption) (.inr (by omega))) | exact rw_szn (by simp [Rw.ok]) (.inr (by omega))) ?_
       refine sto_wp eB r i 32 (by first | rfl | simp only [vd, reduceCtorEq, ve, updD, w2, w3, w4, w1]) (by simp only [vd, reduceCtorEq, ve, updD, w2, w3, w4, w1]) (by intro x hx; have hx2 : r.get i = x := (by simp only [Rw.get, List.getD_eq_getElem?_getD, hx, Option.getD_some]); first | (simp only [vd, reduceCtorEq, ve, updD, w2, w3, w4, w1, eB]; done) | (simp only [vd, reduceCtorEq, ve, updD, w2, w3, w4, w1, eB]; simp; done) | (simp only [vd, reduceCtorEq, ve, updD, w2, w3, w4, w1, hx2, eB]; simp; done) | (simp only [vd, reduceCtorEq, ve, updD, w2, w3, w4, w1, hx2, eB]; done) | simp [Rw.get, hx, eB, S.atom, S.den, X.den]) ?_
       generalize hx9 : (⟨r.a, r.c, r.z, r.l.set (i).toNat 32⟩ : Rw Int) = x9
       have lx9 : x9.l = r.l.set (i).toNat 32 := by first | (rw [← hx9]; done) | (rw [← hx9]; rfl)
       have zx9 : x9.z = 1 := by first | (rw [← hx9]; done) | (rw [← hx9]; exact zr)
       have kx9 : Rw.ok 1 x9 := .inr zx9
       have nx9 : (x9.l.length : Int) = (r.l.length : Int) := by first | (rw [← hx9]; done) | (rw [← hx9]; simp [Rw.nil])
       refine need_wp (by first | exact ⟨_, _, _, rfl⟩ | (simp only [vd, reduceCtorEq, ve, updD, w2, w3, w4, w1]; exact ⟨_, _, _, rfl⟩)) ?_
       refine again_wp rfl ⟨(i + 1), x9, by simp only [vd, reduceCtorEq, ve, updD, w2, w3, w4, w1], ?_⟩ ?_
       ·refine ⟨by omega, by omega, ?_, by assumption⟩; rw [← set_li i0 hb, ← hr, lx9]; rw [li_end (.inr c10)]
       ·(try simp only [vd, reduceCtorEq, ve, updD, w2, w3, w4, w1]); omega
      ·replace c10 : ¬((r.get i) = 10) := by first | simpa only [vd, reduceCtorEq, ve, updD, w2, w3, w4, w1] using c10 | (simp only [vd, reduceCtorEq, ve, updD, w2, w3, w4, w1] at c10; grind)
       refine need_wp (by first | exact ⟨_, _, _, rfl⟩ | (simp only [vd, reduceCtorEq, ve, updD, w2, w3, w4, w1]; exact ⟨_, _, _, rfl⟩)) ?_
       refine need_wp (by first | exact rw_row _ _ | (simp only [vd, reduceCtorEq, ve, updD, w2, w3, w4, w1]; exact ⟨_, _, rfl⟩)) ?_
       refine need_wp (by first | exact ⟨_, _, _, rfl⟩ | (simp only [vd, reduceCtorEq, ve, updD, w2, w3, w4, w1]; exact ⟨_, _, _, rfl⟩)) ?_
       refine need_wp (by first | exact rw_row _ _ | (simp only [vd, reduceCtorEq, ve, updD, w2, w3, w4, w1]; exact ⟨_, _, rfl⟩)) ?_
       refine need_wp (by first | exact rw_sz' rfl | exact rw_szn (by assumption) (.inr (by omega)) | (simp only [vd, reduceCtorEq, ve, updD, w2, w3, w4, w1]; exact rw_szn (by assumption) (.inr (by omega))) | exact rw_szn (by simp [Rw.ok]) (.inr (by omega))) ?_
       refine sto_wp eB r i (r.get i) (by first | rfl | simp only [vd, reduceCtorEq, ve, updD, w2, w3, w4, w1]) (by simp only [vd, reduceCtorEq, ve, updD, w2, w3, w4, w1]) (by intro x hx; have hx2 : r.get i = x := (by simp only [Rw.get, List.getD_eq_getElem?_getD, hx, Option.getD_some]); first | (simp only [vd, reduceCtorEq, ve, updD, w2, w3, w4, w1, eB]; done) | (simp only [vd, reduceCtorEq, ve, updD, w2, w3, w4, w1, eB]; simp; done) | (simp only [vd, reduceCtorEq, ve, updD, w2, w3, w4, w1, hx2, eB]; simp; done) | (simp only [vd, reduceCtorEq, ve, updD, w2, w3, w4, w1, hx2, eB]; done) | simp [Rw.get, hx, eB, S.atom, S.den, X.den]) ?_
       generalize hx10 : (⟨r.a, r.c, r.z, r.l.set (i).toNat (r.get i)⟩ : Rw Int) = x10
       have lx10 : x10.l = r.l.set (i).toNat (r.get i) := by first | (rw [← hx10]; done) | (rw [← hx10]; rfl)
       have zx10 : x10.z = 1 := by first | (rw [← hx10]; done) | (rw [← hx10]; exact zr)
       have kx10 : Rw.ok 1 x10 := .inr zx10
       have nx10 : (x10.l.length : Int) = (r.l.length : Int) := by first | (rw [← hx10]; done) | (rw [← hx10]; simp [Rw.nil])
       refine need_wp (by first | exact ⟨_, _, _, rfl⟩ | (simp only [vd, reduceCtorEq, ve, updD, w2, w3, w4, w1]; exact ⟨_, _, _, rfl⟩)) ?_
       refine again_wp rfl ⟨(i + 1), x10, by simp only [vd, reduceCtorEq, ve, updD, w2, w3, w4, w1], ?_⟩ ?_
       ·refine ⟨by omega, by omega, ?_, by assumption⟩; rw [← set_li i0 hb, ← hr, lx10]; rw [li_not c9 c10]
       ·(try simp only [vd, reduceCtorEq, ve, updD, w2, w3, w4, w1]); omega
    ·replace c8 : ¬(i < (x7.l.length : Int)) := by first | simpa only [vd, reduceCtorEq, ve, updD] using c8 | (simp only [vd, reduceCtorEq, ve, updD] at c8; grind)
     have hi : i = x.t.size := by omega
     have hB : isB r.l := by rw [hr]; exact isB_app (isB_take (isB_line (isB_bi _)) _) (isB_drop (isB_bi _) _)
     refine pop_wp ?_
     refine need_wp (by first | exact ⟨_, _, _, rfl⟩ | (simp only [vd, reduceCtorEq, ve, updD]; exact ⟨_, _, _, rfl⟩)) ?_
     refine need_wp (by simp only [vd, reduceCtorEq, ve, updD]; exact need_bytes (by assumption) (by assumption)) ?_
     refine need_wp (by first | exact ⟨_, _, _, rfl⟩ | (simp only [vd, reduceCtorEq, ve, updD]; exact ⟨_, _, _, rfl⟩)) ?_
     refine ret_wp ?_
     refine ⟨(⟨x.k, (ofBytes r.l), 0, Rw.nil⟩ : Rep), by first | (simp only [vd, reduceCtorEq, ve, updD]; done) | (simp only [vd, reduceCtorEq, ve, updD]; rfl), ?_⟩
     try dsimp only
     exact ⟨by rw [plV_1 (x := x.v) (.inr c6)]; show RV.mk x.k (ofBytes r.l) 0 [] = _; rw [hr, hi, Int.toNat_natCast, end_li]; rfl, .inl rfl⟩
   ·replace c7 : ¬(b6 = true) := by first | simpa only [vd, reduceCtorEq, ve, updD] using c7 | (simp only [vd, reduceCtorEq, ve, updD] at c7; grind)
    refine need_wp (by first | exact ⟨_, _, _, rfl⟩ | (simp only [vd, reduceCtorEq, ve, updD]; exact ⟨_, _, _, rfl⟩)) ?_
    refine ret_wp ?_
    refine ⟨(⟨x.k, x.t, 0, Rw.nil⟩ : Rep), by first | (simp only [vd, reduceCtorEq, ve, updD]; done) | (simp only [vd, reduceCtorEq, ve, updD]; rfl), ?_⟩
    try dsimp only
    exact ⟨by rw [plV_1 (x := x.v) (.inr c6)]; show RV.mk x.k x.t 0 [] = RV.mk x.k (lineB x.t) 0 []; rw [lineB_clean (hca6 (by simpa using c7))], .inl rfl⟩
  ·replace c6 : ¬(x.k = 2) := by first | simpa only [vd, reduceCtorEq, ve, updD] using c6 | (simp only [vd, reduceCtorEq, ve, updD] at c6; grind)
   refine br_wp (fun c11 => ?_) (fun c11 => ?_)
   ·replace c11 : x.k = 3 := by first | simpa only [vd, reduceCtorEq, ve, updD] using c11 | (simp only [vd, reduceCtorEq, ve, updD] at c11; grind)
    refine need_wp (by first | exact ⟨_, _, _, rfl⟩ | (simp only [vd, reduceCtorEq, ve, updD]; exact ⟨_, _, _, rfl⟩)) ?_
    refine ret_wp ?_
    refine ⟨(⟨x.k, (⟨#[]⟩ : ByteArray), x.n, Rw.nil⟩ : Rep), by first | (simp only [vd, reduceCtorEq, ve, updD]; done) | (simp only [vd, reduceCtorEq, ve, updD]; rfl), ?_⟩
    try dsimp only
    exact ⟨by rw [plV_3 (x := x.v) c11]; rfl, .inl rfl⟩
   ·replace c11 : ¬(x.k = 3) := by first | simpa only [vd, reduceCtorEq, ve, updD] using c11 | (simp only [vd, reduceCtorEq, ve, updD] at c11; grind)
    refine br_wp (fun c12 => ?_) (fun c12 => ?_)
    ·replace c12 : x.k = 4 := by first | simpa only [vd, reduceCtorEq, ve, updD] using c12 | (simp only [vd, reduceCtorEq, ve, updD] at c12; grind)
     refine need_wp (by first | exact ⟨_, _, _, rfl⟩ | (simp only [vd, reduceCtorEq, ve, updD]; exact ⟨_, _, _, rfl⟩)) ?_
     refine ret_wp ?_
     refine ⟨(⟨x.k, x.t, 0, Rw.nil⟩ : Rep), by first | (simp only [vd, reduceCtorEq, ve, updD]; done) | (simp only [vd, reduceCtorEq, ve, updD]; rfl), ?_⟩
     try dsimp only
     exact ⟨by rw [plV_4 (x := x.v) c12]; rfl, .inl rfl⟩
    ·replace c12 : ¬(x.k = 4) := by first | simpa only [vd, reduceCtorEq, ve, updD] using c12 | (simp only [vd, reduceCtorEq, ve, updD] at c12; grind)
     refine br_wp (fun c13 => ?_) (fun c13 => ?_)
     ·replace c13 : x.k = 6 := by first | simpa only [vd, reduceCtorEq, ve, updD] using c13 | (simp only [vd, reduceCtorEq, ve, updD] at c13; grind)
      refine need_wp (by first | exact ⟨_, _, _, rfl⟩ | (simp only [vd, reduceCtorEq, ve, updD]; exact ⟨_, _, _, rfl⟩)) ?_
      refine need_wp (by first | exact rw_szz (by assumption) | exact rw_szz (.inr rfl)) ?_
      refine need_wp (by simp only [vd, reduceCtorEq, ve, updD, List.length_cons, List.length_nil, List.length_append, List.length_set]; first | omega | (grind)) ?_
      refine need_wp (by simp only [vd, reduceCtorEq, ve, updD, List.length_cons, List.length_nil, List.length_append, List.length_set]; first | omega | (grind)) ?_
      refine app_wp eS (Rw.nil : Rw ByteArray) x.l (by first | rfl | simp only [vd, reduceCtorEq, ve, updD]) (by first | rfl | simp only [vd, reduceCtorEq, ve, updD]) ?_
      intro a11 b11
      generalize hx11 : (⟨a11, b11, 1, (Rw.nil : Rw ByteArray).l ++ x.l.l⟩ : Rw ByteArray) = x11
      have lx11 : x11.l = x.l.l := by first | (rw [← hx11]; done) | (rw [← hx11]; rfl)
      have zx11 : x11.z = 1 := by rw [← hx11]
      have kx11 : Rw.ok 1 x11 := .inr zx11
      have nx11 : (x11.l.length : Int) = 0 + (x.l.l.length : Int) := by first | (rw [← hx11]; done) | (rw [← hx11]; simp [Rw.nil])
      refine need_wp (by first | exact ⟨_, _, _, rfl⟩ | (simp only [vd, reduceCtorEq, ve, updD]; exact ⟨_, _, _, rfl⟩)) ?_
      refine ret_wp ?_
      refine ⟨(⟨x.k, (⟨#[]⟩ : ByteArray), 0, x11⟩ : Rep), by first | (simp only [vd, reduceCtorEq, ve, updD]; done) | (simp only [vd, reduceCtorEq, ve, updD]; rfl), ?_⟩
      try dsimp only
      exact ⟨by rw [plV_6 (x := x.v) c13]; show RV.mk x.k em 0 x11.l = _; rw [lx11]; rfl, kx11⟩
     ·replace c13 : ¬(x.k = 6) := by first | simpa only [vd, reduceCtorEq, ve, updD] using c13 | (simp only [vd, reduceCtorEq, ve, updD] at c13; grind)
      refine need_wp (by first | exact ⟨_, _, _, rfl⟩ | (simp only [vd, reduceCtorEq, ve, updD]; exact ⟨_, _, _, rfl⟩)) ?_
      refine ret_wp ?_
      refine ⟨(⟨5, (⟨#[]⟩ : ByteArray), 0, Rw.nil⟩ : Rep), by first | (simp only [vd, reduceCtorEq, ve, updD]; done) | (simp only [vd, reduceCtorEq, ve, updD]; rfl), ?_⟩
      try dsimp only
      exact ⟨by rw [plV_5 (x := x.v) c1 c6 c11 c12 c13]; rfl, .inl rfl⟩
def kRight (sg : Sig) : Sig × Con := (sg, mkFun (fun x : Rep => ([aI x.k, aS x.t, aI x.n, Rw.atom eS x.l] : List Atom)) okP (fun x => [aB (decide (plV x.v = x.v))]))
set_option maxHeartbeats 1000000 in
theorem h9 : holds Tryd.prog (kRight sg9) := by
 refine fn_holds (l := [kPl sg22, kSame sg21]) ⟨h22, h21, trivial⟩ hP rs9 (inj_of (fun l : List Atom => ((⟨vi (l.getD 0 atom0).1, vs (l.getD 1 atom0).1, vi (l.getD 2 atom0).1, Rw.un unS (l.getD 3 atom0)⟩ : Rep) : Rep)) (fun _ => by simp [List.getD_cons_zero, List.getD_cons_succ, unA_atom, unF_at])) Tryd.func9 (by kernel_rfl) (c := code Tryd.f9) (by kernel_rfl) (an := an9) (by kernel_rfl) (pk := pk9) rfl (t := t9) (by kernel_rfl) ?_
 rintro x hp
 refine ⟨by simp [pk9, KindsOk, RK.ok, Rw.atom, Sl.atom], ?_⟩
 unfold t9
 have kl : x.l.ok 1 := hp.1
 refine call_rel (x) rfl (by first | (simp only [vd, reduceCtorEq, ve, updD]; done) | (simp only [vd, reduceCtorEq, ve, updD]; rfl)) hp ?_
 rintro y1 ⟨ey1, oy1⟩
 try dsimp only at ey1 oy1
 refine call_fun ((y1, x)) rfl (by first | (simp only [vd, reduceCtorEq, ve, updD]; done) | (simp only [vd, reduceCtorEq, ve, updD]; rfl)) (⟨oy1, kl, pl_len ey1 hp⟩) ?_
 refine ret_wp ?_
 try dsimp only
 simp only [vd, reduceCtorEq, ve, updD]; rw [ey1]
def kOne (sg : Sig) : Sig × Con := (sg, mkFun (fun x : Rep => ([aI x.k, aS x.t, aI x.n, Rw.atom eS x.l] : List Atom)) (fun x => okP x ∧ in64 x.n) (fun x => [aS (oneV x.v)]))
set_option maxHeartbeats 1000000 in
theorem h23 : holds Tryd.prog (kOne sg23) := by
 refine fn_holds (l := [kPl sg22, kPrint sg42, kBulk sg43]) ⟨h22, h42, h43, trivial⟩ hP rs23 (inj_of (fun l : List Atom => ((⟨vi (l.getD 0 atom0).1, vs (l.getD 1 atom0).1, vi (l.getD 2 atom0).1, Rw.un unS (l.getD 3 atom0)⟩ : Rep) : Rep)) (fun _ => by simp [List.getD_cons_zero, List.getD_cons_succ, unA_atom, unF_at])) Tryd.func23 (by kernel_rfl) (c := code Tryd.f23) (by kernel_rfl) (an := an23) (by kernel_rfl) (pk := pk23) rfl (t := t23) (by kernel_rfl) ?_
 rintro x ⟨hp, hn⟩
 refine ⟨by simp [pk23, KindsOk, RK.ok, Rw.atom, Sl.atom], ?_⟩
 unfold t23
 refine call_rel (x) rfl (by first | (simp only [vd, reduceCtorEq, ve, updD]; done) | (simp only [vd, reduceCtorEq, ve, updD]; rfl)) hp ?_
 rintro y1 ⟨ey1, oy1⟩
 try dsimp only at ey1 oy1
 have hq : okP y1 := okP_pl ey1 oy1 hp
 have hy : in64 y1.n := by have := n_pl (v := x.v) hn; rw [← ey1] at this; exact this
 have ht := okP_t hq
 have hl := okP_l hq
 have hs := okP_s hq
 have ky : y1.l.ok 1 := hq.1
 have hv : oneV x.v = oneP y1.v := by unfold oneV; rw [ey1]
 have zn := prt_size hy
 have zl := prt_size (n := (y1.l.l.length : Int)) (by unfold in64; omega)
 have z42 : ((⟨#[42]⟩ : ByteArray).size : Int) = 1 := rfl
 have z43 : ((⟨#[43]⟩ : ByteArray).size : Int) = 1 := rfl
 have z45 : ((⟨#[45]⟩ : ByteArray).size : Int) = 1 := rfl
 have z58 : ((⟨#[58]⟩ : ByteArray).size : Int) = 1 := rfl
 have z2 : ((⟨#[13, 10]⟩ : ByteArray).size : Int) = 2 := rfl
 refine br_wp (fun c1 => ?_) (fun c1 => ?_)
 ·replace c1 : y1.k = 1 := by first | simpa only [vd, reduceCtorEq, ve, updD] using c1 | (simp only [vd, reduceCtorEq, ve, updD] at c1; grind)
  refine need_wp (need_size (den_cat (den_str _) rfl) (by simp only [size_app]; omega)) ?_
  refine need_wp (need_size (den_cat (den_cat (den_str _) rfl) (den_str _)) (by simp only [size_app]; omega)) ?_
  refine ret_wp ?_
  try dsimp only
  simp only [vd, reduceCtorEq, ve, updD]; rw [hv, one_1 (y := y1.v) c1]; rfl
 ·replace c1 : ¬(y1.k = 1) := by first | simpa only [vd, reduceCtorEq, ve, updD] using c1 | (simp only [vd, reduceCtorEq, ve, updD] at c1; grind)
  refine br_wp (fun c2 => ?_) (fun c2 => ?_)
  ·replace c2 : y1.k = 2 := by first | simpa only [vd, reduceCtorEq, ve, updD] using c2 | (simp only [vd, reduceCtorEq, ve, updD] at c2; grind)
   refine need_wp (need_size (den_cat (den_str _) rfl) (by simp only [size_app]; omega)) ?_
   refine need_wp (need_size (den_cat (den_cat (den_str _) rfl) (den_str _)) (by simp only [size_app]; omega)) ?_
   refine ret_wp ?_
   try dsimp only
   simp only [vd, reduceCtorEq, ve, updD]; rw [hv, one_2 (y := y1.v) c2]; rfl
  ·replace c2 : ¬(y1.k = 2) := by first | simpa only [vd, reduceCtorEq, ve, updD] using c2 | (simp only [vd, reduceCtorEq, ve, updD] at c2; grind)
   refine br_wp (fun c3 => ?_) (fun c3 => ?_)
   ·replace c3 : y1.k = 3 := by first | simpa only [vd, reduceCtorEq, ve, updD] using c3 | (simp only [vd, reduceCtorEq, ve, updD] at c3; grind)
    refine call_fun (y1.n) rfl (by first | (simp only [vd, reduceCtorEq, ve, updD]; done) | (simp only [vd, reduceCtorEq, ve, updD]; rfl)) hy ?_
    refine need_wp (need_size (den_cat (den_str _) rfl) (by simp only [size_app]; omega)) ?_
    refine need_wp (need_size (den_cat (den_cat (den_str _) rfl) (den_str _)) (by simp only [size_app]; omega)) ?_
    refine ret_wp ?_
    try dsimp only
    simp only [vd, reduceCtorEq, ve, updD]; rw [hv, one_3 (y := y1.v) c3]; rfl
   ·replace c3 : ¬(y1.k = 3) := by first | simpa only [vd, reduceCtorEq, ve, updD] using c3 | (simp only [vd, reduceCtorEq, ve, updD] at c3; grind)
    refine br_wp (fun c4 => ?_) (fun c4 => ?_)
    ·replace c4 : y1.k = 4 := by first | simpa only [vd, reduceCtorEq, ve, updD] using c4 | (simp only [vd, reduceCtorEq, ve, updD] at c4; grind)
     refine call_fun (y1.t) rfl (by first | (simp only [vd, reduceCtorEq, ve, updD]; done) | (simp only [vd, reduceCtorEq, ve, updD]; rfl)) (by omega) ?_
     refine ret_wp ?_
     try dsimp only
     simp only [vd, reduceCtorEq, ve, updD]; rw [hv, one_4 (y := y1.v) c4]; rfl
    ·replace c4 : ¬(y1.k = 4) := by first | simpa only [vd, reduceCtorEq, ve, updD] using c4 | (simp only [vd, reduceCtorEq, ve, updD] at c4; grind)
     refine br_wp (fun c5 => ?_) (fun c5 => ?_)
     ·replace c5 : y1.k = 6 := by first | simpa only [vd, reduceCtorEq, ve, updD] using c5 | (simp only [vd, reduceCtorEq, ve, updD] at c5; grind)
      refine need_wp (by first | exact ⟨_, _, _, rfl⟩ | (simp only [vd, reduceCtorEq, ve, updD]; exact ⟨_, _, _, rfl⟩)) ?_
      refine call_fun ((y1.l.l.length : Int)) rfl (by first | (simp only [vd, reduceCtorEq, ve, updD]; done) | (simp only [vd, reduceCtorEq, ve, updD]; rfl)) (by unfold in64; omega) ?_
      refine need_wp (need_size (den_cat (den_str _) rfl) (by simp only [size_app]; omega)) ?_
      refine need_wp (need_size (den_cat (den_cat (den_str _) rfl) (den_str _)) (by simp only [size_app]; omega)) ?_
      refine need_wp (by first | exact ⟨_, _, _, rfl⟩ | (simp only [vd, reduceCtorEq, ve, updD]; exact ⟨_, _, _, rfl⟩)) ?_
      refine loop_wp (fun bs0 => ∃ (i : Int) (o : ByteArray), bs0 = [aI i, aS o] ∧ (0 ≤ i ∧ i ≤ (y1.l.l.length : Int) ∧ o = (⟨#[42]⟩ : ByteArray) ++ prt (y1.l.l.length : Int) ++ (⟨#[13, 10]⟩ : ByteArray) ++ catB ((y1.l.l.take i.toNat).map bulkB))) (fun bs0 => ((y1.l.l.length : Int) - vi (bs0.getD 0 atom0).1).toNat) ?_ ?_
      ·refine ⟨0, (((⟨#[42]⟩ : ByteArray) ++ (prt (y1.l.l.length : Int))) ++ (⟨#[13, 10]⟩ : ByteArray)), by first | (simp only [vd, reduceCtorEq, ve, updD]; done) | (simp only [vd, reduceCtorEq, ve, updD]; rfl) | simp only [vd, reduceCtorEq, ve, updD, Rw.atom, Rw.nil, List.length_nil, List.map_nil], ?_⟩
       exact ⟨by omega, by omega, (app_nil _).symm⟩
      rintro _ _ ⟨i, o, rfl, ⟨i0, i1, ho⟩⟩
      have hc := cat_take_size y1.l.l i.toNat (by omega)
      have hos : (o.size : Int) ≤ 10000000 := by rw [ho, size_app, size_app, size_app]; omega
      refine br_wp (fun c6 => ?_) (fun c6 => ?_)
      ·replace c6 : i < (y1.l.l.length : Int) := by first | simpa only [vd, reduceCtorEq, ve, updD] using c6 | (simp only [vd, reduceCtorEq, ve, updD] at c6; grind)
       have hgs := get_size i0 c6
       have w1 : IntKind.i64.wrap (i + 1) = i + 1 := wrap_id _ (by omega) (by omega)
       refine need_wp (by first | exact ⟨_, _, _, rfl⟩ | (simp only [vd, reduceCtorEq, ve, updD, w1]; exact ⟨_, _, _, rfl⟩)) ?_
       refine need_wp (by first | exact rw_row _ _ | (simp only [vd, reduceCtorEq, ve, updD, w1]; exact ⟨_, _, rfl⟩)) ?_
       refine need_wp (by simp only [vd, reduceCtorEq, ve, updD, w1, List.length_cons, List.length_nil, List.length_append, List.length_set]; first | omega | (grind)) ?_
       refine need_wp (by first | exact ⟨_, _, _, rfl⟩ | (simp only [vd, reduceCtorEq, ve, updD, w1]; exact ⟨_, _, _, rfl⟩)) ?_
       refine need_wp (by first | exact rw_row _ _ | (simp only [vd, reduceCtorEq, ve, updD, w1]; exact ⟨_, _, rfl⟩)) ?_
       refine need_wp (by first | exact rw_sz' rfl | exact rw_szn (by assumption) (.inr (by omega)) | (simp only [vd, reduceCtorEq, ve, updD, w1]; exact rw_szn (by assumption) (.inr (by omega))) | exact rw_szn (by simp [Rw.ok]) (.inr (by omega))) ?_
       refine need_wp (by simp only [vd, reduceCtorEq, ve, updD, w1]; exact kind_Rs (by omega) (by omega)) ?_
       refine call_fun ((y1.l.get i)) rfl (by first | (simp only [vd, reduceCtorEq, ve, updD, w1]; done) | (simp only [vd, reduceCtorEq, ve, updD, w1]; rfl)) (by omega) ?_
       have hbs := bulk_size (s := y1.l.get i) (by omega)
       refine need_wp (need_size (den_cat rfl rfl) (by simp only [size_app]; omega)) ?_
       refine again_wp rfl ⟨(i + 1), (o ++ (bulkB (y1.l.get i))), by simp only [vd, reduceCtorEq, ve, updD, w1], ?_⟩ ?_
       ·refine ⟨by omega, by omega, ?_⟩; rw [cat_take i0 c6, ho, app_assoc]
       ·(try simp only [vd, reduceCtorEq, ve, updD, w1]); omega
      ·replace c6 : ¬(i < (y1.l.l.length : Int)) := by first | simpa only [vd, reduceCtorEq, ve, updD] using c6 | (simp only [vd, reduceCtorEq, ve, updD] at c6; grind)
       have hi : i = y1.l.l.length := by omega
       refine pop_wp ?_
       refine ret_wp ?_
       try dsimp only
       simp only [vd, reduceCtorEq, ve, updD]; rw [hv, one_6 (y := y1.v) c5, ho, hi, Int.toNat_natCast, List.take_length]; rfl
     ·replace c5 : ¬(y1.k = 6) := by first | simpa only [vd, reduceCtorEq, ve, updD] using c5 | (simp only [vd, reduceCtorEq, ve, updD] at c5; grind)
      refine ret_wp ?_
      try dsimp only
      simp only [vd, reduceCtorEq, ve, updD]; rw [hv, one_5 (y := y1.v) c1 c2 c3 c4 c5]
def kSameB (sg : Sig) : Sig × Con := (sg, mkFun (fun x : Rw Int × Rw Int => ([Rw.atom eB x.1, Rw.atom eB x.2] : List Atom)) (fun x => (x.1.ok 1 ∧ isB x.1.l) ∧ x.2.ok 1 ∧ isB x.2.l) (fun x => [aB (decide (ofBytes x.1.l = ofBytes x.2.l))]))
set_option maxHeartbeats 1000000 in
theorem h10 : holds Tryd.prog (kSameB sg10) := by
 refine fn_holds (l := []) trivial hP rs10 (inj_of (fun l : List Atom => ((Rw.un unI (l.getD 0 atom0), Rw.un unI (l.getD 1 atom0)) : Rw Int × Rw Int)) (fun _ => by simp [List.getD_cons_zero, List.getD_cons_succ, unA_atom, unF_at])) Tryd.func10 (by kernel_rfl) (c := code Tryd.f10) (by kernel_rfl) (an := an10) (by kernel_rfl) (pk := pk10) rfl (t := t10) (by kernel_rfl) ?_
 rintro ⟨a, b⟩ ⟨⟨a1, a2⟩, b1, b2⟩
 refine ⟨by simp [pk10, KindsOk, RK.ok, Rw.atom, Sl.atom], ?_⟩
 unfold t10
 dsimp only at a1 a2 b1 b2
 refine need_wp (by first | exact ⟨_, _, _, rfl⟩ | (simp only [vd, reduceCtorEq, ve, updD]; exact ⟨_, _, _, rfl⟩)) ?_
 refine need_wp (by simp only [vd, reduceCtorEq, ve, updD]; exact need_bytes (by assumption) (by assumption)) ?_
 refine need_wp (by first | exact ⟨_, _, _, rfl⟩ | (simp only [vd, reduceCtorEq, ve, updD]; exact ⟨_, _, _, rfl⟩)) ?_
 refine need_wp (by simp only [vd, reduceCtorEq, ve, updD]; exact need_bytes (by assumption) (by assumption)) ?_
 refine ret_wp ?_
 try dsimp only
 simp only [vd, reduceCtorEq, ve, updD]
end Go.Proofs.YtbcbjgomnhajdaaDoorK
end

section
set_option linter.unusedSimpArgs false
set_option linter.unusedVariables false
set_option linter.unnecessarySimpa false
namespace Go.Proofs.YtbcbjgomnhajdaaDoorK
open Go Go.Proofs.YtbcbjgomnhajdaaDoorV Go.Proofs Go.Proofs.YtbcbjgomnhajdaaDoorK Go.Proofs.YtbcbjgomnhajdaaDoorK
def kEnc (sg : Sig) : Sig × Con := (sg, mkRel (fun x : Rw Rep => ([Rw.atom eP x] : List Atom)) (okR 100000) (fun x : Rw Int => ([Rw.atom eB x] : List Atom)) (fun x z => z.l = bi (encV (x.l.map Rep.v)) ∧ z.ok 1))
set_option maxHeartbeats 1000000 in
theorem h11 : holds Tryd.prog (kEnc sg11) := by
 refine fn_holds (l := [kOne sg23]) ⟨h23, trivial⟩ hP rs11 (inj_of (fun l : List Atom => (Rw.un unP (l.getD 0 atom0) : Rw Rep)) (fun _ => by simp [List.getD_cons_zero, List.getD_cons_succ, unA_atom, unF_at])) Tryd.func11 (by kernel_rfl) (c := code Tryd.f11) (by kernel_rfl) (an := an11) (by kernel_rfl) (pk := pk11) rfl (t := t11) (by kernel_rfl) ?_
 rintro r hr
 refine ⟨by simp [pk11, KindsOk, RK.ok, Rw.atom, Sl.atom], ?_⟩
 unfold t11
 have k4 : r.ok 4 := hr.1
 have hL : (r.l.length : Int) ≤ 100000 := by have := lenL_len (r.l.map Rep.v); have := hr.2.2; rw [List.length_map] at *; omega
 refine need_wp (by first | exact ⟨_, _, _, rfl⟩ | (simp only [vd, reduceCtorEq, ve, updD]; exact ⟨_, _, _, rfl⟩)) ?_
 refine need_wp (by first | exact ⟨_, _, _, rfl⟩ | (simp only [vd, reduceCtorEq, ve, updD]; exact ⟨_, _, _, rfl⟩)) ?_
 refine loop_wp (fun bs0 => ∃ (i : Int) (z : Rw Int), bs0 = [aI i, Rw.atom eB z] ∧ (0 ≤ i ∧ i ≤ (r.l.length : Int) ∧ z.l = bi (encV ((r.l.take i.toNat).map Rep.v)) ∧ z.ok 1)) (fun bs0 => ((r.l.length : Int) - vi (bs0.getD 0 atom0).1).toNat) ?_ ?_
 ·refine ⟨0, Rw.nil, by first | (simp only [vd, reduceCtorEq, ve, updD]; done) | (simp only [vd, reduceCtorEq, ve, updD]; rfl) | simp only [vd, reduceCtorEq, ve, updD, Rw.atom, Rw.nil, List.length_nil, List.map_nil], ?_⟩
  exact ⟨by omega, by omega, rfl, .inl rfl⟩
 rintro _ _ ⟨i, z, rfl, ⟨i0, i1, hz, kz⟩⟩
 have hzn : (z.l.length : Int) ≤ 6000000 := by rw [hz, bi_len]; exact enc_take_size hr (by omega) _
 refine br_wp (fun c1 => ?_) (fun c1 => ?_)
 ·replace c1 : i < (r.l.length : Int) := by first | simpa only [vd, reduceCtorEq, ve, updD] using c1 | (simp only [vd, reduceCtorEq, ve, updD] at c1; grind)
  have hc3 := cell_P3 r i0 c1
  have kg := okR_ok hr i0 c1
  have w1 : IntKind.i64.wrap (i + 1) = i + 1 := wrap_id _ (by omega) (by omega)
  obtain ⟨hx1, hx2⟩ := okR_get hr (by omega) i0 c1
  have hos := one_size (x := (r.get i).v) hx1.2 hx2
  have hol := hx1.2
  refine need_wp (by first | exact ⟨_, _, _, rfl⟩ | (simp only [vd, reduceCtorEq, ve, updD, hc3, w1]; exact ⟨_, _, _, rfl⟩)) ?_
  refine need_wp (by first | exact rw_row _ _ | (simp only [vd, reduceCtorEq, ve, updD, hc3, w1]; exact ⟨_, _, rfl⟩)) ?_
  refine need_wp (by simp only [vd, reduceCtorEq, ve, updD, hc3, w1, List.length_cons, List.length_nil, List.length_append, List.length_set]; first | omega | (grind)) ?_
  refine need_wp (by first | exact ⟨_, _, _, rfl⟩ | (simp only [vd, reduceCtorEq, ve, updD, hc3, w1]; exact ⟨_, _, _, rfl⟩)) ?_
  refine need_wp (by first | exact rw_row _ _ | (simp only [vd, reduceCtorEq, ve, updD, hc3, w1]; exact ⟨_, _, rfl⟩)) ?_
  refine need_wp (by first | exact rw_sz' rfl | exact rw_szn (by assumption) (.inr (by omega)) | (simp only [vd, reduceCtorEq, ve, updD, hc3, w1]; exact rw_szn (by assumption) (.inr (by omega))) | exact rw_szn (by simp [Rw.ok]) (.inr (by omega))) ?_
  refine need_wp (by simp only [vd, reduceCtorEq, ve, updD, hc3, w1]; exact kind_Rp0 (by omega) (by omega)) ?_
  refine need_wp (by simp only [vd, reduceCtorEq, ve, updD, hc3, w1]; exact kind_Rp1 (by omega) (by omega)) ?_
  refine need_wp (by simp only [vd, reduceCtorEq, ve, updD, hc3, w1]; exact kind_Rp2 (by omega) (by omega)) ?_
  refine need_wp (by simp only [vd, reduceCtorEq, ve, updD, hc3, w1]; first | exact ⟨_, _, _, rfl⟩ | exact kind_Rp3 (by omega) (by omega)) ?_
  refine call_fun ((r.get i)) rfl (by first | (simp only [vd, reduceCtorEq, ve, updD, hc3, w1]; done) | (simp only [vd, reduceCtorEq, ve, updD, hc3, w1]; rfl)) (⟨hx1, hx2⟩) ?_
  refine need_wp (by simp only [vd, reduceCtorEq, ve, updD, hc3, w1, List.length_cons, List.length_nil, List.length_append, List.length_set]; first | omega | (grind)) ?_
  refine need_wp (by simp only [vd, reduceCtorEq, ve, updD, hc3, w1, List.length_cons, List.length_nil, List.length_append, List.length_set]; first | omega | (grind)) ?_
  refine apps_wp z (oneV (r.get i).v) (by first | rfl | simp only [vd, reduceCtorEq, ve, updD, hc3, w1]) (by first | rfl | simp only [vd, reduceCtorEq, ve, updD, hc3, w1]) ?_
  intro a1 b1
  generalize hx1 : (⟨a1, b1, 1, z.l ++ bi (oneV (r.get i).v)⟩ : Rw Int) = x1
  have lx1 : x1.l = z.l ++ bi (oneV (r.get i).v) := by rw [← hx1]
  have zx1 : x1.z = 1 := by rw [← hx1]
  have kx1 : Rw.ok 1 x1 := .inr zx1
  refine need_wp (by first | exact ⟨_, _, _, rfl⟩ | (simp only [vd, reduceCtorEq, ve, updD, hc3, w1]; exact ⟨_, _, _, rfl⟩)) ?_
  refine again_wp rfl ⟨(i + 1), x1, by simp only [vd, reduceCtorEq, ve, updD, hc3, w1], ?_⟩ ?_
  ·refine ⟨by omega, by omega, ?_, by assumption⟩; rw [take_v i0 c1, encV_app, bi_app, ← hz, lx1]
  ·(try simp only [vd, reduceCtorEq, ve, updD, hc3, w1]); omega
 ·replace c1 : ¬(i < (r.l.length : Int)) := by first | simpa only [vd, reduceCtorEq, ve, updD] using c1 | (simp only [vd, reduceCtorEq, ve, updD] at c1; grind)
  have hi : i = r.l.length := by omega
  refine pop_wp ?_
  refine need_wp (by first | exact ⟨_, _, _, rfl⟩ | (simp only [vd, reduceCtorEq, ve, updD]; exact ⟨_, _, _, rfl⟩)) ?_
  refine ret_wp ?_
  refine ⟨z, by first | (simp only [vd, reduceCtorEq, ve, updD]; done) | (simp only [vd, reduceCtorEq, ve, updD]; rfl), ?_⟩
  try dsimp only
  exact ⟨by rw [hz, hi, Int.toNat_natCast, List.take_length], kz⟩
end Go.Proofs.YtbcbjgomnhajdaaDoorK
end

section
set_option linter.unusedSimpArgs false
set_option linter.unusedVariables false
set_option linter.unnecessarySimpa false
namespace Go.Proofs.YtbcbjgomnhajdaaDoorK
open Go Go.Proofs.YtbcbjgomnhajdaaDoorV Go.Proofs Go.Proofs.YtbcbjgomnhajdaaDoorK Go.Proofs.YtbcbjgomnhajdaaDoorK
def kKnown (sg : Sig) : Sig × Con := (sg, mkFun (fun _ : Unit => ([] : List Atom)) (fun _ => True) (fun _ => [aB true]))
set_option maxHeartbeats 1000000 in
theorem h7 : holds Tryd.prog (kKnown sg7) := by
 refine fn_holds (l := [kEnc sg11, kRight sg9]) ⟨h11, h9, trivial⟩ hP rs7 (inj_of (fun l : List Atom => (() : Unit)) (fun _ => rfl)) Tryd.func7 (by kernel_rfl) (c := code Tryd.f7) (by kernel_rfl) (an := an7) (by kernel_rfl) (pk := pk7) rfl (t := t7) (by kernel_rfl) ?_
 rintro _ _
 refine ⟨by simp [pk7, KindsOk, RK.ok, Rw.atom, Sl.atom], ?_⟩
 unfold t7
 refine new_wp eP [(⟨3, (⟨#[]⟩ : ByteArray), (-5), Rw.nil⟩ : Rep), (⟨5, (⟨#[]⟩ : ByteArray), 0, Rw.nil⟩ : Rep)] (by first | (simp only [vd, reduceCtorEq, ve, updD, eP]; done) | rfl) ?_
 intro a1 b1
 generalize hx1 : (⟨a1, b1, 4, [(⟨3, (⟨#[]⟩ : ByteArray), (-5), Rw.nil⟩ : Rep), (⟨5, (⟨#[]⟩ : ByteArray), 0, Rw.nil⟩ : Rep)]⟩ : Rw Rep) = x1
 have lx1 : x1.l = [(⟨3, (⟨#[]⟩ : ByteArray), (-5), Rw.nil⟩ : Rep), (⟨5, (⟨#[]⟩ : ByteArray), 0, Rw.nil⟩ : Rep)] := by first | (rw [← hx1]; done) | (rw [← hx1]; rfl)
 have zx1 : x1.z = 4 := by rw [← hx1]
 have kx1 : Rw.ok 4 x1 := .inr zx1
 have nx1 : (x1.l.length : Int) = 2 := by first | (rw [← hx1]; done) | (rw [← hx1]; simp [Rw.nil])
 refine call_rel (x1) rfl (by first | (simp only [vd, reduceCtorEq, ve, updD]; done) | (simp only [vd, reduceCtorEq, ve, updD]; rfl)) (⟨.inr zx1, by rw [lx1]; intro x hx; simp only [List.mem_cons, List.not_mem_nil, or_false] at hx; rcases hx with rfl | rfl <;> exact ⟨.inl rfl, by unfold in64; decide⟩, by rw [lx1]; decide⟩) ?_
 rintro z2 ⟨ez2, oz2⟩
 try dsimp only at ez2 oz2
 have hB : isB z2.l := by rw [ez2]; exact isB_bi _
 have hE : ofBytes z2.l = (⟨#[58, 45, 53, 13, 10, 36, 45, 49, 13, 10]⟩ : ByteArray) := by rw [ez2, ofBytes_bi, lx1]; exact known_enc
 refine need_wp (by first | exact ⟨_, _, _, rfl⟩ | (simp only [vd, reduceCtorEq, ve, updD]; exact ⟨_, _, _, rfl⟩)) ?_
 refine need_wp (by simp only [vd, reduceCtorEq, ve, updD]; exact need_bytes (by assumption) (by assumption)) ?_
 refine br_wp (fun c1 => ?_) (fun c1 => ?_)
 ·replace c1 : (ofBytes z2.l) = (⟨#[58, 45, 53, 13, 10, 36, 45, 49, 13, 10]⟩ : ByteArray) := by first | simpa only [vd, reduceCtorEq, ve, updD] using c1 | (simp only [vd, reduceCtorEq, ve, updD] at c1; grind)
  refine call_fun ((⟨0, (⟨#[]⟩ : ByteArray), 0, Rw.nil⟩ : Rep)) rfl (by first | (simp only [vd, reduceCtorEq, ve, updD]; done) | (simp only [vd, reduceCtorEq, ve, updD]; rfl)) (⟨.inl rfl, by decide⟩) ?_
  refine ret_wp ?_
  try dsimp only
  simp only [vd, reduceCtorEq, ve, updD]; decide
 ·replace c1 : ¬((ofBytes z2.l) = (⟨#[58, 45, 53, 13, 10, 36, 45, 49, 13, 10]⟩ : ByteArray)) := by first | simpa only [vd, reduceCtorEq, ve, updD] using c1 | (simp only [vd, reduceCtorEq, ve, updD] at c1; grind)
  exfalso; exact c1 hE
end Go.Proofs.YtbcbjgomnhajdaaDoorK
end
