import Derived.Test.YtamjocnlhhhijaaVRRC
set_option linter.unusedSimpArgs false
set_option linter.unusedVariables false
set_option linter.unnecessarySimpa false
namespace Go.Proofs.YtamjocnlhhhijaaK
open Go Go.Proofs.YtamjocnlhhhijaaV Go.Proofs Go.Proofs.YtamjocnlhhhijaaK Go.Proofs.YtamjocnlhhhijaaK
def kLineC (sg : Sig) : Sig × Con := (sg, mkFun (fun x : Int × Int => ([aK .u8 x.1, aI x.2] : List Atom)) (fun x => (0 ≤ x.1 ∧ x.1 < 256) ∧ in64 x.2) (fun x => [aS (lineC x.1 x.2)]))
set_option maxHeartbeats 1000000 in
theorem h30 : holds Try.prog (kLineC sg30) := by
 refine fn_holds (l := [kPrint sg39]) ⟨h39, trivial⟩ hP rs30 (inj_of (fun l : List Atom => ((vi (l.getD 0 atom0).1, vi (l.getD 1 atom0).1) : Int × Int)) (fun _ => rfl)) Try.func30 (by kernel_rfl) (c := code Try.f30) (by kernel_rfl) (an := an30) (by kernel_rfl) (pk := pk30) rfl (t := t30) (by kernel_rfl) ?_
 rintro ⟨c, n⟩ ⟨⟨c0, c1⟩, hn⟩
 refine ⟨by simp [pk30, KindsOk, RK.ok, Rw.atom, Sl.atom], ?_⟩
 unfold t30
 dsimp only at c0 c1 hn
 have zn := prt_size hn
 have z1 : ((ofBytes [c]).size : Int) = 1 := rfl
 have z2 : ((⟨#[13, 10]⟩ : ByteArray).size : Int) = 2 := rfl
 refine both_wp ?_ ?_
 ·refine new_wp eB [c] (by first | (simp only [vd, reduceCtorEq, ve, updD, eB]; done) | rfl) ?_
  intro a1 b1
  refine both_wp ?_ ?_
  ·refine need_wp (by first | exact ⟨_, _, _, rfl⟩ | (simp only [vd, reduceCtorEq, ve, updD]; exact bytes_one _ _ c0 c1) | (simp only [vd, reduceCtorEq, ve, updD]; omega) | (simp only [vd, reduceCtorEq, ve, updD, size_app]; omega)) ?_
   refine need_wp (by first | exact ⟨_, _, _, rfl⟩ | (simp only [vd, reduceCtorEq, ve, updD]; exact bytes_one _ _ c0 c1) | (simp only [vd, reduceCtorEq, ve, updD]; omega) | (simp only [vd, reduceCtorEq, ve, updD, size_app]; omega)) ?_
   refine call_fun (n) rfl (by first | (simp only [vd, reduceCtorEq, ve, updD]; done) | (simp only [vd, reduceCtorEq, ve, updD]; rfl)) hn ?_
   refine need_wp (by first | exact ⟨_, _, _, rfl⟩ | (simp only [vd, reduceCtorEq, ve, updD]; exact bytes_one _ _ c0 c1) | (simp only [vd, reduceCtorEq, ve, updD]; omega) | (simp only [vd, reduceCtorEq, ve, updD, size_app]; omega)) ?_
   refine need_wp (by first | exact ⟨_, _, _, rfl⟩ | (simp only [vd, reduceCtorEq, ve, updD]; exact bytes_one _ _ c0 c1) | (simp only [vd, reduceCtorEq, ve, updD]; omega) | (simp only [vd, reduceCtorEq, ve, updD, size_app]; omega)) ?_
   refine ret_wp ?_
   try dsimp only
   simp only [vd, reduceCtorEq, ve, updD]; rfl
  ·refine call_fun (n) rfl (by first | (simp only [vd, reduceCtorEq, ve, updD]; done) | (simp only [vd, reduceCtorEq, ve, updD]; rfl)) hn ?_
   refine need_wp (by first | exact ⟨_, _, _, rfl⟩ | (simp only [vd, reduceCtorEq, ve, updD]; exact bytes_one _ _ c0 c1) | (simp only [vd, reduceCtorEq, ve, updD]; omega) | (simp only [vd, reduceCtorEq, ve, updD, size_app]; omega)) ?_
   refine need_wp (by first | exact ⟨_, _, _, rfl⟩ | (simp only [vd, reduceCtorEq, ve, updD]; exact bytes_one _ _ c0 c1) | (simp only [vd, reduceCtorEq, ve, updD]; omega) | (simp only [vd, reduceCtorEq, ve, updD, size_app]; omega)) ?_
   refine need_wp (by first | exact ⟨_, _, _, rfl⟩ | (simp only [vd, reduceCtorEq, ve, updD]; exact bytes_one _ _ c0 c1) | (simp only [vd, reduceCtorEq, ve, updD]; omega) | (simp only [vd, reduceCtorEq, ve, updD, size_app]; omega)) ?_
   refine need_wp (by first | exact ⟨_, _, _, rfl⟩ | (simp only [vd, reduceCtorEq, ve, updD]; exact bytes_one _ _ c0 c1) | (simp only [vd, reduceCtorEq, ve, updD]; omega) | (simp only [vd, reduceCtorEq, ve, updD, size_app]; omega)) ?_
   refine ret_wp ?_
   try dsimp only
   simp only [vd, reduceCtorEq, ve, updD]; rfl
 ·refine call_fun (n) rfl (by first | (simp only [vd, reduceCtorEq, ve, updD]; done) | (simp only [vd, reduceCtorEq, ve, updD]; rfl)) hn ?_
  refine new_wp eB [c] (by first | (simp only [vd, reduceCtorEq, ve, updD, eB]; done) | rfl) ?_
  intro a2 b2
  refine need_wp (by first | exact ⟨_, _, _, rfl⟩ | (simp only [vd, reduceCtorEq, ve, updD]; exact bytes_one _ _ c0 c1) | (simp only [vd, reduceCtorEq, ve, updD]; omega) | (simp only [vd, reduceCtorEq, ve, updD, size_app]; omega)) ?_
  refine need_wp (by first | exact ⟨_, _, _, rfl⟩ | (simp only [vd, reduceCtorEq, ve, updD]; exact bytes_one _ _ c0 c1) | (simp only [vd, reduceCtorEq, ve, updD]; omega) | (simp only [vd, reduceCtorEq, ve, updD, size_app]; omega)) ?_
  refine need_wp (by first | exact ⟨_, _, _, rfl⟩ | (simp only [vd, reduceCtorEq, ve, updD]; exact bytes_one _ _ c0 c1) | (simp only [vd, reduceCtorEq, ve, updD]; omega) | (simp only [vd, reduceCtorEq, ve, updD, size_app]; omega)) ?_
  refine need_wp (by first | exact ⟨_, _, _, rfl⟩ | (simp only [vd, reduceCtorEq, ve, updD]; exact bytes_one _ _ c0 c1) | (simp only [vd, reduceCtorEq, ve, updD]; omega) | (simp only [vd, reduceCtorEq, ve, updD, size_app]; omega)) ?_
  refine ret_wp ?_
  try dsimp only
  simp only [vd, reduceCtorEq, ve, updD]; rfl
set_option maxHeartbeats 1000000 in
theorem h23 : holds Try.prog (kCmd sg23) := by
 refine fn_holds (l := [kLineC sg30]) ⟨h30, trivial⟩ hP rs23 (inj_of (fun l : List Atom => (Rw.un unS (l.getD 0 atom0) : Rw ByteArray)) (fun _ => by simp [List.getD_cons_zero, List.getD_cons_succ, unA_atom, unL_atom])) Try.func23 (by kernel_rfl) (c := code Try.f23) (by kernel_rfl) (an := an23) (by kernel_rfl) (pk := pk23) rfl (t := t23) (by kernel_rfl) ?_
 rintro r ⟨kr, hM⟩
 refine ⟨by simp [pk23, KindsOk, RK.ok, Rw.atom, Sl.atom], ?_⟩
 unfold t23
 have hL : (r.l.length : Int) ≤ 100000 := by have := lenS_len r.l; omega
 have hLn : in64 (r.l.length : Int) := by unfold in64; omega
 have zl := lineC_size (c := 42) hLn
 have z2 : ((⟨#[13, 10]⟩ : ByteArray).size : Int) = 2 := rfl
 refine need_wp (by first | exact ⟨_, _, _, rfl⟩ | (simp only [vd, reduceCtorEq, ve, updD]; exact ⟨_, _, _, rfl⟩)) ?_
 refine call_fun ((42, (r.l.length : Int))) rfl (by first | (simp only [vd, reduceCtorEq, ve, updD]; done) | (simp only [vd, reduceCtorEq, ve, updD]; rfl)) (⟨⟨by dsimp only; omega, by dsimp only; omega⟩, by unfold in64; dsimp only; omega⟩) ?_
 refine need_wp (by simp only [vd, reduceCtorEq, ve, updD, List.length_cons, List.length_nil, List.length_append, List.length_set]; first | omega | (grind)) ?_
 refine apps_wp (⟨none, 0, 1, []⟩ : Rw Int) (lineC 42 (r.l.length : Int)) (by first | rfl | simp only [vd, reduceCtorEq, ve, updD]) (by first | rfl | simp only [vd, reduceCtorEq, ve, updD]) ?_
 intro a1 b1
 generalize hx1 : (⟨a1, b1, 1, ([] : List Int) ++ bi (lineC 42 (r.l.length : Int))⟩ : Rw Int) = x1
 have lx1 : x1.l = bi (lineC 42 (r.l.length : Int)) := by rw [← hx1]; rfl
 have zx1 : x1.z = 1 := by rw [← hx1]
 have kx1 : Rw.ok 1 x1 := .inr zx1
 refine need_wp (by first | exact ⟨_, _, _, rfl⟩ | (simp only [vd, reduceCtorEq, ve, updD]; exact ⟨_, _, _, rfl⟩)) ?_
 refine need_wp (by first | exact ⟨_, _, _, rfl⟩ | (simp only [vd, reduceCtorEq, ve, updD]; exact ⟨_, _, _, rfl⟩)) ?_
 refine loop_wp (fun bs0 => ∃ (x : Rw Int) (i : Int), bs0 = [Rw.atom eB x, aI i] ∧ (0 ≤ i ∧ i ≤ (r.l.length : Int) ∧ x.l = bi (lineC 42 (r.l.length : Int) ++ catB ((r.l.take i.toNat).map bulkB)) ∧ x.ok 1)) (fun bs0 => ((r.l.length : Int) - vi (bs0.getD 1 atom0).1).toNat) ?_ ?_
 ·refine ⟨x1, 0, by first | (simp only [vd, reduceCtorEq, ve, updD]; done) | (simp only [vd, reduceCtorEq, ve, updD]; rfl) | simp only [vd, reduceCtorEq, ve, updD, Rw.atom, Rw.nil, List.length_nil, List.map_nil], ?_⟩
  exact ⟨by omega, by omega, by rw [lx1]; exact congrArg bi (app_nil _).symm, kx1⟩
 rintro _ _ ⟨x, i, rfl, ⟨i0, i1, hx, kx⟩⟩
 have hc := cat_take_size r.l i.toNat (by omega)
 have hxn : (x.l.length : Int) ≤ 10000000 := by rw [hx, bi_len, size_app]; omega
 refine br_wp (fun c1 => ?_) (fun c1 => ?_)
 ·replace c1 : i < (r.l.length : Int) := by first | simpa only [vd, reduceCtorEq, ve, updD] using c1 | (simp only [vd, reduceCtorEq, ve, updD] at c1; grind)
  have hgs := get_size i0 c1
  have hsn : in64 ((r.get i).size : Int) := by unfold in64; omega
  have zi := lineC_size (c := 36) hsn
  have w1 : IntKind.i64.wrap (i + 1) = i + 1 := wrap_id _ (by omega) (by omega)
  refine need_wp (by first | exact ⟨_, _, _, rfl⟩ | (simp only [vd, reduceCtorEq, ve, updD, w1]; exact ⟨_, _, _, rfl⟩)) ?_
  refine need_wp (by first | exact rw_row _ _ | (simp only [vd, reduceCtorEq, ve, updD, w1]; exact ⟨_, _, rfl⟩)) ?_
  refine need_wp (by simp only [vd, reduceCtorEq, ve, updD, w1, List.length_cons, List.length_nil, List.length_append, List.length_set]; first | omega | (grind)) ?_
  refine need_wp (by first | exact ⟨_, _, _, rfl⟩ | (simp only [vd, reduceCtorEq, ve, updD, w1]; exact ⟨_, _, _, rfl⟩)) ?_
  refine need_wp (by first | exact rw_row _ _ | (simp only [vd, reduceCtorEq, ve, updD, w1]; exact ⟨_, _, rfl⟩)) ?_
  refine need_wp (by first | exact rw_sz' rfl | exact rw_szn (by assumption) (.inr (by omega)) | (simp only [vd, reduceCtorEq, ve, updD, w1]; exact rw_szn (by assumption) (.inr (by omega))) | exact rw_szn (by simp [Rw.ok]) (.inr (by omega))) ?_
  refine need_wp (by simp only [vd, reduceCtorEq, ve, updD, w1]; exact kind_Rs (by omega) (by omega)) ?_
  refine call_fun ((36, ((r.get i).size : Int))) rfl (by first | (simp only [vd, reduceCtorEq, ve, updD, w1]; done) | (simp only [vd, reduceCtorEq, ve, updD, w1]; rfl)) (⟨⟨by dsimp only; omega, by dsimp only; omega⟩, by unfold in64; dsimp only; omega⟩) ?_
  refine need_wp (need_size (den_cat rfl (den_cS (r := r) (j := i) rfl rfl (by omega) (by omega))) (by simp only [size_app]; omega)) ?_
  refine need_wp (need_size (den_cat (den_cat rfl (den_cS (r := r) (j := i) rfl rfl (by omega) (by omega))) (den_str _)) (by simp only [size_app]; omega)) ?_
  refine need_wp (by first | exact rw_row _ _ | (simp only [vd, reduceCtorEq, ve, updD, w1]; exact ⟨_, _, rfl⟩)) ?_
  refine need_wp (by simp only [vd, reduceCtorEq, ve, updD, w1, List.length_cons, List.length_nil, List.length_append, List.length_set]; first | omega | (grind)) ?_
  refine need_wp (by simp only [vd, reduceCtorEq, ve, updD, w1, List.length_cons, List.length_nil, List.length_append, List.length_set]; first | omega | (grind)) ?_
  refine apps_wp x (((lineC 36 ((r.get i).size : Int)) ++ (r.get i)) ++ (⟨#[13, 10]⟩ : ByteArray)) (by first | rfl | simp only [vd, reduceCtorEq, ve, updD, w1]) (by first | rfl | simp only [vd, reduceCtorEq, ve, updD, w1]) ?_
  intro a2 b2
  generalize hx2 : (⟨a2, b2, 1, x.l ++ bi (((lineC 36 ((r.get i).size : Int)) ++ (r.get i)) ++ (⟨#[13, 10]⟩ : ByteArray))⟩ : Rw Int) = x2
  have lx2 : x2.l = x.l ++ bi (((lineC 36 ((r.get i).size : Int)) ++ (r.get i)) ++ (⟨#[13, 10]⟩ : ByteArray)) := by rw [← hx2]
  have zx2 : x2.z = 1 := by rw [← hx2]
  have kx2 : Rw.ok 1 x2 := .inr zx2
  refine need_wp (by first | exact ⟨_, _, _, rfl⟩ | (simp only [vd, reduceCtorEq, ve, updD, w1]; exact ⟨_, _, _, rfl⟩)) ?_
  refine again_wp rfl ⟨x2, (i + 1), by simp only [vd, reduceCtorEq, ve, updD, w1], ?_⟩ ?_
  ·exact ⟨by omega, by omega, by rw [lx2, hx, ← bi_app, cat_take i0 c1, lineC_36, app_assoc], kx2⟩
  ·(try simp only [vd, reduceCtorEq, ve, updD, w1]); omega
 ·replace c1 : ¬(i < (r.l.length : Int)) := by first | simpa only [vd, reduceCtorEq, ve, updD] using c1 | (simp only [vd, reduceCtorEq, ve, updD] at c1; grind)
  have hi : i = r.l.length := by omega
  refine pop_wp ?_
  refine need_wp (by first | exact ⟨_, _, _, rfl⟩ | (simp only [vd, reduceCtorEq, ve, updD]; exact ⟨_, _, _, rfl⟩)) ?_
  refine ret_wp ?_
  refine ⟨x, by first | (simp only [vd, reduceCtorEq, ve, updD]; done) | (simp only [vd, reduceCtorEq, ve, updD]; rfl), ?_⟩
  try dsimp only
  exact ⟨by rw [hx, hi, Int.toNat_natCast, List.take_length]; rfl, kx⟩
end Go.Proofs.YtamjocnlhhhijaaK
