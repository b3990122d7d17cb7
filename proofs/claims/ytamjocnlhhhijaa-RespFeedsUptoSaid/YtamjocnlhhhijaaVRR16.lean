import Derived.Test.YtamjocnlhhhijaaVRRh
import Derived.Test.YtamjocnlhhhijaaVRRD
import Derived.Test.YtamjocnlhhhijaaVRRt
set_option linter.unusedSimpArgs false
set_option linter.unusedVariables false
set_option linter.unnecessarySimpa false
namespace Go.Proofs.YtamjocnlhhhijaaK
open Go Go.Proofs.YtamjocnlhhhijaaV Go.Proofs Go.Proofs.YtamjocnlhhhijaaK Go.Proofs.YtamjocnlhhhijaaK Go.Proofs.YtamjocnlhhhijaaS
def kJoin (sg : Sig) : Sig × Con := (sg, mkRel (fun x : Rw (Rw Int) => ([Rw.atom eQ x] : List Atom)) (fun q => okQ q ∧ q.l.length ≤ 1000 ∧ (catQ q.l).length ≤ 2000000) (fun x : Rw Int => ([Rw.atom eB x] : List Atom)) (fun q z => z.l = catQ q.l ∧ z.ok 1))
set_option maxHeartbeats 1000000 in
theorem h16 : holds Try.prog (kJoin sg16) := by
 refine fn_holds (l := []) trivial hP rs16 (inj_of (fun l : List Atom => (Rw.un unQ (l.getD 0 atom0) : Rw (Rw Int))) (fun _ => by simp [List.getD_cons_zero, List.getD_cons_succ, unA_atom, unL_atom, unQ_atom])) Try.func16 (by kernel_rfl) (c := code Try.f16) (by kernel_rfl) (an := an16) (by kernel_rfl) (pk := pk16) rfl (t := t16) (by kernel_rfl) ?_
 rintro q ⟨hq, hr, hl⟩
 refine ⟨by simp [pk16, KindsOk, RK.ok, Rw.atom, Sl.atom], ?_⟩
 unfold t16
 have kq : q.ok 1 := hq.1
 refine need_wp (by first | exact ⟨_, _, _, rfl⟩ | (simp only [vd, reduceCtorEq, ve, updD, vdc]; exact ⟨_, _, _, rfl⟩)) ?_
 refine loop_wp (fun bs0 => ∃ (i : Int) (x : Rw Int), bs0 = [aI i, Rw.atom eB x] ∧ (0 ≤ i ∧ i ≤ (q.l.length : Int) ∧ x.l = catQ (q.l.take i.toNat) ∧ x.ok 1)) (fun bs0 => ((q.l.length : Int) - vi (bs0.getD 0 atom0).1).toNat) ?_ ?_
 ·refine ⟨0, Rw.nil, by first | (simp only [vd, reduceCtorEq, ve, updD, vdc]; done) | (simp only [vd, reduceCtorEq, ve, updD, vdc]; rfl) | simp only [vd, reduceCtorEq, ve, updD, vdc, Rw.atom, Rw.nil, List.length_nil, List.map_nil], ?_⟩
  exact ⟨by omega, by omega, rfl, .inl rfl⟩
 rintro _ _ ⟨i, x, rfl, ⟨i0, i1, hx, kx⟩⟩
 refine need_wp (by first | exact ⟨_, _, _, rfl⟩ | (simp only [vd, reduceCtorEq, ve, updD, vdc]; exact ⟨_, _, _, rfl⟩)) ?_
 refine br_wp (fun c1 => ?_) (fun c1 => ?_)
 ·replace c1 : i < (q.l.length : Int) := by first | simpa only [vd, reduceCtorEq, ve, updD, vdc] using c1 | (simp only [vd, reduceCtorEq, ve, updD, vdc] at c1; grind)
  have w1 : IntKind.i64.wrap (i + 1) = i + 1 := wrap_id _ (by omega) (by omega)
  have hc := cell_Q q (i := i) i0 c1
  have hgq := hq.2 _ (get_memL i0 c1)
  have kg : (q.get i).ok 1 := hgq.1
  have ht := catQ_take i0 c1
  have hl1 := catQ_le q.l i.toNat
  have hl2 := catQ_le q.l (i + 1).toNat
  rw [ht, List.length_append] at hl2
  rw [← hx] at hl1 hl2
  refine need_wp (by first | exact ⟨_, _, _, rfl⟩ | (simp only [vd, reduceCtorEq, ve, updD, vdc, w1, hc]; exact ⟨_, _, _, rfl⟩)) ?_
  refine need_wp (by first | exact rw_row _ _ | (simp only [vd, reduceCtorEq, ve, updD, vdc, w1, hc]; exact ⟨_, _, rfl⟩)) ?_
  refine need_wp (by simp only [vd, reduceCtorEq, ve, updD, vdc, w1, hc, List.length_cons, List.length_nil, List.length_append, List.length_set]; first | omega | (grind)) ?_
  refine need_wp (by first | exact ⟨_, _, _, rfl⟩ | (simp only [vd, reduceCtorEq, ve, updD, vdc, w1, hc]; exact ⟨_, _, _, rfl⟩)) ?_
  refine need_wp (by first | exact rw_row _ _ | (simp only [vd, reduceCtorEq, ve, updD, vdc, w1, hc]; exact ⟨_, _, rfl⟩)) ?_
  refine need_wp (by first | exact rw_sz' rfl | exact rw_szn (by assumption) (.inr (by omega)) | (simp only [vd, reduceCtorEq, ve, updD, vdc, w1, hc]; exact rw_szn (by assumption) (.inr (by omega))) | exact rw_szn (by simp [Rw.ok]) (.inr (by omega))) ?_
  refine need_wp (by simp only [vd, reduceCtorEq, ve, updD, vdc, w1, hc]; first | exact ⟨_, _, _, rfl⟩ | exact kind_Rq (by omega) (by omega)) ?_
  refine need_wp (by first | exact rw_row _ _ | (simp only [vd, reduceCtorEq, ve, updD, vdc, w1, hc]; exact ⟨_, _, rfl⟩)) ?_
  refine need_wp (by simp only [vd, reduceCtorEq, ve, updD, vdc, w1, hc]; first | exact ⟨_, _, _, rfl⟩ | exact kind_Rq (by omega) (by omega)) ?_
  refine need_wp (by simp only [vd, reduceCtorEq, ve, updD, vdc, w1, hc]; exact rw_szz (by assumption)) ?_
  refine need_wp (by simp only [vd, reduceCtorEq, ve, updD, vdc, w1, hc, List.length_cons, List.length_nil, List.length_append, List.length_set]; first | omega | (grind)) ?_
  refine need_wp (by simp only [vd, reduceCtorEq, ve, updD, vdc, w1, hc, List.length_cons, List.length_nil, List.length_append, List.length_set]; first | omega | (grind)) ?_
  refine app_wp eB x (q.get i) (by first | rfl | simp only [vd, reduceCtorEq, ve, updD, vdc, w1, hc]) (by first | rfl | simp only [vd, reduceCtorEq, ve, updD, vdc, w1, hc]) ?_
  intro a1 b1
  generalize hx1 : (⟨a1, b1, 1, x.l ++ (q.get i).l⟩ : Rw Int) = x1
  have lx1 : x1.l = x.l ++ (q.get i).l := by first | (rw [← hx1]; done) | (rw [← hx1]; rfl)
  have zx1 : x1.z = 1 := by rw [← hx1]
  have kx1 : Rw.ok 1 x1 := .inr zx1
  have nx1 : (x1.l.length : Int) = (x.l.length : Int) + ((q.get i).l.length : Int) := by first | (rw [← hx1]; done) | (rw [← hx1]; simp [Rw.nil])
  refine need_wp (by first | exact ⟨_, _, _, rfl⟩ | (simp only [vd, reduceCtorEq, ve, updD, vdc, w1, hc]; exact ⟨_, _, _, rfl⟩)) ?_
  refine again_wp rfl ⟨(i + 1), x1, by simp only [vd, reduceCtorEq, ve, updD, vdc, w1, hc], ?_⟩ ?_
  ·exact ⟨by omega, by omega, by rw [lx1, hx, ht], kx1⟩
  ·(try simp only [vd, reduceCtorEq, ve, updD, vdc, w1, hc]); omega
 ·replace c1 : ¬(i < (q.l.length : Int)) := by first | simpa only [vd, reduceCtorEq, ve, updD, vdc] using c1 | (simp only [vd, reduceCtorEq, ve, updD, vdc] at c1; grind)
  have hi : i = q.l.length := by omega
  refine pop_wp ?_
  refine need_wp (by first | exact ⟨_, _, _, rfl⟩ | (simp only [vd, reduceCtorEq, ve, updD, vdc]; exact ⟨_, _, _, rfl⟩)) ?_
  refine ret_wp ?_
  refine ⟨x, by first | (simp only [vd, reduceCtorEq, ve, updD, vdc]; done) | (simp only [vd, reduceCtorEq, ve, updD, vdc]; rfl), ?_⟩
  try dsimp only
  exact ⟨by rw [hx, hi, Int.toNat_natCast, List.take_length], kx⟩
end Go.Proofs.YtamjocnlhhhijaaK
