import Derived.Test.YtamjocnlhhhijaaVRR29
set_option linter.unusedSimpArgs false
set_option linter.unusedVariables false
set_option linter.unnecessarySimpa false
namespace Go.Proofs.YtamjocnlhhhijaaK
open Go Go.Proofs.YtamjocnlhhhijaaV Go.Proofs Go.Proofs.YtamjocnlhhhijaaK Go.Proofs.YtamjocnlhhhijaaK Go.Proofs.YtamjocnlhhhijaaS
def kRef (sg : Sig) : Sig × Con := (sg, mkRel (fun x : Rw Int => ([Rw.atom eB x] : List Atom)) (fun x => x.ok 1 ∧ isB x.l ∧ x.l.length ≤ 100000) (fun x : Rw (Rw ByteArray) × Int × Bool => ([Rw.atom eL x.1, aI x.2.1, aB x.2.2] : List Atom)) (fun x y => refP x y.1 y.2.1 y.2.2))
set_option maxHeartbeats 1000000 in
theorem h14 : holds Try.prog (kRef sg14) := by
 refine fn_holds (l := [kOne sg29]) ⟨h29, trivial⟩ hP rs14 (inj_of (fun l : List Atom => (Rw.un unI (l.getD 0 atom0) : Rw Int)) (fun _ => by simp [List.getD_cons_zero, List.getD_cons_succ, unA_atom, unL_atom])) Try.func14 (by kernel_rfl) (c := code Try.f14) (by kernel_rfl) (an := an14) (by kernel_rfl) (pk := pk14) rfl (t := t14) (by kernel_rfl) ?_
 rintro b ⟨kb, hB, hl⟩
 refine ⟨by simp [pk14, KindsOk, RK.ok, Rw.atom, Sl.atom], ?_⟩
 unfold t14
 refine need_wp (by first | exact ⟨_, _, _, rfl⟩ | (simp only [vd, reduceCtorEq, ve, updD, vdc]; exact ⟨_, _, _, rfl⟩)) ?_
 refine loop_wp (fun bs0 => ∃ (p : Int) (x : Rw (Rw ByteArray)), bs0 = [aI p, Rw.atom eL x] ∧ (WH b p x)) (fun bs0 => ((b.l.length : Int) - vi (bs0.getD 0 atom0).1).toNat) ?_ ?_
 ·refine ⟨0, Rw.nil, by first | (simp only [vd, reduceCtorEq, ve, updD, vdc]; done) | (simp only [vd, reduceCtorEq, ve, updD, vdc]; rfl) | simp only [vd, reduceCtorEq, ve, updD, vdc, Rw.atom, Rw.nil, List.length_nil, List.map_nil], ?_⟩
  exact WH.start b
 rintro _ _ ⟨p, x, rfl, hW⟩
 have hp0 := hW.p0
 have hp1 := hW.p1
 have hxl := hW.len
 have kx : x.ok 1 := hW.ok.1
 refine need_wp (by first | exact ⟨_, _, _, rfl⟩ | (simp only [vd, reduceCtorEq, ve, updD, vdc]; exact ⟨_, _, _, rfl⟩)) ?_
 refine br_wp (fun c1 => ?_) (fun c1 => ?_)
 ·replace c1 : p < (b.l.length : Int) := by first | simpa only [vd, reduceCtorEq, ve, updD, vdc] using c1 | (simp only [vd, reduceCtorEq, ve, updD, vdc] at c1; grind)
  have hpl := hl
  refine call_rel ((b, p)) rfl (by first | (simp only [vd, reduceCtorEq, ve, updD, vdc]; done) | (simp only [vd, reduceCtorEq, ve, updD, vdc]; rfl)) (⟨kb, hB, hl, hp0, hp1⟩) ?_
  rintro ⟨x1, n1⟩ w1
  try dsimp only at w1
  refine br_wp (fun c2 => ?_) (fun c2 => ?_)
  ·replace c2 : n1 < 0 := by first | simpa only [vd, reduceCtorEq, ve, updD, vdc] using c2 | (simp only [vd, reduceCtorEq, ve, updD, vdc] at c2; grind)
   refine pop_wp ?_
   refine need_wp (by first | exact ⟨_, _, _, rfl⟩ | (simp only [vd, reduceCtorEq, ve, updD, vdc]; exact ⟨_, _, _, rfl⟩)) ?_
   refine ret_wp ?_
   refine ⟨(x, p, true), by first | (simp only [vd, reduceCtorEq, ve, updD, vdc]; done) | (simp only [vd, reduceCtorEq, ve, updD, vdc]; rfl), ?_⟩
   try dsimp only
   exact hW.wrong c1 w1 c2
  ·replace c2 : ¬(n1 < 0) := by first | simpa only [vd, reduceCtorEq, ve, updD, vdc] using c2 | (simp only [vd, reduceCtorEq, ve, updD, vdc] at c2; grind)
   refine br_wp (fun c3 => ?_) (fun c3 => ?_)
   ·replace c3 : n1 = 0 := by first | simpa only [vd, reduceCtorEq, ve, updD, vdc] using c3 | (simp only [vd, reduceCtorEq, ve, updD, vdc] at c3; grind)
    refine pop_wp ?_
    refine need_wp (by first | exact ⟨_, _, _, rfl⟩ | (simp only [vd, reduceCtorEq, ve, updD, vdc]; exact ⟨_, _, _, rfl⟩)) ?_
    refine ret_wp ?_
    refine ⟨(x, p, false), by first | (simp only [vd, reduceCtorEq, ve, updD, vdc]; done) | (simp only [vd, reduceCtorEq, ve, updD, vdc]; rfl), ?_⟩
    try dsimp only
    exact hW.short c1 (c3 ▸ w1)
   ·replace c3 : ¬(n1 = 0) := by first | simpa only [vd, reduceCtorEq, ve, updD, vdc] using c3 | (simp only [vd, reduceCtorEq, ve, updD, vdc] at c3; grind)
    have hle := oneR_le w1 hp0 hp1
    have wp : IntKind.i64.wrap (p + n1) = p + n1 := wrap_id _ (by omega) (by omega)
    refine new_wp eL [x1] (by first | (simp only [vd, reduceCtorEq, ve, updD, vdc, wp, eL]; done) | rfl) ?_
    intro a2 b2
    generalize hx2 : (⟨a2, b2, 1, [x1]⟩ : Rw (Rw ByteArray)) = x2
    have lx2 : x2.l = [x1] := by first | (rw [← hx2]; done) | (rw [← hx2]; rfl)
    have zx2 : x2.z = 1 := by rw [← hx2]
    have kx2 : Rw.ok 1 x2 := .inr zx2
    have nx2 : (x2.l.length : Int) = 1 := by first | (rw [← hx2]; done) | (rw [← hx2]; simp [Rw.nil])
    refine need_wp (by first | exact rw_row _ _ | (simp only [vd, reduceCtorEq, ve, updD, vdc, wp]; exact ⟨_, _, rfl⟩)) ?_
    refine need_wp (by first | exact ⟨_, _, _, rfl⟩ | (simp only [vd, reduceCtorEq, ve, updD, vdc, wp]; exact ⟨_, _, _, rfl⟩)) ?_
    refine need_wp (by first | exact rw_szz (by assumption) | exact rw_szz (.inr rfl)) ?_
    refine need_wp (by simp only [vd, reduceCtorEq, ve, updD, vdc, wp, List.length_cons, List.length_nil, List.length_append, List.length_set]; first | omega | (grind)) ?_
    refine need_wp (by simp only [vd, reduceCtorEq, ve, updD, vdc, wp, List.length_cons, List.length_nil, List.length_append, List.length_set]; first | omega | (grind)) ?_
    refine app_wp eL x x2 (by first | rfl | simp only [vd, reduceCtorEq, ve, updD, vdc, wp]) (by first | rfl | simp only [vd, reduceCtorEq, ve, updD, vdc, wp]) ?_
    intro a3 b3
    generalize hx3 : (⟨a3, b3, 1, x.l ++ x2.l⟩ : Rw (Rw ByteArray)) = x3
    have lx3 : x3.l = x.l ++ x2.l := by first | (rw [← hx3]; done) | (rw [← hx3]; rfl)
    have zx3 : x3.z = 1 := by rw [← hx3]
    have kx3 : Rw.ok 1 x3 := .inr zx3
    have nx3 : (x3.l.length : Int) = (x.l.length : Int) + (x2.l.length : Int) := by first | (rw [← hx3]; done) | (rw [← hx3]; simp [Rw.nil])
    refine need_wp (by first | exact ⟨_, _, _, rfl⟩ | (simp only [vd, reduceCtorEq, ve, updD, vdc, wp]; exact ⟨_, _, _, rfl⟩)) ?_
    refine again_wp rfl ⟨(p + n1), x3, by simp only [vd, reduceCtorEq, ve, updD, vdc, wp], ?_⟩ ?_
    ·exact (hW.next c1 w1 (by omega) (by rw [lx3, lx2]) kx3).1
    ·(try simp only [vd, reduceCtorEq, ve, updD, vdc, wp]); have := (hW.next c1 w1 (by omega) (by rw [lx3, lx2]) kx3).2; omega
 ·replace c1 : ¬(p < (b.l.length : Int)) := by first | simpa only [vd, reduceCtorEq, ve, updD, vdc] using c1 | (simp only [vd, reduceCtorEq, ve, updD, vdc] at c1; grind)
  refine pop_wp ?_
  refine need_wp (by first | exact ⟨_, _, _, rfl⟩ | (simp only [vd, reduceCtorEq, ve, updD, vdc]; exact ⟨_, _, _, rfl⟩)) ?_
  refine ret_wp ?_
  refine ⟨(x, p, false), by first | (simp only [vd, reduceCtorEq, ve, updD, vdc]; done) | (simp only [vd, reduceCtorEq, ve, updD, vdc]; rfl), ?_⟩
  try dsimp only
  exact hW.all (by omega)
end Go.Proofs.YtamjocnlhhhijaaK
