import Derived.Test.YtamjocnlhhhijaaVRRz
import Derived.Test.YtamjocnlhhhijaaVRRD
import Derived.Test.YtamjocnlhhhijaaVRRt
set_option linter.unusedSimpArgs false
set_option linter.unusedVariables false
set_option linter.unnecessarySimpa false
namespace Go.Proofs.YtamjocnlhhhijaaK
open Go Go.Proofs.YtamjocnlhhhijaaV Go.Proofs Go.Proofs.YtamjocnlhhhijaaK Go.Proofs.YtamjocnlhhhijaaK Go.Proofs.YtamjocnlhhhijaaS
def kBeg (sg : Sig) : Sig × Con := (sg, mkRel (fun x : Rw Int × Int × Int × Int × Int => ([Rw.atom eB x.1, aI x.2.1, aK .u8 x.2.2.1, aI x.2.2.2.1, aI x.2.2.2.2] : List Atom)) (fun x => preBeg x.1 x.2.1 x.2.2.1 x.2.2.2.1 x.2.2.2.2) (fun x : Int × Int => ([aI x.1, aI x.2] : List Atom)) (fun x y => begR x.1 x.2.1 x.2.2.1 x.2.2.2.1 = y))
set_option maxHeartbeats 1000000 in
theorem h38 : holds Try.prog (kBeg sg38) := by
 refine fn_holds (l := [kPrint sg31]) ⟨h31, trivial⟩ hP rs38 (inj_of (fun l : List Atom => ((Rw.un unI (l.getD 0 atom0), vi (l.getD 1 atom0).1, vi (l.getD 2 atom0).1, vi (l.getD 3 atom0).1, vi (l.getD 4 atom0).1) : Rw Int × Int × Int × Int × Int)) (fun _ => by simp [List.getD_cons_zero, List.getD_cons_succ, unA_atom, unL_atom])) Try.func38 (by kernel_rfl) (c := code Try.f38) (by kernel_rfl) (an := an38) (by kernel_rfl) (pk := pk38) rfl (t := t38) (by kernel_rfl) ?_
 rintro ⟨b, p, sg, lo, hi⟩ hp
 refine ⟨by simp [pk38, KindsOk, RK.ok, Rw.atom, Sl.atom], ?_⟩
 unfold t38 t38_7 t38_6 t38_5 t38_4 t38_3 t38_2 t38_1
 dsimp only at hp
 refine need_wp (by first | exact ⟨_, _, _, rfl⟩ | (simp only [vd, reduceCtorEq, ve, updD, vdc]; exact ⟨_, _, _, rfl⟩)) ?_
 refine br_wp (fun c1 => ?_) (fun c1 => ?_)
 ·replace c1 : p = (b.l.length : Int) := by first | simpa only [vd, reduceCtorEq, ve, updD, vdc] using c1 | (simp only [vd, reduceCtorEq, ve, updD, vdc] at c1; grind)
  refine ret_wp ?_
  refine ⟨(0, 0), by first | (simp only [vd, reduceCtorEq, ve, updD, vdc]; done) | (simp only [vd, reduceCtorEq, ve, updD, vdc]; rfl), ?_⟩
  try dsimp only
  first | exact beg_end sg lo c1 | exact beg_sign hp c1 c2 | (by_cases hm : Go.Proofs.YtamjocnlhhhijaaK.may b p i n lo hi; (rw [(hH.fin hp hg hst).1 hm]; obtain ⟨m1, m2, m3, m4⟩ := hm; first | (exfalso; omega) | exact absurd m4 (by assumption) | rw [if_pos (by omega)] | (rw [if_neg (by omega)]; first | rw [if_neg (by omega)] | (rw [if_pos (by omega)]; first | rw [if_pos (by omega)] | (rw [if_neg (by omega)]; first | rw [if_neg (by omega)] | rw [if_pos (by omega)])))); (rw [(hH.fin hp hg hst).2 hm]; first | exact absurd ⟨by omega, by omega, by omega, by assumption⟩ hm | (rw [if_pos (by omega)]; done) | (rw [if_neg (by omega)]; done)))
 ·replace c1 : ¬(p = (b.l.length : Int)) := by first | simpa only [vd, reduceCtorEq, ve, updD, vdc] using c1 | (simp only [vd, reduceCtorEq, ve, updD, vdc] at c1; grind)
  have hp0 := hp.p0
  have hp1 := hp.p1
  have hpl := hp.len
  have kb := hp.ok
  have wp1 : IntKind.i64.wrap (p + 1) = p + 1 := wrap_id _ (by omega) (by omega)
  have wp6 : IntKind.i64.wrap (p + 6) = p + 6 := wrap_id _ (by omega) (by omega)
  refine need_wp (by first | exact ⟨_, _, _, rfl⟩ | (simp only [vd, reduceCtorEq, ve, updD, vdc, wp1, wp6]; exact ⟨_, _, _, rfl⟩)) ?_
  refine need_wp (by first | exact rw_row _ _ | (simp only [vd, reduceCtorEq, ve, updD, vdc, wp1, wp6]; exact ⟨_, _, rfl⟩)) ?_
  refine need_wp (by simp only [vd, reduceCtorEq, ve, updD, vdc, wp1, wp6, List.length_cons, List.length_nil, List.length_append, List.length_set]; first | omega | (grind)) ?_
  refine need_wp (by simp only [vd, reduceCtorEq, ve, updD, vdc, wp1, wp6, List.length_cons, List.length_nil, List.length_append, List.length_set]; first | omega | (grind)) ?_
  refine need_wp (by first | exact ⟨_, _, _, rfl⟩ | (simp only [vd, reduceCtorEq, ve, updD, vdc, wp1, wp6]; exact ⟨_, _, _, rfl⟩)) ?_
  refine need_wp (by first | exact rw_row _ _ | (simp only [vd, reduceCtorEq, ve, updD, vdc, wp1, wp6]; exact ⟨_, _, rfl⟩)) ?_
  refine need_wp (by first | exact rw_sz' rfl | exact rw_szn (by assumption) (.inr (by omega)) | (simp only [vd, reduceCtorEq, ve, updD, vdc, wp1, wp6]; exact rw_szn (by assumption) (.inr (by omega))) | exact rw_szn (by simp [Rw.ok]) (.inr (by omega))) ?_
  refine need_wp (by simp only [vd, reduceCtorEq, ve, updD, vdc, wp1, wp6]; exact kind_Rb (by omega) (by omega)) ?_
  refine br_wp (fun c2 => ?_) (fun c2 => ?_)
  ·replace c2 : (b.get p) ≠ sg := by first | simpa only [vd, reduceCtorEq, ve, updD, vdc, wp1, wp6] using c2 | (simp only [vd, reduceCtorEq, ve, updD, vdc, wp1, wp6] at c2; grind)
   refine ret_wp ?_
   refine ⟨((-1), 0), by first | (simp only [vd, reduceCtorEq, ve, updD, vdc, wp1, wp6]; done) | (simp only [vd, reduceCtorEq, ve, updD, vdc, wp1, wp6]; rfl), ?_⟩
   try dsimp only
   first | exact beg_end sg lo c1 | exact beg_sign hp c1 c2 | (by_cases hm : Go.Proofs.YtamjocnlhhhijaaK.may b p i n lo hi; (rw [(hH.fin hp hg hst).1 hm]; obtain ⟨m1, m2, m3, m4⟩ := hm; first | (exfalso; omega) | exact absurd m4 (by assumption) | rw [if_pos (by omega)] | (rw [if_neg (by omega)]; first | rw [if_neg (by omega)] | (rw [if_pos (by omega)]; first | rw [if_pos (by omega)] | (rw [if_neg (by omega)]; first | rw [if_neg (by omega)] | rw [if_pos (by omega)])))); (rw [(hH.fin hp hg hst).2 hm]; first | exact absurd ⟨by omega, by omega, by omega, by assumption⟩ hm | (rw [if_pos (by omega)]; done) | (rw [if_neg (by omega)]; done)))
  ·replace c2 : ¬((b.get p) ≠ sg) := by first | simpa only [vd, reduceCtorEq, ve, updD, vdc, wp1, wp6] using c2 | (simp only [vd, reduceCtorEq, ve, updD, vdc, wp1, wp6] at c2; grind)
   have hg : b.get p = sg := by omega
   refine loop_wp (fun bs0 => ∃ (n : Int) (i : Int), bs0 = [aI n, aI i] ∧ (BH b p i n)) (fun bs0 => ((b.l.length : Int) - vi (bs0.getD 1 atom0).1).toNat) ?_ ?_
   ·refine ⟨0, (p + 1), by first | (simp only [vd, reduceCtorEq, ve, updD, vdc, wp1, wp6]; done) | (simp only [vd, reduceCtorEq, ve, updD, vdc, wp1, wp6]; rfl) | simp only [vd, reduceCtorEq, ve, updD, vdc, wp1, wp6, Rw.atom, Rw.nil, List.length_nil, List.map_nil], ?_⟩
    exact BH.start hp0 (by omega)
   rintro _ _ ⟨n, i, rfl, hH⟩
   have hlo := hH.lo
   have hhi := hH.hi
   have hn0 := hH.n0
   have hsix := hH.six
   refine need_wp (by first | exact ⟨_, _, _, rfl⟩ | (simp only [vd, reduceCtorEq, ve, updD, vdc, wp1, wp6]; exact ⟨_, _, _, rfl⟩)) ?_
   refine br_wp (fun c3 => ?_) (fun c3 => ?_)
   ·replace c3 : i < (b.l.length : Int) := by first | simpa only [vd, reduceCtorEq, ve, updD, vdc, wp1, wp6] using c3 | (simp only [vd, reduceCtorEq, ve, updD, vdc, wp1, wp6] at c3; grind)
    have wi : IntKind.i64.wrap (i + 1) = i + 1 := wrap_id _ (by omega) (by omega)
    have wi2 : IntKind.i64.wrap (i + 2) = i + 2 := wrap_id _ (by omega) (by omega)
    have wip : IntKind.i64.wrap (i + 2 - p) = i + 2 - p := wrap_id _ (by omega) (by omega)
    have hz := hp.isB (b.get i) (get_memL (by omega) c3)
    have wz : IntKind.i64.wrap (10 * n) = 10 * n := wrap_id _ (by omega) (by omega)
    have wb : IntKind.i64.wrap (b.get i) = (b.get i) := wrap_id _ (by omega) (by omega)
    have wc : IntKind.i64.wrap (10 * n + (b.get i)) = 10 * n + (b.get i) := wrap_id _ (by omega) (by omega)
    have wd : IntKind.i64.wrap (10 * n + (b.get i) - 48) = 10 * n + (b.get i) - 48 := wrap_id _ (by omega) (by omega)
    refine br_wp (fun c4 => ?_) (fun c4 => ?_)
    ·replace c4 : i < (p + 6) := by first | simpa only [vd, reduceCtorEq, ve, updD, vdc, wp1, wp6, wi, wi2, wip, wz, wb, wc, wd] using c4 | (simp only [vd, reduceCtorEq, ve, updD, vdc, wp1, wp6, wi, wi2, wip, wz, wb, wc, wd] at c4; grind)
     refine need_wp (by first | exact ⟨_, _, _, rfl⟩ | (simp only [vd, reduceCtorEq, ve, updD, vdc, wp1, wp6, wi, wi2, wip, wz, wb, wc, wd]; exact ⟨_, _, _, rfl⟩)) ?_
     refine need_wp (by first | exact rw_row _ _ | (simp only [vd, reduceCtorEq, ve, updD, vdc, wp1, wp6, wi, wi2, wip, wz, wb, wc, wd]; exact ⟨_, _, rfl⟩)) ?_
     refine need_wp (by simp only [vd, reduceCtorEq, ve, updD, vdc, wp1, wp6, wi, wi2, wip, wz, wb, wc, wd, List.length_cons, List.length_nil, List.length_append, List.length_set]; first | omega | (grind)) ?_
     refine need_wp (by first | exact ⟨_, _, _, rfl⟩ | (simp only [vd, reduceCtorEq, ve, updD, vdc, wp1, wp6, wi, wi2, wip, wz, wb, wc, wd]; exact ⟨_, _, _, rfl⟩)) ?_
     refine need_wp (by first | exact rw_row _ _ | (simp only [vd, reduceCtorEq, ve, updD, vdc, wp1, wp6, wi, wi2, wip, wz, wb, wc, wd]; exact ⟨_, _, rfl⟩)) ?_
     refine need_wp (by first | exact rw_sz' rfl | exact rw_szn (by assumption) (.inr (by omega)) | (simp only [vd, reduceCtorEq, ve, updD, vdc, wp1, wp6, wi, wi2, wip, wz, wb, wc, wd]; exact rw_szn (by assumption) (.inr (by omega))) | exact rw_szn (by simp [Rw.ok]) (.inr (by omega))) ?_
     refine need_wp (by simp only [vd, reduceCtorEq, ve, updD, vdc, wp1, wp6, wi, wi2, wip, wz, wb, wc, wd]; exact kind_Rb (by omega) (by omega)) ?_
     refine br_wp (fun c5 => ?_) (fun c5 => ?_)
     ·replace c5 : (b.get i) ≥ 48 := by first | simpa only [vd, reduceCtorEq, ve, updD, vdc, wp1, wp6, wi, wi2, wip, wz, wb, wc, wd] using c5 | (simp only [vd, reduceCtorEq, ve, updD, vdc, wp1, wp6, wi, wi2, wip, wz, wb, wc, wd] at c5; grind)
      refine need_wp (by first | exact ⟨_, _, _, rfl⟩ | (simp only [vd, reduceCtorEq, ve, updD, vdc, wp1, wp6, wi, wi2, wip, wz, wb, wc, wd]; exact ⟨_, _, _, rfl⟩)) ?_
      refine need_wp (by first | exact rw_row _ _ | (simp only [vd, reduceCtorEq, ve, updD, vdc, wp1, wp6, wi, wi2, wip, wz, wb, wc, wd]; exact ⟨_, _, rfl⟩)) ?_
      refine need_wp (by first | exact ⟨_, _, _, rfl⟩ | (simp only [vd, reduceCtorEq, ve, updD, vdc, wp1, wp6, wi, wi2, wip, wz, wb, wc, wd]; exact ⟨_, _, _, rfl⟩)) ?_
      refine need_wp (by first | exact rw_row _ _ | (simp only [vd, reduceCtorEq, ve, updD, vdc, wp1, wp6, wi, wi2, wip, wz, wb, wc, wd]; exact ⟨_, _, rfl⟩)) ?_
      refine need_wp (by first | exact rw_sz' rfl | exact rw_szn (by assumption) (.inr (by omega)) | (simp only [vd, reduceCtorEq, ve, updD, vdc, wp1, wp6, wi, wi2, wip, wz, wb, wc, wd]; exact rw_szn (by assumption) (.inr (by omega))) | exact rw_szn (by simp [Rw.ok]) (.inr (by omega))) ?_
      refine need_wp (by simp only [vd, reduceCtorEq, ve, updD, vdc, wp1, wp6, wi, wi2, wip, wz, wb, wc, wd]; exact kind_Rb (by omega) (by omega)) ?_
      refine br_wp (fun c6 => ?_) (fun c6 => ?_)
      ·replace c6 : (b.get i) ≤ 57 := by first | simpa only [vd, reduceCtorEq, ve, updD, vdc, wp1, wp6, wi, wi2, wip, wz, wb, wc, wd] using c6 | (simp only [vd, reduceCtorEq, ve, updD, vdc, wp1, wp6, wi, wi2, wip, wz, wb, wc, wd] at c6; grind)
       refine need_wp (by first | exact ⟨_, _, _, rfl⟩ | (simp only [vd, reduceCtorEq, ve, updD, vdc, wp1, wp6, wi, wi2, wip, wz, wb, wc, wd]; exact ⟨_, _, _, rfl⟩)) ?_
       refine need_wp (by first | exact rw_row _ _ | (simp only [vd, reduceCtorEq, ve, updD, vdc, wp1, wp6, wi, wi2, wip, wz, wb, wc, wd]; exact ⟨_, _, rfl⟩)) ?_
       refine need_wp (by first | exact ⟨_, _, _, rfl⟩ | (simp only [vd, reduceCtorEq, ve, updD, vdc, wp1, wp6, wi, wi2, wip, wz, wb, wc, wd]; exact ⟨_, _, _, rfl⟩)) ?_
       refine need_wp (by first | exact rw_row _ _ | (simp only [vd, reduceCtorEq, ve, updD, vdc, wp1, wp6, wi, wi2, wip, wz, wb, wc, wd]; exact ⟨_, _, rfl⟩)) ?_
       refine need_wp (by first | exact rw_sz' rfl | exact rw_szn (by assumption) (.inr (by omega)) | (simp only [vd, reduceCtorEq, ve, updD, vdc, wp1, wp6, wi, wi2, wip, wz, wb, wc, wd]; exact rw_szn (by assumption) (.inr (by omega))) | exact rw_szn (by simp [Rw.ok]) (.inr (by omega))) ?_
       refine need_wp (by simp only [vd, reduceCtorEq, ve, updD, vdc, wp1, wp6, wi, wi2, wip, wz, wb, wc, wd]; exact kind_Rb (by omega) (by omega)) ?_
       refine again_wp rfl ⟨(10 * n + (b.get i) - 48), (i + 1), by simp only [vd, reduceCtorEq, ve, updD, vdc, wp1, wp6, wi, wi2, wip, wz, wb, wc, wd], ?_⟩ ?_
       ·exact hH.next c3 c4 c5 c6
       ·(try simp only [vd, reduceCtorEq, ve, updD, vdc, wp1, wp6, wi, wi2, wip, wz, wb, wc, wd]); omega
      ·replace c6 : ¬((b.get i) ≤ 57) := by first | simpa only [vd, reduceCtorEq, ve, updD, vdc, wp1, wp6, wi, wi2, wip, wz, wb, wc, wd] using c6 | (simp only [vd, reduceCtorEq, ve, updD, vdc, wp1, wp6, wi, wi2, wip, wz, wb, wc, wd] at c6; grind)
       have hst : i = b.l.length ∨ i = p + 6 ∨ b.get i < 48 ∨ 57 < b.get i := by omega
       refine pop_wp ?_
       refine br_wp (fun c7 => ?_) (fun c7 => ?_)
       ·replace c7 : i > (p + 1) := by first | simpa only [vd, reduceCtorEq, ve, updD, vdc, wp1, wp6, wi, wi2, wip, wz, wb, wc, wd] using c7 | (simp only [vd, reduceCtorEq, ve, updD, vdc, wp1, wp6, wi, wi2, wip, wz, wb, wc, wd] at c7; grind)
        refine br_wp (fun c8 => ?_) (fun c8 => ?_)
        ·replace c8 : n ≥ lo := by first | simpa only [vd, reduceCtorEq, ve, updD, vdc, wp1, wp6, wi, wi2, wip, wz, wb, wc, wd] using c8 | (simp only [vd, reduceCtorEq, ve, updD, vdc, wp1, wp6, wi, wi2, wip, wz, wb, wc, wd] at c8; grind)
         refine br_wp (fun c9 => ?_) (fun c9 => ?_)
         ·replace c9 : n ≤ hi := by first | simpa only [vd, reduceCtorEq, ve, updD, vdc, wp1, wp6, wi, wi2, wip, wz, wb, wc, wd] using c9 | (simp only [vd, reduceCtorEq, ve, updD, vdc, wp1, wp6, wi, wi2, wip, wz, wb, wc, wd] at c9; grind)
          have hs := sub_rw (e := eB) (r := b) (z := 1) (i := p + 1) (j := i) kb (by omega) (by omega) (by omega)
          have kbs : (b.sub 1 (p + 1) i).ok 1 := ok_sub kb _ _
          have hBs : isB (b.sub 1 (p + 1) i).l := isB_sub hp.isB _ _ _
          refine need_wp (by first | exact ⟨_, _, _, rfl⟩ | (simp only [vd, reduceCtorEq, ve, updD, vdc, wp1, wp6, wi, wi2, wip, wz, wb, wc, wd, hs]; exact ⟨_, _, _, rfl⟩)) ?_
          refine need_wp (by first | exact rw_szz (by assumption) | exact rw_szz (.inr rfl)) ?_
          refine need_wp (by simp only [vd, reduceCtorEq, ve, updD, vdc, wp1, wp6, wi, wi2, wip, wz, wb, wc, wd, hs, List.length_cons, List.length_nil, List.length_append, List.length_set]; first | omega | (grind)) ?_
          refine need_wp (by simp only [vd, reduceCtorEq, ve, updD, vdc, wp1, wp6, wi, wi2, wip, wz, wb, wc, wd, hs, List.length_cons, List.length_nil, List.length_append, List.length_set]; first | omega | (grind)) ?_
          refine need_wp (by simp only [vd, reduceCtorEq, ve, updD, vdc, wp1, wp6, wi, wi2, wip, wz, wb, wc, wd, hs, List.length_cons, List.length_nil, List.length_append, List.length_set]; first | omega | (grind)) ?_
          refine both_wp ?_ ?_
          ·refine call_fun (n) rfl (by first | (simp only [vd, reduceCtorEq, ve, updD, vdc, wp1, wp6, wi, wi2, wip, wz, wb, wc, wd, hs]; done) | (simp only [vd, reduceCtorEq, ve, updD, vdc, wp1, wp6, wi, wi2, wip, wz, wb, wc, wd, hs]; rfl)) (by unfold in64; omega) ?_
           refine need_wp (by first | exact ⟨_, _, _, rfl⟩ | (simp only [vd, reduceCtorEq, ve, updD, vdc, wp1, wp6, wi, wi2, wip, wz, wb, wc, wd, hs]; exact ⟨_, _, _, rfl⟩)) ?_
           refine need_wp (by simp only [vd, reduceCtorEq, ve, updD, vdc, wp1, wp6, wi, wi2, wip, wz, wb, wc, wd, hs]; exact need_bytes (by assumption) (by assumption)) ?_
           refine need_wp (by first | exact ⟨_, _, _, rfl⟩ | (simp only [vd, reduceCtorEq, ve, updD, vdc, wp1, wp6, wi, wi2, wip, wz, wb, wc, wd, hs]; exact ⟨_, _, _, rfl⟩)) ?_
           refine br_wp (fun c10 => ?_) (fun c10 => ?_)
           ·replace c10 : i = (b.l.length : Int) := by first | simpa only [vd, reduceCtorEq, ve, updD, vdc, wp1, wp6, wi, wi2, wip, wz, wb, wc, wd, hs] using c10 | (simp only [vd, reduceCtorEq, ve, updD, vdc, wp1, wp6, wi, wi2, wip, wz, wb, wc, wd, hs] at c10; grind)
            exfalso; omega
           ·replace c10 : ¬(i = (b.l.length : Int)) := by first | simpa only [vd, reduceCtorEq, ve, updD, vdc, wp1, wp6, wi, wi2, wip, wz, wb, wc, wd, hs] using c10 | (simp only [vd, reduceCtorEq, ve, updD, vdc, wp1, wp6, wi, wi2, wip, wz, wb, wc, wd, hs] at c10; grind)
            refine br_wp (fun c13 => ?_) (fun c13 => ?_)
            ·replace c13 : (prt n) = (ofBytes (b.sub 1 (p + 1) i).l) := by first | simpa only [vd, reduceCtorEq, ve, updD, vdc, wp1, wp6, wi, wi2, wip, wz, wb, wc, wd, hs] using c13 | (simp only [vd, reduceCtorEq, ve, updD, vdc, wp1, wp6, wi, wi2, wip, wz, wb, wc, wd, hs] at c13; grind)
             refine need_wp (by first | exact ⟨_, _, _, rfl⟩ | (simp only [vd, reduceCtorEq, ve, updD, vdc, wp1, wp6, wi, wi2, wip, wz, wb, wc, wd, hs]; exact ⟨_, _, _, rfl⟩)) ?_
             refine need_wp (by first | exact rw_row _ _ | (simp only [vd, reduceCtorEq, ve, updD, vdc, wp1, wp6, wi, wi2, wip, wz, wb, wc, wd, hs]; exact ⟨_, _, rfl⟩)) ?_
             refine need_wp (by first | exact ⟨_, _, _, rfl⟩ | (simp only [vd, reduceCtorEq, ve, updD, vdc, wp1, wp6, wi, wi2, wip, wz, wb, wc, wd, hs]; exact ⟨_, _, _, rfl⟩)) ?_
             refine need_wp (by first | exact rw_row _ _ | (simp only [vd, reduceCtorEq, ve, updD, vdc, wp1, wp6, wi, wi2, wip, wz, wb, wc, wd, hs]; exact ⟨_, _, rfl⟩)) ?_
             refine need_wp (by first | exact rw_sz' rfl | exact rw_szn (by assumption) (.inr (by omega)) | (simp only [vd, reduceCtorEq, ve, updD, vdc, wp1, wp6, wi, wi2, wip, wz, wb, wc, wd, hs]; exact rw_szn (by assumption) (.inr (by omega))) | exact rw_szn (by simp [Rw.ok]) (.inr (by omega))) ?_
             refine need_wp (by simp only [vd, reduceCtorEq, ve, updD, vdc, wp1, wp6, wi, wi2, wip, wz, wb, wc, wd, hs]; exact kind_Rb (by omega) (by omega)) ?_
             refine br_wp (fun c14 => ?_) (fun c14 => ?_)
             ·replace c14 : (b.get i) ≠ 13 := by first | simpa only [vd, reduceCtorEq, ve, updD, vdc, wp1, wp6, wi, wi2, wip, wz, wb, wc, wd, hs] using c14 | (simp only [vd, reduceCtorEq, ve, updD, vdc, wp1, wp6, wi, wi2, wip, wz, wb, wc, wd, hs] at c14; grind)
              refine ret_wp ?_
              refine ⟨((-1), 0), by first | (simp only [vd, reduceCtorEq, ve, updD, vdc, wp1, wp6, wi, wi2, wip, wz, wb, wc, wd, hs]; done) | (simp only [vd, reduceCtorEq, ve, updD, vdc, wp1, wp6, wi, wi2, wip, wz, wb, wc, wd, hs]; rfl), ?_⟩
              try dsimp only
              first | exact beg_end sg lo c1 | exact beg_sign hp c1 c2 | (by_cases hm : Go.Proofs.YtamjocnlhhhijaaK.may b p i n lo hi; (rw [(hH.fin hp hg hst).1 hm]; obtain ⟨m1, m2, m3, m4⟩ := hm; first | (exfalso; omega) | exact absurd m4 (by assumption) | rw [if_pos (by omega)] | (rw [if_neg (by omega)]; first | rw [if_neg (by omega)] | (rw [if_pos (by omega)]; first | rw [if_pos (by omega)] | (rw [if_neg (by omega)]; first | rw [if_neg (by omega)] | rw [if_pos (by omega)])))); (rw [(hH.fin hp hg hst).2 hm]; first | exact absurd ⟨by omega, by omega, by omega, by assumption⟩ hm | (rw [if_pos (by omega)]; done) | (rw [if_neg (by omega)]; done)))
             ·replace c14 : ¬((b.get i) ≠ 13) := by first | simpa only [vd, reduceCtorEq, ve, updD, vdc, wp1, wp6, wi, wi2, wip, wz, wb, wc, wd, hs] using c14 | (simp only [vd, reduceCtorEq, ve, updD, vdc, wp1, wp6, wi, wi2, wip, wz, wb, wc, wd, hs] at c14; grind)
              refine need_wp (by first | exact ⟨_, _, _, rfl⟩ | (simp only [vd, reduceCtorEq, ve, updD, vdc, wp1, wp6, wi, wi2, wip, wz, wb, wc, wd, hs]; exact ⟨_, _, _, rfl⟩)) ?_
              refine br_wp (fun c15 => ?_) (fun c15 => ?_)
              ·replace c15 : (i + 1) = (b.l.length : Int) := by first | simpa only [vd, reduceCtorEq, ve, updD, vdc, wp1, wp6, wi, wi2, wip, wz, wb, wc, wd, hs] using c15 | (simp only [vd, reduceCtorEq, ve, updD, vdc, wp1, wp6, wi, wi2, wip, wz, wb, wc, wd, hs] at c15; grind)
               refine ret_wp ?_
               refine ⟨(0, 0), by first | (simp only [vd, reduceCtorEq, ve, updD, vdc, wp1, wp6, wi, wi2, wip, wz, wb, wc, wd, hs]; done) | (simp only [vd, reduceCtorEq, ve, updD, vdc, wp1, wp6, wi, wi2, wip, wz, wb, wc, wd, hs]; rfl), ?_⟩
               try dsimp only
               first | exact beg_end sg lo c1 | exact beg_sign hp c1 c2 | (by_cases hm : Go.Proofs.YtamjocnlhhhijaaK.may b p i n lo hi; (rw [(hH.fin hp hg hst).1 hm]; obtain ⟨m1, m2, m3, m4⟩ := hm; first | (exfalso; omega) | exact absurd m4 (by assumption) | rw [if_pos (by omega)] | (rw [if_neg (by omega)]; first | rw [if_neg (by omega)] | (rw [if_pos (by omega)]; first | rw [if_pos (by omega)] | (rw [if_neg (by omega)]; first | rw [if_neg (by omega)] | rw [if_pos (by omega)])))); (rw [(hH.fin hp hg hst).2 hm]; first | exact absurd ⟨by omega, by omega, by omega, by assumption⟩ hm | (rw [if_pos (by omega)]; done) | (rw [if_neg (by omega)]; done)))
              ·replace c15 : ¬((i + 1) = (b.l.length : Int)) := by first | simpa only [vd, reduceCtorEq, ve, updD, vdc, wp1, wp6, wi, wi2, wip, wz, wb, wc, wd, hs] using c15 | (simp only [vd, reduceCtorEq, ve, updD, vdc, wp1, wp6, wi, wi2, wip, wz, wb, wc, wd, hs] at c15; grind)
               refine need_wp (by first | exact ⟨_, _, _, rfl⟩ | (simp only [vd, reduceCtorEq, ve, updD, vdc, wp1, wp6, wi, wi2, wip, wz, wb, wc, wd, hs]; exact ⟨_, _, _, rfl⟩)) ?_
               refine need_wp (by first | exact rw_row _ _ | (simp only [vd, reduceCtorEq, ve, updD, vdc, wp1, wp6, wi, wi2, wip, wz, wb, wc, wd, hs]; exact ⟨_, _, rfl⟩)) ?_
               refine need_wp (by simp only [vd, reduceCtorEq, ve, updD, vdc, wp1, wp6, wi, wi2, wip, wz, wb, wc, wd, hs, List.length_cons, List.length_nil, List.length_append, List.length_set]; first | omega | (grind)) ?_
               refine need_wp (by simp only [vd, reduceCtorEq, ve, updD, vdc, wp1, wp6, wi, wi2, wip, wz, wb, wc, wd, hs, List.length_cons, List.length_nil, List.length_append, List.length_set]; first | omega | (grind)) ?_
               refine need_wp (by first | exact ⟨_, _, _, rfl⟩ | (simp only [vd, reduceCtorEq, ve, updD, vdc, wp1, wp6, wi, wi2, wip, wz, wb, wc, wd, hs]; exact ⟨_, _, _, rfl⟩)) ?_
               refine need_wp (by first | exact rw_row _ _ | (simp only [vd, reduceCtorEq, ve, updD, vdc, wp1, wp6, wi, wi2, wip, wz, wb, wc, wd, hs]; exact ⟨_, _, rfl⟩)) ?_
               refine need_wp (by first | exact rw_sz' rfl | exact rw_szn (by assumption) (.inr (by omega)) | (simp only [vd, reduceCtorEq, ve, updD, vdc, wp1, wp6, wi, wi2, wip, wz, wb, wc, wd, hs]; exact rw_szn (by assumption) (.inr (by omega))) | exact rw_szn (by simp [Rw.ok]) (.inr (by omega))) ?_
               refine need_wp (by simp only [vd, reduceCtorEq, ve, updD, vdc, wp1, wp6, wi, wi2, wip, wz, wb, wc, wd, hs]; exact kind_Rb (by omega) (by omega)) ?_
               refine br_wp (fun c16 => ?_) (fun c16 => ?_)
               ·replace c16 : (b.get (i + 1)) ≠ 10 := by first | simpa only [vd, reduceCtorEq, ve, updD, vdc, wp1, wp6, wi, wi2, wip, wz, wb, wc, wd, hs] using c16 | (simp only [vd, reduceCtorEq, ve, updD, vdc, wp1, wp6, wi, wi2, wip, wz, wb, wc, wd, hs] at c16; grind)
                refine ret_wp ?_
                refine ⟨((-1), 0), by first | (simp only [vd, reduceCtorEq, ve, updD, vdc, wp1, wp6, wi, wi2, wip, wz, wb, wc, wd, hs]; done) | (simp only [vd, reduceCtorEq, ve, updD, vdc, wp1, wp6, wi, wi2, wip, wz, wb, wc, wd, hs]; rfl), ?_⟩
                try dsimp only
                first | exact beg_end sg lo c1 | exact beg_sign hp c1 c2 | (by_cases hm : Go.Proofs.YtamjocnlhhhijaaK.may b p i n lo hi; (rw [(hH.fin hp hg hst).1 hm]; obtain ⟨m1, m2, m3, m4⟩ := hm; first | (exfalso; omega) | exact absurd m4 (by assumption) | rw [if_pos (by omega)] | (rw [if_neg (by omega)]; first | rw [if_neg (by omega)] | (rw [if_pos (by omega)]; first | rw [if_pos (by omega)] | (rw [if_neg (by omega)]; first | rw [if_neg (by omega)] | rw [if_pos (by omega)])))); (rw [(hH.fin hp hg hst).2 hm]; first | exact absurd ⟨by omega, by omega, by omega, by assumption⟩ hm | (rw [if_pos (by omega)]; done) | (rw [if_neg (by omega)]; done)))
               ·replace c16 : ¬((b.get (i + 1)) ≠ 10) := by first | simpa only [vd, reduceCtorEq, ve, updD, vdc, wp1, wp6, wi, wi2, wip, wz, wb, wc, wd, hs] using c16 | (simp only [vd, reduceCtorEq, ve, updD, vdc, wp1, wp6, wi, wi2, wip, wz, wb, wc, wd, hs] at c16; grind)
                refine ret_wp ?_
                refine ⟨((i + 2 - p), n), by first | (simp only [vd, reduceCtorEq, ve, updD, vdc, wp1, wp6, wi, wi2, wip, wz, wb, wc, wd, hs]; done) | (simp only [vd, reduceCtorEq, ve, updD, vdc, wp1, wp6, wi, wi2, wip, wz, wb, wc, wd, hs]; rfl), ?_⟩
                try dsimp only
                first | exact beg_end sg lo c1 | exact beg_sign hp c1 c2 | (by_cases hm : Go.Proofs.YtamjocnlhhhijaaK.may b p i n lo hi; (rw [(hH.fin hp hg hst).1 hm]; obtain ⟨m1, m2, m3, m4⟩ := hm; first | (exfalso; omega) | exact absurd m4 (by assumption) | rw [if_pos (by omega)] | (rw [if_neg (by omega)]; first | rw [if_neg (by omega)] | (rw [if_pos (by omega)]; first | rw [if_pos (by omega)] | (rw [if_neg (by omega)]; first | rw [if_neg (by omega)] | rw [if_pos (by omega)])))); (rw [(hH.fin hp hg hst).2 hm]; first | exact absurd ⟨by omega, by omega, by omega, by assumption⟩ hm | (rw [if_pos (by omega)]; done) | (rw [if_neg (by omega)]; done)))
            ·replace c13 : ¬((prt n) = (ofBytes (b.sub 1 (p + 1) i).l)) := by first | simpa only [vd, reduceCtorEq, ve, updD, vdc, wp1, wp6, wi, wi2, wip, wz, wb, wc, wd, hs] using c13 | (simp only [vd, reduceCtorEq, ve, updD, vdc, wp1, wp6, wi, wi2, wip, wz, wb, wc, wd, hs] at c13; grind)
             refine ret_wp ?_
             refine ⟨((-1), 0), by first | (simp only [vd, reduceCtorEq, ve, updD, vdc, wp1, wp6, wi, wi2, wip, wz, wb, wc, wd, hs]; done) | (simp only [vd, reduceCtorEq, ve, updD, vdc, wp1, wp6, wi, wi2, wip, wz, wb, wc, wd, hs]; rfl), ?_⟩
             try dsimp only
             first | exact beg_end sg lo c1 | exact beg_sign hp c1 c2 | (by_cases hm : Go.Proofs.YtamjocnlhhhijaaK.may b p i n lo hi; (rw [(hH.fin hp hg hst).1 hm]; obtain ⟨m1, m2, m3, m4⟩ := hm; first | (exfalso; omega) | exact absurd m4 (by assumption) | rw [if_pos (by omega)] | (rw [if_neg (by omega)]; first | rw [if_neg (by omega)] | (rw [if_pos (by omega)]; first | rw [if_pos (by omega)] | (rw [if_neg (by omega)]; first | rw [if_neg (by omega)] | rw [if_pos (by omega)])))); (rw [(hH.fin hp hg hst).2 hm]; first | exact absurd ⟨by omega, by omega, by omega, by assumption⟩ hm | (rw [if_pos (by omega)]; done) | (rw [if_neg (by omega)]; done)))
          ·refine need_wp (by first | exact ⟨_, _, _, rfl⟩ | (simp only [vd, reduceCtorEq, ve, updD, vdc, wp1, wp6, wi, wi2, wip, wz, wb, wc, wd, hs]; exact ⟨_, _, _, rfl⟩)) ?_
           refine need_wp (by simp only [vd, reduceCtorEq, ve, updD, vdc, wp1, wp6, wi, wi2, wip, wz, wb, wc, wd, hs]; exact need_bytes (by assumption) (by assumption)) ?_
           refine call_fun (n) rfl (by first | (simp only [vd, reduceCtorEq, ve, updD, vdc, wp1, wp6, wi, wi2, wip, wz, wb, wc, wd, hs]; done) | (simp only [vd, reduceCtorEq, ve, updD, vdc, wp1, wp6, wi, wi2, wip, wz, wb, wc, wd, hs]; rfl)) (by unfold in64; omega) ?_
           refine need_wp (by first | exact ⟨_, _, _, rfl⟩ | (simp only [vd, reduceCtorEq, ve, updD, vdc, wp1, wp6, wi, wi2, wip, wz, wb, wc, wd, hs]; exact ⟨_, _, _, rfl⟩)) ?_
           refine br_wp (fun c17 => ?_) (fun c17 => ?_)
           ·replace c17 : i = (b.l.length : Int) := by first | simpa only [vd, reduceCtorEq, ve, updD, vdc, wp1, wp6, wi, wi2, wip, wz, wb, wc, wd, hs] using c17 | (simp only [vd, reduceCtorEq, ve, updD, vdc, wp1, wp6, wi, wi2, wip, wz, wb, wc, wd, hs] at c17; grind)
            exfalso; omega
           ·replace c17 : ¬(i = (b.l.length : Int)) := by first | simpa only [vd, reduceCtorEq, ve, updD, vdc, wp1, wp6, wi, wi2, wip, wz, wb, wc, wd, hs] using c17 | (simp only [vd, reduceCtorEq, ve, updD, vdc, wp1, wp6, wi, wi2, wip, wz, wb, wc, wd, hs] at c17; grind)
            refine br_wp (fun c20 => ?_) (fun c20 => ?_)
            ·replace c20 : (prt n) = (ofBytes (b.sub 1 (p + 1) i).l) := by first | simpa only [vd, reduceCtorEq, ve, updD, vdc, wp1, wp6, wi, wi2, wip, wz, wb, wc, wd, hs] using c20 | (simp only [vd, reduceCtorEq, ve, updD, vdc, wp1, wp6, wi, wi2, wip, wz, wb, wc, wd, hs] at c20; grind)
             refine need_wp (by first | exact ⟨_, _, _, rfl⟩ | (simp only [vd, reduceCtorEq, ve, updD, vdc, wp1, wp6, wi, wi2, wip, wz, wb, wc, wd, hs]; exact ⟨_, _, _, rfl⟩)) ?_
             refine need_wp (by first | exact rw_row _ _ | (simp only [vd, reduceCtorEq, ve, updD, vdc, wp1, wp6, wi, wi2, wip, wz, wb, wc, wd, hs]; exact ⟨_, _, rfl⟩)) ?_
             refine need_wp (by first | exact ⟨_, _, _, rfl⟩ | (simp only [vd, reduceCtorEq, ve, updD, vdc, wp1, wp6, wi, wi2, wip, wz, wb, wc, wd, hs]; exact ⟨_, _, _, rfl⟩)) ?_
             refine need_wp (by first | exact rw_row _ _ | (simp only [vd, reduceCtorEq, ve, updD, vdc, wp1, wp6, wi, wi2, wip, wz, wb, wc, wd, hs]; exact ⟨_, _, rfl⟩)) ?_
             refine need_wp (by first | exact rw_sz' rfl | exact rw_szn (by assumption) (.inr (by omega)) | (simp only [vd, reduceCtorEq, ve, updD, vdc, wp1, wp6, wi, wi2, wip, wz, wb, wc, wd, hs]; exact rw_szn (by assumption) (.inr (by omega))) | exact rw_szn (by simp [Rw.ok]) (.inr (by omega))) ?_
             refine need_wp (by simp only [vd, reduceCtorEq, ve, updD, vdc, wp1, wp6, wi, wi2, wip, wz, wb, wc, wd, hs]; exact kind_Rb (by omega) (by omega)) ?_
             refine br_wp (fun c21 => ?_) (fun c21 => ?_)
             ·replace c21 : (b.get i) ≠ 13 := by first | simpa only [vd, reduceCtorEq, ve, updD, vdc, wp1, wp6, wi, wi2, wip, wz, wb, wc, wd, hs] using c21 | (simp only [vd, reduceCtorEq, ve, updD, vdc, wp1, wp6, wi, wi2, wip, wz, wb, wc, wd, hs] at c21; grind)
              refine ret_wp ?_
              refine ⟨((-1), 0), by first | (simp only [vd, reduceCtorEq, ve, updD, vdc, wp1, wp6, wi, wi2, wip, wz, wb, wc, wd, hs]; done) | (simp only [vd, reduceCtorEq, ve, updD, vdc, wp1, wp6, wi, wi2, wip, wz, wb, wc, wd, hs]; rfl), ?_⟩
              try dsimp only
              first | exact beg_end sg lo c1 | exact beg_sign hp c1 c2 | (by_cases hm : Go.Proofs.YtamjocnlhhhijaaK.may b p i n lo hi; (rw [(hH.fin hp hg hst).1 hm]; obtain ⟨m1, m2, m3, m4⟩ := hm; first | (exfalso; omega) | exact absurd m4 (by assumption) | rw [if_pos (by omega)] | (rw [if_neg (by omega)]; first | rw [if_neg (by omega)] | (rw [if_pos (by omega)]; first | rw [if_pos (by omega)] | (rw [if_neg (by omega)]; first | rw [if_neg (by omega)] | rw [if_pos (by omega)])))); (rw [(hH.fin hp hg hst).2 hm]; first | exact absurd ⟨by omega, by omega, by omega, by assumption⟩ hm | (rw [if_pos (by omega)]; done) | (rw [if_neg (by omega)]; done)))
             ·replace c21 : ¬((b.get i) ≠ 13) := by first | simpa only [vd, reduceCtorEq, ve, updD, vdc, wp1, wp6, wi, wi2, wip, wz, wb, wc, wd, hs] using c21 | (simp only [vd, reduceCtorEq, ve, updD, vdc, wp1, wp6, wi, wi2, wip, wz, wb, wc, wd, hs] at c21; grind)
              refine need_wp (by first | exact ⟨_, _, _, rfl⟩ | (simp only [vd, reduceCtorEq, ve, updD, vdc, wp1, wp6, wi, wi2, wip, wz, wb, wc, wd, hs]; exact ⟨_, _, _, rfl⟩)) ?_
              refine br_wp (fun c22 => ?_) (fun c22 => ?_)
              ·replace c22 : (i + 1) = (b.l.length : Int) := by first | simpa only [vd, reduceCtorEq, ve, updD, vdc, wp1, wp6, wi, wi2, wip, wz, wb, wc, wd, hs] using c22 | (simp only [vd, reduceCtorEq, ve, updD, vdc, wp1, wp6, wi, wi2, wip, wz, wb, wc, wd, hs] at c22; grind)
               refine ret_wp ?_
               refine ⟨(0, 0), by first | (simp only [vd, reduceCtorEq, ve, updD, vdc, wp1, wp6, wi, wi2, wip, wz, wb, wc, wd, hs]; done) | (simp only [vd, reduceCtorEq, ve, updD, vdc, wp1, wp6, wi, wi2, wip, wz, wb, wc, wd, hs]; rfl), ?_⟩
               try dsimp only
               first | exact beg_end sg lo c1 | exact beg_sign hp c1 c2 | (by_cases hm : Go.Proofs.YtamjocnlhhhijaaK.may b p i n lo hi; (rw [(hH.fin hp hg hst).1 hm]; obtain ⟨m1, m2, m3, m4⟩ := hm; first | (exfalso; omega) | exact absurd m4 (by assumption) | rw [if_pos (by omega)] | (rw [if_neg (by omega)]; first | rw [if_neg (by omega)] | (rw [if_pos (by omega)]; first | rw [if_pos (by omega)] | (rw [if_neg (by omega)]; first | rw [if_neg (by omega)] | rw [if_pos (by omega)])))); (rw [(hH.fin hp hg hst).2 hm]; first | exact absurd ⟨by omega, by omega, by omega, by assumption⟩ hm | (rw [if_pos (by omega)]; done) | (rw [if_neg (by omega)]; done)))
              ·replace c22 : ¬((i + 1) = (b.l.length : Int)) := by first | simpa only [vd, reduceCtorEq, ve, updD, vdc, wp1, wp6, wi, wi2, wip, wz, wb, wc, wd, hs] using c22 | (simp only [vd, reduceCtorEq, ve, updD, vdc, wp1, wp6, wi, wi2, wip, wz, wb, wc, wd, hs] at c22; grind)
               refine need_wp (by first | exact ⟨_, _, _, rfl⟩ | (simp only [vd, reduceCtorEq, ve, updD, vdc, wp1, wp6, wi, wi2, wip, wz, wb, wc, wd, hs]; exact ⟨_, _, _, rfl⟩)) ?_
               refine need_wp (by first | exact rw_row _ _ | (simp only [vd, reduceCtorEq, ve, updD, vdc, wp1, wp6, wi, wi2, wip, wz, wb, wc, wd, hs]; exact ⟨_, _, rfl⟩)) ?_
               refine need_wp (by simp only [vd, reduceCtorEq, ve, updD, vdc, wp1, wp6, wi, wi2, wip, wz, wb, wc, wd, hs, List.length_cons, List.length_nil, List.length_append, List.length_set]; first | omega | (grind)) ?_
               refine need_wp (by simp only [vd, reduceCtorEq, ve, updD, vdc, wp1, wp6, wi, wi2, wip, wz, wb, wc, wd, hs, List.length_cons, List.length_nil, List.length_append, List.length_set]; first | omega | (grind)) ?_
               refine need_wp (by first | exact ⟨_, _, _, rfl⟩ | (simp only [vd, reduceCtorEq, ve, updD, vdc, wp1, wp6, wi, wi2, wip, wz, wb, wc, wd, hs]; exact ⟨_, _, _, rfl⟩)) ?_
               refine need_wp (by first | exact rw_row _ _ | (simp only [vd, reduceCtorEq, ve, updD, vdc, wp1, wp6, wi, wi2, wip, wz, wb, wc, wd, hs]; exact ⟨_, _, rfl⟩)) ?_
               refine need_wp (by first | exact rw_sz' rfl | exact rw_szn (by assumption) (.inr (by omega)) | (simp only [vd, reduceCtorEq, ve, updD, vdc, wp1, wp6, wi, wi2, wip, wz, wb, wc, wd, hs]; exact rw_szn (by assumption) (.inr (by omega))) | exact rw_szn (by simp [Rw.ok]) (.inr (by omega))) ?_
               refine need_wp (by simp only [vd, reduceCtorEq, ve, updD, vdc, wp1, wp6, wi, wi2, wip, wz, wb, wc, wd, hs]; exact kind_Rb (by omega) (by omega)) ?_
               refine br_wp (fun c23 => ?_) (fun c23 => ?_)
               ·replace c23 : (b.get (i + 1)) ≠ 10 := by first | simpa only [vd, reduceCtorEq, ve, updD, vdc, wp1, wp6, wi, wi2, wip, wz, wb, wc, wd, hs] using c23 | (simp only [vd, reduceCtorEq, ve, updD, vdc, wp1, wp6, wi, wi2, wip, wz, wb, wc, wd, hs] at c23; grind)
                refine ret_wp ?_
                refine ⟨((-1), 0), by first | (simp only [vd, reduceCtorEq, ve, updD, vdc, wp1, wp6, wi, wi2, wip, wz, wb, wc, wd, hs]; done) | (simp only [vd, reduceCtorEq, ve, updD, vdc, wp1, wp6, wi, wi2, wip, wz, wb, wc, wd, hs]; rfl), ?_⟩
                try dsimp only
                first | exact beg_end sg lo c1 | exact beg_sign hp c1 c2 | (by_cases hm : Go.Proofs.YtamjocnlhhhijaaK.may b p i n lo hi; (rw [(hH.fin hp hg hst).1 hm]; obtain ⟨m1, m2, m3, m4⟩ := hm; first | (exfalso; omega) | exact absurd m4 (by assumption) | rw [if_pos (by omega)] | (rw [if_neg (by omega)]; first | rw [if_neg (by omega)] | (rw [if_pos (by omega)]; first | rw [if_pos (by omega)] | (rw [if_neg (by omega)]; first | rw [if_neg (by omega)] | rw [if_pos (by omega)])))); (rw [(hH.fin hp hg hst).2 hm]; first | exact absurd ⟨by omega, by omega, by omega, by assumption⟩ hm | (rw [if_pos (by omega)]; done) | (rw [if_neg (by omega)]; done)))
               ·replace c23 : ¬((b.get (i + 1)) ≠ 10) := by first | simpa only [vd, reduceCtorEq, ve, updD, vdc, wp1, wp6, wi, wi2, wip, wz, wb, wc, wd, hs] using c23 | (simp only [vd, reduceCtorEq, ve, updD, vdc, wp1, wp6, wi, wi2, wip, wz, wb, wc, wd, hs] at c23; grind)
                refine ret_wp ?_
                refine ⟨((i + 2 - p), n), by first | (simp only [vd, reduceCtorEq, ve, updD, vdc, wp1, wp6, wi, wi2, wip, wz, wb, wc, wd, hs]; done) | (simp only [vd, reduceCtorEq, ve, updD, vdc, wp1, wp6, wi, wi2, wip, wz, wb, wc, wd, hs]; rfl), ?_⟩
                try dsimp only
                first | exact beg_end sg lo c1 | exact beg_sign hp c1 c2 | (by_cases hm : Go.Proofs.YtamjocnlhhhijaaK.may b p i n lo hi; (rw [(hH.fin hp hg hst).1 hm]; obtain ⟨m1, m2, m3, m4⟩ := hm; first | (exfalso; omega) | exact absurd m4 (by assumption) | rw [if_pos (by omega)] | (rw [if_neg (by omega)]; first | rw [if_neg (by omega)] | (rw [if_pos (by omega)]; first | rw [if_pos (by omega)] | (rw [if_neg (by omega)]; first | rw [if_neg (by omega)] | rw [if_pos (by omega)])))); (rw [(hH.fin hp hg hst).2 hm]; first | exact absurd ⟨by omega, by omega, by omega, by assumption⟩ hm | (rw [if_pos (by omega)]; done) | (rw [if_neg (by omega)]; done)))
            ·replace c20 : ¬((prt n) = (ofBytes (b.sub 1 (p + 1) i).l)) := by first | simpa only [vd, reduceCtorEq, ve, updD, vdc, wp1, wp6, wi, wi2, wip, wz, wb, wc, wd, hs] using c20 | (simp only [vd, reduceCtorEq, ve, updD, vdc, wp1, wp6, wi, wi2, wip, wz, wb, wc, wd, hs] at c20; grind)
             refine ret_wp ?_
             refine ⟨((-1), 0), by first | (simp only [vd, reduceCtorEq, ve, updD, vdc, wp1, wp6, wi, wi2, wip, wz, wb, wc, wd, hs]; done) | (simp only [vd, reduceCtorEq, ve, updD, vdc, wp1, wp6, wi, wi2, wip, wz, wb, wc, wd, hs]; rfl), ?_⟩
             try dsimp only
             first | exact beg_end sg lo c1 | exact beg_sign hp c1 c2 | (by_cases hm : Go.Proofs.YtamjocnlhhhijaaK.may b p i n lo hi; (rw [(hH.fin hp hg hst).1 hm]; obtain ⟨m1, m2, m3, m4⟩ := hm; first | (exfalso; omega) | exact absurd m4 (by assumption) | rw [if_pos (by omega)] | (rw [if_neg (by omega)]; first | rw [if_neg (by omega)] | (rw [if_pos (by omega)]; first | rw [if_pos (by omega)] | (rw [if_neg (by omega)]; first | rw [if_neg (by omega)] | rw [if_pos (by omega)])))); (rw [(hH.fin hp hg hst).2 hm]; first | exact absurd ⟨by omega, by omega, by omega, by assumption⟩ hm | (rw [if_pos (by omega)]; done) | (rw [if_neg (by omega)]; done)))
         ·replace c9 : ¬(n ≤ hi) := by first | simpa only [vd, reduceCtorEq, ve, updD, vdc, wp1, wp6, wi, wi2, wip, wz, wb, wc, wd] using c9 | (simp only [vd, reduceCtorEq, ve, updD, vdc, wp1, wp6, wi, wi2, wip, wz, wb, wc, wd] at c9; grind)
          refine need_wp (by first | exact ⟨_, _, _, rfl⟩ | (simp only [vd, reduceCtorEq, ve, updD, vdc, wp1, wp6, wi, wi2, wip, wz, wb, wc, wd]; exact ⟨_, _, _, rfl⟩)) ?_
          refine br_wp (fun c24 => ?_) (fun c24 => ?_)
          ·replace c24 : i = (b.l.length : Int) := by first | simpa only [vd, reduceCtorEq, ve, updD, vdc, wp1, wp6, wi, wi2, wip, wz, wb, wc, wd] using c24 | (simp only [vd, reduceCtorEq, ve, updD, vdc, wp1, wp6, wi, wi2, wip, wz, wb, wc, wd] at c24; grind)
           exfalso; omega
          ·replace c24 : ¬(i = (b.l.length : Int)) := by first | simpa only [vd, reduceCtorEq, ve, updD, vdc, wp1, wp6, wi, wi2, wip, wz, wb, wc, wd] using c24 | (simp only [vd, reduceCtorEq, ve, updD, vdc, wp1, wp6, wi, wi2, wip, wz, wb, wc, wd] at c24; grind)
           refine ret_wp ?_
           refine ⟨((-1), 0), by first | (simp only [vd, reduceCtorEq, ve, updD, vdc, wp1, wp6, wi, wi2, wip, wz, wb, wc, wd]; done) | (simp only [vd, reduceCtorEq, ve, updD, vdc, wp1, wp6, wi, wi2, wip, wz, wb, wc, wd]; rfl), ?_⟩
           try dsimp only
           first | exact beg_end sg lo c1 | exact beg_sign hp c1 c2 | (by_cases hm : Go.Proofs.YtamjocnlhhhijaaK.may b p i n lo hi; (rw [(hH.fin hp hg hst).1 hm]; obtain ⟨m1, m2, m3, m4⟩ := hm; first | (exfalso; omega) | exact absurd m4 (by assumption) | rw [if_pos (by omega)] | (rw [if_neg (by omega)]; first | rw [if_neg (by omega)] | (rw [if_pos (by omega)]; first | rw [if_pos (by omega)] | (rw [if_neg (by omega)]; first | rw [if_neg (by omega)] | rw [if_pos (by omega)])))); (rw [(hH.fin hp hg hst).2 hm]; first | exact absurd ⟨by omega, by omega, by omega, by assumption⟩ hm | (rw [if_pos (by omega)]; done) | (rw [if_neg (by omega)]; done)))
        ·replace c8 : ¬(n ≥ lo) := by first | simpa only [vd, reduceCtorEq, ve, updD, vdc, wp1, wp6, wi, wi2, wip, wz, wb, wc, wd] using c8 | (simp only [vd, reduceCtorEq, ve, updD, vdc, wp1, wp6, wi, wi2, wip, wz, wb, wc, wd] at c8; grind)
         refine need_wp (by first | exact ⟨_, _, _, rfl⟩ | (simp only [vd, reduceCtorEq, ve, updD, vdc, wp1, wp6, wi, wi2, wip, wz, wb, wc, wd]; exact ⟨_, _, _, rfl⟩)) ?_
         refine br_wp (fun c26 => ?_) (fun c26 => ?_)
         ·replace c26 : i = (b.l.length : Int) := by first | simpa only [vd, reduceCtorEq, ve, updD, vdc, wp1, wp6, wi, wi2, wip, wz, wb, wc, wd] using c26 | (simp only [vd, reduceCtorEq, ve, updD, vdc, wp1, wp6, wi, wi2, wip, wz, wb, wc, wd] at c26; grind)
          exfalso; omega
         ·replace c26 : ¬(i = (b.l.length : Int)) := by first | simpa only [vd, reduceCtorEq, ve, updD, vdc, wp1, wp6, wi, wi2, wip, wz, wb, wc, wd] using c26 | (simp only [vd, reduceCtorEq, ve, updD, vdc, wp1, wp6, wi, wi2, wip, wz, wb, wc, wd] at c26; grind)
          refine ret_wp ?_
          refine ⟨((-1), 0), by first | (simp only [vd, reduceCtorEq, ve, updD, vdc, wp1, wp6, wi, wi2, wip, wz, wb, wc, wd]; done) | (simp only [vd, reduceCtorEq, ve, updD, vdc, wp1, wp6, wi, wi2, wip, wz, wb, wc, wd]; rfl), ?_⟩
          try dsimp only
          first | exact beg_end sg lo c1 | exact beg_sign hp c1 c2 | (by_cases hm : Go.Proofs.YtamjocnlhhhijaaK.may b p i n lo hi; (rw [(hH.fin hp hg hst).1 hm]; obtain ⟨m1, m2, m3, m4⟩ := hm; first | (exfalso; omega) | exact absurd m4 (by assumption) | rw [if_pos (by omega)] | (rw [if_neg (by omega)]; first | rw [if_neg (by omega)] | (rw [if_pos (by omega)]; first | rw [if_pos (by omega)] | (rw [if_neg (by omega)]; first | rw [if_neg (by omega)] | rw [if_pos (by omega)])))); (rw [(hH.fin hp hg hst).2 hm]; first | exact absurd ⟨by omega, by omega, by omega, by assumption⟩ hm | (rw [if_pos (by omega)]; done) | (rw [if_neg (by omega)]; done)))
       ·replace c7 : ¬(i > (p + 1)) := by first | simpa only [vd, reduceCtorEq, ve, updD, vdc, wp1, wp6, wi, wi2, wip, wz, wb, wc, wd] using c7 | (simp only [vd, reduceCtorEq, ve, updD, vdc, wp1, wp6, wi, wi2, wip, wz, wb, wc, wd] at c7; grind)
        refine need_wp (by first | exact ⟨_, _, _, rfl⟩ | (simp only [vd, reduceCtorEq, ve, updD, vdc, wp1, wp6, wi, wi2, wip, wz, wb, wc, wd]; exact ⟨_, _, _, rfl⟩)) ?_
        refine br_wp (fun c28 => ?_) (fun c28 => ?_)
        ·replace c28 : i = (b.l.length : Int) := by first | simpa only [vd, reduceCtorEq, ve, updD, vdc, wp1, wp6, wi, wi2, wip, wz, wb, wc, wd] using c28 | (simp only [vd, reduceCtorEq, ve, updD, vdc, wp1, wp6, wi, wi2, wip, wz, wb, wc, wd] at c28; grind)
         exfalso; omega
        ·replace c28 : ¬(i = (b.l.length : Int)) := by first | simpa only [vd, reduceCtorEq, ve, updD, vdc, wp1, wp6, wi, wi2, wip, wz, wb, wc, wd] using c28 | (simp only [vd, reduceCtorEq, ve, updD, vdc, wp1, wp6, wi, wi2, wip, wz, wb, wc, wd] at c28; grind)
         refine ret_wp ?_
         refine ⟨((-1), 0), by first | (simp only [vd, reduceCtorEq, ve, updD, vdc, wp1, wp6, wi, wi2, wip, wz, wb, wc, wd]; done) | (simp only [vd, reduceCtorEq, ve, updD, vdc, wp1, wp6, wi, wi2, wip, wz, wb, wc, wd]; rfl), ?_⟩
         try dsimp only
         first | exact beg_end sg lo c1 | exact beg_sign hp c1 c2 | (by_cases hm : Go.Proofs.YtamjocnlhhhijaaK.may b p i n lo hi; (rw [(hH.fin hp hg hst).1 hm]; obtain ⟨m1, m2, m3, m4⟩ := hm; first | (exfalso; omega) | exact absurd m4 (by assumption) | rw [if_pos (by omega)] | (rw [if_neg (by omega)]; first | rw [if_neg (by omega)] | (rw [if_pos (by omega)]; first | rw [if_pos (by omega)] | (rw [if_neg (by omega)]; first | rw [if_neg (by omega)] | rw [if_pos (by omega)])))); (rw [(hH.fin hp hg hst).2 hm]; first | exact absurd ⟨by omega, by omega, by omega, by assumption⟩ hm | (rw [if_pos (by omega)]; done) | (rw [if_neg (by omega)]; done)))
     ·replace c5 : ¬((b.get i) ≥ 48) := by first | simpa only [vd, reduceCtorEq, ve, updD, vdc, wp1, wp6, wi, wi2, wip, wz, wb, wc, wd] using c5 | (simp only [vd, reduceCtorEq, ve, updD, vdc, wp1, wp6, wi, wi2, wip, wz, wb, wc, wd] at c5; grind)
      have hst : i = b.l.length ∨ i = p + 6 ∨ b.get i < 48 ∨ 57 < b.get i := by omega
      refine pop_wp ?_
      refine br_wp (fun c30 => ?_) (fun c30 => ?_)
      ·replace c30 : i > (p + 1) := by first | simpa only [vd, reduceCtorEq, ve, updD, vdc, wp1, wp6, wi, wi2, wip, wz, wb, wc, wd] using c30 | (simp only [vd, reduceCtorEq, ve, updD, vdc, wp1, wp6, wi, wi2, wip, wz, wb, wc, wd] at c30; grind)
       refine br_wp (fun c31 => ?_) (fun c31 => ?_)
       ·replace c31 : n ≥ lo := by first | simpa only [vd, reduceCtorEq, ve, updD, vdc, wp1, wp6, wi, wi2, wip, wz, wb, wc, wd] using c31 | (simp only [vd, reduceCtorEq, ve, updD, vdc, wp1, wp6, wi, wi2, wip, wz, wb, wc, wd] at c31; grind)
        refine br_wp (fun c32 => ?_) (fun c32 => ?_)
        ·replace c32 : n ≤ hi := by first | simpa only [vd, reduceCtorEq, ve, updD, vdc, wp1, wp6, wi, wi2, wip, wz, wb, wc, wd] using c32 | (simp only [vd, reduceCtorEq, ve, updD, vdc, wp1, wp6, wi, wi2, wip, wz, wb, wc, wd] at c32; grind)
         have hs := sub_rw (e := eB) (r := b) (z := 1) (i := p + 1) (j := i) kb (by omega) (by omega) (by omega)
         have kbs : (b.sub 1 (p + 1) i).ok 1 := ok_sub kb _ _
         have hBs : isB (b.sub 1 (p + 1) i).l := isB_sub hp.isB _ _ _
         refine need_wp (by first | exact ⟨_, _, _, rfl⟩ | (simp only [vd, reduceCtorEq, ve, updD, vdc, wp1, wp6, wi, wi2, wip, wz, wb, wc, wd, hs]; exact ⟨_, _, _, rfl⟩)) ?_
         refine need_wp (by first | exact rw_szz (by assumption) | exact rw_szz (.inr rfl)) ?_
         refine need_wp (by simp only [vd, reduceCtorEq, ve, updD, vdc, wp1, wp6, wi, wi2, wip, wz, wb, wc, wd, hs, List.length_cons, List.length_nil, List.length_append, List.length_set]; first | omega | (grind)) ?_
         refine need_wp (by simp only [vd, reduceCtorEq, ve, updD, vdc, wp1, wp6, wi, wi2, wip, wz, wb, wc, wd, hs, List.length_cons, List.length_nil, List.length_append, List.length_set]; first | omega | (grind)) ?_
         refine need_wp (by simp only [vd, reduceCtorEq, ve, updD, vdc, wp1, wp6, wi, wi2, wip, wz, wb, wc, wd, hs, List.length_cons, List.length_nil, List.length_append, List.length_set]; first | omega | (grind)) ?_
         refine both_wp ?_ ?_
         ·refine call_fun (n) rfl (by first | (simp only [vd, reduceCtorEq, ve, updD, vdc, wp1, wp6, wi, wi2, wip, wz, wb, wc, wd, hs]; done) | (simp only [vd, reduceCtorEq, ve, updD, vdc, wp1, wp6, wi, wi2, wip, wz, wb, wc, wd, hs]; rfl)) (by unfold in64; omega) ?_
          refine need_wp (by first | exact ⟨_, _, _, rfl⟩ | (simp only [vd, reduceCtorEq, ve, updD, vdc, wp1, wp6, wi, wi2, wip, wz, wb, wc, wd, hs]; exact ⟨_, _, _, rfl⟩)) ?_
          refine need_wp (by simp only [vd, reduceCtorEq, ve, updD, vdc, wp1, wp6, wi, wi2, wip, wz, wb, wc, wd, hs]; exact need_bytes (by assumption) (by assumption)) ?_
          refine need_wp (by first | exact ⟨_, _, _, rfl⟩ | (simp only [vd, reduceCtorEq, ve, updD, vdc, wp1, wp6, wi, wi2, wip, wz, wb, wc, wd, hs]; exact ⟨_, _, _, rfl⟩)) ?_
          refine br_wp (fun c33 => ?_) (fun c33 => ?_)
          ·replace c33 : i = (b.l.length : Int) := by first | simpa only [vd, reduceCtorEq, ve, updD, vdc, wp1, wp6, wi, wi2, wip, wz, wb, wc, wd, hs] using c33 | (simp only [vd, reduceCtorEq, ve, updD, vdc, wp1, wp6, wi, wi2, wip, wz, wb, wc, wd, hs] at c33; grind)
           exfalso; omega
          ·replace c33 : ¬(i = (b.l.length : Int)) := by first | simpa only [vd, reduceCtorEq, ve, updD, vdc, wp1, wp6, wi, wi2, wip, wz, wb, wc, wd, hs] using c33 | (simp only [vd, reduceCtorEq, ve, updD, vdc, wp1, wp6, wi, wi2, wip, wz, wb, wc, wd, hs] at c33; grind)
           refine br_wp (fun c36 => ?_) (fun c36 => ?_)
           ·replace c36 : (prt n) = (ofBytes (b.sub 1 (p + 1) i).l) := by first | simpa only [vd, reduceCtorEq, ve, updD, vdc, wp1, wp6, wi, wi2, wip, wz, wb, wc, wd, hs] using c36 | (simp only [vd, reduceCtorEq, ve, updD, vdc, wp1, wp6, wi, wi2, wip, wz, wb, wc, wd, hs] at c36; grind)
            refine need_wp (by first | exact ⟨_, _, _, rfl⟩ | (simp only [vd, reduceCtorEq, ve, updD, vdc, wp1, wp6, wi, wi2, wip, wz, wb, wc, wd, hs]; exact ⟨_, _, _, rfl⟩)) ?_
            refine need_wp (by first | exact rw_row _ _ | (simp only [vd, reduceCtorEq, ve, updD, vdc, wp1, wp6, wi, wi2, wip, wz, wb, wc, wd, hs]; exact ⟨_, _, rfl⟩)) ?_
            refine need_wp (by first | exact ⟨_, _, _, rfl⟩ | (simp only [vd, reduceCtorEq, ve, updD, vdc, wp1, wp6, wi, wi2, wip, wz, wb, wc, wd, hs]; exact ⟨_, _, _, rfl⟩)) ?_
            refine need_wp (by first | exact rw_row _ _ | (simp only [vd, reduceCtorEq, ve, updD, vdc, wp1, wp6, wi, wi2, wip, wz, wb, wc, wd, hs]; exact ⟨_, _, rfl⟩)) ?_
            refine need_wp (by first | exact rw_sz' rfl | exact rw_szn (by assumption) (.inr (by omega)) | (simp only [vd, reduceCtorEq, ve, updD, vdc, wp1, wp6, wi, wi2, wip, wz, wb, wc, wd, hs]; exact rw_szn (by assumption) (.inr (by omega))) | exact rw_szn (by simp [Rw.ok]) (.inr (by omega))) ?_
            refine need_wp (by simp only [vd, reduceCtorEq, ve, updD, vdc, wp1, wp6, wi, wi2, wip, wz, wb, wc, wd, hs]; exact kind_Rb (by omega) (by omega)) ?_
            refine br_wp (fun c37 => ?_) (fun c37 => ?_)
            ·replace c37 : (b.get i) ≠ 13 := by first | simpa only [vd, reduceCtorEq, ve, updD, vdc, wp1, wp6, wi, wi2, wip, wz, wb, wc, wd, hs] using c37 | (simp only [vd, reduceCtorEq, ve, updD, vdc, wp1, wp6, wi, wi2, wip, wz, wb, wc, wd, hs] at c37; grind)
             refine ret_wp ?_
             refine ⟨((-1), 0), by first | (simp only [vd, reduceCtorEq, ve, updD, vdc, wp1, wp6, wi, wi2, wip, wz, wb, wc, wd, hs]; done) | (simp only [vd, reduceCtorEq, ve, updD, vdc, wp1, wp6, wi, wi2, wip, wz, wb, wc, wd, hs]; rfl), ?_⟩
             try dsimp only
             first | exact beg_end sg lo c1 | exact beg_sign hp c1 c2 | (by_cases hm : Go.Proofs.YtamjocnlhhhijaaK.may b p i n lo hi; (rw [(hH.fin hp hg hst).1 hm]; obtain ⟨m1, m2, m3, m4⟩ := hm; first | (exfalso; omega) | exact absurd m4 (by assumption) | rw [if_pos (by omega)] | (rw [if_neg (by omega)]; first | rw [if_neg (by omega)] | (rw [if_pos (by omega)]; first | rw [if_pos (by omega)] | (rw [if_neg (by omega)]; first | rw [if_neg (by omega)] | rw [if_pos (by omega)])))); (rw [(hH.fin hp hg hst).2 hm]; first | exact absurd ⟨by omega, by omega, by omega, by assumption⟩ hm | (rw [if_pos (by omega)]; done) | (rw [if_neg (by omega)]; done)))
            ·replace c37 : ¬((b.get i) ≠ 13) := by first | simpa only [vd, reduceCtorEq, ve, updD, vdc, wp1, wp6, wi, wi2, wip, wz, wb, wc, wd, hs] using c37 | (simp only [vd, reduceCtorEq, ve, updD, vdc, wp1, wp6, wi, wi2, wip, wz, wb, wc, wd, hs] at c37; grind)
             refine need_wp (by first | exact ⟨_, _, _, rfl⟩ | (simp only [vd, reduceCtorEq, ve, updD, vdc, wp1, wp6, wi, wi2, wip, wz, wb, wc, wd, hs]; exact ⟨_, _, _, rfl⟩)) ?_
             refine br_wp (fun c38 => ?_) (fun c38 => ?_)
             ·replace c38 : (i + 1) = (b.l.length : Int) := by first | simpa only [vd, reduceCtorEq, ve, updD, vdc, wp1, wp6, wi, wi2, wip, wz, wb, wc, wd, hs] using c38 | (simp only [vd, reduceCtorEq, ve, updD, vdc, wp1, wp6, wi, wi2, wip, wz, wb, wc, wd, hs] at c38; grind)
              refine ret_wp ?_
              refine ⟨(0, 0), by first | (simp only [vd, reduceCtorEq, ve, updD, vdc, wp1, wp6, wi, wi2, wip, wz, wb, wc, wd, hs]; done) | (simp only [vd, reduceCtorEq, ve, updD, vdc, wp1, wp6, wi, wi2, wip, wz, wb, wc, wd, hs]; rfl), ?_⟩
              try dsimp only
              first | exact beg_end sg lo c1 | exact beg_sign hp c1 c2 | (by_cases hm : Go.Proofs.YtamjocnlhhhijaaK.may b p i n lo hi; (rw [(hH.fin hp hg hst).1 hm]; obtain ⟨m1, m2, m3, m4⟩ := hm; first | (exfalso; omega) | exact absurd m4 (by assumption) | rw [if_pos (by omega)] | (rw [if_neg (by omega)]; first | rw [if_neg (by omega)] | (rw [if_pos (by omega)]; first | rw [if_pos (by omega)] | (rw [if_neg (by omega)]; first | rw [if_neg (by omega)] | rw [if_pos (by omega)])))); (rw [(hH.fin hp hg hst).2 hm]; first | exact absurd ⟨by omega, by omega, by omega, by assumption⟩ hm | (rw [if_pos (by omega)]; done) | (rw [if_neg (by omega)]; done)))
             ·replace c38 : ¬((i + 1) = (b.l.length : Int)) := by first | simpa only [vd, reduceCtorEq, ve, updD, vdc, wp1, wp6, wi, wi2, wip, wz, wb, wc, wd, hs] using c38 | (simp only [vd, reduceCtorEq, ve, updD, vdc, wp1, wp6, wi, wi2, wip, wz, wb, wc, wd, hs] at c38; grind)
              refine need_wp (by first | exact ⟨_, _, _, rfl⟩ | (simp only [vd, reduceCtorEq, ve, updD, vdc, wp1, wp6, wi, wi2, wip, wz, wb, wc, wd, hs]; exact ⟨_, _, _, rfl⟩)) ?_
              refine need_wp (by first | exact rw_row _ _ | (simp only [vd, reduceCtorEq, ve, updD, vdc, wp1, wp6, wi, wi2, wip, wz, wb, wc, wd, hs]; exact ⟨_, _, rfl⟩)) ?_
              refine need_wp (by simp only [vd, reduceCtorEq, ve, updD, vdc, wp1, wp6, wi, wi2, wip, wz, wb, wc, wd, hs, List.length_cons, List.length_nil, List.length_append, List.length_set]; first | omega | (grind)) ?_
              refine need_wp (by simp only [vd, reduceCtorEq, ve, updD, vdc, wp1, wp6, wi, wi2, wip, wz, wb, wc, wd, hs, List.length_cons, List.length_nil, List.length_append, List.length_set]; first | omega | (grind)) ?_
              refine need_wp (by first | exact ⟨_, _, _, rfl⟩ | (simp only [vd, reduceCtorEq, ve, updD, vdc, wp1, wp6, wi, wi2, wip, wz, wb, wc, wd, hs]; exact ⟨_, _, _, rfl⟩)) ?_
              refine need_wp (by first | exact rw_row _ _ | (simp only [vd, reduceCtorEq, ve, updD, vdc, wp1, wp6, wi, wi2, wip, wz, wb, wc, wd, hs]; exact ⟨_, _, rfl⟩)) ?_
              refine need_wp (by first | exact rw_sz' rfl | exact rw_szn (by assumption) (.inr (by omega)) | (simp only [vd, reduceCtorEq, ve, updD, vdc, wp1, wp6, wi, wi2, wip, wz, wb, wc, wd, hs]; exact rw_szn (by assumption) (.inr (by omega))) | exact rw_szn (by simp [Rw.ok]) (.inr (by omega))) ?_
              refine need_wp (by simp only [vd, reduceCtorEq, ve, updD, vdc, wp1, wp6, wi, wi2, wip, wz, wb, wc, wd, hs]; exact kind_Rb (by omega) (by omega)) ?_
              refine br_wp (fun c39 => ?_) (fun c39 => ?_)
              ·replace c39 : (b.get (i + 1)) ≠ 10 := by first | simpa only [vd, reduceCtorEq, ve, updD, vdc, wp1, wp6, wi, wi2, wip, wz, wb, wc, wd, hs] using c39 | (simp only [vd, reduceCtorEq, ve, updD, vdc, wp1, wp6, wi, wi2, wip, wz, wb, wc, wd, hs] at c39; grind)
               refine ret_wp ?_
               refine ⟨((-1), 0), by first | (simp only [vd, reduceCtorEq, ve, updD, vdc, wp1, wp6, wi, wi2, wip, wz, wb, wc, wd, hs]; done) | (simp only [vd, reduceCtorEq, ve, updD, vdc, wp1, wp6, wi, wi2, wip, wz, wb, wc, wd, hs]; rfl), ?_⟩
               try dsimp only
               first | exact beg_end sg lo c1 | exact beg_sign hp c1 c2 | (by_cases hm : Go.Proofs.YtamjocnlhhhijaaK.may b p i n lo hi; (rw [(hH.fin hp hg hst).1 hm]; obtain ⟨m1, m2, m3, m4⟩ := hm; first | (exfalso; omega) | exact absurd m4 (by assumption) | rw [if_pos (by omega)] | (rw [if_neg (by omega)]; first | rw [if_neg (by omega)] | (rw [if_pos (by omega)]; first | rw [if_pos (by omega)] | (rw [if_neg (by omega)]; first | rw [if_neg (by omega)] | rw [if_pos (by omega)])))); (rw [(hH.fin hp hg hst).2 hm]; first | exact absurd ⟨by omega, by omega, by omega, by assumption⟩ hm | (rw [if_pos (by omega)]; done) | (rw [if_neg (by omega)]; done)))
              ·replace c39 : ¬((b.get (i + 1)) ≠ 10) := by first | simpa only [vd, reduceCtorEq, ve, updD, vdc, wp1, wp6, wi, wi2, wip, wz, wb, wc, wd, hs] using c39 | (simp only [vd, reduceCtorEq, ve, updD, vdc, wp1, wp6, wi, wi2, wip, wz, wb, wc, wd, hs] at c39; grind)
               refine ret_wp ?_
               refine ⟨((i + 2 - p), n), by first | (simp only [vd, reduceCtorEq, ve, updD, vdc, wp1, wp6, wi, wi2, wip, wz, wb, wc, wd, hs]; done) | (simp only [vd, reduceCtorEq, ve, updD, vdc, wp1, wp6, wi, wi2, wip, wz, wb, wc, wd, hs]; rfl), ?_⟩
               try dsimp only
               first | exact beg_end sg lo c1 | exact beg_sign hp c1 c2 | (by_cases hm : Go.Proofs.YtamjocnlhhhijaaK.may b p i n lo hi; (rw [(hH.fin hp hg hst).1 hm]; obtain ⟨m1, m2, m3, m4⟩ := hm; first | (exfalso; omega) | exact absurd m4 (by assumption) | rw [if_pos (by omega)] | (rw [if_neg (by omega)]; first | rw [if_neg (by omega)] | (rw [if_pos (by omega)]; first | rw [if_pos (by omega)] | (rw [if_neg (by omega)]; first | rw [if_neg (by omega)] | rw [if_pos (by omega)])))); (rw [(hH.fin hp hg hst).2 hm]; first | exact absurd ⟨by omega, by omega, by omega, by assumption⟩ hm | (rw [if_pos (by omega)]; done) | (rw [if_neg (by omega)]; done)))
           ·replace c36 : ¬((prt n) = (ofBytes (b.sub 1 (p + 1) i).l)) := by first | simpa only [vd, reduceCtorEq, ve, updD, vdc, wp1, wp6, wi, wi2, wip, wz, wb, wc, wd, hs] using c36 | (simp only [vd, reduceCtorEq, ve, updD, vdc, wp1, wp6, wi, wi2, wip, wz, wb, wc, wd, hs] at c36; grind)
            refine ret_wp ?_
            refine ⟨((-1), 0), by first | (simp only [vd, reduceCtorEq, ve, updD, vdc, wp1, wp6, wi, wi2, wip, wz, wb, wc, wd, hs]; done) | (simp only [vd, reduceCtorEq, ve, updD, vdc, wp1, wp6, wi, wi2, wip, wz, wb, wc, wd, hs]; rfl), ?_⟩
            try dsimp only
            first | exact beg_end sg lo c1 | exact beg_sign hp c1 c2 | (by_cases hm : Go.Proofs.YtamjocnlhhhijaaK.may b p i n lo hi; (rw [(hH.fin hp hg hst).1 hm]; obtain ⟨m1, m2, m3, m4⟩ := hm; first | (exfalso; omega) | exact absurd m4 (by assumption) | rw [if_pos (by omega)] | (rw [if_neg (by omega)]; first | rw [if_neg (by omega)] | (rw [if_pos (by omega)]; first | rw [if_pos (by omega)] | (rw [if_neg (by omega)]; first | rw [if_neg (by omega)] | rw [if_pos (by omega)])))); (rw [(hH.fin hp hg hst).2 hm]; first | exact absurd ⟨by omega, by omega, by omega, by assumption⟩ hm | (rw [if_pos (by omega)]; done) | (rw [if_neg (by omega)]; done)))
         ·refine need_wp (by first | exact ⟨_, _, _, rfl⟩ | (simp only [vd, reduceCtorEq, ve, updD, vdc, wp1, wp6, wi, wi2, wip, wz, wb, wc, wd, hs]; exact ⟨_, _, _, rfl⟩)) ?_
          refine need_wp (by simp only [vd, reduceCtorEq, ve, updD, vdc, wp1, wp6, wi, wi2, wip, wz, wb, wc, wd, hs]; exact need_bytes (by assumption) (by assumption)) ?_
          refine call_fun (n) rfl (by first | (simp only [vd, reduceCtorEq, ve, updD, vdc, wp1, wp6, wi, wi2, wip, wz, wb, wc, wd, hs]; done) | (simp only [vd, reduceCtorEq, ve, updD, vdc, wp1, wp6, wi, wi2, wip, wz, wb, wc, wd, hs]; rfl)) (by unfold in64; omega) ?_
          refine need_wp (by first | exact ⟨_, _, _, rfl⟩ | (simp only [vd, reduceCtorEq, ve, updD, vdc, wp1, wp6, wi, wi2, wip, wz, wb, wc, wd, hs]; exact ⟨_, _, _, rfl⟩)) ?_
          refine br_wp (fun c40 => ?_) (fun c40 => ?_)
          ·replace c40 : i = (b.l.length : Int) := by first | simpa only [vd, reduceCtorEq, ve, updD, vdc, wp1, wp6, wi, wi2, wip, wz, wb, wc, wd, hs] using c40 | (simp only [vd, reduceCtorEq, ve, updD, vdc, wp1, wp6, wi, wi2, wip, wz, wb, wc, wd, hs] at c40; grind)
           exfalso; omega
          ·replace c40 : ¬(i = (b.l.length : Int)) := by first | simpa only [vd, reduceCtorEq, ve, updD, vdc, wp1, wp6, wi, wi2, wip, wz, wb, wc, wd, hs] using c40 | (simp only [vd, reduceCtorEq, ve, updD, vdc, wp1, wp6, wi, wi2, wip, wz, wb, wc, wd, hs] at c40; grind)
           refine br_wp (fun c43 => ?_) (fun c43 => ?_)
           ·replace c43 : (prt n) = (ofBytes (b.sub 1 (p + 1) i).l) := by first | simpa only [vd, reduceCtorEq, ve, updD, vdc, wp1, wp6, wi, wi2, wip, wz, wb, wc, wd, hs] using c43 | (simp only [vd, reduceCtorEq, ve, updD, vdc, wp1, wp6, wi, wi2, wip, wz, wb, wc, wd, hs] at c43; grind)
            refine need_wp (by first | exact ⟨_, _, _, rfl⟩ | (simp only [vd, reduceCtorEq, ve, updD, vdc, wp1, wp6, wi, wi2, wip, wz, wb, wc, wd, hs]; exact ⟨_, _, _, rfl⟩)) ?_
            refine need_wp (by first | exact rw_row _ _ | (simp only [vd, reduceCtorEq, ve, updD, vdc, wp1, wp6, wi, wi2, wip, wz, wb, wc, wd, hs]; exact ⟨_, _, rfl⟩)) ?_
            refine need_wp (by first | exact ⟨_, _, _, rfl⟩ | (simp only [vd, reduceCtorEq, ve, updD, vdc, wp1, wp6, wi, wi2, wip, wz, wb, wc, wd, hs]; exact ⟨_, _, _, rfl⟩)) ?_
            refine need_wp (by first | exact rw_row _ _ | (simp only [vd, reduceCtorEq, ve, updD, vdc, wp1, wp6, wi, wi2, wip, wz, wb, wc, wd, hs]; exact ⟨_, _, rfl⟩)) ?_
            refine need_wp (by first | exact rw_sz' rfl | exact rw_szn (by assumption) (.inr (by omega)) | (simp only [vd, reduceCtorEq, ve, updD, vdc, wp1, wp6, wi, wi2, wip, wz, wb, wc, wd, hs]; exact rw_szn (by assumption) (.inr (by omega))) | exact rw_szn (by simp [Rw.ok]) (.inr (by omega))) ?_
            refine need_wp (by simp only [vd, reduceCtorEq, ve, updD, vdc, wp1, wp6, wi, wi2, wip, wz, wb, wc, wd, hs]; exact kind_Rb (by omega) (by omega)) ?_
            refine br_wp (fun c44 => ?_) (fun c44 => ?_)
            ·replace c44 : (b.get i) ≠ 13 := by first | simpa only [vd, reduceCtorEq, ve, updD, vdc, wp1, wp6, wi, wi2, wip, wz, wb, wc, wd, hs] using c44 | (simp only [vd, reduceCtorEq, ve, updD, vdc, wp1, wp6, wi, wi2, wip, wz, wb, wc, wd, hs] at c44; grind)
             refine ret_wp ?_
             refine ⟨((-1), 0), by first | (simp only [vd, reduceCtorEq, ve, updD, vdc, wp1, wp6, wi, wi2, wip, wz, wb, wc, wd, hs]; done) | (simp only [vd, reduceCtorEq, ve, updD, vdc, wp1, wp6, wi, wi2, wip, wz, wb, wc, wd, hs]; rfl), ?_⟩
             try dsimp only
             first | exact beg_end sg lo c1 | exact beg_sign hp c1 c2 | (by_cases hm : Go.Proofs.YtamjocnlhhhijaaK.may b p i n lo hi; (rw [(hH.fin hp hg hst).1 hm]; obtain ⟨m1, m2, m3, m4⟩ := hm; first | (exfalso; omega) | exact absurd m4 (by assumption) | rw [if_pos (by omega)] | (rw [if_neg (by omega)]; first | rw [if_neg (by omega)] | (rw [if_pos (by omega)]; first | rw [if_pos (by omega)] | (rw [if_neg (by omega)]; first | rw [if_neg (by omega)] | rw [if_pos (by omega)])))); (rw [(hH.fin hp hg hst).2 hm]; first | exact absurd ⟨by omega, by omega, by omega, by assumption⟩ hm | (rw [if_pos (by omega)]; done) | (rw [if_neg (by omega)]; done)))
            ·replace c44 : ¬((b.get i) ≠ 13) := by first | simpa only [vd, reduceCtorEq, ve, updD, vdc, wp1, wp6, wi, wi2, wip, wz, wb, wc, wd, hs] using c44 | (simp only [vd, reduceCtorEq, ve, updD, vdc, wp1, wp6, wi, wi2, wip, wz, wb, wc, wd, hs] at c44; grind)
             refine need_wp (by first | exact ⟨_, _, _, rfl⟩ | (simp only [vd, reduceCtorEq, ve, updD, vdc, wp1, wp6, wi, wi2, wip, wz, wb, wc, wd, hs]; exact ⟨_, _, _, rfl⟩)) ?_
             refine br_wp (fun c45 => ?_) (fun c45 => ?_)
             ·replace c45 : (i + 1) = (b.l.length : Int) := by first | simpa only [vd, reduceCtorEq, ve, updD, vdc, wp1, wp6, wi, wi2, wip, wz, wb, wc, wd, hs] using c45 | (simp only [vd, reduceCtorEq, ve, updD, vdc, wp1, wp6, wi, wi2, wip, wz, wb, wc, wd, hs] at c45; grind)
              refine ret_wp ?_
              refine ⟨(0, 0), by first | (simp only [vd, reduceCtorEq, ve, updD, vdc, wp1, wp6, wi, wi2, wip, wz, wb, wc, wd, hs]; done) | (simp only [vd, reduceCtorEq, ve, updD, vdc, wp1, wp6, wi, wi2, wip, wz, wb, wc, wd, hs]; rfl), ?_⟩
              try dsimp only
              first | exact beg_end sg lo c1 | exact beg_sign hp c1 c2 | (by_cases hm : Go.Proofs.YtamjocnlhhhijaaK.may b p i n lo hi; (rw [(hH.fin hp hg hst).1 hm]; obtain ⟨m1, m2, m3, m4⟩ := hm; first | (exfalso; omega) | exact absurd m4 (by assumption) | rw [if_pos (by omega)] | (rw [if_neg (by omega)]; first | rw [if_neg (by omega)] | (rw [if_pos (by omega)]; first | rw [if_pos (by omega)] | (rw [if_neg (by omega)]; first | rw [if_neg (by omega)] | rw [if_pos (by omega)])))); (rw [(hH.fin hp hg hst).2 hm]; first | exact absurd ⟨by omega, by omega, by omega, by assumption⟩ hm | (rw [if_pos (by omega)]; done) | (rw [if_neg (by omega)]; done)))
             ·replace c45 : ¬((i + 1) = (b.l.length : Int)) := by first | simpa only [vd, reduceCtorEq, ve, updD, vdc, wp1, wp6, wi, wi2, wip, wz, wb, wc, wd, hs] using c45 | (simp only [vd, reduceCtorEq, ve, updD, vdc, wp1, wp6, wi, wi2, wip, wz, wb, wc, wd, hs] at c45; grind)
              refine need_wp (by first | exact ⟨_, _, _, rfl⟩ | (simp only [vd, reduceCtorEq, ve, updD, vdc, wp1, wp6, wi, wi2, wip, wz, wb, wc, wd, hs]; exact ⟨_, _, _, rfl⟩)) ?_
              refine need_wp (by first | exact rw_row _ _ | (simp only [vd, reduceCtorEq, ve, updD, vdc, wp1, wp6, wi, wi2, wip, wz, wb, wc, wd, hs]; exact ⟨_, _, rfl⟩)) ?_
              refine need_wp (by simp only [vd, reduceCtorEq, ve, updD, vdc, wp1, wp6, wi, wi2, wip, wz, wb, wc, wd, hs, List.length_cons, List.length_nil, List.length_append, List.length_set]; first | omega | (grind)) ?_
              refine need_wp (by simp only [vd, reduceCtorEq, ve, updD, vdc, wp1, wp6, wi, wi2, wip, wz, wb, wc, wd, hs, List.length_cons, List.length_nil, List.length_append, List.length_set]; first | omega | (grind)) ?_
              refine need_wp (by first | exact ⟨_, _, _, rfl⟩ | (simp only [vd, reduceCtorEq, ve, updD, vdc, wp1, wp6, wi, wi2, wip, wz, wb, wc, wd, hs]; exact ⟨_, _, _, rfl⟩)) ?_
              refine need_wp (by first | exact rw_row _ _ | (simp only [vd, reduceCtorEq, ve, updD, vdc, wp1, wp6, wi, wi2, wip, wz, wb, wc, wd, hs]; exact ⟨_, _, rfl⟩)) ?_
              refine need_wp (by first | exact rw_sz' rfl | exact rw_szn (by assumption) (.inr (by omega)) | (simp only [vd, reduceCtorEq, ve, updD, vdc, wp1, wp6, wi, wi2, wip, wz, wb, wc, wd, hs]; exact rw_szn (by assumption) (.inr (by omega))) | exact rw_szn (by simp [Rw.ok]) (.inr (by omega))) ?_
              refine need_wp (by simp only [vd, reduceCtorEq, ve, updD, vdc, wp1, wp6, wi, wi2, wip, wz, wb, wc, wd, hs]; exact kind_Rb (by omega) (by omega)) ?_
              refine br_wp (fun c46 => ?_) (fun c46 => ?_)
              ·replace c46 : (b.get (i + 1)) ≠ 10 := by first | simpa only [vd, reduceCtorEq, ve, updD, vdc, wp1, wp6, wi, wi2, wip, wz, wb, wc, wd, hs] using c46 | (simp only [vd, reduceCtorEq, ve, updD, vdc, wp1, wp6, wi, wi2, wip, wz, wb, wc, wd, hs] at c46; grind)
               refine ret_wp ?_
               refine ⟨((-1), 0), by first | (simp only [vd, reduceCtorEq, ve, updD, vdc, wp1, wp6, wi, wi2, wip, wz, wb, wc, wd, hs]; done) | (simp only [vd, reduceCtorEq, ve, updD, vdc, wp1, wp6, wi, wi2, wip, wz, wb, wc, wd, hs]; rfl), ?_⟩
               try dsimp only
               first | exact beg_end sg lo c1 | exact beg_sign hp c1 c2 | (by_cases hm : Go.Proofs.YtamjocnlhhhijaaK.may b p i n lo hi; (rw [(hH.fin hp hg hst).1 hm]; obtain ⟨m1, m2, m3, m4⟩ := hm; first | (exfalso; omega) | exact absurd m4 (by assumption) | rw [if_pos (by omega)] | (rw [if_neg (by omega)]; first | rw [if_neg (by omega)] | (rw [if_pos (by omega)]; first | rw [if_pos (by omega)] | (rw [if_neg (by omega)]; first | rw [if_neg (by omega)] | rw [if_pos (by omega)])))); (rw [(hH.fin hp hg hst).2 hm]; first | exact absurd ⟨by omega, by omega, by omega, by assumption⟩ hm | (rw [if_pos (by omega)]; done) | (rw [if_neg (by omega)]; done)))
              ·replace c46 : ¬((b.get (i + 1)) ≠ 10) := by first | simpa only [vd, reduceCtorEq, ve, updD, vdc, wp1, wp6, wi, wi2, wip, wz, wb, wc, wd, hs] using c46 | (simp only [vd, reduceCtorEq, ve, updD, vdc, wp1, wp6, wi, wi2, wip, wz, wb, wc, wd, hs] at c46; grind)
               refine ret_wp ?_
               refine ⟨((i + 2 - p), n), by first | (simp only [vd, reduceCtorEq, ve, updD, vdc, wp1, wp6, wi, wi2, wip, wz, wb, wc, wd, hs]; done) | (simp only [vd, reduceCtorEq, ve, updD, vdc, wp1, wp6, wi, wi2, wip, wz, wb, wc, wd, hs]; rfl), ?_⟩
               try dsimp only
               first | exact beg_end sg lo c1 | exact beg_sign hp c1 c2 | (by_cases hm : Go.Proofs.YtamjocnlhhhijaaK.may b p i n lo hi; (rw [(hH.fin hp hg hst).1 hm]; obtain ⟨m1, m2, m3, m4⟩ := hm; first | (exfalso; omega) | exact absurd m4 (by assumption) | rw [if_pos (by omega)] | (rw [if_neg (by omega)]; first | rw [if_neg (by omega)] | (rw [if_pos (by omega)]; first | rw [if_pos (by omega)] | (rw [if_neg (by omega)]; first | rw [if_neg (by omega)] | rw [if_pos (by omega)])))); (rw [(hH.fin hp hg hst).2 hm]; first | exact absurd ⟨by omega, by omega, by omega, by assumption⟩ hm | (rw [if_pos (by omega)]; done) | (rw [if_neg (by omega)]; done)))
           ·replace c43 : ¬((prt n) = (ofBytes (b.sub 1 (p + 1) i).l)) := by first | simpa only [vd, reduceCtorEq, ve, updD, vdc, wp1, wp6, wi, wi2, wip, wz, wb, wc, wd, hs] using c43 | (simp only [vd, reduceCtorEq, ve, updD, vdc, wp1, wp6, wi, wi2, wip, wz, wb, wc, wd, hs] at c43; grind)
            refine ret_wp ?_
            refine ⟨((-1), 0), by first | (simp only [vd, reduceCtorEq, ve, updD, vdc, wp1, wp6, wi, wi2, wip, wz, wb, wc, wd, hs]; done) | (simp only [vd, reduceCtorEq, ve, updD, vdc, wp1, wp6, wi, wi2, wip, wz, wb, wc, wd, hs]; rfl), ?_⟩
            try dsimp only
            first | exact beg_end sg lo c1 | exact beg_sign hp c1 c2 | (by_cases hm : Go.Proofs.YtamjocnlhhhijaaK.may b p i n lo hi; (rw [(hH.fin hp hg hst).1 hm]; obtain ⟨m1, m2, m3, m4⟩ := hm; first | (exfalso; omega) | exact absurd m4 (by assumption) | rw [if_pos (by omega)] | (rw [if_neg (by omega)]; first | rw [if_neg (by omega)] | (rw [if_pos (by omega)]; first | rw [if_pos (by omega)] | (rw [if_neg (by omega)]; first | rw [if_neg (by omega)] | rw [if_pos (by omega)])))); (rw [(hH.fin hp hg hst).2 hm]; first | exact absurd ⟨by omega, by omega, by omega, by assumption⟩ hm | (rw [if_pos (by omega)]; done) | (rw [if_neg (by omega)]; done)))
        ·replace c32 : ¬(n ≤ hi) := by first | simpa only [vd, reduceCtorEq, ve, updD, vdc, wp1, wp6, wi, wi2, wip, wz, wb, wc, wd] using c32 | (simp only [vd, reduceCtorEq, ve, updD, vdc, wp1, wp6, wi, wi2, wip, wz, wb, wc, wd] at c32; grind)
         refine need_wp (by first | exact ⟨_, _, _, rfl⟩ | (simp only [vd, reduceCtorEq, ve, updD, vdc, wp1, wp6, wi, wi2, wip, wz, wb, wc, wd]; exact ⟨_, _, _, rfl⟩)) ?_
         refine br_wp (fun c47 => ?_) (fun c47 => ?_)
         ·replace c47 : i = (b.l.length : Int) := by first | simpa only [vd, reduceCtorEq, ve, updD, vdc, wp1, wp6, wi, wi2, wip, wz, wb, wc, wd] using c47 | (simp only [vd, reduceCtorEq, ve, updD, vdc, wp1, wp6, wi, wi2, wip, wz, wb, wc, wd] at c47; grind)
          exfalso; omega
         ·replace c47 : ¬(i = (b.l.length : Int)) := by first | simpa only [vd, reduceCtorEq, ve, updD, vdc, wp1, wp6, wi, wi2, wip, wz, wb, wc, wd] using c47 | (simp only [vd, reduceCtorEq, ve, updD, vdc, wp1, wp6, wi, wi2, wip, wz, wb, wc, wd] at c47; grind)
          refine ret_wp ?_
          refine ⟨((-1), 0), by first | (simp only [vd, reduceCtorEq, ve, updD, vdc, wp1, wp6, wi, wi2, wip, wz, wb, wc, wd]; done) | (simp only [vd, reduceCtorEq, ve, updD, vdc, wp1, wp6, wi, wi2, wip, wz, wb, wc, wd]; rfl), ?_⟩
          try dsimp only
          first | exact beg_end sg lo c1 | exact beg_sign hp c1 c2 | (by_cases hm : Go.Proofs.YtamjocnlhhhijaaK.may b p i n lo hi; (rw [(hH.fin hp hg hst).1 hm]; obtain ⟨m1, m2, m3, m4⟩ := hm; first | (exfalso; omega) | exact absurd m4 (by assumption) | rw [if_pos (by omega)] | (rw [if_neg (by omega)]; first | rw [if_neg (by omega)] | (rw [if_pos (by omega)]; first | rw [if_pos (by omega)] | (rw [if_neg (by omega)]; first | rw [if_neg (by omega)] | rw [if_pos (by omega)])))); (rw [(hH.fin hp hg hst).2 hm]; first | exact absurd ⟨by omega, by omega, by omega, by assumption⟩ hm | (rw [if_pos (by omega)]; done) | (rw [if_neg (by omega)]; done)))
       ·replace c31 : ¬(n ≥ lo) := by first | simpa only [vd, reduceCtorEq, ve, updD, vdc, wp1, wp6, wi, wi2, wip, wz, wb, wc, wd] using c31 | (simp only [vd, reduceCtorEq, ve, updD, vdc, wp1, wp6, wi, wi2, wip, wz, wb, wc, wd] at c31; grind)
        refine need_wp (by first | exact ⟨_, _, _, rfl⟩ | (simp only [vd, reduceCtorEq, ve, updD, vdc, wp1, wp6, wi, wi2, wip, wz, wb, wc, wd]; exact ⟨_, _, _, rfl⟩)) ?_
        refine br_wp (fun c49 => ?_) (fun c49 => ?_)
        ·replace c49 : i = (b.l.length : Int) := by first | simpa only [vd, reduceCtorEq, ve, updD, vdc, wp1, wp6, wi, wi2, wip, wz, wb, wc, wd] using c49 | (simp only [vd, reduceCtorEq, ve, updD, vdc, wp1, wp6, wi, wi2, wip, wz, wb, wc, wd] at c49; grind)
         exfalso; omega
        ·replace c49 : ¬(i = (b.l.length : Int)) := by first | simpa only [vd, reduceCtorEq, ve, updD, vdc, wp1, wp6, wi, wi2, wip, wz, wb, wc, wd] using c49 | (simp only [vd, reduceCtorEq, ve, updD, vdc, wp1, wp6, wi, wi2, wip, wz, wb, wc, wd] at c49; grind)
         refine ret_wp ?_
         refine ⟨((-1), 0), by first | (simp only [vd, reduceCtorEq, ve, updD, vdc, wp1, wp6, wi, wi2, wip, wz, wb, wc, wd]; done) | (simp only [vd, reduceCtorEq, ve, updD, vdc, wp1, wp6, wi, wi2, wip, wz, wb, wc, wd]; rfl), ?_⟩
         try dsimp only
         first | exact beg_end sg lo c1 | exact beg_sign hp c1 c2 | (by_cases hm : Go.Proofs.YtamjocnlhhhijaaK.may b p i n lo hi; (rw [(hH.fin hp hg hst).1 hm]; obtain ⟨m1, m2, m3, m4⟩ := hm; first | (exfalso; omega) | exact absurd m4 (by assumption) | rw [if_pos (by omega)] | (rw [if_neg (by omega)]; first | rw [if_neg (by omega)] | (rw [if_pos (by omega)]; first | rw [if_pos (by omega)] | (rw [if_neg (by omega)]; first | rw [if_neg (by omega)] | rw [if_pos (by omega)])))); (rw [(hH.fin hp hg hst).2 hm]; first | exact absurd ⟨by omega, by omega, by omega, by assumption⟩ hm | (rw [if_pos (by omega)]; done) | (rw [if_neg (by omega)]; done)))
      ·replace c30 : ¬(i > (p + 1)) := by first | simpa only [vd, reduceCtorEq, ve, updD, vdc, wp1, wp6, wi, wi2, wip, wz, wb, wc, wd] using c30 | (simp only [vd, reduceCtorEq, ve, updD, vdc, wp1, wp6, wi, wi2, wip, wz, wb, wc, wd] at c30; grind)
       refine need_wp (by first | exact ⟨_, _, _, rfl⟩ | (simp only [vd, reduceCtorEq, ve, updD, vdc, wp1, wp6, wi, wi2, wip, wz, wb, wc, wd]; exact ⟨_, _, _, rfl⟩)) ?_
       refine br_wp (fun c51 => ?_) (fun c51 => ?_)
       ·replace c51 : i = (b.l.length : Int) := by first | simpa only [vd, reduceCtorEq, ve, updD, vdc, wp1, wp6, wi, wi2, wip, wz, wb, wc, wd] using c51 | (simp only [vd, reduceCtorEq, ve, updD, vdc, wp1, wp6, wi, wi2, wip, wz, wb, wc, wd] at c51; grind)
        exfalso; omega
       ·replace c51 : ¬(i = (b.l.length : Int)) := by first | simpa only [vd, reduceCtorEq, ve, updD, vdc, wp1, wp6, wi, wi2, wip, wz, wb, wc, wd] using c51 | (simp only [vd, reduceCtorEq, ve, updD, vdc, wp1, wp6, wi, wi2, wip, wz, wb, wc, wd] at c51; grind)
        refine ret_wp ?_
        refine ⟨((-1), 0), by first | (simp only [vd, reduceCtorEq, ve, updD, vdc, wp1, wp6, wi, wi2, wip, wz, wb, wc, wd]; done) | (simp only [vd, reduceCtorEq, ve, updD, vdc, wp1, wp6, wi, wi2, wip, wz, wb, wc, wd]; rfl), ?_⟩
        try dsimp only
        first | exact beg_end sg lo c1 | exact beg_sign hp c1 c2 | (by_cases hm : Go.Proofs.YtamjocnlhhhijaaK.may b p i n lo hi; (rw [(hH.fin hp hg hst).1 hm]; obtain ⟨m1, m2, m3, m4⟩ := hm; first | (exfalso; omega) | exact absurd m4 (by assumption) | rw [if_pos (by omega)] | (rw [if_neg (by omega)]; first | rw [if_neg (by omega)] | (rw [if_pos (by omega)]; first | rw [if_pos (by omega)] | (rw [if_neg (by omega)]; first | rw [if_neg (by omega)] | rw [if_pos (by omega)])))); (rw [(hH.fin hp hg hst).2 hm]; first | exact absurd ⟨by omega, by omega, by omega, by assumption⟩ hm | (rw [if_pos (by omega)]; done) | (rw [if_neg (by omega)]; done)))
    ·replace c4 : ¬(i < (p + 6)) := by first | simpa only [vd, reduceCtorEq, ve, updD, vdc, wp1, wp6, wi, wi2, wip, wz, wb, wc, wd] using c4 | (simp only [vd, reduceCtorEq, ve, updD, vdc, wp1, wp6, wi, wi2, wip, wz, wb, wc, wd] at c4; grind)
     have hst : i = b.l.length ∨ i = p + 6 ∨ b.get i < 48 ∨ 57 < b.get i := by omega
     refine pop_wp ?_
     refine br_wp (fun c53 => ?_) (fun c53 => ?_)
     ·replace c53 : i > (p + 1) := by first | simpa only [vd, reduceCtorEq, ve, updD, vdc, wp1, wp6, wi, wi2, wip, wz, wb, wc, wd] using c53 | (simp only [vd, reduceCtorEq, ve, updD, vdc, wp1, wp6, wi, wi2, wip, wz, wb, wc, wd] at c53; grind)
      refine br_wp (fun c54 => ?_) (fun c54 => ?_)
      ·replace c54 : n ≥ lo := by first | simpa only [vd, reduceCtorEq, ve, updD, vdc, wp1, wp6, wi, wi2, wip, wz, wb, wc, wd] using c54 | (simp only [vd, reduceCtorEq, ve, updD, vdc, wp1, wp6, wi, wi2, wip, wz, wb, wc, wd] at c54; grind)
       refine br_wp (fun c55 => ?_) (fun c55 => ?_)
       ·replace c55 : n ≤ hi := by first | simpa only [vd, reduceCtorEq, ve, updD, vdc, wp1, wp6, wi, wi2, wip, wz, wb, wc, wd] using c55 | (simp only [vd, reduceCtorEq, ve, updD, vdc, wp1, wp6, wi, wi2, wip, wz, wb, wc, wd] at c55; grind)
        have hs := sub_rw (e := eB) (r := b) (z := 1) (i := p + 1) (j := i) kb (by omega) (by omega) (by omega)
        have kbs : (b.sub 1 (p + 1) i).ok 1 := ok_sub kb _ _
        have hBs : isB (b.sub 1 (p + 1) i).l := isB_sub hp.isB _ _ _
        refine need_wp (by first | exact ⟨_, _, _, rfl⟩ | (simp only [vd, reduceCtorEq, ve, updD, vdc, wp1, wp6, wi, wi2, wip, wz, wb, wc, wd, hs]; exact ⟨_, _, _, rfl⟩)) ?_
        refine need_wp (by first | exact rw_szz (by assumption) | exact rw_szz (.inr rfl)) ?_
        refine need_wp (by simp only [vd, reduceCtorEq, ve, updD, vdc, wp1, wp6, wi, wi2, wip, wz, wb, wc, wd, hs, List.length_cons, List.length_nil, List.length_append, List.length_set]; first | omega | (grind)) ?_
        refine need_wp (by simp only [vd, reduceCtorEq, ve, updD, vdc, wp1, wp6, wi, wi2, wip, wz, wb, wc, wd, hs, List.length_cons, List.length_nil, List.length_append, List.length_set]; first | omega | (grind)) ?_
        refine need_wp (by simp only [vd, reduceCtorEq, ve, updD, vdc, wp1, wp6, wi, wi2, wip, wz, wb, wc, wd, hs, List.length_cons, List.length_nil, List.length_append, List.length_set]; first | omega | (grind)) ?_
        refine both_wp ?_ ?_
        ·refine call_fun (n) rfl (by first | (simp only [vd, reduceCtorEq, ve, updD, vdc, wp1, wp6, wi, wi2, wip, wz, wb, wc, wd, hs]; done) | (simp only [vd, reduceCtorEq, ve, updD, vdc, wp1, wp6, wi, wi2, wip, wz, wb, wc, wd, hs]; rfl)) (by unfold in64; omega) ?_
         refine need_wp (by first | exact ⟨_, _, _, rfl⟩ | (simp only [vd, reduceCtorEq, ve, updD, vdc, wp1, wp6, wi, wi2, wip, wz, wb, wc, wd, hs]; exact ⟨_, _, _, rfl⟩)) ?_
         refine need_wp (by simp only [vd, reduceCtorEq, ve, updD, vdc, wp1, wp6, wi, wi2, wip, wz, wb, wc, wd, hs]; exact need_bytes (by assumption) (by assumption)) ?_
         refine need_wp (by first | exact ⟨_, _, _, rfl⟩ | (simp only [vd, reduceCtorEq, ve, updD, vdc, wp1, wp6, wi, wi2, wip, wz, wb, wc, wd, hs]; exact ⟨_, _, _, rfl⟩)) ?_
         refine br_wp (fun c56 => ?_) (fun c56 => ?_)
         ·replace c56 : i = (b.l.length : Int) := by first | simpa only [vd, reduceCtorEq, ve, updD, vdc, wp1, wp6, wi, wi2, wip, wz, wb, wc, wd, hs] using c56 | (simp only [vd, reduceCtorEq, ve, updD, vdc, wp1, wp6, wi, wi2, wip, wz, wb, wc, wd, hs] at c56; grind)
          exfalso; omega
         ·replace c56 : ¬(i = (b.l.length : Int)) := by first | simpa only [vd, reduceCtorEq, ve, updD, vdc, wp1, wp6, wi, wi2, wip, wz, wb, wc, wd, hs] using c56 | (simp only [vd, reduceCtorEq, ve, updD, vdc, wp1, wp6, wi, wi2, wip, wz, wb, wc, wd, hs] at c56; grind)
          refine br_wp (fun c59 => ?_) (fun c59 => ?_)
          ·replace c59 : (prt n) = (ofBytes (b.sub 1 (p + 1) i).l) := by first | simpa only [vd, reduceCtorEq, ve, updD, vdc, wp1, wp6, wi, wi2, wip, wz, wb, wc, wd, hs] using c59 | (simp only [vd, reduceCtorEq, ve, updD, vdc, wp1, wp6, wi, wi2, wip, wz, wb, wc, wd, hs] at c59; grind)
           refine need_wp (by first | exact ⟨_, _, _, rfl⟩ | (simp only [vd, reduceCtorEq, ve, updD, vdc, wp1, wp6, wi, wi2, wip, wz, wb, wc, wd, hs]; exact ⟨_, _, _, rfl⟩)) ?_
           refine need_wp (by first | exact rw_row _ _ | (simp only [vd, reduceCtorEq, ve, updD, vdc, wp1, wp6, wi, wi2, wip, wz, wb, wc, wd, hs]; exact ⟨_, _, rfl⟩)) ?_
           refine need_wp (by simp only [vd, reduceCtorEq, ve, updD, vdc, wp1, wp6, wi, wi2, wip, wz, wb, wc, wd, hs, List.length_cons, List.length_nil, List.length_append, List.length_set]; first | omega | (grind)) ?_
           refine need_wp (by first | exact ⟨_, _, _, rfl⟩ | (simp only [vd, reduceCtorEq, ve, updD, vdc, wp1, wp6, wi, wi2, wip, wz, wb, wc, wd, hs]; exact ⟨_, _, _, rfl⟩)) ?_
           refine need_wp (by first | exact rw_row _ _ | (simp only [vd, reduceCtorEq, ve, updD, vdc, wp1, wp6, wi, wi2, wip, wz, wb, wc, wd, hs]; exact ⟨_, _, rfl⟩)) ?_
           refine need_wp (by first | exact rw_sz' rfl | exact rw_szn (by assumption) (.inr (by omega)) | (simp only [vd, reduceCtorEq, ve, updD, vdc, wp1, wp6, wi, wi2, wip, wz, wb, wc, wd, hs]; exact rw_szn (by assumption) (.inr (by omega))) | exact rw_szn (by simp [Rw.ok]) (.inr (by omega))) ?_
           refine need_wp (by simp only [vd, reduceCtorEq, ve, updD, vdc, wp1, wp6, wi, wi2, wip, wz, wb, wc, wd, hs]; exact kind_Rb (by omega) (by omega)) ?_
           refine br_wp (fun c60 => ?_) (fun c60 => ?_)
           ·replace c60 : (b.get i) ≠ 13 := by first | simpa only [vd, reduceCtorEq, ve, updD, vdc, wp1, wp6, wi, wi2, wip, wz, wb, wc, wd, hs] using c60 | (simp only [vd, reduceCtorEq, ve, updD, vdc, wp1, wp6, wi, wi2, wip, wz, wb, wc, wd, hs] at c60; grind)
            refine ret_wp ?_
            refine ⟨((-1), 0), by first | (simp only [vd, reduceCtorEq, ve, updD, vdc, wp1, wp6, wi, wi2, wip, wz, wb, wc, wd, hs]; done) | (simp only [vd, reduceCtorEq, ve, updD, vdc, wp1, wp6, wi, wi2, wip, wz, wb, wc, wd, hs]; rfl), ?_⟩
            try dsimp only
            first | exact beg_end sg lo c1 | exact beg_sign hp c1 c2 | (by_cases hm : Go.Proofs.YtamjocnlhhhijaaK.may b p i n lo hi; (rw [(hH.fin hp hg hst).1 hm]; obtain ⟨m1, m2, m3, m4⟩ := hm; first | (exfalso; omega) | exact absurd m4 (by assumption) | rw [if_pos (by omega)] | (rw [if_neg (by omega)]; first | rw [if_neg (by omega)] | (rw [if_pos (by omega)]; first | rw [if_pos (by omega)] | (rw [if_neg (by omega)]; first | rw [if_neg (by omega)] | rw [if_pos (by omega)])))); (rw [(hH.fin hp hg hst).2 hm]; first | exact absurd ⟨by omega, by omega, by omega, by assumption⟩ hm | (rw [if_pos (by omega)]; done) | (rw [if_neg (by omega)]; done)))
           ·replace c60 : ¬((b.get i) ≠ 13) := by first | simpa only [vd, reduceCtorEq, ve, updD, vdc, wp1, wp6, wi, wi2, wip, wz, wb, wc, wd, hs] using c60 | (simp only [vd, reduceCtorEq, ve, updD, vdc, wp1, wp6, wi, wi2, wip, wz, wb, wc, wd, hs] at c60; grind)
            refine need_wp (by first | exact ⟨_, _, _, rfl⟩ | (simp only [vd, reduceCtorEq, ve, updD, vdc, wp1, wp6, wi, wi2, wip, wz, wb, wc, wd, hs]; exact ⟨_, _, _, rfl⟩)) ?_
            refine br_wp (fun c61 => ?_) (fun c61 => ?_)
            ·replace c61 : (i + 1) = (b.l.length : Int) := by first | simpa only [vd, reduceCtorEq, ve, updD, vdc, wp1, wp6, wi, wi2, wip, wz, wb, wc, wd, hs] using c61 | (simp only [vd, reduceCtorEq, ve, updD, vdc, wp1, wp6, wi, wi2, wip, wz, wb, wc, wd, hs] at c61; grind)
             refine ret_wp ?_
             refine ⟨(0, 0), by first | (simp only [vd, reduceCtorEq, ve, updD, vdc, wp1, wp6, wi, wi2, wip, wz, wb, wc, wd, hs]; done) | (simp only [vd, reduceCtorEq, ve, updD, vdc, wp1, wp6, wi, wi2, wip, wz, wb, wc, wd, hs]; rfl), ?_⟩
             try dsimp only
             first | exact beg_end sg lo c1 | exact beg_sign hp c1 c2 | (by_cases hm : Go.Proofs.YtamjocnlhhhijaaK.may b p i n lo hi; (rw [(hH.fin hp hg hst).1 hm]; obtain ⟨m1, m2, m3, m4⟩ := hm; first | (exfalso; omega) | exact absurd m4 (by assumption) | rw [if_pos (by omega)] | (rw [if_neg (by omega)]; first | rw [if_neg (by omega)] | (rw [if_pos (by omega)]; first | rw [if_pos (by omega)] | (rw [if_neg (by omega)]; first | rw [if_neg (by omega)] | rw [if_pos (by omega)])))); (rw [(hH.fin hp hg hst).2 hm]; first | exact absurd ⟨by omega, by omega, by omega, by assumption⟩ hm | (rw [if_pos (by omega)]; done) | (rw [if_neg (by omega)]; done)))
            ·replace c61 : ¬((i + 1) = (b.l.length : Int)) := by first | simpa only [vd, reduceCtorEq, ve, updD, vdc, wp1, wp6, wi, wi2, wip, wz, wb, wc, wd, hs] using c61 | (simp only [vd, reduceCtorEq, ve, updD, vdc, wp1, wp6, wi, wi2, wip, wz, wb, wc, wd, hs] at c61; grind)
             refine need_wp (by first | exact ⟨_, _, _, rfl⟩ | (simp only [vd, reduceCtorEq, ve, updD, vdc, wp1, wp6, wi, wi2, wip, wz, wb, wc, wd, hs]; exact ⟨_, _, _, rfl⟩)) ?_
             refine need_wp (by first | exact rw_row _ _ | (simp only [vd, reduceCtorEq, ve, updD, vdc, wp1, wp6, wi, wi2, wip, wz, wb, wc, wd, hs]; exact ⟨_, _, rfl⟩)) ?_
             refine need_wp (by simp only [vd, reduceCtorEq, ve, updD, vdc, wp1, wp6, wi, wi2, wip, wz, wb, wc, wd, hs, List.length_cons, List.length_nil, List.length_append, List.length_set]; first | omega | (grind)) ?_
             refine need_wp (by simp only [vd, reduceCtorEq, ve, updD, vdc, wp1, wp6, wi, wi2, wip, wz, wb, wc, wd, hs, List.length_cons, List.length_nil, List.length_append, List.length_set]; first | omega | (grind)) ?_
             refine need_wp (by first | exact ⟨_, _, _, rfl⟩ | (simp only [vd, reduceCtorEq, ve, updD, vdc, wp1, wp6, wi, wi2, wip, wz, wb, wc, wd, hs]; exact ⟨_, _, _, rfl⟩)) ?_
             refine need_wp (by first | exact rw_row _ _ | (simp only [vd, reduceCtorEq, ve, updD, vdc, wp1, wp6, wi, wi2, wip, wz, wb, wc, wd, hs]; exact ⟨_, _, rfl⟩)) ?_
             refine need_wp (by first | exact rw_sz' rfl | exact rw_szn (by assumption) (.inr (by omega)) | (simp only [vd, reduceCtorEq, ve, updD, vdc, wp1, wp6, wi, wi2, wip, wz, wb, wc, wd, hs]; exact rw_szn (by assumption) (.inr (by omega))) | exact rw_szn (by simp [Rw.ok]) (.inr (by omega))) ?_
             refine need_wp (by simp only [vd, reduceCtorEq, ve, updD, vdc, wp1, wp6, wi, wi2, wip, wz, wb, wc, wd, hs]; exact kind_Rb (by omega) (by omega)) ?_
             refine br_wp (fun c62 => ?_) (fun c62 => ?_)
             ·replace c62 : (b.get (i + 1)) ≠ 10 := by first | simpa only [vd, reduceCtorEq, ve, updD, vdc, wp1, wp6, wi, wi2, wip, wz, wb, wc, wd, hs] using c62 | (simp only [vd, reduceCtorEq, ve, updD, vdc, wp1, wp6, wi, wi2, wip, wz, wb, wc, wd, hs] at c62; grind)
              refine ret_wp ?_
              refine ⟨((-1), 0), by first | (simp only [vd, reduceCtorEq, ve, updD, vdc, wp1, wp6, wi, wi2, wip, wz, wb, wc, wd, hs]; done) | (simp only [vd, reduceCtorEq, ve, updD, vdc, wp1, wp6, wi, wi2, wip, wz, wb, wc, wd, hs]; rfl), ?_⟩
              try dsimp only
              first | exact beg_end sg lo c1 | exact beg_sign hp c1 c2 | (by_cases hm : Go.Proofs.YtamjocnlhhhijaaK.may b p i n lo hi; (rw [(hH.fin hp hg hst).1 hm]; obtain ⟨m1, m2, m3, m4⟩ := hm; first | (exfalso; omega) | exact absurd m4 (by assumption) | rw [if_pos (by omega)] | (rw [if_neg (by omega)]; first | rw [if_neg (by omega)] | (rw [if_pos (by omega)]; first | rw [if_pos (by omega)] | (rw [if_neg (by omega)]; first | rw [if_neg (by omega)] | rw [if_pos (by omega)])))); (rw [(hH.fin hp hg hst).2 hm]; first | exact absurd ⟨by omega, by omega, by omega, by assumption⟩ hm | (rw [if_pos (by omega)]; done) | (rw [if_neg (by omega)]; done)))
             ·replace c62 : ¬((b.get (i + 1)) ≠ 10) := by first | simpa only [vd, reduceCtorEq, ve, updD, vdc, wp1, wp6, wi, wi2, wip, wz, wb, wc, wd, hs] using c62 | (simp only [vd, reduceCtorEq, ve, updD, vdc, wp1, wp6, wi, wi2, wip, wz, wb, wc, wd, hs] at c62; grind)
              refine ret_wp ?_
              refine ⟨((i + 2 - p), n), by first | (simp only [vd, reduceCtorEq, ve, updD, vdc, wp1, wp6, wi, wi2, wip, wz, wb, wc, wd, hs]; done) | (simp only [vd, reduceCtorEq, ve, updD, vdc, wp1, wp6, wi, wi2, wip, wz, wb, wc, wd, hs]; rfl), ?_⟩
              try dsimp only
              first | exact beg_end sg lo c1 | exact beg_sign hp c1 c2 | (by_cases hm : Go.Proofs.YtamjocnlhhhijaaK.may b p i n lo hi; (rw [(hH.fin hp hg hst).1 hm]; obtain ⟨m1, m2, m3, m4⟩ := hm; first | (exfalso; omega) | exact absurd m4 (by assumption) | rw [if_pos (by omega)] | (rw [if_neg (by omega)]; first | rw [if_neg (by omega)] | (rw [if_pos (by omega)]; first | rw [if_pos (by omega)] | (rw [if_neg (by omega)]; first | rw [if_neg (by omega)] | rw [if_pos (by omega)])))); (rw [(hH.fin hp hg hst).2 hm]; first | exact absurd ⟨by omega, by omega, by omega, by assumption⟩ hm | (rw [if_pos (by omega)]; done) | (rw [if_neg (by omega)]; done)))
          ·replace c59 : ¬((prt n) = (ofBytes (b.sub 1 (p + 1) i).l)) := by first | simpa only [vd, reduceCtorEq, ve, updD, vdc, wp1, wp6, wi, wi2, wip, wz, wb, wc, wd, hs] using c59 | (simp only [vd, reduceCtorEq, ve, updD, vdc, wp1, wp6, wi, wi2, wip, wz, wb, wc, wd, hs] at c59; grind)
           refine ret_wp ?_
           refine ⟨((-1), 0), by first | (simp only [vd, reduceCtorEq, ve, updD, vdc, wp1, wp6, wi, wi2, wip, wz, wb, wc, wd, hs]; done) | (simp only [vd, reduceCtorEq, ve, updD, vdc, wp1, wp6, wi, wi2, wip, wz, wb, wc, wd, hs]; rfl), ?_⟩
           try dsimp only
           first | exact beg_end sg lo c1 | exact beg_sign hp c1 c2 | (by_cases hm : Go.Proofs.YtamjocnlhhhijaaK.may b p i n lo hi; (rw [(hH.fin hp hg hst).1 hm]; obtain ⟨m1, m2, m3, m4⟩ := hm; first | (exfalso; omega) | exact absurd m4 (by assumption) | rw [if_pos (by omega)] | (rw [if_neg (by omega)]; first | rw [if_neg (by omega)] | (rw [if_pos (by omega)]; first | rw [if_pos (by omega)] | (rw [if_neg (by omega)]; first | rw [if_neg (by omega)] | rw [if_pos (by omega)])))); (rw [(hH.fin hp hg hst).2 hm]; first | exact absurd ⟨by omega, by omega, by omega, by assumption⟩ hm | (rw [if_pos (by omega)]; done) | (rw [if_neg (by omega)]; done)))
        ·refine need_wp (by first | exact ⟨_, _, _, rfl⟩ | (simp only [vd, reduceCtorEq, ve, updD, vdc, wp1, wp6, wi, wi2, wip, wz, wb, wc, wd, hs]; exact ⟨_, _, _, rfl⟩)) ?_
         refine need_wp (by simp only [vd, reduceCtorEq, ve, updD, vdc, wp1, wp6, wi, wi2, wip, wz, wb, wc, wd, hs]; exact need_bytes (by assumption) (by assumption)) ?_
         refine call_fun (n) rfl (by first | (simp only [vd, reduceCtorEq, ve, updD, vdc, wp1, wp6, wi, wi2, wip, wz, wb, wc, wd, hs]; done) | (simp only [vd, reduceCtorEq, ve, updD, vdc, wp1, wp6, wi, wi2, wip, wz, wb, wc, wd, hs]; rfl)) (by unfold in64; omega) ?_
         refine need_wp (by first | exact ⟨_, _, _, rfl⟩ | (simp only [vd, reduceCtorEq, ve, updD, vdc, wp1, wp6, wi, wi2, wip, wz, wb, wc, wd, hs]; exact ⟨_, _, _, rfl⟩)) ?_
         refine br_wp (fun c63 => ?_) (fun c63 => ?_)
         ·replace c63 : i = (b.l.length : Int) := by first | simpa only [vd, reduceCtorEq, ve, updD, vdc, wp1, wp6, wi, wi2, wip, wz, wb, wc, wd, hs] using c63 | (simp only [vd, reduceCtorEq, ve, updD, vdc, wp1, wp6, wi, wi2, wip, wz, wb, wc, wd, hs] at c63; grind)
          exfalso; omega
         ·replace c63 : ¬(i = (b.l.length : Int)) := by first | simpa only [vd, reduceCtorEq, ve, updD, vdc, wp1, wp6, wi, wi2, wip, wz, wb, wc, wd, hs] using c63 | (simp only [vd, reduceCtorEq, ve, updD, vdc, wp1, wp6, wi, wi2, wip, wz, wb, wc, wd, hs] at c63; grind)
          refine br_wp (fun c66 => ?_) (fun c66 => ?_)
          ·replace c66 : (prt n) = (ofBytes (b.sub 1 (p + 1) i).l) := by first | simpa only [vd, reduceCtorEq, ve, updD, vdc, wp1, wp6, wi, wi2, wip, wz, wb, wc, wd, hs] using c66 | (simp only [vd, reduceCtorEq, ve, updD, vdc, wp1, wp6, wi, wi2, wip, wz, wb, wc, wd, hs] at c66; grind)
           refine need_wp (by first | exact ⟨_, _, _, rfl⟩ | (simp only [vd, reduceCtorEq, ve, updD, vdc, wp1, wp6, wi, wi2, wip, wz, wb, wc, wd, hs]; exact ⟨_, _, _, rfl⟩)) ?_
           refine need_wp (by first | exact rw_row _ _ | (simp only [vd, reduceCtorEq, ve, updD, vdc, wp1, wp6, wi, wi2, wip, wz, wb, wc, wd, hs]; exact ⟨_, _, rfl⟩)) ?_
           refine need_wp (by simp only [vd, reduceCtorEq, ve, updD, vdc, wp1, wp6, wi, wi2, wip, wz, wb, wc, wd, hs, List.length_cons, List.length_nil, List.length_append, List.length_set]; first | omega | (grind)) ?_
           refine need_wp (by first | exact ⟨_, _, _, rfl⟩ | (simp only [vd, reduceCtorEq, ve, updD, vdc, wp1, wp6, wi, wi2, wip, wz, wb, wc, wd, hs]; exact ⟨_, _, _, rfl⟩)) ?_
           refine need_wp (by first | exact rw_row _ _ | (simp only [vd, reduceCtorEq, ve, updD, vdc, wp1, wp6, wi, wi2, wip, wz, wb, wc, wd, hs]; exact ⟨_, _, rfl⟩)) ?_
           refine need_wp (by first | exact rw_sz' rfl | exact rw_szn (by assumption) (.inr (by omega)) | (simp only [vd, reduceCtorEq, ve, updD, vdc, wp1, wp6, wi, wi2, wip, wz, wb, wc, wd, hs]; exact rw_szn (by assumption) (.inr (by omega))) | exact rw_szn (by simp [Rw.ok]) (.inr (by omega))) ?_
           refine need_wp (by simp only [vd, reduceCtorEq, ve, updD, vdc, wp1, wp6, wi, wi2, wip, wz, wb, wc, wd, hs]; exact kind_Rb (by omega) (by omega)) ?_
           refine br_wp (fun c67 => ?_) (fun c67 => ?_)
           ·replace c67 : (b.get i) ≠ 13 := by first | simpa only [vd, reduceCtorEq, ve, updD, vdc, wp1, wp6, wi, wi2, wip, wz, wb, wc, wd, hs] using c67 | (simp only [vd, reduceCtorEq, ve, updD, vdc, wp1, wp6, wi, wi2, wip, wz, wb, wc, wd, hs] at c67; grind)
            refine ret_wp ?_
            refine ⟨((-1), 0), by first | (simp only [vd, reduceCtorEq, ve, updD, vdc, wp1, wp6, wi, wi2, wip, wz, wb, wc, wd, hs]; done) | (simp only [vd, reduceCtorEq, ve, updD, vdc, wp1, wp6, wi, wi2, wip, wz, wb, wc, wd, hs]; rfl), ?_⟩
            try dsimp only
            first | exact beg_end sg lo c1 | exact beg_sign hp c1 c2 | (by_cases hm : Go.Proofs.YtamjocnlhhhijaaK.may b p i n lo hi; (rw [(hH.fin hp hg hst).1 hm]; obtain ⟨m1, m2, m3, m4⟩ := hm; first | (exfalso; omega) | exact absurd m4 (by assumption) | rw [if_pos (by omega)] | (rw [if_neg (by omega)]; first | rw [if_neg (by omega)] | (rw [if_pos (by omega)]; first | rw [if_pos (by omega)] | (rw [if_neg (by omega)]; first | rw [if_neg (by omega)] | rw [if_pos (by omega)])))); (rw [(hH.fin hp hg hst).2 hm]; first | exact absurd ⟨by omega, by omega, by omega, by assumption⟩ hm | (rw [if_pos (by omega)]; done) | (rw [if_neg (by omega)]; done)))
           ·replace c67 : ¬((b.get i) ≠ 13) := by first | simpa only [vd, reduceCtorEq, ve, updD, vdc, wp1, wp6, wi, wi2, wip, wz, wb, wc, wd, hs] using c67 | (simp only [vd, reduceCtorEq, ve, updD, vdc, wp1, wp6, wi, wi2, wip, wz, wb, wc, wd, hs] at c67; grind)
            refine need_wp (by first | exact ⟨_, _, _, rfl⟩ | (simp only [vd, reduceCtorEq, ve, updD, vdc, wp1, wp6, wi, wi2, wip, wz, wb, wc, wd, hs]; exact ⟨_, _, _, rfl⟩)) ?_
            refine br_wp (fun c68 => ?_) (fun c68 => ?_)
            ·replace c68 : (i + 1) = (b.l.length : Int) := by first | simpa only [vd, reduceCtorEq, ve, updD, vdc, wp1, wp6, wi, wi2, wip, wz, wb, wc, wd, hs] using c68 | (simp only [vd, reduceCtorEq, ve, updD, vdc, wp1, wp6, wi, wi2, wip, wz, wb, wc, wd, hs] at c68; grind)
             refine ret_wp ?_
             refine ⟨(0, 0), by first | (simp only [vd, reduceCtorEq, ve, updD, vdc, wp1, wp6, wi, wi2, wip, wz, wb, wc, wd, hs]; done) | (simp only [vd, reduceCtorEq, ve, updD, vdc, wp1, wp6, wi, wi2, wip, wz, wb, wc, wd, hs]; rfl), ?_⟩
             try dsimp only
             first | exact beg_end sg lo c1 | exact beg_sign hp c1 c2 | (by_cases hm : Go.Proofs.YtamjocnlhhhijaaK.may b p i n lo hi; (rw [(hH.fin hp hg hst).1 hm]; obtain ⟨m1, m2, m3, m4⟩ := hm; first | (exfalso; omega) | exact absurd m4 (by assumption) | rw [if_pos (by omega)] | (rw [if_neg (by omega)]; first | rw [if_neg (by omega)] | (rw [if_pos (by omega)]; first | rw [if_pos (by omega)] | (rw [if_neg (by omega)]; first | rw [if_neg (by omega)] | rw [if_pos (by omega)])))); (rw [(hH.fin hp hg hst).2 hm]; first | exact absurd ⟨by omega, by omega, by omega, by assumption⟩ hm | (rw [if_pos (by omega)]; done) | (rw [if_neg (by omega)]; done)))
            ·replace c68 : ¬((i + 1) = (b.l.length : Int)) := by first | simpa only [vd, reduceCtorEq, ve, updD, vdc, wp1, wp6, wi, wi2, wip, wz, wb, wc, wd, hs] using c68 | (simp only [vd, reduceCtorEq, ve, updD, vdc, wp1, wp6, wi, wi2, wip, wz, wb, wc, wd, hs] at c68; grind)
             refine need_wp (by first | exact ⟨_, _, _, rfl⟩ | (simp only [vd, reduceCtorEq, ve, updD, vdc, wp1, wp6, wi, wi2, wip, wz, wb, wc, wd, hs]; exact ⟨_, _, _, rfl⟩)) ?_
             refine need_wp (by first | exact rw_row _ _ | (simp only [vd, reduceCtorEq, ve, updD, vdc, wp1, wp6, wi, wi2, wip, wz, wb, wc, wd, hs]; exact ⟨_, _, rfl⟩)) ?_
             refine need_wp (by simp only [vd, reduceCtorEq, ve, updD, vdc, wp1, wp6, wi, wi2, wip, wz, wb, wc, wd, hs, List.length_cons, List.length_nil, List.length_append, List.length_set]; first | omega | (grind)) ?_
             refine need_wp (by simp only [vd, reduceCtorEq, ve, updD, vdc, wp1, wp6, wi, wi2, wip, wz, wb, wc, wd, hs, List.length_cons, List.length_nil, List.length_append, List.length_set]; first | omega | (grind)) ?_
             refine need_wp (by first | exact ⟨_, _, _, rfl⟩ | (simp only [vd, reduceCtorEq, ve, updD, vdc, wp1, wp6, wi, wi2, wip, wz, wb, wc, wd, hs]; exact ⟨_, _, _, rfl⟩)) ?_
             refine need_wp (by first | exact rw_row _ _ | (simp only [vd, reduceCtorEq, ve, updD, vdc, wp1, wp6, wi, wi2, wip, wz, wb, wc, wd, hs]; exact ⟨_, _, rfl⟩)) ?_
             refine need_wp (by first | exact rw_sz' rfl | exact rw_szn (by assumption) (.inr (by omega)) | (simp only [vd, reduceCtorEq, ve, updD, vdc, wp1, wp6, wi, wi2, wip, wz, wb, wc, wd, hs]; exact rw_szn (by assumption) (.inr (by omega))) | exact rw_szn (by simp [Rw.ok]) (.inr (by omega))) ?_
             refine need_wp (by simp only [vd, reduceCtorEq, ve, updD, vdc, wp1, wp6, wi, wi2, wip, wz, wb, wc, wd, hs]; exact kind_Rb (by omega) (by omega)) ?_
             refine br_wp (fun c69 => ?_) (fun c69 => ?_)
             ·replace c69 : (b.get (i + 1)) ≠ 10 := by first | simpa only [vd, reduceCtorEq, ve, updD, vdc, wp1, wp6, wi, wi2, wip, wz, wb, wc, wd, hs] using c69 | (simp only [vd, reduceCtorEq, ve, updD, vdc, wp1, wp6, wi, wi2, wip, wz, wb, wc, wd, hs] at c69; grind)
              refine ret_wp ?_
              refine ⟨((-1), 0), by first | (simp only [vd, reduceCtorEq, ve, updD, vdc, wp1, wp6, wi, wi2, wip, wz, wb, wc, wd, hs]; done) | (simp only [vd, reduceCtorEq, ve, updD, vdc, wp1, wp6, wi, wi2, wip, wz, wb, wc, wd, hs]; rfl), ?_⟩
              try dsimp only
              first | exact beg_end sg lo c1 | exact beg_sign hp c1 c2 | (by_cases hm : Go.Proofs.YtamjocnlhhhijaaK.may b p i n lo hi; (rw [(hH.fin hp hg hst).1 hm]; obtain ⟨m1, m2, m3, m4⟩ := hm; first | (exfalso; omega) | exact absurd m4 (by assumption) | rw [if_pos (by omega)] | (rw [if_neg (by omega)]; first | rw [if_neg (by omega)] | (rw [if_pos (by omega)]; first | rw [if_pos (by omega)] | (rw [if_neg (by omega)]; first | rw [if_neg (by omega)] | rw [if_pos (by omega)])))); (rw [(hH.fin hp hg hst).2 hm]; first | exact absurd ⟨by omega, by omega, by omega, by assumption⟩ hm | (rw [if_pos (by omega)]; done) | (rw [if_neg (by omega)]; done)))
             ·replace c69 : ¬((b.get (i + 1)) ≠ 10) := by first | simpa only [vd, reduceCtorEq, ve, updD, vdc, wp1, wp6, wi, wi2, wip, wz, wb, wc, wd, hs] using c69 | (simp only [vd, reduceCtorEq, ve, updD, vdc, wp1, wp6, wi, wi2, wip, wz, wb, wc, wd, hs] at c69; grind)
              refine ret_wp ?_
              refine ⟨((i + 2 - p), n), by first | (simp only [vd, reduceCtorEq, ve, updD, vdc, wp1, wp6, wi, wi2, wip, wz, wb, wc, wd, hs]; done) | (simp only [vd, reduceCtorEq, ve, updD, vdc, wp1, wp6, wi, wi2, wip, wz, wb, wc, wd, hs]; rfl), ?_⟩
              try dsimp only
              first | exact beg_end sg lo c1 | exact beg_sign hp c1 c2 | (by_cases hm : Go.Proofs.YtamjocnlhhhijaaK.may b p i n lo hi; (rw [(hH.fin hp hg hst).1 hm]; obtain ⟨m1, m2, m3, m4⟩ := hm; first | (exfalso; omega) | exact absurd m4 (by assumption) | rw [if_pos (by omega)] | (rw [if_neg (by omega)]; first | rw [if_neg (by omega)] | (rw [if_pos (by omega)]; first | rw [if_pos (by omega)] | (rw [if_neg (by omega)]; first | rw [if_neg (by omega)] | rw [if_pos (by omega)])))); (rw [(hH.fin hp hg hst).2 hm]; first | exact absurd ⟨by omega, by omega, by omega, by assumption⟩ hm | (rw [if_pos (by omega)]; done) | (rw [if_neg (by omega)]; done)))
          ·replace c66 : ¬((prt n) = (ofBytes (b.sub 1 (p + 1) i).l)) := by first | simpa only [vd, reduceCtorEq, ve, updD, vdc, wp1, wp6, wi, wi2, wip, wz, wb, wc, wd, hs] using c66 | (simp only [vd, reduceCtorEq, ve, updD, vdc, wp1, wp6, wi, wi2, wip, wz, wb, wc, wd, hs] at c66; grind)
           refine ret_wp ?_
           refine ⟨((-1), 0), by first | (simp only [vd, reduceCtorEq, ve, updD, vdc, wp1, wp6, wi, wi2, wip, wz, wb, wc, wd, hs]; done) | (simp only [vd, reduceCtorEq, ve, updD, vdc, wp1, wp6, wi, wi2, wip, wz, wb, wc, wd, hs]; rfl), ?_⟩
           try dsimp only
           first | exact beg_end sg lo c1 | exact beg_sign hp c1 c2 | (by_cases hm : Go.Proofs.YtamjocnlhhhijaaK.may b p i n lo hi; (rw [(hH.fin hp hg hst).1 hm]; obtain ⟨m1, m2, m3, m4⟩ := hm; first | (exfalso; omega) | exact absurd m4 (by assumption) | rw [if_pos (by omega)] | (rw [if_neg (by omega)]; first | rw [if_neg (by omega)] | (rw [if_pos (by omega)]; first | rw [if_pos (by omega)] | (rw [if_neg (by omega)]; first | rw [if_neg (by omega)] | rw [if_pos (by omega)])))); (rw [(hH.fin hp hg hst).2 hm]; first | exact absurd ⟨by omega, by omega, by omega, by assumption⟩ hm | (rw [if_pos (by omega)]; done) | (rw [if_neg (by omega)]; done)))
       ·replace c55 : ¬(n ≤ hi) := by first | simpa only [vd, reduceCtorEq, ve, updD, vdc, wp1, wp6, wi, wi2, wip, wz, wb, wc, wd] using c55 | (simp only [vd, reduceCtorEq, ve, updD, vdc, wp1, wp6, wi, wi2, wip, wz, wb, wc, wd] at c55; grind)
        refine need_wp (by first | exact ⟨_, _, _, rfl⟩ | (simp only [vd, reduceCtorEq, ve, updD, vdc, wp1, wp6, wi, wi2, wip, wz, wb, wc, wd]; exact ⟨_, _, _, rfl⟩)) ?_
        refine br_wp (fun c70 => ?_) (fun c70 => ?_)
        ·replace c70 : i = (b.l.length : Int) := by first | simpa only [vd, reduceCtorEq, ve, updD, vdc, wp1, wp6, wi, wi2, wip, wz, wb, wc, wd] using c70 | (simp only [vd, reduceCtorEq, ve, updD, vdc, wp1, wp6, wi, wi2, wip, wz, wb, wc, wd] at c70; grind)
         exfalso; omega
        ·replace c70 : ¬(i = (b.l.length : Int)) := by first | simpa only [vd, reduceCtorEq, ve, updD, vdc, wp1, wp6, wi, wi2, wip, wz, wb, wc, wd] using c70 | (simp only [vd, reduceCtorEq, ve, updD, vdc, wp1, wp6, wi, wi2, wip, wz, wb, wc, wd] at c70; grind)
         refine ret_wp ?_
         refine ⟨((-1), 0), by first | (simp only [vd, reduceCtorEq, ve, updD, vdc, wp1, wp6, wi, wi2, wip, wz, wb, wc, wd]; done) | (simp only [vd, reduceCtorEq, ve, updD, vdc, wp1, wp6, wi, wi2, wip, wz, wb, wc, wd]; rfl), ?_⟩
         try dsimp only
         first | exact beg_end sg lo c1 | exact beg_sign hp c1 c2 | (by_cases hm : Go.Proofs.YtamjocnlhhhijaaK.may b p i n lo hi; (rw [(hH.fin hp hg hst).1 hm]; obtain ⟨m1, m2, m3, m4⟩ := hm; first | (exfalso; omega) | exact absurd m4 (by assumption) | rw [if_pos (by omega)] | (rw [if_neg (by omega)]; first | rw [if_neg (by omega)] | (rw [if_pos (by omega)]; first | rw [if_pos (by omega)] | (rw [if_neg (by omega)]; first | rw [if_neg (by omega)] | rw [if_pos (by omega)])))); (rw [(hH.fin hp hg hst).2 hm]; first | exact absurd ⟨by omega, by omega, by omega, by assumption⟩ hm | (rw [if_pos (by omega)]; done) | (rw [if_neg (by omega)]; done)))
      ·replace c54 : ¬(n ≥ lo) := by first | simpa only [vd, reduceCtorEq, ve, updD, vdc, wp1, wp6, wi, wi2, wip, wz, wb, wc, wd] using c54 | (simp only [vd, reduceCtorEq, ve, updD, vdc, wp1, wp6, wi, wi2, wip, wz, wb, wc, wd] at c54; grind)
       refine need_wp (by first | exact ⟨_, _, _, rfl⟩ | (simp only [vd, reduceCtorEq, ve, updD, vdc, wp1, wp6, wi, wi2, wip, wz, wb, wc, wd]; exact ⟨_, _, _, rfl⟩)) ?_
       refine br_wp (fun c72 => ?_) (fun c72 => ?_)
       ·replace c72 : i = (b.l.length : Int) := by first | simpa only [vd, reduceCtorEq, ve, updD, vdc, wp1, wp6, wi, wi2, wip, wz, wb, wc, wd] using c72 | (simp only [vd, reduceCtorEq, ve, updD, vdc, wp1, wp6, wi, wi2, wip, wz, wb, wc, wd] at c72; grind)
        exfalso; omega
       ·replace c72 : ¬(i = (b.l.length : Int)) := by first | simpa only [vd, reduceCtorEq, ve, updD, vdc, wp1, wp6, wi, wi2, wip, wz, wb, wc, wd] using c72 | (simp only [vd, reduceCtorEq, ve, updD, vdc, wp1, wp6, wi, wi2, wip, wz, wb, wc, wd] at c72; grind)
        refine ret_wp ?_
        refine ⟨((-1), 0), by first | (simp only [vd, reduceCtorEq, ve, updD, vdc, wp1, wp6, wi, wi2, wip, wz, wb, wc, wd]; done) | (simp only [vd, reduceCtorEq, ve, updD, vdc, wp1, wp6, wi, wi2, wip, wz, wb, wc, wd]; rfl), ?_⟩
        try dsimp only
        first | exact beg_end sg lo c1 | exact beg_sign hp c1 c2 | (by_cases hm : Go.Proofs.YtamjocnlhhhijaaK.may b p i n lo hi; (rw [(hH.fin hp hg hst).1 hm]; obtain ⟨m1, m2, m3, m4⟩ := hm; first | (exfalso; omega) | exact absurd m4 (by assumption) | rw [if_pos (by omega)] | (rw [if_neg (by omega)]; first | rw [if_neg (by omega)] | (rw [if_pos (by omega)]; first | rw [if_pos (by omega)] | (rw [if_neg (by omega)]; first | rw [if_neg (by omega)] | rw [if_pos (by omega)])))); (rw [(hH.fin hp hg hst).2 hm]; first | exact absurd ⟨by omega, by omega, by omega, by assumption⟩ hm | (rw [if_pos (by omega)]; done) | (rw [if_neg (by omega)]; done)))
     ·replace c53 : ¬(i > (p + 1)) := by first | simpa only [vd, reduceCtorEq, ve, updD, vdc, wp1, wp6, wi, wi2, wip, wz, wb, wc, wd] using c53 | (simp only [vd, reduceCtorEq, ve, updD, vdc, wp1, wp6, wi, wi2, wip, wz, wb, wc, wd] at c53; grind)
      refine need_wp (by first | exact ⟨_, _, _, rfl⟩ | (simp only [vd, reduceCtorEq, ve, updD, vdc, wp1, wp6, wi, wi2, wip, wz, wb, wc, wd]; exact ⟨_, _, _, rfl⟩)) ?_
      refine br_wp (fun c74 => ?_) (fun c74 => ?_)
      ·replace c74 : i = (b.l.length : Int) := by first | simpa only [vd, reduceCtorEq, ve, updD, vdc, wp1, wp6, wi, wi2, wip, wz, wb, wc, wd] using c74 | (simp only [vd, reduceCtorEq, ve, updD, vdc, wp1, wp6, wi, wi2, wip, wz, wb, wc, wd] at c74; grind)
       exfalso; omega
      ·replace c74 : ¬(i = (b.l.length : Int)) := by first | simpa only [vd, reduceCtorEq, ve, updD, vdc, wp1, wp6, wi, wi2, wip, wz, wb, wc, wd] using c74 | (simp only [vd, reduceCtorEq, ve, updD, vdc, wp1, wp6, wi, wi2, wip, wz, wb, wc, wd] at c74; grind)
       refine ret_wp ?_
       refine ⟨((-1), 0), by first | (simp only [vd, reduceCtorEq, ve, updD, vdc, wp1, wp6, wi, wi2, wip, wz, wb, wc, wd]; done) | (simp only [vd, reduceCtorEq, ve, updD, vdc, wp1, wp6, wi, wi2, wip, wz, wb, wc, wd]; rfl), ?_⟩
       try dsimp only
       first | exact beg_end sg lo c1 | exact beg_sign hp c1 c2 | (by_cases hm : Go.Proofs.YtamjocnlhhhijaaK.may b p i n lo hi; (rw [(hH.fin hp hg hst).1 hm]; obtain ⟨m1, m2, m3, m4⟩ := hm; first | (exfalso; omega) | exact absurd m4 (by assumption) | rw [if_pos (by omega)] | (rw [if_neg (by omega)]; first | rw [if_neg (by omega)] | (rw [if_pos (by omega)]; first | rw [if_pos (by omega)] | (rw [if_neg (by omega)]; first | rw [if_neg (by omega)] | rw [if_pos (by omega)])))); (rw [(hH.fin hp hg hst).2 hm]; first | exact absurd ⟨by omega, by omega, by omega, by assumption⟩ hm | (rw [if_pos (by omega)]; done) | (rw [if_neg (by omega)]; done)))
   ·replace c3 : ¬(i < (b.l.length : Int)) := by first | simpa only [vd, reduceCtorEq, ve, updD, vdc, wp1, wp6] using c3 | (simp only [vd, reduceCtorEq, ve, updD, vdc, wp1, wp6] at c3; grind)
    have wi : IntKind.i64.wrap (i + 1) = i + 1 := wrap_id _ (by omega) (by omega)
    have wi2 : IntKind.i64.wrap (i + 2) = i + 2 := wrap_id _ (by omega) (by omega)
    have wip : IntKind.i64.wrap (i + 2 - p) = i + 2 - p := wrap_id _ (by omega) (by omega)
    have hst : i = b.l.length ∨ i = p + 6 ∨ b.get i < 48 ∨ 57 < b.get i := by omega
    refine pop_wp ?_
    refine br_wp (fun c76 => ?_) (fun c76 => ?_)
    ·replace c76 : i > (p + 1) := by first | simpa only [vd, reduceCtorEq, ve, updD, vdc, wp1, wp6, wi, wi2, wip] using c76 | (simp only [vd, reduceCtorEq, ve, updD, vdc, wp1, wp6, wi, wi2, wip] at c76; grind)
     refine br_wp (fun c77 => ?_) (fun c77 => ?_)
     ·replace c77 : n ≥ lo := by first | simpa only [vd, reduceCtorEq, ve, updD, vdc, wp1, wp6, wi, wi2, wip] using c77 | (simp only [vd, reduceCtorEq, ve, updD, vdc, wp1, wp6, wi, wi2, wip] at c77; grind)
      refine br_wp (fun c78 => ?_) (fun c78 => ?_)
      ·replace c78 : n ≤ hi := by first | simpa only [vd, reduceCtorEq, ve, updD, vdc, wp1, wp6, wi, wi2, wip] using c78 | (simp only [vd, reduceCtorEq, ve, updD, vdc, wp1, wp6, wi, wi2, wip] at c78; grind)
       have hs := sub_rw (e := eB) (r := b) (z := 1) (i := p + 1) (j := i) kb (by omega) (by omega) (by omega)
       have kbs : (b.sub 1 (p + 1) i).ok 1 := ok_sub kb _ _
       have hBs : isB (b.sub 1 (p + 1) i).l := isB_sub hp.isB _ _ _
       refine need_wp (by first | exact ⟨_, _, _, rfl⟩ | (simp only [vd, reduceCtorEq, ve, updD, vdc, wp1, wp6, wi, wi2, wip, hs]; exact ⟨_, _, _, rfl⟩)) ?_
       refine need_wp (by first | exact rw_szz (by assumption) | exact rw_szz (.inr rfl)) ?_
       refine need_wp (by simp only [vd, reduceCtorEq, ve, updD, vdc, wp1, wp6, wi, wi2, wip, hs, List.length_cons, List.length_nil, List.length_append, List.length_set]; first | omega | (grind)) ?_
       refine need_wp (by simp only [vd, reduceCtorEq, ve, updD, vdc, wp1, wp6, wi, wi2, wip, hs, List.length_cons, List.length_nil, List.length_append, List.length_set]; first | omega | (grind)) ?_
       refine need_wp (by simp only [vd, reduceCtorEq, ve, updD, vdc, wp1, wp6, wi, wi2, wip, hs, List.length_cons, List.length_nil, List.length_append, List.length_set]; first | omega | (grind)) ?_
       refine both_wp ?_ ?_
       ·refine call_fun (n) rfl (by first | (simp only [vd, reduceCtorEq, ve, updD, vdc, wp1, wp6, wi, wi2, wip, hs]; done) | (simp only [vd, reduceCtorEq, ve, updD, vdc, wp1, wp6, wi, wi2, wip, hs]; rfl)) (by unfold in64; omega) ?_
        refine need_wp (by first | exact ⟨_, _, _, rfl⟩ | (simp only [vd, reduceCtorEq, ve, updD, vdc, wp1, wp6, wi, wi2, wip, hs]; exact ⟨_, _, _, rfl⟩)) ?_
        refine need_wp (by simp only [vd, reduceCtorEq, ve, updD, vdc, wp1, wp6, wi, wi2, wip, hs]; exact need_bytes (by assumption) (by assumption)) ?_
        refine need_wp (by first | exact ⟨_, _, _, rfl⟩ | (simp only [vd, reduceCtorEq, ve, updD, vdc, wp1, wp6, wi, wi2, wip, hs]; exact ⟨_, _, _, rfl⟩)) ?_
        refine br_wp (fun c79 => ?_) (fun c79 => ?_)
        ·replace c79 : i = (b.l.length : Int) := by first | simpa only [vd, reduceCtorEq, ve, updD, vdc, wp1, wp6, wi, wi2, wip, hs] using c79 | (simp only [vd, reduceCtorEq, ve, updD, vdc, wp1, wp6, wi, wi2, wip, hs] at c79; grind)
         refine br_wp (fun c80 => ?_) (fun c80 => ?_)
         ·replace c80 : i = (p + 1) := by first | simpa only [vd, reduceCtorEq, ve, updD, vdc, wp1, wp6, wi, wi2, wip, hs] using c80 | (simp only [vd, reduceCtorEq, ve, updD, vdc, wp1, wp6, wi, wi2, wip, hs] at c80; grind)
          refine ret_wp ?_
          refine ⟨(0, 0), by first | (simp only [vd, reduceCtorEq, ve, updD, vdc, wp1, wp6, wi, wi2, wip, hs]; done) | (simp only [vd, reduceCtorEq, ve, updD, vdc, wp1, wp6, wi, wi2, wip, hs]; rfl), ?_⟩
          try dsimp only
          first | exact beg_end sg lo c1 | exact beg_sign hp c1 c2 | (by_cases hm : Go.Proofs.YtamjocnlhhhijaaK.may b p i n lo hi; (rw [(hH.fin hp hg hst).1 hm]; obtain ⟨m1, m2, m3, m4⟩ := hm; first | (exfalso; omega) | exact absurd m4 (by assumption) | rw [if_pos (by omega)] | (rw [if_neg (by omega)]; first | rw [if_neg (by omega)] | (rw [if_pos (by omega)]; first | rw [if_pos (by omega)] | (rw [if_neg (by omega)]; first | rw [if_neg (by omega)] | rw [if_pos (by omega)])))); (rw [(hH.fin hp hg hst).2 hm]; first | exact absurd ⟨by omega, by omega, by omega, by assumption⟩ hm | (rw [if_pos (by omega)]; done) | (rw [if_neg (by omega)]; done)))
         ·replace c80 : ¬(i = (p + 1)) := by first | simpa only [vd, reduceCtorEq, ve, updD, vdc, wp1, wp6, wi, wi2, wip, hs] using c80 | (simp only [vd, reduceCtorEq, ve, updD, vdc, wp1, wp6, wi, wi2, wip, hs] at c80; grind)
          refine br_wp (fun c81 => ?_) (fun c81 => ?_)
          ·replace c81 : (prt n) = (ofBytes (b.sub 1 (p + 1) i).l) := by first | simpa only [vd, reduceCtorEq, ve, updD, vdc, wp1, wp6, wi, wi2, wip, hs] using c81 | (simp only [vd, reduceCtorEq, ve, updD, vdc, wp1, wp6, wi, wi2, wip, hs] at c81; grind)
           refine ret_wp ?_
           refine ⟨(0, 0), by first | (simp only [vd, reduceCtorEq, ve, updD, vdc, wp1, wp6, wi, wi2, wip, hs]; done) | (simp only [vd, reduceCtorEq, ve, updD, vdc, wp1, wp6, wi, wi2, wip, hs]; rfl), ?_⟩
           try dsimp only
           first | exact beg_end sg lo c1 | exact beg_sign hp c1 c2 | (by_cases hm : Go.Proofs.YtamjocnlhhhijaaK.may b p i n lo hi; (rw [(hH.fin hp hg hst).1 hm]; obtain ⟨m1, m2, m3, m4⟩ := hm; first | (exfalso; omega) | exact absurd m4 (by assumption) | rw [if_pos (by omega)] | (rw [if_neg (by omega)]; first | rw [if_neg (by omega)] | (rw [if_pos (by omega)]; first | rw [if_pos (by omega)] | (rw [if_neg (by omega)]; first | rw [if_neg (by omega)] | rw [if_pos (by omega)])))); (rw [(hH.fin hp hg hst).2 hm]; first | exact absurd ⟨by omega, by omega, by omega, by assumption⟩ hm | (rw [if_pos (by omega)]; done) | (rw [if_neg (by omega)]; done)))
          ·replace c81 : ¬((prt n) = (ofBytes (b.sub 1 (p + 1) i).l)) := by first | simpa only [vd, reduceCtorEq, ve, updD, vdc, wp1, wp6, wi, wi2, wip, hs] using c81 | (simp only [vd, reduceCtorEq, ve, updD, vdc, wp1, wp6, wi, wi2, wip, hs] at c81; grind)
           refine ret_wp ?_
           refine ⟨((-1), 0), by first | (simp only [vd, reduceCtorEq, ve, updD, vdc, wp1, wp6, wi, wi2, wip, hs]; done) | (simp only [vd, reduceCtorEq, ve, updD, vdc, wp1, wp6, wi, wi2, wip, hs]; rfl), ?_⟩
           try dsimp only
           first | exact beg_end sg lo c1 | exact beg_sign hp c1 c2 | (by_cases hm : Go.Proofs.YtamjocnlhhhijaaK.may b p i n lo hi; (rw [(hH.fin hp hg hst).1 hm]; obtain ⟨m1, m2, m3, m4⟩ := hm; first | (exfalso; omega) | exact absurd m4 (by assumption) | rw [if_pos (by omega)] | (rw [if_neg (by omega)]; first | rw [if_neg (by omega)] | (rw [if_pos (by omega)]; first | rw [if_pos (by omega)] | (rw [if_neg (by omega)]; first | rw [if_neg (by omega)] | rw [if_pos (by omega)])))); (rw [(hH.fin hp hg hst).2 hm]; first | exact absurd ⟨by omega, by omega, by omega, by assumption⟩ hm | (rw [if_pos (by omega)]; done) | (rw [if_neg (by omega)]; done)))
        ·replace c79 : ¬(i = (b.l.length : Int)) := by first | simpa only [vd, reduceCtorEq, ve, updD, vdc, wp1, wp6, wi, wi2, wip, hs] using c79 | (simp only [vd, reduceCtorEq, ve, updD, vdc, wp1, wp6, wi, wi2, wip, hs] at c79; grind)
         exfalso; omega
       ·refine need_wp (by first | exact ⟨_, _, _, rfl⟩ | (simp only [vd, reduceCtorEq, ve, updD, vdc, wp1, wp6, wi, wi2, wip, hs]; exact ⟨_, _, _, rfl⟩)) ?_
        refine need_wp (by simp only [vd, reduceCtorEq, ve, updD, vdc, wp1, wp6, wi, wi2, wip, hs]; exact need_bytes (by assumption) (by assumption)) ?_
        refine call_fun (n) rfl (by first | (simp only [vd, reduceCtorEq, ve, updD, vdc, wp1, wp6, wi, wi2, wip, hs]; done) | (simp only [vd, reduceCtorEq, ve, updD, vdc, wp1, wp6, wi, wi2, wip, hs]; rfl)) (by unfold in64; omega) ?_
        refine need_wp (by first | exact ⟨_, _, _, rfl⟩ | (simp only [vd, reduceCtorEq, ve, updD, vdc, wp1, wp6, wi, wi2, wip, hs]; exact ⟨_, _, _, rfl⟩)) ?_
        refine br_wp (fun c86 => ?_) (fun c86 => ?_)
        ·replace c86 : i = (b.l.length : Int) := by first | simpa only [vd, reduceCtorEq, ve, updD, vdc, wp1, wp6, wi, wi2, wip, hs] using c86 | (simp only [vd, reduceCtorEq, ve, updD, vdc, wp1, wp6, wi, wi2, wip, hs] at c86; grind)
         refine br_wp (fun c87 => ?_) (fun c87 => ?_)
         ·replace c87 : i = (p + 1) := by first | simpa only [vd, reduceCtorEq, ve, updD, vdc, wp1, wp6, wi, wi2, wip, hs] using c87 | (simp only [vd, reduceCtorEq, ve, updD, vdc, wp1, wp6, wi, wi2, wip, hs] at c87; grind)
          refine ret_wp ?_
          refine ⟨(0, 0), by first | (simp only [vd, reduceCtorEq, ve, updD, vdc, wp1, wp6, wi, wi2, wip, hs]; done) | (simp only [vd, reduceCtorEq, ve, updD, vdc, wp1, wp6, wi, wi2, wip, hs]; rfl), ?_⟩
          try dsimp only
          first | exact beg_end sg lo c1 | exact beg_sign hp c1 c2 | (by_cases hm : Go.Proofs.YtamjocnlhhhijaaK.may b p i n lo hi; (rw [(hH.fin hp hg hst).1 hm]; obtain ⟨m1, m2, m3, m4⟩ := hm; first | (exfalso; omega) | exact absurd m4 (by assumption) | rw [if_pos (by omega)] | (rw [if_neg (by omega)]; first | rw [if_neg (by omega)] | (rw [if_pos (by omega)]; first | rw [if_pos (by omega)] | (rw [if_neg (by omega)]; first | rw [if_neg (by omega)] | rw [if_pos (by omega)])))); (rw [(hH.fin hp hg hst).2 hm]; first | exact absurd ⟨by omega, by omega, by omega, by assumption⟩ hm | (rw [if_pos (by omega)]; done) | (rw [if_neg (by omega)]; done)))
         ·replace c87 : ¬(i = (p + 1)) := by first | simpa only [vd, reduceCtorEq, ve, updD, vdc, wp1, wp6, wi, wi2, wip, hs] using c87 | (simp only [vd, reduceCtorEq, ve, updD, vdc, wp1, wp6, wi, wi2, wip, hs] at c87; grind)
          refine br_wp (fun c88 => ?_) (fun c88 => ?_)
          ·replace c88 : (prt n) = (ofBytes (b.sub 1 (p + 1) i).l) := by first | simpa only [vd, reduceCtorEq, ve, updD, vdc, wp1, wp6, wi, wi2, wip, hs] using c88 | (simp only [vd, reduceCtorEq, ve, updD, vdc, wp1, wp6, wi, wi2, wip, hs] at c88; grind)
           refine ret_wp ?_
           refine ⟨(0, 0), by first | (simp only [vd, reduceCtorEq, ve, updD, vdc, wp1, wp6, wi, wi2, wip, hs]; done) | (simp only [vd, reduceCtorEq, ve, updD, vdc, wp1, wp6, wi, wi2, wip, hs]; rfl), ?_⟩
           try dsimp only
           first | exact beg_end sg lo c1 | exact beg_sign hp c1 c2 | (by_cases hm : Go.Proofs.YtamjocnlhhhijaaK.may b p i n lo hi; (rw [(hH.fin hp hg hst).1 hm]; obtain ⟨m1, m2, m3, m4⟩ := hm; first | (exfalso; omega) | exact absurd m4 (by assumption) | rw [if_pos (by omega)] | (rw [if_neg (by omega)]; first | rw [if_neg (by omega)] | (rw [if_pos (by omega)]; first | rw [if_pos (by omega)] | (rw [if_neg (by omega)]; first | rw [if_neg (by omega)] | rw [if_pos (by omega)])))); (rw [(hH.fin hp hg hst).2 hm]; first | exact absurd ⟨by omega, by omega, by omega, by assumption⟩ hm | (rw [if_pos (by omega)]; done) | (rw [if_neg (by omega)]; done)))
          ·replace c88 : ¬((prt n) = (ofBytes (b.sub 1 (p + 1) i).l)) := by first | simpa only [vd, reduceCtorEq, ve, updD, vdc, wp1, wp6, wi, wi2, wip, hs] using c88 | (simp only [vd, reduceCtorEq, ve, updD, vdc, wp1, wp6, wi, wi2, wip, hs] at c88; grind)
           refine ret_wp ?_
           refine ⟨((-1), 0), by first | (simp only [vd, reduceCtorEq, ve, updD, vdc, wp1, wp6, wi, wi2, wip, hs]; done) | (simp only [vd, reduceCtorEq, ve, updD, vdc, wp1, wp6, wi, wi2, wip, hs]; rfl), ?_⟩
           try dsimp only
           first | exact beg_end sg lo c1 | exact beg_sign hp c1 c2 | (by_cases hm : Go.Proofs.YtamjocnlhhhijaaK.may b p i n lo hi; (rw [(hH.fin hp hg hst).1 hm]; obtain ⟨m1, m2, m3, m4⟩ := hm; first | (exfalso; omega) | exact absurd m4 (by assumption) | rw [if_pos (by omega)] | (rw [if_neg (by omega)]; first | rw [if_neg (by omega)] | (rw [if_pos (by omega)]; first | rw [if_pos (by omega)] | (rw [if_neg (by omega)]; first | rw [if_neg (by omega)] | rw [if_pos (by omega)])))); (rw [(hH.fin hp hg hst).2 hm]; first | exact absurd ⟨by omega, by omega, by omega, by assumption⟩ hm | (rw [if_pos (by omega)]; done) | (rw [if_neg (by omega)]; done)))
        ·replace c86 : ¬(i = (b.l.length : Int)) := by first | simpa only [vd, reduceCtorEq, ve, updD, vdc, wp1, wp6, wi, wi2, wip, hs] using c86 | (simp only [vd, reduceCtorEq, ve, updD, vdc, wp1, wp6, wi, wi2, wip, hs] at c86; grind)
         exfalso; omega
      ·replace c78 : ¬(n ≤ hi) := by first | simpa only [vd, reduceCtorEq, ve, updD, vdc, wp1, wp6, wi, wi2, wip] using c78 | (simp only [vd, reduceCtorEq, ve, updD, vdc, wp1, wp6, wi, wi2, wip] at c78; grind)
       refine need_wp (by first | exact ⟨_, _, _, rfl⟩ | (simp only [vd, reduceCtorEq, ve, updD, vdc, wp1, wp6, wi, wi2, wip]; exact ⟨_, _, _, rfl⟩)) ?_
       refine br_wp (fun c93 => ?_) (fun c93 => ?_)
       ·replace c93 : i = (b.l.length : Int) := by first | simpa only [vd, reduceCtorEq, ve, updD, vdc, wp1, wp6, wi, wi2, wip] using c93 | (simp only [vd, reduceCtorEq, ve, updD, vdc, wp1, wp6, wi, wi2, wip] at c93; grind)
        refine br_wp (fun c94 => ?_) (fun c94 => ?_)
        ·replace c94 : i = (p + 1) := by first | simpa only [vd, reduceCtorEq, ve, updD, vdc, wp1, wp6, wi, wi2, wip] using c94 | (simp only [vd, reduceCtorEq, ve, updD, vdc, wp1, wp6, wi, wi2, wip] at c94; grind)
         refine ret_wp ?_
         refine ⟨(0, 0), by first | (simp only [vd, reduceCtorEq, ve, updD, vdc, wp1, wp6, wi, wi2, wip]; done) | (simp only [vd, reduceCtorEq, ve, updD, vdc, wp1, wp6, wi, wi2, wip]; rfl), ?_⟩
         try dsimp only
         first | exact beg_end sg lo c1 | exact beg_sign hp c1 c2 | (by_cases hm : Go.Proofs.YtamjocnlhhhijaaK.may b p i n lo hi; (rw [(hH.fin hp hg hst).1 hm]; obtain ⟨m1, m2, m3, m4⟩ := hm; first | (exfalso; omega) | exact absurd m4 (by assumption) | rw [if_pos (by omega)] | (rw [if_neg (by omega)]; first | rw [if_neg (by omega)] | (rw [if_pos (by omega)]; first | rw [if_pos (by omega)] | (rw [if_neg (by omega)]; first | rw [if_neg (by omega)] | rw [if_pos (by omega)])))); (rw [(hH.fin hp hg hst).2 hm]; first | exact absurd ⟨by omega, by omega, by omega, by assumption⟩ hm | (rw [if_pos (by omega)]; done) | (rw [if_neg (by omega)]; done)))
        ·replace c94 : ¬(i = (p + 1)) := by first | simpa only [vd, reduceCtorEq, ve, updD, vdc, wp1, wp6, wi, wi2, wip] using c94 | (simp only [vd, reduceCtorEq, ve, updD, vdc, wp1, wp6, wi, wi2, wip] at c94; grind)
         refine ret_wp ?_
         refine ⟨((-1), 0), by first | (simp only [vd, reduceCtorEq, ve, updD, vdc, wp1, wp6, wi, wi2, wip]; done) | (simp only [vd, reduceCtorEq, ve, updD, vdc, wp1, wp6, wi, wi2, wip]; rfl), ?_⟩
         try dsimp only
         first | exact beg_end sg lo c1 | exact beg_sign hp c1 c2 | (by_cases hm : Go.Proofs.YtamjocnlhhhijaaK.may b p i n lo hi; (rw [(hH.fin hp hg hst).1 hm]; obtain ⟨m1, m2, m3, m4⟩ := hm; first | (exfalso; omega) | exact absurd m4 (by assumption) | rw [if_pos (by omega)] | (rw [if_neg (by omega)]; first | rw [if_neg (by omega)] | (rw [if_pos (by omega)]; first | rw [if_pos (by omega)] | (rw [if_neg (by omega)]; first | rw [if_neg (by omega)] | rw [if_pos (by omega)])))); (rw [(hH.fin hp hg hst).2 hm]; first | exact absurd ⟨by omega, by omega, by omega, by assumption⟩ hm | (rw [if_pos (by omega)]; done) | (rw [if_neg (by omega)]; done)))
       ·replace c93 : ¬(i = (b.l.length : Int)) := by first | simpa only [vd, reduceCtorEq, ve, updD, vdc, wp1, wp6, wi, wi2, wip] using c93 | (simp only [vd, reduceCtorEq, ve, updD, vdc, wp1, wp6, wi, wi2, wip] at c93; grind)
        exfalso; omega
     ·replace c77 : ¬(n ≥ lo) := by first | simpa only [vd, reduceCtorEq, ve, updD, vdc, wp1, wp6, wi, wi2, wip] using c77 | (simp only [vd, reduceCtorEq, ve, updD, vdc, wp1, wp6, wi, wi2, wip] at c77; grind)
      refine need_wp (by first | exact ⟨_, _, _, rfl⟩ | (simp only [vd, reduceCtorEq, ve, updD, vdc, wp1, wp6, wi, wi2, wip]; exact ⟨_, _, _, rfl⟩)) ?_
      refine br_wp (fun c95 => ?_) (fun c95 => ?_)
      ·replace c95 : i = (b.l.length : Int) := by first | simpa only [vd, reduceCtorEq, ve, updD, vdc, wp1, wp6, wi, wi2, wip] using c95 | (simp only [vd, reduceCtorEq, ve, updD, vdc, wp1, wp6, wi, wi2, wip] at c95; grind)
       refine br_wp (fun c96 => ?_) (fun c96 => ?_)
       ·replace c96 : i = (p + 1) := by first | simpa only [vd, reduceCtorEq, ve, updD, vdc, wp1, wp6, wi, wi2, wip] using c96 | (simp only [vd, reduceCtorEq, ve, updD, vdc, wp1, wp6, wi, wi2, wip] at c96; grind)
        refine ret_wp ?_
        refine ⟨(0, 0), by first | (simp only [vd, reduceCtorEq, ve, updD, vdc, wp1, wp6, wi, wi2, wip]; done) | (simp only [vd, reduceCtorEq, ve, updD, vdc, wp1, wp6, wi, wi2, wip]; rfl), ?_⟩
        try dsimp only
        first | exact beg_end sg lo c1 | exact beg_sign hp c1 c2 | (by_cases hm : Go.Proofs.YtamjocnlhhhijaaK.may b p i n lo hi; (rw [(hH.fin hp hg hst).1 hm]; obtain ⟨m1, m2, m3, m4⟩ := hm; first | (exfalso; omega) | exact absurd m4 (by assumption) | rw [if_pos (by omega)] | (rw [if_neg (by omega)]; first | rw [if_neg (by omega)] | (rw [if_pos (by omega)]; first | rw [if_pos (by omega)] | (rw [if_neg (by omega)]; first | rw [if_neg (by omega)] | rw [if_pos (by omega)])))); (rw [(hH.fin hp hg hst).2 hm]; first | exact absurd ⟨by omega, by omega, by omega, by assumption⟩ hm | (rw [if_pos (by omega)]; done) | (rw [if_neg (by omega)]; done)))
       ·replace c96 : ¬(i = (p + 1)) := by first | simpa only [vd, reduceCtorEq, ve, updD, vdc, wp1, wp6, wi, wi2, wip] using c96 | (simp only [vd, reduceCtorEq, ve, updD, vdc, wp1, wp6, wi, wi2, wip] at c96; grind)
        refine ret_wp ?_
        refine ⟨((-1), 0), by first | (simp only [vd, reduceCtorEq, ve, updD, vdc, wp1, wp6, wi, wi2, wip]; done) | (simp only [vd, reduceCtorEq, ve, updD, vdc, wp1, wp6, wi, wi2, wip]; rfl), ?_⟩
        try dsimp only
        first | exact beg_end sg lo c1 | exact beg_sign hp c1 c2 | (by_cases hm : Go.Proofs.YtamjocnlhhhijaaK.may b p i n lo hi; (rw [(hH.fin hp hg hst).1 hm]; obtain ⟨m1, m2, m3, m4⟩ := hm; first | (exfalso; omega) | exact absurd m4 (by assumption) | rw [if_pos (by omega)] | (rw [if_neg (by omega)]; first | rw [if_neg (by omega)] | (rw [if_pos (by omega)]; first | rw [if_pos (by omega)] | (rw [if_neg (by omega)]; first | rw [if_neg (by omega)] | rw [if_pos (by omega)])))); (rw [(hH.fin hp hg hst).2 hm]; first | exact absurd ⟨by omega, by omega, by omega, by assumption⟩ hm | (rw [if_pos (by omega)]; done) | (rw [if_neg (by omega)]; done)))
      ·replace c95 : ¬(i = (b.l.length : Int)) := by first | simpa only [vd, reduceCtorEq, ve, updD, vdc, wp1, wp6, wi, wi2, wip] using c95 | (simp only [vd, reduceCtorEq, ve, updD, vdc, wp1, wp6, wi, wi2, wip] at c95; grind)
       exfalso; omega
    ·replace c76 : ¬(i > (p + 1)) := by first | simpa only [vd, reduceCtorEq, ve, updD, vdc, wp1, wp6, wi, wi2, wip] using c76 | (simp only [vd, reduceCtorEq, ve, updD, vdc, wp1, wp6, wi, wi2, wip] at c76; grind)
     refine need_wp (by first | exact ⟨_, _, _, rfl⟩ | (simp only [vd, reduceCtorEq, ve, updD, vdc, wp1, wp6, wi, wi2, wip]; exact ⟨_, _, _, rfl⟩)) ?_
     refine br_wp (fun c97 => ?_) (fun c97 => ?_)
     ·replace c97 : i = (b.l.length : Int) := by first | simpa only [vd, reduceCtorEq, ve, updD, vdc, wp1, wp6, wi, wi2, wip] using c97 | (simp only [vd, reduceCtorEq, ve, updD, vdc, wp1, wp6, wi, wi2, wip] at c97; grind)
      refine br_wp (fun c98 => ?_) (fun c98 => ?_)
      ·replace c98 : i = (p + 1) := by first | simpa only [vd, reduceCtorEq, ve, updD, vdc, wp1, wp6, wi, wi2, wip] using c98 | (simp only [vd, reduceCtorEq, ve, updD, vdc, wp1, wp6, wi, wi2, wip] at c98; grind)
       refine ret_wp ?_
       refine ⟨(0, 0), by first | (simp only [vd, reduceCtorEq, ve, updD, vdc, wp1, wp6, wi, wi2, wip]; done) | (simp only [vd, reduceCtorEq, ve, updD, vdc, wp1, wp6, wi, wi2, wip]; rfl), ?_⟩
       try dsimp only
       first | exact beg_end sg lo c1 | exact beg_sign hp c1 c2 | (by_cases hm : Go.Proofs.YtamjocnlhhhijaaK.may b p i n lo hi; (rw [(hH.fin hp hg hst).1 hm]; obtain ⟨m1, m2, m3, m4⟩ := hm; first | (exfalso; omega) | exact absurd m4 (by assumption) | rw [if_pos (by omega)] | (rw [if_neg (by omega)]; first | rw [if_neg (by omega)] | (rw [if_pos (by omega)]; first | rw [if_pos (by omega)] | (rw [if_neg (by omega)]; first | rw [if_neg (by omega)] | rw [if_pos (by omega)])))); (rw [(hH.fin hp hg hst).2 hm]; first | exact absurd ⟨by omega, by omega, by omega, by assumption⟩ hm | (rw [if_pos (by omega)]; done) | (rw [if_neg (by omega)]; done)))
      ·replace c98 : ¬(i = (p + 1)) := by first | simpa only [vd, reduceCtorEq, ve, updD, vdc, wp1, wp6, wi, wi2, wip] using c98 | (simp only [vd, reduceCtorEq, ve, updD, vdc, wp1, wp6, wi, wi2, wip] at c98; grind)
       refine ret_wp ?_
       refine ⟨((-1), 0), by first | (simp only [vd, reduceCtorEq, ve, updD, vdc, wp1, wp6, wi, wi2, wip]; done) | (simp only [vd, reduceCtorEq, ve, updD, vdc, wp1, wp6, wi, wi2, wip]; rfl), ?_⟩
       try dsimp only
       first | exact beg_end sg lo c1 | exact beg_sign hp c1 c2 | (by_cases hm : Go.Proofs.YtamjocnlhhhijaaK.may b p i n lo hi; (rw [(hH.fin hp hg hst).1 hm]; obtain ⟨m1, m2, m3, m4⟩ := hm; first | (exfalso; omega) | exact absurd m4 (by assumption) | rw [if_pos (by omega)] | (rw [if_neg (by omega)]; first | rw [if_neg (by omega)] | (rw [if_pos (by omega)]; first | rw [if_pos (by omega)] | (rw [if_neg (by omega)]; first | rw [if_neg (by omega)] | rw [if_pos (by omega)])))); (rw [(hH.fin hp hg hst).2 hm]; first | exact absurd ⟨by omega, by omega, by omega, by assumption⟩ hm | (rw [if_pos (by omega)]; done) | (rw [if_neg (by omega)]; done)))
     ·replace c97 : ¬(i = (b.l.length : Int)) := by first | simpa only [vd, reduceCtorEq, ve, updD, vdc, wp1, wp6, wi, wi2, wip] using c97 | (simp only [vd, reduceCtorEq, ve, updD, vdc, wp1, wp6, wi, wi2, wip] at c97; grind)
      exfalso; omega
end Go.Proofs.YtamjocnlhhhijaaK
