import Derived.Test.YtamjocnlhhhijaaVRRy
import Derived.Test.YtamjocnlhhhijaaVRRF
import Derived.Test.YtamjocnlhhhijaaVRRl
set_option linter.unusedSimpArgs false
set_option linter.unusedVariables false
set_option linter.unnecessarySimpa false
namespace Go.Proofs.YtamjocnlhhhijaaK
open Go Go.Proofs.YtamjocnlhhhijaaV Go.Proofs Go.Proofs.YtamjocnlhhhijaaK Go.Proofs.YtamjocnlhhhijaaK Go.Proofs.YtamjocnlhhhijaaS
def kLaw9 (sg : Sig) : Sig × Con := (sg, mkFun (fun x : Rw Int => ([Rw.atom eB x] : List Atom)) (fun x => x.ok 1 ∧ isB x.l) (fun _ => [aB true]))
set_option maxHeartbeats 1000000 in
theorem h9 : holds Try.prog (kLaw9 sg9) := by
 refine fn_holds (l := [kKnown sg10, kWhole sg20, kMay sg25, kCmd sg23, kSameB sg22]) ⟨h10, h20, h25, h23, h22, trivial⟩ hP rs9 (inj_of (fun l : List Atom => (Rw.un unI (l.getD 0 atom0) : Rw Int)) (fun _ => by simp [List.getD_cons_zero, List.getD_cons_succ, unA_atom, unL_atom])) Try.func9 (by kernel_rfl) (c := code Try.f9) (by kernel_rfl) (an := an9) (by kernel_rfl) (pk := pk9) rfl (t := t9) (by kernel_rfl) ?_
 rintro b ⟨kb, hB⟩
 refine ⟨by simp [pk9, KindsOk, RK.ok, Rw.atom, Sl.atom], ?_⟩
 unfold t9
 refine need_wp (by first | exact ⟨_, _, _, rfl⟩ | (simp only [vd, reduceCtorEq, ve, updD, vdc]; exact ⟨_, _, _, rfl⟩)) ?_
 refine br_wp (fun c1 => ?_) (fun c1 => ?_)
 ·replace c1 : (b.l.length : Int) > 1500 := by first | simpa only [vd, reduceCtorEq, ve, updD, vdc] using c1 | (simp only [vd, reduceCtorEq, ve, updD, vdc] at c1; grind)
  refine call_fun (()) rfl (by first | (simp only [vd, reduceCtorEq, ve, updD, vdc]; done) | (simp only [vd, reduceCtorEq, ve, updD, vdc]; rfl)) trivial ?_
  refine ret_wp ?_
  try dsimp only
  first | (simp only [vd, reduceCtorEq, ve, updD, vdc]; done) | (exfalso; omega)
 ·replace c1 : ¬((b.l.length : Int) > 1500) := by first | simpa only [vd, reduceCtorEq, ve, updD, vdc] using c1 | (simp only [vd, reduceCtorEq, ve, updD, vdc] at c1; grind)
  have hbl : b.l.length ≤ 1500 := by omega
  refine call_rel (b) rfl (by first | (simp only [vd, reduceCtorEq, ve, updD, vdc]; done) | (simp only [vd, reduceCtorEq, ve, updD, vdc]; rfl)) (⟨kb, hB, hbl⟩) ?_
  rintro ⟨x1, n1, e1⟩ w1
  try dsimp only at w1
  obtain ⟨hn, hn1, hT, hM⟩ := canon w1 hB
  obtain ⟨hl1, hl2⟩ := whole_len w1 hB (by omega)
  rw [bI_len] at hn
  have hn0 : 0 ≤ n1 := by omega
  have kx1 : x1.ok 1 := w1.ok.1
  refine need_wp (by first | exact ⟨_, _, _, rfl⟩ | (simp only [vd, reduceCtorEq, ve, updD, vdc]; exact ⟨_, _, _, rfl⟩)) ?_
  refine loop_wp (fun bs0 => ∃ (i : Int) (x : Rw Int), bs0 = [aI i, Rw.atom eB x] ∧ (0 ≤ i ∧ i ≤ (x1.l.length : Int) ∧ x.l = bI ((((vv x1).take i.toNat).map (List.map ls)).flatMap cmdL) ∧ x.ok 1)) (fun bs0 => ((x1.l.length : Int) - vi (bs0.getD 0 atom0).1).toNat) ?_ ?_
  ·refine ⟨0, Rw.nil, by first | (simp only [vd, reduceCtorEq, ve, updD, vdc]; done) | (simp only [vd, reduceCtorEq, ve, updD, vdc]; rfl) | simp only [vd, reduceCtorEq, ve, updD, vdc, Rw.atom, Rw.nil, List.length_nil, List.map_nil], ?_⟩
   exact ⟨by omega, by omega, rfl, .inl rfl⟩
  rintro _ _ ⟨i, x, rfl, ⟨i0, i1, hx, kx⟩⟩
  refine need_wp (by first | exact ⟨_, _, _, rfl⟩ | (simp only [vd, reduceCtorEq, ve, updD, vdc]; exact ⟨_, _, _, rfl⟩)) ?_
  refine br_wp (fun c2 => ?_) (fun c2 => ?_)
  ·replace c2 : i < (x1.l.length : Int) := by first | simpa only [vd, reduceCtorEq, ve, updD, vdc] using c2 | (simp only [vd, reduceCtorEq, ve, updD, vdc] at c2; grind)
   have hg := get_memL i0 c2
   have hgo := w1.ok.2 _ hg
   have hgl := hl2 _ hg
   have hgm := hM _ hg
   have hc1 := cell_L x1 (i := i) i0 c2
   have hft := flat_take i0 c2
   have hfl := flat_len x1 i.toNat
   have hfl2 := flat_len x1 (i + 1).toNat
   have hal : (x.l.length : Int) = (((((vv x1).take i.toNat).map (List.map ls)).flatMap cmdL).length : Int) := by rw [hx, bI_len]
   have w1 : IntKind.i64.wrap (i + 1) = i + 1 := wrap_id _ (by omega) (by omega)
   refine need_wp (by first | exact ⟨_, _, _, rfl⟩ | (simp only [vd, reduceCtorEq, ve, updD, vdc, hc1, w1]; exact ⟨_, _, _, rfl⟩)) ?_
   refine need_wp (by first | exact rw_row _ _ | (simp only [vd, reduceCtorEq, ve, updD, vdc, hc1, w1]; exact ⟨_, _, rfl⟩)) ?_
   refine need_wp (by simp only [vd, reduceCtorEq, ve, updD, vdc, hc1, w1, List.length_cons, List.length_nil, List.length_append, List.length_set]; first | omega | (grind)) ?_
   refine need_wp (by first | exact ⟨_, _, _, rfl⟩ | (simp only [vd, reduceCtorEq, ve, updD, vdc, hc1, w1]; exact ⟨_, _, _, rfl⟩)) ?_
   refine need_wp (by first | exact rw_row _ _ | (simp only [vd, reduceCtorEq, ve, updD, vdc, hc1, w1]; exact ⟨_, _, rfl⟩)) ?_
   refine need_wp (by first | exact rw_sz' rfl | exact rw_szn (by assumption) (.inr (by omega)) | (simp only [vd, reduceCtorEq, ve, updD, vdc, hc1, w1]; exact rw_szn (by assumption) (.inr (by omega))) | exact rw_szn (by simp [Rw.ok]) (.inr (by omega))) ?_
   refine need_wp (by simp only [vd, reduceCtorEq, ve, updD, vdc, hc1, w1]; first | exact ⟨_, _, _, rfl⟩ | exact kind_Rl (by omega) (by omega)) ?_
   refine call_fun ((x1.get i)) rfl (by first | (simp only [vd, reduceCtorEq, ve, updD, vdc, hc1, w1]; done) | (simp only [vd, reduceCtorEq, ve, updD, vdc, hc1, w1]; rfl)) (⟨hgo, by omega⟩) ?_
   refine br_wp (fun c3 => ?_) (fun c3 => ?_)
   ·replace c3 : (mayB (x1.get i).l) = true := by first | simpa only [vd, reduceCtorEq, ve, updD, vdc, hc1, w1] using c3 | (simp only [vd, reduceCtorEq, ve, updD, vdc, hc1, w1] at c3; grind)
    refine need_wp (by first | exact ⟨_, _, _, rfl⟩ | (simp only [vd, reduceCtorEq, ve, updD, vdc, hc1, w1]; exact ⟨_, _, _, rfl⟩)) ?_
    refine need_wp (by first | exact rw_row _ _ | (simp only [vd, reduceCtorEq, ve, updD, vdc, hc1, w1]; exact ⟨_, _, rfl⟩)) ?_
    refine need_wp (by first | exact ⟨_, _, _, rfl⟩ | (simp only [vd, reduceCtorEq, ve, updD, vdc, hc1, w1]; exact ⟨_, _, _, rfl⟩)) ?_
    refine need_wp (by first | exact rw_row _ _ | (simp only [vd, reduceCtorEq, ve, updD, vdc, hc1, w1]; exact ⟨_, _, rfl⟩)) ?_
    refine need_wp (by first | exact rw_sz' rfl | exact rw_szn (by assumption) (.inr (by omega)) | (simp only [vd, reduceCtorEq, ve, updD, vdc, hc1, w1]; exact rw_szn (by assumption) (.inr (by omega))) | exact rw_szn (by simp [Rw.ok]) (.inr (by omega))) ?_
    refine need_wp (by simp only [vd, reduceCtorEq, ve, updD, vdc, hc1, w1]; first | exact ⟨_, _, _, rfl⟩ | exact kind_Rl (by omega) (by omega)) ?_
    refine call_rel ((x1.get i)) rfl (by first | (simp only [vd, reduceCtorEq, ve, updD, vdc, hc1, w1]; done) | (simp only [vd, reduceCtorEq, ve, updD, vdc, hc1, w1]; rfl)) (⟨hgo, hgl.2⟩) ?_
    rintro z2 ⟨ez2, oz2⟩
    try dsimp only at ez2 oz2
    have hzl : (z2.l.length : Int) = ((ls (cmdB (x1.get i).l)).length : Int) := by rw [ez2, bi_len, size_ls]
    rw [hft, List.length_append] at hfl2
    have kz2 : z2.ok 1 := oz2
    refine need_wp (by first | exact rw_row _ _ | (simp only [vd, reduceCtorEq, ve, updD, vdc, hc1, w1]; exact ⟨_, _, rfl⟩)) ?_
    refine need_wp (by first | exact ⟨_, _, _, rfl⟩ | (simp only [vd, reduceCtorEq, ve, updD, vdc, hc1, w1]; exact ⟨_, _, _, rfl⟩)) ?_
    refine need_wp (by first | exact rw_szz (by assumption) | exact rw_szz (.inr rfl)) ?_
    refine need_wp (by simp only [vd, reduceCtorEq, ve, updD, vdc, hc1, w1, List.length_cons, List.length_nil, List.length_append, List.length_set]; first | omega | (grind)) ?_
    refine need_wp (by simp only [vd, reduceCtorEq, ve, updD, vdc, hc1, w1, List.length_cons, List.length_nil, List.length_append, List.length_set]; first | omega | (grind)) ?_
    refine app_wp eB x z2 (by first | rfl | simp only [vd, reduceCtorEq, ve, updD, vdc, hc1, w1]) (by first | rfl | simp only [vd, reduceCtorEq, ve, updD, vdc, hc1, w1]) ?_
    intro a3 b3
    generalize hx3 : (⟨a3, b3, 1, x.l ++ z2.l⟩ : Rw Int) = x3
    have lx3 : x3.l = x.l ++ z2.l := by first | (rw [← hx3]; done) | (rw [← hx3]; rfl)
    have zx3 : x3.z = 1 := by rw [← hx3]
    have kx3 : Rw.ok 1 x3 := .inr zx3
    have nx3 : (x3.l.length : Int) = (x.l.length : Int) + (z2.l.length : Int) := by first | (rw [← hx3]; done) | (rw [← hx3]; simp [Rw.nil])
    refine need_wp (by first | exact ⟨_, _, _, rfl⟩ | (simp only [vd, reduceCtorEq, ve, updD, vdc, hc1, w1]; exact ⟨_, _, _, rfl⟩)) ?_
    refine again_wp rfl ⟨(i + 1), x3, by simp only [vd, reduceCtorEq, ve, updD, vdc, hc1, w1], ?_⟩ ?_
    ·exact ⟨by omega, by omega, by rw [lx3, hx, ez2, hft, bI_app]; rfl, kx3⟩
    ·(try simp only [vd, reduceCtorEq, ve, updD, vdc, hc1, w1]); omega
   ·replace c3 : ¬((mayB (x1.get i).l) = true) := by first | simpa only [vd, reduceCtorEq, ve, updD, vdc, hc1, w1] using c3 | (simp only [vd, reduceCtorEq, ve, updD, vdc, hc1, w1] at c3; grind)
    exfalso; exact c3 hgm
  ·replace c2 : ¬(i < (x1.l.length : Int)) := by first | simpa only [vd, reduceCtorEq, ve, updD, vdc] using c2 | (simp only [vd, reduceCtorEq, ve, updD, vdc] at c2; grind)
   have hi : i = x1.l.length := by omega
   have hxa : x.l = bI (((vv x1).map (List.map ls)).flatMap cmdL) := by rw [hx, hi, Int.toNat_natCast, show x1.l.length = (vv x1).length by simp [vv], List.take_length]
   have hxl : (x.l.length : Int) = n1 := by rw [hxa, bI_len]; omega
   have hs := sub_rw (e := eB) (r := b) (z := 1) (i := 0) (j := n1) kb (by omega) (by omega) (by omega)
   have hsx : x.l = (b.sub 1 0 n1).l := by rw [sub0_l, hT, hxa]
   refine pop_wp ?_
   refine need_wp (by first | exact ⟨_, _, _, rfl⟩ | (simp only [vd, reduceCtorEq, ve, updD, vdc, hs]; exact ⟨_, _, _, rfl⟩)) ?_
   refine br_wp (fun c4 => ?_) (fun c4 => ?_)
   ·replace c4 : n1 = (x.l.length : Int) := by first | simpa only [vd, reduceCtorEq, ve, updD, vdc, hs] using c4 | (simp only [vd, reduceCtorEq, ve, updD, vdc, hs] at c4; grind)
    refine need_wp (by first | exact ⟨_, _, _, rfl⟩ | (simp only [vd, reduceCtorEq, ve, updD, vdc, hs]; exact ⟨_, _, _, rfl⟩)) ?_
    refine br_wp (fun c5 => ?_) (fun c5 => ?_)
    ·replace c5 : n1 ≤ (b.l.length : Int) := by first | simpa only [vd, reduceCtorEq, ve, updD, vdc, hs] using c5 | (simp only [vd, reduceCtorEq, ve, updD, vdc, hs] at c5; grind)
     refine need_wp (by first | exact ⟨_, _, _, rfl⟩ | (simp only [vd, reduceCtorEq, ve, updD, vdc, hs]; exact ⟨_, _, _, rfl⟩)) ?_
     refine need_wp (by first | exact rw_szz (by assumption) | exact rw_szz (.inr rfl)) ?_
     refine need_wp (by simp only [vd, reduceCtorEq, ve, updD, vdc, hs, List.length_cons, List.length_nil, List.length_append, List.length_set]; first | omega | (grind)) ?_
     refine call_fun ((x, (b.sub 1 0 n1))) rfl (by first | (simp only [vd, reduceCtorEq, ve, updD, vdc, hs]; done) | (simp only [vd, reduceCtorEq, ve, updD, vdc, hs]; rfl)) (⟨⟨kx, by rw [hxa]; exact isB_bI _⟩, ok_sub kb _ _, by rw [sub0_l]; exact isB_take hB _⟩) ?_
     refine br_wp (fun c6 => ?_) (fun c6 => ?_)
     ·replace c6 : ofBytes x.l = ofBytes (b.sub 1 0 n1).l := by first | simpa only [vd, reduceCtorEq, ve, updD, vdc, hs] using c6 | (simp only [vd, reduceCtorEq, ve, updD, vdc, hs] at c6; grind)
      refine call_fun (()) rfl (by first | (simp only [vd, reduceCtorEq, ve, updD, vdc, hs]; done) | (simp only [vd, reduceCtorEq, ve, updD, vdc, hs]; rfl)) trivial ?_
      refine ret_wp ?_
      try dsimp only
      first | (simp only [vd, reduceCtorEq, ve, updD, vdc, hs]; done) | (exfalso; omega)
     ·replace c6 : ¬(ofBytes x.l = ofBytes (b.sub 1 0 n1).l) := by first | simpa only [vd, reduceCtorEq, ve, updD, vdc, hs] using c6 | (simp only [vd, reduceCtorEq, ve, updD, vdc, hs] at c6; grind)
      exfalso; exact c6 (by rw [hsx])
    ·replace c5 : ¬(n1 ≤ (b.l.length : Int)) := by first | simpa only [vd, reduceCtorEq, ve, updD, vdc, hs] using c5 | (simp only [vd, reduceCtorEq, ve, updD, vdc, hs] at c5; grind)
     refine ret_wp ?_
     try dsimp only
     first | (simp only [vd, reduceCtorEq, ve, updD, vdc, hs]; done) | (exfalso; omega)
   ·replace c4 : ¬(n1 = (x.l.length : Int)) := by first | simpa only [vd, reduceCtorEq, ve, updD, vdc, hs] using c4 | (simp only [vd, reduceCtorEq, ve, updD, vdc, hs] at c4; grind)
    refine ret_wp ?_
    try dsimp only
    first | (simp only [vd, reduceCtorEq, ve, updD, vdc, hs]; done) | (exfalso; omega)
end Go.Proofs.YtamjocnlhhhijaaK
