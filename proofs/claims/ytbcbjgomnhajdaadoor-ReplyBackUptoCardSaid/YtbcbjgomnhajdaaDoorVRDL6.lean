import Derived.Test.YtbcbjgomnhajdaaDoorVRDE42m
import Derived.Test.YtbcbjgomnhajdaaDoorVRDB1m
import Derived.Test.YtbcbjgomnhajdaaDoorVRDp2m
import Derived.Test.YtbcbjgomnhajdaaDoorVRDu
set_option linter.unusedSimpArgs false
set_option linter.unusedVariables false
set_option linter.unnecessarySimpa false
namespace Go.Proofs.YtbcbjgomnhajdaaDoorK
open Go Go.Proofs.YtbcbjgomnhajdaaDoorV Go.Proofs Go.Proofs.YtbcbjgomnhajdaaDoorK Go.Proofs.YtbcbjgomnhajdaaDoorK
def kLaw6 (sg : Sig) : Sig × Con := (sg, mkFun (fun x : Rw Rep × Int × Gh => ([Rw.atom eP x.1, aK .u16 x.2.1, Rw.atom eF x.2.2.a, Rw.atom eF x.2.2.b] : List Atom)) (fun x => okR 2000000 x.1 ∧ (0 ≤ x.2.1 ∧ x.2.1 < 65536) ∧ pG x.2.2) (fun _ => [aB true]))
set_option maxHeartbeats 1000000 in
theorem h6 : holds Tryd.prog (kLaw6 sg6) := by
  refine fn_holdsH (inl := []) (l := [kLong sg13, kKnown sg7, kEnc sg11, kAll sg16, kPl sg14, kSame sg12, kRight sg9, kDec sg8]) ⟨h13, h7, h11, h16, h14, h12, h9, h8, trivial⟩ trivial hP gh6 rs6 (inj_of (fun l : List Atom => ((Rw.un unP (l.getD 0 atom0), vi (l.getD 1 atom0).1, (⟨Rw.un unF (l.getD 2 atom0), Rw.un unF (l.getD 3 atom0)⟩ : Gh)) : Rw Rep × Int × Gh)) (fun _ => by simp [List.getD_cons_zero, List.getD_cons_succ, unA_atom, unF_at])) Tryd.func6 (by kernel_rfl) (c := code Tryd.f6) (by kernel_rfl) (an := an6) (by kernel_rfl) (pk := pk6g) rfl (t := t6) (by kernel_rfl) ?_
  rintro ⟨l, c, q⟩ hnil ⟨hl, ⟨u1, u2⟩, hq⟩
  refine ⟨by simp [pk6g, pk6, KindsOk, RK.ok, Rw.atom, Sl.atom], ?_⟩
  unfold t6
  dsimp only at hl u1 u2 hq
  have k4 : l.ok 4 := hl.1
  have jl := hl.2.2
  refine call_fun (l) rfl (by first | (simp only [vd, reduceCtorEq, Option.some.injEq, ve, updD]; done) | (simp only [vd, reduceCtorEq, Option.some.injEq, ve, updD]; rfl)) hl ?_
  refine br_wp (fun c1 => ?_) (fun c1 => ?_)
  · replace c1 : (lenL (l.l.map Rep.v) : Int) > 1500 := by first | simpa only [vd, reduceCtorEq, Option.some.injEq, ve, updD] using c1 | (simp only [vd, reduceCtorEq, Option.some.injEq, ve, updD] at c1; grind)
    refine call_fun (()) rfl (by first | (simp only [vd, reduceCtorEq, Option.some.injEq, ve, updD]; done) | (simp only [vd, reduceCtorEq, Option.some.injEq, ve, updD]; rfl)) trivial ?_
    refine ret_wp ?_
    try dsimp only
    rfl
  · replace c1 : ¬((lenL (l.l.map Rep.v) : Int) > 1500) := by first | simpa only [vd, reduceCtorEq, Option.some.injEq, ve, updD] using c1 | (simp only [vd, reduceCtorEq, Option.some.injEq, ve, updD] at c1; grind)
    have hLl := lenL_len (l.l.map Rep.v)
    rw [List.length_map] at hLl
    have okL : okR 100000 l := ⟨hl.1, hl.2.1, by omega⟩
    have hes := enc_size (l := l.l.map Rep.v) (by omega) (okR_in okL)
    refine call_rel (l) rfl (by first | (simp only [vd, reduceCtorEq, Option.some.injEq, ve, updD]; done) | (simp only [vd, reduceCtorEq, Option.some.injEq, ve, updD]; rfl)) okL ?_
    rintro z1 ⟨ez1, oz1⟩
    try dsimp only at ez1 oz1
    have hz1 : (z1.l.length : Int) = (encV (l.l.map Rep.v)).size := by rw [ez1, bi_len]
    refine call_rel ((z1, q)) rfl (by first | (simp only [vd, reduceCtorEq, Option.some.injEq, ve, updD]; done) | (simp only [vd, reduceCtorEq, Option.some.injEq, ve, updD]; rfl)) (⟨⟨oz1, by rw [ez1]; exact isB_bi _, by dsimp only; omega⟩, hq⟩) ?_
    rintro ⟨X2, e2⟩ ⟨eX2, oX2, aX2⟩
    try dsimp only at eX2 oX2 aX2
    have hAll := eX2.trans (all_back ez1 okL)
    simp only [Prod.mk.injEq] at hAll
    obtain ⟨hXm, he2⟩ := hAll
    have hXn : X2.l.length = l.l.length := by have := congrArg List.length hXm; simpa using this
    refine br_wp (fun c2 => ?_) (fun c2 => ?_)
    · replace c2 : e2 ≠ 0 := by first | simpa only [vd, reduceCtorEq, Option.some.injEq, ve, updD] using c2 | (simp only [vd, reduceCtorEq, Option.some.injEq, ve, updD] at c2; grind)
      exfalso; exact c2 he2
    · replace c2 : ¬(e2 ≠ 0) := by first | simpa only [vd, reduceCtorEq, Option.some.injEq, ve, updD] using c2 | (simp only [vd, reduceCtorEq, Option.some.injEq, ve, updD] at c2; grind)
      refine need_wp (by first | exact ⟨_, _, _, rfl⟩ | (simp only [vd, reduceCtorEq, Option.some.injEq, ve, updD]; exact ⟨_, _, _, rfl⟩)) ?_
      refine need_wp (by first | exact ⟨_, _, _, rfl⟩ | (simp only [vd, reduceCtorEq, Option.some.injEq, ve, updD]; exact ⟨_, _, _, rfl⟩)) ?_
      refine br_wp (fun c3 => ?_) (fun c3 => ?_)
      · replace c3 : (X2.l.length : Int) ≠ (l.l.length : Int) := by first | simpa only [vd, reduceCtorEq, Option.some.injEq, ve, updD] using c3 | (simp only [vd, reduceCtorEq, Option.some.injEq, ve, updD] at c3; grind)
        exfalso; omega
      · replace c3 : ¬((X2.l.length : Int) ≠ (l.l.length : Int)) := by first | simpa only [vd, reduceCtorEq, Option.some.injEq, ve, updD] using c3 | (simp only [vd, reduceCtorEq, Option.some.injEq, ve, updD] at c3; grind)
        refine loop_wp (fun bs0 => ∃ (i : Int) (t : Int), bs0 = [aI i, aI t] ∧ (0 ≤ i ∧ i ≤ (l.l.length : Int) ∧ t = ((encV ((l.l.take i.toNat).map Rep.v)).size : Int))) (fun bs0 => ((l.l.length : Int) - vi (bs0.getD 0 atom0).1).toNat) ?_ ?_
        · refine ⟨0, 0, by first | (simp only [vd, reduceCtorEq, Option.some.injEq, ve, updD]; done) | (simp only [vd, reduceCtorEq, Option.some.injEq, ve, updD]; rfl) | simp only [vd, reduceCtorEq, Option.some.injEq, ve, updD, Rw.atom, Rw.nil, List.length_nil, List.map_nil], ?_⟩
          exact ⟨by omega, by omega, rfl⟩
        rintro _ _ ⟨i, t, rfl, ⟨i0, i1, ht⟩⟩
        refine need_wp (by first | exact ⟨_, _, _, rfl⟩ | (simp only [vd, reduceCtorEq, Option.some.injEq, ve, updD]; exact ⟨_, _, _, rfl⟩)) ?_
        refine br_wp (fun c4 => ?_) (fun c4 => ?_)
        · replace c4 : i < (l.l.length : Int) := by first | simpa only [vd, reduceCtorEq, Option.some.injEq, ve, updD] using c4 | (simp only [vd, reduceCtorEq, Option.some.injEq, ve, updD] at c4; grind)
          have hc1 := cell_P3 X2 (i := i) i0 (by omega)
          have hc2 := cell_P3 l (i := i) i0 c4
          obtain ⟨hg1, hg2⟩ := okR_get (i := i) okL (by omega) i0 c4
          have hgl := hg1.2
          have hXg := map_get hXm i0 c4
          have kX : (X2.get i).l.ok 1 := (aX2 _ (get_mem i0 (by omega))).1
          have hXv : lenV (X2.get i).v ≤ 100000 := by rw [hXg]; exact Nat.le_trans (lenV_pl _) hgl
          have hXl : (X2.get i).l.l.length ≤ 140737488355328 := by have := lenV_len (X2.get i); omega
          have kl : (l.get i).l.ok 1 := hg1.1
          have w1 : IntKind.i64.wrap (i + 1) = i + 1 := wrap_id _ (by omega) (by omega)
          refine need_wp (by first | exact ⟨_, _, _, rfl⟩ | (simp only [vd, reduceCtorEq, Option.some.injEq, ve, updD, hc1, hc2, w1]; exact ⟨_, _, _, rfl⟩)) ?_
          refine need_wp (by first | exact rw_row _ _ | (simp only [vd, reduceCtorEq, Option.some.injEq, ve, updD, hc1, hc2, w1]; exact ⟨_, _, rfl⟩)) ?_
          refine need_wp (by simp only [vd, reduceCtorEq, Option.some.injEq, ve, updD, hc1, hc2, w1, List.length_cons, List.length_nil, List.length_append, List.length_set]; first | omega | (grind)) ?_
          refine need_wp (by simp only [vd, reduceCtorEq, Option.some.injEq, ve, updD, hc1, hc2, w1, List.length_cons, List.length_nil, List.length_append, List.length_set]; first | omega | (grind)) ?_
          refine need_wp (by first | exact ⟨_, _, _, rfl⟩ | (simp only [vd, reduceCtorEq, Option.some.injEq, ve, updD, hc1, hc2, w1]; exact ⟨_, _, _, rfl⟩)) ?_
          refine need_wp (by first | exact rw_row _ _ | (simp only [vd, reduceCtorEq, Option.some.injEq, ve, updD, hc1, hc2, w1]; exact ⟨_, _, rfl⟩)) ?_
          refine need_wp (by first | exact ⟨_, _, _, rfl⟩ | (simp only [vd, reduceCtorEq, Option.some.injEq, ve, updD, hc1, hc2, w1]; exact ⟨_, _, _, rfl⟩)) ?_
          refine need_wp (by first | exact rw_row _ _ | (simp only [vd, reduceCtorEq, Option.some.injEq, ve, updD, hc1, hc2, w1]; exact ⟨_, _, rfl⟩)) ?_
          refine need_wp (by first | exact rw_sz' rfl | exact rw_szn (by assumption) (.inr (by omega)) | (simp only [vd, reduceCtorEq, Option.some.injEq, ve, updD, hc1, hc2, w1]; exact rw_szn (by assumption) (.inr (by omega))) | exact rw_szn (by simp [Rw.ok]) (.inr (by omega))) ?_
          refine need_wp (by simp only [vd, reduceCtorEq, Option.some.injEq, ve, updD, hc1, hc2, w1]; exact kind_Rp0 (by omega) (by omega)) ?_
          refine need_wp (by simp only [vd, reduceCtorEq, Option.some.injEq, ve, updD, hc1, hc2, w1]; exact kind_Rp1 (by omega) (by omega)) ?_
          refine need_wp (by simp only [vd, reduceCtorEq, Option.some.injEq, ve, updD, hc1, hc2, w1]; exact kind_Rp2 (by omega) (by omega)) ?_
          refine need_wp (by simp only [vd, reduceCtorEq, Option.some.injEq, ve, updD, hc1, hc2, w1]; first | exact ⟨_, _, _, rfl⟩ | exact kind_Rp3 (by omega) (by omega)) ?_
          refine need_wp (by first | exact ⟨_, _, _, rfl⟩ | (simp only [vd, reduceCtorEq, Option.some.injEq, ve, updD, hc1, hc2, w1]; exact ⟨_, _, _, rfl⟩)) ?_
          refine need_wp (by first | exact rw_row _ _ | (simp only [vd, reduceCtorEq, Option.some.injEq, ve, updD, hc1, hc2, w1]; exact ⟨_, _, rfl⟩)) ?_
          refine need_wp (by first | exact rw_sz' rfl | exact rw_szn (by assumption) (.inr (by omega)) | (simp only [vd, reduceCtorEq, Option.some.injEq, ve, updD, hc1, hc2, w1]; exact rw_szn (by assumption) (.inr (by omega))) | exact rw_szn (by simp [Rw.ok]) (.inr (by omega))) ?_
          refine need_wp (by simp only [vd, reduceCtorEq, Option.some.injEq, ve, updD, hc1, hc2, w1]; exact kind_Rp0 (by omega) (by omega)) ?_
          refine need_wp (by simp only [vd, reduceCtorEq, Option.some.injEq, ve, updD, hc1, hc2, w1]; exact kind_Rp1 (by omega) (by omega)) ?_
          refine need_wp (by simp only [vd, reduceCtorEq, Option.some.injEq, ve, updD, hc1, hc2, w1]; exact kind_Rp2 (by omega) (by omega)) ?_
          refine need_wp (by simp only [vd, reduceCtorEq, Option.some.injEq, ve, updD, hc1, hc2, w1]; first | exact ⟨_, _, _, rfl⟩ | exact kind_Rp3 (by omega) (by omega)) ?_
          refine call_rel ((l.get i)) rfl (by first | (simp only [vd, reduceCtorEq, Option.some.injEq, ve, updD, hc1, hc2, w1]; done) | (simp only [vd, reduceCtorEq, Option.some.injEq, ve, updD, hc1, hc2, w1]; rfl)) hg1 ?_
          rintro y3 ⟨ey3, oy3⟩
          try dsimp only at ey3 oy3
          refine call_fun (((X2.get i), y3)) rfl (by first | (simp only [vd, reduceCtorEq, Option.some.injEq, ve, updD, hc1, hc2, w1]; done) | (simp only [vd, reduceCtorEq, Option.some.injEq, ve, updD, hc1, hc2, w1]; rfl)) (⟨kX, oy3, hXl⟩) ?_
          refine br_wp (fun c5 => ?_) (fun c5 => ?_)
          · replace c5 : (X2.get i).v = y3.v := by first | simpa only [vd, reduceCtorEq, Option.some.injEq, ve, updD, hc1, hc2, w1] using c5 | (simp only [vd, reduceCtorEq, Option.some.injEq, ve, updD, hc1, hc2, w1] at c5; grind)
            refine need_wp (by first | exact ⟨_, _, _, rfl⟩ | (simp only [vd, reduceCtorEq, Option.some.injEq, ve, updD, hc1, hc2, w1]; exact ⟨_, _, _, rfl⟩)) ?_
            refine need_wp (by first | exact rw_row _ _ | (simp only [vd, reduceCtorEq, Option.some.injEq, ve, updD, hc1, hc2, w1]; exact ⟨_, _, rfl⟩)) ?_
            refine need_wp (by first | exact ⟨_, _, _, rfl⟩ | (simp only [vd, reduceCtorEq, Option.some.injEq, ve, updD, hc1, hc2, w1]; exact ⟨_, _, _, rfl⟩)) ?_
            refine need_wp (by first | exact rw_row _ _ | (simp only [vd, reduceCtorEq, Option.some.injEq, ve, updD, hc1, hc2, w1]; exact ⟨_, _, rfl⟩)) ?_
            refine need_wp (by first | exact rw_sz' rfl | exact rw_szn (by assumption) (.inr (by omega)) | (simp only [vd, reduceCtorEq, Option.some.injEq, ve, updD, hc1, hc2, w1]; exact rw_szn (by assumption) (.inr (by omega))) | exact rw_szn (by simp [Rw.ok]) (.inr (by omega))) ?_
            refine need_wp (by simp only [vd, reduceCtorEq, Option.some.injEq, ve, updD, hc1, hc2, w1]; exact kind_Rp0 (by omega) (by omega)) ?_
            refine need_wp (by simp only [vd, reduceCtorEq, Option.some.injEq, ve, updD, hc1, hc2, w1]; exact kind_Rp1 (by omega) (by omega)) ?_
            refine need_wp (by simp only [vd, reduceCtorEq, Option.some.injEq, ve, updD, hc1, hc2, w1]; exact kind_Rp2 (by omega) (by omega)) ?_
            refine need_wp (by simp only [vd, reduceCtorEq, Option.some.injEq, ve, updD, hc1, hc2, w1]; first | exact ⟨_, _, _, rfl⟩ | exact kind_Rp3 (by omega) (by omega)) ?_
            refine call_fun ((X2.get i)) rfl (by first | (simp only [vd, reduceCtorEq, Option.some.injEq, ve, updD, hc1, hc2, w1]; done) | (simp only [vd, reduceCtorEq, Option.some.injEq, ve, updD, hc1, hc2, w1]; rfl)) (⟨kX, hXv⟩) ?_
            refine br_wp (fun c6 => ?_) (fun c6 => ?_)
            · replace c6 : plV (X2.get i).v = (X2.get i).v := by first | simpa only [vd, reduceCtorEq, Option.some.injEq, ve, updD, hc1, hc2, w1] using c6 | (simp only [vd, reduceCtorEq, Option.some.injEq, ve, updD, hc1, hc2, w1] at c6; grind)
              refine need_wp (by first | exact ⟨_, _, _, rfl⟩ | (simp only [vd, reduceCtorEq, Option.some.injEq, ve, updD, hc1, hc2, w1]; exact ⟨_, _, _, rfl⟩)) ?_
              refine need_wp (by first | exact rw_row _ _ | (simp only [vd, reduceCtorEq, Option.some.injEq, ve, updD, hc1, hc2, w1]; exact ⟨_, _, rfl⟩)) ?_
              refine need_wp (by first | exact ⟨_, _, _, rfl⟩ | (simp only [vd, reduceCtorEq, Option.some.injEq, ve, updD, hc1, hc2, w1]; exact ⟨_, _, _, rfl⟩)) ?_
              refine need_wp (by first | exact rw_row _ _ | (simp only [vd, reduceCtorEq, Option.some.injEq, ve, updD, hc1, hc2, w1]; exact ⟨_, _, rfl⟩)) ?_
              refine need_wp (by first | exact rw_sz' rfl | exact rw_szn (by assumption) (.inr (by omega)) | (simp only [vd, reduceCtorEq, Option.some.injEq, ve, updD, hc1, hc2, w1]; exact rw_szn (by assumption) (.inr (by omega))) | exact rw_szn (by simp [Rw.ok]) (.inr (by omega))) ?_
              refine need_wp (by simp only [vd, reduceCtorEq, Option.some.injEq, ve, updD, hc1, hc2, w1]; exact kind_Rp0 (by omega) (by omega)) ?_
              refine need_wp (by simp only [vd, reduceCtorEq, Option.some.injEq, ve, updD, hc1, hc2, w1]; exact kind_Rp1 (by omega) (by omega)) ?_
              refine need_wp (by simp only [vd, reduceCtorEq, Option.some.injEq, ve, updD, hc1, hc2, w1]; exact kind_Rp2 (by omega) (by omega)) ?_
              refine need_wp (by simp only [vd, reduceCtorEq, Option.some.injEq, ve, updD, hc1, hc2, w1]; first | exact ⟨_, _, _, rfl⟩ | exact kind_Rp3 (by omega) (by omega)) ?_
              refine new_wp eP [(l.get i)] (by first | (simp only [vd, reduceCtorEq, Option.some.injEq, ve, updD, hc1, hc2, w1, eP]; done) | rfl) ?_
              intro a4 b4
              generalize hx4 : (⟨a4, b4, 4, [(l.get i)]⟩ : Rw Rep) = x4
              have lx4 : x4.l = [(l.get i)] := by first | (rw [← hx4]; done) | (rw [← hx4]; rfl)
              have zx4 : x4.z = 4 := by rw [← hx4]
              have kx4 : Rw.ok 4 x4 := .inr zx4
              have nx4 : (x4.l.length : Int) = 1 := by first | (rw [← hx4]; done) | (rw [← hx4]; simp [Rw.nil])
              have okO : okR 100000 x4 := okR_one lx4 (.inr zx4) hg1 hg2
              refine call_rel (x4) rfl (by first | (simp only [vd, reduceCtorEq, Option.some.injEq, ve, updD, hc1, hc2, w1]; done) | (simp only [vd, reduceCtorEq, Option.some.injEq, ve, updD, hc1, hc2, w1]; rfl)) okO ?_
              rintro z5 ⟨ez5, oz5⟩
              try dsimp only at ez5 oz5
              have ez : z5.l = bi (oneV (l.get i).v) := by rw [ez5, lx4]; show bi (encV [(l.get i).v]) = _; rw [enc_one]
              have hz5 : (z5.l.length : Int) = (oneV (l.get i).v).size := by rw [ez, bi_len]
              have hg0 : lenV (l.get i).v ≤ 1500 := Nat.le_trans (lenL_mem (List.mem_map.2 ⟨l.get i, get_mem i0 c4, rfl⟩)) (by omega)
              have hos2 := one_size2 (M := 1500) hg0 (by omega) hg2
              have hpos : 0 < (z5.l.length : Int) := by rw [hz5, ← ls_len, ls_oneV]; have := lenV_bs (plV_plV (l.get i).v); unfold lenV at this; omega
              obtain ⟨k, hk⟩ : ∃ k, k = c % (z5.l.length : Int) := ⟨_, rfl⟩
              have hk0 : 0 ≤ k := by rw [hk]; exact Int.emod_nonneg _ (by omega)
              have hk1 : k < (z5.l.length : Int) := by rw [hk]; exact Int.emod_lt_of_pos _ hpos
              have wk : remD (IntKind.i64.wrap c) (z5.l.length : Int) = k := by rw [wrap_id c (by omega) (by omega), hk]; exact rem_gen _ u1
              have htl := enc_take_le l.l i.toNat
              have w2 : IntKind.i64.wrap (t + (z5.l.length : Int)) = t + (z5.l.length : Int) := wrap_id _ (by omega) (by omega)
              refine need_wp (by first | exact ⟨_, _, _, rfl⟩ | (simp only [vd, reduceCtorEq, Option.some.injEq, ve, updD, hc1, hc2, w1, wk, w2]; exact ⟨_, _, _, rfl⟩)) ?_
              refine need_wp (by simp only [vd, reduceCtorEq, Option.some.injEq, ve, updD, hc1, hc2, w1, wk, w2, List.length_cons, List.length_nil, List.length_append, List.length_set]; first | omega | (grind)) ?_
              refine need_wp (by first | exact ⟨_, _, _, rfl⟩ | (simp only [vd, reduceCtorEq, Option.some.injEq, ve, updD, hc1, hc2, w1, wk, w2]; exact ⟨_, _, _, rfl⟩)) ?_
              refine need_wp (by first | exact rw_szz (by assumption) | exact rw_szz (.inr rfl)) ?_
              refine need_wp (by simp only [vd, reduceCtorEq, Option.some.injEq, ve, updD, hc1, hc2, w1, wk, w2, List.length_cons, List.length_nil, List.length_append, List.length_set]; first | omega | (grind)) ?_
              refine need_wp (by simp only [vd, reduceCtorEq, Option.some.injEq, ve, updD, hc1, hc2, w1, wk, w2, List.length_cons, List.length_nil, List.length_append, List.length_set]; first | omega | (grind)) ?_
              have hs5 := sub_rw (e := eB) (r := z5) (z := 1) (i := 0) (j := k) oz5 (by omega) (by omega) (by omega)
              refine call_rel (((z5.sub 1 0 k), q)) rfl (by first | (simp only [vd, reduceCtorEq, Option.some.injEq, ve, updD, hc1, hc2, w1, wk, w2, hs5]; done) | (simp only [vd, reduceCtorEq, Option.some.injEq, ve, updD, hc1, hc2, w1, wk, w2, hs5]; rfl)) (⟨ok_rsub oz5 _ _, isB_rsub (by rw [ez5]; exact isB_bi _) _ _, by have := sub_le (r := z5) (z := 1) (i := 0) (j := k); dsimp only; omega, hq⟩) ?_
              rintro ⟨y6, n6, e6⟩ ⟨ed6, od6⟩
              try dsimp only at ed6 od6
              refine need_wp (by first | exact ⟨_, _, _, rfl⟩ | (simp only [vd, reduceCtorEq, Option.some.injEq, ve, updD, hc1, hc2, w1, wk, w2, hs5]; exact ⟨_, _, _, rfl⟩)) ?_
              refine need_wp (by first | exact rw_szz (by assumption) | exact rw_szz (.inr rfl)) ?_
              refine need_wp (by simp only [vd, reduceCtorEq, Option.some.injEq, ve, updD, hc1, hc2, w1, wk, w2, hs5, List.length_cons, List.length_nil, List.length_append, List.length_set]; first | omega | (grind)) ?_
              refine need_wp (by simp only [vd, reduceCtorEq, Option.some.injEq, ve, updD, hc1, hc2, w1, wk, w2, hs5, List.length_cons, List.length_nil, List.length_append, List.length_set]; first | omega | (grind)) ?_
              refine need_wp (by simp only [vd, reduceCtorEq, Option.some.injEq, ve, updD, hc1, hc2, w1, wk, w2, hs5, List.length_cons, List.length_nil, List.length_append, List.length_set]; first | omega | (grind)) ?_
              have hs1 := sub_rw (e := eB) (r := z1) (z := 1) (i := t) (j := (z1.l.length : Int)) oz1 (by omega) (by omega) (by omega)
              refine call_rel (((z1.sub 1 t (z1.l.length : Int)), q)) rfl (by first | (simp only [vd, reduceCtorEq, Option.some.injEq, ve, updD, hc1, hc2, w1, wk, w2, hs5, hs1]; done) | (simp only [vd, reduceCtorEq, Option.some.injEq, ve, updD, hc1, hc2, w1, wk, w2, hs5, hs1]; rfl)) (⟨ok_rsub oz1 _ _, isB_rsub (by rw [ez1]; exact isB_bi _) _ _, by have := sub_le (r := z1) (z := 1) (i := t) (j := (z1.l.length : Int)); dsimp only; omega, hq⟩) ?_
              rintro ⟨y7, n7, e7⟩ ⟨ed7, od7⟩
              try dsimp only at ed7 od7
              have hd1 := ed6.trans (dec_short ez hk0 hk1 hg2 hgl)
              simp only [Prod.mk.injEq] at hd1
              obtain ⟨_, d1, d2⟩ := hd1
              have hd2 := ed7.trans (dec_at ez1 i0 c4 ht hg2 hgl)
              simp only [Prod.mk.injEq] at hd2
              obtain ⟨_, d3, d4⟩ := hd2
              refine br_wp (fun c7 => ?_) (fun c7 => ?_)
              · replace c7 : n6 ≠ 0 := by first | simpa only [vd, reduceCtorEq, Option.some.injEq, ve, updD, hc1, hc2, w1, wk, w2, hs5, hs1] using c7 | (simp only [vd, reduceCtorEq, Option.some.injEq, ve, updD, hc1, hc2, w1, wk, w2, hs5, hs1] at c7; grind)
                exfalso; exact c7 d1
              · replace c7 : ¬(n6 ≠ 0) := by first | simpa only [vd, reduceCtorEq, Option.some.injEq, ve, updD, hc1, hc2, w1, wk, w2, hs5, hs1] using c7 | (simp only [vd, reduceCtorEq, Option.some.injEq, ve, updD, hc1, hc2, w1, wk, w2, hs5, hs1] at c7; grind)
                refine br_wp (fun c8 => ?_) (fun c8 => ?_)
                · replace c8 : e6 ≠ 8 := by first | simpa only [vd, reduceCtorEq, Option.some.injEq, ve, updD, hc1, hc2, w1, wk, w2, hs5, hs1] using c8 | (simp only [vd, reduceCtorEq, Option.some.injEq, ve, updD, hc1, hc2, w1, wk, w2, hs5, hs1] at c8; grind)
                  exfalso; exact c8 d2
                · replace c8 : ¬(e6 ≠ 8) := by first | simpa only [vd, reduceCtorEq, Option.some.injEq, ve, updD, hc1, hc2, w1, wk, w2, hs5, hs1] using c8 | (simp only [vd, reduceCtorEq, Option.some.injEq, ve, updD, hc1, hc2, w1, wk, w2, hs5, hs1] at c8; grind)
                  refine br_wp (fun c9 => ?_) (fun c9 => ?_)
                  · replace c9 : e7 ≠ 0 := by first | simpa only [vd, reduceCtorEq, Option.some.injEq, ve, updD, hc1, hc2, w1, wk, w2, hs5, hs1] using c9 | (simp only [vd, reduceCtorEq, Option.some.injEq, ve, updD, hc1, hc2, w1, wk, w2, hs5, hs1] at c9; grind)
                    exfalso; exact c9 d4
                  · replace c9 : ¬(e7 ≠ 0) := by first | simpa only [vd, reduceCtorEq, Option.some.injEq, ve, updD, hc1, hc2, w1, wk, w2, hs5, hs1] using c9 | (simp only [vd, reduceCtorEq, Option.some.injEq, ve, updD, hc1, hc2, w1, wk, w2, hs5, hs1] at c9; grind)
                    refine need_wp (by first | exact ⟨_, _, _, rfl⟩ | (simp only [vd, reduceCtorEq, Option.some.injEq, ve, updD, hc1, hc2, w1, wk, w2, hs5, hs1]; exact ⟨_, _, _, rfl⟩)) ?_
                    refine br_wp (fun c10 => ?_) (fun c10 => ?_)
                    · replace c10 : n7 ≠ (z5.l.length : Int) := by first | simpa only [vd, reduceCtorEq, Option.some.injEq, ve, updD, hc1, hc2, w1, wk, w2, hs5, hs1] using c10 | (simp only [vd, reduceCtorEq, Option.some.injEq, ve, updD, hc1, hc2, w1, wk, w2, hs5, hs1] at c10; grind)
                      exfalso; omega
                    · replace c10 : ¬(n7 ≠ (z5.l.length : Int)) := by first | simpa only [vd, reduceCtorEq, Option.some.injEq, ve, updD, hc1, hc2, w1, wk, w2, hs5, hs1] using c10 | (simp only [vd, reduceCtorEq, Option.some.injEq, ve, updD, hc1, hc2, w1, wk, w2, hs5, hs1] at c10; grind)
                      refine need_wp (by first | exact ⟨_, _, _, rfl⟩ | (simp only [vd, reduceCtorEq, Option.some.injEq, ve, updD, hc1, hc2, w1, wk, w2, hs5, hs1]; exact ⟨_, _, _, rfl⟩)) ?_
                      refine again_wp rfl ⟨(i + 1), (t + (z5.l.length : Int)), by simp only [vd, reduceCtorEq, Option.some.injEq, ve, updD, hc1, hc2, w1, wk, w2, hs5, hs1], ?_⟩ ?_
                      · refine ⟨by omega, by omega, ?_⟩; rw [take_v i0 c4, encV_app, size_app, ← ht, hz5]
                      · (try simp only [vd, reduceCtorEq, Option.some.injEq, ve, updD, hc1, hc2, w1, wk, w2, hs5, hs1]); omega
            · replace c6 : ¬(plV (X2.get i).v = (X2.get i).v) := by first | simpa only [vd, reduceCtorEq, Option.some.injEq, ve, updD, hc1, hc2, w1] using c6 | (simp only [vd, reduceCtorEq, Option.some.injEq, ve, updD, hc1, hc2, w1] at c6; grind)
              exfalso; exact c6 (by rw [hXg, plV_plV])
          · replace c5 : ¬((X2.get i).v = y3.v) := by first | simpa only [vd, reduceCtorEq, Option.some.injEq, ve, updD, hc1, hc2, w1] using c5 | (simp only [vd, reduceCtorEq, Option.some.injEq, ve, updD, hc1, hc2, w1] at c5; grind)
            exfalso; exact c5 (by rw [hXg, ey3])
        · replace c4 : ¬(i < (l.l.length : Int)) := by first | simpa only [vd, reduceCtorEq, Option.some.injEq, ve, updD] using c4 | (simp only [vd, reduceCtorEq, Option.some.injEq, ve, updD] at c4; grind)
          have hi : i = l.l.length := by omega
          refine pop_wp ?_
          refine need_wp (by first | exact ⟨_, _, _, rfl⟩ | (simp only [vd, reduceCtorEq, Option.some.injEq, ve, updD]; exact ⟨_, _, _, rfl⟩)) ?_
          refine br_wp (fun c11 => ?_) (fun c11 => ?_)
          · replace c11 : t = (z1.l.length : Int) := by first | simpa only [vd, reduceCtorEq, Option.some.injEq, ve, updD] using c11 | (simp only [vd, reduceCtorEq, Option.some.injEq, ve, updD] at c11; grind)
            refine call_fun (()) rfl (by first | (simp only [vd, reduceCtorEq, Option.some.injEq, ve, updD]; done) | (simp only [vd, reduceCtorEq, Option.some.injEq, ve, updD]; rfl)) trivial ?_
            refine ret_wp ?_
            try dsimp only
            rfl
          · replace c11 : ¬(t = (z1.l.length : Int)) := by first | simpa only [vd, reduceCtorEq, Option.some.injEq, ve, updD] using c11 | (simp only [vd, reduceCtorEq, Option.some.injEq, ve, updD] at c11; grind)
            exfalso; exact c11 (by rw [ht, hi, Int.toNat_natCast, List.take_length, hz1])
end Go.Proofs.YtbcbjgomnhajdaaDoorK
