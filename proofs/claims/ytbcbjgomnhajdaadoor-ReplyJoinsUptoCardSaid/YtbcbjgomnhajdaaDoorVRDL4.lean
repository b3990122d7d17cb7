import Derived.Test.YtbcbjgomnhajdaaDoorVRDE42m
import Derived.Test.YtbcbjgomnhajdaaDoorVRDB1m
import Derived.Test.YtbcbjgomnhajdaaDoorVRDp2m
set_option linter.unusedSimpArgs false
set_option linter.unusedVariables false
set_option linter.unnecessarySimpa false
namespace Go.Proofs.YtbcbjgomnhajdaaDoorK
open Go Go.Proofs.YtbcbjgomnhajdaaDoorV Go.Proofs Go.Proofs.YtbcbjgomnhajdaaDoorK Go.Proofs.YtbcbjgomnhajdaaDoorK
def kLaw4 (sg : Sig) : Sig × Con := (sg, mkFun (fun x : Rw Rep × Rw Rep × Rw Int × Gh => ([Rw.atom eP x.1, Rw.atom eP x.2.1, Rw.atom eB x.2.2.1, Rw.atom eF x.2.2.2.a, Rw.atom eF x.2.2.2.b] : List Atom)) (fun x => okR 2000000 x.1 ∧ okR 2000000 x.2.1 ∧ (x.2.2.1.ok 1 ∧ isB x.2.2.1.l) ∧ pG x.2.2.2) (fun _ => [aB true]))
set_option maxHeartbeats 1000000 in
theorem h4 : holds Tryd.prog (kLaw4 sg4) := by
  refine fn_holdsH (inl := []) (l := [kLong sg13, kKnown sg7, kEnc sg11, kSameB sg10, kDec sg8, kPl sg14, kSame sg12]) ⟨h13, h7, h11, h10, h8, h14, h12, trivial⟩ trivial hP gh4 rs4 (inj_of (fun l : List Atom => ((Rw.un unP (l.getD 0 atom0), Rw.un unP (l.getD 1 atom0), Rw.un unI (l.getD 2 atom0), (⟨Rw.un unF (l.getD 3 atom0), Rw.un unF (l.getD 4 atom0)⟩ : Gh)) : Rw Rep × Rw Rep × Rw Int × Gh)) (fun _ => by simp [List.getD_cons_zero, List.getD_cons_succ, unA_atom, unF_at])) Tryd.func4 (by kernel_rfl) (c := code Tryd.f4) (by kernel_rfl) (an := an4) (by kernel_rfl) (pk := pk4g) rfl (t := t4) (by kernel_rfl) ?_
  rintro ⟨a, b, c, q⟩ hnil ⟨ha, hb, ⟨kc, hC⟩, hq⟩
  refine ⟨by simp [pk4g, pk4, KindsOk, RK.ok, Rw.atom, Sl.atom], ?_⟩
  unfold t4
  dsimp only at ha hb kc hC hq
  have ka : a.ok 4 := ha.1
  have kb : b.ok 4 := hb.1
  have ja := ha.2.2
  have jb := hb.2.2
  have w1 : IntKind.i64.wrap ((lenL (a.l.map Rep.v) : Int) + (lenL (b.l.map Rep.v) : Int)) = (lenL (a.l.map Rep.v) : Int) + (lenL (b.l.map Rep.v) : Int) := wrap_id _ (by omega) (by omega)
  refine call_fun (a) rfl (by first | (simp only [vd, reduceCtorEq, Option.some.injEq, ve, updD, w1]; done) | (simp only [vd, reduceCtorEq, Option.some.injEq, ve, updD, w1]; rfl)) ha ?_
  refine call_fun (b) rfl (by first | (simp only [vd, reduceCtorEq, Option.some.injEq, ve, updD, w1]; done) | (simp only [vd, reduceCtorEq, Option.some.injEq, ve, updD, w1]; rfl)) hb ?_
  refine br_wp (fun c1 => ?_) (fun c1 => ?_)
  · replace c1 : ((lenL (a.l.map Rep.v) : Int) + (lenL (b.l.map Rep.v) : Int)) > 1200 := by first | simpa only [vd, reduceCtorEq, Option.some.injEq, ve, updD, w1] using c1 | (simp only [vd, reduceCtorEq, Option.some.injEq, ve, updD, w1] at c1; grind)
    refine call_fun (()) rfl (by first | (simp only [vd, reduceCtorEq, Option.some.injEq, ve, updD, w1]; done) | (simp only [vd, reduceCtorEq, Option.some.injEq, ve, updD, w1]; rfl)) trivial ?_
    refine ret_wp ?_
    try dsimp only
    rfl
  · replace c1 : ¬(((lenL (a.l.map Rep.v) : Int) + (lenL (b.l.map Rep.v) : Int)) > 1200) := by first | simpa only [vd, reduceCtorEq, Option.some.injEq, ve, updD, w1] using c1 | (simp only [vd, reduceCtorEq, Option.some.injEq, ve, updD, w1] at c1; grind)
    refine need_wp (by first | exact ⟨_, _, _, rfl⟩ | (simp only [vd, reduceCtorEq, Option.some.injEq, ve, updD, w1]; exact ⟨_, _, _, rfl⟩)) ?_
    refine br_wp (fun c2 => ?_) (fun c2 => ?_)
    · replace c2 : (c.l.length : Int) > 200 := by first | simpa only [vd, reduceCtorEq, Option.some.injEq, ve, updD, w1] using c2 | (simp only [vd, reduceCtorEq, Option.some.injEq, ve, updD, w1] at c2; grind)
      refine call_fun (()) rfl (by first | (simp only [vd, reduceCtorEq, Option.some.injEq, ve, updD, w1]; done) | (simp only [vd, reduceCtorEq, Option.some.injEq, ve, updD, w1]; rfl)) trivial ?_
      refine ret_wp ?_
      try dsimp only
      rfl
    · replace c2 : ¬((c.l.length : Int) > 200) := by first | simpa only [vd, reduceCtorEq, Option.some.injEq, ve, updD, w1] using c2 | (simp only [vd, reduceCtorEq, Option.some.injEq, ve, updD, w1] at c2; grind)
      have hLa := lenL_len (a.l.map Rep.v)
      have hLb := lenL_len (b.l.map Rep.v)
      rw [List.length_map] at hLa hLb
      have okA : okR 100000 a := ⟨ha.1, ha.2.1, by omega⟩
      have okB : okR 100000 b := ⟨hb.1, hb.2.1, by omega⟩
      have zA := enc_take_size okA (by omega) a.l.length
      have zB := enc_take_size okB (by omega) b.l.length
      rw [List.take_length] at zA zB
      refine need_wp (by first | exact ⟨_, _, _, rfl⟩ | (simp only [vd, reduceCtorEq, Option.some.injEq, ve, updD, w1]; exact ⟨_, _, _, rfl⟩)) ?_
      refine need_wp (by first | exact rw_szz (by assumption) | exact rw_szz (.inr rfl)) ?_
      refine need_wp (by simp only [vd, reduceCtorEq, Option.some.injEq, ve, updD, w1, List.length_cons, List.length_nil, List.length_append, List.length_set]; first | omega | (grind)) ?_
      refine need_wp (by simp only [vd, reduceCtorEq, Option.some.injEq, ve, updD, w1, List.length_cons, List.length_nil, List.length_append, List.length_set]; first | omega | (grind)) ?_
      refine app_wp eP (Rw.nil : Rw Rep) a (by first | rfl | simp only [vd, reduceCtorEq, Option.some.injEq, ve, updD, w1]) (by first | rfl | simp only [vd, reduceCtorEq, Option.some.injEq, ve, updD, w1]) ?_
      intro a1 b1
      generalize hx1 : (⟨a1, b1, 4, (Rw.nil : Rw Rep).l ++ a.l⟩ : Rw Rep) = x1
      have lx1 : x1.l = a.l := by first | (rw [← hx1]; done) | (rw [← hx1]; rfl)
      have zx1 : x1.z = 4 := by rw [← hx1]
      have kx1 : Rw.ok 4 x1 := .inr zx1
      have nx1 : (x1.l.length : Int) = 0 + (a.l.length : Int) := by first | (rw [← hx1]; done) | (rw [← hx1]; simp [Rw.nil])
      refine need_wp (by first | exact ⟨_, _, _, rfl⟩ | (simp only [vd, reduceCtorEq, Option.some.injEq, ve, updD, w1]; exact ⟨_, _, _, rfl⟩)) ?_
      refine need_wp (by first | exact rw_szz (by assumption) | exact rw_szz (.inr rfl)) ?_
      refine need_wp (by simp only [vd, reduceCtorEq, Option.some.injEq, ve, updD, w1, List.length_cons, List.length_nil, List.length_append, List.length_set]; first | omega | (grind)) ?_
      refine need_wp (by simp only [vd, reduceCtorEq, Option.some.injEq, ve, updD, w1, List.length_cons, List.length_nil, List.length_append, List.length_set]; first | omega | (grind)) ?_
      refine app_wp eP x1 b (by first | rfl | simp only [vd, reduceCtorEq, Option.some.injEq, ve, updD, w1]) (by first | rfl | simp only [vd, reduceCtorEq, Option.some.injEq, ve, updD, w1]) ?_
      intro a2 b2
      generalize hx2 : (⟨a2, b2, 4, x1.l ++ b.l⟩ : Rw Rep) = x2
      have lx2 : x2.l = x1.l ++ b.l := by first | (rw [← hx2]; done) | (rw [← hx2]; rfl)
      have zx2 : x2.z = 4 := by rw [← hx2]
      have kx2 : Rw.ok 4 x2 := .inr zx2
      have nx2 : (x2.l.length : Int) = (x1.l.length : Int) + (b.l.length : Int) := by first | (rw [← hx2]; done) | (rw [← hx2]; simp [Rw.nil])
      have okX : okR 100000 x2 := okR_app (by rw [lx2, lx1]) zx2 ha hb (by omega)
      refine call_rel (a) rfl (by first | (simp only [vd, reduceCtorEq, Option.some.injEq, ve, updD, w1]; done) | (simp only [vd, reduceCtorEq, Option.some.injEq, ve, updD, w1]; rfl)) okA ?_
      rintro z3 ⟨ez3, oz3⟩
      try dsimp only at ez3 oz3
      refine call_rel (b) rfl (by first | (simp only [vd, reduceCtorEq, Option.some.injEq, ve, updD, w1]; done) | (simp only [vd, reduceCtorEq, Option.some.injEq, ve, updD, w1]; rfl)) okB ?_
      rintro z4 ⟨ez4, oz4⟩
      try dsimp only at ez4 oz4
      have hz3 : (z3.l.length : Int) ≤ 6000000 := by rw [ez3, bi_len]; exact zA
      have hz4 : (z4.l.length : Int) ≤ 6000000 := by rw [ez4, bi_len]; exact zB
      refine need_wp (by first | exact ⟨_, _, _, rfl⟩ | (simp only [vd, reduceCtorEq, Option.some.injEq, ve, updD, w1]; exact ⟨_, _, _, rfl⟩)) ?_
      refine need_wp (by first | exact rw_szz (by assumption) | exact rw_szz (.inr rfl)) ?_
      refine need_wp (by simp only [vd, reduceCtorEq, Option.some.injEq, ve, updD, w1, List.length_cons, List.length_nil, List.length_append, List.length_set]; first | omega | (grind)) ?_
      refine need_wp (by simp only [vd, reduceCtorEq, Option.some.injEq, ve, updD, w1, List.length_cons, List.length_nil, List.length_append, List.length_set]; first | omega | (grind)) ?_
      refine app_wp eB z3 z4 (by first | rfl | simp only [vd, reduceCtorEq, Option.some.injEq, ve, updD, w1]) (by first | rfl | simp only [vd, reduceCtorEq, Option.some.injEq, ve, updD, w1]) ?_
      intro a5 b5
      generalize hx5 : (⟨a5, b5, 1, z3.l ++ z4.l⟩ : Rw Int) = x5
      have lx5 : x5.l = z3.l ++ z4.l := by first | (rw [← hx5]; done) | (rw [← hx5]; rfl)
      have zx5 : x5.z = 1 := by rw [← hx5]
      have kx5 : Rw.ok 1 x5 := .inr zx5
      have nx5 : (x5.l.length : Int) = (z3.l.length : Int) + (z4.l.length : Int) := by first | (rw [← hx5]; done) | (rw [← hx5]; simp [Rw.nil])
      refine call_rel (x2) rfl (by first | (simp only [vd, reduceCtorEq, Option.some.injEq, ve, updD, w1]; done) | (simp only [vd, reduceCtorEq, Option.some.injEq, ve, updD, w1]; rfl)) okX ?_
      rintro z6 ⟨ez6, oz6⟩
      try dsimp only at ez6 oz6
      refine call_fun ((x5, z6)) rfl (by first | (simp only [vd, reduceCtorEq, Option.some.injEq, ve, updD, w1]; done) | (simp only [vd, reduceCtorEq, Option.some.injEq, ve, updD, w1]; rfl)) (⟨⟨kx5, by rw [lx5, ez3, ez4]; exact isB_two (isB_bi _) (isB_bi _)⟩, oz6, by rw [ez6]; exact isB_bi _⟩) ?_
      refine br_wp (fun c3 => ?_) (fun c3 => ?_)
      · replace c3 : ofBytes x5.l = ofBytes z6.l := by first | simpa only [vd, reduceCtorEq, Option.some.injEq, ve, updD, w1] using c3 | (simp only [vd, reduceCtorEq, Option.some.injEq, ve, updD, w1] at c3; grind)
        refine need_wp (by first | exact ⟨_, _, _, rfl⟩ | (simp only [vd, reduceCtorEq, Option.some.injEq, ve, updD, w1]; exact ⟨_, _, _, rfl⟩)) ?_
        refine br_wp (fun c4 => ?_) (fun c4 => ?_)
        · replace c4 : (a.l.length : Int) = 0 := by first | simpa only [vd, reduceCtorEq, Option.some.injEq, ve, updD, w1] using c4 | (simp only [vd, reduceCtorEq, Option.some.injEq, ve, updD, w1] at c4; grind)
          refine call_fun (()) rfl (by first | (simp only [vd, reduceCtorEq, Option.some.injEq, ve, updD, w1]; done) | (simp only [vd, reduceCtorEq, Option.some.injEq, ve, updD, w1]; rfl)) trivial ?_
          refine ret_wp ?_
          try dsimp only
          rfl
        · replace c4 : ¬((a.l.length : Int) = 0) := by first | simpa only [vd, reduceCtorEq, Option.some.injEq, ve, updD, w1] using c4 | (simp only [vd, reduceCtorEq, Option.some.injEq, ve, updD, w1] at c4; grind)
          have hc3 := cell_P3 a (i := 0) (by omega) (by omega)
          obtain ⟨hg1, hg2⟩ := okR_get (i := 0) okA (by omega) (by omega) (by omega)
          have kg : (a.get 0).l.ok 1 := hg1.1
          have hgl := hg1.2
          have hos := one_size hgl hg2
          refine need_wp (by first | exact ⟨_, _, _, rfl⟩ | (simp only [vd, reduceCtorEq, Option.some.injEq, ve, updD, w1, hc3]; exact ⟨_, _, _, rfl⟩)) ?_
          refine need_wp (by first | exact rw_row _ _ | (simp only [vd, reduceCtorEq, Option.some.injEq, ve, updD, w1, hc3]; exact ⟨_, _, rfl⟩)) ?_
          refine need_wp (by simp only [vd, reduceCtorEq, Option.some.injEq, ve, updD, w1, hc3, List.length_cons, List.length_nil, List.length_append, List.length_set]; first | omega | (grind)) ?_
          refine need_wp (by first | exact ⟨_, _, _, rfl⟩ | (simp only [vd, reduceCtorEq, Option.some.injEq, ve, updD, w1, hc3]; exact ⟨_, _, _, rfl⟩)) ?_
          refine need_wp (by first | exact rw_row _ _ | (simp only [vd, reduceCtorEq, Option.some.injEq, ve, updD, w1, hc3]; exact ⟨_, _, rfl⟩)) ?_
          refine need_wp (by first | exact rw_sz' rfl | exact rw_szn (by assumption) (.inr (by omega)) | (simp only [vd, reduceCtorEq, Option.some.injEq, ve, updD, w1, hc3]; exact rw_szn (by assumption) (.inr (by omega))) | exact rw_szn (by simp [Rw.ok]) (.inr (by omega))) ?_
          refine need_wp (by simp only [vd, reduceCtorEq, Option.some.injEq, ve, updD, w1, hc3]; exact kind_Rp0 (by omega) (by omega)) ?_
          refine need_wp (by simp only [vd, reduceCtorEq, Option.some.injEq, ve, updD, w1, hc3]; exact kind_Rp1 (by omega) (by omega)) ?_
          refine need_wp (by simp only [vd, reduceCtorEq, Option.some.injEq, ve, updD, w1, hc3]; exact kind_Rp2 (by omega) (by omega)) ?_
          refine need_wp (by simp only [vd, reduceCtorEq, Option.some.injEq, ve, updD, w1, hc3]; first | exact ⟨_, _, _, rfl⟩ | exact kind_Rp3 (by omega) (by omega)) ?_
          refine new_wp eP [(a.get 0)] (by first | (simp only [vd, reduceCtorEq, Option.some.injEq, ve, updD, w1, hc3, eP]; done) | rfl) ?_
          intro a7 b7
          generalize hx7 : (⟨a7, b7, 4, [(a.get 0)]⟩ : Rw Rep) = x7
          have lx7 : x7.l = [(a.get 0)] := by first | (rw [← hx7]; done) | (rw [← hx7]; rfl)
          have zx7 : x7.z = 4 := by rw [← hx7]
          have kx7 : Rw.ok 4 x7 := .inr zx7
          have nx7 : (x7.l.length : Int) = 1 := by first | (rw [← hx7]; done) | (rw [← hx7]; simp [Rw.nil])
          have okO : okR 100000 x7 := okR_one lx7 (.inr zx7) hg1 hg2
          refine call_rel (x7) rfl (by first | (simp only [vd, reduceCtorEq, Option.some.injEq, ve, updD, w1, hc3]; done) | (simp only [vd, reduceCtorEq, Option.some.injEq, ve, updD, w1, hc3]; rfl)) okO ?_
          rintro z8 ⟨ez8, oz8⟩
          try dsimp only at ez8 oz8
          have ez : z8.l = bi (oneV (a.get 0).v) := by rw [ez8, lx7]; show bi (encV [(a.get 0).v]) = _; rw [enc_one]
          have hz8 : (z8.l.length : Int) = (oneV (a.get 0).v).size := by rw [ez, bi_len]
          have hg0 : lenV (a.get 0).v ≤ 1200 := Nat.le_trans (lenL_mem (List.mem_map.2 ⟨a.get 0, get_mem (by omega) (by omega), rfl⟩)) (by omega)
          have hos2 := one_size2 (M := 1200) hg0 (by omega) hg2
          refine need_wp (by first | exact ⟨_, _, _, rfl⟩ | (simp only [vd, reduceCtorEq, Option.some.injEq, ve, updD, w1, hc3]; exact ⟨_, _, _, rfl⟩)) ?_
          refine need_wp (by first | exact ⟨_, _, _, rfl⟩ | (simp only [vd, reduceCtorEq, Option.some.injEq, ve, updD, w1, hc3]; exact ⟨_, _, _, rfl⟩)) ?_
          refine need_wp (by first | exact rw_szz (by assumption) | exact rw_szz (.inr rfl)) ?_
          refine need_wp (by simp only [vd, reduceCtorEq, Option.some.injEq, ve, updD, w1, hc3, List.length_cons, List.length_nil, List.length_append, List.length_set]; first | omega | (grind)) ?_
          refine need_wp (by simp only [vd, reduceCtorEq, Option.some.injEq, ve, updD, w1, hc3, List.length_cons, List.length_nil, List.length_append, List.length_set]; first | omega | (grind)) ?_
          refine app_wp eB z8 c (by first | rfl | simp only [vd, reduceCtorEq, Option.some.injEq, ve, updD, w1, hc3]) (by first | rfl | simp only [vd, reduceCtorEq, Option.some.injEq, ve, updD, w1, hc3]) ?_
          intro a9 b9
          generalize hx9 : (⟨a9, b9, 1, z8.l ++ c.l⟩ : Rw Int) = x9
          have lx9 : x9.l = z8.l ++ c.l := by first | (rw [← hx9]; done) | (rw [← hx9]; rfl)
          have zx9 : x9.z = 1 := by rw [← hx9]
          have kx9 : Rw.ok 1 x9 := .inr zx9
          have nx9 : (x9.l.length : Int) = (z8.l.length : Int) + (c.l.length : Int) := by first | (rw [← hx9]; done) | (rw [← hx9]; simp [Rw.nil])
          have hB9 : isB x9.l := by rw [lx9, ez]; exact isB_two (isB_bi _) hC
          have hL9 : x9.l.length ≤ 100000 := by rw [lx9, List.length_append]; omega
          refine call_rel ((x9, q)) rfl (by first | (simp only [vd, reduceCtorEq, Option.some.injEq, ve, updD, w1, hc3]; done) | (simp only [vd, reduceCtorEq, Option.some.injEq, ve, updD, w1, hc3]; rfl)) (⟨kx9, hB9, hL9, hq⟩) ?_
          rintro ⟨y10, n10, e10⟩ ⟨ed10, od10⟩
          try dsimp only at ed10 od10
          have hd := ed10.trans (dec_enc (by rw [lx9, ez]) hC hg2 hgl)
          simp only [Prod.mk.injEq] at hd
          obtain ⟨d1, d2, d3⟩ := hd
          have hy1 : y10.l.l.length ≤ 140737488355328 := by have e := congrArg (fun v : RV => v.l.length) d1; have e : y10.l.l.length = (plV (a.get 0).v).l.length := e; have h2 := pl_len (y := ⟨(plV (a.get 0).v).k, (plV (a.get 0).v).t, (plV (a.get 0).v).n, ⟨none, 0, 0, (plV (a.get 0).v).l⟩⟩) (x := a.get 0) rfl hg1; rw [e]; exact h2
          refine br_wp (fun c5 => ?_) (fun c5 => ?_)
          · replace c5 : e10 = 0 := by first | simpa only [vd, reduceCtorEq, Option.some.injEq, ve, updD, w1, hc3] using c5 | (simp only [vd, reduceCtorEq, Option.some.injEq, ve, updD, w1, hc3] at c5; grind)
            refine br_wp (fun c6 => ?_) (fun c6 => ?_)
            · replace c6 : n10 = (z8.l.length : Int) := by first | simpa only [vd, reduceCtorEq, Option.some.injEq, ve, updD, w1, hc3] using c6 | (simp only [vd, reduceCtorEq, Option.some.injEq, ve, updD, w1, hc3] at c6; grind)
              refine need_wp (by first | exact ⟨_, _, _, rfl⟩ | (simp only [vd, reduceCtorEq, Option.some.injEq, ve, updD, w1, hc3]; exact ⟨_, _, _, rfl⟩)) ?_
              refine need_wp (by first | exact rw_row _ _ | (simp only [vd, reduceCtorEq, Option.some.injEq, ve, updD, w1, hc3]; exact ⟨_, _, rfl⟩)) ?_
              refine need_wp (by first | exact ⟨_, _, _, rfl⟩ | (simp only [vd, reduceCtorEq, Option.some.injEq, ve, updD, w1, hc3]; exact ⟨_, _, _, rfl⟩)) ?_
              refine need_wp (by first | exact rw_row _ _ | (simp only [vd, reduceCtorEq, Option.some.injEq, ve, updD, w1, hc3]; exact ⟨_, _, rfl⟩)) ?_
              refine need_wp (by first | exact rw_sz' rfl | exact rw_szn (by assumption) (.inr (by omega)) | (simp only [vd, reduceCtorEq, Option.some.injEq, ve, updD, w1, hc3]; exact rw_szn (by assumption) (.inr (by omega))) | exact rw_szn (by simp [Rw.ok]) (.inr (by omega))) ?_
              refine need_wp (by simp only [vd, reduceCtorEq, Option.some.injEq, ve, updD, w1, hc3]; exact kind_Rp0 (by omega) (by omega)) ?_
              refine need_wp (by simp only [vd, reduceCtorEq, Option.some.injEq, ve, updD, w1, hc3]; exact kind_Rp1 (by omega) (by omega)) ?_
              refine need_wp (by simp only [vd, reduceCtorEq, Option.some.injEq, ve, updD, w1, hc3]; exact kind_Rp2 (by omega) (by omega)) ?_
              refine need_wp (by simp only [vd, reduceCtorEq, Option.some.injEq, ve, updD, w1, hc3]; first | exact ⟨_, _, _, rfl⟩ | exact kind_Rp3 (by omega) (by omega)) ?_
              refine call_rel ((a.get 0)) rfl (by first | (simp only [vd, reduceCtorEq, Option.some.injEq, ve, updD, w1, hc3]; done) | (simp only [vd, reduceCtorEq, Option.some.injEq, ve, updD, w1, hc3]; rfl)) hg1 ?_
              rintro y11 ⟨ey11, oy11⟩
              try dsimp only at ey11 oy11
              refine call_fun ((y10, y11)) rfl (by first | (simp only [vd, reduceCtorEq, Option.some.injEq, ve, updD, w1, hc3]; done) | (simp only [vd, reduceCtorEq, Option.some.injEq, ve, updD, w1, hc3]; rfl)) (⟨od10, oy11, hy1⟩) ?_
              refine br_wp (fun c7 => ?_) (fun c7 => ?_)
              · replace c7 : y10.v = y11.v := by first | simpa only [vd, reduceCtorEq, Option.some.injEq, ve, updD, w1, hc3] using c7 | (simp only [vd, reduceCtorEq, Option.some.injEq, ve, updD, w1, hc3] at c7; grind)
                refine call_fun (()) rfl (by first | (simp only [vd, reduceCtorEq, Option.some.injEq, ve, updD, w1, hc3]; done) | (simp only [vd, reduceCtorEq, Option.some.injEq, ve, updD, w1, hc3]; rfl)) trivial ?_
                refine ret_wp ?_
                try dsimp only
                rfl
              · replace c7 : ¬(y10.v = y11.v) := by first | simpa only [vd, reduceCtorEq, Option.some.injEq, ve, updD, w1, hc3] using c7 | (simp only [vd, reduceCtorEq, Option.some.injEq, ve, updD, w1, hc3] at c7; grind)
                exfalso; exact c7 (by rw [d1, ey11])
            · replace c6 : ¬(n10 = (z8.l.length : Int)) := by first | simpa only [vd, reduceCtorEq, Option.some.injEq, ve, updD, w1, hc3] using c6 | (simp only [vd, reduceCtorEq, Option.some.injEq, ve, updD, w1, hc3] at c6; grind)
              exfalso; omega
          · replace c5 : ¬(e10 = 0) := by first | simpa only [vd, reduceCtorEq, Option.some.injEq, ve, updD, w1, hc3] using c5 | (simp only [vd, reduceCtorEq, Option.some.injEq, ve, updD, w1, hc3] at c5; grind)
            exfalso; exact c5 d3
      · replace c3 : ¬(ofBytes x5.l = ofBytes z6.l) := by first | simpa only [vd, reduceCtorEq, Option.some.injEq, ve, updD, w1] using c3 | (simp only [vd, reduceCtorEq, Option.some.injEq, ve, updD, w1] at c3; grind)
        exfalso; exact c3 (by rw [lx5, ez3, ez4, ez6, lx2, lx1, List.map_append, encV_two, of_two (isB_bi _) (isB_bi _), ofBytes_bi, ofBytes_bi, ofBytes_bi])
end Go.Proofs.YtbcbjgomnhajdaaDoorK
