import Derived.Test.YtamjocnlhhhijaaVRR4p
import Derived.Test.YtamjocnlhhhijaaVRR14
import Derived.Test.YtamjocnlhhhijaaVRR16
import Derived.Test.YtamjocnlhhhijaaVRRF
import Derived.Test.YtamjocnlhhhijaaVRR4ch
set_option linter.unusedSimpArgs false
set_option linter.unusedVariables false
set_option linter.unnecessarySimpa false
namespace Go.Proofs.YtamjocnlhhhijaaK
open Go Go.Proofs.YtamjocnlhhhijaaV Go.Proofs Go.Proofs.YtamjocnlhhhijaaK Go.Proofs.YtamjocnlhhhijaaK Go.Proofs.YtamjocnlhhhijaaS
def kLaw4 (sg : Sig) : Sig × Con := (sg, mkFun (fun x : Rw (Rw Int) => ([Rw.atom eQ x] : List Atom)) (fun q => okQ q ∧ (catQ q.l).length ≤ 1048576 ∧ q.l.length ≤ 1048576) (fun _ => [aB true]))
set_option maxHeartbeats 1000000 in
theorem t4_1_wp {nx sx : X} {q : Rw (Rw Int)} {all out : Rw (Rw ByteArray)} {i1 td n many : Int} {sm : Bool} {args : Atom} {arg : Rw Int} (hq : okQ q) (hql : q.l.length ≤ 30) (hqc : (catQ q.l).length ≤ 600) (j0 : 0 ≤ i1) (j1 : i1 < q.l.length) (htd : td = (all.l.length : Int)) (kargs : ∃ a n c, args.1 = Value.slice a n c) (hko9 : okL out) (hla : all.l.length ≤ 3000) (hlo : out.l.length ≤ 3000)
  (hF : ∀ all2 : Rw (Rw ByteArray), all2.l = all.l ++ out.l → all2.ok 1 → OI (bS (catQ q.l)) all2 (catQ (q.l.take (i1 + 1).toNat)).length atom0 true 0 0 false atom0 0 Rw.nil)
  (F0 F1 : List Atom → Prop) (hAg : ∀ t2 : Int, (∃ all2 : Rw (Rw ByteArray), all2.l = all.l ++ out.l ∧ all2.ok 1 ∧ t2 = (all2.l.length : Int)) → F0 [aI (i1 + 1), aI t2, (Value.nilFunc, D.leaf), aB true, aI 0, aI n, aB sm, args, aI many, Rw.atom eB arg]) (y1 y2 y3 y6 y7 y8 y9 y10 y11 y12 y13 y14 y15 y16 y17 y18 y19 : Atom)
  (hnx : ∀ l : List Atom, X.den (Rw.atom eQ q :: y1 :: y2 :: y3 :: aI i1 :: aI td :: y6 :: y7 :: y8 :: y9 :: y10 :: y11 :: y12 :: y13 :: y14 :: y15 :: y16 :: y17 :: y18 :: y19 :: args :: aI many :: Rw.atom eB arg :: Rw.atom eL out :: l) nx = aI n) (hsx : ∀ l : List Atom, X.den (Rw.atom eQ q :: y1 :: y2 :: y3 :: aI i1 :: aI td :: y6 :: y7 :: y8 :: y9 :: y10 :: y11 :: y12 :: y13 :: y14 :: y15 :: y16 :: y17 :: y18 :: y19 :: args :: aI many :: Rw.atom eB arg :: Rw.atom eL out :: l) sx = aB sm) :
  (t4_1 nx sx).wp (tab [kKnown sg10, kJoin sg16, kRef sg14, kSameS sg19]) (fun outs => outs = [aB true]) [Rw.atom eQ q, y1, y2, y3, aI i1, aI td, y6, y7, y8, y9, y10, y11, y12, y13, y14, y15, y16, y17, y18, y19, args, aI many, Rw.atom eB arg, Rw.atom eL out] [F0, F1] := by
 unfold t4_1
 have kq : q.ok 1 := hq.1
 have wi1 : IntKind.i64.wrap (i1 + 1) = i1 + 1 := wrap_id _ (by omega) (by omega)
 have hcl1 := catQ_le q.l (i1 + 1).toNat
 have hsq := sub_rw (e := eQ) (r := q) (z := 1) (i := 0) (j := i1 + 1) kq (by omega) (by omega) (by omega)
 have hsl := sub0_l q 1 (i1 + 1)
 have hoq : okQ (q.sub 1 0 (i1 + 1)) := okQ_sub hq _
 have hct4 := catQ_take j0 j1
 have hcn : (catQ (q.l.take (i1 + 1).toNat)).length = (catQ (q.l.take i1.toNat)).length + (q.get i1).l.length := by rw [hct4, List.length_append]
 have kout : out.ok 1 := hko9.1
 refine pop_wp ?_
 refine need_wp (⟨_, _, _, rfl⟩) ?_
 refine need_wp (by first | exact rw_szz (by assumption) | exact rw_szz (.inr rfl)) ?_
 refine need_wp (by simp only [vx, reduceCtorEq, wi1, hsq, hnx, hsx, vlen]; first | omega | (grind)) ?_
 refine need_wp (by simp only [vx, reduceCtorEq, wi1, hsq, hnx, hsx, vlen]; first | omega | (grind)) ?_
 refine call_rel ((q.sub 1 0 (i1 + 1))) rfl (by first | (simp only [vx, reduceCtorEq, wi1, hsq, hnx, hsx]; done) | (simp only [vx, reduceCtorEq, wi1, hsq, hnx, hsx]; rfl)) (⟨hoq, by rw [hsl, List.length_take]; omega, by rw [hsl]; omega⟩) ?_
 rintro z1 ⟨ez1, oz1⟩
 try dsimp only at ez1 oz1
 refine call_rel (z1) rfl (by first | (simp only [vx, reduceCtorEq, wi1, hsq, hnx, hsx]; done) | (simp only [vx, reduceCtorEq, wi1, hsq, hnx, hsx]; rfl)) (⟨oz1, by rw [ez1, hsl]; exact catQ_B hq _, by have hzn : (z1.l.length : Int) = ((catQ (q.l.take (i1 + 1).toNat)).length : Int) := (by rw [ez1, hsl]); omega⟩) ?_
 rintro ⟨x2, n2, e2⟩ w2
 try dsimp only at w2
 have hzl : bS z1.l = (bS (catQ q.l)).take (catQ (q.l.take (i1 + 1).toNat)).length := by rw [ez1, hsl]; exact catQ_pre _ _
 have hzn : (z1.l.length : Int) = ((catQ (q.l.take (i1 + 1).toNat)).length : Int) := by rw [ez1, hsl]
 obtain ⟨al2, hl2, hk2⟩ : ∃ a : Rw (Rw ByteArray), a.l = all.l ++ out.l ∧ a.ok 1 := ⟨⟨none, 0, 1, all.l ++ out.l⟩, rfl, .inr rfl⟩
 have hF2 := hF al2 hl2 hk2
 obtain ⟨hv, hev, hlf, hl0, hxl, hxr, kx2⟩ := fin4 hzl (by rw [ez1, hsl]; exact catQ_B hq _) (by omega) w2 hF2
 obtain ⟨hln, hcm⟩ := cmp4 hl2 hv
 have kxx : x2.ok 1 := kx2.1
 have wtd : IntKind.i64.wrap ((x2.l.length : Int) - td) = (x2.l.length : Int) - td := wrap_id _ (by omega) (by omega)
 refine brP (e2 = true) (by first | (simp only [vx, reduceCtorEq, wi1, hsq, hnx, hsx, wtd]; done) | (simp only [vx, reduceCtorEq, wi1, hsq, hnx, hsx, wtd]; grind)) (fun c1 => ?_) (fun c1 => ?_)
 ·refine brP (true = e2) (by first | (simp only [vx, reduceCtorEq, wi1, hsq, hnx, hsx, wtd]; done) | (simp only [vx, reduceCtorEq, wi1, hsq, hnx, hsx, wtd]; grind)) (fun c2 => ?_) (fun c2 => ?_)
  ·refine need_wp (⟨_, _, _, rfl⟩) ?_
   refine need_wp (⟨_, _, _, rfl⟩) ?_
   refine brP ((out.l.length : Int) ≠ ((x2.l.length : Int) - td)) (by first | (simp only [vx, reduceCtorEq, wi1, hsq, hnx, hsx, wtd]; done) | (simp only [vx, reduceCtorEq, wi1, hsq, hnx, hsx, wtd]; grind)) (fun c3 => ?_) (fun c3 => ?_)
   ·exfalso; omega
   ·refine loop_wp (fun bs0 => ∃ (k9 : Int), bs0 = [aI k9] ∧ (0 ≤ k9)) (fun bs0 => ((out.l.length : Int) - vi (bs0.getD 0 atom0).1).toNat) ?_ ?_
    ·refine ⟨0, by first | (simp only [vx, reduceCtorEq, wi1, hsq, hnx, hsx, wtd]; done) | (simp only [vx, reduceCtorEq, wi1, hsq, hnx, hsx, wtd]; rfl) | simp only [vx, reduceCtorEq, wi1, hsq, hnx, hsx, wtd, Rw.atom, Rw.nil, List.length_nil, List.map_nil], ?_⟩
     exact (by omega : (0 : Int) ≤ 0)
    rintro _ _ ⟨k9, rfl, k90⟩
    refine need_wp (⟨_, _, _, rfl⟩) ?_
    refine brP (k9 < (out.l.length : Int)) (by first | (simp only [vx, reduceCtorEq, wi1, hsq, hnx, hsx, wtd]; done) | (simp only [vx, reduceCtorEq, wi1, hsq, hnx, hsx, wtd]; grind)) (fun c4 => ?_) (fun c4 => ?_)
    ·have hca := cell_L out (i := k9) k90 c4
     have hcb := cell_L x2 (i := td + k9) (by omega) (by omega)
     have wk : IntKind.i64.wrap (td + k9) = td + k9 := wrap_id _ (by omega) (by omega)
     have wk9 : IntKind.i64.wrap (k9 + 1) = k9 + 1 := wrap_id _ (by omega) (by omega)
     have hcm9 := hcm k9 k90 c4
     rw [← htd] at hcm9
     have kg1 : (out.get k9).ok 1 := hko9.2 _ (get_memL k90 c4)
     have kg2 : (x2.get (td + k9)).ok 1 := kx2.2 _ (get_memL (by omega) (by omega))
     have kg3 : ((out.get k9).l.length : Int) ≤ 2000 := by rw [hcm9]; exact hxr _ (get_memL (by omega) (by omega))
     refine need_wp (⟨_, _, _, rfl⟩) ?_
     refine need_wp (rw_row _ _) ?_
     refine need_wp (by simp only [vx, reduceCtorEq, wi1, hsq, hnx, hsx, wtd, wk, wk9, hca, hcb, vlen]; first | omega | (grind)) ?_
     refine need_wp (⟨_, _, _, rfl⟩) ?_
     refine need_wp (rw_row _ _) ?_
     refine need_wp (by simp only [vx, reduceCtorEq, wi1, hsq, hnx, hsx, wtd, wk, wk9, hca, hcb, vlen]; first | omega | (grind)) ?_
     refine need_wp (by simp only [vx, reduceCtorEq, wi1, hsq, hnx, hsx, wtd, wk, wk9, hca, hcb, vlen]; first | omega | (grind)) ?_
     refine need_wp (⟨_, _, _, rfl⟩) ?_
     refine need_wp (rw_row _ _) ?_
     refine need_wp (by first | exact rw_sz' rfl | exact rw_szn (by assumption) (.inr (by omega)) | (simp only [vx, reduceCtorEq, wi1, hsq, hnx, hsx, wtd, wk, wk9, hca, hcb]; exact rw_szn (by assumption) (.inr (by omega))) | exact rw_szn (by simp [Rw.ok]) (.inr (by omega))) ?_
     refine need_wp (by simp only [vx, reduceCtorEq, wi1, hsq, hnx, hsx, wtd, wk, wk9, hca, hcb]; first | exact ⟨_, _, _, rfl⟩ | exact kind_Rl (by omega) (by omega)) ?_
     refine need_wp (⟨_, _, _, rfl⟩) ?_
     refine need_wp (rw_row _ _) ?_
     refine need_wp (by first | exact rw_sz' rfl | exact rw_szn (by assumption) (.inr (by omega)) | (simp only [vx, reduceCtorEq, wi1, hsq, hnx, hsx, wtd, wk, wk9, hca, hcb]; exact rw_szn (by assumption) (.inr (by omega))) | exact rw_szn (by simp [Rw.ok]) (.inr (by omega))) ?_
     refine need_wp (by simp only [vx, reduceCtorEq, wi1, hsq, hnx, hsx, wtd, wk, wk9, hca, hcb]; first | exact ⟨_, _, _, rfl⟩ | exact kind_Rl (by omega) (by omega)) ?_
     refine call_fun (((out.get k9), (x2.get (td + k9)))) rfl (by first | (simp only [vx, reduceCtorEq, wi1, hsq, hnx, hsx, wtd, wk, wk9, hca, hcb]; done) | (simp only [vx, reduceCtorEq, wi1, hsq, hnx, hsx, wtd, wk, wk9, hca, hcb]; rfl)) (⟨kg1, kg2, by dsimp only; omega⟩) ?_
     refine brP ((out.get k9).l = (x2.get (td + k9)).l) (by first | (simp only [vx, reduceCtorEq, wi1, hsq, hnx, hsx, wtd, wk, wk9, hca, hcb]; done) | (simp only [vx, reduceCtorEq, wi1, hsq, hnx, hsx, wtd, wk, wk9, hca, hcb]; grind)) (fun c5 => ?_) (fun c5 => ?_)
     ·refine again_wp rfl ⟨(k9 + 1), by simp only [vx, reduceCtorEq, wi1, hsq, hnx, hsx, wtd, wk, wk9, hca, hcb], ?_⟩ ?_
      ·exact (by omega : (0 : Int) ≤ k9 + 1)
      ·(try simp only [vx, reduceCtorEq, wi1, hsq, hnx, hsx, wtd, wk, wk9, hca, hcb]); omega
     ·exfalso; exact c5 hcm9
    ·refine pop_wp ?_
     refine need_wp (⟨_, _, _, rfl⟩) ?_
     refine need_wp (by exact kargs) ?_
     refine need_wp (⟨_, _, _, rfl⟩) ?_
     show F0 _
     refine (congrArg F0 ?_).mpr (hAg (x2.l.length : Int) ⟨al2, hl2, hk2, by rw [hl2, List.length_append]; omega⟩)
     first | (simp only [vx, reduceCtorEq, wi1, hsq, hnx, hsx, wtd]; done) | rfl
  ·exfalso; exact c2 hev.symm
 ·exfalso; exact c1 hev
set_option maxHeartbeats 4000000 in
theorem h4 : holds Try.prog (kLaw4 sg4) := by
 refine fn_holdsC (l := [kKnown sg10, kJoin sg16, kRef sg14, kSameS sg19]) ⟨h10, h16, h14, h19, trivial⟩ (inl := [in4_11, in4_27, in4_13, in4_28, in4_37, in4_32, in4_40, in4_33, in4_34, in4_35, in4_41, in4_36, in4_42, in4_43, in4_44, in4_45, in4_46, in4_47, in4_48, in4_17, in4_18]) (by refine ⟨⟨Try.func11, by kernel_rfl, by kernel_rfl, by kernel_rfl⟩, ⟨Try.func27, by kernel_rfl, by kernel_rfl, by kernel_rfl⟩, ⟨Try.func13, by kernel_rfl, by kernel_rfl, by kernel_rfl⟩, ⟨Try.func28, by kernel_rfl, by kernel_rfl, by kernel_rfl⟩, ⟨Try.func37, by kernel_rfl, by kernel_rfl, by kernel_rfl⟩, ⟨Try.func32, by kernel_rfl, by kernel_rfl, by kernel_rfl⟩, ⟨Try.func40, by kernel_rfl, by kernel_rfl, by kernel_rfl⟩, ⟨Try.func33, by kernel_rfl, by kernel_rfl, by kernel_rfl⟩, ⟨Try.func34, by kernel_rfl, by kernel_rfl, by kernel_rfl⟩, ⟨Try.func35, by kernel_rfl, by kernel_rfl, by kernel_rfl⟩, ⟨Try.func41, by kernel_rfl, by kernel_rfl, by kernel_rfl⟩, ⟨Try.func36, by kernel_rfl, by kernel_rfl, by kernel_rfl⟩, ⟨Try.func42, by kernel_rfl, by kernel_rfl, by kernel_rfl⟩, ⟨Try.func43, by kernel_rfl, by kernel_rfl, by kernel_rfl⟩, ⟨Try.func44, by kernel_rfl, by kernel_rfl, by kernel_rfl⟩, ⟨Try.func45, by kernel_rfl, by kernel_rfl, by kernel_rfl⟩, ⟨Try.func46, by kernel_rfl, by kernel_rfl, by kernel_rfl⟩, ⟨Try.func47, by kernel_rfl, by kernel_rfl, by kernel_rfl⟩, ⟨Try.func48, by kernel_rfl, by kernel_rfl, by kernel_rfl⟩, ⟨Try.func17, by kernel_rfl, by kernel_rfl, by kernel_rfl⟩, ⟨Try.func18, by kernel_rfl, by kernel_rfl, by kernel_rfl⟩, trivial⟩) hP [] clos 8 rs4 (inj_of (fun l : List Atom => (Rw.un unQ (l.getD 0 atom0) : Rw (Rw Int))) (fun _ => by simp [List.getD_cons_zero, List.getD_cons_succ, unA_atom, unL_atom, unQ_atom])) Try.func4 (by kernel_rfl) (c := code Try.f4) (by kernel_rfl) (an := an4) (by kernel_rfl) (pk := pk4) rfl (t := t4) ht4 ?_
 rintro q _ ⟨hq, hM, hM2⟩
 refine ⟨by simp [pk4, KindsOk, RK.ok, Rw.atom, Sl.atom], ?_⟩
 unfold t4 t4v1 t4v2 t4v3 t4v4 t4v5 t4v6 t4v7 t4v8 t4v9 t4v10 t4v11 t4v12 t4v13 t4v14
 have kq0 : q.ok 1 := hq.1
 refine loop_wp (fun bs0 => ∃ (i0 : Int) (s0 : Int), bs0 = [aI i0, aI s0] ∧ (0 ≤ i0 ∧ i0 ≤ (q.l.length : Int) ∧ s0 = ((catQ (q.l.take i0.toNat)).length : Int))) (fun bs0 => ((q.l.length : Int) - vi (bs0.getD 0 atom0).1).toNat) ?_ ?_
 ·refine ⟨0, 0, by first | (simp only [vx, reduceCtorEq]; done) | (simp only [vx, reduceCtorEq]; rfl) | simp only [vx, reduceCtorEq, Rw.atom, Rw.nil, List.length_nil, List.map_nil], ?_⟩
  exact ⟨by omega, by omega, rfl⟩
 rintro _ _ ⟨i0, s0, rfl, ⟨i00, i01, hs0⟩⟩
 have hcl9 := catQ_le q.l i0.toNat
 refine need_wp (⟨_, _, _, rfl⟩) ?_
 refine brP (i0 < (q.l.length : Int)) (by first | (simp only [vx, reduceCtorEq]; done) | (simp only [vx, reduceCtorEq]; grind)) (fun c1 => ?_) (fun c1 => ?_)
 ·have hc0 := cell_Q q (i := i0) i00 c1
  have hct0 := catQ_take i00 c1
  have hcl0 := catQ_le q.l (i0 + 1).toNat
  have hcn0 : (catQ (q.l.take (i0 + 1).toNat)).length = (catQ (q.l.take i0.toNat)).length + (q.get i0).l.length := by rw [hct0, List.length_append]
  have wi0 : IntKind.i64.wrap (i0 + 1) = i0 + 1 := wrap_id _ (by omega) (by omega)
  have wl0 : IntKind.i64.wrap (s0 + ((q.get i0).l.length : Int)) = s0 + ((q.get i0).l.length : Int) := wrap_id _ (by omega) (by omega)
  refine need_wp (⟨_, _, _, rfl⟩) ?_
  refine need_wp (rw_row _ _) ?_
  refine need_wp (by simp only [vx, reduceCtorEq, hc0, wi0, wl0, vlen]; first | omega | (grind)) ?_
  refine need_wp (⟨_, _, _, rfl⟩) ?_
  refine need_wp (rw_row _ _) ?_
  refine need_wp (by first | exact rw_sz' rfl | exact rw_szn (by assumption) (.inr (by omega)) | (simp only [vx, reduceCtorEq, hc0, wi0, wl0]; exact rw_szn (by assumption) (.inr (by omega))) | exact rw_szn (by simp [Rw.ok]) (.inr (by omega))) ?_
  refine need_wp (by simp only [vx, reduceCtorEq, hc0, wi0, wl0]; first | exact ⟨_, _, _, rfl⟩ | exact kind_Rq (by omega) (by omega)) ?_
  refine need_wp (by simp only [vx, reduceCtorEq, hc0, wi0, wl0]; first | exact ⟨_, _, _, rfl⟩ | exact kind_Rq (by omega) (by omega)) ?_
  refine again_wp rfl ⟨(i0 + 1), (s0 + ((q.get i0).l.length : Int)), by simp only [vx, reduceCtorEq, hc0, wi0, wl0], ?_⟩ ?_
  ·exact ⟨by omega, by omega, by rw [hcn0, hs0]; omega⟩
  ·(try simp only [vx, reduceCtorEq, hc0, wi0, wl0]); omega
 ·have hs9 : s0 = ((catQ q.l).length : Int) := by rw [hs0, List.take_of_length_le (by omega)]
  refine pop_wp ?_
  refine need_wp (⟨_, _, _, rfl⟩) ?_
  refine brP ((q.l.length : Int) > 30) (by first | (simp only [vx, reduceCtorEq]; done) | (simp only [vx, reduceCtorEq]; grind)) (fun c2 => ?_) (fun c2 => ?_)
  ·refine call_fun (()) rfl (by first | (simp only [vx, reduceCtorEq]; done) | (simp only [vx, reduceCtorEq]; rfl)) trivial ?_
   refine ret_wp ?_
   try dsimp only
   first | (simp only [vx, reduceCtorEq]; done) | (exfalso; omega)
  ·refine brP (s0 > 600) (by first | (simp only [vx, reduceCtorEq]; done) | (simp only [vx, reduceCtorEq]; grind)) (fun c3 => ?_) (fun c3 => ?_)
   ·refine call_fun (()) rfl (by first | (simp only [vx, reduceCtorEq]; done) | (simp only [vx, reduceCtorEq]; rfl)) trivial ?_
    refine ret_wp ?_
    try dsimp only
    first | (simp only [vx, reduceCtorEq]; done) | (exfalso; omega)
   ·refine clo_wp ?_
    intro y1 o1 q1
    refine need_wp (⟨_, _, _, rfl⟩) ?_
    refine need_wp (⟨_, _, _, rfl⟩) ?_
    refine loop_wp (fun bs0 => ∃ (i1 : Int) (td : Int) (nw : Atom) (wr : Bool) (lf : Int) (n1 : Int) (sm1 : Bool) (ag1 : Atom) (mn1 : Int) (ar1 : Rw Int), bs0 = [aI i1, aI td, nw, aB wr, aI lf, aI n1, aB sm1, ag1, aI mn1, Rw.atom eB ar1] ∧ (0 ≤ i1 ∧ ∃ all : Rw (Rw ByteArray), td = (all.l.length : Int) ∧ OI (bS (catQ q.l)) all (catQ (q.l.take i1.toNat)).length nw wr lf n1 sm1 ag1 mn1 ar1)) (fun bs0 => ((q.l.length : Int) - vi (bs0.getD 0 atom0).1).toNat) ?_ ?_
    ·refine ⟨0, 0, y1, false, 0, 0, false, (Rw.atom eS (Rw.nil : Rw ByteArray)), 0, (Rw.nil : Rw Int), by first | (simp only [vx, reduceCtorEq]; done) | (simp only [vx, reduceCtorEq]; rfl) | (simp only [vx, reduceCtorEq, Rw.atom, Rw.nil, List.length_nil, List.map_nil]; done) | (simp only [vx, reduceCtorEq, Rw.atom, Rw.nil, List.length_nil, List.map_nil]; rfl), ?_⟩
     exact ⟨by omega, Rw.nil, rfl, by rw [show (catQ (q.l.take (0 : Int).toNat)).length = 0 from rfl]; exact OI.start _ q1⟩
    rintro _ hko ⟨i1, td, nw, wr, lf, n1, sm1, ag1, mn1, ar1, rfl, ⟨j0, all, htd, hO⟩⟩
    have kag1 : ∃ a n c, ag1.1 = Value.slice a n c := hko.2.2.2.2.2.2.2.1
    have hOl := hO.len
    have kall : all.ok 1 := hO.ok.1
    have hcl := catQ_le q.l i1.toNat
    refine need_wp (⟨_, _, _, rfl⟩) ?_
    refine brP (i1 < (q.l.length : Int)) (by first | (simp only [vx, reduceCtorEq]; done) | (simp only [vx, reduceCtorEq]; grind)) (fun c4 => ?_) (fun c4 => ?_)
    ·have j1 := c4
     have kq : q.ok 1 := hq.1
     have wi1 : IntKind.i64.wrap (i1 + 1) = i1 + 1 := wrap_id _ (by omega) (by omega)
     have hcl1 := catQ_le q.l (i1 + 1).toNat
     have hsq := sub_rw (e := eQ) (r := q) (z := 1) (i := 0) (j := i1 + 1) kq (by omega) (by omega) (by omega)
     have hsl := sub0_l q 1 (i1 + 1)
     have hoq : okQ (q.sub 1 0 (i1 + 1)) := okQ_sub hq _
     have hct4 := catQ_take j0 j1
     have hcn : (catQ (q.l.take (i1 + 1).toNat)).length = (catQ (q.l.take i1.toNat)).length + (q.get i1).l.length := by rw [hct4, List.length_append]
     have hgq := hq.2 _ (get_memL j0 c4)
     refine need_wp (⟨_, _, _, rfl⟩) ?_
     refine need_wp (rw_row _ _) ?_
     refine need_wp (by simp only [vx, reduceCtorEq, wi1, hsq, vlen]; first | omega | (grind)) ?_
     refine need_wp (⟨_, _, _, rfl⟩) ?_
     refine need_wp (rw_row _ _) ?_
     refine need_wp (by first | exact rw_sz' rfl | exact rw_szn (by assumption) (.inr (by omega)) | (simp only [vx, reduceCtorEq, wi1, hsq]; exact rw_szn (by assumption) (.inr (by omega))) | exact rw_szn (by simp [Rw.ok]) (.inr (by omega))) ?_
     refine need_wp (by simp only [vx, reduceCtorEq, wi1, hsq]; first | exact ⟨_, _, _, rfl⟩ | exact kind_Rq (by omega) (by omega)) ?_
     refine brP (wr = true) (by first | (simp only [vx, reduceCtorEq, wi1, hsq]; done) | (simp only [vx, reduceCtorEq, wi1, hsq]; grind)) (fun c5 => ?_) (fun c5 => ?_)
     ·refine need_wp (⟨_, _, _, rfl⟩) ?_
      refine need_wp (by first | exact rw_szz (by assumption) | exact rw_szz (.inr rfl)) ?_
      refine need_wp (by simp only [vx, reduceCtorEq, wi1, hsq, vlen]; first | omega | (grind)) ?_
      refine need_wp (by simp only [vx, reduceCtorEq, wi1, hsq, vlen]; first | omega | (grind)) ?_
      refine call_rel ((q.sub 1 0 (i1 + 1))) rfl (by first | (simp only [vx, reduceCtorEq, wi1, hsq]; done) | (simp only [vx, reduceCtorEq, wi1, hsq]; rfl)) (⟨hoq, by rw [hsl, List.length_take]; omega, by rw [hsl]; omega⟩) ?_
      rintro z1 ⟨ez1, oz1⟩
      try dsimp only at ez1 oz1
      refine call_rel (z1) rfl (by first | (simp only [vx, reduceCtorEq, wi1, hsq]; done) | (simp only [vx, reduceCtorEq, wi1, hsq]; rfl)) (⟨oz1, by rw [ez1, hsl]; exact catQ_B hq _, by have hzn : (z1.l.length : Int) = ((catQ (q.l.take (i1 + 1).toNat)).length : Int) := (by rw [ez1, hsl]); omega⟩) ?_
      rintro ⟨x2, n2, e2⟩ w2
      try dsimp only at w2
      have hzl : bS z1.l = (bS (catQ q.l)).take (catQ (q.l.take (i1 + 1).toNat)).length := by rw [ez1, hsl]; exact catQ_pre _ _
      have hzn : (z1.l.length : Int) = ((catQ (q.l.take (i1 + 1).toNat)).length : Int) := by rw [ez1, hsl]
      obtain ⟨out, hon⟩ : ∃ o : Rw (Rw ByteArray), o = Rw.nil := ⟨_, rfl⟩
      have hol : out.l.length = 0 := by rw [hon]; rfl
      obtain ⟨al2, hl2, hk2⟩ : ∃ a : Rw (Rw ByteArray), a.l = all.l ++ out.l ∧ a.ok 1 := ⟨⟨none, 0, 1, all.l ++ out.l⟩, rfl, .inr rfl⟩
      have hF2 := hO.skip (by assumption) (k' := (catQ (q.l.take (i1 + 1).toNat)).length) (by omega) (by rw [bS_len]; exact hcl1) (all' := al2) (by rw [hl2, hon]; rfl) hk2
      obtain ⟨hv, hev, hlf, hl0, hxl, hxr, kx2⟩ := fin4 hzl (by rw [ez1, hsl]; exact catQ_B hq _) (by omega) w2 hF2
      obtain ⟨hln, hcm⟩ := cmp4 hl2 hv
      have kxx : x2.ok 1 := kx2.1
      have wtd : IntKind.i64.wrap ((x2.l.length : Int) - td) = (x2.l.length : Int) - td := wrap_id _ (by omega) (by omega)
      refine brP (e2 = true) (by first | (simp only [vx, reduceCtorEq, wi1, hsq, wtd]; done) | (simp only [vx, reduceCtorEq, wi1, hsq, wtd]; grind)) (fun c6 => ?_) (fun c6 => ?_)
      ·refine brP (wr = e2) (by first | (simp only [vx, reduceCtorEq, wi1, hsq, wtd]; done) | (simp only [vx, reduceCtorEq, wi1, hsq, wtd]; grind)) (fun c7 => ?_) (fun c7 => ?_)
       ·refine need_wp (⟨_, _, _, rfl⟩) ?_
        refine need_wp (⟨_, _, _, rfl⟩) ?_
        refine brP (0 ≠ ((x2.l.length : Int) - td)) (by first | (simp only [vx, reduceCtorEq, wi1, hsq, wtd]; done) | (simp only [vx, reduceCtorEq, wi1, hsq, wtd]; grind)) (fun c8 => ?_) (fun c8 => ?_)
        ·exfalso; omega
        ·refine brP (lf ≠ 0) (by first | (simp only [vx, reduceCtorEq, wi1, hsq, wtd]; done) | (simp only [vx, reduceCtorEq, wi1, hsq, wtd]; grind)) (fun c9 => ?_) (fun c9 => ?_)
         ·exfalso; exact c9 (hO.z c5)
         ·refine loop_wp (fun bs0 => ∃ (k9 : Int), bs0 = [aI k9] ∧ (0 ≤ k9)) (fun bs0 => ((out.l.length : Int) - vi (bs0.getD 0 atom0).1).toNat) ?_ ?_
          ·refine ⟨0, by first | (simp only [vx, reduceCtorEq, wi1, hsq, wtd]; done) | (simp only [vx, reduceCtorEq, wi1, hsq, wtd]; rfl) | simp only [vx, reduceCtorEq, wi1, hsq, wtd, Rw.atom, Rw.nil, List.length_nil, List.map_nil], ?_⟩
           exact (by omega : (0 : Int) ≤ 0)
          rintro _ _ ⟨k9, rfl, k90⟩
          refine need_wp (⟨_, _, _, rfl⟩) ?_
          refine brP (k9 < 0) (by first | (simp only [vx, reduceCtorEq, wi1, hsq, wtd]; done) | (simp only [vx, reduceCtorEq, wi1, hsq, wtd]; grind)) (fun c10 => ?_) (fun c10 => ?_)
          ·exfalso; omega
          ·refine pop_wp ?_
           refine need_wp (⟨_, _, _, rfl⟩) ?_
           refine need_wp (by exact kag1) ?_
           refine need_wp (⟨_, _, _, rfl⟩) ?_
           refine again_wp rfl ⟨(i1 + 1), (x2.l.length : Int), nw, wr, lf, n1, sm1, ag1, mn1, ar1, by first | (simp only [vx, reduceCtorEq, wi1, hsq, wtd]; done) | rfl, ?_⟩ ?_
           ·exact ⟨by omega, al2, by rw [hl2, List.length_append]; omega, hF2⟩
           ·(try simp only [vx, reduceCtorEq, wi1, hsq, wtd]); omega
       ·exfalso; exact c7 hev.symm
      ·exfalso; exact c6 (hev.trans c5)
     ·refine clo_wp ?_
      intro y2 o2 q2
      refine need_wp (by simp only [vx, reduceCtorEq, wi1, hsq]; first | exact ⟨_, _, _, rfl⟩ | exact kind_Rq (by omega) (by omega)) ?_
      refine need_wp (by exact kag1) ?_
      refine need_wp (⟨_, _, _, rfl⟩) ?_
      refine need_wp (⟨_, _, _, rfl⟩) ?_
      obtain ⟨m0, hR0⟩ := hO.m (by assumption)
      obtain ⟨k0, hk0⟩ : ∃ k0, k0 = (catQ (q.l.take i1.toNat)).length := ⟨_, rfl⟩
      obtain ⟨AV, hAV⟩ : ∃ AV, AV = (vv all).map (List.map ls) := ⟨_, rfl⟩
      rw [← hk0, ← hAV] at hR0
      have hgc := cell_Q q (i := i1) j0 j1
      obtain ⟨p, hp⟩ : ∃ p, p = q.get i1 := ⟨_, rfl⟩
      have hpB := catQ_at j0 j1 hp
      rw [← hk0] at hpB
      rw [← hp] at hgq hcn
      have kp : p.ok 1 := hgq.1
      have hB : isB p.l := hgq.2
      rw [← hp] at hgc
      refine loop_wp (fun bs0 => ∃ (i : Int) (now : Atom) (left : Int) (n : Int) (sm : Bool) (args : Atom) (many : Int) (arg : Rw Int) (out : Rw (Rw ByteArray)), bs0 = [aI i, now, aI left, aI n, aB sm, args, aI many, Rw.atom eB arg, Rw.atom eL out] ∧ (0 ≤ i ∧ i ≤ (p.l.length : Int) ∧ ∃ m : Mc, RG AV (bS (catQ q.l)) (k0 + i.toNat) now left n sm args many arg out m)) (fun bs0 => ((p.l.length : Int) - vi (bs0.getD 0 atom0).1).toNat) ?_ ?_
      ·refine ⟨0, nw, lf, n1, sm1, ag1, mn1, ar1, (Rw.nil : Rw (Rw ByteArray)), by first | (simp only [vx, reduceCtorEq, wi1, hsq, hgc]; done) | (simp only [vx, reduceCtorEq, wi1, hsq, hgc]; rfl) | (simp only [vx, reduceCtorEq, wi1, hsq, hgc, Rw.atom, Rw.nil, List.length_nil, List.map_nil]; done) | (simp only [vx, reduceCtorEq, wi1, hsq, hgc, Rw.atom, Rw.nil, List.length_nil, List.map_nil]; rfl), ?_⟩
       exact ⟨by omega, by omega, m0, by rw [Int.toNat_zero, Nat.add_zero]; exact hR0⟩
      rintro _ hko ⟨i, now, left, n, sm, args, many, arg, out, rfl, ⟨i0, ip, m, hR⟩⟩
      have kargs : ∃ a n c, args.1 = Value.slice a n c := hko.2.2.2.2.2.1
      have hkl := hR.kl
      rw [bS_len] at hkl
      have hct := hR.count
      have kout : out.ok 1 := hR.out.2.1
      refine brP (i < (p.l.length : Int)) (by first | (simp only [vx, reduceCtorEq, wi1, hsq, hgc]; done) | (simp only [vx, reduceCtorEq, wi1, hsq, hgc]; grind)) (fun c12 => ?_) (fun c12 => ?_)
      ·obtain ⟨hz0, hz1⟩ := hB (p.get i) (get_memL i0 c12)
       have hz := hpB i i0 c12
       have hl1 := hR.left
       have hl2 := hR.lft
       have hps := hR.pos
       have hn1 := hR.n
       have wi : IntKind.i64.wrap (i + 1) = i + 1 := wrap_id _ (by omega) (by omega)
       have wl : IntKind.i64.wrap (left + 1) = left + 1 := wrap_id _ (by omega) (by omega)
       have ht : k0 + (i + 1).toNat = k0 + i.toNat + 1 := by omega
       refine need_wp (by simp only [vx, reduceCtorEq, wi1, hsq, hgc, wi, wl]; first | exact ⟨_, _, _, rfl⟩ | exact kind_Rq (by omega) (by omega)) ?_
       refine need_wp (by first | exact rw_row _ _ | (simp only [vx, reduceCtorEq, wi1, hsq, hgc, wi, wl]; exact ⟨_, _, rfl⟩)) ?_
       refine need_wp (by simp only [vx, reduceCtorEq, wi1, hsq, hgc, wi, wl, vlen]; first | omega | (grind)) ?_
       refine need_wp (by simp only [vx, reduceCtorEq, wi1, hsq, hgc, wi, wl]; first | exact ⟨_, _, _, rfl⟩ | exact kind_Rq (by omega) (by omega)) ?_
       refine need_wp (by first | exact rw_row _ _ | (simp only [vx, reduceCtorEq, wi1, hsq, hgc, wi, wl]; exact ⟨_, _, rfl⟩)) ?_
       refine need_wp (by first | exact rw_sz' rfl | exact rw_szn (by assumption) (.inr (by omega)) | (simp only [vx, reduceCtorEq, wi1, hsq, hgc, wi, wl]; exact rw_szn (by assumption) (.inr (by omega))) | exact rw_szn (by simp [Rw.ok]) (.inr (by omega))) ?_
       refine need_wp (by simp only [vx, reduceCtorEq, wi1, hsq, hgc, wi, wl]; exact kind_Rb (by omega) (by omega)) ?_
       refine brP (cloB (.some 40) [(.int .u8 42), (.fn 33)] now = true) (by first | (simp only [vx, reduceCtorEq, wi1, hsq, hgc, wi, wl]; done) | (simp only [vx, reduceCtorEq, wi1, hsq, hgc, wi, wl]; grind)) (fun c13 => ?_) (fun c13 => ?_)
       ·have hσ : m.σ = .star := now_of (τ := .star) hR.now c13
        refine brP ((p.get i) ≠ 42) (by first | (simp only [vx, reduceCtorEq, wi1, hsq, hgc, wi, wl]; done) | (simp only [vx, reduceCtorEq, wi1, hsq, hgc, wi, wl]; grind)) (fun c14 => ?_) (fun c14 => ?_)
        ·have hw : stepZ m (p.get i) = none := by rw [sz_star hz0 hz1 hσ, if_neg (by omega)]
         subst hAV
         have hct := hR.count
         simp only [List.length_map, vv] at hct
         have hbad := fun (all2 : Rw (Rw ByteArray)) (l2 : all2.l = all.l ++ out.l) (k2 : all2.ok 1) {now' args' : Atom} {left' n' many' : Int} {sm' wr' : Bool} {arg' : Rw Int} => hR.bad hz hw hO.ok (k' := (catQ (q.l.take (i1 + 1).toNat)).length) (by omega) (by rw [bS_len]; exact hcl1) l2 k2 (now' := now') (args' := args') (left' := left') (n' := n') (many' := many') (sm' := sm') (wr := wr') (arg' := arg')
         exact t4_1_wp (n := n) (sm := sm) hq (by omega) (by omega) j0 j1 htd kargs hR.out.2 (by omega) (by omega) (fun all2 l2 k2 => hbad all2 l2 k2 rfl rfl) _ _ (fun t2 ⟨all2, l2, k2, e2⟩ => ⟨⟨_, _, _, _, _, _, _, _, _, _, rfl, by omega, all2, e2, hbad all2 l2 k2 rfl rfl⟩, by show ((q.l.length : Int) - (i1 + 1)).toNat < ((q.l.length : Int) - i1).toNat; omega⟩) _ _ _ _ _ _ _ _ _ _ _ _ _ _ _ _ _ (fun _ => by first | rfl | (simp only [vx, reduceCtorEq, wi1, hsq, hgc, wi, wl]; done)) (fun _ => by first | rfl | (simp only [vx, reduceCtorEq, wi1, hsq, hgc, wi, wl]; done))
        ·refine clo_wp ?_
         intro y3 o3 q3
         refine need_wp (⟨_, _, _, rfl⟩) ?_
         refine need_wp (by exact kargs) ?_
         refine need_wp (⟨_, _, _, rfl⟩) ?_
         refine need_wp (⟨_, _, _, rfl⟩) ?_
         refine again_wp rfl ⟨(i + 1), y3, (left + 1), 0, false, args, many, arg, out, by first | (simp only [vx, reduceCtorEq, wi1, hsq, hgc, wi, wl]; done) | rfl, ?_⟩ ?_
         ·have hs := (sz_star hz0 hz1 hσ).trans (if_pos (by omega)); exact ⟨by omega, by omega, _, hR.next' hz hz0 hz1 ht hs (q3) (by first | omega | (simp only; omega)) rfl rfl hR.many (fun h => by simp [hasA] at h) hR.arg hR.out⟩
         ·(try simp only [vx, reduceCtorEq, wi1, hsq, hgc, wi, wl]); omega
       ·refine brP (cloB (.some 41) [(.int .i64 1), (.fn 36), (.int .i64 50), .self] now = true) (by first | (simp only [vx, reduceCtorEq, wi1, hsq, hgc, wi, wl]; done) | (simp only [vx, reduceCtorEq, wi1, hsq, hgc, wi, wl]; grind)) (fun c15 => ?_) (fun c15 => ?_)
        ·have hσ : m.σ = (.num .cnt) := now_of (τ := (.num .cnt)) hR.now c15
         refine brP ((p.get i) = 13) (by first | (simp only [vx, reduceCtorEq, wi1, hsq, hgc, wi, wl]; done) | (simp only [vx, reduceCtorEq, wi1, hsq, hgc, wi, wl]; grind)) (fun c16 => ?_) (fun c16 => ?_)
         ·refine brP (sm = true) (by first | (simp only [vx, reduceCtorEq, wi1, hsq, hgc, wi, wl]; done) | (simp only [vx, reduceCtorEq, wi1, hsq, hgc, wi, wl]; grind)) (fun c17 => ?_) (fun c17 => ?_)
          ·refine brP (n ≥ 1) (by first | (simp only [vx, reduceCtorEq, wi1, hsq, hgc, wi, wl]; done) | (simp only [vx, reduceCtorEq, wi1, hsq, hgc, wi, wl]; grind)) (fun c18 => ?_) (fun c18 => ?_)
           ·refine clo_wp ?_
            intro y4 o4 q4
            refine need_wp (⟨_, _, _, rfl⟩) ?_
            refine need_wp (by exact kargs) ?_
            refine need_wp (⟨_, _, _, rfl⟩) ?_
            refine need_wp (⟨_, _, _, rfl⟩) ?_
            refine again_wp rfl ⟨(i + 1), y4, (left + 1), n, sm, args, many, arg, out, by first | (simp only [vx, reduceCtorEq, wi1, hsq, hgc, wi, wl]; done) | rfl, ?_⟩ ?_
            ·have hs := num_cr hz0 hz1 hσ hR.n hR.sm ⟨by omega, by assumption, by simp only [Ks.least]; omega⟩; exact ⟨by omega, by omega, _, hR.next' hz hz0 hz1 ht hs (q4) (by first | omega | (simp only; omega)) hR.n hR.sm hR.many (fun h => by simp [hasA] at h) hR.arg hR.out⟩
            ·(try simp only [vx, reduceCtorEq, wi1, hsq, hgc, wi, wl]); omega
           ·refine brP ((p.get i) < 48) (by first | (simp only [vx, reduceCtorEq, wi1, hsq, hgc, wi, wl]; done) | (simp only [vx, reduceCtorEq, wi1, hsq, hgc, wi, wl]; grind)) (fun c19 => ?_) (fun c19 => ?_)
            ·have hw : stepZ m (p.get i) = none := by
              refine num_none hz0 hz1 hσ hR.n hR.sm ?_ ?_
              ·rintro ⟨h1, h2, h3⟩; simp only [Ks.least] at h3; first | omega | exact absurd h2 (by assumption)
              ·simp only [Ks.least, Ks.most]; first | exact .inl (by omega) | exact .inr (.inl (by omega)) | exact .inr (.inr (.inl ⟨by assumption, by omega⟩)) | exact .inr (.inr (.inr (.inl (by omega)))) | exact .inr (.inr (.inr (.inr ⟨by omega, by omega⟩)))
             subst hAV
             have hct := hR.count
             simp only [List.length_map, vv] at hct
             have hbad := fun (all2 : Rw (Rw ByteArray)) (l2 : all2.l = all.l ++ out.l) (k2 : all2.ok 1) {now' args' : Atom} {left' n' many' : Int} {sm' wr' : Bool} {arg' : Rw Int} => hR.bad hz hw hO.ok (k' := (catQ (q.l.take (i1 + 1).toNat)).length) (by omega) (by rw [bS_len]; exact hcl1) l2 k2 (now' := now') (args' := args') (left' := left') (n' := n') (many' := many') (sm' := sm') (wr := wr') (arg' := arg')
             exact t4_1_wp (n := n) (sm := sm) hq (by omega) (by omega) j0 j1 htd kargs hR.out.2 (by omega) (by omega) (fun all2 l2 k2 => hbad all2 l2 k2 rfl rfl) _ _ (fun t2 ⟨all2, l2, k2, e2⟩ => ⟨⟨_, _, _, _, _, _, _, _, _, _, rfl, by omega, all2, e2, hbad all2 l2 k2 rfl rfl⟩, by show ((q.l.length : Int) - (i1 + 1)).toNat < ((q.l.length : Int) - i1).toNat; omega⟩) _ _ _ _ _ _ _ _ _ _ _ _ _ _ _ _ _ (fun _ => by first | rfl | (simp only [vx, reduceCtorEq, wi1, hsq, hgc, wi, wl]; done)) (fun _ => by first | rfl | (simp only [vx, reduceCtorEq, wi1, hsq, hgc, wi, wl]; done))
            ·refine brP ((p.get i) > 57) (by first | (simp only [vx, reduceCtorEq, wi1, hsq, hgc, wi, wl]; done) | (simp only [vx, reduceCtorEq, wi1, hsq, hgc, wi, wl]; grind)) (fun c20 => ?_) (fun c20 => ?_)
             ·have hw : stepZ m (p.get i) = none := by
               refine num_none hz0 hz1 hσ hR.n hR.sm ?_ ?_
               ·rintro ⟨h1, h2, h3⟩; simp only [Ks.least] at h3; first | omega | exact absurd h2 (by assumption)
               ·simp only [Ks.least, Ks.most]; first | exact .inl (by omega) | exact .inr (.inl (by omega)) | exact .inr (.inr (.inl ⟨by assumption, by omega⟩)) | exact .inr (.inr (.inr (.inl (by omega)))) | exact .inr (.inr (.inr (.inr ⟨by omega, by omega⟩)))
              subst hAV
              have hct := hR.count
              simp only [List.length_map, vv] at hct
              have hbad := fun (all2 : Rw (Rw ByteArray)) (l2 : all2.l = all.l ++ out.l) (k2 : all2.ok 1) {now' args' : Atom} {left' n' many' : Int} {sm' wr' : Bool} {arg' : Rw Int} => hR.bad hz hw hO.ok (k' := (catQ (q.l.take (i1 + 1).toNat)).length) (by omega) (by rw [bS_len]; exact hcl1) l2 k2 (now' := now') (args' := args') (left' := left') (n' := n') (many' := many') (sm' := sm') (wr := wr') (arg' := arg')
              exact t4_1_wp (n := n) (sm := sm) hq (by omega) (by omega) j0 j1 htd kargs hR.out.2 (by omega) (by omega) (fun all2 l2 k2 => hbad all2 l2 k2 rfl rfl) _ _ (fun t2 ⟨all2, l2, k2, e2⟩ => ⟨⟨_, _, _, _, _, _, _, _, _, _, rfl, by omega, all2, e2, hbad all2 l2 k2 rfl rfl⟩, by show ((q.l.length : Int) - (i1 + 1)).toNat < ((q.l.length : Int) - i1).toNat; omega⟩) _ _ _ _ _ _ _ _ _ _ _ _ _ _ _ _ _ (fun _ => by first | rfl | (simp only [vx, reduceCtorEq, wi1, hsq, hgc, wi, wl]; done)) (fun _ => by first | rfl | (simp only [vx, reduceCtorEq, wi1, hsq, hgc, wi, wl]; done))
             ·have wu : IntKind.u8.wrap ((p.get i) - 48) = (p.get i) - 48 := by rw [IntKind.wrap_u8]; omega
              have ww : IntKind.i64.wrap ((p.get i) - 48) = (p.get i) - 48 := wrap_id _ (by omega) (by omega)
              have wm : IntKind.i64.wrap (10 * n) = 10 * n := wrap_id _ (by omega) (by omega)
              have wa : IntKind.i64.wrap (10 * n + ((p.get i) - 48)) = 10 * n + ((p.get i) - 48) := wrap_id _ (by omega) (by omega)
              refine brP (n = 0) (by first | (simp only [vx, reduceCtorEq, wi1, hsq, hgc, wi, wl, wu, ww, wm, wa]; done) | (simp only [vx, reduceCtorEq, wi1, hsq, hgc, wi, wl, wu, ww, wm, wa]; grind)) (fun c21 => ?_) (fun c21 => ?_)
              ·have hw : stepZ m (p.get i) = none := by
                refine num_none hz0 hz1 hσ hR.n hR.sm ?_ ?_
                ·rintro ⟨h1, h2, h3⟩; simp only [Ks.least] at h3; first | omega | exact absurd h2 (by assumption)
                ·simp only [Ks.least, Ks.most]; first | exact .inl (by omega) | exact .inr (.inl (by omega)) | exact .inr (.inr (.inl ⟨by assumption, by omega⟩)) | exact .inr (.inr (.inr (.inl (by omega)))) | exact .inr (.inr (.inr (.inr ⟨by omega, by omega⟩)))
               subst hAV
               have hct := hR.count
               simp only [List.length_map, vv] at hct
               have hbad := fun (all2 : Rw (Rw ByteArray)) (l2 : all2.l = all.l ++ out.l) (k2 : all2.ok 1) {now' args' : Atom} {left' n' many' : Int} {sm' wr' : Bool} {arg' : Rw Int} => hR.bad hz hw hO.ok (k' := (catQ (q.l.take (i1 + 1).toNat)).length) (by omega) (by rw [bS_len]; exact hcl1) l2 k2 (now' := now') (args' := args') (left' := left') (n' := n') (many' := many') (sm' := sm') (wr := wr') (arg' := arg')
               exact t4_1_wp (n := n) (sm := sm) hq (by omega) (by omega) j0 j1 htd kargs hR.out.2 (by omega) (by omega) (fun all2 l2 k2 => hbad all2 l2 k2 rfl rfl) _ _ (fun t2 ⟨all2, l2, k2, e2⟩ => ⟨⟨_, _, _, _, _, _, _, _, _, _, rfl, by omega, all2, e2, hbad all2 l2 k2 rfl rfl⟩, by show ((q.l.length : Int) - (i1 + 1)).toNat < ((q.l.length : Int) - i1).toNat; omega⟩) _ _ _ _ _ _ _ _ _ _ _ _ _ _ _ _ _ (fun _ => by first | rfl | (simp only [vx, reduceCtorEq, wi1, hsq, hgc, wi, wl, wu, ww, wm, wa]; done)) (fun _ => by first | rfl | (simp only [vx, reduceCtorEq, wi1, hsq, hgc, wi, wl, wu, ww, wm, wa]; done))
              ·refine brP ((10 * n + ((p.get i) - 48)) > 50) (by first | (simp only [vx, reduceCtorEq, wi1, hsq, hgc, wi, wl, wu, ww, wm, wa]; done) | (simp only [vx, reduceCtorEq, wi1, hsq, hgc, wi, wl, wu, ww, wm, wa]; grind)) (fun c22 => ?_) (fun c22 => ?_)
               ·have hw : stepZ m (p.get i) = none := by
                 refine num_none hz0 hz1 hσ hR.n hR.sm ?_ ?_
                 ·rintro ⟨h1, h2, h3⟩; simp only [Ks.least] at h3; first | omega | exact absurd h2 (by assumption)
                 ·simp only [Ks.least, Ks.most]; first | exact .inl (by omega) | exact .inr (.inl (by omega)) | exact .inr (.inr (.inl ⟨by assumption, by omega⟩)) | exact .inr (.inr (.inr (.inl (by omega)))) | exact .inr (.inr (.inr (.inr ⟨by omega, by omega⟩)))
                subst hAV
                have hct := hR.count
                simp only [List.length_map, vv] at hct
                have hbad := fun (all2 : Rw (Rw ByteArray)) (l2 : all2.l = all.l ++ out.l) (k2 : all2.ok 1) {now' args' : Atom} {left' n' many' : Int} {sm' wr' : Bool} {arg' : Rw Int} => hR.bad hz hw hO.ok (k' := (catQ (q.l.take (i1 + 1).toNat)).length) (by omega) (by rw [bS_len]; exact hcl1) l2 k2 (now' := now') (args' := args') (left' := left') (n' := n') (many' := many') (sm' := sm') (wr := wr') (arg' := arg')
                exact t4_1_wp (n := (10 * n + ((p.get i) - 48))) (sm := true) hq (by omega) (by omega) j0 j1 htd kargs hR.out.2 (by omega) (by omega) (fun all2 l2 k2 => hbad all2 l2 k2 rfl rfl) _ _ (fun t2 ⟨all2, l2, k2, e2⟩ => ⟨⟨_, _, _, _, _, _, _, _, _, _, rfl, by omega, all2, e2, hbad all2 l2 k2 rfl rfl⟩, by show ((q.l.length : Int) - (i1 + 1)).toNat < ((q.l.length : Int) - i1).toNat; omega⟩) _ _ _ _ _ _ _ _ _ _ _ _ _ _ _ _ _ (fun _ => by first | rfl | (simp only [vx, reduceCtorEq, wi1, hsq, hgc, wi, wl, wu, ww, wm, wa]; done)) (fun _ => by first | rfl | (simp only [vx, reduceCtorEq, wi1, hsq, hgc, wi, wl, wu, ww, wm, wa]; done))
               ·refine brP ((10 * n + ((p.get i) - 48)) = 0) (by first | (simp only [vx, reduceCtorEq, wi1, hsq, hgc, wi, wl, wu, ww, wm, wa]; done) | (simp only [vx, reduceCtorEq, wi1, hsq, hgc, wi, wl, wu, ww, wm, wa]; grind)) (fun c23 => ?_) (fun c23 => ?_)
                ·have hw : stepZ m (p.get i) = none := by
                  refine num_none hz0 hz1 hσ hR.n hR.sm ?_ ?_
                  ·rintro ⟨h1, h2, h3⟩; simp only [Ks.least] at h3; first | omega | exact absurd h2 (by assumption)
                  ·simp only [Ks.least, Ks.most]; first | exact .inl (by omega) | exact .inr (.inl (by omega)) | exact .inr (.inr (.inl ⟨by assumption, by omega⟩)) | exact .inr (.inr (.inr (.inl (by omega)))) | exact .inr (.inr (.inr (.inr ⟨by omega, by omega⟩)))
                 subst hAV
                 have hct := hR.count
                 simp only [List.length_map, vv] at hct
                 have hbad := fun (all2 : Rw (Rw ByteArray)) (l2 : all2.l = all.l ++ out.l) (k2 : all2.ok 1) {now' args' : Atom} {left' n' many' : Int} {sm' wr' : Bool} {arg' : Rw Int} => hR.bad hz hw hO.ok (k' := (catQ (q.l.take (i1 + 1).toNat)).length) (by omega) (by rw [bS_len]; exact hcl1) l2 k2 (now' := now') (args' := args') (left' := left') (n' := n') (many' := many') (sm' := sm') (wr := wr') (arg' := arg')
                 exact t4_1_wp (n := (10 * n + ((p.get i) - 48))) (sm := true) hq (by omega) (by omega) j0 j1 htd kargs hR.out.2 (by omega) (by omega) (fun all2 l2 k2 => hbad all2 l2 k2 rfl rfl) _ _ (fun t2 ⟨all2, l2, k2, e2⟩ => ⟨⟨_, _, _, _, _, _, _, _, _, _, rfl, by omega, all2, e2, hbad all2 l2 k2 rfl rfl⟩, by show ((q.l.length : Int) - (i1 + 1)).toNat < ((q.l.length : Int) - i1).toNat; omega⟩) _ _ _ _ _ _ _ _ _ _ _ _ _ _ _ _ _ (fun _ => by first | rfl | (simp only [vx, reduceCtorEq, wi1, hsq, hgc, wi, wl, wu, ww, wm, wa]; done)) (fun _ => by first | rfl | (simp only [vx, reduceCtorEq, wi1, hsq, hgc, wi, wl, wu, ww, wm, wa]; done))
                ·refine need_wp (⟨_, _, _, rfl⟩) ?_
                 refine need_wp (by exact kargs) ?_
                 refine need_wp (⟨_, _, _, rfl⟩) ?_
                 refine need_wp (⟨_, _, _, rfl⟩) ?_
                 refine again_wp rfl ⟨(i + 1), now, (left + 1), (10 * n + ((p.get i) - 48)), true, args, many, arg, out, by first | (simp only [vx, reduceCtorEq, wi1, hsq, hgc, wi, wl, wu, ww, wm, wa]; done) | rfl, ?_⟩ ?_
                 ·have hs := num_dig hz0 hz1 hσ hR.n hR.sm (by rintro ⟨h1, h2, h3⟩; simp only [Ks.least] at h3; first | omega | exact absurd h2 (by assumption)) (by omega) (by omega) (by rintro ⟨h1, h2⟩; first | omega | exact absurd h1 (by assumption)) (by simp only [Ks.most]; omega) (by rintro ⟨h1, h2⟩; simp only [Ks.least] at h2; omega); exact ⟨by omega, by omega, _, hR.next' hz hz0 hz1 ht hs (by have := hR.now; rw [hσ] at this; simpa only [hσ] using this) (by first | omega | (simp only; omega)) rfl rfl hR.many (fun h => hR.args h) hR.arg hR.out⟩
                 ·(try simp only [vx, reduceCtorEq, wi1, hsq, hgc, wi, wl, wu, ww, wm, wa]); omega
          ·refine brP ((p.get i) < 48) (by first | (simp only [vx, reduceCtorEq, wi1, hsq, hgc, wi, wl]; done) | (simp only [vx, reduceCtorEq, wi1, hsq, hgc, wi, wl]; grind)) (fun c24 => ?_) (fun c24 => ?_)
           ·have hw : stepZ m (p.get i) = none := by
             refine num_none hz0 hz1 hσ hR.n hR.sm ?_ ?_
             ·rintro ⟨h1, h2, h3⟩; simp only [Ks.least] at h3; first | omega | exact absurd h2 (by assumption)
             ·simp only [Ks.least, Ks.most]; first | exact .inl (by omega) | exact .inr (.inl (by omega)) | exact .inr (.inr (.inl ⟨by assumption, by omega⟩)) | exact .inr (.inr (.inr (.inl (by omega)))) | exact .inr (.inr (.inr (.inr ⟨by omega, by omega⟩)))
            subst hAV
            have hct := hR.count
            simp only [List.length_map, vv] at hct
            have hbad := fun (all2 : Rw (Rw ByteArray)) (l2 : all2.l = all.l ++ out.l) (k2 : all2.ok 1) {now' args' : Atom} {left' n' many' : Int} {sm' wr' : Bool} {arg' : Rw Int} => hR.bad hz hw hO.ok (k' := (catQ (q.l.take (i1 + 1).toNat)).length) (by omega) (by rw [bS_len]; exact hcl1) l2 k2 (now' := now') (args' := args') (left' := left') (n' := n') (many' := many') (sm' := sm') (wr := wr') (arg' := arg')
            exact t4_1_wp (n := n) (sm := sm) hq (by omega) (by omega) j0 j1 htd kargs hR.out.2 (by omega) (by omega) (fun all2 l2 k2 => hbad all2 l2 k2 rfl rfl) _ _ (fun t2 ⟨all2, l2, k2, e2⟩ => ⟨⟨_, _, _, _, _, _, _, _, _, _, rfl, by omega, all2, e2, hbad all2 l2 k2 rfl rfl⟩, by show ((q.l.length : Int) - (i1 + 1)).toNat < ((q.l.length : Int) - i1).toNat; omega⟩) _ _ _ _ _ _ _ _ _ _ _ _ _ _ _ _ _ (fun _ => by first | rfl | (simp only [vx, reduceCtorEq, wi1, hsq, hgc, wi, wl]; done)) (fun _ => by first | rfl | (simp only [vx, reduceCtorEq, wi1, hsq, hgc, wi, wl]; done))
           ·refine brP ((p.get i) > 57) (by first | (simp only [vx, reduceCtorEq, wi1, hsq, hgc, wi, wl]; done) | (simp only [vx, reduceCtorEq, wi1, hsq, hgc, wi, wl]; grind)) (fun c25 => ?_) (fun c25 => ?_)
            ·have hw : stepZ m (p.get i) = none := by
              refine num_none hz0 hz1 hσ hR.n hR.sm ?_ ?_
              ·rintro ⟨h1, h2, h3⟩; simp only [Ks.least] at h3; first | omega | exact absurd h2 (by assumption)
              ·simp only [Ks.least, Ks.most]; first | exact .inl (by omega) | exact .inr (.inl (by omega)) | exact .inr (.inr (.inl ⟨by assumption, by omega⟩)) | exact .inr (.inr (.inr (.inl (by omega)))) | exact .inr (.inr (.inr (.inr ⟨by omega, by omega⟩)))
             subst hAV
             have hct := hR.count
             simp only [List.length_map, vv] at hct
             have hbad := fun (all2 : Rw (Rw ByteArray)) (l2 : all2.l = all.l ++ out.l) (k2 : all2.ok 1) {now' args' : Atom} {left' n' many' : Int} {sm' wr' : Bool} {arg' : Rw Int} => hR.bad hz hw hO.ok (k' := (catQ (q.l.take (i1 + 1).toNat)).length) (by omega) (by rw [bS_len]; exact hcl1) l2 k2 (now' := now') (args' := args') (left' := left') (n' := n') (many' := many') (sm' := sm') (wr := wr') (arg' := arg')
             exact t4_1_wp (n := n) (sm := sm) hq (by omega) (by omega) j0 j1 htd kargs hR.out.2 (by omega) (by omega) (fun all2 l2 k2 => hbad all2 l2 k2 rfl rfl) _ _ (fun t2 ⟨all2, l2, k2, e2⟩ => ⟨⟨_, _, _, _, _, _, _, _, _, _, rfl, by omega, all2, e2, hbad all2 l2 k2 rfl rfl⟩, by show ((q.l.length : Int) - (i1 + 1)).toNat < ((q.l.length : Int) - i1).toNat; omega⟩) _ _ _ _ _ _ _ _ _ _ _ _ _ _ _ _ _ (fun _ => by first | rfl | (simp only [vx, reduceCtorEq, wi1, hsq, hgc, wi, wl]; done)) (fun _ => by first | rfl | (simp only [vx, reduceCtorEq, wi1, hsq, hgc, wi, wl]; done))
            ·have wu : IntKind.u8.wrap ((p.get i) - 48) = (p.get i) - 48 := by rw [IntKind.wrap_u8]; omega
             have ww : IntKind.i64.wrap ((p.get i) - 48) = (p.get i) - 48 := wrap_id _ (by omega) (by omega)
             have wm : IntKind.i64.wrap (10 * n) = 10 * n := wrap_id _ (by omega) (by omega)
             have wa : IntKind.i64.wrap (10 * n + ((p.get i) - 48)) = 10 * n + ((p.get i) - 48) := wrap_id _ (by omega) (by omega)
             refine brP ((10 * n + ((p.get i) - 48)) > 50) (by first | (simp only [vx, reduceCtorEq, wi1, hsq, hgc, wi, wl, wu, ww, wm, wa]; done) | (simp only [vx, reduceCtorEq, wi1, hsq, hgc, wi, wl, wu, ww, wm, wa]; grind)) (fun c26 => ?_) (fun c26 => ?_)
             ·have hw : stepZ m (p.get i) = none := by
               refine num_none hz0 hz1 hσ hR.n hR.sm ?_ ?_
               ·rintro ⟨h1, h2, h3⟩; simp only [Ks.least] at h3; first | omega | exact absurd h2 (by assumption)
               ·simp only [Ks.least, Ks.most]; first | exact .inl (by omega) | exact .inr (.inl (by omega)) | exact .inr (.inr (.inl ⟨by assumption, by omega⟩)) | exact .inr (.inr (.inr (.inl (by omega)))) | exact .inr (.inr (.inr (.inr ⟨by omega, by omega⟩)))
              subst hAV
              have hct := hR.count
              simp only [List.length_map, vv] at hct
              have hbad := fun (all2 : Rw (Rw ByteArray)) (l2 : all2.l = all.l ++ out.l) (k2 : all2.ok 1) {now' args' : Atom} {left' n' many' : Int} {sm' wr' : Bool} {arg' : Rw Int} => hR.bad hz hw hO.ok (k' := (catQ (q.l.take (i1 + 1).toNat)).length) (by omega) (by rw [bS_len]; exact hcl1) l2 k2 (now' := now') (args' := args') (left' := left') (n' := n') (many' := many') (sm' := sm') (wr := wr') (arg' := arg')
              exact t4_1_wp (n := (10 * n + ((p.get i) - 48))) (sm := true) hq (by omega) (by omega) j0 j1 htd kargs hR.out.2 (by omega) (by omega) (fun all2 l2 k2 => hbad all2 l2 k2 rfl rfl) _ _ (fun t2 ⟨all2, l2, k2, e2⟩ => ⟨⟨_, _, _, _, _, _, _, _, _, _, rfl, by omega, all2, e2, hbad all2 l2 k2 rfl rfl⟩, by show ((q.l.length : Int) - (i1 + 1)).toNat < ((q.l.length : Int) - i1).toNat; omega⟩) _ _ _ _ _ _ _ _ _ _ _ _ _ _ _ _ _ (fun _ => by first | rfl | (simp only [vx, reduceCtorEq, wi1, hsq, hgc, wi, wl, wu, ww, wm, wa]; done)) (fun _ => by first | rfl | (simp only [vx, reduceCtorEq, wi1, hsq, hgc, wi, wl, wu, ww, wm, wa]; done))
             ·refine brP ((10 * n + ((p.get i) - 48)) = 0) (by first | (simp only [vx, reduceCtorEq, wi1, hsq, hgc, wi, wl, wu, ww, wm, wa]; done) | (simp only [vx, reduceCtorEq, wi1, hsq, hgc, wi, wl, wu, ww, wm, wa]; grind)) (fun c27 => ?_) (fun c27 => ?_)
              ·have hw : stepZ m (p.get i) = none := by
                refine num_none hz0 hz1 hσ hR.n hR.sm ?_ ?_
                ·rintro ⟨h1, h2, h3⟩; simp only [Ks.least] at h3; first | omega | exact absurd h2 (by assumption)
                ·simp only [Ks.least, Ks.most]; first | exact .inl (by omega) | exact .inr (.inl (by omega)) | exact .inr (.inr (.inl ⟨by assumption, by omega⟩)) | exact .inr (.inr (.inr (.inl (by omega)))) | exact .inr (.inr (.inr (.inr ⟨by omega, by omega⟩)))
               subst hAV
               have hct := hR.count
               simp only [List.length_map, vv] at hct
               have hbad := fun (all2 : Rw (Rw ByteArray)) (l2 : all2.l = all.l ++ out.l) (k2 : all2.ok 1) {now' args' : Atom} {left' n' many' : Int} {sm' wr' : Bool} {arg' : Rw Int} => hR.bad hz hw hO.ok (k' := (catQ (q.l.take (i1 + 1).toNat)).length) (by omega) (by rw [bS_len]; exact hcl1) l2 k2 (now' := now') (args' := args') (left' := left') (n' := n') (many' := many') (sm' := sm') (wr := wr') (arg' := arg')
               exact t4_1_wp (n := (10 * n + ((p.get i) - 48))) (sm := true) hq (by omega) (by omega) j0 j1 htd kargs hR.out.2 (by omega) (by omega) (fun all2 l2 k2 => hbad all2 l2 k2 rfl rfl) _ _ (fun t2 ⟨all2, l2, k2, e2⟩ => ⟨⟨_, _, _, _, _, _, _, _, _, _, rfl, by omega, all2, e2, hbad all2 l2 k2 rfl rfl⟩, by show ((q.l.length : Int) - (i1 + 1)).toNat < ((q.l.length : Int) - i1).toNat; omega⟩) _ _ _ _ _ _ _ _ _ _ _ _ _ _ _ _ _ (fun _ => by first | rfl | (simp only [vx, reduceCtorEq, wi1, hsq, hgc, wi, wl, wu, ww, wm, wa]; done)) (fun _ => by first | rfl | (simp only [vx, reduceCtorEq, wi1, hsq, hgc, wi, wl, wu, ww, wm, wa]; done))
              ·refine need_wp (⟨_, _, _, rfl⟩) ?_
               refine need_wp (by exact kargs) ?_
               refine need_wp (⟨_, _, _, rfl⟩) ?_
               refine need_wp (⟨_, _, _, rfl⟩) ?_
               refine again_wp rfl ⟨(i + 1), now, (left + 1), (10 * n + ((p.get i) - 48)), true, args, many, arg, out, by first | (simp only [vx, reduceCtorEq, wi1, hsq, hgc, wi, wl, wu, ww, wm, wa]; done) | rfl, ?_⟩ ?_
               ·have hs := num_dig hz0 hz1 hσ hR.n hR.sm (by rintro ⟨h1, h2, h3⟩; simp only [Ks.least] at h3; first | omega | exact absurd h2 (by assumption)) (by omega) (by omega) (by rintro ⟨h1, h2⟩; first | omega | exact absurd h1 (by assumption)) (by simp only [Ks.most]; omega) (by rintro ⟨h1, h2⟩; simp only [Ks.least] at h2; omega); exact ⟨by omega, by omega, _, hR.next' hz hz0 hz1 ht hs (by have := hR.now; rw [hσ] at this; simpa only [hσ] using this) (by first | omega | (simp only; omega)) rfl rfl hR.many (fun h => hR.args h) hR.arg hR.out⟩
               ·(try simp only [vx, reduceCtorEq, wi1, hsq, hgc, wi, wl, wu, ww, wm, wa]); omega
         ·refine brP ((p.get i) < 48) (by first | (simp only [vx, reduceCtorEq, wi1, hsq, hgc, wi, wl]; done) | (simp only [vx, reduceCtorEq, wi1, hsq, hgc, wi, wl]; grind)) (fun c28 => ?_) (fun c28 => ?_)
          ·have hw : stepZ m (p.get i) = none := by
            refine num_none hz0 hz1 hσ hR.n hR.sm ?_ ?_
            ·rintro ⟨h1, h2, h3⟩; simp only [Ks.least] at h3; first | omega | exact absurd h2 (by assumption)
            ·simp only [Ks.least, Ks.most]; first | exact .inl (by omega) | exact .inr (.inl (by omega)) | exact .inr (.inr (.inl ⟨by assumption, by omega⟩)) | exact .inr (.inr (.inr (.inl (by omega)))) | exact .inr (.inr (.inr (.inr ⟨by omega, by omega⟩)))
           subst hAV
           have hct := hR.count
           simp only [List.length_map, vv] at hct
           have hbad := fun (all2 : Rw (Rw ByteArray)) (l2 : all2.l = all.l ++ out.l) (k2 : all2.ok 1) {now' args' : Atom} {left' n' many' : Int} {sm' wr' : Bool} {arg' : Rw Int} => hR.bad hz hw hO.ok (k' := (catQ (q.l.take (i1 + 1).toNat)).length) (by omega) (by rw [bS_len]; exact hcl1) l2 k2 (now' := now') (args' := args') (left' := left') (n' := n') (many' := many') (sm' := sm') (wr := wr') (arg' := arg')
           exact t4_1_wp (n := n) (sm := sm) hq (by omega) (by omega) j0 j1 htd kargs hR.out.2 (by omega) (by omega) (fun all2 l2 k2 => hbad all2 l2 k2 rfl rfl) _ _ (fun t2 ⟨all2, l2, k2, e2⟩ => ⟨⟨_, _, _, _, _, _, _, _, _, _, rfl, by omega, all2, e2, hbad all2 l2 k2 rfl rfl⟩, by show ((q.l.length : Int) - (i1 + 1)).toNat < ((q.l.length : Int) - i1).toNat; omega⟩) _ _ _ _ _ _ _ _ _ _ _ _ _ _ _ _ _ (fun _ => by first | rfl | (simp only [vx, reduceCtorEq, wi1, hsq, hgc, wi, wl]; done)) (fun _ => by first | rfl | (simp only [vx, reduceCtorEq, wi1, hsq, hgc, wi, wl]; done))
          ·refine brP ((p.get i) > 57) (by first | (simp only [vx, reduceCtorEq, wi1, hsq, hgc, wi, wl]; done) | (simp only [vx, reduceCtorEq, wi1, hsq, hgc, wi, wl]; grind)) (fun c29 => ?_) (fun c29 => ?_)
           ·have hw : stepZ m (p.get i) = none := by
             refine num_none hz0 hz1 hσ hR.n hR.sm ?_ ?_
             ·rintro ⟨h1, h2, h3⟩; simp only [Ks.least] at h3; first | omega | exact absurd h2 (by assumption)
             ·simp only [Ks.least, Ks.most]; first | exact .inl (by omega) | exact .inr (.inl (by omega)) | exact .inr (.inr (.inl ⟨by assumption, by omega⟩)) | exact .inr (.inr (.inr (.inl (by omega)))) | exact .inr (.inr (.inr (.inr ⟨by omega, by omega⟩)))
            subst hAV
            have hct := hR.count
            simp only [List.length_map, vv] at hct
            have hbad := fun (all2 : Rw (Rw ByteArray)) (l2 : all2.l = all.l ++ out.l) (k2 : all2.ok 1) {now' args' : Atom} {left' n' many' : Int} {sm' wr' : Bool} {arg' : Rw Int} => hR.bad hz hw hO.ok (k' := (catQ (q.l.take (i1 + 1).toNat)).length) (by omega) (by rw [bS_len]; exact hcl1) l2 k2 (now' := now') (args' := args') (left' := left') (n' := n') (many' := many') (sm' := sm') (wr := wr') (arg' := arg')
            exact t4_1_wp (n := n) (sm := sm) hq (by omega) (by omega) j0 j1 htd kargs hR.out.2 (by omega) (by omega) (fun all2 l2 k2 => hbad all2 l2 k2 rfl rfl) _ _ (fun t2 ⟨all2, l2, k2, e2⟩ => ⟨⟨_, _, _, _, _, _, _, _, _, _, rfl, by omega, all2, e2, hbad all2 l2 k2 rfl rfl⟩, by show ((q.l.length : Int) - (i1 + 1)).toNat < ((q.l.length : Int) - i1).toNat; omega⟩) _ _ _ _ _ _ _ _ _ _ _ _ _ _ _ _ _ (fun _ => by first | rfl | (simp only [vx, reduceCtorEq, wi1, hsq, hgc, wi, wl]; done)) (fun _ => by first | rfl | (simp only [vx, reduceCtorEq, wi1, hsq, hgc, wi, wl]; done))
           ·have wu : IntKind.u8.wrap ((p.get i) - 48) = (p.get i) - 48 := by rw [IntKind.wrap_u8]; omega
            have ww : IntKind.i64.wrap ((p.get i) - 48) = (p.get i) - 48 := wrap_id _ (by omega) (by omega)
            have wm : IntKind.i64.wrap (10 * n) = 10 * n := wrap_id _ (by omega) (by omega)
            have wa : IntKind.i64.wrap (10 * n + ((p.get i) - 48)) = 10 * n + ((p.get i) - 48) := wrap_id _ (by omega) (by omega)
            refine brP (sm = true) (by first | (simp only [vx, reduceCtorEq, wi1, hsq, hgc, wi, wl, wu, ww, wm, wa]; done) | (simp only [vx, reduceCtorEq, wi1, hsq, hgc, wi, wl, wu, ww, wm, wa]; grind)) (fun c30 => ?_) (fun c30 => ?_)
            ·refine brP (n = 0) (by first | (simp only [vx, reduceCtorEq, wi1, hsq, hgc, wi, wl, wu, ww, wm, wa]; done) | (simp only [vx, reduceCtorEq, wi1, hsq, hgc, wi, wl, wu, ww, wm, wa]; grind)) (fun c31 => ?_) (fun c31 => ?_)
             ·have hw : stepZ m (p.get i) = none := by
               refine num_none hz0 hz1 hσ hR.n hR.sm ?_ ?_
               ·rintro ⟨h1, h2, h3⟩; simp only [Ks.least] at h3; first | omega | exact absurd h2 (by assumption)
               ·simp only [Ks.least, Ks.most]; first | exact .inl (by omega) | exact .inr (.inl (by omega)) | exact .inr (.inr (.inl ⟨by assumption, by omega⟩)) | exact .inr (.inr (.inr (.inl (by omega)))) | exact .inr (.inr (.inr (.inr ⟨by omega, by omega⟩)))
              subst hAV
              have hct := hR.count
              simp only [List.length_map, vv] at hct
              have hbad := fun (all2 : Rw (Rw ByteArray)) (l2 : all2.l = all.l ++ out.l) (k2 : all2.ok 1) {now' args' : Atom} {left' n' many' : Int} {sm' wr' : Bool} {arg' : Rw Int} => hR.bad hz hw hO.ok (k' := (catQ (q.l.take (i1 + 1).toNat)).length) (by omega) (by rw [bS_len]; exact hcl1) l2 k2 (now' := now') (args' := args') (left' := left') (n' := n') (many' := many') (sm' := sm') (wr := wr') (arg' := arg')
              exact t4_1_wp (n := n) (sm := sm) hq (by omega) (by omega) j0 j1 htd kargs hR.out.2 (by omega) (by omega) (fun all2 l2 k2 => hbad all2 l2 k2 rfl rfl) _ _ (fun t2 ⟨all2, l2, k2, e2⟩ => ⟨⟨_, _, _, _, _, _, _, _, _, _, rfl, by omega, all2, e2, hbad all2 l2 k2 rfl rfl⟩, by show ((q.l.length : Int) - (i1 + 1)).toNat < ((q.l.length : Int) - i1).toNat; omega⟩) _ _ _ _ _ _ _ _ _ _ _ _ _ _ _ _ _ (fun _ => by first | rfl | (simp only [vx, reduceCtorEq, wi1, hsq, hgc, wi, wl, wu, ww, wm, wa]; done)) (fun _ => by first | rfl | (simp only [vx, reduceCtorEq, wi1, hsq, hgc, wi, wl, wu, ww, wm, wa]; done))
             ·refine brP ((10 * n + ((p.get i) - 48)) > 50) (by first | (simp only [vx, reduceCtorEq, wi1, hsq, hgc, wi, wl, wu, ww, wm, wa]; done) | (simp only [vx, reduceCtorEq, wi1, hsq, hgc, wi, wl, wu, ww, wm, wa]; grind)) (fun c32 => ?_) (fun c32 => ?_)
              ·have hw : stepZ m (p.get i) = none := by
                refine num_none hz0 hz1 hσ hR.n hR.sm ?_ ?_
                ·rintro ⟨h1, h2, h3⟩; simp only [Ks.least] at h3; first | omega | exact absurd h2 (by assumption)
                ·simp only [Ks.least, Ks.most]; first | exact .inl (by omega) | exact .inr (.inl (by omega)) | exact .inr (.inr (.inl ⟨by assumption, by omega⟩)) | exact .inr (.inr (.inr (.inl (by omega)))) | exact .inr (.inr (.inr (.inr ⟨by omega, by omega⟩)))
               subst hAV
               have hct := hR.count
               simp only [List.length_map, vv] at hct
               have hbad := fun (all2 : Rw (Rw ByteArray)) (l2 : all2.l = all.l ++ out.l) (k2 : all2.ok 1) {now' args' : Atom} {left' n' many' : Int} {sm' wr' : Bool} {arg' : Rw Int} => hR.bad hz hw hO.ok (k' := (catQ (q.l.take (i1 + 1).toNat)).length) (by omega) (by rw [bS_len]; exact hcl1) l2 k2 (now' := now') (args' := args') (left' := left') (n' := n') (many' := many') (sm' := sm') (wr := wr') (arg' := arg')
               exact t4_1_wp (n := (10 * n + ((p.get i) - 48))) (sm := true) hq (by omega) (by omega) j0 j1 htd kargs hR.out.2 (by omega) (by omega) (fun all2 l2 k2 => hbad all2 l2 k2 rfl rfl) _ _ (fun t2 ⟨all2, l2, k2, e2⟩ => ⟨⟨_, _, _, _, _, _, _, _, _, _, rfl, by omega, all2, e2, hbad all2 l2 k2 rfl rfl⟩, by show ((q.l.length : Int) - (i1 + 1)).toNat < ((q.l.length : Int) - i1).toNat; omega⟩) _ _ _ _ _ _ _ _ _ _ _ _ _ _ _ _ _ (fun _ => by first | rfl | (simp only [vx, reduceCtorEq, wi1, hsq, hgc, wi, wl, wu, ww, wm, wa]; done)) (fun _ => by first | rfl | (simp only [vx, reduceCtorEq, wi1, hsq, hgc, wi, wl, wu, ww, wm, wa]; done))
              ·refine brP ((10 * n + ((p.get i) - 48)) = 0) (by first | (simp only [vx, reduceCtorEq, wi1, hsq, hgc, wi, wl, wu, ww, wm, wa]; done) | (simp only [vx, reduceCtorEq, wi1, hsq, hgc, wi, wl, wu, ww, wm, wa]; grind)) (fun c33 => ?_) (fun c33 => ?_)
               ·have hw : stepZ m (p.get i) = none := by
                 refine num_none hz0 hz1 hσ hR.n hR.sm ?_ ?_
                 ·rintro ⟨h1, h2, h3⟩; simp only [Ks.least] at h3; first | omega | exact absurd h2 (by assumption)
                 ·simp only [Ks.least, Ks.most]; first | exact .inl (by omega) | exact .inr (.inl (by omega)) | exact .inr (.inr (.inl ⟨by assumption, by omega⟩)) | exact .inr (.inr (.inr (.inl (by omega)))) | exact .inr (.inr (.inr (.inr ⟨by omega, by omega⟩)))
                subst hAV
                have hct := hR.count
                simp only [List.length_map, vv] at hct
                have hbad := fun (all2 : Rw (Rw ByteArray)) (l2 : all2.l = all.l ++ out.l) (k2 : all2.ok 1) {now' args' : Atom} {left' n' many' : Int} {sm' wr' : Bool} {arg' : Rw Int} => hR.bad hz hw hO.ok (k' := (catQ (q.l.take (i1 + 1).toNat)).length) (by omega) (by rw [bS_len]; exact hcl1) l2 k2 (now' := now') (args' := args') (left' := left') (n' := n') (many' := many') (sm' := sm') (wr := wr') (arg' := arg')
                exact t4_1_wp (n := (10 * n + ((p.get i) - 48))) (sm := true) hq (by omega) (by omega) j0 j1 htd kargs hR.out.2 (by omega) (by omega) (fun all2 l2 k2 => hbad all2 l2 k2 rfl rfl) _ _ (fun t2 ⟨all2, l2, k2, e2⟩ => ⟨⟨_, _, _, _, _, _, _, _, _, _, rfl, by omega, all2, e2, hbad all2 l2 k2 rfl rfl⟩, by show ((q.l.length : Int) - (i1 + 1)).toNat < ((q.l.length : Int) - i1).toNat; omega⟩) _ _ _ _ _ _ _ _ _ _ _ _ _ _ _ _ _ (fun _ => by first | rfl | (simp only [vx, reduceCtorEq, wi1, hsq, hgc, wi, wl, wu, ww, wm, wa]; done)) (fun _ => by first | rfl | (simp only [vx, reduceCtorEq, wi1, hsq, hgc, wi, wl, wu, ww, wm, wa]; done))
               ·refine need_wp (⟨_, _, _, rfl⟩) ?_
                refine need_wp (by exact kargs) ?_
                refine need_wp (⟨_, _, _, rfl⟩) ?_
                refine need_wp (⟨_, _, _, rfl⟩) ?_
                refine again_wp rfl ⟨(i + 1), now, (left + 1), (10 * n + ((p.get i) - 48)), true, args, many, arg, out, by first | (simp only [vx, reduceCtorEq, wi1, hsq, hgc, wi, wl, wu, ww, wm, wa]; done) | rfl, ?_⟩ ?_
                ·have hs := num_dig hz0 hz1 hσ hR.n hR.sm (by rintro ⟨h1, h2, h3⟩; simp only [Ks.least] at h3; first | omega | exact absurd h2 (by assumption)) (by omega) (by omega) (by rintro ⟨h1, h2⟩; first | omega | exact absurd h1 (by assumption)) (by simp only [Ks.most]; omega) (by rintro ⟨h1, h2⟩; simp only [Ks.least] at h2; omega); exact ⟨by omega, by omega, _, hR.next' hz hz0 hz1 ht hs (by have := hR.now; rw [hσ] at this; simpa only [hσ] using this) (by first | omega | (simp only; omega)) rfl rfl hR.many (fun h => hR.args h) hR.arg hR.out⟩
                ·(try simp only [vx, reduceCtorEq, wi1, hsq, hgc, wi, wl, wu, ww, wm, wa]); omega
            ·refine brP ((10 * n + ((p.get i) - 48)) > 50) (by first | (simp only [vx, reduceCtorEq, wi1, hsq, hgc, wi, wl, wu, ww, wm, wa]; done) | (simp only [vx, reduceCtorEq, wi1, hsq, hgc, wi, wl, wu, ww, wm, wa]; grind)) (fun c34 => ?_) (fun c34 => ?_)
             ·have hw : stepZ m (p.get i) = none := by
               refine num_none hz0 hz1 hσ hR.n hR.sm ?_ ?_
               ·rintro ⟨h1, h2, h3⟩; simp only [Ks.least] at h3; first | omega | exact absurd h2 (by assumption)
               ·simp only [Ks.least, Ks.most]; first | exact .inl (by omega) | exact .inr (.inl (by omega)) | exact .inr (.inr (.inl ⟨by assumption, by omega⟩)) | exact .inr (.inr (.inr (.inl (by omega)))) | exact .inr (.inr (.inr (.inr ⟨by omega, by omega⟩)))
              subst hAV
              have hct := hR.count
              simp only [List.length_map, vv] at hct
              have hbad := fun (all2 : Rw (Rw ByteArray)) (l2 : all2.l = all.l ++ out.l) (k2 : all2.ok 1) {now' args' : Atom} {left' n' many' : Int} {sm' wr' : Bool} {arg' : Rw Int} => hR.bad hz hw hO.ok (k' := (catQ (q.l.take (i1 + 1).toNat)).length) (by omega) (by rw [bS_len]; exact hcl1) l2 k2 (now' := now') (args' := args') (left' := left') (n' := n') (many' := many') (sm' := sm') (wr := wr') (arg' := arg')
              exact t4_1_wp (n := (10 * n + ((p.get i) - 48))) (sm := true) hq (by omega) (by omega) j0 j1 htd kargs hR.out.2 (by omega) (by omega) (fun all2 l2 k2 => hbad all2 l2 k2 rfl rfl) _ _ (fun t2 ⟨all2, l2, k2, e2⟩ => ⟨⟨_, _, _, _, _, _, _, _, _, _, rfl, by omega, all2, e2, hbad all2 l2 k2 rfl rfl⟩, by show ((q.l.length : Int) - (i1 + 1)).toNat < ((q.l.length : Int) - i1).toNat; omega⟩) _ _ _ _ _ _ _ _ _ _ _ _ _ _ _ _ _ (fun _ => by first | rfl | (simp only [vx, reduceCtorEq, wi1, hsq, hgc, wi, wl, wu, ww, wm, wa]; done)) (fun _ => by first | rfl | (simp only [vx, reduceCtorEq, wi1, hsq, hgc, wi, wl, wu, ww, wm, wa]; done))
             ·refine brP ((10 * n + ((p.get i) - 48)) = 0) (by first | (simp only [vx, reduceCtorEq, wi1, hsq, hgc, wi, wl, wu, ww, wm, wa]; done) | (simp only [vx, reduceCtorEq, wi1, hsq, hgc, wi, wl, wu, ww, wm, wa]; grind)) (fun c35 => ?_) (fun c35 => ?_)
              ·have hw : stepZ m (p.get i) = none := by
                refine num_none hz0 hz1 hσ hR.n hR.sm ?_ ?_
                ·rintro ⟨h1, h2, h3⟩; simp only [Ks.least] at h3; first | omega | exact absurd h2 (by assumption)
                ·simp only [Ks.least, Ks.most]; first | exact .inl (by omega) | exact .inr (.inl (by omega)) | exact .inr (.inr (.inl ⟨by assumption, by omega⟩)) | exact .inr (.inr (.inr (.inl (by omega)))) | exact .inr (.inr (.inr (.inr ⟨by omega, by omega⟩)))
               subst hAV
               have hct := hR.count
               simp only [List.length_map, vv] at hct
               have hbad := fun (all2 : Rw (Rw ByteArray)) (l2 : all2.l = all.l ++ out.l) (k2 : all2.ok 1) {now' args' : Atom} {left' n' many' : Int} {sm' wr' : Bool} {arg' : Rw Int} => hR.bad hz hw hO.ok (k' := (catQ (q.l.take (i1 + 1).toNat)).length) (by omega) (by rw [bS_len]; exact hcl1) l2 k2 (now' := now') (args' := args') (left' := left') (n' := n') (many' := many') (sm' := sm') (wr := wr') (arg' := arg')
               exact t4_1_wp (n := (10 * n + ((p.get i) - 48))) (sm := true) hq (by omega) (by omega) j0 j1 htd kargs hR.out.2 (by omega) (by omega) (fun all2 l2 k2 => hbad all2 l2 k2 rfl rfl) _ _ (fun t2 ⟨all2, l2, k2, e2⟩ => ⟨⟨_, _, _, _, _, _, _, _, _, _, rfl, by omega, all2, e2, hbad all2 l2 k2 rfl rfl⟩, by show ((q.l.length : Int) - (i1 + 1)).toNat < ((q.l.length : Int) - i1).toNat; omega⟩) _ _ _ _ _ _ _ _ _ _ _ _ _ _ _ _ _ (fun _ => by first | rfl | (simp only [vx, reduceCtorEq, wi1, hsq, hgc, wi, wl, wu, ww, wm, wa]; done)) (fun _ => by first | rfl | (simp only [vx, reduceCtorEq, wi1, hsq, hgc, wi, wl, wu, ww, wm, wa]; done))
              ·refine need_wp (⟨_, _, _, rfl⟩) ?_
               refine need_wp (by exact kargs) ?_
               refine need_wp (⟨_, _, _, rfl⟩) ?_
               refine need_wp (⟨_, _, _, rfl⟩) ?_
               refine again_wp rfl ⟨(i + 1), now, (left + 1), (10 * n + ((p.get i) - 48)), true, args, many, arg, out, by first | (simp only [vx, reduceCtorEq, wi1, hsq, hgc, wi, wl, wu, ww, wm, wa]; done) | rfl, ?_⟩ ?_
               ·have hs := num_dig hz0 hz1 hσ hR.n hR.sm (by rintro ⟨h1, h2, h3⟩; simp only [Ks.least] at h3; first | omega | exact absurd h2 (by assumption)) (by omega) (by omega) (by rintro ⟨h1, h2⟩; first | omega | exact absurd h1 (by assumption)) (by simp only [Ks.most]; omega) (by rintro ⟨h1, h2⟩; simp only [Ks.least] at h2; omega); exact ⟨by omega, by omega, _, hR.next' hz hz0 hz1 ht hs (by have := hR.now; rw [hσ] at this; simpa only [hσ] using this) (by first | omega | (simp only; omega)) rfl rfl hR.many (fun h => hR.args h) hR.arg hR.out⟩
               ·(try simp only [vx, reduceCtorEq, wi1, hsq, hgc, wi, wl, wu, ww, wm, wa]); omega
        ·refine brP (cloB (.some 40) [(.int .u8 10), (.fn 36)] now = true) (by first | (simp only [vx, reduceCtorEq, wi1, hsq, hgc, wi, wl]; done) | (simp only [vx, reduceCtorEq, wi1, hsq, hgc, wi, wl]; grind)) (fun c36 => ?_) (fun c36 => ?_)
         ·have hσ : m.σ = (.lf .cnt) := now_of (τ := (.lf .cnt)) hR.now c36
          refine brP ((p.get i) ≠ 10) (by first | (simp only [vx, reduceCtorEq, wi1, hsq, hgc, wi, wl]; done) | (simp only [vx, reduceCtorEq, wi1, hsq, hgc, wi, wl]; grind)) (fun c37 => ?_) (fun c37 => ?_)
          ·have hw : stepZ m (p.get i) = none := by rw [sz_lfc hz0 hz1 hσ, if_neg (by omega)]
           subst hAV
           have hct := hR.count
           simp only [List.length_map, vv] at hct
           have hbad := fun (all2 : Rw (Rw ByteArray)) (l2 : all2.l = all.l ++ out.l) (k2 : all2.ok 1) {now' args' : Atom} {left' n' many' : Int} {sm' wr' : Bool} {arg' : Rw Int} => hR.bad hz hw hO.ok (k' := (catQ (q.l.take (i1 + 1).toNat)).length) (by omega) (by rw [bS_len]; exact hcl1) l2 k2 (now' := now') (args' := args') (left' := left') (n' := n') (many' := many') (sm' := sm') (wr := wr') (arg' := arg')
           exact t4_1_wp (n := n) (sm := sm) hq (by omega) (by omega) j0 j1 htd kargs hR.out.2 (by omega) (by omega) (fun all2 l2 k2 => hbad all2 l2 k2 rfl rfl) _ _ (fun t2 ⟨all2, l2, k2, e2⟩ => ⟨⟨_, _, _, _, _, _, _, _, _, _, rfl, by omega, all2, e2, hbad all2 l2 k2 rfl rfl⟩, by show ((q.l.length : Int) - (i1 + 1)).toNat < ((q.l.length : Int) - i1).toNat; omega⟩) _ _ _ _ _ _ _ _ _ _ _ _ _ _ _ _ _ (fun _ => by first | rfl | (simp only [vx, reduceCtorEq, wi1, hsq, hgc, wi, wl]; done)) (fun _ => by first | rfl | (simp only [vx, reduceCtorEq, wi1, hsq, hgc, wi, wl]; done))
          ·refine clo_wp ?_
           intro y5 o5 q5
           refine need_wp (⟨_, _, _, rfl⟩) ?_
           refine need_wp (⟨_, _, _, rfl⟩) ?_
           refine need_wp (⟨_, _, _, rfl⟩) ?_
           refine need_wp (⟨_, _, _, rfl⟩) ?_
           refine again_wp rfl ⟨(i + 1), y5, (left + 1), n, sm, (Rw.atom eS (Rw.nil : Rw ByteArray)), n, arg, out, by first | (simp only [vx, reduceCtorEq, wi1, hsq, hgc, wi, wl]; done) | (simp only [vx, reduceCtorEq, wi1, hsq, hgc, wi, wl]; rfl) | (simp only [vx, reduceCtorEq, wi1, hsq, hgc, wi, wl, Rw.nil, Rw.atom, List.length_nil, List.map_nil]; done), ?_⟩ ?_
           ·have hs := (sz_lfc hz0 hz1 hσ).trans (if_pos (by omega)); exact ⟨by omega, by omega, _, hR.next' hz hz0 hz1 ht hs (q5) (by first | omega | (simp only; omega)) hR.n hR.sm hR.n (fun _ => ⟨Rw.nil, rfl, rfl, .inl rfl⟩) hR.arg hR.out⟩
           ·(try simp only [vx, reduceCtorEq, wi1, hsq, hgc, wi, wl]); omega
         ·refine brP (cloB (.some 40) [(.int .u8 36), (.fn 43)] now = true) (by first | (simp only [vx, reduceCtorEq, wi1, hsq, hgc, wi, wl]; done) | (simp only [vx, reduceCtorEq, wi1, hsq, hgc, wi, wl]; grind)) (fun c38 => ?_) (fun c38 => ?_)
          ·have hσ : m.σ = .dol := now_of (τ := .dol) hR.now c38
           refine brP ((p.get i) ≠ 36) (by first | (simp only [vx, reduceCtorEq, wi1, hsq, hgc, wi, wl]; done) | (simp only [vx, reduceCtorEq, wi1, hsq, hgc, wi, wl]; grind)) (fun c39 => ?_) (fun c39 => ?_)
           ·have hw : stepZ m (p.get i) = none := by rw [sz_dol hz0 hz1 hσ, if_neg (by omega)]
            subst hAV
            have hct := hR.count
            simp only [List.length_map, vv] at hct
            have hbad := fun (all2 : Rw (Rw ByteArray)) (l2 : all2.l = all.l ++ out.l) (k2 : all2.ok 1) {now' args' : Atom} {left' n' many' : Int} {sm' wr' : Bool} {arg' : Rw Int} => hR.bad hz hw hO.ok (k' := (catQ (q.l.take (i1 + 1).toNat)).length) (by omega) (by rw [bS_len]; exact hcl1) l2 k2 (now' := now') (args' := args') (left' := left') (n' := n') (many' := many') (sm' := sm') (wr := wr') (arg' := arg')
            exact t4_1_wp (n := n) (sm := sm) hq (by omega) (by omega) j0 j1 htd kargs hR.out.2 (by omega) (by omega) (fun all2 l2 k2 => hbad all2 l2 k2 rfl rfl) _ _ (fun t2 ⟨all2, l2, k2, e2⟩ => ⟨⟨_, _, _, _, _, _, _, _, _, _, rfl, by omega, all2, e2, hbad all2 l2 k2 rfl rfl⟩, by show ((q.l.length : Int) - (i1 + 1)).toNat < ((q.l.length : Int) - i1).toNat; omega⟩) _ _ _ _ _ _ _ _ _ _ _ _ _ _ _ _ _ (fun _ => by first | rfl | (simp only [vx, reduceCtorEq, wi1, hsq, hgc, wi, wl]; done)) (fun _ => by first | rfl | (simp only [vx, reduceCtorEq, wi1, hsq, hgc, wi, wl]; done))
           ·refine clo_wp ?_
            intro y6 o6 q6
            refine need_wp (⟨_, _, _, rfl⟩) ?_
            refine need_wp (by exact kargs) ?_
            refine need_wp (⟨_, _, _, rfl⟩) ?_
            refine need_wp (⟨_, _, _, rfl⟩) ?_
            refine again_wp rfl ⟨(i + 1), y6, (left + 1), 0, false, args, many, arg, out, by first | (simp only [vx, reduceCtorEq, wi1, hsq, hgc, wi, wl]; done) | rfl, ?_⟩ ?_
            ·have hs := (sz_dol hz0 hz1 hσ).trans (if_pos (by omega)); exact ⟨by omega, by omega, _, hR.next' hz hz0 hz1 ht hs (q6) (by first | omega | (simp only; omega)) rfl rfl hR.many (fun _ => hR.args (by rw [hσ]; rfl)) hR.arg hR.out⟩
            ·(try simp only [vx, reduceCtorEq, wi1, hsq, hgc, wi, wl]); omega
          ·refine brP (cloB (.some 41) [(.int .i64 0), (.fn 44), (.int .i64 1000), .self] now = true) (by first | (simp only [vx, reduceCtorEq, wi1, hsq, hgc, wi, wl]; done) | (simp only [vx, reduceCtorEq, wi1, hsq, hgc, wi, wl]; grind)) (fun c40 => ?_) (fun c40 => ?_)
           ·have hσ : m.σ = (.num .szd) := now_of (τ := (.num .szd)) hR.now c40
            refine brP ((p.get i) = 13) (by first | (simp only [vx, reduceCtorEq, wi1, hsq, hgc, wi, wl]; done) | (simp only [vx, reduceCtorEq, wi1, hsq, hgc, wi, wl]; grind)) (fun c41 => ?_) (fun c41 => ?_)
            ·refine brP (sm = true) (by first | (simp only [vx, reduceCtorEq, wi1, hsq, hgc, wi, wl]; done) | (simp only [vx, reduceCtorEq, wi1, hsq, hgc, wi, wl]; grind)) (fun c42 => ?_) (fun c42 => ?_)
             ·refine brP (n ≥ 0) (by first | (simp only [vx, reduceCtorEq, wi1, hsq, hgc, wi, wl]; done) | (simp only [vx, reduceCtorEq, wi1, hsq, hgc, wi, wl]; grind)) (fun c43 => ?_) (fun c43 => ?_)
              ·refine clo_wp ?_
               intro y7 o7 q7
               refine need_wp (⟨_, _, _, rfl⟩) ?_
               refine need_wp (by exact kargs) ?_
               refine need_wp (⟨_, _, _, rfl⟩) ?_
               refine need_wp (⟨_, _, _, rfl⟩) ?_
               refine again_wp rfl ⟨(i + 1), y7, (left + 1), n, sm, args, many, arg, out, by first | (simp only [vx, reduceCtorEq, wi1, hsq, hgc, wi, wl]; done) | rfl, ?_⟩ ?_
               ·have hs := num_cr hz0 hz1 hσ hR.n hR.sm ⟨by omega, by assumption, by simp only [Ks.least]; omega⟩; exact ⟨by omega, by omega, _, hR.next' hz hz0 hz1 ht hs (q7) (by first | omega | (simp only; omega)) hR.n hR.sm hR.many (fun _ => hR.args (by rw [hσ]; rfl)) hR.arg hR.out⟩
               ·(try simp only [vx, reduceCtorEq, wi1, hsq, hgc, wi, wl]); omega
              ·exfalso; omega
             ·refine brP ((p.get i) < 48) (by first | (simp only [vx, reduceCtorEq, wi1, hsq, hgc, wi, wl]; done) | (simp only [vx, reduceCtorEq, wi1, hsq, hgc, wi, wl]; grind)) (fun c49 => ?_) (fun c49 => ?_)
              ·have hw : stepZ m (p.get i) = none := by
                refine num_none hz0 hz1 hσ hR.n hR.sm ?_ ?_
                ·rintro ⟨h1, h2, h3⟩; simp only [Ks.least] at h3; first | omega | exact absurd h2 (by assumption)
                ·simp only [Ks.least, Ks.most]; first | exact .inl (by omega) | exact .inr (.inl (by omega)) | exact .inr (.inr (.inl ⟨by assumption, by omega⟩)) | exact .inr (.inr (.inr (.inl (by omega)))) | exact .inr (.inr (.inr (.inr ⟨by omega, by omega⟩)))
               subst hAV
               have hct := hR.count
               simp only [List.length_map, vv] at hct
               have hbad := fun (all2 : Rw (Rw ByteArray)) (l2 : all2.l = all.l ++ out.l) (k2 : all2.ok 1) {now' args' : Atom} {left' n' many' : Int} {sm' wr' : Bool} {arg' : Rw Int} => hR.bad hz hw hO.ok (k' := (catQ (q.l.take (i1 + 1).toNat)).length) (by omega) (by rw [bS_len]; exact hcl1) l2 k2 (now' := now') (args' := args') (left' := left') (n' := n') (many' := many') (sm' := sm') (wr := wr') (arg' := arg')
               exact t4_1_wp (n := n) (sm := sm) hq (by omega) (by omega) j0 j1 htd kargs hR.out.2 (by omega) (by omega) (fun all2 l2 k2 => hbad all2 l2 k2 rfl rfl) _ _ (fun t2 ⟨all2, l2, k2, e2⟩ => ⟨⟨_, _, _, _, _, _, _, _, _, _, rfl, by omega, all2, e2, hbad all2 l2 k2 rfl rfl⟩, by show ((q.l.length : Int) - (i1 + 1)).toNat < ((q.l.length : Int) - i1).toNat; omega⟩) _ _ _ _ _ _ _ _ _ _ _ _ _ _ _ _ _ (fun _ => by first | rfl | (simp only [vx, reduceCtorEq, wi1, hsq, hgc, wi, wl]; done)) (fun _ => by first | rfl | (simp only [vx, reduceCtorEq, wi1, hsq, hgc, wi, wl]; done))
              ·refine brP ((p.get i) > 57) (by first | (simp only [vx, reduceCtorEq, wi1, hsq, hgc, wi, wl]; done) | (simp only [vx, reduceCtorEq, wi1, hsq, hgc, wi, wl]; grind)) (fun c50 => ?_) (fun c50 => ?_)
               ·have hw : stepZ m (p.get i) = none := by
                 refine num_none hz0 hz1 hσ hR.n hR.sm ?_ ?_
                 ·rintro ⟨h1, h2, h3⟩; simp only [Ks.least] at h3; first | omega | exact absurd h2 (by assumption)
                 ·simp only [Ks.least, Ks.most]; first | exact .inl (by omega) | exact .inr (.inl (by omega)) | exact .inr (.inr (.inl ⟨by assumption, by omega⟩)) | exact .inr (.inr (.inr (.inl (by omega)))) | exact .inr (.inr (.inr (.inr ⟨by omega, by omega⟩)))
                subst hAV
                have hct := hR.count
                simp only [List.length_map, vv] at hct
                have hbad := fun (all2 : Rw (Rw ByteArray)) (l2 : all2.l = all.l ++ out.l) (k2 : all2.ok 1) {now' args' : Atom} {left' n' many' : Int} {sm' wr' : Bool} {arg' : Rw Int} => hR.bad hz hw hO.ok (k' := (catQ (q.l.take (i1 + 1).toNat)).length) (by omega) (by rw [bS_len]; exact hcl1) l2 k2 (now' := now') (args' := args') (left' := left') (n' := n') (many' := many') (sm' := sm') (wr := wr') (arg' := arg')
                exact t4_1_wp (n := n) (sm := sm) hq (by omega) (by omega) j0 j1 htd kargs hR.out.2 (by omega) (by omega) (fun all2 l2 k2 => hbad all2 l2 k2 rfl rfl) _ _ (fun t2 ⟨all2, l2, k2, e2⟩ => ⟨⟨_, _, _, _, _, _, _, _, _, _, rfl, by omega, all2, e2, hbad all2 l2 k2 rfl rfl⟩, by show ((q.l.length : Int) - (i1 + 1)).toNat < ((q.l.length : Int) - i1).toNat; omega⟩) _ _ _ _ _ _ _ _ _ _ _ _ _ _ _ _ _ (fun _ => by first | rfl | (simp only [vx, reduceCtorEq, wi1, hsq, hgc, wi, wl]; done)) (fun _ => by first | rfl | (simp only [vx, reduceCtorEq, wi1, hsq, hgc, wi, wl]; done))
               ·have wu : IntKind.u8.wrap ((p.get i) - 48) = (p.get i) - 48 := by rw [IntKind.wrap_u8]; omega
                have ww : IntKind.i64.wrap ((p.get i) - 48) = (p.get i) - 48 := wrap_id _ (by omega) (by omega)
                have wm : IntKind.i64.wrap (10 * n) = 10 * n := wrap_id _ (by omega) (by omega)
                have wa : IntKind.i64.wrap (10 * n + ((p.get i) - 48)) = 10 * n + ((p.get i) - 48) := wrap_id _ (by omega) (by omega)
                refine brP ((10 * n + ((p.get i) - 48)) > 1000) (by first | (simp only [vx, reduceCtorEq, wi1, hsq, hgc, wi, wl, wu, ww, wm, wa]; done) | (simp only [vx, reduceCtorEq, wi1, hsq, hgc, wi, wl, wu, ww, wm, wa]; grind)) (fun c51 => ?_) (fun c51 => ?_)
                ·have hw : stepZ m (p.get i) = none := by
                  refine num_none hz0 hz1 hσ hR.n hR.sm ?_ ?_
                  ·rintro ⟨h1, h2, h3⟩; simp only [Ks.least] at h3; first | omega | exact absurd h2 (by assumption)
                  ·simp only [Ks.least, Ks.most]; first | exact .inl (by omega) | exact .inr (.inl (by omega)) | exact .inr (.inr (.inl ⟨by assumption, by omega⟩)) | exact .inr (.inr (.inr (.inl (by omega)))) | exact .inr (.inr (.inr (.inr ⟨by omega, by omega⟩)))
                 subst hAV
                 have hct := hR.count
                 simp only [List.length_map, vv] at hct
                 have hbad := fun (all2 : Rw (Rw ByteArray)) (l2 : all2.l = all.l ++ out.l) (k2 : all2.ok 1) {now' args' : Atom} {left' n' many' : Int} {sm' wr' : Bool} {arg' : Rw Int} => hR.bad hz hw hO.ok (k' := (catQ (q.l.take (i1 + 1).toNat)).length) (by omega) (by rw [bS_len]; exact hcl1) l2 k2 (now' := now') (args' := args') (left' := left') (n' := n') (many' := many') (sm' := sm') (wr := wr') (arg' := arg')
                 exact t4_1_wp (n := (10 * n + ((p.get i) - 48))) (sm := true) hq (by omega) (by omega) j0 j1 htd kargs hR.out.2 (by omega) (by omega) (fun all2 l2 k2 => hbad all2 l2 k2 rfl rfl) _ _ (fun t2 ⟨all2, l2, k2, e2⟩ => ⟨⟨_, _, _, _, _, _, _, _, _, _, rfl, by omega, all2, e2, hbad all2 l2 k2 rfl rfl⟩, by show ((q.l.length : Int) - (i1 + 1)).toNat < ((q.l.length : Int) - i1).toNat; omega⟩) _ _ _ _ _ _ _ _ _ _ _ _ _ _ _ _ _ (fun _ => by first | rfl | (simp only [vx, reduceCtorEq, wi1, hsq, hgc, wi, wl, wu, ww, wm, wa]; done)) (fun _ => by first | rfl | (simp only [vx, reduceCtorEq, wi1, hsq, hgc, wi, wl, wu, ww, wm, wa]; done))
                ·refine brP ((10 * n + ((p.get i) - 48)) = 0) (by first | (simp only [vx, reduceCtorEq, wi1, hsq, hgc, wi, wl, wu, ww, wm, wa]; done) | (simp only [vx, reduceCtorEq, wi1, hsq, hgc, wi, wl, wu, ww, wm, wa]; grind)) (fun c52 => ?_) (fun c52 => ?_)
                 ·refine need_wp (⟨_, _, _, rfl⟩) ?_
                  refine need_wp (by exact kargs) ?_
                  refine need_wp (⟨_, _, _, rfl⟩) ?_
                  refine need_wp (⟨_, _, _, rfl⟩) ?_
                  refine again_wp rfl ⟨(i + 1), now, (left + 1), (10 * n + ((p.get i) - 48)), true, args, many, arg, out, by first | (simp only [vx, reduceCtorEq, wi1, hsq, hgc, wi, wl, wu, ww, wm, wa]; done) | rfl, ?_⟩ ?_
                  ·have hs := num_dig hz0 hz1 hσ hR.n hR.sm (by rintro ⟨h1, h2, h3⟩; simp only [Ks.least] at h3; first | omega | exact absurd h2 (by assumption)) (by omega) (by omega) (by rintro ⟨h1, h2⟩; first | omega | exact absurd h1 (by assumption)) (by simp only [Ks.most]; omega) (by rintro ⟨h1, h2⟩; simp only [Ks.least] at h2; omega); exact ⟨by omega, by omega, _, hR.next' hz hz0 hz1 ht hs (by have := hR.now; rw [hσ] at this; simpa only [hσ] using this) (by first | omega | (simp only; omega)) rfl rfl hR.many (fun h => hR.args h) hR.arg hR.out⟩
                  ·(try simp only [vx, reduceCtorEq, wi1, hsq, hgc, wi, wl, wu, ww, wm, wa]); omega
                 ·refine need_wp (⟨_, _, _, rfl⟩) ?_
                  refine need_wp (by exact kargs) ?_
                  refine need_wp (⟨_, _, _, rfl⟩) ?_
                  refine need_wp (⟨_, _, _, rfl⟩) ?_
                  refine again_wp rfl ⟨(i + 1), now, (left + 1), (10 * n + ((p.get i) - 48)), true, args, many, arg, out, by first | (simp only [vx, reduceCtorEq, wi1, hsq, hgc, wi, wl, wu, ww, wm, wa]; done) | rfl, ?_⟩ ?_
                  ·have hs := num_dig hz0 hz1 hσ hR.n hR.sm (by rintro ⟨h1, h2, h3⟩; simp only [Ks.least] at h3; first | omega | exact absurd h2 (by assumption)) (by omega) (by omega) (by rintro ⟨h1, h2⟩; first | omega | exact absurd h1 (by assumption)) (by simp only [Ks.most]; omega) (by rintro ⟨h1, h2⟩; simp only [Ks.least] at h2; omega); exact ⟨by omega, by omega, _, hR.next' hz hz0 hz1 ht hs (by have := hR.now; rw [hσ] at this; simpa only [hσ] using this) (by first | omega | (simp only; omega)) rfl rfl hR.many (fun h => hR.args h) hR.arg hR.out⟩
                  ·(try simp only [vx, reduceCtorEq, wi1, hsq, hgc, wi, wl, wu, ww, wm, wa]); omega
            ·refine brP ((p.get i) < 48) (by first | (simp only [vx, reduceCtorEq, wi1, hsq, hgc, wi, wl]; done) | (simp only [vx, reduceCtorEq, wi1, hsq, hgc, wi, wl]; grind)) (fun c53 => ?_) (fun c53 => ?_)
             ·have hw : stepZ m (p.get i) = none := by
               refine num_none hz0 hz1 hσ hR.n hR.sm ?_ ?_
               ·rintro ⟨h1, h2, h3⟩; simp only [Ks.least] at h3; first | omega | exact absurd h2 (by assumption)
               ·simp only [Ks.least, Ks.most]; first | exact .inl (by omega) | exact .inr (.inl (by omega)) | exact .inr (.inr (.inl ⟨by assumption, by omega⟩)) | exact .inr (.inr (.inr (.inl (by omega)))) | exact .inr (.inr (.inr (.inr ⟨by omega, by omega⟩)))
              subst hAV
              have hct := hR.count
              simp only [List.length_map, vv] at hct
              have hbad := fun (all2 : Rw (Rw ByteArray)) (l2 : all2.l = all.l ++ out.l) (k2 : all2.ok 1) {now' args' : Atom} {left' n' many' : Int} {sm' wr' : Bool} {arg' : Rw Int} => hR.bad hz hw hO.ok (k' := (catQ (q.l.take (i1 + 1).toNat)).length) (by omega) (by rw [bS_len]; exact hcl1) l2 k2 (now' := now') (args' := args') (left' := left') (n' := n') (many' := many') (sm' := sm') (wr := wr') (arg' := arg')
              exact t4_1_wp (n := n) (sm := sm) hq (by omega) (by omega) j0 j1 htd kargs hR.out.2 (by omega) (by omega) (fun all2 l2 k2 => hbad all2 l2 k2 rfl rfl) _ _ (fun t2 ⟨all2, l2, k2, e2⟩ => ⟨⟨_, _, _, _, _, _, _, _, _, _, rfl, by omega, all2, e2, hbad all2 l2 k2 rfl rfl⟩, by show ((q.l.length : Int) - (i1 + 1)).toNat < ((q.l.length : Int) - i1).toNat; omega⟩) _ _ _ _ _ _ _ _ _ _ _ _ _ _ _ _ _ (fun _ => by first | rfl | (simp only [vx, reduceCtorEq, wi1, hsq, hgc, wi, wl]; done)) (fun _ => by first | rfl | (simp only [vx, reduceCtorEq, wi1, hsq, hgc, wi, wl]; done))
             ·refine brP ((p.get i) > 57) (by first | (simp only [vx, reduceCtorEq, wi1, hsq, hgc, wi, wl]; done) | (simp only [vx, reduceCtorEq, wi1, hsq, hgc, wi, wl]; grind)) (fun c54 => ?_) (fun c54 => ?_)
              ·have hw : stepZ m (p.get i) = none := by
                refine num_none hz0 hz1 hσ hR.n hR.sm ?_ ?_
                ·rintro ⟨h1, h2, h3⟩; simp only [Ks.least] at h3; first | omega | exact absurd h2 (by assumption)
                ·simp only [Ks.least, Ks.most]; first | exact .inl (by omega) | exact .inr (.inl (by omega)) | exact .inr (.inr (.inl ⟨by assumption, by omega⟩)) | exact .inr (.inr (.inr (.inl (by omega)))) | exact .inr (.inr (.inr (.inr ⟨by omega, by omega⟩)))
               subst hAV
               have hct := hR.count
               simp only [List.length_map, vv] at hct
               have hbad := fun (all2 : Rw (Rw ByteArray)) (l2 : all2.l = all.l ++ out.l) (k2 : all2.ok 1) {now' args' : Atom} {left' n' many' : Int} {sm' wr' : Bool} {arg' : Rw Int} => hR.bad hz hw hO.ok (k' := (catQ (q.l.take (i1 + 1).toNat)).length) (by omega) (by rw [bS_len]; exact hcl1) l2 k2 (now' := now') (args' := args') (left' := left') (n' := n') (many' := many') (sm' := sm') (wr := wr') (arg' := arg')
               exact t4_1_wp (n := n) (sm := sm) hq (by omega) (by omega) j0 j1 htd kargs hR.out.2 (by omega) (by omega) (fun all2 l2 k2 => hbad all2 l2 k2 rfl rfl) _ _ (fun t2 ⟨all2, l2, k2, e2⟩ => ⟨⟨_, _, _, _, _, _, _, _, _, _, rfl, by omega, all2, e2, hbad all2 l2 k2 rfl rfl⟩, by show ((q.l.length : Int) - (i1 + 1)).toNat < ((q.l.length : Int) - i1).toNat; omega⟩) _ _ _ _ _ _ _ _ _ _ _ _ _ _ _ _ _ (fun _ => by first | rfl | (simp only [vx, reduceCtorEq, wi1, hsq, hgc, wi, wl]; done)) (fun _ => by first | rfl | (simp only [vx, reduceCtorEq, wi1, hsq, hgc, wi, wl]; done))
              ·have wu : IntKind.u8.wrap ((p.get i) - 48) = (p.get i) - 48 := by rw [IntKind.wrap_u8]; omega
               have ww : IntKind.i64.wrap ((p.get i) - 48) = (p.get i) - 48 := wrap_id _ (by omega) (by omega)
               have wm : IntKind.i64.wrap (10 * n) = 10 * n := wrap_id _ (by omega) (by omega)
               have wa : IntKind.i64.wrap (10 * n + ((p.get i) - 48)) = 10 * n + ((p.get i) - 48) := wrap_id _ (by omega) (by omega)
               refine brP (sm = true) (by first | (simp only [vx, reduceCtorEq, wi1, hsq, hgc, wi, wl, wu, ww, wm, wa]; done) | (simp only [vx, reduceCtorEq, wi1, hsq, hgc, wi, wl, wu, ww, wm, wa]; grind)) (fun c55 => ?_) (fun c55 => ?_)
               ·refine brP (n = 0) (by first | (simp only [vx, reduceCtorEq, wi1, hsq, hgc, wi, wl, wu, ww, wm, wa]; done) | (simp only [vx, reduceCtorEq, wi1, hsq, hgc, wi, wl, wu, ww, wm, wa]; grind)) (fun c56 => ?_) (fun c56 => ?_)
                ·have hw : stepZ m (p.get i) = none := by
                  refine num_none hz0 hz1 hσ hR.n hR.sm ?_ ?_
                  ·rintro ⟨h1, h2, h3⟩; simp only [Ks.least] at h3; first | omega | exact absurd h2 (by assumption)
                  ·simp only [Ks.least, Ks.most]; first | exact .inl (by omega) | exact .inr (.inl (by omega)) | exact .inr (.inr (.inl ⟨by assumption, by omega⟩)) | exact .inr (.inr (.inr (.inl (by omega)))) | exact .inr (.inr (.inr (.inr ⟨by omega, by omega⟩)))
                 subst hAV
                 have hct := hR.count
                 simp only [List.length_map, vv] at hct
                 have hbad := fun (all2 : Rw (Rw ByteArray)) (l2 : all2.l = all.l ++ out.l) (k2 : all2.ok 1) {now' args' : Atom} {left' n' many' : Int} {sm' wr' : Bool} {arg' : Rw Int} => hR.bad hz hw hO.ok (k' := (catQ (q.l.take (i1 + 1).toNat)).length) (by omega) (by rw [bS_len]; exact hcl1) l2 k2 (now' := now') (args' := args') (left' := left') (n' := n') (many' := many') (sm' := sm') (wr := wr') (arg' := arg')
                 exact t4_1_wp (n := n) (sm := sm) hq (by omega) (by omega) j0 j1 htd kargs hR.out.2 (by omega) (by omega) (fun all2 l2 k2 => hbad all2 l2 k2 rfl rfl) _ _ (fun t2 ⟨all2, l2, k2, e2⟩ => ⟨⟨_, _, _, _, _, _, _, _, _, _, rfl, by omega, all2, e2, hbad all2 l2 k2 rfl rfl⟩, by show ((q.l.length : Int) - (i1 + 1)).toNat < ((q.l.length : Int) - i1).toNat; omega⟩) _ _ _ _ _ _ _ _ _ _ _ _ _ _ _ _ _ (fun _ => by first | rfl | (simp only [vx, reduceCtorEq, wi1, hsq, hgc, wi, wl, wu, ww, wm, wa]; done)) (fun _ => by first | rfl | (simp only [vx, reduceCtorEq, wi1, hsq, hgc, wi, wl, wu, ww, wm, wa]; done))
                ·refine brP ((10 * n + ((p.get i) - 48)) > 1000) (by first | (simp only [vx, reduceCtorEq, wi1, hsq, hgc, wi, wl, wu, ww, wm, wa]; done) | (simp only [vx, reduceCtorEq, wi1, hsq, hgc, wi, wl, wu, ww, wm, wa]; grind)) (fun c57 => ?_) (fun c57 => ?_)
                 ·have hw : stepZ m (p.get i) = none := by
                   refine num_none hz0 hz1 hσ hR.n hR.sm ?_ ?_
                   ·rintro ⟨h1, h2, h3⟩; simp only [Ks.least] at h3; first | omega | exact absurd h2 (by assumption)
                   ·simp only [Ks.least, Ks.most]; first | exact .inl (by omega) | exact .inr (.inl (by omega)) | exact .inr (.inr (.inl ⟨by assumption, by omega⟩)) | exact .inr (.inr (.inr (.inl (by omega)))) | exact .inr (.inr (.inr (.inr ⟨by omega, by omega⟩)))
                  subst hAV
                  have hct := hR.count
                  simp only [List.length_map, vv] at hct
                  have hbad := fun (all2 : Rw (Rw ByteArray)) (l2 : all2.l = all.l ++ out.l) (k2 : all2.ok 1) {now' args' : Atom} {left' n' many' : Int} {sm' wr' : Bool} {arg' : Rw Int} => hR.bad hz hw hO.ok (k' := (catQ (q.l.take (i1 + 1).toNat)).length) (by omega) (by rw [bS_len]; exact hcl1) l2 k2 (now' := now') (args' := args') (left' := left') (n' := n') (many' := many') (sm' := sm') (wr := wr') (arg' := arg')
                  exact t4_1_wp (n := (10 * n + ((p.get i) - 48))) (sm := true) hq (by omega) (by omega) j0 j1 htd kargs hR.out.2 (by omega) (by omega) (fun all2 l2 k2 => hbad all2 l2 k2 rfl rfl) _ _ (fun t2 ⟨all2, l2, k2, e2⟩ => ⟨⟨_, _, _, _, _, _, _, _, _, _, rfl, by omega, all2, e2, hbad all2 l2 k2 rfl rfl⟩, by show ((q.l.length : Int) - (i1 + 1)).toNat < ((q.l.length : Int) - i1).toNat; omega⟩) _ _ _ _ _ _ _ _ _ _ _ _ _ _ _ _ _ (fun _ => by first | rfl | (simp only [vx, reduceCtorEq, wi1, hsq, hgc, wi, wl, wu, ww, wm, wa]; done)) (fun _ => by first | rfl | (simp only [vx, reduceCtorEq, wi1, hsq, hgc, wi, wl, wu, ww, wm, wa]; done))
                 ·refine brP ((10 * n + ((p.get i) - 48)) = 0) (by first | (simp only [vx, reduceCtorEq, wi1, hsq, hgc, wi, wl, wu, ww, wm, wa]; done) | (simp only [vx, reduceCtorEq, wi1, hsq, hgc, wi, wl, wu, ww, wm, wa]; grind)) (fun c58 => ?_) (fun c58 => ?_)
                  ·refine need_wp (⟨_, _, _, rfl⟩) ?_
                   refine need_wp (by exact kargs) ?_
                   refine need_wp (⟨_, _, _, rfl⟩) ?_
                   refine need_wp (⟨_, _, _, rfl⟩) ?_
                   refine again_wp rfl ⟨(i + 1), now, (left + 1), (10 * n + ((p.get i) - 48)), true, args, many, arg, out, by first | (simp only [vx, reduceCtorEq, wi1, hsq, hgc, wi, wl, wu, ww, wm, wa]; done) | rfl, ?_⟩ ?_
                   ·have hs := num_dig hz0 hz1 hσ hR.n hR.sm (by rintro ⟨h1, h2, h3⟩; simp only [Ks.least] at h3; first | omega | exact absurd h2 (by assumption)) (by omega) (by omega) (by rintro ⟨h1, h2⟩; first | omega | exact absurd h1 (by assumption)) (by simp only [Ks.most]; omega) (by rintro ⟨h1, h2⟩; simp only [Ks.least] at h2; omega); exact ⟨by omega, by omega, _, hR.next' hz hz0 hz1 ht hs (by have := hR.now; rw [hσ] at this; simpa only [hσ] using this) (by first | omega | (simp only; omega)) rfl rfl hR.many (fun h => hR.args h) hR.arg hR.out⟩
                   ·(try simp only [vx, reduceCtorEq, wi1, hsq, hgc, wi, wl, wu, ww, wm, wa]); omega
                  ·refine need_wp (⟨_, _, _, rfl⟩) ?_
                   refine need_wp (by exact kargs) ?_
                   refine need_wp (⟨_, _, _, rfl⟩) ?_
                   refine need_wp (⟨_, _, _, rfl⟩) ?_
                   refine again_wp rfl ⟨(i + 1), now, (left + 1), (10 * n + ((p.get i) - 48)), true, args, many, arg, out, by first | (simp only [vx, reduceCtorEq, wi1, hsq, hgc, wi, wl, wu, ww, wm, wa]; done) | rfl, ?_⟩ ?_
                   ·have hs := num_dig hz0 hz1 hσ hR.n hR.sm (by rintro ⟨h1, h2, h3⟩; simp only [Ks.least] at h3; first | omega | exact absurd h2 (by assumption)) (by omega) (by omega) (by rintro ⟨h1, h2⟩; first | omega | exact absurd h1 (by assumption)) (by simp only [Ks.most]; omega) (by rintro ⟨h1, h2⟩; simp only [Ks.least] at h2; omega); exact ⟨by omega, by omega, _, hR.next' hz hz0 hz1 ht hs (by have := hR.now; rw [hσ] at this; simpa only [hσ] using this) (by first | omega | (simp only; omega)) rfl rfl hR.many (fun h => hR.args h) hR.arg hR.out⟩
                   ·(try simp only [vx, reduceCtorEq, wi1, hsq, hgc, wi, wl, wu, ww, wm, wa]); omega
               ·refine brP ((10 * n + ((p.get i) - 48)) > 1000) (by first | (simp only [vx, reduceCtorEq, wi1, hsq, hgc, wi, wl, wu, ww, wm, wa]; done) | (simp only [vx, reduceCtorEq, wi1, hsq, hgc, wi, wl, wu, ww, wm, wa]; grind)) (fun c59 => ?_) (fun c59 => ?_)
                ·have hw : stepZ m (p.get i) = none := by
                  refine num_none hz0 hz1 hσ hR.n hR.sm ?_ ?_
                  ·rintro ⟨h1, h2, h3⟩; simp only [Ks.least] at h3; first | omega | exact absurd h2 (by assumption)
                  ·simp only [Ks.least, Ks.most]; first | exact .inl (by omega) | exact .inr (.inl (by omega)) | exact .inr (.inr (.inl ⟨by assumption, by omega⟩)) | exact .inr (.inr (.inr (.inl (by omega)))) | exact .inr (.inr (.inr (.inr ⟨by omega, by omega⟩)))
                 subst hAV
                 have hct := hR.count
                 simp only [List.length_map, vv] at hct
                 have hbad := fun (all2 : Rw (Rw ByteArray)) (l2 : all2.l = all.l ++ out.l) (k2 : all2.ok 1) {now' args' : Atom} {left' n' many' : Int} {sm' wr' : Bool} {arg' : Rw Int} => hR.bad hz hw hO.ok (k' := (catQ (q.l.take (i1 + 1).toNat)).length) (by omega) (by rw [bS_len]; exact hcl1) l2 k2 (now' := now') (args' := args') (left' := left') (n' := n') (many' := many') (sm' := sm') (wr := wr') (arg' := arg')
                 exact t4_1_wp (n := (10 * n + ((p.get i) - 48))) (sm := true) hq (by omega) (by omega) j0 j1 htd kargs hR.out.2 (by omega) (by omega) (fun all2 l2 k2 => hbad all2 l2 k2 rfl rfl) _ _ (fun t2 ⟨all2, l2, k2, e2⟩ => ⟨⟨_, _, _, _, _, _, _, _, _, _, rfl, by omega, all2, e2, hbad all2 l2 k2 rfl rfl⟩, by show ((q.l.length : Int) - (i1 + 1)).toNat < ((q.l.length : Int) - i1).toNat; omega⟩) _ _ _ _ _ _ _ _ _ _ _ _ _ _ _ _ _ (fun _ => by first | rfl | (simp only [vx, reduceCtorEq, wi1, hsq, hgc, wi, wl, wu, ww, wm, wa]; done)) (fun _ => by first | rfl | (simp only [vx, reduceCtorEq, wi1, hsq, hgc, wi, wl, wu, ww, wm, wa]; done))
                ·refine brP ((10 * n + ((p.get i) - 48)) = 0) (by first | (simp only [vx, reduceCtorEq, wi1, hsq, hgc, wi, wl, wu, ww, wm, wa]; done) | (simp only [vx, reduceCtorEq, wi1, hsq, hgc, wi, wl, wu, ww, wm, wa]; grind)) (fun c60 => ?_) (fun c60 => ?_)
                 ·refine need_wp (⟨_, _, _, rfl⟩) ?_
                  refine need_wp (by exact kargs) ?_
                  refine need_wp (⟨_, _, _, rfl⟩) ?_
                  refine need_wp (⟨_, _, _, rfl⟩) ?_
                  refine again_wp rfl ⟨(i + 1), now, (left + 1), (10 * n + ((p.get i) - 48)), true, args, many, arg, out, by first | (simp only [vx, reduceCtorEq, wi1, hsq, hgc, wi, wl, wu, ww, wm, wa]; done) | rfl, ?_⟩ ?_
                  ·have hs := num_dig hz0 hz1 hσ hR.n hR.sm (by rintro ⟨h1, h2, h3⟩; simp only [Ks.least] at h3; first | omega | exact absurd h2 (by assumption)) (by omega) (by omega) (by rintro ⟨h1, h2⟩; first | omega | exact absurd h1 (by assumption)) (by simp only [Ks.most]; omega) (by rintro ⟨h1, h2⟩; simp only [Ks.least] at h2; omega); exact ⟨by omega, by omega, _, hR.next' hz hz0 hz1 ht hs (by have := hR.now; rw [hσ] at this; simpa only [hσ] using this) (by first | omega | (simp only; omega)) rfl rfl hR.many (fun h => hR.args h) hR.arg hR.out⟩
                  ·(try simp only [vx, reduceCtorEq, wi1, hsq, hgc, wi, wl, wu, ww, wm, wa]); omega
                 ·refine need_wp (⟨_, _, _, rfl⟩) ?_
                  refine need_wp (by exact kargs) ?_
                  refine need_wp (⟨_, _, _, rfl⟩) ?_
                  refine need_wp (⟨_, _, _, rfl⟩) ?_
                  refine again_wp rfl ⟨(i + 1), now, (left + 1), (10 * n + ((p.get i) - 48)), true, args, many, arg, out, by first | (simp only [vx, reduceCtorEq, wi1, hsq, hgc, wi, wl, wu, ww, wm, wa]; done) | rfl, ?_⟩ ?_
                  ·have hs := num_dig hz0 hz1 hσ hR.n hR.sm (by rintro ⟨h1, h2, h3⟩; simp only [Ks.least] at h3; first | omega | exact absurd h2 (by assumption)) (by omega) (by omega) (by rintro ⟨h1, h2⟩; first | omega | exact absurd h1 (by assumption)) (by simp only [Ks.most]; omega) (by rintro ⟨h1, h2⟩; simp only [Ks.least] at h2; omega); exact ⟨by omega, by omega, _, hR.next' hz hz0 hz1 ht hs (by have := hR.now; rw [hσ] at this; simpa only [hσ] using this) (by first | omega | (simp only; omega)) rfl rfl hR.many (fun h => hR.args h) hR.arg hR.out⟩
                  ·(try simp only [vx, reduceCtorEq, wi1, hsq, hgc, wi, wl, wu, ww, wm, wa]); omega
           ·refine brP (cloB (.some 40) [(.int .u8 10), (.fn 44)] now = true) (by first | (simp only [vx, reduceCtorEq, wi1, hsq, hgc, wi, wl]; done) | (simp only [vx, reduceCtorEq, wi1, hsq, hgc, wi, wl]; grind)) (fun c61 => ?_) (fun c61 => ?_)
            ·have hσ : m.σ = (.lf .szd) := now_of (τ := (.lf .szd)) hR.now c61
             refine brP ((p.get i) ≠ 10) (by first | (simp only [vx, reduceCtorEq, wi1, hsq, hgc, wi, wl]; done) | (simp only [vx, reduceCtorEq, wi1, hsq, hgc, wi, wl]; grind)) (fun c62 => ?_) (fun c62 => ?_)
             ·have hw : stepZ m (p.get i) = none := by rw [sz_lfs hz0 hz1 hσ, if_neg (by omega)]
              subst hAV
              have hct := hR.count
              simp only [List.length_map, vv] at hct
              have hbad := fun (all2 : Rw (Rw ByteArray)) (l2 : all2.l = all.l ++ out.l) (k2 : all2.ok 1) {now' args' : Atom} {left' n' many' : Int} {sm' wr' : Bool} {arg' : Rw Int} => hR.bad hz hw hO.ok (k' := (catQ (q.l.take (i1 + 1).toNat)).length) (by omega) (by rw [bS_len]; exact hcl1) l2 k2 (now' := now') (args' := args') (left' := left') (n' := n') (many' := many') (sm' := sm') (wr := wr') (arg' := arg')
              exact t4_1_wp (n := n) (sm := sm) hq (by omega) (by omega) j0 j1 htd kargs hR.out.2 (by omega) (by omega) (fun all2 l2 k2 => hbad all2 l2 k2 rfl rfl) _ _ (fun t2 ⟨all2, l2, k2, e2⟩ => ⟨⟨_, _, _, _, _, _, _, _, _, _, rfl, by omega, all2, e2, hbad all2 l2 k2 rfl rfl⟩, by show ((q.l.length : Int) - (i1 + 1)).toNat < ((q.l.length : Int) - i1).toNat; omega⟩) _ _ _ _ _ _ _ _ _ _ _ _ _ _ _ _ _ (fun _ => by first | rfl | (simp only [vx, reduceCtorEq, wi1, hsq, hgc, wi, wl]; done)) (fun _ => by first | rfl | (simp only [vx, reduceCtorEq, wi1, hsq, hgc, wi, wl]; done))
             ·refine need_wp (⟨_, _, _, rfl⟩) ?_
              refine brP (0 = n) (by first | (simp only [vx, reduceCtorEq, wi1, hsq, hgc, wi, wl]; done) | (simp only [vx, reduceCtorEq, wi1, hsq, hgc, wi, wl]; grind)) (fun c63 => ?_) (fun c63 => ?_)
              ·refine clo_wp ?_
               intro y8 o8 q8
               refine need_wp (⟨_, _, _, rfl⟩) ?_
               refine need_wp (by exact kargs) ?_
               refine need_wp (⟨_, _, _, rfl⟩) ?_
               refine need_wp (⟨_, _, _, rfl⟩) ?_
               refine again_wp rfl ⟨(i + 1), y8, (left + 1), n, sm, args, many, (Rw.nil : Rw Int), out, by first | (simp only [vx, reduceCtorEq, wi1, hsq, hgc, wi, wl]; done) | (simp only [vx, reduceCtorEq, wi1, hsq, hgc, wi, wl]; rfl) | (simp only [vx, reduceCtorEq, wi1, hsq, hgc, wi, wl, Rw.nil, Rw.atom, List.length_nil, List.map_nil]; done), ?_⟩ ?_
               ·have hs := (sz_lfs hz0 hz1 hσ).trans (if_pos (by omega)); exact ⟨by omega, by omega, _, hR.next' hz hz0 hz1 ht hs (by first | (rw [if_pos (by omega)]; exact q8) | (rw [if_neg (by omega)]; exact q8)) (by first | omega | (simp only; omega)) hR.n hR.sm hR.many (fun _ => hR.args (by rw [hσ]; rfl)) ⟨rfl, .inl rfl⟩ hR.out⟩
               ·(try simp only [vx, reduceCtorEq, wi1, hsq, hgc, wi, wl]); omega
              ·refine clo_wp ?_
               intro y9 o9 q9
               refine need_wp (⟨_, _, _, rfl⟩) ?_
               refine need_wp (by exact kargs) ?_
               refine need_wp (⟨_, _, _, rfl⟩) ?_
               refine need_wp (⟨_, _, _, rfl⟩) ?_
               refine again_wp rfl ⟨(i + 1), y9, (left + 1), n, sm, args, many, (Rw.nil : Rw Int), out, by first | (simp only [vx, reduceCtorEq, wi1, hsq, hgc, wi, wl]; done) | (simp only [vx, reduceCtorEq, wi1, hsq, hgc, wi, wl]; rfl) | (simp only [vx, reduceCtorEq, wi1, hsq, hgc, wi, wl, Rw.nil, Rw.atom, List.length_nil, List.map_nil]; done), ?_⟩ ?_
               ·have hs := (sz_lfs hz0 hz1 hσ).trans (if_pos (by omega)); exact ⟨by omega, by omega, _, hR.next' hz hz0 hz1 ht hs (by first | (rw [if_pos (by omega)]; exact q9) | (rw [if_neg (by omega)]; exact q9)) (by first | omega | (simp only; omega)) hR.n hR.sm hR.many (fun _ => hR.args (by rw [hσ]; rfl)) ⟨rfl, .inl rfl⟩ hR.out⟩
               ·(try simp only [vx, reduceCtorEq, wi1, hsq, hgc, wi, wl]); omega
            ·refine brP (cloB (.some 48) [] now = true) (by first | (simp only [vx, reduceCtorEq, wi1, hsq, hgc, wi, wl]; done) | (simp only [vx, reduceCtorEq, wi1, hsq, hgc, wi, wl]; grind)) (fun c64 => ?_) (fun c64 => ?_)
             ·have hσ : m.σ = .byt := now_of (τ := .byt) hR.now c64
              have hwt := hR.wt
              have hGl : arg.l.length = m.arg.length := by rw [hR.arg.1, bI_len]
              simp only [Wt, hσ] at hwt
              have kA : arg.ok 1 := hR.arg.2
              refine new_wp eB [(p.get i)] (by first | (simp only [vx, reduceCtorEq, wi1, hsq, hgc, wi, wl, eB]; done) | rfl) ?_
              intro a3 b3
              generalize hx3 : (⟨a3, b3, 1, [(p.get i)]⟩ : Rw Int) = x3
              have lx3 : x3.l = [(p.get i)] := by first | (rw [← hx3]; done) | (rw [← hx3]; rfl)
              have zx3 : x3.z = 1 := by rw [← hx3]
              have kx3 : Rw.ok 1 x3 := .inr zx3
              have nx3 : (x3.l.length : Int) = 1 := by first | (rw [← hx3]; done) | (rw [← hx3]; simp [Rw.nil])
              refine need_wp (rw_row _ _) ?_
              refine need_wp (⟨_, _, _, rfl⟩) ?_
              refine need_wp (by first | exact rw_szz (by assumption) | exact rw_szz (.inr rfl)) ?_
              refine need_wp (by simp only [vx, reduceCtorEq, wi1, hsq, hgc, wi, wl, vlen]; first | omega | (grind)) ?_
              refine need_wp (by simp only [vx, reduceCtorEq, wi1, hsq, hgc, wi, wl, vlen]; first | omega | (grind)) ?_
              refine app_wp eB arg x3 (by first | rfl | simp only [vx, reduceCtorEq, wi1, hsq, hgc, wi, wl]) (by first | rfl | simp only [vx, reduceCtorEq, wi1, hsq, hgc, wi, wl]) ?_
              intro a4 b4
              generalize hx4 : (⟨a4, b4, 1, arg.l ++ x3.l⟩ : Rw Int) = x4
              have lx4 : x4.l = arg.l ++ x3.l := by first | (rw [← hx4]; done) | (rw [← hx4]; rfl)
              have zx4 : x4.z = 1 := by rw [← hx4]
              have kx4 : Rw.ok 1 x4 := .inr zx4
              have nx4 : (x4.l.length : Int) = (arg.l.length : Int) + (x3.l.length : Int) := by first | (rw [← hx4]; done) | (rw [← hx4]; simp [Rw.nil])
              refine need_wp (⟨_, _, _, rfl⟩) ?_
              refine brP ((x4.l.length : Int) = n) (by first | (simp only [vx, reduceCtorEq, wi1, hsq, hgc, wi, wl]; done) | (simp only [vx, reduceCtorEq, wi1, hsq, hgc, wi, wl]; grind)) (fun c65 => ?_) (fun c65 => ?_)
              ·refine clo_wp ?_
               intro y10 o10 q10
               refine need_wp (⟨_, _, _, rfl⟩) ?_
               refine need_wp (by exact kargs) ?_
               refine need_wp (⟨_, _, _, rfl⟩) ?_
               refine need_wp (⟨_, _, _, rfl⟩) ?_
               refine again_wp rfl ⟨(i + 1), y10, (left + 1), n, sm, args, many, x4, out, by first | (simp only [vx, reduceCtorEq, wi1, hsq, hgc, wi, wl]; done) | rfl, ?_⟩ ?_
               ·have hs := sz_byt (z := p.get i) hσ; exact ⟨by omega, by omega, _, hR.next' hz hz0 hz1 ht hs (by first | (rw [if_pos (by rw [List.length_append, List.length_singleton]; omega)]; exact q10) | (rw [if_neg (by rw [List.length_append, List.length_singleton]; omega)]; exact q10)) (by first | omega | (simp only; omega)) hR.n hR.sm hR.many (fun _ => hR.args (by rw [hσ]; rfl)) ⟨by rw [lx4, hR.arg.1, lx3, bI_app]; simp only [bI, List.map_cons, List.map_nil, u8_n hz0 hz1], kx4⟩ hR.out⟩
               ·(try simp only [vx, reduceCtorEq, wi1, hsq, hgc, wi, wl]); omega
              ·refine clo_wp ?_
               intro y11 o11 q11
               refine need_wp (⟨_, _, _, rfl⟩) ?_
               refine need_wp (by exact kargs) ?_
               refine need_wp (⟨_, _, _, rfl⟩) ?_
               refine need_wp (⟨_, _, _, rfl⟩) ?_
               refine again_wp rfl ⟨(i + 1), y11, (left + 1), n, sm, args, many, x4, out, by first | (simp only [vx, reduceCtorEq, wi1, hsq, hgc, wi, wl]; done) | rfl, ?_⟩ ?_
               ·have hs := sz_byt (z := p.get i) hσ; exact ⟨by omega, by omega, _, hR.next' hz hz0 hz1 ht hs (by first | (rw [if_pos (by rw [List.length_append, List.length_singleton]; omega)]; exact q11) | (rw [if_neg (by rw [List.length_append, List.length_singleton]; omega)]; exact q11)) (by first | omega | (simp only; omega)) hR.n hR.sm hR.many (fun _ => hR.args (by rw [hσ]; rfl)) ⟨by rw [lx4, hR.arg.1, lx3, bI_app]; simp only [bI, List.map_cons, List.map_nil, u8_n hz0 hz1], kx4⟩ hR.out⟩
               ·(try simp only [vx, reduceCtorEq, wi1, hsq, hgc, wi, wl]); omega
             ·refine brP (cloB (.some 40) [(.int .u8 13), (.fn 46)] now = true) (by first | (simp only [vx, reduceCtorEq, wi1, hsq, hgc, wi, wl]; done) | (simp only [vx, reduceCtorEq, wi1, hsq, hgc, wi, wl]; grind)) (fun c66 => ?_) (fun c66 => ?_)
              ·have hσ : m.σ = .cr := now_of (τ := .cr) hR.now c66
               refine brP ((p.get i) ≠ 13) (by first | (simp only [vx, reduceCtorEq, wi1, hsq, hgc, wi, wl]; done) | (simp only [vx, reduceCtorEq, wi1, hsq, hgc, wi, wl]; grind)) (fun c67 => ?_) (fun c67 => ?_)
               ·have hw : stepZ m (p.get i) = none := by rw [sz_cr hz0 hz1 hσ, if_neg (by omega)]
                subst hAV
                have hct := hR.count
                simp only [List.length_map, vv] at hct
                have hbad := fun (all2 : Rw (Rw ByteArray)) (l2 : all2.l = all.l ++ out.l) (k2 : all2.ok 1) {now' args' : Atom} {left' n' many' : Int} {sm' wr' : Bool} {arg' : Rw Int} => hR.bad hz hw hO.ok (k' := (catQ (q.l.take (i1 + 1).toNat)).length) (by omega) (by rw [bS_len]; exact hcl1) l2 k2 (now' := now') (args' := args') (left' := left') (n' := n') (many' := many') (sm' := sm') (wr := wr') (arg' := arg')
                exact t4_1_wp (n := n) (sm := sm) hq (by omega) (by omega) j0 j1 htd kargs hR.out.2 (by omega) (by omega) (fun all2 l2 k2 => hbad all2 l2 k2 rfl rfl) _ _ (fun t2 ⟨all2, l2, k2, e2⟩ => ⟨⟨_, _, _, _, _, _, _, _, _, _, rfl, by omega, all2, e2, hbad all2 l2 k2 rfl rfl⟩, by show ((q.l.length : Int) - (i1 + 1)).toNat < ((q.l.length : Int) - i1).toNat; omega⟩) _ _ _ _ _ _ _ _ _ _ _ _ _ _ _ _ _ (fun _ => by first | rfl | (simp only [vx, reduceCtorEq, wi1, hsq, hgc, wi, wl]; done)) (fun _ => by first | rfl | (simp only [vx, reduceCtorEq, wi1, hsq, hgc, wi, wl]; done))
               ·refine clo_wp ?_
                intro y12 o12 q12
                refine need_wp (⟨_, _, _, rfl⟩) ?_
                refine need_wp (by exact kargs) ?_
                refine need_wp (⟨_, _, _, rfl⟩) ?_
                refine need_wp (⟨_, _, _, rfl⟩) ?_
                refine again_wp rfl ⟨(i + 1), y12, (left + 1), n, sm, args, many, arg, out, by first | (simp only [vx, reduceCtorEq, wi1, hsq, hgc, wi, wl]; done) | rfl, ?_⟩ ?_
                ·have hs := (sz_cr hz0 hz1 hσ).trans (if_pos (by omega)); exact ⟨by omega, by omega, _, hR.next' hz hz0 hz1 ht hs (q12) (by first | omega | (simp only; omega)) hR.n hR.sm hR.many (fun _ => hR.args (by rw [hσ]; rfl)) hR.arg hR.out⟩
                ·(try simp only [vx, reduceCtorEq, wi1, hsq, hgc, wi, wl]); omega
              ·refine brP (cloB (.some 40) [(.int .u8 10), (.fn 47)] now = true) (by first | (simp only [vx, reduceCtorEq, wi1, hsq, hgc, wi, wl]; done) | (simp only [vx, reduceCtorEq, wi1, hsq, hgc, wi, wl]; grind)) (fun c68 => ?_) (fun c68 => ?_)
               ·have hσ : m.σ = .lf2 := now_of (τ := .lf2) hR.now c68
                obtain ⟨rA, eA, hA1, hA2⟩ := hR.args (by rw [hσ]; rfl)
                subst eA
                have hwt := hR.wt
                have hAl := wS_len m.args
                have hAl2 : rA.l.length = m.args.length := by rw [← hA1, List.length_map]
                have hBs : isB arg.l := by rw [hR.arg.1]; exact isB_bI _
                have kA : arg.ok 1 := hR.arg.2
                simp only [Wt, hσ] at hwt
                have hOl := wO_len m.out
                have hOl2 : out.l.length ≤ m.out.length := by rw [← hR.out.1]; simp [vv]
                have kO : out.ok 1 := hR.out.2.1
                refine brP ((p.get i) ≠ 10) (by first | (simp only [vx, reduceCtorEq, wi1, hsq, hgc, wi, wl]; done) | (simp only [vx, reduceCtorEq, wi1, hsq, hgc, wi, wl]; grind)) (fun c69 => ?_) (fun c69 => ?_)
                ·have hw : stepZ m (p.get i) = none := by rw [sz_lf2 hz0 hz1 hσ, if_neg (by omega)]
                 subst hAV
                 have hct := hR.count
                 simp only [List.length_map, vv] at hct
                 have hbad := fun (all2 : Rw (Rw ByteArray)) (l2 : all2.l = all.l ++ out.l) (k2 : all2.ok 1) {now' args' : Atom} {left' n' many' : Int} {sm' wr' : Bool} {arg' : Rw Int} => hR.bad hz hw hO.ok (k' := (catQ (q.l.take (i1 + 1).toNat)).length) (by omega) (by rw [bS_len]; exact hcl1) l2 k2 (now' := now') (args' := args') (left' := left') (n' := n') (many' := many') (sm' := sm') (wr := wr') (arg' := arg')
                 exact t4_1_wp (n := n) (sm := sm) hq (by omega) (by omega) j0 j1 htd kargs hR.out.2 (by omega) (by omega) (fun all2 l2 k2 => hbad all2 l2 k2 rfl rfl) _ _ (fun t2 ⟨all2, l2, k2, e2⟩ => ⟨⟨_, _, _, _, _, _, _, _, _, _, rfl, by omega, all2, e2, hbad all2 l2 k2 rfl rfl⟩, by show ((q.l.length : Int) - (i1 + 1)).toNat < ((q.l.length : Int) - i1).toNat; omega⟩) _ _ _ _ _ _ _ _ _ _ _ _ _ _ _ _ _ (fun _ => by first | rfl | (simp only [vx, reduceCtorEq, wi1, hsq, hgc, wi, wl]; done)) (fun _ => by first | rfl | (simp only [vx, reduceCtorEq, wi1, hsq, hgc, wi, wl]; done))
                ·refine need_wp (⟨_, _, _, rfl⟩) ?_
                 refine need_wp (by simp only [vx, reduceCtorEq, wi1, hsq, hgc, wi, wl]; exact need_bytes (by assumption) (by assumption)) ?_
                 refine new_wp eS [(ofBytes arg.l)] (by first | (simp only [vx, reduceCtorEq, wi1, hsq, hgc, wi, wl, eS]; done) | rfl) ?_
                 intro a5 b5
                 generalize hx5 : (⟨a5, b5, 1, [(ofBytes arg.l)]⟩ : Rw ByteArray) = x5
                 have lx5 : x5.l = [(ofBytes arg.l)] := by first | (rw [← hx5]; done) | (rw [← hx5]; rfl)
                 have zx5 : x5.z = 1 := by rw [← hx5]
                 have kx5 : Rw.ok 1 x5 := .inr zx5
                 have nx5 : (x5.l.length : Int) = 1 := by first | (rw [← hx5]; done) | (rw [← hx5]; simp [Rw.nil])
                 refine need_wp (rw_row _ _) ?_
                 refine need_wp (⟨_, _, _, rfl⟩) ?_
                 refine need_wp (by first | exact rw_szz (by assumption) | exact rw_szz (.inr rfl)) ?_
                 refine need_wp (by simp only [vx, reduceCtorEq, wi1, hsq, hgc, wi, wl, vlen]; first | omega | (grind)) ?_
                 refine need_wp (by simp only [vx, reduceCtorEq, wi1, hsq, hgc, wi, wl, vlen]; first | omega | (grind)) ?_
                 refine app_wp eS rA x5 (by first | rfl | simp only [vx, reduceCtorEq, wi1, hsq, hgc, wi, wl]) (by first | rfl | simp only [vx, reduceCtorEq, wi1, hsq, hgc, wi, wl]) ?_
                 intro a6 b6
                 generalize hx6 : (⟨a6, b6, 1, rA.l ++ x5.l⟩ : Rw ByteArray) = x6
                 have lx6 : x6.l = rA.l ++ x5.l := by first | (rw [← hx6]; done) | (rw [← hx6]; rfl)
                 have zx6 : x6.z = 1 := by rw [← hx6]
                 have kx6 : Rw.ok 1 x6 := .inr zx6
                 have nx6 : (x6.l.length : Int) = (rA.l.length : Int) + (x5.l.length : Int) := by first | (rw [← hx6]; done) | (rw [← hx6]; simp [Rw.nil])
                 refine need_wp (⟨_, _, _, rfl⟩) ?_
                 refine brP ((x6.l.length : Int) < many) (by first | (simp only [vx, reduceCtorEq, wi1, hsq, hgc, wi, wl]; done) | (simp only [vx, reduceCtorEq, wi1, hsq, hgc, wi, wl]; grind)) (fun c70 => ?_) (fun c70 => ?_)
                 ·refine clo_wp ?_
                  intro y13 o13 q13
                  refine need_wp (⟨_, _, _, rfl⟩) ?_
                  refine need_wp (⟨_, _, _, rfl⟩) ?_
                  refine need_wp (⟨_, _, _, rfl⟩) ?_
                  refine need_wp (⟨_, _, _, rfl⟩) ?_
                  refine again_wp rfl ⟨(i + 1), y13, (left + 1), n, sm, (Rw.atom eS x6), many, arg, out, by first | (simp only [vx, reduceCtorEq, wi1, hsq, hgc, wi, wl]; done) | rfl, ?_⟩ ?_
                  ·have hs := ((sz_lf2 hz0 hz1 hσ).trans (if_pos (by omega))).trans (if_pos (by rw [List.length_append, List.length_singleton]; have := hR.many; omega)); exact ⟨by omega, by omega, _, hR.next' hz hz0 hz1 ht hs q13 (by first | omega | (simp only; omega)) hR.n hR.sm hR.many (fun _ => ⟨x6, rfl, by rw [lx6, List.map_append, hA1, lx5]; simp [hR.arg.1, ls_ofBytes], kx6⟩) hR.arg hR.out⟩
                  ·(try simp only [vx, reduceCtorEq, wi1, hsq, hgc, wi, wl]); omega
                 ·refine new_wp eL [x6] (by first | (simp only [vx, reduceCtorEq, wi1, hsq, hgc, wi, wl, eL]; done) | rfl) ?_
                  intro a7 b7
                  generalize hx7 : (⟨a7, b7, 1, [x6]⟩ : Rw (Rw ByteArray)) = x7
                  have lx7 : x7.l = [x6] := by first | (rw [← hx7]; done) | (rw [← hx7]; rfl)
                  have zx7 : x7.z = 1 := by rw [← hx7]
                  have kx7 : Rw.ok 1 x7 := .inr zx7
                  have nx7 : (x7.l.length : Int) = 1 := by first | (rw [← hx7]; done) | (rw [← hx7]; simp [Rw.nil])
                  refine need_wp (⟨_, _, rfl⟩) ?_
                  refine need_wp (⟨_, _, _, rfl⟩) ?_
                  refine need_wp (by first | exact rw_szz (by assumption) | exact rw_szz (.inr rfl)) ?_
                  refine need_wp (by simp only [vx, reduceCtorEq, wi1, hsq, hgc, wi, wl, vlen]; first | omega | (grind)) ?_
                  refine need_wp (by simp only [vx, reduceCtorEq, wi1, hsq, hgc, wi, wl, vlen]; first | omega | (grind)) ?_
                  refine app_wp eL (Rw.nil : Rw (Rw ByteArray)) x7 (by first | rfl | simp only [vx, reduceCtorEq, wi1, hsq, hgc, wi, wl]) (by first | rfl | simp only [vx, reduceCtorEq, wi1, hsq, hgc, wi, wl]) ?_
                  intro a8 b8
                  generalize hx8 : (⟨a8, b8, 1, (Rw.nil : Rw (Rw ByteArray)).l ++ x7.l⟩ : Rw (Rw ByteArray)) = x8
                  have lx8 : x8.l = x7.l := by first | (rw [← hx8]; done) | (rw [← hx8]; rfl) | (rw [← hx8]; simp [Rw.nil])
                  have zx8 : x8.z = 1 := by rw [← hx8]
                  have kx8 : Rw.ok 1 x8 := .inr zx8
                  have nx8 : (x8.l.length : Int) = 0 + (x7.l.length : Int) := by first | (rw [← hx8]; done) | (rw [← hx8]; simp [Rw.nil])
                  refine clo_wp ?_
                  intro y14 o14 q14
                  refine need_wp (⟨_, _, _, rfl⟩) ?_
                  refine brP (0 < (x8.l.length : Int)) (by first | (simp only [vx, reduceCtorEq, wi1, hsq, hgc, wi, wl]; done) | (simp only [vx, reduceCtorEq, wi1, hsq, hgc, wi, wl]; grind)) (fun c71 => ?_) (fun c71 => ?_)
                  ·have hg := cell_L x8 (i := 0) (by omega) c71
                   have hg6 : x8.get 0 = x6 := by unfold Rw.get; rw [lx8, lx7]; rfl
                   refine need_wp (⟨_, _, _, rfl⟩) ?_
                   refine need_wp (rw_row _ _) ?_
                   refine need_wp (⟨_, _, _, rfl⟩) ?_
                   refine need_wp (rw_row _ _) ?_
                   refine need_wp (rw_sz' zx8) ?_
                   refine need_wp (by simp only [vx, reduceCtorEq, wi1, hsq, hgc, wi, wl, hg]; first | exact ⟨_, _, _, rfl⟩ | exact kind_Rl (by omega) (by omega)) ?_
                   refine new_wp eL [(x8.get 0)] (by first | (simp only [vx, reduceCtorEq, wi1, hsq, hgc, wi, wl, hg, eL]; done) | rfl) ?_
                   intro a9 b9
                   generalize hx9 : (⟨a9, b9, 1, [(x8.get 0)]⟩ : Rw (Rw ByteArray)) = x9
                   have lx9 : x9.l = [(x8.get 0)] := by first | (rw [← hx9]; done) | (rw [← hx9]; rfl)
                   have zx9 : x9.z = 1 := by rw [← hx9]
                   have kx9 : Rw.ok 1 x9 := .inr zx9
                   have nx9 : (x9.l.length : Int) = 1 := by first | (rw [← hx9]; done) | (rw [← hx9]; simp [Rw.nil])
                   refine need_wp (rw_row _ _) ?_
                   refine need_wp (⟨_, _, _, rfl⟩) ?_
                   refine need_wp (by first | exact rw_szz (by assumption) | exact rw_szz (.inr rfl)) ?_
                   refine need_wp (by simp only [vx, reduceCtorEq, wi1, hsq, hgc, wi, wl, hg, vlen]; first | omega | (grind)) ?_
                   refine need_wp (by simp only [vx, reduceCtorEq, wi1, hsq, hgc, wi, wl, hg, vlen]; first | omega | (grind)) ?_
                   refine app_wp eL out x9 (by first | rfl | simp only [vx, reduceCtorEq, wi1, hsq, hgc, wi, wl, hg]) (by first | rfl | simp only [vx, reduceCtorEq, wi1, hsq, hgc, wi, wl, hg]) ?_
                   intro a10 b10
                   generalize hx10 : (⟨a10, b10, 1, out.l ++ x9.l⟩ : Rw (Rw ByteArray)) = x10
                   have lx10 : x10.l = out.l ++ x9.l := by first | (rw [← hx10]; done) | (rw [← hx10]; rfl)
                   have zx10 : x10.z = 1 := by rw [← hx10]
                   have kx10 : Rw.ok 1 x10 := .inr zx10
                   have nx10 : (x10.l.length : Int) = (out.l.length : Int) + (x9.l.length : Int) := by first | (rw [← hx10]; done) | (rw [← hx10]; simp [Rw.nil])
                   refine brP (1 < (x8.l.length : Int)) (by first | (simp only [vx, reduceCtorEq, wi1, hsq, hgc, wi, wl, hg]; done) | (simp only [vx, reduceCtorEq, wi1, hsq, hgc, wi, wl, hg]; grind)) (fun c72 => ?_) (fun c72 => ?_)
                   ·exfalso; omega
                   ·refine need_wp (by first | exact ⟨_, _, _, rfl⟩ | (simp only [vx, reduceCtorEq, wi1, hsq, hgc, wi, wl, hg]; exact ⟨_, _, _, rfl⟩)) ?_
                    refine need_wp (⟨_, _, _, rfl⟩) ?_
                    refine need_wp (⟨_, _, _, rfl⟩) ?_
                    refine again_wp rfl ⟨(i + 1), y14, 0, n, sm, ((Rw.atom eS x6).1, D.leaf), many, arg, x10, by first | (simp only [vx, reduceCtorEq, wi1, hsq, hgc, wi, wl, hg]; done) | rfl, ?_⟩ ?_
                    ·have hs := ((sz_lf2 hz0 hz1 hσ).trans (if_pos (by omega))).trans (if_neg (by rw [List.length_append, List.length_singleton]; have := hR.many; omega)); exact ⟨by omega, by omega, _, hR.next' hz hz0 hz1 ht hs q14 (by first | omega | (simp only; omega)) hR.n hR.sm hR.many (fun h => by simp [hasA] at h) hR.arg ⟨by rw [vv, lx10, lx9, List.map_append, List.map_append, hg6, ← hR.out.1]; simp [vv, lx6, lx5, hA1, hR.arg.1, ls_ofBytes], kx10, by intro y hy; rw [lx10, lx9, hg6] at hy; rcases List.mem_append.1 hy with h | h; exact hR.out.2.2 y h; rw [List.mem_singleton.1 h]; exact kx6⟩⟩
                    ·(try simp only [vx, reduceCtorEq, wi1, hsq, hgc, wi, wl, hg]); omega
                  ·exfalso; omega
               ·exfalso; first | omega | (have hq := hR.now; cases hσ : m.σ <;> (try (rename_i k; cases k)) <;> rw [hσ] at hq <;> simp only [Now] at hq <;> contradiction)
      ·have hi : i = p.l.length := by omega
       refine pop_wp ?_
       refine need_wp (⟨_, _, _, rfl⟩) ?_
       refine need_wp (by first | exact rw_szz (by assumption) | exact rw_szz (.inr rfl)) ?_
       refine need_wp (by simp only [vx, reduceCtorEq, wi1, hsq, hgc, vlen]; first | omega | (grind)) ?_
       refine need_wp (by simp only [vx, reduceCtorEq, wi1, hsq, hgc, vlen]; first | omega | (grind)) ?_
       refine call_rel ((q.sub 1 0 (i1 + 1))) rfl (by first | (simp only [vx, reduceCtorEq, wi1, hsq, hgc]; done) | (simp only [vx, reduceCtorEq, wi1, hsq, hgc]; rfl)) (⟨hoq, by rw [hsl, List.length_take]; omega, by rw [hsl]; omega⟩) ?_
       rintro z13 ⟨ez13, oz13⟩
       try dsimp only at ez13 oz13
       refine call_rel (z13) rfl (by first | (simp only [vx, reduceCtorEq, wi1, hsq, hgc]; done) | (simp only [vx, reduceCtorEq, wi1, hsq, hgc]; rfl)) (⟨oz13, by rw [ez13, hsl]; exact catQ_B hq _, by have hzn : (z13.l.length : Int) = ((catQ (q.l.take (i1 + 1).toNat)).length : Int) := (by rw [ez13, hsl]); omega⟩) ?_
       rintro ⟨x14, n14, e14⟩ w14
       try dsimp only at w14
       have hzl : bS z13.l = (bS (catQ q.l)).take (catQ (q.l.take (i1 + 1).toNat)).length := by rw [ez13, hsl]; exact catQ_pre _ _
       have hzn : (z13.l.length : Int) = ((catQ (q.l.take (i1 + 1).toNat)).length : Int) := by rw [ez13, hsl]
       subst hAV
       have hct := hR.count
       simp only [List.length_map, vv] at hct
       have hkq : k0 + i.toNat = (catQ (q.l.take (i1 + 1).toNat)).length := by omega
       rw [hkq] at hR
       have hle9 := hR.left
       have hlm9 := hR.lft
       have hko9 := hR.out.2
       obtain ⟨al2, hl2, hk2⟩ : ∃ a : Rw (Rw ByteArray), a.l = all.l ++ out.l ∧ a.ok 1 := ⟨⟨none, 0, 1, all.l ++ out.l⟩, rfl, .inr rfl⟩
       have hF2 := hR.back hO.ok hl2 hk2 (wr := wr) (by simpa using c5)
       obtain ⟨hv, hev, hlf, hl0, hxl, hxr, kx2⟩ := fin4 hzl (by rw [ez13, hsl]; exact catQ_B hq _) (by omega) w14 hF2
       obtain ⟨hln, hcm⟩ := cmp4 hl2 hv
       have kxx : x14.ok 1 := kx2.1
       have hlf2 := hlf (by simpa using c5)
       have wtd : IntKind.i64.wrap ((x14.l.length : Int) - td) = (x14.l.length : Int) - td := wrap_id _ (by omega) (by omega)
       have wtl : IntKind.i64.wrap ((z13.l.length : Int) - n14) = (z13.l.length : Int) - n14 := wrap_id _ (by omega) (by omega)
       refine brP (e14 = true) (by first | (simp only [vx, reduceCtorEq, wi1, hsq, hgc, wtd, wtl]; done) | (simp only [vx, reduceCtorEq, wi1, hsq, hgc, wtd, wtl]; grind)) (fun c73 => ?_) (fun c73 => ?_)
       ·exfalso; exact c5 (hev.symm.trans c73)
       ·refine brP (wr = e14) (by first | (simp only [vx, reduceCtorEq, wi1, hsq, hgc, wtd, wtl]; done) | (simp only [vx, reduceCtorEq, wi1, hsq, hgc, wtd, wtl]; grind)) (fun c74 => ?_) (fun c74 => ?_)
        ·refine need_wp (⟨_, _, _, rfl⟩) ?_
         refine need_wp (⟨_, _, _, rfl⟩) ?_
         refine brP ((out.l.length : Int) ≠ ((x14.l.length : Int) - td)) (by first | (simp only [vx, reduceCtorEq, wi1, hsq, hgc, wtd, wtl]; done) | (simp only [vx, reduceCtorEq, wi1, hsq, hgc, wtd, wtl]; grind)) (fun c75 => ?_) (fun c75 => ?_)
         ·exfalso; omega
         ·refine need_wp (⟨_, _, _, rfl⟩) ?_
          refine brP (left ≠ ((z13.l.length : Int) - n14)) (by first | (simp only [vx, reduceCtorEq, wi1, hsq, hgc, wtd, wtl]; done) | (simp only [vx, reduceCtorEq, wi1, hsq, hgc, wtd, wtl]; grind)) (fun c76 => ?_) (fun c76 => ?_)
          ·exfalso; omega
          ·refine loop_wp (fun bs0 => ∃ (k9 : Int), bs0 = [aI k9] ∧ (0 ≤ k9)) (fun bs0 => ((out.l.length : Int) - vi (bs0.getD 0 atom0).1).toNat) ?_ ?_
           ·refine ⟨0, by first | (simp only [vx, reduceCtorEq, wi1, hsq, hgc, wtd, wtl]; done) | (simp only [vx, reduceCtorEq, wi1, hsq, hgc, wtd, wtl]; rfl) | simp only [vx, reduceCtorEq, wi1, hsq, hgc, wtd, wtl, Rw.atom, Rw.nil, List.length_nil, List.map_nil], ?_⟩
            exact (by omega : (0 : Int) ≤ 0)
           rintro _ _ ⟨k9, rfl, k90⟩
           refine need_wp (⟨_, _, _, rfl⟩) ?_
           refine brP (k9 < (out.l.length : Int)) (by first | (simp only [vx, reduceCtorEq, wi1, hsq, hgc, wtd, wtl]; done) | (simp only [vx, reduceCtorEq, wi1, hsq, hgc, wtd, wtl]; grind)) (fun c77 => ?_) (fun c77 => ?_)
           ·have hca := cell_L out (i := k9) k90 c77
            have hcb := cell_L x14 (i := td + k9) (by omega) (by omega)
            have wk : IntKind.i64.wrap (td + k9) = td + k9 := wrap_id _ (by omega) (by omega)
            have wk9 : IntKind.i64.wrap (k9 + 1) = k9 + 1 := wrap_id _ (by omega) (by omega)
            have hcm9 := hcm k9 k90 c77
            rw [← htd] at hcm9
            have kg1 : (out.get k9).ok 1 := hko9.2 _ (get_memL k90 c77)
            have kg2 : (x14.get (td + k9)).ok 1 := kx2.2 _ (get_memL (by omega) (by omega))
            have kg3 : ((out.get k9).l.length : Int) ≤ 2000 := by rw [hcm9]; exact hxr _ (get_memL (by omega) (by omega))
            refine need_wp (⟨_, _, _, rfl⟩) ?_
            refine need_wp (rw_row _ _) ?_
            refine need_wp (by simp only [vx, reduceCtorEq, wi1, hsq, hgc, wtd, wtl, wk, wk9, hca, hcb, vlen]; first | omega | (grind)) ?_
            refine need_wp (⟨_, _, _, rfl⟩) ?_
            refine need_wp (rw_row _ _) ?_
            refine need_wp (by simp only [vx, reduceCtorEq, wi1, hsq, hgc, wtd, wtl, wk, wk9, hca, hcb, vlen]; first | omega | (grind)) ?_
            refine need_wp (by simp only [vx, reduceCtorEq, wi1, hsq, hgc, wtd, wtl, wk, wk9, hca, hcb, vlen]; first | omega | (grind)) ?_
            refine need_wp (⟨_, _, _, rfl⟩) ?_
            refine need_wp (rw_row _ _) ?_
            refine need_wp (by first | exact rw_sz' rfl | exact rw_szn (by assumption) (.inr (by omega)) | (simp only [vx, reduceCtorEq, wi1, hsq, hgc, wtd, wtl, wk, wk9, hca, hcb]; exact rw_szn (by assumption) (.inr (by omega))) | exact rw_szn (by simp [Rw.ok]) (.inr (by omega))) ?_
            refine need_wp (by simp only [vx, reduceCtorEq, wi1, hsq, hgc, wtd, wtl, wk, wk9, hca, hcb]; first | exact ⟨_, _, _, rfl⟩ | exact kind_Rl (by omega) (by omega)) ?_
            refine need_wp (⟨_, _, _, rfl⟩) ?_
            refine need_wp (rw_row _ _) ?_
            refine need_wp (by first | exact rw_sz' rfl | exact rw_szn (by assumption) (.inr (by omega)) | (simp only [vx, reduceCtorEq, wi1, hsq, hgc, wtd, wtl, wk, wk9, hca, hcb]; exact rw_szn (by assumption) (.inr (by omega))) | exact rw_szn (by simp [Rw.ok]) (.inr (by omega))) ?_
            refine need_wp (by simp only [vx, reduceCtorEq, wi1, hsq, hgc, wtd, wtl, wk, wk9, hca, hcb]; first | exact ⟨_, _, _, rfl⟩ | exact kind_Rl (by omega) (by omega)) ?_
            refine call_fun (((out.get k9), (x14.get (td + k9)))) rfl (by first | (simp only [vx, reduceCtorEq, wi1, hsq, hgc, wtd, wtl, wk, wk9, hca, hcb]; done) | (simp only [vx, reduceCtorEq, wi1, hsq, hgc, wtd, wtl, wk, wk9, hca, hcb]; rfl)) (⟨kg1, kg2, by dsimp only; omega⟩) ?_
            refine brP ((out.get k9).l = (x14.get (td + k9)).l) (by first | (simp only [vx, reduceCtorEq, wi1, hsq, hgc, wtd, wtl, wk, wk9, hca, hcb]; done) | (simp only [vx, reduceCtorEq, wi1, hsq, hgc, wtd, wtl, wk, wk9, hca, hcb]; grind)) (fun c78 => ?_) (fun c78 => ?_)
            ·refine again_wp rfl ⟨(k9 + 1), by simp only [vx, reduceCtorEq, wi1, hsq, hgc, wtd, wtl, wk, wk9, hca, hcb], ?_⟩ ?_
             ·exact (by omega : (0 : Int) ≤ k9 + 1)
             ·(try simp only [vx, reduceCtorEq, wi1, hsq, hgc, wtd, wtl, wk, wk9, hca, hcb]); omega
            ·exfalso; exact c78 hcm9
           ·refine pop_wp ?_
            refine need_wp (⟨_, _, _, rfl⟩) ?_
            refine need_wp (by exact kargs) ?_
            refine need_wp (⟨_, _, _, rfl⟩) ?_
            refine again_wp rfl ⟨(i1 + 1), (x14.l.length : Int), now, wr, left, n, sm, args, many, arg, by first | (simp only [vx, reduceCtorEq, wi1, hsq, hgc, wtd, wtl]; done) | rfl, ?_⟩ ?_
            ·exact ⟨by omega, al2, by rw [hl2, List.length_append]; omega, hF2⟩
            ·(try simp only [vx, reduceCtorEq, wi1, hsq, hgc, wtd, wtl]); omega
        ·exfalso; exact c74 hev.symm
    ·refine pop_wp ?_
     refine call_fun (()) rfl (by first | (simp only [vx, reduceCtorEq]; done) | (simp only [vx, reduceCtorEq]; rfl)) trivial ?_
     refine ret_wp ?_
     try dsimp only
     first | (simp only [vx, reduceCtorEq]; done) | (exfalso; omega)
end Go.Proofs.YtamjocnlhhhijaaK
