import Derived.Test.YtbcbjgomnhajdaaDoorVRDE42m
import Derived.Test.YtbcbjgomnhajdaaDoorVRDB1m
import Derived.Test.YtbcbjgomnhajdaaDoorVRDp2m
set_option linter.unusedSimpArgs false
set_option linter.unusedVariables false
set_option linter.unnecessarySimpa false
namespace Go.Proofs.YtbcbjgomnhajdaaDoorK
open Go Go.Proofs.YtbcbjgomnhajdaaDoorV Go.Proofs Go.Proofs.YtbcbjgomnhajdaaDoorK Go.Proofs.YtbcbjgomnhajdaaDoorK
def kLaw3 (sg : Sig) : Sig × Con := (sg, mkFun (fun x : Rw Int × Rw Int × Gh => ([Rw.atom eB x.1, Rw.atom eB x.2.1, Rw.atom eF x.2.2.a, Rw.atom eF x.2.2.b] : List Atom)) (fun x => (x.1.ok 1 ∧ isB x.1.l) ∧ (x.2.1.ok 1 ∧ isB x.2.1.l) ∧ pG x.2.2) (fun _ => [aB true]))
set_option maxHeartbeats 1000000 in
theorem h3 : holds Tryd.prog (kLaw3 sg3) := by
  refine fn_holdsH (inl := []) (l := [kKnown sg7, kDec sg8, kRight sg9, kEnc sg11, kSameB sg10, kSame sg12]) ⟨h7, h8, h9, h11, h10, h12, trivial⟩ trivial hP gh3 rs3 (inj_of (fun l : List Atom => ((Rw.un unI (l.getD 0 atom0), Rw.un unI (l.getD 1 atom0), (⟨Rw.un unF (l.getD 2 atom0), Rw.un unF (l.getD 3 atom0)⟩ : Gh)) : Rw Int × Rw Int × Gh)) (fun _ => by simp [List.getD_cons_zero, List.getD_cons_succ, unA_atom, unF_at])) Tryd.func3 (by kernel_rfl) (c := code Tryd.f3) (by kernel_rfl) (an := an3) (by kernel_rfl) (pk := pk3g) rfl (t := t3) (by kernel_rfl) ?_
  rintro ⟨a, b, q⟩ hnil ⟨⟨ka, hA⟩, ⟨kb, hB⟩, hq⟩
  refine ⟨by simp [pk3g, pk3, KindsOk, RK.ok, Rw.atom, Sl.atom], ?_⟩
  unfold t3
  dsimp only at ka hA kb hB hq
  refine need_wp (by first | exact ⟨_, _, _, rfl⟩ | (simp only [vd, reduceCtorEq, Option.some.injEq, ve, updD]; exact ⟨_, _, _, rfl⟩)) ?_
  refine br_wp (fun c1 => ?_) (fun c1 => ?_)
  · replace c1 : (a.l.length : Int) > 1000 := by first | simpa only [vd, reduceCtorEq, Option.some.injEq, ve, updD] using c1 | (simp only [vd, reduceCtorEq, Option.some.injEq, ve, updD] at c1; grind)
    refine call_fun (()) rfl (by first | (simp only [vd, reduceCtorEq, Option.some.injEq, ve, updD]; done) | (simp only [vd, reduceCtorEq, Option.some.injEq, ve, updD]; rfl)) trivial ?_
    refine ret_wp ?_
    try dsimp only
    rfl
  · replace c1 : ¬((a.l.length : Int) > 1000) := by first | simpa only [vd, reduceCtorEq, Option.some.injEq, ve, updD] using c1 | (simp only [vd, reduceCtorEq, Option.some.injEq, ve, updD] at c1; grind)
    refine need_wp (by first | exact ⟨_, _, _, rfl⟩ | (simp only [vd, reduceCtorEq, Option.some.injEq, ve, updD]; exact ⟨_, _, _, rfl⟩)) ?_
    refine br_wp (fun c2 => ?_) (fun c2 => ?_)
    · replace c2 : (b.l.length : Int) > 1000 := by first | simpa only [vd, reduceCtorEq, Option.some.injEq, ve, updD] using c2 | (simp only [vd, reduceCtorEq, Option.some.injEq, ve, updD] at c2; grind)
      refine call_fun (()) rfl (by first | (simp only [vd, reduceCtorEq, Option.some.injEq, ve, updD]; done) | (simp only [vd, reduceCtorEq, Option.some.injEq, ve, updD]; rfl)) trivial ?_
      refine ret_wp ?_
      try dsimp only
      rfl
    · replace c2 : ¬((b.l.length : Int) > 1000) := by first | simpa only [vd, reduceCtorEq, Option.some.injEq, ve, updD] using c2 | (simp only [vd, reduceCtorEq, Option.some.injEq, ve, updD] at c2; grind)
      refine call_rel ((a, q)) rfl (by first | (simp only [vd, reduceCtorEq, Option.some.injEq, ve, updD]; done) | (simp only [vd, reduceCtorEq, Option.some.injEq, ve, updD]; rfl)) (⟨ka, hA, by dsimp only; omega, hq⟩) ?_
      rintro ⟨y1, n1, e1⟩ ⟨ed1, od1⟩
      try dsimp only at ed1 od1
      refine call_rel ((b, q)) rfl (by first | (simp only [vd, reduceCtorEq, Option.some.injEq, ve, updD]; done) | (simp only [vd, reduceCtorEq, Option.some.injEq, ve, updD]; rfl)) (⟨kb, hB, by dsimp only; omega, hq⟩) ?_
      rintro ⟨y2, n2, e2⟩ ⟨ed2, od2⟩
      try dsimp only at ed2 od2
      obtain ⟨D1, E1⟩ := dec_pk hA ed1
      obtain ⟨D2, E2⟩ := dec_pk hB ed2
      refine br_wp (fun c3 => ?_) (fun c3 => ?_)
      · replace c3 : e1 = 0 := by first | simpa only [vd, reduceCtorEq, Option.some.injEq, ve, updD] using c3 | (simp only [vd, reduceCtorEq, Option.some.injEq, ve, updD] at c3; grind)
        obtain ⟨p1, p2, p3, p4, p5, p6⟩ := D1 c3
        have ly1 : y1.l.l.length ≤ 140737488355328 := by have := lenV_len y1; omega
        refine need_wp (by first | exact ⟨_, _, _, rfl⟩ | (simp only [vd, reduceCtorEq, Option.some.injEq, ve, updD]; exact ⟨_, _, _, rfl⟩)) ?_
        refine br_wp (fun c4 => ?_) (fun c4 => ?_)
        · replace c4 : n1 > (a.l.length : Int) := by first | simpa only [vd, reduceCtorEq, Option.some.injEq, ve, updD] using c4 | (simp only [vd, reduceCtorEq, Option.some.injEq, ve, updD] at c4; grind)
          exfalso; omega
        · replace c4 : ¬(n1 > (a.l.length : Int)) := by first | simpa only [vd, reduceCtorEq, Option.some.injEq, ve, updD] using c4 | (simp only [vd, reduceCtorEq, Option.some.injEq, ve, updD] at c4; grind)
          refine call_fun (y1) rfl (by first | (simp only [vd, reduceCtorEq, Option.some.injEq, ve, updD]; done) | (simp only [vd, reduceCtorEq, Option.some.injEq, ve, updD]; rfl)) (⟨od1, by omega⟩) ?_
          refine br_wp (fun c5 => ?_) (fun c5 => ?_)
          · replace c5 : plV y1.v = y1.v := by first | simpa only [vd, reduceCtorEq, Option.some.injEq, ve, updD] using c5 | (simp only [vd, reduceCtorEq, Option.some.injEq, ve, updD] at c5; grind)
            refine need_wp (by first | exact ⟨_, _, _, rfl⟩ | (simp only [vd, reduceCtorEq, Option.some.injEq, ve, updD]; exact ⟨_, _, _, rfl⟩)) ?_
            refine need_wp (by first | exact rw_szz (by assumption) | exact rw_szz (.inr rfl)) ?_
            refine need_wp (by simp only [vd, reduceCtorEq, Option.some.injEq, ve, updD, List.length_cons, List.length_nil, List.length_append, List.length_set]; first | omega | (grind)) ?_
            refine need_wp (by simp only [vd, reduceCtorEq, Option.some.injEq, ve, updD, List.length_cons, List.length_nil, List.length_append, List.length_set]; first | omega | (grind)) ?_
            refine new_wp eP [y1] (by first | (simp only [vd, reduceCtorEq, Option.some.injEq, ve, updD, eP]; done) | rfl) ?_
            intro a3 b3
            generalize hx3 : (⟨a3, b3, 4, [y1]⟩ : Rw Rep) = x3
            have lx3 : x3.l = [y1] := by first | (rw [← hx3]; done) | (rw [← hx3]; rfl)
            have zx3 : x3.z = 4 := by rw [← hx3]
            have kx3 : Rw.ok 4 x3 := .inr zx3
            have nx3 : (x3.l.length : Int) = 1 := by first | (rw [← hx3]; done) | (rw [← hx3]; simp [Rw.nil])
            refine call_rel (x3) rfl (by first | (simp only [vd, reduceCtorEq, Option.some.injEq, ve, updD]; done) | (simp only [vd, reduceCtorEq, Option.some.injEq, ve, updD]; rfl)) (okR_one lx3 (.inr zx3) ⟨od1, by omega⟩ p5) ?_
            rintro z4 ⟨ez4, oz4⟩
            try dsimp only at ez4 oz4
            have hs1 := sub_rw (e := eB) (r := a) (z := 1) (i := 0) (j := n1) ka (by omega) p1 p2
            refine call_fun ((z4, (a.sub 1 0 n1))) rfl (by first | (simp only [vd, reduceCtorEq, Option.some.injEq, ve, updD, hs1]; done) | (simp only [vd, reduceCtorEq, Option.some.injEq, ve, updD, hs1]; rfl)) (⟨⟨oz4, by rw [ez4]; exact isB_bi _⟩, ok_rsub ka _ _, isB_rsub hA _ _⟩) ?_
            refine br_wp (fun c6 => ?_) (fun c6 => ?_)
            · replace c6 : ofBytes z4.l = ofBytes (a.sub 1 0 n1).l := by first | simpa only [vd, reduceCtorEq, Option.some.injEq, ve, updD, hs1] using c6 | (simp only [vd, reduceCtorEq, Option.some.injEq, ve, updD, hs1] at c6; grind)
              refine br_wp (fun c7 => ?_) (fun c7 => ?_)
              · replace c7 : e1 ≠ 0 := by first | simpa only [vd, reduceCtorEq, Option.some.injEq, ve, updD, hs1] using c7 | (simp only [vd, reduceCtorEq, Option.some.injEq, ve, updD, hs1] at c7; grind)
                exfalso; exact c7 c3
              · replace c7 : ¬(e1 ≠ 0) := by first | simpa only [vd, reduceCtorEq, Option.some.injEq, ve, updD, hs1] using c7 | (simp only [vd, reduceCtorEq, Option.some.injEq, ve, updD, hs1] at c7; grind)
                refine br_wp (fun c12 => ?_) (fun c12 => ?_)
                · replace c12 : e2 ≠ 0 := by first | simpa only [vd, reduceCtorEq, Option.some.injEq, ve, updD, hs1] using c12 | (simp only [vd, reduceCtorEq, Option.some.injEq, ve, updD, hs1] at c12; grind)
                  refine call_fun (()) rfl (by first | (simp only [vd, reduceCtorEq, Option.some.injEq, ve, updD, hs1]; done) | (simp only [vd, reduceCtorEq, Option.some.injEq, ve, updD, hs1]; rfl)) trivial ?_
                  refine ret_wp ?_
                  try dsimp only
                  rfl
                · replace c12 : ¬(e2 ≠ 0) := by first | simpa only [vd, reduceCtorEq, Option.some.injEq, ve, updD, hs1] using c12 | (simp only [vd, reduceCtorEq, Option.some.injEq, ve, updD, hs1] at c12; grind)
                  have z2 : e2 = 0 := Decidable.not_not.1 c12
                  obtain ⟨r1, r2, r3, r4, r5, r6⟩ := D2 z2
                  refine need_wp (by first | exact ⟨_, _, _, rfl⟩ | (simp only [vd, reduceCtorEq, Option.some.injEq, ve, updD, hs1]; exact ⟨_, _, _, rfl⟩)) ?_
                  refine need_wp (by first | exact rw_szz (by assumption) | exact rw_szz (.inr rfl)) ?_
                  refine need_wp (by first | exact ⟨_, _, _, rfl⟩ | (simp only [vd, reduceCtorEq, Option.some.injEq, ve, updD, hs1]; exact ⟨_, _, _, rfl⟩)) ?_
                  refine need_wp (by first | exact rw_szz (by assumption) | exact rw_szz (.inr rfl)) ?_
                  refine need_wp (by simp only [vd, reduceCtorEq, Option.some.injEq, ve, updD, hs1, List.length_cons, List.length_nil, List.length_append, List.length_set]; first | omega | (grind)) ?_
                  refine need_wp (by simp only [vd, reduceCtorEq, Option.some.injEq, ve, updD, hs1, List.length_cons, List.length_nil, List.length_append, List.length_set]; first | omega | (grind)) ?_
                  refine call_fun ((y1, y2)) rfl (by first | (simp only [vd, reduceCtorEq, Option.some.injEq, ve, updD, hs1]; done) | (simp only [vd, reduceCtorEq, Option.some.injEq, ve, updD, hs1]; rfl)) (⟨od1, od2, ly1⟩) ?_
                  have hs2 := sub_rw (e := eB) (r := b) (z := 1) (i := 0) (j := n2) kb (by omega) r1 r2
                  refine call_fun (((a.sub 1 0 n1), (b.sub 1 0 n2))) rfl (by first | (simp only [vd, reduceCtorEq, Option.some.injEq, ve, updD, hs1, hs2]; done) | (simp only [vd, reduceCtorEq, Option.some.injEq, ve, updD, hs1, hs2]; rfl)) (⟨⟨ok_rsub ka _ _, isB_rsub hA _ _⟩, ok_rsub kb _ _, isB_rsub hB _ _⟩) ?_
                  refine br_wp (fun c13 => ?_) (fun c13 => ?_)
                  · replace c13 : (decide (y1.v = y2.v)) = (decide (ofBytes (a.sub 1 0 n1).l = ofBytes (b.sub 1 0 n2).l)) := by first | simpa only [vd, reduceCtorEq, Option.some.injEq, ve, updD, hs1, hs2] using c13 | (simp only [vd, reduceCtorEq, Option.some.injEq, ve, updD, hs1, hs2] at c13; grind)
                    refine call_fun (()) rfl (by first | (simp only [vd, reduceCtorEq, Option.some.injEq, ve, updD, hs1, hs2]; done) | (simp only [vd, reduceCtorEq, Option.some.injEq, ve, updD, hs1, hs2]; rfl)) trivial ?_
                    refine ret_wp ?_
                    try dsimp only
                    rfl
                  · replace c13 : ¬((decide (y1.v = y2.v)) = (decide (ofBytes (a.sub 1 0 n1).l = ofBytes (b.sub 1 0 n2).l))) := by first | simpa only [vd, reduceCtorEq, Option.some.injEq, ve, updD, hs1, hs2] using c13 | (simp only [vd, reduceCtorEq, Option.some.injEq, ve, updD, hs1, hs2] at c13; grind)
                    exfalso; exact c13 (decide_eq_decide.2 (by rw [p3, r3]; exact one_iff p4 r4))
            · replace c6 : ¬(ofBytes z4.l = ofBytes (a.sub 1 0 n1).l) := by first | simpa only [vd, reduceCtorEq, Option.some.injEq, ve, updD, hs1] using c6 | (simp only [vd, reduceCtorEq, Option.some.injEq, ve, updD, hs1] at c6; grind)
              exfalso; exact c6 (by rw [ez4, ofBytes_bi, lx3, p3]; exact enc_one_pl p4)
          · replace c5 : ¬(plV y1.v = y1.v) := by first | simpa only [vd, reduceCtorEq, Option.some.injEq, ve, updD] using c5 | (simp only [vd, reduceCtorEq, Option.some.injEq, ve, updD] at c5; grind)
            exfalso; exact c5 p4
      · replace c3 : ¬(e1 = 0) := by first | simpa only [vd, reduceCtorEq, Option.some.injEq, ve, updD] using c3 | (simp only [vd, reduceCtorEq, Option.some.injEq, ve, updD] at c3; grind)
        obtain ⟨p1, p2, p3⟩ := E1 c3
        have ly1 : y1.l.l.length ≤ 140737488355328 := by have e := congrArg (fun v : RV => v.l.length) p1; have e : y1.l.l.length = 0 := e; omega
        refine br_wp (fun c14 => ?_) (fun c14 => ?_)
        · replace c14 : e1 ≠ 0 := by first | simpa only [vd, reduceCtorEq, Option.some.injEq, ve, updD] using c14 | (simp only [vd, reduceCtorEq, Option.some.injEq, ve, updD] at c14; grind)
          refine br_wp (fun c15 => ?_) (fun c15 => ?_)
          · replace c15 : n1 ≠ 0 := by first | simpa only [vd, reduceCtorEq, Option.some.injEq, ve, updD] using c15 | (simp only [vd, reduceCtorEq, Option.some.injEq, ve, updD] at c15; grind)
            exfalso; exact c15 p2
          · replace c15 : ¬(n1 ≠ 0) := by first | simpa only [vd, reduceCtorEq, Option.some.injEq, ve, updD] using c15 | (simp only [vd, reduceCtorEq, Option.some.injEq, ve, updD] at c15; grind)
            refine call_fun ((y1, (⟨0, (⟨#[]⟩ : ByteArray), 0, Rw.nil⟩ : Rep))) rfl (by first | (simp only [vd, reduceCtorEq, Option.some.injEq, ve, updD]; done) | (simp only [vd, reduceCtorEq, Option.some.injEq, ve, updD]; rfl)) (⟨od1, .inl rfl, ly1⟩) ?_
            refine br_wp (fun c16 => ?_) (fun c16 => ?_)
            · replace c16 : y1.v = (⟨0, (⟨#[]⟩ : ByteArray), 0, Rw.nil⟩ : Rep).v := by first | simpa only [vd, reduceCtorEq, Option.some.injEq, ve, updD] using c16 | (simp only [vd, reduceCtorEq, Option.some.injEq, ve, updD] at c16; grind)
              refine br_wp (fun c17 => ?_) (fun c17 => ?_)
              · replace c17 : e1 ≠ 8 := by first | simpa only [vd, reduceCtorEq, Option.some.injEq, ve, updD] using c17 | (simp only [vd, reduceCtorEq, Option.some.injEq, ve, updD] at c17; grind)
                refine br_wp (fun c18 => ?_) (fun c18 => ?_)
                · replace c18 : e1 ≠ 9 := by first | simpa only [vd, reduceCtorEq, Option.some.injEq, ve, updD] using c18 | (simp only [vd, reduceCtorEq, Option.some.injEq, ve, updD] at c18; grind)
                  exfalso; omega
                · replace c18 : ¬(e1 ≠ 9) := by first | simpa only [vd, reduceCtorEq, Option.some.injEq, ve, updD] using c18 | (simp only [vd, reduceCtorEq, Option.some.injEq, ve, updD] at c18; grind)
                  refine call_fun (()) rfl (by first | (simp only [vd, reduceCtorEq, Option.some.injEq, ve, updD]; done) | (simp only [vd, reduceCtorEq, Option.some.injEq, ve, updD]; rfl)) trivial ?_
                  refine ret_wp ?_
                  try dsimp only
                  rfl
              · replace c17 : ¬(e1 ≠ 8) := by first | simpa only [vd, reduceCtorEq, Option.some.injEq, ve, updD] using c17 | (simp only [vd, reduceCtorEq, Option.some.injEq, ve, updD] at c17; grind)
                refine call_fun (()) rfl (by first | (simp only [vd, reduceCtorEq, Option.some.injEq, ve, updD]; done) | (simp only [vd, reduceCtorEq, Option.some.injEq, ve, updD]; rfl)) trivial ?_
                refine ret_wp ?_
                try dsimp only
                rfl
            · replace c16 : ¬(y1.v = (⟨0, (⟨#[]⟩ : ByteArray), 0, Rw.nil⟩ : Rep).v) := by first | simpa only [vd, reduceCtorEq, Option.some.injEq, ve, updD] using c16 | (simp only [vd, reduceCtorEq, Option.some.injEq, ve, updD] at c16; grind)
              exfalso; exact c16 p1
        · replace c14 : ¬(e1 ≠ 0) := by first | simpa only [vd, reduceCtorEq, Option.some.injEq, ve, updD] using c14 | (simp only [vd, reduceCtorEq, Option.some.injEq, ve, updD] at c14; grind)
          exfalso; exact c14 c3
end Go.Proofs.YtbcbjgomnhajdaaDoorK
