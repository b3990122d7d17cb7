import Derived.Test.YtbcbjgomnhajdaaDoorVRDE42m
import Derived.Test.YtbcbjgomnhajdaaDoorVRDB1m
import Derived.Test.YtbcbjgomnhajdaaDoorVRDU1m
set_option linter.unusedSimpArgs false
set_option linter.unusedVariables false
set_option linter.unnecessarySimpa false
namespace Go.Proofs.YtbcbjgomnhajdaaDoorK
open Go Go.Proofs.YtbcbjgomnhajdaaDoorV Go.Proofs Go.Proofs.YtbcbjgomnhajdaaDoorK Go.Proofs.YtbcbjgomnhajdaaDoorK
def kLaw5 (sg : Sig) : Sig × Con := (sg, mkFun (fun x : Rw Int × Gh => ([Rw.atom eB x.1, Rw.atom eF x.2.a, Rw.atom eF x.2.b] : List Atom)) (fun x => (x.1.ok 1 ∧ isB x.1.l) ∧ pG x.2) (fun _ => [aB true]))
set_option maxHeartbeats 1000000 in
theorem h5 : holds Tryd.prog (kLaw5 sg5) := by
 refine fn_holdsH (inl := []) (l := [kKnown sg7, kDec sg8, kDecR sg15, kAll sg16, kAllR sg17, kSame sg12, kSameAll sg18]) ⟨h7, h8, h15, h16, h17, h12, h18, trivial⟩ trivial hP gh5 rs5 (inj_of (fun l : List Atom => ((Rw.un unI (l.getD 0 atom0), (⟨Rw.un unF (l.getD 1 atom0), Rw.un unF (l.getD 2 atom0)⟩ : Gh)) : Rw Int × Gh)) (fun _ => by simp [List.getD_cons_zero, List.getD_cons_succ, unA_atom, unF_at])) Tryd.func5 (by kernel_rfl) (c := code Tryd.f5) (by kernel_rfl) (an := an5) (by kernel_rfl) (pk := pk5g) rfl (t := t5) (by kernel_rfl) ?_
 rintro ⟨b, q⟩ hnil ⟨⟨kb, hB⟩, hq⟩
 refine ⟨by simp [pk5g, pk5, KindsOk, RK.ok, Rw.atom, Sl.atom], ?_⟩
 unfold t5
 dsimp only at kb hB hq
 refine need_wp (by first | exact ⟨_, _, _, rfl⟩ | (simp only [vd, reduceCtorEq, ve, updD]; exact ⟨_, _, _, rfl⟩)) ?_
 refine br_wp (fun c1 => ?_) (fun c1 => ?_)
 ·replace c1 : (b.l.length : Int) > 1500 := by first | simpa only [vd, reduceCtorEq, ve, updD] using c1 | (simp only [vd, reduceCtorEq, ve, updD] at c1; grind)
  refine call_fun (()) rfl (by first | (simp only [vd, reduceCtorEq, ve, updD]; done) | (simp only [vd, reduceCtorEq, ve, updD]; rfl)) trivial ?_
  refine ret_wp ?_
  try dsimp only
  rfl
 ·replace c1 : ¬((b.l.length : Int) > 1500) := by first | simpa only [vd, reduceCtorEq, ve, updD] using c1 | (simp only [vd, reduceCtorEq, ve, updD] at c1; grind)
  refine call_rel ((b, q)) rfl (by first | (simp only [vd, reduceCtorEq, ve, updD]; done) | (simp only [vd, reduceCtorEq, ve, updD]; rfl)) (⟨kb, hB, by dsimp only; omega, hq⟩) ?_
  rintro ⟨y1, n1, e1⟩ ⟨ed1, od1⟩
  try dsimp only at ed1 od1
  refine call_rel (b) rfl (by first | (simp only [vd, reduceCtorEq, ve, updD]; done) | (simp only [vd, reduceCtorEq, ve, updD]; rfl)) (⟨kb, hB, by omega⟩) ?_
  rintro ⟨y2, n2, e2⟩ ⟨ed2, od2⟩
  try dsimp only at ed2 od2
  refine call_rel ((b, q)) rfl (by first | (simp only [vd, reduceCtorEq, ve, updD]; done) | (simp only [vd, reduceCtorEq, ve, updD]; rfl)) (⟨⟨kb, hB, by dsimp only; omega⟩, hq⟩) ?_
  rintro ⟨X3, e3⟩ ⟨eX3, oX3, aX3⟩
  try dsimp only at eX3 oX3 aX3
  refine call_rel (b) rfl (by first | (simp only [vd, reduceCtorEq, ve, updD]; done) | (simp only [vd, reduceCtorEq, ve, updD]; rfl)) (⟨kb, hB, by omega⟩) ?_
  rintro ⟨X4, e4⟩ ⟨eX4, oX4, aX4⟩
  try dsimp only at eX4 oX4 aX4
  have hd := ed1.trans ed2.symm
  simp only [Prod.mk.injEq] at hd
  obtain ⟨d1, d2, d3⟩ := hd
  have hx := eX3.trans eX4.symm
  simp only [Prod.mk.injEq] at hx
  obtain ⟨x1, x2⟩ := hx
  refine call_fun ((y1, y2)) rfl (by first | (simp only [vd, reduceCtorEq, ve, updD]; done) | (simp only [vd, reduceCtorEq, ve, updD]; rfl)) (⟨od1, od2, by have h := dec_len hB ed1; have h : y1.l.l.length ≤ b.l.length := h; dsimp only; omega⟩) ?_
  refine br_wp (fun c2 => ?_) (fun c2 => ?_)
  ·replace c2 : y1.v = y2.v := by first | simpa only [vd, reduceCtorEq, ve, updD] using c2 | (simp only [vd, reduceCtorEq, ve, updD] at c2; grind)
   refine br_wp (fun c3 => ?_) (fun c3 => ?_)
   ·replace c3 : n1 = n2 := by first | simpa only [vd, reduceCtorEq, ve, updD] using c3 | (simp only [vd, reduceCtorEq, ve, updD] at c3; grind)
    refine br_wp (fun c4 => ?_) (fun c4 => ?_)
    ·replace c4 : e1 = e2 := by first | simpa only [vd, reduceCtorEq, ve, updD] using c4 | (simp only [vd, reduceCtorEq, ve, updD] at c4; grind)
     refine call_fun ((X3, X4)) rfl (by first | (simp only [vd, reduceCtorEq, ve, updD]; done) | (simp only [vd, reduceCtorEq, ve, updD]; rfl)) (⟨⟨oX3, fun z hz => ⟨(aX3 z hz).1, by have := (all_fit hB eX3).2 z hz; omega⟩⟩, ⟨oX4, fun z hz => (aX4 z hz).1⟩, by have := (all_fit hB eX3).1; dsimp only; omega⟩) ?_
     refine br_wp (fun c5 => ?_) (fun c5 => ?_)
     ·replace c5 : X3.l.map Rep.v = X4.l.map Rep.v := by first | simpa only [vd, reduceCtorEq, ve, updD] using c5 | (simp only [vd, reduceCtorEq, ve, updD] at c5; grind)
      refine br_wp (fun c6 => ?_) (fun c6 => ?_)
      ·replace c6 : e3 = e4 := by first | simpa only [vd, reduceCtorEq, ve, updD] using c6 | (simp only [vd, reduceCtorEq, ve, updD] at c6; grind)
       refine call_fun (()) rfl (by first | (simp only [vd, reduceCtorEq, ve, updD]; done) | (simp only [vd, reduceCtorEq, ve, updD]; rfl)) trivial ?_
       refine ret_wp ?_
       try dsimp only
       rfl
      ·replace c6 : ¬(e3 = e4) := by first | simpa only [vd, reduceCtorEq, ve, updD] using c6 | (simp only [vd, reduceCtorEq, ve, updD] at c6; grind)
       exfalso; exact c6 x2
     ·replace c5 : ¬(X3.l.map Rep.v = X4.l.map Rep.v) := by first | simpa only [vd, reduceCtorEq, ve, updD] using c5 | (simp only [vd, reduceCtorEq, ve, updD] at c5; grind)
      exfalso; exact c5 x1
    ·replace c4 : ¬(e1 = e2) := by first | simpa only [vd, reduceCtorEq, ve, updD] using c4 | (simp only [vd, reduceCtorEq, ve, updD] at c4; grind)
     exfalso; exact c4 d3
   ·replace c3 : ¬(n1 = n2) := by first | simpa only [vd, reduceCtorEq, ve, updD] using c3 | (simp only [vd, reduceCtorEq, ve, updD] at c3; grind)
    exfalso; exact c3 d2
  ·replace c2 : ¬(y1.v = y2.v) := by first | simpa only [vd, reduceCtorEq, ve, updD] using c2 | (simp only [vd, reduceCtorEq, ve, updD] at c2; grind)
   exfalso; exact c2 d1
end Go.Proofs.YtbcbjgomnhajdaaDoorK
