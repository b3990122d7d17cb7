import Derived.Test.YtamjocnlhhhijaaVRR29m
import Derived.Test.YtamjocnlhhhijaaVRRF
import Derived.Test.YtamjocnlhhhijaaVRRl
set_option linter.unusedSimpArgs false
set_option linter.unusedVariables false
set_option linter.unnecessarySimpa false
namespace Go.Proofs.YtamjocnlhhhijaaK
open Go Go.Proofs.YtamjocnlhhhijaaV Go.Proofs Go.Proofs.YtamjocnlhhhijaaK Go.Proofs.YtamjocnlhhhijaaK Go.Proofs.YtamjocnlhhhijaaS
def kLaw7 (sg : Sig) : Sig × Con := (sg, mkFun (fun x : Rw Int × Rw ByteArray => ([Rw.atom eB x.1, Rw.atom eS x.2] : List Atom)) (fun x => (x.1.ok 1 ∧ isB x.1.l) ∧ x.2.ok 1 ∧ lenS x.2.l ≤ 1048576) (fun _ => [aB true]))
set_option maxHeartbeats 1000000 in
theorem h7 : holds Try.prog (kLaw7 sg7) := by
 refine fn_holds (l := [kLong sg21, kKnown sg10, kWhole sg20, kRef sg14, kSameR sg15, kCmd sg23, kCmd sg24, kSameB sg22, kMay sg25, kMay sg26]) ⟨h21, h10, h20, h14, h15, h23, h24, h22, h25, h26, trivial⟩ hP rs7 (inj_of (fun l : List Atom => ((Rw.un unI (l.getD 0 atom0), Rw.un unS (l.getD 1 atom0)) : Rw Int × Rw ByteArray)) (fun _ => by simp [List.getD_cons_zero, List.getD_cons_succ, unA_atom, unL_atom])) Try.func7 (by kernel_rfl) (c := code Try.f7) (by kernel_rfl) (an := an7) (by kernel_rfl) (pk := pk7) rfl (t := t7) (by kernel_rfl) ?_
 rintro ⟨b, r⟩ ⟨⟨kb, hB⟩, kr, hM⟩
 refine ⟨by simp [pk7, KindsOk, RK.ok, Rw.atom, Sl.atom], ?_⟩
 unfold t7
 dsimp only at kb hB kr hM
 refine need_wp (by first | exact ⟨_, _, _, rfl⟩ | (simp only [vd, reduceCtorEq, ve, updD, vdc]; exact ⟨_, _, _, rfl⟩)) ?_
 refine br_wp (fun c1 => ?_) (fun c1 => ?_)
 ·replace c1 : (b.l.length : Int) > 1500 := by first | simpa only [vd, reduceCtorEq, ve, updD, vdc] using c1 | (simp only [vd, reduceCtorEq, ve, updD, vdc] at c1; grind)
  refine call_fun (()) rfl (by first | (simp only [vd, reduceCtorEq, ve, updD, vdc]; done) | (simp only [vd, reduceCtorEq, ve, updD, vdc]; rfl)) trivial ?_
  refine ret_wp ?_
  try dsimp only
  first | (simp only [vd, reduceCtorEq, ve, updD, vdc]; done) | (exfalso; omega)
 ·replace c1 : ¬((b.l.length : Int) > 1500) := by first | simpa only [vd, reduceCtorEq, ve, updD, vdc] using c1 | (simp only [vd, reduceCtorEq, ve, updD, vdc] at c1; grind)
  refine call_fun (r) rfl (by first | (simp only [vd, reduceCtorEq, ve, updD, vdc]; done) | (simp only [vd, reduceCtorEq, ve, updD, vdc]; rfl)) (⟨kr, by omega⟩) ?_
  refine br_wp (fun c2 => ?_) (fun c2 => ?_)
  ·replace c2 : (lenS r.l : Int) > 1500 := by first | simpa only [vd, reduceCtorEq, ve, updD, vdc] using c2 | (simp only [vd, reduceCtorEq, ve, updD, vdc] at c2; grind)
   refine call_fun (()) rfl (by first | (simp only [vd, reduceCtorEq, ve, updD, vdc]; done) | (simp only [vd, reduceCtorEq, ve, updD, vdc]; rfl)) trivial ?_
   refine ret_wp ?_
   try dsimp only
   first | (simp only [vd, reduceCtorEq, ve, updD, vdc]; done) | (exfalso; omega)
  ·replace c2 : ¬((lenS r.l : Int) > 1500) := by first | simpa only [vd, reduceCtorEq, ve, updD, vdc] using c2 | (simp only [vd, reduceCtorEq, ve, updD, vdc] at c2; grind)
   refine call_rel (b) rfl (by first | (simp only [vd, reduceCtorEq, ve, updD, vdc]; done) | (simp only [vd, reduceCtorEq, ve, updD, vdc]; rfl)) (⟨kb, hB, by omega⟩) ?_
   rintro ⟨x1, n1, e1⟩ w1
   try dsimp only at w1
   refine call_rel (b) rfl (by first | (simp only [vd, reduceCtorEq, ve, updD, vdc]; done) | (simp only [vd, reduceCtorEq, ve, updD, vdc]; rfl)) (⟨kb, hB, by omega⟩) ?_
   rintro ⟨x2, n2, e2⟩ w2
   try dsimp only at w2
   obtain ⟨l1, l2⟩ := whole_len w1 hB (by omega)
   have hbl : b.l.length ≤ 1500 := by omega
   have hv : vv x1 = vv x2 := inj_ls (by rw [w1.out, w2.out])
   have hn : n1 = n2 := by rw [w1.n, w2.n, hv]
   have he : e1 = if e2 = true then 7 else 0 := by rw [w1.e]; exact w2.e.symm
   refine call_fun ((x1, x2)) rfl (by first | (simp only [vd, reduceCtorEq, ve, updD, vdc]; done) | (simp only [vd, reduceCtorEq, ve, updD, vdc]; rfl)) (⟨w1.ok, w2.ok, by dsimp only; omega, by intro z hz; have := l2 z hz; omega⟩) ?_
   refine br_wp (fun c3 => ?_) (fun c3 => ?_)
   ·replace c3 : vv x1 = vv x2 := by first | simpa only [vd, reduceCtorEq, ve, updD, vdc] using c3 | (simp only [vd, reduceCtorEq, ve, updD, vdc] at c3; grind)
    refine br_wp (fun c4 => ?_) (fun c4 => ?_)
    ·replace c4 : n1 = n2 := by first | simpa only [vd, reduceCtorEq, ve, updD, vdc] using c4 | (simp only [vd, reduceCtorEq, ve, updD, vdc] at c4; grind)
     refine br_wp (fun c5 => ?_) (fun c5 => ?_)
     ·replace c5 : (decide (e1 = 7)) = e2 := by first | simpa only [vd, reduceCtorEq, ve, updD, vdc] using c5 | (simp only [vd, reduceCtorEq, ve, updD, vdc] at c5; grind)
      refine br_wp (fun c6 => ?_) (fun c6 => ?_)
      ·replace c6 : (decide (e1 = 0)) = (decide (¬(e2 = true))) := by first | simpa only [vd, reduceCtorEq, ve, updD, vdc] using c6 | (simp only [vd, reduceCtorEq, ve, updD, vdc] at c6; grind)
       refine call_rel (r) rfl (by first | (simp only [vd, reduceCtorEq, ve, updD, vdc]; done) | (simp only [vd, reduceCtorEq, ve, updD, vdc]; rfl)) (⟨kr, by omega⟩) ?_
       rintro z3 ⟨ez3, oz3⟩
       try dsimp only at ez3 oz3
       refine call_rel (r) rfl (by first | (simp only [vd, reduceCtorEq, ve, updD, vdc]; done) | (simp only [vd, reduceCtorEq, ve, updD, vdc]; rfl)) (⟨kr, by omega⟩) ?_
       rintro z4 ⟨ez4, oz4⟩
       try dsimp only at ez4 oz4
       have hla : r.l.length ≤ 1500 := by have := lenS_len r.l; omega
       refine call_fun ((z3, z4)) rfl (by first | (simp only [vd, reduceCtorEq, ve, updD, vdc]; done) | (simp only [vd, reduceCtorEq, ve, updD, vdc]; rfl)) (⟨⟨oz3, by rw [ez3]; exact isB_bi _⟩, oz4, by rw [ez4]; exact isB_bi _⟩) ?_
       refine br_wp (fun c7 => ?_) (fun c7 => ?_)
       ·replace c7 : ofBytes z3.l = ofBytes z4.l := by first | simpa only [vd, reduceCtorEq, ve, updD, vdc] using c7 | (simp only [vd, reduceCtorEq, ve, updD, vdc] at c7; grind)
        refine call_fun (r) rfl (by first | (simp only [vd, reduceCtorEq, ve, updD, vdc]; done) | (simp only [vd, reduceCtorEq, ve, updD, vdc]; rfl)) (⟨kr, by omega⟩) ?_
        refine call_fun (r) rfl (by first | (simp only [vd, reduceCtorEq, ve, updD, vdc]; done) | (simp only [vd, reduceCtorEq, ve, updD, vdc]; rfl)) (⟨kr, by omega⟩) ?_
        refine br_wp (fun c8 => ?_) (fun c8 => ?_)
        ·replace c8 : (mayB r.l) = (mayB r.l) := by first | simpa only [vd, reduceCtorEq, ve, updD, vdc] using c8 | (simp only [vd, reduceCtorEq, ve, updD, vdc] at c8; grind)
         refine call_fun (()) rfl (by first | (simp only [vd, reduceCtorEq, ve, updD, vdc]; done) | (simp only [vd, reduceCtorEq, ve, updD, vdc]; rfl)) trivial ?_
         refine ret_wp ?_
         try dsimp only
         first | (simp only [vd, reduceCtorEq, ve, updD, vdc]; done) | (exfalso; omega)
        ·replace c8 : ¬((mayB r.l) = (mayB r.l)) := by first | simpa only [vd, reduceCtorEq, ve, updD, vdc] using c8 | (simp only [vd, reduceCtorEq, ve, updD, vdc] at c8; grind)
         exfalso; exact c8 rfl
       ·replace c7 : ¬(ofBytes z3.l = ofBytes z4.l) := by first | simpa only [vd, reduceCtorEq, ve, updD, vdc] using c7 | (simp only [vd, reduceCtorEq, ve, updD, vdc] at c7; grind)
        exfalso; exact c7 (by rw [ez3, ez4])
      ·replace c6 : ¬((decide (e1 = 0)) = (decide (¬(e2 = true)))) := by first | simpa only [vd, reduceCtorEq, ve, updD, vdc] using c6 | (simp only [vd, reduceCtorEq, ve, updD, vdc] at c6; grind)
       exfalso; exact c6 (by rw [he]; cases e2 <;> rfl)
     ·replace c5 : ¬((decide (e1 = 7)) = e2) := by first | simpa only [vd, reduceCtorEq, ve, updD, vdc] using c5 | (simp only [vd, reduceCtorEq, ve, updD, vdc] at c5; grind)
      exfalso; exact c5 (by rw [he]; cases e2 <;> rfl)
    ·replace c4 : ¬(n1 = n2) := by first | simpa only [vd, reduceCtorEq, ve, updD, vdc] using c4 | (simp only [vd, reduceCtorEq, ve, updD, vdc] at c4; grind)
     exfalso; exact c4 hn
   ·replace c3 : ¬(vv x1 = vv x2) := by first | simpa only [vd, reduceCtorEq, ve, updD, vdc] using c3 | (simp only [vd, reduceCtorEq, ve, updD, vdc] at c3; grind)
    exfalso; exact c3 hv
end Go.Proofs.YtamjocnlhhhijaaK
