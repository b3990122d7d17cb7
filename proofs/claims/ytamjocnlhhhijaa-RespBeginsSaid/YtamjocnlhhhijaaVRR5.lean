import Derived.Test.YtamjocnlhhhijaaVRRy
import Derived.Test.YtamjocnlhhhijaaVRRF
import Derived.Test.YtamjocnlhhhijaaVRRl
set_option linter.unusedSimpArgs false
set_option linter.unusedVariables false
set_option linter.unnecessarySimpa false
namespace Go.Proofs.YtamjocnlhhhijaaK
open Go Go.Proofs.YtamjocnlhhhijaaV Go.Proofs Go.Proofs.YtamjocnlhhhijaaK Go.Proofs.YtamjocnlhhhijaaK Go.Proofs.YtamjocnlhhhijaaS
def kLaw5 (sg : Sig) : Sig × Con := (sg, mkFun (fun x : Rw Int × Rw Int × Int => ([Rw.atom eB x.1, Rw.atom eB x.2.1, aK .u16 x.2.2] : List Atom)) (fun x => (x.1.ok 1 ∧ isB x.1.l) ∧ (x.2.1.ok 1 ∧ isB x.2.1.l) ∧ 0 ≤ x.2.2 ∧ x.2.2 < 65536) (fun _ => [aB true]))
set_option maxHeartbeats 1000000 in
theorem h5 : holds Try.prog (kLaw5 sg5) := by
 refine fn_holds (l := [kKnown sg10, kWhole sg20, kCopy sg12, kSameR sg15]) ⟨h10, h20, h12, h15, trivial⟩ hP rs5 (inj_of (fun l : List Atom => ((Rw.un unI (l.getD 0 atom0), Rw.un unI (l.getD 1 atom0), vi (l.getD 2 atom0).1) : Rw Int × Rw Int × Int)) (fun _ => by simp [List.getD_cons_zero, List.getD_cons_succ, unA_atom, unL_atom])) Try.func5 (by kernel_rfl) (c := code Try.f5) (by kernel_rfl) (an := an5) (by kernel_rfl) (pk := pk5) rfl (t := t5) (by kernel_rfl) ?_
 rintro ⟨b, q, a0⟩ ⟨⟨kb, hB⟩, ⟨kq, hQ⟩, h0, h1⟩
 refine ⟨by simp [pk5, KindsOk, RK.ok, Rw.atom, Sl.atom], ?_⟩
 unfold t5
 dsimp only at kb hB kq hQ h0 h1
 refine need_wp (by first | exact ⟨_, _, _, rfl⟩ | (simp only [vd, reduceCtorEq, ve, updD, vdc]; exact ⟨_, _, _, rfl⟩)) ?_
 refine br_wp (fun c1 => ?_) (fun c1 => ?_)
 ·replace c1 : (b.l.length : Int) > 1000 := by first | simpa only [vd, reduceCtorEq, ve, updD, vdc] using c1 | (simp only [vd, reduceCtorEq, ve, updD, vdc] at c1; grind)
  refine call_fun (()) rfl (by first | (simp only [vd, reduceCtorEq, ve, updD, vdc]; done) | (simp only [vd, reduceCtorEq, ve, updD, vdc]; rfl)) trivial ?_
  refine ret_wp ?_
  try dsimp only
  first | (simp only [vd, reduceCtorEq, ve, updD, vdc]; done) | (exfalso; omega)
 ·replace c1 : ¬((b.l.length : Int) > 1000) := by first | simpa only [vd, reduceCtorEq, ve, updD, vdc] using c1 | (simp only [vd, reduceCtorEq, ve, updD, vdc] at c1; grind)
  refine need_wp (by first | exact ⟨_, _, _, rfl⟩ | (simp only [vd, reduceCtorEq, ve, updD, vdc]; exact ⟨_, _, _, rfl⟩)) ?_
  refine br_wp (fun c2 => ?_) (fun c2 => ?_)
  ·replace c2 : (q.l.length : Int) > 300 := by first | simpa only [vd, reduceCtorEq, ve, updD, vdc] using c2 | (simp only [vd, reduceCtorEq, ve, updD, vdc] at c2; grind)
   refine call_fun (()) rfl (by first | (simp only [vd, reduceCtorEq, ve, updD, vdc]; done) | (simp only [vd, reduceCtorEq, ve, updD, vdc]; rfl)) trivial ?_
   refine ret_wp ?_
   try dsimp only
   first | (simp only [vd, reduceCtorEq, ve, updD, vdc]; done) | (exfalso; omega)
  ·replace c2 : ¬((q.l.length : Int) > 300) := by first | simpa only [vd, reduceCtorEq, ve, updD, vdc] using c2 | (simp only [vd, reduceCtorEq, ve, updD, vdc] at c2; grind)
   have wa : IntKind.i64.wrap a0 = a0 := wrap_id _ (by omega) (by omega)
   have wb : IntKind.i64.wrap ((b.l.length : Int) + 1) = ((b.l.length : Int) + 1) := wrap_id _ (by omega) (by omega)
   obtain ⟨k, hk⟩ : ∃ k, k = remD a0 ((b.l.length : Int) + 1) := ⟨_, rfl⟩
   have hk1 : 0 ≤ k ∧ k ≤ b.l.length := by rw [hk, rem_id _ _ h0]; have := md_ok a0 ((b.l.length : Int) + 1) h0 (by omega); omega
   have hs := sub_rw (e := eB) (r := b) (z := 1) (i := 0) (j := k) kb (by omega) (by omega) (by omega)
   have hbl : b.l.length ≤ 1500 := by omega
   refine call_rel (b) rfl (by first | (simp only [vd, reduceCtorEq, ve, updD, vdc, wa, wb, ← hk, hs]; done) | (simp only [vd, reduceCtorEq, ve, updD, vdc, wa, wb, ← hk, hs]; rfl)) (⟨kb, hB, hbl⟩) ?_
   rintro ⟨x1, n1, e1⟩ w1
   try dsimp only at w1
   refine need_wp (by first | exact ⟨_, _, _, rfl⟩ | (simp only [vd, reduceCtorEq, ve, updD, vdc, wa, wb, ← hk, hs]; exact ⟨_, _, _, rfl⟩)) ?_
   refine need_wp (by simp only [vd, reduceCtorEq, ve, updD, vdc, wa, wb, ← hk, hs, List.length_cons, List.length_nil, List.length_append, List.length_set]; first | omega | (grind)) ?_
   refine need_wp (by first | exact ⟨_, _, _, rfl⟩ | (simp only [vd, reduceCtorEq, ve, updD, vdc, wa, wb, ← hk, hs]; exact ⟨_, _, _, rfl⟩)) ?_
   refine need_wp (by first | exact rw_szz (by assumption) | exact rw_szz (.inr rfl)) ?_
   refine need_wp (by simp only [vd, reduceCtorEq, ve, updD, vdc, wa, wb, ← hk, hs, List.length_cons, List.length_nil, List.length_append, List.length_set]; first | omega | (grind)) ?_
   refine need_wp (by simp only [vd, reduceCtorEq, ve, updD, vdc, wa, wb, ← hk, hs, List.length_cons, List.length_nil, List.length_append, List.length_set]; first | omega | (grind)) ?_
   refine call_rel ((b.sub 1 0 k)) rfl (by first | (simp only [vd, reduceCtorEq, ve, updD, vdc, wa, wb, ← hk, hs]; done) | (simp only [vd, reduceCtorEq, ve, updD, vdc, wa, wb, ← hk, hs]; rfl)) (⟨ok_sub kb _ _, by rw [sub0_l]; exact isB_take hB _, by rw [sub0_l, List.length_take]; omega⟩) ?_
   rintro ⟨x2, n2, e2⟩ w2
   try dsimp only at w2
   refine call_rel (b) rfl (by first | (simp only [vd, reduceCtorEq, ve, updD, vdc, wa, wb, ← hk, hs]; done) | (simp only [vd, reduceCtorEq, ve, updD, vdc, wa, wb, ← hk, hs]; rfl)) (⟨kb, by omega⟩) ?_
   rintro z3 ⟨ez3, oz3⟩
   try dsimp only at ez3 oz3
   have kz3 : z3.ok 1 := oz3
   have nz3 : (z3.l.length : Int) = b.l.length := by rw [ez3]
   refine need_wp (by first | exact rw_row _ _ | (simp only [vd, reduceCtorEq, ve, updD, vdc, wa, wb, ← hk, hs]; exact ⟨_, _, rfl⟩)) ?_
   refine need_wp (by first | exact ⟨_, _, _, rfl⟩ | (simp only [vd, reduceCtorEq, ve, updD, vdc, wa, wb, ← hk, hs]; exact ⟨_, _, _, rfl⟩)) ?_
   refine need_wp (by first | exact rw_szz (by assumption) | exact rw_szz (.inr rfl)) ?_
   refine need_wp (by simp only [vd, reduceCtorEq, ve, updD, vdc, wa, wb, ← hk, hs, List.length_cons, List.length_nil, List.length_append, List.length_set]; first | omega | (grind)) ?_
   refine need_wp (by simp only [vd, reduceCtorEq, ve, updD, vdc, wa, wb, ← hk, hs, List.length_cons, List.length_nil, List.length_append, List.length_set]; first | omega | (grind)) ?_
   refine app_wp eB z3 q (by first | rfl | simp only [vd, reduceCtorEq, ve, updD, vdc, wa, wb, ← hk, hs]) (by first | rfl | simp only [vd, reduceCtorEq, ve, updD, vdc, wa, wb, ← hk, hs]) ?_
   intro a4 b4
   generalize hx4 : (⟨a4, b4, 1, z3.l ++ q.l⟩ : Rw Int) = x4
   have lx4 : x4.l = z3.l ++ q.l := by first | (rw [← hx4]; done) | (rw [← hx4]; rfl)
   have zx4 : x4.z = 1 := by rw [← hx4]
   have kx4 : Rw.ok 1 x4 := .inr zx4
   have nx4 : (x4.l.length : Int) = (z3.l.length : Int) + (q.l.length : Int) := by first | (rw [← hx4]; done) | (rw [← hx4]; simp [Rw.nil])
   refine call_rel (x4) rfl (by first | (simp only [vd, reduceCtorEq, ve, updD, vdc, wa, wb, ← hk, hs]; done) | (simp only [vd, reduceCtorEq, ve, updD, vdc, wa, wb, ← hk, hs]; rfl)) (⟨kx4, by rw [lx4, ez3]; exact isB_app hB hQ, by omega⟩) ?_
   rintro ⟨x5, n5, e5⟩ w5
   try dsimp only at w5
   obtain ⟨hA, hC, hL, hE⟩ := begins (k := k.toNat) (q := q.l) (sub0_l b 1 k) (by rw [lx4, ez3]) w1 w2 w5
   have hB4 : isB x4.l := by rw [lx4, ez3]; exact isB_app hB hQ
   obtain ⟨hl5, hl6⟩ := whole_len w5 hB4 (by omega)
   have hs5 := sub_rw (e := eL) (r := x5) (z := 1) (i := 0) (j := (x2.l.length : Int)) w5.ok.1 (by omega) (by omega) (by omega)
   have k5 : x5.ok 1 := w5.ok.1
   have hS := vv_sub x5 (x2.l.length : Int)
   rw [Int.toNat_natCast, hE] at hS
   have hz : ∀ z ∈ (x5.sub 1 0 (x2.l.length : Int)).l, (z.l.length : Int) ≤ 1000000 := by intro z hz; rw [sub0_l] at hz; have := hl6 z (List.mem_of_mem_take hz); omega
   have hz2 : ((x5.sub 1 0 (x2.l.length : Int)).l.length : Int) ≤ 1000000 := by rw [sub0_l, List.length_take]; omega
   refine br_wp (fun c3 => ?_) (fun c3 => ?_)
   ·replace c3 : e1 = 0 := by first | simpa only [vd, reduceCtorEq, ve, updD, vdc, wa, wb, ← hk, hs, hs5] using c3 | (simp only [vd, reduceCtorEq, ve, updD, vdc, wa, wb, ← hk, hs, hs5] at c3; grind)
    refine br_wp (fun c4 => ?_) (fun c4 => ?_)
    ·replace c4 : e2 ≠ 0 := by first | simpa only [vd, reduceCtorEq, ve, updD, vdc, wa, wb, ← hk, hs, hs5] using c4 | (simp only [vd, reduceCtorEq, ve, updD, vdc, wa, wb, ← hk, hs, hs5] at c4; grind)
     refine ret_wp ?_
     try dsimp only
     first | (simp only [vd, reduceCtorEq, ve, updD, vdc, wa, wb, ← hk, hs, hs5]; done) | (exfalso; omega)
    ·replace c4 : ¬(e2 ≠ 0) := by first | simpa only [vd, reduceCtorEq, ve, updD, vdc, wa, wb, ← hk, hs, hs5] using c4 | (simp only [vd, reduceCtorEq, ve, updD, vdc, wa, wb, ← hk, hs, hs5] at c4; grind)
     refine br_wp (fun c5 => ?_) (fun c5 => ?_)
     ·replace c5 : e1 ≠ 0 := by first | simpa only [vd, reduceCtorEq, ve, updD, vdc, wa, wb, ← hk, hs, hs5] using c5 | (simp only [vd, reduceCtorEq, ve, updD, vdc, wa, wb, ← hk, hs, hs5] at c5; grind)
      refine br_wp (fun c6 => ?_) (fun c6 => ?_)
      ·replace c6 : e5 = 0 := by first | simpa only [vd, reduceCtorEq, ve, updD, vdc, wa, wb, ← hk, hs, hs5] using c6 | (simp only [vd, reduceCtorEq, ve, updD, vdc, wa, wb, ← hk, hs, hs5] at c6; grind)
       refine ret_wp ?_
       try dsimp only
       first | (simp only [vd, reduceCtorEq, ve, updD, vdc, wa, wb, ← hk, hs, hs5]; done) | (exfalso; omega)
      ·replace c6 : ¬(e5 = 0) := by first | simpa only [vd, reduceCtorEq, ve, updD, vdc, wa, wb, ← hk, hs, hs5] using c6 | (simp only [vd, reduceCtorEq, ve, updD, vdc, wa, wb, ← hk, hs, hs5] at c6; grind)
       refine need_wp (by first | exact ⟨_, _, _, rfl⟩ | (simp only [vd, reduceCtorEq, ve, updD, vdc, wa, wb, ← hk, hs, hs5]; exact ⟨_, _, _, rfl⟩)) ?_
       refine need_wp (by first | exact ⟨_, _, _, rfl⟩ | (simp only [vd, reduceCtorEq, ve, updD, vdc, wa, wb, ← hk, hs, hs5]; exact ⟨_, _, _, rfl⟩)) ?_
       refine br_wp (fun c7 => ?_) (fun c7 => ?_)
       ·replace c7 : (x2.l.length : Int) > (x5.l.length : Int) := by first | simpa only [vd, reduceCtorEq, ve, updD, vdc, wa, wb, ← hk, hs, hs5] using c7 | (simp only [vd, reduceCtorEq, ve, updD, vdc, wa, wb, ← hk, hs, hs5] at c7; grind)
        refine ret_wp ?_
        try dsimp only
        first | (simp only [vd, reduceCtorEq, ve, updD, vdc, wa, wb, ← hk, hs, hs5]; done) | (exfalso; omega)
       ·replace c7 : ¬((x2.l.length : Int) > (x5.l.length : Int)) := by first | simpa only [vd, reduceCtorEq, ve, updD, vdc, wa, wb, ← hk, hs, hs5] using c7 | (simp only [vd, reduceCtorEq, ve, updD, vdc, wa, wb, ← hk, hs, hs5] at c7; grind)
        refine need_wp (by first | exact ⟨_, _, _, rfl⟩ | (simp only [vd, reduceCtorEq, ve, updD, vdc, wa, wb, ← hk, hs, hs5]; exact ⟨_, _, _, rfl⟩)) ?_
        refine need_wp (by first | exact ⟨_, _, _, rfl⟩ | (simp only [vd, reduceCtorEq, ve, updD, vdc, wa, wb, ← hk, hs, hs5]; exact ⟨_, _, _, rfl⟩)) ?_
        refine need_wp (by first | exact rw_szz (by assumption) | exact rw_szz (.inr rfl)) ?_
        refine need_wp (by simp only [vd, reduceCtorEq, ve, updD, vdc, wa, wb, ← hk, hs, hs5, List.length_cons, List.length_nil, List.length_append, List.length_set]; first | omega | (grind)) ?_
        refine need_wp (by simp only [vd, reduceCtorEq, ve, updD, vdc, wa, wb, ← hk, hs, hs5, List.length_cons, List.length_nil, List.length_append, List.length_set]; first | omega | (grind)) ?_
        refine call_fun (((x5.sub 1 0 (x2.l.length : Int)), x2)) rfl (by first | (simp only [vd, reduceCtorEq, ve, updD, vdc, wa, wb, ← hk, hs, hs5]; done) | (simp only [vd, reduceCtorEq, ve, updD, vdc, wa, wb, ← hk, hs, hs5]; rfl)) (⟨okL_sub w5.ok _, w2.ok, hz2, hz⟩) ?_
        refine br_wp (fun c8 => ?_) (fun c8 => ?_)
        ·replace c8 : vv (x5.sub 1 0 (x2.l.length : Int)) = vv x2 := by first | simpa only [vd, reduceCtorEq, ve, updD, vdc, wa, wb, ← hk, hs, hs5] using c8 | (simp only [vd, reduceCtorEq, ve, updD, vdc, wa, wb, ← hk, hs, hs5] at c8; grind)
         refine call_fun (()) rfl (by first | (simp only [vd, reduceCtorEq, ve, updD, vdc, wa, wb, ← hk, hs, hs5]; done) | (simp only [vd, reduceCtorEq, ve, updD, vdc, wa, wb, ← hk, hs, hs5]; rfl)) trivial ?_
         refine ret_wp ?_
         try dsimp only
         first | (simp only [vd, reduceCtorEq, ve, updD, vdc, wa, wb, ← hk, hs, hs5]; done) | (exfalso; omega)
        ·replace c8 : ¬(vv (x5.sub 1 0 (x2.l.length : Int)) = vv x2) := by first | simpa only [vd, reduceCtorEq, ve, updD, vdc, wa, wb, ← hk, hs, hs5] using c8 | (simp only [vd, reduceCtorEq, ve, updD, vdc, wa, wb, ← hk, hs, hs5] at c8; grind)
         exfalso; exact c8 hS
     ·replace c5 : ¬(e1 ≠ 0) := by first | simpa only [vd, reduceCtorEq, ve, updD, vdc, wa, wb, ← hk, hs, hs5] using c5 | (simp only [vd, reduceCtorEq, ve, updD, vdc, wa, wb, ← hk, hs, hs5] at c5; grind)
      refine need_wp (by first | exact ⟨_, _, _, rfl⟩ | (simp only [vd, reduceCtorEq, ve, updD, vdc, wa, wb, ← hk, hs, hs5]; exact ⟨_, _, _, rfl⟩)) ?_
      refine need_wp (by first | exact ⟨_, _, _, rfl⟩ | (simp only [vd, reduceCtorEq, ve, updD, vdc, wa, wb, ← hk, hs, hs5]; exact ⟨_, _, _, rfl⟩)) ?_
      refine br_wp (fun c9 => ?_) (fun c9 => ?_)
      ·replace c9 : (x2.l.length : Int) > (x5.l.length : Int) := by first | simpa only [vd, reduceCtorEq, ve, updD, vdc, wa, wb, ← hk, hs, hs5] using c9 | (simp only [vd, reduceCtorEq, ve, updD, vdc, wa, wb, ← hk, hs, hs5] at c9; grind)
       refine ret_wp ?_
       try dsimp only
       first | (simp only [vd, reduceCtorEq, ve, updD, vdc, wa, wb, ← hk, hs, hs5]; done) | (exfalso; omega)
      ·replace c9 : ¬((x2.l.length : Int) > (x5.l.length : Int)) := by first | simpa only [vd, reduceCtorEq, ve, updD, vdc, wa, wb, ← hk, hs, hs5] using c9 | (simp only [vd, reduceCtorEq, ve, updD, vdc, wa, wb, ← hk, hs, hs5] at c9; grind)
       refine need_wp (by first | exact ⟨_, _, _, rfl⟩ | (simp only [vd, reduceCtorEq, ve, updD, vdc, wa, wb, ← hk, hs, hs5]; exact ⟨_, _, _, rfl⟩)) ?_
       refine need_wp (by first | exact ⟨_, _, _, rfl⟩ | (simp only [vd, reduceCtorEq, ve, updD, vdc, wa, wb, ← hk, hs, hs5]; exact ⟨_, _, _, rfl⟩)) ?_
       refine need_wp (by first | exact rw_szz (by assumption) | exact rw_szz (.inr rfl)) ?_
       refine need_wp (by simp only [vd, reduceCtorEq, ve, updD, vdc, wa, wb, ← hk, hs, hs5, List.length_cons, List.length_nil, List.length_append, List.length_set]; first | omega | (grind)) ?_
       refine need_wp (by simp only [vd, reduceCtorEq, ve, updD, vdc, wa, wb, ← hk, hs, hs5, List.length_cons, List.length_nil, List.length_append, List.length_set]; first | omega | (grind)) ?_
       refine call_fun (((x5.sub 1 0 (x2.l.length : Int)), x2)) rfl (by first | (simp only [vd, reduceCtorEq, ve, updD, vdc, wa, wb, ← hk, hs, hs5]; done) | (simp only [vd, reduceCtorEq, ve, updD, vdc, wa, wb, ← hk, hs, hs5]; rfl)) (⟨okL_sub w5.ok _, w2.ok, hz2, hz⟩) ?_
       refine br_wp (fun c10 => ?_) (fun c10 => ?_)
       ·replace c10 : vv (x5.sub 1 0 (x2.l.length : Int)) = vv x2 := by first | simpa only [vd, reduceCtorEq, ve, updD, vdc, wa, wb, ← hk, hs, hs5] using c10 | (simp only [vd, reduceCtorEq, ve, updD, vdc, wa, wb, ← hk, hs, hs5] at c10; grind)
        refine call_fun (()) rfl (by first | (simp only [vd, reduceCtorEq, ve, updD, vdc, wa, wb, ← hk, hs, hs5]; done) | (simp only [vd, reduceCtorEq, ve, updD, vdc, wa, wb, ← hk, hs, hs5]; rfl)) trivial ?_
        refine ret_wp ?_
        try dsimp only
        first | (simp only [vd, reduceCtorEq, ve, updD, vdc, wa, wb, ← hk, hs, hs5]; done) | (exfalso; omega)
       ·replace c10 : ¬(vv (x5.sub 1 0 (x2.l.length : Int)) = vv x2) := by first | simpa only [vd, reduceCtorEq, ve, updD, vdc, wa, wb, ← hk, hs, hs5] using c10 | (simp only [vd, reduceCtorEq, ve, updD, vdc, wa, wb, ← hk, hs, hs5] at c10; grind)
        exfalso; exact c10 hS
   ·replace c3 : ¬(e1 = 0) := by first | simpa only [vd, reduceCtorEq, ve, updD, vdc, wa, wb, ← hk, hs, hs5] using c3 | (simp only [vd, reduceCtorEq, ve, updD, vdc, wa, wb, ← hk, hs, hs5] at c3; grind)
    refine br_wp (fun c11 => ?_) (fun c11 => ?_)
    ·replace c11 : e1 ≠ 0 := by first | simpa only [vd, reduceCtorEq, ve, updD, vdc, wa, wb, ← hk, hs, hs5] using c11 | (simp only [vd, reduceCtorEq, ve, updD, vdc, wa, wb, ← hk, hs, hs5] at c11; grind)
     refine br_wp (fun c12 => ?_) (fun c12 => ?_)
     ·replace c12 : e5 = 0 := by first | simpa only [vd, reduceCtorEq, ve, updD, vdc, wa, wb, ← hk, hs, hs5] using c12 | (simp only [vd, reduceCtorEq, ve, updD, vdc, wa, wb, ← hk, hs, hs5] at c12; grind)
      refine ret_wp ?_
      try dsimp only
      first | (simp only [vd, reduceCtorEq, ve, updD, vdc, wa, wb, ← hk, hs, hs5]; done) | (exfalso; omega)
     ·replace c12 : ¬(e5 = 0) := by first | simpa only [vd, reduceCtorEq, ve, updD, vdc, wa, wb, ← hk, hs, hs5] using c12 | (simp only [vd, reduceCtorEq, ve, updD, vdc, wa, wb, ← hk, hs, hs5] at c12; grind)
      refine need_wp (by first | exact ⟨_, _, _, rfl⟩ | (simp only [vd, reduceCtorEq, ve, updD, vdc, wa, wb, ← hk, hs, hs5]; exact ⟨_, _, _, rfl⟩)) ?_
      refine need_wp (by first | exact ⟨_, _, _, rfl⟩ | (simp only [vd, reduceCtorEq, ve, updD, vdc, wa, wb, ← hk, hs, hs5]; exact ⟨_, _, _, rfl⟩)) ?_
      refine br_wp (fun c13 => ?_) (fun c13 => ?_)
      ·replace c13 : (x2.l.length : Int) > (x5.l.length : Int) := by first | simpa only [vd, reduceCtorEq, ve, updD, vdc, wa, wb, ← hk, hs, hs5] using c13 | (simp only [vd, reduceCtorEq, ve, updD, vdc, wa, wb, ← hk, hs, hs5] at c13; grind)
       refine ret_wp ?_
       try dsimp only
       first | (simp only [vd, reduceCtorEq, ve, updD, vdc, wa, wb, ← hk, hs, hs5]; done) | (exfalso; omega)
      ·replace c13 : ¬((x2.l.length : Int) > (x5.l.length : Int)) := by first | simpa only [vd, reduceCtorEq, ve, updD, vdc, wa, wb, ← hk, hs, hs5] using c13 | (simp only [vd, reduceCtorEq, ve, updD, vdc, wa, wb, ← hk, hs, hs5] at c13; grind)
       refine need_wp (by first | exact ⟨_, _, _, rfl⟩ | (simp only [vd, reduceCtorEq, ve, updD, vdc, wa, wb, ← hk, hs, hs5]; exact ⟨_, _, _, rfl⟩)) ?_
       refine need_wp (by first | exact ⟨_, _, _, rfl⟩ | (simp only [vd, reduceCtorEq, ve, updD, vdc, wa, wb, ← hk, hs, hs5]; exact ⟨_, _, _, rfl⟩)) ?_
       refine need_wp (by first | exact rw_szz (by assumption) | exact rw_szz (.inr rfl)) ?_
       refine need_wp (by simp only [vd, reduceCtorEq, ve, updD, vdc, wa, wb, ← hk, hs, hs5, List.length_cons, List.length_nil, List.length_append, List.length_set]; first | omega | (grind)) ?_
       refine need_wp (by simp only [vd, reduceCtorEq, ve, updD, vdc, wa, wb, ← hk, hs, hs5, List.length_cons, List.length_nil, List.length_append, List.length_set]; first | omega | (grind)) ?_
       refine call_fun (((x5.sub 1 0 (x2.l.length : Int)), x2)) rfl (by first | (simp only [vd, reduceCtorEq, ve, updD, vdc, wa, wb, ← hk, hs, hs5]; done) | (simp only [vd, reduceCtorEq, ve, updD, vdc, wa, wb, ← hk, hs, hs5]; rfl)) (⟨okL_sub w5.ok _, w2.ok, hz2, hz⟩) ?_
       refine br_wp (fun c14 => ?_) (fun c14 => ?_)
       ·replace c14 : vv (x5.sub 1 0 (x2.l.length : Int)) = vv x2 := by first | simpa only [vd, reduceCtorEq, ve, updD, vdc, wa, wb, ← hk, hs, hs5] using c14 | (simp only [vd, reduceCtorEq, ve, updD, vdc, wa, wb, ← hk, hs, hs5] at c14; grind)
        refine call_fun (()) rfl (by first | (simp only [vd, reduceCtorEq, ve, updD, vdc, wa, wb, ← hk, hs, hs5]; done) | (simp only [vd, reduceCtorEq, ve, updD, vdc, wa, wb, ← hk, hs, hs5]; rfl)) trivial ?_
        refine ret_wp ?_
        try dsimp only
        first | (simp only [vd, reduceCtorEq, ve, updD, vdc, wa, wb, ← hk, hs, hs5]; done) | (exfalso; omega)
       ·replace c14 : ¬(vv (x5.sub 1 0 (x2.l.length : Int)) = vv x2) := by first | simpa only [vd, reduceCtorEq, ve, updD, vdc, wa, wb, ← hk, hs, hs5] using c14 | (simp only [vd, reduceCtorEq, ve, updD, vdc, wa, wb, ← hk, hs, hs5] at c14; grind)
        exfalso; exact c14 hS
    ·replace c11 : ¬(e1 ≠ 0) := by first | simpa only [vd, reduceCtorEq, ve, updD, vdc, wa, wb, ← hk, hs, hs5] using c11 | (simp only [vd, reduceCtorEq, ve, updD, vdc, wa, wb, ← hk, hs, hs5] at c11; grind)
     refine need_wp (by first | exact ⟨_, _, _, rfl⟩ | (simp only [vd, reduceCtorEq, ve, updD, vdc, wa, wb, ← hk, hs, hs5]; exact ⟨_, _, _, rfl⟩)) ?_
     refine need_wp (by first | exact ⟨_, _, _, rfl⟩ | (simp only [vd, reduceCtorEq, ve, updD, vdc, wa, wb, ← hk, hs, hs5]; exact ⟨_, _, _, rfl⟩)) ?_
     refine br_wp (fun c15 => ?_) (fun c15 => ?_)
     ·replace c15 : (x2.l.length : Int) > (x5.l.length : Int) := by first | simpa only [vd, reduceCtorEq, ve, updD, vdc, wa, wb, ← hk, hs, hs5] using c15 | (simp only [vd, reduceCtorEq, ve, updD, vdc, wa, wb, ← hk, hs, hs5] at c15; grind)
      refine ret_wp ?_
      try dsimp only
      first | (simp only [vd, reduceCtorEq, ve, updD, vdc, wa, wb, ← hk, hs, hs5]; done) | (exfalso; omega)
     ·replace c15 : ¬((x2.l.length : Int) > (x5.l.length : Int)) := by first | simpa only [vd, reduceCtorEq, ve, updD, vdc, wa, wb, ← hk, hs, hs5] using c15 | (simp only [vd, reduceCtorEq, ve, updD, vdc, wa, wb, ← hk, hs, hs5] at c15; grind)
      refine need_wp (by first | exact ⟨_, _, _, rfl⟩ | (simp only [vd, reduceCtorEq, ve, updD, vdc, wa, wb, ← hk, hs, hs5]; exact ⟨_, _, _, rfl⟩)) ?_
      refine need_wp (by first | exact ⟨_, _, _, rfl⟩ | (simp only [vd, reduceCtorEq, ve, updD, vdc, wa, wb, ← hk, hs, hs5]; exact ⟨_, _, _, rfl⟩)) ?_
      refine need_wp (by first | exact rw_szz (by assumption) | exact rw_szz (.inr rfl)) ?_
      refine need_wp (by simp only [vd, reduceCtorEq, ve, updD, vdc, wa, wb, ← hk, hs, hs5, List.length_cons, List.length_nil, List.length_append, List.length_set]; first | omega | (grind)) ?_
      refine need_wp (by simp only [vd, reduceCtorEq, ve, updD, vdc, wa, wb, ← hk, hs, hs5, List.length_cons, List.length_nil, List.length_append, List.length_set]; first | omega | (grind)) ?_
      refine call_fun (((x5.sub 1 0 (x2.l.length : Int)), x2)) rfl (by first | (simp only [vd, reduceCtorEq, ve, updD, vdc, wa, wb, ← hk, hs, hs5]; done) | (simp only [vd, reduceCtorEq, ve, updD, vdc, wa, wb, ← hk, hs, hs5]; rfl)) (⟨okL_sub w5.ok _, w2.ok, hz2, hz⟩) ?_
      refine br_wp (fun c16 => ?_) (fun c16 => ?_)
      ·replace c16 : vv (x5.sub 1 0 (x2.l.length : Int)) = vv x2 := by first | simpa only [vd, reduceCtorEq, ve, updD, vdc, wa, wb, ← hk, hs, hs5] using c16 | (simp only [vd, reduceCtorEq, ve, updD, vdc, wa, wb, ← hk, hs, hs5] at c16; grind)
       refine call_fun (()) rfl (by first | (simp only [vd, reduceCtorEq, ve, updD, vdc, wa, wb, ← hk, hs, hs5]; done) | (simp only [vd, reduceCtorEq, ve, updD, vdc, wa, wb, ← hk, hs, hs5]; rfl)) trivial ?_
       refine ret_wp ?_
       try dsimp only
       first | (simp only [vd, reduceCtorEq, ve, updD, vdc, wa, wb, ← hk, hs, hs5]; done) | (exfalso; omega)
      ·replace c16 : ¬(vv (x5.sub 1 0 (x2.l.length : Int)) = vv x2) := by first | simpa only [vd, reduceCtorEq, ve, updD, vdc, wa, wb, ← hk, hs, hs5] using c16 | (simp only [vd, reduceCtorEq, ve, updD, vdc, wa, wb, ← hk, hs, hs5] at c16; grind)
       exfalso; exact c16 hS
end Go.Proofs.YtamjocnlhhhijaaK
