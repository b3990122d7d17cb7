import Derived.Test.YtamjocnlhhhijaaVRR38
set_option linter.unusedSimpArgs false
set_option linter.unusedVariables false
set_option linter.unnecessarySimpa false
namespace Go.Proofs.YtamjocnlhhhijaaK
open Go Go.Proofs.YtamjocnlhhhijaaV Go.Proofs Go.Proofs.YtamjocnlhhhijaaK Go.Proofs.YtamjocnlhhhijaaK Go.Proofs.YtamjocnlhhhijaaS
def kOne (sg : Sig) : Sig × Con := (sg, mkRel (fun x : Rw Int × Int => ([Rw.atom eB x.1, aI x.2] : List Atom)) (fun x => x.1.ok 1 ∧ isB x.1.l ∧ x.1.l.length ≤ 100000 ∧ 0 ≤ x.2 ∧ x.2 ≤ (x.1.l.length : Int)) (fun x : Rw ByteArray × Int => ([Rw.atom eS x.1, aI x.2] : List Atom)) (fun x y => oneR x.1 x.2 y.1 y.2))
set_option maxHeartbeats 1000000 in
theorem h29 : holds Try.prog (kOne sg29) := by
 refine fn_holds (l := [kBeg sg38]) ⟨h38, trivial⟩ hP rs29 (inj_of (fun l : List Atom => ((Rw.un unI (l.getD 0 atom0), vi (l.getD 1 atom0).1) : Rw Int × Int)) (fun _ => by simp [List.getD_cons_zero, List.getD_cons_succ, unA_atom, unL_atom])) Try.func29 (by kernel_rfl) (c := code Try.f29) (by kernel_rfl) (an := an29) (by kernel_rfl) (pk := pk29) rfl (t := t29) (by kernel_rfl) ?_
 rintro ⟨b, p⟩ ⟨kb, hB, hl, h0, h1⟩
 refine ⟨by simp [pk29, KindsOk, RK.ok, Rw.atom, Sl.atom], ?_⟩
 unfold t29 t29_3 t29_2 t29_1
 dsimp only at kb hB hl h0 h1
 refine call_rel ((b, p, 42, 1, 50)) rfl (by first | (simp only [vd, reduceCtorEq, ve, updD, vdc]; done) | (simp only [vd, reduceCtorEq, ve, updD, vdc]; rfl)) (⟨kb, hB, hl, h0, h1, .inl ⟨rfl, rfl, rfl⟩⟩) ?_
 rintro ⟨k1, n1⟩ w1
 try dsimp only at w1
 refine br_wp (fun c1 => ?_) (fun c1 => ?_)
 ·replace c1 : k1 ≤ 0 := by first | simpa only [vd, reduceCtorEq, ve, updD, vdc] using c1 | (simp only [vd, reduceCtorEq, ve, updD, vdc] at c1; grind)
  refine need_wp (by first | exact ⟨_, _, _, rfl⟩ | (simp only [vd, reduceCtorEq, ve, updD, vdc]; exact ⟨_, _, _, rfl⟩)) ?_
  refine ret_wp ?_
  refine ⟨(Rw.nil, k1), by first | (simp only [vd, reduceCtorEq, ve, updD, vdc]; done) | (simp only [vd, reduceCtorEq, ve, updD, vdc]; rfl), ?_⟩
  try dsimp only
  exact one_none w1 h0 h1 c1
 ·replace c1 : ¬(k1 ≤ 0) := by first | simpa only [vd, reduceCtorEq, ve, updD, vdc] using c1 | (simp only [vd, reduceCtorEq, ve, updD, vdc] at c1; grind)
  obtain ⟨q1, q2, q3, q4⟩ := beg_inv w1 h0 h1
  obtain ⟨r1, r2, r3, r4, r5⟩ := q3 (by omega)
  have r4 : n1 ≤ 50 := r4
  have r3 : 1 ≤ n1 := r3
  have wk : IntKind.i64.wrap (p + k1) = p + k1 := wrap_id _ (by omega) (by omega)
  refine need_wp (by first | exact ⟨_, _, _, rfl⟩ | (simp only [vd, reduceCtorEq, ve, updD, vdc, wk]; exact ⟨_, _, _, rfl⟩)) ?_
  refine loop_wp (fun bs0 => ∃ (i : Int) (x : Rw ByteArray), bs0 = [aI i, Rw.atom eS x] ∧ (AH b p n1 i x)) (fun bs0 => ((b.l.length : Int) - vi (bs0.getD 0 atom0).1).toNat) ?_ ?_
  ·refine ⟨(p + k1), Rw.nil, by first | (simp only [vd, reduceCtorEq, ve, updD, vdc, wk]; done) | (simp only [vd, reduceCtorEq, ve, updD, vdc, wk]; rfl) | simp only [vd, reduceCtorEq, ve, updD, vdc, wk, Rw.atom, Rw.nil, List.length_nil, List.map_nil], ?_⟩
   exact AH.start w1 h0 h1 (by omega)
  rintro _ _ ⟨i, x, rfl, hA⟩
  have hlo := hA.lo
  have hhi := hA.hi
  have hp0 := hA.p0
  refine need_wp (by first | exact ⟨_, _, _, rfl⟩ | (simp only [vd, reduceCtorEq, ve, updD, vdc, wk]; exact ⟨_, _, _, rfl⟩)) ?_
  refine br_wp (fun c2 => ?_) (fun c2 => ?_)
  ·replace c2 : (x.l.length : Int) < n1 := by first | simpa only [vd, reduceCtorEq, ve, updD, vdc, wk] using c2 | (simp only [vd, reduceCtorEq, ve, updD, vdc, wk] at c2; grind)
   have hm1 := hA.m1
   have hcn := hA.cnt
   refine call_rel ((b, i, 36, 0, 1000)) rfl (by first | (simp only [vd, reduceCtorEq, ve, updD, vdc, wk]; done) | (simp only [vd, reduceCtorEq, ve, updD, vdc, wk]; rfl)) (⟨kb, hB, hl, by dsimp only; omega, hhi, .inr ⟨rfl, rfl, rfl⟩⟩) ?_
   rintro ⟨k2, n2⟩ w2
   try dsimp only at w2
   refine br_wp (fun c3 => ?_) (fun c3 => ?_)
   ·replace c3 : k2 ≤ 0 := by first | simpa only [vd, reduceCtorEq, ve, updD, vdc, wk] using c3 | (simp only [vd, reduceCtorEq, ve, updD, vdc, wk] at c3; grind)
    refine pop_wp ?_
    refine need_wp (by first | exact ⟨_, _, _, rfl⟩ | (simp only [vd, reduceCtorEq, ve, updD, vdc, wk]; exact ⟨_, _, _, rfl⟩)) ?_
    refine ret_wp ?_
    refine ⟨(Rw.nil, k2), by first | (simp only [vd, reduceCtorEq, ve, updD, vdc, wk]; done) | (simp only [vd, reduceCtorEq, ve, updD, vdc, wk]; rfl), ?_⟩
    try dsimp only
    exact hA.none c2 w2 c3
   ·replace c3 : ¬(k2 ≤ 0) := by first | simpa only [vd, reduceCtorEq, ve, updD, vdc, wk] using c3 | (simp only [vd, reduceCtorEq, ve, updD, vdc, wk] at c3; grind)
    obtain ⟨v1, v2, v3, v4⟩ := hA.arg w2 (by omega)
    have wi : IntKind.i64.wrap (i + k2) = i + k2 := wrap_id _ (by omega) (by omega)
    have we : IntKind.i64.wrap (i + k2 + n2) = i + k2 + n2 := wrap_id _ (by omega) (by omega)
    have wt : IntKind.i64.wrap (i + k2 + n2 + 2) = i + k2 + n2 + 2 := wrap_id _ (by omega) (by omega)
    obtain ⟨e9, he9⟩ : ∃ e9, e9 = min (i + k2 + n2) (b.l.length : Int) := ⟨_, rfl⟩
    have we2 : IntKind.i64.wrap (e9 + 2) = e9 + 2 := wrap_id _ (by omega) (by omega)
    obtain ⟨j9, hj9⟩ : ∃ j9, j9 = min (e9 + 2) (b.l.length : Int) := ⟨_, rfl⟩
    have hs := sub_rw (e := eB) (r := b) (z := 1) (i := e9) (j := j9) kb (by omega) (by omega) (by omega)
    have kbs : (b.sub 1 e9 j9).ok 1 := ok_sub kb _ _
    have hBs : isB (b.sub 1 e9 j9).l := isB_sub hB _ _ _
    refine need_wp (by first | exact ⟨_, _, _, rfl⟩ | (simp only [vd, reduceCtorEq, ve, updD, vdc, wk, wi, we, wt, ← he9, we2, ← hj9, hs]; exact ⟨_, _, _, rfl⟩)) ?_
    refine need_wp (by first | exact ⟨_, _, _, rfl⟩ | (simp only [vd, reduceCtorEq, ve, updD, vdc, wk, wi, we, wt, ← he9, we2, ← hj9, hs]; exact ⟨_, _, _, rfl⟩)) ?_
    refine need_wp (by first | exact ⟨_, _, _, rfl⟩ | (simp only [vd, reduceCtorEq, ve, updD, vdc, wk, wi, we, wt, ← he9, we2, ← hj9, hs]; exact ⟨_, _, _, rfl⟩)) ?_
    refine need_wp (by first | exact rw_szz (by assumption) | exact rw_szz (.inr rfl)) ?_
    refine need_wp (by simp only [vd, reduceCtorEq, ve, updD, vdc, wk, wi, we, wt, ← he9, we2, ← hj9, hs, List.length_cons, List.length_nil, List.length_append, List.length_set]; first | omega | (grind)) ?_
    refine need_wp (by simp only [vd, reduceCtorEq, ve, updD, vdc, wk, wi, we, wt, ← he9, we2, ← hj9, hs, List.length_cons, List.length_nil, List.length_append, List.length_set]; first | omega | (grind)) ?_
    refine need_wp (by simp only [vd, reduceCtorEq, ve, updD, vdc, wk, wi, we, wt, ← he9, we2, ← hj9, hs, List.length_cons, List.length_nil, List.length_append, List.length_set]; first | omega | (grind)) ?_
    refine need_wp (by first | exact ⟨_, _, _, rfl⟩ | (simp only [vd, reduceCtorEq, ve, updD, vdc, wk, wi, we, wt, ← he9, we2, ← hj9, hs]; exact ⟨_, _, _, rfl⟩)) ?_
    refine need_wp (by simp only [vd, reduceCtorEq, ve, updD, vdc, wk, wi, we, wt, ← he9, we2, ← hj9, hs]; exact need_bytes (by assumption) (by assumption)) ?_
    refine need_wp (by first | exact ⟨_, _, _, rfl⟩ | (simp only [vd, reduceCtorEq, ve, updD, vdc, wk, wi, we, wt, ← he9, we2, ← hj9, hs]; exact ⟨_, _, _, rfl⟩)) ?_
    refine br_wp (fun c4 => ?_) (fun c4 => ?_)
    ·replace c4 : (i + k2 + n2) > (b.l.length : Int) := by first | simpa only [vd, reduceCtorEq, ve, updD, vdc, wk, wi, we, wt, ← he9, we2, ← hj9, hs] using c4 | (simp only [vd, reduceCtorEq, ve, updD, vdc, wk, wi, we, wt, ← he9, we2, ← hj9, hs] at c4; grind)
     refine need_wp (by first | exact ⟨_, _, _, rfl⟩ | (simp only [vd, reduceCtorEq, ve, updD, vdc, wk, wi, we, wt, ← he9, we2, ← hj9, hs]; exact ⟨_, _, _, rfl⟩)) ?_
     refine pop_wp ?_
     refine need_wp (by first | exact ⟨_, _, _, rfl⟩ | (simp only [vd, reduceCtorEq, ve, updD, vdc, wk, wi, we, wt, ← he9, we2, ← hj9, hs]; exact ⟨_, _, _, rfl⟩)) ?_
     refine ret_wp ?_
     refine ⟨(Rw.nil, 0), by first | (simp only [vd, reduceCtorEq, ve, updD, vdc, wk, wi, we, wt, ← he9, we2, ← hj9, hs]; done) | (simp only [vd, reduceCtorEq, ve, updD, vdc, wk, wi, we, wt, ← he9, we2, ← hj9, hs]; rfl), ?_⟩
     try dsimp only
     exact hA.short c2 w2 (by omega) (by omega)
    ·replace c4 : ¬((i + k2 + n2) > (b.l.length : Int)) := by first | simpa only [vd, reduceCtorEq, ve, updD, vdc, wk, wi, we, wt, ← he9, we2, ← hj9, hs] using c4 | (simp only [vd, reduceCtorEq, ve, updD, vdc, wk, wi, we, wt, ← he9, we2, ← hj9, hs] at c4; grind)
     have he : e9 = i + k2 + n2 := by omega
     refine br_wp (fun c5 => ?_) (fun c5 => ?_)
     ·replace c5 : (ofBytes (b.sub 1 e9 j9).l) = (⟨#[13, 10]⟩ : ByteArray) := by first | simpa only [vd, reduceCtorEq, ve, updD, vdc, wk, wi, we, wt, ← he9, we2, ← hj9, hs] using c5 | (simp only [vd, reduceCtorEq, ve, updD, vdc, wk, wi, we, wt, ← he9, we2, ← hj9, hs] at c5; grind)
      have ht := (tail_is hB (e := e9) (by omega) (by omega) hj9 [13, 10]).1 c5
      rw [he] at ht
      have hs2 := sub_rw (e := eB) (r := b) (z := 1) (i := i + k2) (j := i + k2 + n2) kb (by omega) (by omega) (by omega)
      have kb2 : (b.sub 1 (i + k2) (i + k2 + n2)).ok 1 := ok_sub kb _ _
      have hB2 : isB (b.sub 1 (i + k2) (i + k2 + n2)).l := isB_sub hB _ _ _
      refine need_wp (by first | exact ⟨_, _, _, rfl⟩ | (simp only [vd, reduceCtorEq, ve, updD, vdc, wk, wi, we, wt, ← he9, we2, ← hj9, hs, hs2]; exact ⟨_, _, _, rfl⟩)) ?_
      refine need_wp (by first | exact rw_szz (by assumption) | exact rw_szz (.inr rfl)) ?_
      refine need_wp (by simp only [vd, reduceCtorEq, ve, updD, vdc, wk, wi, we, wt, ← he9, we2, ← hj9, hs, hs2, List.length_cons, List.length_nil, List.length_append, List.length_set]; first | omega | (grind)) ?_
      refine need_wp (by simp only [vd, reduceCtorEq, ve, updD, vdc, wk, wi, we, wt, ← he9, we2, ← hj9, hs, hs2, List.length_cons, List.length_nil, List.length_append, List.length_set]; first | omega | (grind)) ?_
      refine need_wp (by simp only [vd, reduceCtorEq, ve, updD, vdc, wk, wi, we, wt, ← he9, we2, ← hj9, hs, hs2, List.length_cons, List.length_nil, List.length_append, List.length_set]; first | omega | (grind)) ?_
      refine need_wp (by first | exact ⟨_, _, _, rfl⟩ | (simp only [vd, reduceCtorEq, ve, updD, vdc, wk, wi, we, wt, ← he9, we2, ← hj9, hs, hs2]; exact ⟨_, _, _, rfl⟩)) ?_
      refine need_wp (by simp only [vd, reduceCtorEq, ve, updD, vdc, wk, wi, we, wt, ← he9, we2, ← hj9, hs, hs2]; exact need_bytes (by assumption) (by assumption)) ?_
      refine new_wp eS [(ofBytes (b.sub 1 (i + k2) (i + k2 + n2)).l)] (by first | (simp only [vd, reduceCtorEq, ve, updD, vdc, wk, wi, we, wt, ← he9, we2, ← hj9, hs, hs2, eS]; done) | rfl) ?_
      intro a3 b3
      generalize hx3 : (⟨a3, b3, 1, [(ofBytes (b.sub 1 (i + k2) (i + k2 + n2)).l)]⟩ : Rw ByteArray) = x3
      have lx3 : x3.l = [(ofBytes (b.sub 1 (i + k2) (i + k2 + n2)).l)] := by first | (rw [← hx3]; done) | (rw [← hx3]; rfl)
      have zx3 : x3.z = 1 := by rw [← hx3]
      have kx3 : Rw.ok 1 x3 := .inr zx3
      have nx3 : (x3.l.length : Int) = 1 := by first | (rw [← hx3]; done) | (rw [← hx3]; simp [Rw.nil])
      refine need_wp (by first | exact rw_row _ _ | (simp only [vd, reduceCtorEq, ve, updD, vdc, wk, wi, we, wt, ← he9, we2, ← hj9, hs, hs2]; exact ⟨_, _, rfl⟩)) ?_
      refine need_wp (by first | exact ⟨_, _, _, rfl⟩ | (simp only [vd, reduceCtorEq, ve, updD, vdc, wk, wi, we, wt, ← he9, we2, ← hj9, hs, hs2]; exact ⟨_, _, _, rfl⟩)) ?_
      refine need_wp (by first | exact rw_szz (by assumption) | exact rw_szz (.inr rfl)) ?_
      refine need_wp (by simp only [vd, reduceCtorEq, ve, updD, vdc, wk, wi, we, wt, ← he9, we2, ← hj9, hs, hs2, List.length_cons, List.length_nil, List.length_append, List.length_set]; first | omega | (grind)) ?_
      refine need_wp (by simp only [vd, reduceCtorEq, ve, updD, vdc, wk, wi, we, wt, ← he9, we2, ← hj9, hs, hs2, List.length_cons, List.length_nil, List.length_append, List.length_set]; first | omega | (grind)) ?_
      refine app_wp eS x x3 (by first | rfl | simp only [vd, reduceCtorEq, ve, updD, vdc, wk, wi, we, wt, ← he9, we2, ← hj9, hs, hs2]) (by first | rfl | simp only [vd, reduceCtorEq, ve, updD, vdc, wk, wi, we, wt, ← he9, we2, ← hj9, hs, hs2]) ?_
      intro a4 b4
      generalize hx4 : (⟨a4, b4, 1, x.l ++ x3.l⟩ : Rw ByteArray) = x4
      have lx4 : x4.l = x.l ++ x3.l := by first | (rw [← hx4]; done) | (rw [← hx4]; rfl)
      have zx4 : x4.z = 1 := by rw [← hx4]
      have kx4 : Rw.ok 1 x4 := .inr zx4
      have nx4 : (x4.l.length : Int) = (x.l.length : Int) + (x3.l.length : Int) := by first | (rw [← hx4]; done) | (rw [← hx4]; simp [Rw.nil])
      refine need_wp (by first | exact ⟨_, _, _, rfl⟩ | (simp only [vd, reduceCtorEq, ve, updD, vdc, wk, wi, we, wt, ← he9, we2, ← hj9, hs, hs2]; exact ⟨_, _, _, rfl⟩)) ?_
      refine again_wp rfl ⟨(i + k2 + n2 + 2), x4, by simp only [vd, reduceCtorEq, ve, updD, vdc, wk, wi, we, wt, ← he9, we2, ← hj9, hs, hs2], ?_⟩ ?_
      ·exact hA.next hB c2 w2 (by omega) (by omega) ht (by rw [lx4, lx3]) kx4
      ·(try simp only [vd, reduceCtorEq, ve, updD, vdc, wk, wi, we, wt, ← he9, we2, ← hj9, hs, hs2]); omega
     ·replace c5 : ¬((ofBytes (b.sub 1 e9 j9).l) = (⟨#[13, 10]⟩ : ByteArray)) := by first | simpa only [vd, reduceCtorEq, ve, updD, vdc, wk, wi, we, wt, ← he9, we2, ← hj9, hs] using c5 | (simp only [vd, reduceCtorEq, ve, updD, vdc, wk, wi, we, wt, ← he9, we2, ← hj9, hs] at c5; grind)
      refine need_wp (by first | exact ⟨_, _, _, rfl⟩ | (simp only [vd, reduceCtorEq, ve, updD, vdc, wk, wi, we, wt, ← he9, we2, ← hj9, hs]; exact ⟨_, _, _, rfl⟩)) ?_
      refine br_wp (fun c6 => ?_) (fun c6 => ?_)
      ·replace c6 : (ofBytes (b.sub 1 e9 j9).l) = (⟨#[]⟩ : ByteArray) := by first | simpa only [vd, reduceCtorEq, ve, updD, vdc, wk, wi, we, wt, ← he9, we2, ← hj9, hs] using c6 | (simp only [vd, reduceCtorEq, ve, updD, vdc, wk, wi, we, wt, ← he9, we2, ← hj9, hs] at c6; grind)
       refine pop_wp ?_
       refine need_wp (by first | exact ⟨_, _, _, rfl⟩ | (simp only [vd, reduceCtorEq, ve, updD, vdc, wk, wi, we, wt, ← he9, we2, ← hj9, hs]; exact ⟨_, _, _, rfl⟩)) ?_
       refine ret_wp ?_
       refine ⟨(Rw.nil, 0), by first | (simp only [vd, reduceCtorEq, ve, updD, vdc, wk, wi, we, wt, ← he9, we2, ← hj9, hs]; done) | (simp only [vd, reduceCtorEq, ve, updD, vdc, wk, wi, we, wt, ← he9, we2, ← hj9, hs]; rfl), ?_⟩
       try dsimp only
       exact hA.cut c2 w2 (by omega) (by omega) (.inl (he ▸ (tail_is hB (e := e9) (by omega) (by omega) hj9 []).1 c6))
      ·replace c6 : ¬((ofBytes (b.sub 1 e9 j9).l) = (⟨#[]⟩ : ByteArray)) := by first | simpa only [vd, reduceCtorEq, ve, updD, vdc, wk, wi, we, wt, ← he9, we2, ← hj9, hs] using c6 | (simp only [vd, reduceCtorEq, ve, updD, vdc, wk, wi, we, wt, ← he9, we2, ← hj9, hs] at c6; grind)
       refine br_wp (fun c7 => ?_) (fun c7 => ?_)
       ·replace c7 : (ofBytes (b.sub 1 e9 j9).l) = (⟨#[13]⟩ : ByteArray) := by first | simpa only [vd, reduceCtorEq, ve, updD, vdc, wk, wi, we, wt, ← he9, we2, ← hj9, hs] using c7 | (simp only [vd, reduceCtorEq, ve, updD, vdc, wk, wi, we, wt, ← he9, we2, ← hj9, hs] at c7; grind)
        refine pop_wp ?_
        refine need_wp (by first | exact ⟨_, _, _, rfl⟩ | (simp only [vd, reduceCtorEq, ve, updD, vdc, wk, wi, we, wt, ← he9, we2, ← hj9, hs]; exact ⟨_, _, _, rfl⟩)) ?_
        refine ret_wp ?_
        refine ⟨(Rw.nil, 0), by first | (simp only [vd, reduceCtorEq, ve, updD, vdc, wk, wi, we, wt, ← he9, we2, ← hj9, hs]; done) | (simp only [vd, reduceCtorEq, ve, updD, vdc, wk, wi, we, wt, ← he9, we2, ← hj9, hs]; rfl), ?_⟩
        try dsimp only
        exact hA.cut c2 w2 (by omega) (by omega) (.inr (he ▸ (tail_is hB (e := e9) (by omega) (by omega) hj9 [13]).1 c7))
       ·replace c7 : ¬((ofBytes (b.sub 1 e9 j9).l) = (⟨#[13]⟩ : ByteArray)) := by first | simpa only [vd, reduceCtorEq, ve, updD, vdc, wk, wi, we, wt, ← he9, we2, ← hj9, hs] using c7 | (simp only [vd, reduceCtorEq, ve, updD, vdc, wk, wi, we, wt, ← he9, we2, ← hj9, hs] at c7; grind)
        refine pop_wp ?_
        refine need_wp (by first | exact ⟨_, _, _, rfl⟩ | (simp only [vd, reduceCtorEq, ve, updD, vdc, wk, wi, we, wt, ← he9, we2, ← hj9, hs]; exact ⟨_, _, _, rfl⟩)) ?_
        refine ret_wp ?_
        refine ⟨(Rw.nil, (-1)), by first | (simp only [vd, reduceCtorEq, ve, updD, vdc, wk, wi, we, wt, ← he9, we2, ← hj9, hs]; done) | (simp only [vd, reduceCtorEq, ve, updD, vdc, wk, wi, we, wt, ← he9, we2, ← hj9, hs]; rfl), ?_⟩
        try dsimp only
        exact hA.odd c2 w2 (by omega) (by omega) (fun h => c6 ((tail_is hB (e := e9) (by omega) (by omega) hj9 []).2 (he ▸ h))) (fun h => c7 ((tail_is hB (e := e9) (by omega) (by omega) hj9 [13]).2 (he ▸ h))) (fun h => c5 ((tail_is hB (e := e9) (by omega) (by omega) hj9 [13, 10]).2 (he ▸ h)))
  ·replace c2 : ¬((x.l.length : Int) < n1) := by first | simpa only [vd, reduceCtorEq, ve, updD, vdc, wk] using c2 | (simp only [vd, reduceCtorEq, ve, updD, vdc, wk] at c2; grind)
   have wq : IntKind.i64.wrap (i - p) = i - p := wrap_id _ (by omega) (by omega)
   refine pop_wp ?_
   refine need_wp (by first | exact ⟨_, _, _, rfl⟩ | (simp only [vd, reduceCtorEq, ve, updD, vdc, wk, wq]; exact ⟨_, _, _, rfl⟩)) ?_
   refine ret_wp ?_
   refine ⟨(x, (i - p)), by first | (simp only [vd, reduceCtorEq, ve, updD, vdc, wk, wq]; done) | (simp only [vd, reduceCtorEq, ve, updD, vdc, wk, wq]; rfl), ?_⟩
   try dsimp only
   exact hA.done c2
end Go.Proofs.YtamjocnlhhhijaaK
