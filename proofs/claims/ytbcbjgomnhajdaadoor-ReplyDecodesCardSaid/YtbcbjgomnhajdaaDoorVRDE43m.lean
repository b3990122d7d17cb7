/-  -/
import Derived.Test.YtbcbjgomnhajdaaDoorVRDc0m
import Derived.Test.YtbcbjgomnhajdaaDoorVRDp2m
import Derived.Test.YtbcbjgomnhajdaaDoorVRDd
set_option linter.unusedSimpArgs false
set_option linter.unusedVariables false
section
set_option linter.unusedSimpArgs false
set_option linter.unusedVariables false
set_option linter.unnecessarySimpa false
namespace Go.Proofs.YtbcbjgomnhajdaaDoorK
open Go Go.Proofs.YtbcbjgomnhajdaaDoorV Go.Proofs Go.Proofs.YtbcbjgomnhajdaaDoorK Go.Proofs.YtbcbjgomnhajdaaDoorK
def rel8 (x : Rw Int × Gh) (y : Rep × Int × Int) : Prop := (y.1.v, y.2.1, y.2.2) = dec (ls (ofBytes x.1.l)) ∧ y.1.l.ok 1
def post8 (x : Rw Int × Gh) (outs : List Atom) : Prop := ∃ y, outs = (fun x : Rep × Int × Int => ([aI x.1.k, aS x.1.t, aI x.1.n, Rw.atom eS x.1.l, aI x.2.1, aI x.2.2] : List Atom)) y ∧ rel8 x y
set_option maxHeartbeats 16000000 in
theorem h8_43 {b : Rw Int} {q : Gh} {s0 t : ByteArray} {cc0 : UInt8} {b1 : Bool} (kb : b.ok 1) (hq : pG q) (hl : b.l.length ≤ 100000) (hb0 : s0 = ofBytes b.l) (hSn : s0.size = b.l.length) (hS : ls s0 = cc0 :: ls t) (hx0 : s0.extract 0 1 = (⟨#[cc0]⟩ : ByteArray)) (hz0 : 1 ≤ (s0.size : Int)) (ht : t = s0.extract (1 : Int).toNat s0.size) (zt : (t.size : Int) = s0.size - 1) (hs : cc0 = 43) : t8_43.wp (tab [kCo sg38, kIA sg47, kCut sg48, kUpto sg49, kBegins sg50, kNumeric sg51, kHP sg52]) (post8 (b, q)) [Rw.atom eB b, Rw.atom eF q.a, Rw.atom eF q.b, aB b1] [] := by
 have eS2 : ofBytes b.l = s0 := hb0.symm
 have ex0 : s0.extract (0 : Int).toNat (1 : Int).toNat = (⟨#[cc0]⟩ : ByteArray) := hx0
 have et : s0.extract (1 : Int).toNat (s0.size : Int).toNat = t := ht.symm
 unfold t8_43
 refine call_rel ((t, (⟨#[13, 10]⟩ : ByteArray))) rfl (by first | (simp only [vd, reduceCtorEq, ve, updD, eS2, ex0, et]; done) | (simp only [vd, reduceCtorEq, ve, updD, eS2, ex0, et]; rfl)) (⟨by dsimp only; omega, rfl⟩) ?_
 rintro v1 hia1
 try dsimp only at hia1
 refine br_wp (fun c1 => ?_) (fun c1 => ?_)
 ·replace c1 : v1 < 0 := by first | simpa only [vd, reduceCtorEq, ve, updD, eS2, ex0, et] using c1 | (simp only [vd, reduceCtorEq, ve, updD, eS2, ex0, et] at c1; grind)
  have q1 := tx_8 hia1 c1
  refine need_wp (by first | exact ⟨_, _, _, rfl⟩ | (simp only [vd, reduceCtorEq, ve, updD, eS2, ex0, et]; exact ⟨_, _, _, rfl⟩)) ?_
  refine ret_wp ?_
  refine ⟨((⟨0, (⟨#[]⟩ : ByteArray), 0, Rw.nil⟩ : Rep), 0, 8), by first | (simp only [vd, reduceCtorEq, ve, updD, eS2, ex0, et]; done) | (simp only [vd, reduceCtorEq, ve, updD, eS2, ex0, et]; rfl), ?_⟩
  show _ = dec (ls (ofBytes b.l)) ∧ _
  rw [← hb0]
  exact ⟨(d43n hS hs q1).symm, .inl rfl⟩
 ·replace c1 : ¬(v1 < 0) := by first | simpa only [vd, reduceCtorEq, ve, updD, eS2, ex0, et] using c1 | (simp only [vd, reduceCtorEq, ve, updD, eS2, ex0, et] at c1; grind)
  obtain ⟨g2, g3⟩ := tx_rng hia1 c1
  have w4 : IntKind.i64.wrap ((t.size : Int) - 1) = (t.size : Int) - 1 := wrap_id _ (by omega) (by omega)
  have w5 : IntKind.i64.wrap (v1 + 1) = v1 + 1 := wrap_id _ (by omega) (by omega)
  have w6 : IntKind.i64.wrap (v1 + 2) = v1 + 2 := wrap_id _ (by omega) (by omega)
  refine br_wp (fun c2 => ?_) (fun c2 => ?_)
  ·replace c2 : v1 = ((t.size : Int) - 1) := by first | simpa only [vd, reduceCtorEq, ve, updD, eS2, ex0, et, w4, w5, w6] using c2 | (simp only [vd, reduceCtorEq, ve, updD, eS2, ex0, et, w4, w5, w6] at c2; grind)
   refine need_wp (by simp only [vd, reduceCtorEq, ve, updD, eS2, ex0, et, w4, w5, w6, List.length_cons, List.length_nil, List.length_append, List.length_set]; first | omega | (grind)) ?_
   refine need_wp (by simp only [vd, reduceCtorEq, ve, updD, eS2, ex0, et, w4, w5, w6, List.length_cons, List.length_nil, List.length_append, List.length_set]; first | omega | (grind)) ?_
   refine br_wp (fun c3 => ?_) (fun c3 => ?_)
   ·replace c3 : (byteAt t v1) = 13 := by first | simpa only [vd, reduceCtorEq, ve, updD, eS2, ex0, et, w4, w5, w6] using c3 | (simp only [vd, reduceCtorEq, ve, updD, eS2, ex0, et, w4, w5, w6] at c3; grind)
    have q7 := tx_cr8 hia1 c1 c2 c3
    refine need_wp (by first | exact ⟨_, _, _, rfl⟩ | (simp only [vd, reduceCtorEq, ve, updD, eS2, ex0, et, w4, w5, w6]; exact ⟨_, _, _, rfl⟩)) ?_
    refine ret_wp ?_
    refine ⟨((⟨0, (⟨#[]⟩ : ByteArray), 0, Rw.nil⟩ : Rep), 0, 8), by first | (simp only [vd, reduceCtorEq, ve, updD, eS2, ex0, et, w4, w5, w6]; done) | (simp only [vd, reduceCtorEq, ve, updD, eS2, ex0, et, w4, w5, w6]; rfl), ?_⟩
    show _ = dec (ls (ofBytes b.l)) ∧ _
    rw [← hb0]
    exact ⟨(d43n hS hs q7).symm, .inl rfl⟩
   ·replace c3 : ¬((byteAt t v1) = 13) := by first | simpa only [vd, reduceCtorEq, ve, updD, eS2, ex0, et, w4, w5, w6] using c3 | (simp only [vd, reduceCtorEq, ve, updD, eS2, ex0, et, w4, w5, w6] at c3; grind)
    refine br_wp (fun c4 => ?_) (fun c4 => ?_)
    ·replace c4 : (byteAt t v1) ≠ 13 := by first | simpa only [vd, reduceCtorEq, ve, updD, eS2, ex0, et, w4, w5, w6] using c4 | (simp only [vd, reduceCtorEq, ve, updD, eS2, ex0, et, w4, w5, w6] at c4; grind)
     have q8 := tx_9 hia1 c1 c4
     refine need_wp (by first | exact ⟨_, _, _, rfl⟩ | (simp only [vd, reduceCtorEq, ve, updD, eS2, ex0, et, w4, w5, w6]; exact ⟨_, _, _, rfl⟩)) ?_
     refine ret_wp ?_
     refine ⟨((⟨0, (⟨#[]⟩ : ByteArray), 0, Rw.nil⟩ : Rep), 0, 9), by first | (simp only [vd, reduceCtorEq, ve, updD, eS2, ex0, et, w4, w5, w6]; done) | (simp only [vd, reduceCtorEq, ve, updD, eS2, ex0, et, w4, w5, w6]; rfl), ?_⟩
     show _ = dec (ls (ofBytes b.l)) ∧ _
     rw [← hb0]
     exact ⟨(d43n hS hs q8).symm, .inl rfl⟩
    ·replace c4 : ¬((byteAt t v1) ≠ 13) := by first | simpa only [vd, reduceCtorEq, ve, updD, eS2, ex0, et, w4, w5, w6] using c4 | (simp only [vd, reduceCtorEq, ve, updD, eS2, ex0, et, w4, w5, w6] at c4; grind)
     exfalso; exact c4 c3
  ·replace c2 : ¬(v1 = ((t.size : Int) - 1)) := by first | simpa only [vd, reduceCtorEq, ve, updD, eS2, ex0, et, w4, w5, w6] using c2 | (simp only [vd, reduceCtorEq, ve, updD, eS2, ex0, et, w4, w5, w6] at c2; grind)
   refine need_wp (by simp only [vd, reduceCtorEq, ve, updD, eS2, ex0, et, w4, w5, w6, List.length_cons, List.length_nil, List.length_append, List.length_set]; first | omega | (grind)) ?_
   refine need_wp (by simp only [vd, reduceCtorEq, ve, updD, eS2, ex0, et, w4, w5, w6, List.length_cons, List.length_nil, List.length_append, List.length_set]; first | omega | (grind)) ?_
   refine br_wp (fun c6 => ?_) (fun c6 => ?_)
   ·replace c6 : (byteAt t v1) ≠ 13 := by first | simpa only [vd, reduceCtorEq, ve, updD, eS2, ex0, et, w4, w5, w6] using c6 | (simp only [vd, reduceCtorEq, ve, updD, eS2, ex0, et, w4, w5, w6] at c6; grind)
    have q9 := tx_9 hia1 c1 c6
    refine need_wp (by first | exact ⟨_, _, _, rfl⟩ | (simp only [vd, reduceCtorEq, ve, updD, eS2, ex0, et, w4, w5, w6]; exact ⟨_, _, _, rfl⟩)) ?_
    refine ret_wp ?_
    refine ⟨((⟨0, (⟨#[]⟩ : ByteArray), 0, Rw.nil⟩ : Rep), 0, 9), by first | (simp only [vd, reduceCtorEq, ve, updD, eS2, ex0, et, w4, w5, w6]; done) | (simp only [vd, reduceCtorEq, ve, updD, eS2, ex0, et, w4, w5, w6]; rfl), ?_⟩
    show _ = dec (ls (ofBytes b.l)) ∧ _
    rw [← hb0]
    exact ⟨(d43n hS hs q9).symm, .inl rfl⟩
   ·replace c6 : ¬((byteAt t v1) ≠ 13) := by first | simpa only [vd, reduceCtorEq, ve, updD, eS2, ex0, et, w4, w5, w6] using c6 | (simp only [vd, reduceCtorEq, ve, updD, eS2, ex0, et, w4, w5, w6] at c6; grind)
    have cb10 : byteAt t v1 = 13 := Decidable.not_not.1 c6
    have cl11 : v1 + 1 < (t.size : Int) := by omega
    refine need_wp (by simp only [vd, reduceCtorEq, ve, updD, eS2, ex0, et, w4, w5, w6, List.length_cons, List.length_nil, List.length_append, List.length_set]; first | omega | (grind)) ?_
    refine need_wp (by simp only [vd, reduceCtorEq, ve, updD, eS2, ex0, et, w4, w5, w6, List.length_cons, List.length_nil, List.length_append, List.length_set]; first | omega | (grind)) ?_
    refine br_wp (fun c7 => ?_) (fun c7 => ?_)
    ·replace c7 : (byteAt t (v1 + 1)) ≠ 10 := by first | simpa only [vd, reduceCtorEq, ve, updD, eS2, ex0, et, w4, w5, w6] using c7 | (simp only [vd, reduceCtorEq, ve, updD, eS2, ex0, et, w4, w5, w6] at c7; grind)
     have q12 := tx_n9 hia1 c1 cl11 cb10 c7
     refine need_wp (by first | exact ⟨_, _, _, rfl⟩ | (simp only [vd, reduceCtorEq, ve, updD, eS2, ex0, et, w4, w5, w6]; exact ⟨_, _, _, rfl⟩)) ?_
     refine ret_wp ?_
     refine ⟨((⟨0, (⟨#[]⟩ : ByteArray), 0, Rw.nil⟩ : Rep), 0, 9), by first | (simp only [vd, reduceCtorEq, ve, updD, eS2, ex0, et, w4, w5, w6]; done) | (simp only [vd, reduceCtorEq, ve, updD, eS2, ex0, et, w4, w5, w6]; rfl), ?_⟩
     show _ = dec (ls (ofBytes b.l)) ∧ _
     rw [← hb0]
     exact ⟨(d43n hS hs q12).symm, .inl rfl⟩
    ·replace c7 : ¬((byteAt t (v1 + 1)) ≠ 10) := by first | simpa only [vd, reduceCtorEq, ve, updD, eS2, ex0, et, w4, w5, w6] using c7 | (simp only [vd, reduceCtorEq, ve, updD, eS2, ex0, et, w4, w5, w6] at c7; grind)
     obtain ⟨r14, hr14⟩ : ∃ z, z = t.extract (v1 + 2 : Int).toNat t.size := ⟨_, rfl⟩
     have zr14 : (r14.size : Int) = t.size - ((v1 + 2)) := by rw [hr14]; exact ext_size (by omega) (by omega)
     have er14 : t.extract (v1 + 2 : Int).toNat (t.size : Int).toNat = r14 := hr14.symm
     have q13 : textL (ls t) = .ok (ls (t.extract 0 v1.toNat)) (ls r14) := by rw [hr14]; exact tx_ok hia1 c1 cl11 cb10 (Decidable.not_not.1 c7)
     refine need_wp (by simp only [vd, reduceCtorEq, ve, updD, eS2, ex0, et, w4, w5, w6, er14, List.length_cons, List.length_nil, List.length_append, List.length_set]; first | omega | (grind)) ?_
     refine need_wp (by simp only [vd, reduceCtorEq, ve, updD, eS2, ex0, et, w4, w5, w6, er14, List.length_cons, List.length_nil, List.length_append, List.length_set]; first | omega | (grind)) ?_
     refine need_wp (by simp only [vd, reduceCtorEq, ve, updD, eS2, ex0, et, w4, w5, w6, er14, List.length_cons, List.length_nil, List.length_append, List.length_set]; first | omega | (grind)) ?_
     refine need_wp (by simp only [vd, reduceCtorEq, ve, updD, eS2, ex0, et, w4, w5, w6, er14, List.length_cons, List.length_nil, List.length_append, List.length_set]; first | omega | (grind)) ?_
     refine need_wp (by first | exact ⟨_, _, _, rfl⟩ | (simp only [vd, reduceCtorEq, ve, updD, eS2, ex0, et, w4, w5, w6, er14]; exact ⟨_, _, _, rfl⟩)) ?_
     refine need_wp (by first | exact ⟨_, _, _, rfl⟩ | (simp only [vd, reduceCtorEq, ve, updD, eS2, ex0, et, w4, w5, w6, er14]; exact ⟨_, _, _, rfl⟩)) ?_
     refine ret_wp ?_
     refine ⟨((⟨1, (t.extract (0 : Int).toNat (v1 : Int).toNat), 0, Rw.nil⟩ : Rep), (IntKind.i64.wrap ((b.l.length : Int) - (r14.size : Int))), 0), by first | (simp only [vd, reduceCtorEq, ve, updD, eS2, ex0, et, w4, w5, w6, er14]; done) | (simp only [vd, reduceCtorEq, ve, updD, eS2, ex0, et, w4, w5, w6, er14]; rfl), ?_⟩
     show _ = dec (ls (ofBytes b.l)) ∧ _
     rw [← hb0]
     exact ⟨dec_leaf (n := b.l.length) (d43k hS hs q13) hSn (by omega) (by omega), .inl rfl⟩
end Go.Proofs.YtbcbjgomnhajdaaDoorK
end

section
set_option linter.unusedSimpArgs false
set_option linter.unusedVariables false
set_option linter.unnecessarySimpa false
namespace Go.Proofs.YtbcbjgomnhajdaaDoorK
open Go Go.Proofs.YtbcbjgomnhajdaaDoorV Go.Proofs Go.Proofs.YtbcbjgomnhajdaaDoorK Go.Proofs.YtbcbjgomnhajdaaDoorK
set_option maxHeartbeats 16000000 in
theorem h8_45 {b : Rw Int} {q : Gh} {s0 t : ByteArray} {cc0 : UInt8} {b1 : Bool} (kb : b.ok 1) (hq : pG q) (hl : b.l.length ≤ 100000) (hb0 : s0 = ofBytes b.l) (hSn : s0.size = b.l.length) (hS : ls s0 = cc0 :: ls t) (hx0 : s0.extract 0 1 = (⟨#[cc0]⟩ : ByteArray)) (hz0 : 1 ≤ (s0.size : Int)) (ht : t = s0.extract (1 : Int).toNat s0.size) (zt : (t.size : Int) = s0.size - 1) (hs : cc0 = 45) : t8_45.wp (tab [kCo sg38, kIA sg47, kCut sg48, kUpto sg49, kBegins sg50, kNumeric sg51, kHP sg52]) (post8 (b, q)) [Rw.atom eB b, Rw.atom eF q.a, Rw.atom eF q.b, aB b1] [] := by
 have eS2 : ofBytes b.l = s0 := hb0.symm
 have ex0 : s0.extract (0 : Int).toNat (1 : Int).toNat = (⟨#[cc0]⟩ : ByteArray) := hx0
 have et : s0.extract (1 : Int).toNat (s0.size : Int).toNat = t := ht.symm
 unfold t8_45
 refine call_rel ((t, (⟨#[13, 10]⟩ : ByteArray))) rfl (by first | (simp only [vd, reduceCtorEq, ve, updD, eS2, ex0, et]; done) | (simp only [vd, reduceCtorEq, ve, updD, eS2, ex0, et]; rfl)) (⟨by dsimp only; omega, rfl⟩) ?_
 rintro v1 hia1
 try dsimp only at hia1
 refine br_wp (fun c1 => ?_) (fun c1 => ?_)
 ·replace c1 : v1 < 0 := by first | simpa only [vd, reduceCtorEq, ve, updD, eS2, ex0, et] using c1 | (simp only [vd, reduceCtorEq, ve, updD, eS2, ex0, et] at c1; grind)
  have q1 := tx_8 hia1 c1
  refine need_wp (by first | exact ⟨_, _, _, rfl⟩ | (simp only [vd, reduceCtorEq, ve, updD, eS2, ex0, et]; exact ⟨_, _, _, rfl⟩)) ?_
  refine ret_wp ?_
  refine ⟨((⟨0, (⟨#[]⟩ : ByteArray), 0, Rw.nil⟩ : Rep), 0, 8), by first | (simp only [vd, reduceCtorEq, ve, updD, eS2, ex0, et]; done) | (simp only [vd, reduceCtorEq, ve, updD, eS2, ex0, et]; rfl), ?_⟩
  show _ = dec (ls (ofBytes b.l)) ∧ _
  rw [← hb0]
  exact ⟨(d45n hS hs q1).symm, .inl rfl⟩
 ·replace c1 : ¬(v1 < 0) := by first | simpa only [vd, reduceCtorEq, ve, updD, eS2, ex0, et] using c1 | (simp only [vd, reduceCtorEq, ve, updD, eS2, ex0, et] at c1; grind)
  obtain ⟨g2, g3⟩ := tx_rng hia1 c1
  have w4 : IntKind.i64.wrap ((t.size : Int) - 1) = (t.size : Int) - 1 := wrap_id _ (by omega) (by omega)
  have w5 : IntKind.i64.wrap (v1 + 1) = v1 + 1 := wrap_id _ (by omega) (by omega)
  have w6 : IntKind.i64.wrap (v1 + 2) = v1 + 2 := wrap_id _ (by omega) (by omega)
  refine br_wp (fun c2 => ?_) (fun c2 => ?_)
  ·replace c2 : v1 = ((t.size : Int) - 1) := by first | simpa only [vd, reduceCtorEq, ve, updD, eS2, ex0, et, w4, w5, w6] using c2 | (simp only [vd, reduceCtorEq, ve, updD, eS2, ex0, et, w4, w5, w6] at c2; grind)
   refine need_wp (by simp only [vd, reduceCtorEq, ve, updD, eS2, ex0, et, w4, w5, w6, List.length_cons, List.length_nil, List.length_append, List.length_set]; first | omega | (grind)) ?_
   refine need_wp (by simp only [vd, reduceCtorEq, ve, updD, eS2, ex0, et, w4, w5, w6, List.length_cons, List.length_nil, List.length_append, List.length_set]; first | omega | (grind)) ?_
   refine br_wp (fun c3 => ?_) (fun c3 => ?_)
   ·replace c3 : (byteAt t v1) = 13 := by first | simpa only [vd, reduceCtorEq, ve, updD, eS2, ex0, et, w4, w5, w6] using c3 | (simp only [vd, reduceCtorEq, ve, updD, eS2, ex0, et, w4, w5, w6] at c3; grind)
    have q7 := tx_cr8 hia1 c1 c2 c3
    refine need_wp (by first | exact ⟨_, _, _, rfl⟩ | (simp only [vd, reduceCtorEq, ve, updD, eS2, ex0, et, w4, w5, w6]; exact ⟨_, _, _, rfl⟩)) ?_
    refine ret_wp ?_
    refine ⟨((⟨0, (⟨#[]⟩ : ByteArray), 0, Rw.nil⟩ : Rep), 0, 8), by first | (simp only [vd, reduceCtorEq, ve, updD, eS2, ex0, et, w4, w5, w6]; done) | (simp only [vd, reduceCtorEq, ve, updD, eS2, ex0, et, w4, w5, w6]; rfl), ?_⟩
    show _ = dec (ls (ofBytes b.l)) ∧ _
    rw [← hb0]
    exact ⟨(d45n hS hs q7).symm, .inl rfl⟩
   ·replace c3 : ¬((byteAt t v1) = 13) := by first | simpa only [vd, reduceCtorEq, ve, updD, eS2, ex0, et, w4, w5, w6] using c3 | (simp only [vd, reduceCtorEq, ve, updD, eS2, ex0, et, w4, w5, w6] at c3; grind)
    refine br_wp (fun c4 => ?_) (fun c4 => ?_)
    ·replace c4 : (byteAt t v1) ≠ 13 := by first | simpa only [vd, reduceCtorEq, ve, updD, eS2, ex0, et, w4, w5, w6] using c4 | (simp only [vd, reduceCtorEq, ve, updD, eS2, ex0, et, w4, w5, w6] at c4; grind)
     have q8 := tx_9 hia1 c1 c4
     refine need_wp (by first | exact ⟨_, _, _, rfl⟩ | (simp only [vd, reduceCtorEq, ve, updD, eS2, ex0, et, w4, w5, w6]; exact ⟨_, _, _, rfl⟩)) ?_
     refine ret_wp ?_
     refine ⟨((⟨0, (⟨#[]⟩ : ByteArray), 0, Rw.nil⟩ : Rep), 0, 9), by first | (simp only [vd, reduceCtorEq, ve, updD, eS2, ex0, et, w4, w5, w6]; done) | (simp only [vd, reduceCtorEq, ve, updD, eS2, ex0, et, w4, w5, w6]; rfl), ?_⟩
     show _ = dec (ls (ofBytes b.l)) ∧ _
     rw [← hb0]
     exact ⟨(d45n hS hs q8).symm, .inl rfl⟩
    ·replace c4 : ¬((byteAt t v1) ≠ 13) := by first | simpa only [vd, reduceCtorEq, ve, updD, eS2, ex0, et, w4, w5, w6] using c4 | (simp only [vd, reduceCtorEq, ve, updD, eS2, ex0, et, w4, w5, w6] at c4; grind)
     exfalso; exact c4 c3
  ·replace c2 : ¬(v1 = ((t.size : Int) - 1)) := by first | simpa only [vd, reduceCtorEq, ve, updD, eS2, ex0, et, w4, w5, w6] using c2 | (simp only [vd, reduceCtorEq, ve, updD, eS2, ex0, et, w4, w5, w6] at c2; grind)
   refine need_wp (by simp only [vd, reduceCtorEq, ve, updD, eS2, ex0, et, w4, w5, w6, List.length_cons, List.length_nil, List.length_append, List.length_set]; first | omega | (grind)) ?_
   refine need_wp (by simp only [vd, reduceCtorEq, ve, updD, eS2, ex0, et, w4, w5, w6, List.length_cons, List.length_nil, List.length_append, List.length_set]; first | omega | (grind)) ?_
   refine br_wp (fun c6 => ?_) (fun c6 => ?_)
   ·replace c6 : (byteAt t v1) ≠ 13 := by first | simpa only [vd, reduceCtorEq, ve, updD, eS2, ex0, et, w4, w5, w6] using c6 | (simp only [vd, reduceCtorEq, ve, updD, eS2, ex0, et, w4, w5, w6] at c6; grind)
    have q9 := tx_9 hia1 c1 c6
    refine need_wp (by first | exact ⟨_, _, _, rfl⟩ | (simp only [vd, reduceCtorEq, ve, updD, eS2, ex0, et, w4, w5, w6]; exact ⟨_, _, _, rfl⟩)) ?_
    refine ret_wp ?_
    refine ⟨((⟨0, (⟨#[]⟩ : ByteArray), 0, Rw.nil⟩ : Rep), 0, 9), by first | (simp only [vd, reduceCtorEq, ve, updD, eS2, ex0, et, w4, w5, w6]; done) | (simp only [vd, reduceCtorEq, ve, updD, eS2, ex0, et, w4, w5, w6]; rfl), ?_⟩
    show _ = dec (ls (ofBytes b.l)) ∧ _
    rw [← hb0]
    exact ⟨(d45n hS hs q9).symm, .inl rfl⟩
   ·replace c6 : ¬((byteAt t v1) ≠ 13) := by first | simpa only [vd, reduceCtorEq, ve, updD, eS2, ex0, et, w4, w5, w6] using c6 | (simp only [vd, reduceCtorEq, ve, updD, eS2, ex0, et, w4, w5, w6] at c6; grind)
    have cb10 : byteAt t v1 = 13 := Decidable.not_not.1 c6
    have cl11 : v1 + 1 < (t.size : Int) := by omega
    refine need_wp (by simp only [vd, reduceCtorEq, ve, updD, eS2, ex0, et, w4, w5, w6, List.length_cons, List.length_nil, List.length_append, List.length_set]; first | omega | (grind)) ?_
    refine need_wp (by simp only [vd, reduceCtorEq, ve, updD, eS2, ex0, et, w4, w5, w6, List.length_cons, List.length_nil, List.length_append, List.length_set]; first | omega | (grind)) ?_
    refine br_wp (fun c7 => ?_) (fun c7 => ?_)
    ·replace c7 : (byteAt t (v1 + 1)) ≠ 10 := by first | simpa only [vd, reduceCtorEq, ve, updD, eS2, ex0, et, w4, w5, w6] using c7 | (simp only [vd, reduceCtorEq, ve, updD, eS2, ex0, et, w4, w5, w6] at c7; grind)
     have q12 := tx_n9 hia1 c1 cl11 cb10 c7
     refine need_wp (by first | exact ⟨_, _, _, rfl⟩ | (simp only [vd, reduceCtorEq, ve, updD, eS2, ex0, et, w4, w5, w6]; exact ⟨_, _, _, rfl⟩)) ?_
     refine ret_wp ?_
     refine ⟨((⟨0, (⟨#[]⟩ : ByteArray), 0, Rw.nil⟩ : Rep), 0, 9), by first | (simp only [vd, reduceCtorEq, ve, updD, eS2, ex0, et, w4, w5, w6]; done) | (simp only [vd, reduceCtorEq, ve, updD, eS2, ex0, et, w4, w5, w6]; rfl), ?_⟩
     show _ = dec (ls (ofBytes b.l)) ∧ _
     rw [← hb0]
     exact ⟨(d45n hS hs q12).symm, .inl rfl⟩
    ·replace c7 : ¬((byteAt t (v1 + 1)) ≠ 10) := by first | simpa only [vd, reduceCtorEq, ve, updD, eS2, ex0, et, w4, w5, w6] using c7 | (simp only [vd, reduceCtorEq, ve, updD, eS2, ex0, et, w4, w5, w6] at c7; grind)
     obtain ⟨r14, hr14⟩ : ∃ z, z = t.extract (v1 + 2 : Int).toNat t.size := ⟨_, rfl⟩
     have zr14 : (r14.size : Int) = t.size - ((v1 + 2)) := by rw [hr14]; exact ext_size (by omega) (by omega)
     have er14 : t.extract (v1 + 2 : Int).toNat (t.size : Int).toNat = r14 := hr14.symm
     have q13 : textL (ls t) = .ok (ls (t.extract 0 v1.toNat)) (ls r14) := by rw [hr14]; exact tx_ok hia1 c1 cl11 cb10 (Decidable.not_not.1 c7)
     refine need_wp (by simp only [vd, reduceCtorEq, ve, updD, eS2, ex0, et, w4, w5, w6, er14, List.length_cons, List.length_nil, List.length_append, List.length_set]; first | omega | (grind)) ?_
     refine need_wp (by simp only [vd, reduceCtorEq, ve, updD, eS2, ex0, et, w4, w5, w6, er14, List.length_cons, List.length_nil, List.length_append, List.length_set]; first | omega | (grind)) ?_
     refine need_wp (by simp only [vd, reduceCtorEq, ve, updD, eS2, ex0, et, w4, w5, w6, er14, List.length_cons, List.length_nil, List.length_append, List.length_set]; first | omega | (grind)) ?_
     refine need_wp (by simp only [vd, reduceCtorEq, ve, updD, eS2, ex0, et, w4, w5, w6, er14, List.length_cons, List.length_nil, List.length_append, List.length_set]; first | omega | (grind)) ?_
     refine need_wp (by first | exact ⟨_, _, _, rfl⟩ | (simp only [vd, reduceCtorEq, ve, updD, eS2, ex0, et, w4, w5, w6, er14]; exact ⟨_, _, _, rfl⟩)) ?_
     refine need_wp (by first | exact ⟨_, _, _, rfl⟩ | (simp only [vd, reduceCtorEq, ve, updD, eS2, ex0, et, w4, w5, w6, er14]; exact ⟨_, _, _, rfl⟩)) ?_
     refine ret_wp ?_
     refine ⟨((⟨2, (t.extract (0 : Int).toNat (v1 : Int).toNat), 0, Rw.nil⟩ : Rep), (IntKind.i64.wrap ((b.l.length : Int) - (r14.size : Int))), 0), by first | (simp only [vd, reduceCtorEq, ve, updD, eS2, ex0, et, w4, w5, w6, er14]; done) | (simp only [vd, reduceCtorEq, ve, updD, eS2, ex0, et, w4, w5, w6, er14]; rfl), ?_⟩
     show _ = dec (ls (ofBytes b.l)) ∧ _
     rw [← hb0]
     exact ⟨dec_leaf (n := b.l.length) (d45k hS hs q13) hSn (by omega) (by omega), .inl rfl⟩
end Go.Proofs.YtbcbjgomnhajdaaDoorK
end

section
set_option linter.unusedSimpArgs false
set_option linter.unusedVariables false
set_option linter.unnecessarySimpa false
namespace Go.Proofs.YtbcbjgomnhajdaaDoorK
open Go Go.Proofs.YtbcbjgomnhajdaaDoorV Go.Proofs Go.Proofs.YtbcbjgomnhajdaaDoorK Go.Proofs.YtbcbjgomnhajdaaDoorK
set_option maxHeartbeats 16000000 in
theorem h8_58 {b : Rw Int} {q : Gh} {s0 t : ByteArray} {cc0 : UInt8} {b1 : Bool} (kb : b.ok 1) (hq : pG q) (hl : b.l.length ≤ 100000) (hb0 : s0 = ofBytes b.l) (hSn : s0.size = b.l.length) (hS : ls s0 = cc0 :: ls t) (hx0 : s0.extract 0 1 = (⟨#[cc0]⟩ : ByteArray)) (hz0 : 1 ≤ (s0.size : Int)) (ht : t = s0.extract (1 : Int).toNat s0.size) (zt : (t.size : Int) = s0.size - 1) (hs : cc0 = 58) : t8_58.wp (tab [kCo sg38, kIA sg47, kCut sg48, kUpto sg49, kBegins sg50, kNumeric sg51, kHP sg52]) (post8 (b, q)) [Rw.atom eB b, Rw.atom eF q.a, Rw.atom eF q.b, aB b1] [] := by
 have eS2 : ofBytes b.l = s0 := hb0.symm
 have ex0 : s0.extract (0 : Int).toNat (1 : Int).toNat = (⟨#[cc0]⟩ : ByteArray) := hx0
 have et : s0.extract (1 : Int).toNat (s0.size : Int).toNat = t := ht.symm
 unfold t8_58
 refine call_rel ((t, (⟨#[13]⟩ : ByteArray))) rfl (by first | (simp only [vd, reduceCtorEq, ve, updD, eS2, ex0, et]; done) | (simp only [vd, reduceCtorEq, ve, updD, eS2, ex0, et]; rfl)) (⟨by dsimp only; omega, rfl⟩) ?_
 rintro ⟨w1, w21, bb1⟩ hcu1
 try dsimp only at hcu1
 have hz1 : w1.size ≤ t.size := lnB_size hcu1
 refine call_fun ((w1, (-9223372036854775808), 9223372036854775807, q)) rfl (by first | (simp only [vd, reduceCtorEq, ve, updD, eS2, ex0, et]; done) | (simp only [vd, reduceCtorEq, ve, updD, eS2, ex0, et]; rfl)) (⟨by dsimp only; omega, hq⟩) ?_
 refine br_wp (fun c1 => ?_) (fun c1 => ?_)
 ·replace c1 : (w1.size : Int) < (t.size : Int) := by first | simpa only [vd, reduceCtorEq, ve, updD, eS2, ex0, et] using c1 | (simp only [vd, reduceCtorEq, ve, updD, eS2, ex0, et] at c1; grind)
  refine br_wp (fun c2 => ?_) (fun c2 => ?_)
  ·replace c2 : upt w1 (-9223372036854775808) 9223372036854775807 := by first | simpa only [vd, reduceCtorEq, ve, updD, eS2, ex0, et] using c2 | (simp only [vd, reduceCtorEq, ve, updD, eS2, ex0, et] at c2; grind)
   obtain ⟨k1, hk2⟩ : ∃ k, k = val (ls w1) := ⟨_, rfl⟩
   have hv3 : (if upt w1 (-9223372036854775808) 9223372036854775807 then val (ls w1) else 0) = k1 := by rw [if_pos c2, hk2]
   have hb4 : (-9223372036854775808) ≤ k1 ∧ k1 ≤ 9223372036854775807 := by rw [hk2]; exact c2.2
   refine call_rel ((t, (⟨#[13, 10]⟩ : ByteArray))) rfl (by first | (simp only [vd, reduceCtorEq, ve, updD, eS2, ex0, et, hv3]; done) | (simp only [vd, reduceCtorEq, ve, updD, eS2, ex0, et, hv3]; rfl)) (⟨by dsimp only; omega, rfl⟩) ?_
   rintro v2 hia2
   try dsimp only at hia2
   refine br_wp (fun c3 => ?_) (fun c3 => ?_)
   ·replace c3 : v2 < 0 := by first | simpa only [vd, reduceCtorEq, ve, updD, eS2, ex0, et, hv3] using c3 | (simp only [vd, reduceCtorEq, ve, updD, eS2, ex0, et, hv3] at c3; grind)
    have q5 := tx_8 hia2 c3
    have qn6 : numL mn64 mx64 (ls t) = .no 8 := nm_w hcu1 c1 c2 hk2 q5
    refine need_wp (by first | exact ⟨_, _, _, rfl⟩ | (simp only [vd, reduceCtorEq, ve, updD, eS2, ex0, et, hv3]; exact ⟨_, _, _, rfl⟩)) ?_
    refine ret_wp ?_
    refine ⟨((⟨0, (⟨#[]⟩ : ByteArray), 0, Rw.nil⟩ : Rep), 0, 8), by first | (simp only [vd, reduceCtorEq, ve, updD, eS2, ex0, et, hv3]; done) | (simp only [vd, reduceCtorEq, ve, updD, eS2, ex0, et, hv3]; rfl), ?_⟩
    show _ = dec (ls (ofBytes b.l)) ∧ _
    rw [← hb0]
    exact ⟨(d58n hS hs qn6).symm, .inl rfl⟩
   ·replace c3 : ¬(v2 < 0) := by first | simpa only [vd, reduceCtorEq, ve, updD, eS2, ex0, et, hv3] using c3 | (simp only [vd, reduceCtorEq, ve, updD, eS2, ex0, et, hv3] at c3; grind)
    obtain ⟨g7, g8⟩ := tx_rng hia2 c3
    have w9 : IntKind.i64.wrap ((t.size : Int) - 1) = (t.size : Int) - 1 := wrap_id _ (by omega) (by omega)
    have w10 : IntKind.i64.wrap (v2 + 1) = v2 + 1 := wrap_id _ (by omega) (by omega)
    have w11 : IntKind.i64.wrap (v2 + 2) = v2 + 2 := wrap_id _ (by omega) (by omega)
    refine br_wp (fun c4 => ?_) (fun c4 => ?_)
    ·replace c4 : v2 = ((t.size : Int) - 1) := by first | simpa only [vd, reduceCtorEq, ve, updD, eS2, ex0, et, hv3, w9, w10, w11] using c4 | (simp only [vd, reduceCtorEq, ve, updD, eS2, ex0, et, hv3, w9, w10, w11] at c4; grind)
     refine need_wp (by simp only [vd, reduceCtorEq, ve, updD, eS2, ex0, et, hv3, w9, w10, w11, List.length_cons, List.length_nil, List.length_append, List.length_set]; first | omega | (grind)) ?_
     refine need_wp (by simp only [vd, reduceCtorEq, ve, updD, eS2, ex0, et, hv3, w9, w10, w11, List.length_cons, List.length_nil, List.length_append, List.length_set]; first | omega | (grind)) ?_
     refine br_wp (fun c5 => ?_) (fun c5 => ?_)
     ·replace c5 : (byteAt t v2) = 13 := by first | simpa only [vd, reduceCtorEq, ve, updD, eS2, ex0, et, hv3, w9, w10, w11] using c5 | (simp only [vd, reduceCtorEq, ve, updD, eS2, ex0, et, hv3, w9, w10, w11] at c5; grind)
      have q12 := tx_cr8 hia2 c3 c4 c5
      have qn13 : numL mn64 mx64 (ls t) = .no 8 := nm_w hcu1 c1 c2 hk2 q12
      refine need_wp (by first | exact ⟨_, _, _, rfl⟩ | (simp only [vd, reduceCtorEq, ve, updD, eS2, ex0, et, hv3, w9, w10, w11]; exact ⟨_, _, _, rfl⟩)) ?_
      refine ret_wp ?_
      refine ⟨((⟨0, (⟨#[]⟩ : ByteArray), 0, Rw.nil⟩ : Rep), 0, 8), by first | (simp only [vd, reduceCtorEq, ve, updD, eS2, ex0, et, hv3, w9, w10, w11]; done) | (simp only [vd, reduceCtorEq, ve, updD, eS2, ex0, et, hv3, w9, w10, w11]; rfl), ?_⟩
      show _ = dec (ls (ofBytes b.l)) ∧ _
      rw [← hb0]
      exact ⟨(d58n hS hs qn13).symm, .inl rfl⟩
     ·replace c5 : ¬((byteAt t v2) = 13) := by first | simpa only [vd, reduceCtorEq, ve, updD, eS2, ex0, et, hv3, w9, w10, w11] using c5 | (simp only [vd, reduceCtorEq, ve, updD, eS2, ex0, et, hv3, w9, w10, w11] at c5; grind)
      refine br_wp (fun c6 => ?_) (fun c6 => ?_)
      ·replace c6 : (byteAt t v2) ≠ 13 := by first | simpa only [vd, reduceCtorEq, ve, updD, eS2, ex0, et, hv3, w9, w10, w11] using c6 | (simp only [vd, reduceCtorEq, ve, updD, eS2, ex0, et, hv3, w9, w10, w11] at c6; grind)
       have q14 := tx_9 hia2 c3 c6
       have qn15 : numL mn64 mx64 (ls t) = .no 9 := nm_w hcu1 c1 c2 hk2 q14
       refine need_wp (by first | exact ⟨_, _, _, rfl⟩ | (simp only [vd, reduceCtorEq, ve, updD, eS2, ex0, et, hv3, w9, w10, w11]; exact ⟨_, _, _, rfl⟩)) ?_
       refine ret_wp ?_
       refine ⟨((⟨0, (⟨#[]⟩ : ByteArray), 0, Rw.nil⟩ : Rep), 0, 9), by first | (simp only [vd, reduceCtorEq, ve, updD, eS2, ex0, et, hv3, w9, w10, w11]; done) | (simp only [vd, reduceCtorEq, ve, updD, eS2, ex0, et, hv3, w9, w10, w11]; rfl), ?_⟩
       show _ = dec (ls (ofBytes b.l)) ∧ _
       rw [← hb0]
       exact ⟨(d58n hS hs qn15).symm, .inl rfl⟩
      ·replace c6 : ¬((byteAt t v2) ≠ 13) := by first | simpa only [vd, reduceCtorEq, ve, updD, eS2, ex0, et, hv3, w9, w10, w11] using c6 | (simp only [vd, reduceCtorEq, ve, updD, eS2, ex0, et, hv3, w9, w10, w11] at c6; grind)
       exfalso; exact c6 c5
    ·replace c4 : ¬(v2 = ((t.size : Int) - 1)) := by first | simpa only [vd, reduceCtorEq, ve, updD, eS2, ex0, et, hv3, w9, w10, w11] using c4 | (simp only [vd, reduceCtorEq, ve, updD, eS2, ex0, et, hv3, w9, w10, w11] at c4; grind)
     refine need_wp (by simp only [vd, reduceCtorEq, ve, updD, eS2, ex0, et, hv3, w9, w10, w11, List.length_cons, List.length_nil, List.length_append, List.length_set]; first | omega | (grind)) ?_
     refine need_wp (by simp only [vd, reduceCtorEq, ve, updD, eS2, ex0, et, hv3, w9, w10, w11, List.length_cons, List.length_nil, List.length_append, List.length_set]; first | omega | (grind)) ?_
     refine br_wp (fun c8 => ?_) (fun c8 => ?_)
     ·replace c8 : (byteAt t v2) ≠ 13 := by first | simpa only [vd, reduceCtorEq, ve, updD, eS2, ex0, et, hv3, w9, w10, w11] using c8 | (simp only [vd, reduceCtorEq, ve, updD, eS2, ex0, et, hv3, w9, w10, w11] at c8; grind)
      have q16 := tx_9 hia2 c3 c8
      have qn17 : numL mn64 mx64 (ls t) = .no 9 := nm_w hcu1 c1 c2 hk2 q16
      refine need_wp (by first | exact ⟨_, _, _, rfl⟩ | (simp only [vd, reduceCtorEq, ve, updD, eS2, ex0, et, hv3, w9, w10, w11]; exact ⟨_, _, _, rfl⟩)) ?_
      refine ret_wp ?_
      refine ⟨((⟨0, (⟨#[]⟩ : ByteArray), 0, Rw.nil⟩ : Rep), 0, 9), by first | (simp only [vd, reduceCtorEq, ve, updD, eS2, ex0, et, hv3, w9, w10, w11]; done) | (simp only [vd, reduceCtorEq, ve, updD, eS2, ex0, et, hv3, w9, w10, w11]; rfl), ?_⟩
      show _ = dec (ls (ofBytes b.l)) ∧ _
      rw [← hb0]
      exact ⟨(d58n hS hs qn17).symm, .inl rfl⟩
     ·replace c8 : ¬((byteAt t v2) ≠ 13) := by first | simpa only [vd, reduceCtorEq, ve, updD, eS2, ex0, et, hv3, w9, w10, w11] using c8 | (simp only [vd, reduceCtorEq, ve, updD, eS2, ex0, et, hv3, w9, w10, w11] at c8; grind)
      have cb18 : byteAt t v2 = 13 := Decidable.not_not.1 c8
      have cl19 : v2 + 1 < (t.size : Int) := by omega
      refine need_wp (by simp only [vd, reduceCtorEq, ve, updD, eS2, ex0, et, hv3, w9, w10, w11, List.length_cons, List.length_nil, List.length_append, List.length_set]; first | omega | (grind)) ?_
      refine need_wp (by simp only [vd, reduceCtorEq, ve, updD, eS2, ex0, et, hv3, w9, w10, w11, List.length_cons, List.length_nil, List.length_append, List.length_set]; first | omega | (grind)) ?_
      refine br_wp (fun c9 => ?_) (fun c9 => ?_)
      ·replace c9 : (byteAt t (v2 + 1)) ≠ 10 := by first | simpa only [vd, reduceCtorEq, ve, updD, eS2, ex0, et, hv3, w9, w10, w11] using c9 | (simp only [vd, reduceCtorEq, ve, updD, eS2, ex0, et, hv3, w9, w10, w11] at c9; grind)
       have q20 := tx_n9 hia2 c3 cl19 cb18 c9
       have qn21 : numL mn64 mx64 (ls t) = .no 9 := nm_w hcu1 c1 c2 hk2 q20
       refine need_wp (by first | exact ⟨_, _, _, rfl⟩ | (simp only [vd, reduceCtorEq, ve, updD, eS2, ex0, et, hv3, w9, w10, w11]; exact ⟨_, _, _, rfl⟩)) ?_
       refine ret_wp ?_
       refine ⟨((⟨0, (⟨#[]⟩ : ByteArray), 0, Rw.nil⟩ : Rep), 0, 9), by first | (simp only [vd, reduceCtorEq, ve, updD, eS2, ex0, et, hv3, w9, w10, w11]; done) | (simp only [vd, reduceCtorEq, ve, updD, eS2, ex0, et, hv3, w9, w10, w11]; rfl), ?_⟩
       show _ = dec (ls (ofBytes b.l)) ∧ _
       rw [← hb0]
       exact ⟨(d58n hS hs qn21).symm, .inl rfl⟩
      ·replace c9 : ¬((byteAt t (v2 + 1)) ≠ 10) := by first | simpa only [vd, reduceCtorEq, ve, updD, eS2, ex0, et, hv3, w9, w10, w11] using c9 | (simp only [vd, reduceCtorEq, ve, updD, eS2, ex0, et, hv3, w9, w10, w11] at c9; grind)
       obtain ⟨r23, hr23⟩ : ∃ z, z = t.extract (v2 + 2 : Int).toNat t.size := ⟨_, rfl⟩
       have zr23 : (r23.size : Int) = t.size - ((v2 + 2)) := by rw [hr23]; exact ext_size (by omega) (by omega)
       have er23 : t.extract (v2 + 2 : Int).toNat (t.size : Int).toNat = r23 := hr23.symm
       have q22 : textL (ls t) = .ok (ls (t.extract 0 v2.toNat)) (ls r23) := by rw [hr23]; exact tx_ok hia2 c3 cl19 cb18 (Decidable.not_not.1 c9)
       have qn24 : numL mn64 mx64 (ls t) = .ok k1 (ls r23) := nm_w hcu1 c1 c2 hk2 q22
       refine need_wp (by simp only [vd, reduceCtorEq, ve, updD, eS2, ex0, et, hv3, w9, w10, w11, er23, List.length_cons, List.length_nil, List.length_append, List.length_set]; first | omega | (grind)) ?_
       refine need_wp (by simp only [vd, reduceCtorEq, ve, updD, eS2, ex0, et, hv3, w9, w10, w11, er23, List.length_cons, List.length_nil, List.length_append, List.length_set]; first | omega | (grind)) ?_
       refine need_wp (by simp only [vd, reduceCtorEq, ve, updD, eS2, ex0, et, hv3, w9, w10, w11, er23, List.length_cons, List.length_nil, List.length_append, List.length_set]; first | omega | (grind)) ?_
       refine need_wp (by simp only [vd, reduceCtorEq, ve, updD, eS2, ex0, et, hv3, w9, w10, w11, er23, List.length_cons, List.length_nil, List.length_append, List.length_set]; first | omega | (grind)) ?_
       refine need_wp (by first | exact ⟨_, _, _, rfl⟩ | (simp only [vd, reduceCtorEq, ve, updD, eS2, ex0, et, hv3, w9, w10, w11, er23]; exact ⟨_, _, _, rfl⟩)) ?_
       refine need_wp (by first | exact ⟨_, _, _, rfl⟩ | (simp only [vd, reduceCtorEq, ve, updD, eS2, ex0, et, hv3, w9, w10, w11, er23]; exact ⟨_, _, _, rfl⟩)) ?_
       refine ret_wp ?_
       refine ⟨((⟨3, (⟨#[]⟩ : ByteArray), k1, Rw.nil⟩ : Rep), (IntKind.i64.wrap ((b.l.length : Int) - (r23.size : Int))), 0), by first | (simp only [vd, reduceCtorEq, ve, updD, eS2, ex0, et, hv3, w9, w10, w11, er23]; done) | (simp only [vd, reduceCtorEq, ve, updD, eS2, ex0, et, hv3, w9, w10, w11, er23]; rfl), ?_⟩
       show _ = dec (ls (ofBytes b.l)) ∧ _
       rw [← hb0]
       exact ⟨dec_leaf (n := b.l.length) (d58k hS hs qn24) hSn (by omega) (by omega), .inl rfl⟩
  ·replace c2 : ¬(upt w1 (-9223372036854775808) 9223372036854775807) := by first | simpa only [vd, reduceCtorEq, ve, updD, eS2, ex0, et] using c2 | (simp only [vd, reduceCtorEq, ve, updD, eS2, ex0, et] at c2; grind)
   have qn25 : numL mn64 mx64 (ls t) = .no 9 := nm_9w hcu1 c1 c2
   refine need_wp (by first | exact ⟨_, _, _, rfl⟩ | (simp only [vd, reduceCtorEq, ve, updD, eS2, ex0, et]; exact ⟨_, _, _, rfl⟩)) ?_
   refine ret_wp ?_
   refine ⟨((⟨0, (⟨#[]⟩ : ByteArray), 0, Rw.nil⟩ : Rep), 0, 9), by first | (simp only [vd, reduceCtorEq, ve, updD, eS2, ex0, et]; done) | (simp only [vd, reduceCtorEq, ve, updD, eS2, ex0, et]; rfl), ?_⟩
   show _ = dec (ls (ofBytes b.l)) ∧ _
   rw [← hb0]
   exact ⟨(d58n hS hs qn25).symm, .inl rfl⟩
 ·replace c1 : ¬((w1.size : Int) < (t.size : Int)) := by first | simpa only [vd, reduceCtorEq, ve, updD, eS2, ex0, et] using c1 | (simp only [vd, reduceCtorEq, ve, updD, eS2, ex0, et] at c1; grind)
  refine call_fun ((w1, q)) rfl (by first | (simp only [vd, reduceCtorEq, ve, updD, eS2, ex0, et]; done) | (simp only [vd, reduceCtorEq, ve, updD, eS2, ex0, et]; rfl)) (⟨by dsimp only; omega, hq⟩) ?_
  refine br_wp (fun c10 => ?_) (fun c10 => ?_)
  ·replace c10 : nmrL (ls w1) := by first | simpa only [vd, reduceCtorEq, ve, updD, eS2, ex0, et] using c10 | (simp only [vd, reduceCtorEq, ve, updD, eS2, ex0, et] at c10; grind)
   refine call_rel ((t, (⟨#[13, 10]⟩ : ByteArray))) rfl (by first | (simp only [vd, reduceCtorEq, ve, updD, eS2, ex0, et]; done) | (simp only [vd, reduceCtorEq, ve, updD, eS2, ex0, et]; rfl)) (⟨by dsimp only; omega, rfl⟩) ?_
   rintro v3 hia3
   try dsimp only at hia3
   refine br_wp (fun c11 => ?_) (fun c11 => ?_)
   ·replace c11 : v3 < 0 := by first | simpa only [vd, reduceCtorEq, ve, updD, eS2, ex0, et] using c11 | (simp only [vd, reduceCtorEq, ve, updD, eS2, ex0, et] at c11; grind)
    have qn26 : numL mn64 mx64 (ls t) = .no 8 := nm_8n hcu1 c1 c10
    refine need_wp (by first | exact ⟨_, _, _, rfl⟩ | (simp only [vd, reduceCtorEq, ve, updD, eS2, ex0, et]; exact ⟨_, _, _, rfl⟩)) ?_
    refine ret_wp ?_
    refine ⟨((⟨0, (⟨#[]⟩ : ByteArray), 0, Rw.nil⟩ : Rep), 0, 8), by first | (simp only [vd, reduceCtorEq, ve, updD, eS2, ex0, et]; done) | (simp only [vd, reduceCtorEq, ve, updD, eS2, ex0, et]; rfl), ?_⟩
    show _ = dec (ls (ofBytes b.l)) ∧ _
    rw [← hb0]
    exact ⟨(d58n hS hs qn26).symm, .inl rfl⟩
   ·replace c11 : ¬(v3 < 0) := by first | simpa only [vd, reduceCtorEq, ve, updD, eS2, ex0, et] using c11 | (simp only [vd, reduceCtorEq, ve, updD, eS2, ex0, et] at c11; grind)
    exfalso; exact nm_dead hcu1 c1 (nmr_10 c10) hia3 c11
  ·replace c10 : ¬(nmrL (ls w1)) := by first | simpa only [vd, reduceCtorEq, ve, updD, eS2, ex0, et] using c10 | (simp only [vd, reduceCtorEq, ve, updD, eS2, ex0, et] at c10; grind)
   have qn27 : numL mn64 mx64 (ls t) = .no 9 := nm_9n hcu1 c1 c10
   refine need_wp (by first | exact ⟨_, _, _, rfl⟩ | (simp only [vd, reduceCtorEq, ve, updD, eS2, ex0, et]; exact ⟨_, _, _, rfl⟩)) ?_
   refine ret_wp ?_
   refine ⟨((⟨0, (⟨#[]⟩ : ByteArray), 0, Rw.nil⟩ : Rep), 0, 9), by first | (simp only [vd, reduceCtorEq, ve, updD, eS2, ex0, et]; done) | (simp only [vd, reduceCtorEq, ve, updD, eS2, ex0, et]; rfl), ?_⟩
   show _ = dec (ls (ofBytes b.l)) ∧ _
   rw [← hb0]
   exact ⟨(d58n hS hs qn27).symm, .inl rfl⟩
end Go.Proofs.YtbcbjgomnhajdaaDoorK
end

section
set_option linter.unusedSimpArgs false
set_option linter.unusedVariables false
set_option linter.unnecessarySimpa false
namespace Go.Proofs.YtbcbjgomnhajdaaDoorK
open Go Go.Proofs.YtbcbjgomnhajdaaDoorV Go.Proofs Go.Proofs.YtbcbjgomnhajdaaDoorK Go.Proofs.YtbcbjgomnhajdaaDoorK
set_option maxHeartbeats 16000000 in
theorem h8_36 {b : Rw Int} {q : Gh} {s0 t : ByteArray} {cc0 : UInt8} {b1 : Bool} (kb : b.ok 1) (hq : pG q) (hl : b.l.length ≤ 100000) (hb0 : s0 = ofBytes b.l) (hSn : s0.size = b.l.length) (hS : ls s0 = cc0 :: ls t) (hx0 : s0.extract 0 1 = (⟨#[cc0]⟩ : ByteArray)) (hz0 : 1 ≤ (s0.size : Int)) (ht : t = s0.extract (1 : Int).toNat s0.size) (zt : (t.size : Int) = s0.size - 1) (hs : cc0 = 36) : t8_36.wp (tab [kCo sg38, kIA sg47, kCut sg48, kUpto sg49, kBegins sg50, kNumeric sg51, kHP sg52]) (post8 (b, q)) [Rw.atom eB b, Rw.atom eF q.a, Rw.atom eF q.b, aB b1] [] := by
 have eS2 : ofBytes b.l = s0 := hb0.symm
 have ex0 : s0.extract (0 : Int).toNat (1 : Int).toNat = (⟨#[cc0]⟩ : ByteArray) := hx0
 have et : s0.extract (1 : Int).toNat (s0.size : Int).toNat = t := ht.symm
 unfold t8_36
 refine call_rel ((t, (⟨#[13]⟩ : ByteArray))) rfl (by first | (simp only [vd, reduceCtorEq, ve, updD, eS2, ex0, et]; done) | (simp only [vd, reduceCtorEq, ve, updD, eS2, ex0, et]; rfl)) (⟨by dsimp only; omega, rfl⟩) ?_
 rintro ⟨w1, w21, bb1⟩ hcu1
 try dsimp only at hcu1
 have hz1 : w1.size ≤ t.size := lnB_size hcu1
 refine call_fun ((w1, (-1), 1099511627776, q)) rfl (by first | (simp only [vd, reduceCtorEq, ve, updD, eS2, ex0, et]; done) | (simp only [vd, reduceCtorEq, ve, updD, eS2, ex0, et]; rfl)) (⟨by dsimp only; omega, hq⟩) ?_
 refine br_wp (fun c1 => ?_) (fun c1 => ?_)
 ·replace c1 : (w1.size : Int) < (t.size : Int) := by first | simpa only [vd, reduceCtorEq, ve, updD, eS2, ex0, et] using c1 | (simp only [vd, reduceCtorEq, ve, updD, eS2, ex0, et] at c1; grind)
  refine br_wp (fun c2 => ?_) (fun c2 => ?_)
  ·replace c2 : upt w1 (-1) 1099511627776 := by first | simpa only [vd, reduceCtorEq, ve, updD, eS2, ex0, et] using c2 | (simp only [vd, reduceCtorEq, ve, updD, eS2, ex0, et] at c2; grind)
   obtain ⟨k1, hk2⟩ : ∃ k, k = val (ls w1) := ⟨_, rfl⟩
   have hv3 : (if upt w1 (-1) 1099511627776 then val (ls w1) else 0) = k1 := by rw [if_pos c2, hk2]
   have hb4 : (-1) ≤ k1 ∧ k1 ≤ 1099511627776 := by rw [hk2]; exact c2.2
   refine call_rel ((t, (⟨#[13, 10]⟩ : ByteArray))) rfl (by first | (simp only [vd, reduceCtorEq, ve, updD, eS2, ex0, et, hv3]; done) | (simp only [vd, reduceCtorEq, ve, updD, eS2, ex0, et, hv3]; rfl)) (⟨by dsimp only; omega, rfl⟩) ?_
   rintro v2 hia2
   try dsimp only at hia2
   refine br_wp (fun c3 => ?_) (fun c3 => ?_)
   ·replace c3 : v2 < 0 := by first | simpa only [vd, reduceCtorEq, ve, updD, eS2, ex0, et, hv3] using c3 | (simp only [vd, reduceCtorEq, ve, updD, eS2, ex0, et, hv3] at c3; grind)
    have q5 := tx_8 hia2 c3
    have qn6 : numL (-1) most (ls t) = .no 8 := nm_w hcu1 c1 c2 hk2 q5
    refine br_wp (fun c4 => ?_) (fun c4 => ?_)
    ·replace c4 : k1 < 0 := by first | simpa only [vd, reduceCtorEq, ve, updD, eS2, ex0, et, hv3] using c4 | (simp only [vd, reduceCtorEq, ve, updD, eS2, ex0, et, hv3] at c4; grind)
     refine need_wp (by first | exact ⟨_, _, _, rfl⟩ | (simp only [vd, reduceCtorEq, ve, updD, eS2, ex0, et, hv3]; exact ⟨_, _, _, rfl⟩)) ?_
     refine ret_wp ?_
     refine ⟨((⟨0, (⟨#[]⟩ : ByteArray), 0, Rw.nil⟩ : Rep), 0, 8), by first | (simp only [vd, reduceCtorEq, ve, updD, eS2, ex0, et, hv3]; done) | (simp only [vd, reduceCtorEq, ve, updD, eS2, ex0, et, hv3]; rfl), ?_⟩
     show _ = dec (ls (ofBytes b.l)) ∧ _
     rw [← hb0]
     exact ⟨(d36n hS hs qn6).symm, .inl rfl⟩
    ·replace c4 : ¬(k1 < 0) := by first | simpa only [vd, reduceCtorEq, ve, updD, eS2, ex0, et, hv3] using c4 | (simp only [vd, reduceCtorEq, ve, updD, eS2, ex0, et, hv3] at c4; grind)
     refine need_wp (by first | exact ⟨_, _, _, rfl⟩ | (simp only [vd, reduceCtorEq, ve, updD, eS2, ex0, et, hv3]; exact ⟨_, _, _, rfl⟩)) ?_
     refine ret_wp ?_
     refine ⟨((⟨0, (⟨#[]⟩ : ByteArray), 0, Rw.nil⟩ : Rep), 0, 8), by first | (simp only [vd, reduceCtorEq, ve, updD, eS2, ex0, et, hv3]; done) | (simp only [vd, reduceCtorEq, ve, updD, eS2, ex0, et, hv3]; rfl), ?_⟩
     show _ = dec (ls (ofBytes b.l)) ∧ _
     rw [← hb0]
     exact ⟨(d36n hS hs qn6).symm, .inl rfl⟩
   ·replace c3 : ¬(v2 < 0) := by first | simpa only [vd, reduceCtorEq, ve, updD, eS2, ex0, et, hv3] using c3 | (simp only [vd, reduceCtorEq, ve, updD, eS2, ex0, et, hv3] at c3; grind)
    obtain ⟨g7, g8⟩ := tx_rng hia2 c3
    have w9 : IntKind.i64.wrap ((t.size : Int) - 1) = (t.size : Int) - 1 := wrap_id _ (by omega) (by omega)
    have w10 : IntKind.i64.wrap (v2 + 1) = v2 + 1 := wrap_id _ (by omega) (by omega)
    have w11 : IntKind.i64.wrap (v2 + 2) = v2 + 2 := wrap_id _ (by omega) (by omega)
    refine br_wp (fun c5 => ?_) (fun c5 => ?_)
    ·replace c5 : v2 = ((t.size : Int) - 1) := by first | simpa only [vd, reduceCtorEq, ve, updD, eS2, ex0, et, hv3, w9, w10, w11] using c5 | (simp only [vd, reduceCtorEq, ve, updD, eS2, ex0, et, hv3, w9, w10, w11] at c5; grind)
     refine need_wp (by simp only [vd, reduceCtorEq, ve, updD, eS2, ex0, et, hv3, w9, w10, w11, List.length_cons, List.length_nil, List.length_append, List.length_set]; first | omega | (grind)) ?_
     refine need_wp (by simp only [vd, reduceCtorEq, ve, updD, eS2, ex0, et, hv3, w9, w10, w11, List.length_cons, List.length_nil, List.length_append, List.length_set]; first | omega | (grind)) ?_
     refine br_wp (fun c6 => ?_) (fun c6 => ?_)
     ·replace c6 : (byteAt t v2) = 13 := by first | simpa only [vd, reduceCtorEq, ve, updD, eS2, ex0, et, hv3, w9, w10, w11] using c6 | (simp only [vd, reduceCtorEq, ve, updD, eS2, ex0, et, hv3, w9, w10, w11] at c6; grind)
      have q12 := tx_cr8 hia2 c3 c5 c6
      have qn13 : numL (-1) most (ls t) = .no 8 := nm_w hcu1 c1 c2 hk2 q12
      refine br_wp (fun c7 => ?_) (fun c7 => ?_)
      ·replace c7 : k1 < 0 := by first | simpa only [vd, reduceCtorEq, ve, updD, eS2, ex0, et, hv3, w9, w10, w11] using c7 | (simp only [vd, reduceCtorEq, ve, updD, eS2, ex0, et, hv3, w9, w10, w11] at c7; grind)
       refine need_wp (by first | exact ⟨_, _, _, rfl⟩ | (simp only [vd, reduceCtorEq, ve, updD, eS2, ex0, et, hv3, w9, w10, w11]; exact ⟨_, _, _, rfl⟩)) ?_
       refine ret_wp ?_
       refine ⟨((⟨0, (⟨#[]⟩ : ByteArray), 0, Rw.nil⟩ : Rep), 0, 8), by first | (simp only [vd, reduceCtorEq, ve, updD, eS2, ex0, et, hv3, w9, w10, w11]; done) | (simp only [vd, reduceCtorEq, ve, updD, eS2, ex0, et, hv3, w9, w10, w11]; rfl), ?_⟩
       show _ = dec (ls (ofBytes b.l)) ∧ _
       rw [← hb0]
       exact ⟨(d36n hS hs qn13).symm, .inl rfl⟩
      ·replace c7 : ¬(k1 < 0) := by first | simpa only [vd, reduceCtorEq, ve, updD, eS2, ex0, et, hv3, w9, w10, w11] using c7 | (simp only [vd, reduceCtorEq, ve, updD, eS2, ex0, et, hv3, w9, w10, w11] at c7; grind)
       refine need_wp (by first | exact ⟨_, _, _, rfl⟩ | (simp only [vd, reduceCtorEq, ve, updD, eS2, ex0, et, hv3, w9, w10, w11]; exact ⟨_, _, _, rfl⟩)) ?_
       refine ret_wp ?_
       refine ⟨((⟨0, (⟨#[]⟩ : ByteArray), 0, Rw.nil⟩ : Rep), 0, 8), by first | (simp only [vd, reduceCtorEq, ve, updD, eS2, ex0, et, hv3, w9, w10, w11]; done) | (simp only [vd, reduceCtorEq, ve, updD, eS2, ex0, et, hv3, w9, w10, w11]; rfl), ?_⟩
       show _ = dec (ls (ofBytes b.l)) ∧ _
       rw [← hb0]
       exact ⟨(d36n hS hs qn13).symm, .inl rfl⟩
     ·replace c6 : ¬((byteAt t v2) = 13) := by first | simpa only [vd, reduceCtorEq, ve, updD, eS2, ex0, et, hv3, w9, w10, w11] using c6 | (simp only [vd, reduceCtorEq, ve, updD, eS2, ex0, et, hv3, w9, w10, w11] at c6; grind)
      refine br_wp (fun c8 => ?_) (fun c8 => ?_)
      ·replace c8 : (byteAt t v2) ≠ 13 := by first | simpa only [vd, reduceCtorEq, ve, updD, eS2, ex0, et, hv3, w9, w10, w11] using c8 | (simp only [vd, reduceCtorEq, ve, updD, eS2, ex0, et, hv3, w9, w10, w11] at c8; grind)
       have q14 := tx_9 hia2 c3 c8
       have qn15 : numL (-1) most (ls t) = .no 9 := nm_w hcu1 c1 c2 hk2 q14
       refine br_wp (fun c9 => ?_) (fun c9 => ?_)
       ·replace c9 : k1 < 0 := by first | simpa only [vd, reduceCtorEq, ve, updD, eS2, ex0, et, hv3, w9, w10, w11] using c9 | (simp only [vd, reduceCtorEq, ve, updD, eS2, ex0, et, hv3, w9, w10, w11] at c9; grind)
        refine need_wp (by first | exact ⟨_, _, _, rfl⟩ | (simp only [vd, reduceCtorEq, ve, updD, eS2, ex0, et, hv3, w9, w10, w11]; exact ⟨_, _, _, rfl⟩)) ?_
        refine ret_wp ?_
        refine ⟨((⟨0, (⟨#[]⟩ : ByteArray), 0, Rw.nil⟩ : Rep), 0, 9), by first | (simp only [vd, reduceCtorEq, ve, updD, eS2, ex0, et, hv3, w9, w10, w11]; done) | (simp only [vd, reduceCtorEq, ve, updD, eS2, ex0, et, hv3, w9, w10, w11]; rfl), ?_⟩
        show _ = dec (ls (ofBytes b.l)) ∧ _
        rw [← hb0]
        exact ⟨(d36n hS hs qn15).symm, .inl rfl⟩
       ·replace c9 : ¬(k1 < 0) := by first | simpa only [vd, reduceCtorEq, ve, updD, eS2, ex0, et, hv3, w9, w10, w11] using c9 | (simp only [vd, reduceCtorEq, ve, updD, eS2, ex0, et, hv3, w9, w10, w11] at c9; grind)
        refine need_wp (by first | exact ⟨_, _, _, rfl⟩ | (simp only [vd, reduceCtorEq, ve, updD, eS2, ex0, et, hv3, w9, w10, w11]; exact ⟨_, _, _, rfl⟩)) ?_
        refine ret_wp ?_
        refine ⟨((⟨0, (⟨#[]⟩ : ByteArray), 0, Rw.nil⟩ : Rep), 0, 9), by first | (simp only [vd, reduceCtorEq, ve, updD, eS2, ex0, et, hv3, w9, w10, w11]; done) | (simp only [vd, reduceCtorEq, ve, updD, eS2, ex0, et, hv3, w9, w10, w11]; rfl), ?_⟩
        show _ = dec (ls (ofBytes b.l)) ∧ _
        rw [← hb0]
        exact ⟨(d36n hS hs qn15).symm, .inl rfl⟩
      ·replace c8 : ¬((byteAt t v2) ≠ 13) := by first | simpa only [vd, reduceCtorEq, ve, updD, eS2, ex0, et, hv3, w9, w10, w11] using c8 | (simp only [vd, reduceCtorEq, ve, updD, eS2, ex0, et, hv3, w9, w10, w11] at c8; grind)
       exfalso; exact c8 c6
    ·replace c5 : ¬(v2 = ((t.size : Int) - 1)) := by first | simpa only [vd, reduceCtorEq, ve, updD, eS2, ex0, et, hv3, w9, w10, w11] using c5 | (simp only [vd, reduceCtorEq, ve, updD, eS2, ex0, et, hv3, w9, w10, w11] at c5; grind)
     refine need_wp (by simp only [vd, reduceCtorEq, ve, updD, eS2, ex0, et, hv3, w9, w10, w11, List.length_cons, List.length_nil, List.length_append, List.length_set]; first | omega | (grind)) ?_
     refine need_wp (by simp only [vd, reduceCtorEq, ve, updD, eS2, ex0, et, hv3, w9, w10, w11, List.length_cons, List.length_nil, List.length_append, List.length_set]; first | omega | (grind)) ?_
     refine br_wp (fun c16 => ?_) (fun c16 => ?_)
     ·replace c16 : (byteAt t v2) ≠ 13 := by first | simpa only [vd, reduceCtorEq, ve, updD, eS2, ex0, et, hv3, w9, w10, w11] using c16 | (simp only [vd, reduceCtorEq, ve, updD, eS2, ex0, et, hv3, w9, w10, w11] at c16; grind)
      have q16 := tx_9 hia2 c3 c16
      have qn17 : numL (-1) most (ls t) = .no 9 := nm_w hcu1 c1 c2 hk2 q16
      refine br_wp (fun c17 => ?_) (fun c17 => ?_)
      ·replace c17 : k1 < 0 := by first | simpa only [vd, reduceCtorEq, ve, updD, eS2, ex0, et, hv3, w9, w10, w11] using c17 | (simp only [vd, reduceCtorEq, ve, updD, eS2, ex0, et, hv3, w9, w10, w11] at c17; grind)
       refine need_wp (by first | exact ⟨_, _, _, rfl⟩ | (simp only [vd, reduceCtorEq, ve, updD, eS2, ex0, et, hv3, w9, w10, w11]; exact ⟨_, _, _, rfl⟩)) ?_
       refine ret_wp ?_
       refine ⟨((⟨0, (⟨#[]⟩ : ByteArray), 0, Rw.nil⟩ : Rep), 0, 9), by first | (simp only [vd, reduceCtorEq, ve, updD, eS2, ex0, et, hv3, w9, w10, w11]; done) | (simp only [vd, reduceCtorEq, ve, updD, eS2, ex0, et, hv3, w9, w10, w11]; rfl), ?_⟩
       show _ = dec (ls (ofBytes b.l)) ∧ _
       rw [← hb0]
       exact ⟨(d36n hS hs qn17).symm, .inl rfl⟩
      ·replace c17 : ¬(k1 < 0) := by first | simpa only [vd, reduceCtorEq, ve, updD, eS2, ex0, et, hv3, w9, w10, w11] using c17 | (simp only [vd, reduceCtorEq, ve, updD, eS2, ex0, et, hv3, w9, w10, w11] at c17; grind)
       refine need_wp (by first | exact ⟨_, _, _, rfl⟩ | (simp only [vd, reduceCtorEq, ve, updD, eS2, ex0, et, hv3, w9, w10, w11]; exact ⟨_, _, _, rfl⟩)) ?_
       refine ret_wp ?_
       refine ⟨((⟨0, (⟨#[]⟩ : ByteArray), 0, Rw.nil⟩ : Rep), 0, 9), by first | (simp only [vd, reduceCtorEq, ve, updD, eS2, ex0, et, hv3, w9, w10, w11]; done) | (simp only [vd, reduceCtorEq, ve, updD, eS2, ex0, et, hv3, w9, w10, w11]; rfl), ?_⟩
       show _ = dec (ls (ofBytes b.l)) ∧ _
       rw [← hb0]
       exact ⟨(d36n hS hs qn17).symm, .inl rfl⟩
     ·replace c16 : ¬((byteAt t v2) ≠ 13) := by first | simpa only [vd, reduceCtorEq, ve, updD, eS2, ex0, et, hv3, w9, w10, w11] using c16 | (simp only [vd, reduceCtorEq, ve, updD, eS2, ex0, et, hv3, w9, w10, w11] at c16; grind)
      have cb18 : byteAt t v2 = 13 := Decidable.not_not.1 c16
      have cl19 : v2 + 1 < (t.size : Int) := by omega
      refine need_wp (by simp only [vd, reduceCtorEq, ve, updD, eS2, ex0, et, hv3, w9, w10, w11, List.length_cons, List.length_nil, List.length_append, List.length_set]; first | omega | (grind)) ?_
      refine need_wp (by simp only [vd, reduceCtorEq, ve, updD, eS2, ex0, et, hv3, w9, w10, w11, List.length_cons, List.length_nil, List.length_append, List.length_set]; first | omega | (grind)) ?_
      refine br_wp (fun c18 => ?_) (fun c18 => ?_)
      ·replace c18 : (byteAt t (v2 + 1)) ≠ 10 := by first | simpa only [vd, reduceCtorEq, ve, updD, eS2, ex0, et, hv3, w9, w10, w11] using c18 | (simp only [vd, reduceCtorEq, ve, updD, eS2, ex0, et, hv3, w9, w10, w11] at c18; grind)
       have q20 := tx_n9 hia2 c3 cl19 cb18 c18
       have qn21 : numL (-1) most (ls t) = .no 9 := nm_w hcu1 c1 c2 hk2 q20
       refine br_wp (fun c19 => ?_) (fun c19 => ?_)
       ·replace c19 : k1 < 0 := by first | simpa only [vd, reduceCtorEq, ve, updD, eS2, ex0, et, hv3, w9, w10, w11] using c19 | (simp only [vd, reduceCtorEq, ve, updD, eS2, ex0, et, hv3, w9, w10, w11] at c19; grind)
        refine need_wp (by first | exact ⟨_, _, _, rfl⟩ | (simp only [vd, reduceCtorEq, ve, updD, eS2, ex0, et, hv3, w9, w10, w11]; exact ⟨_, _, _, rfl⟩)) ?_
        refine ret_wp ?_
        refine ⟨((⟨0, (⟨#[]⟩ : ByteArray), 0, Rw.nil⟩ : Rep), 0, 9), by first | (simp only [vd, reduceCtorEq, ve, updD, eS2, ex0, et, hv3, w9, w10, w11]; done) | (simp only [vd, reduceCtorEq, ve, updD, eS2, ex0, et, hv3, w9, w10, w11]; rfl), ?_⟩
        show _ = dec (ls (ofBytes b.l)) ∧ _
        rw [← hb0]
        exact ⟨(d36n hS hs qn21).symm, .inl rfl⟩
       ·replace c19 : ¬(k1 < 0) := by first | simpa only [vd, reduceCtorEq, ve, updD, eS2, ex0, et, hv3, w9, w10, w11] using c19 | (simp only [vd, reduceCtorEq, ve, updD, eS2, ex0, et, hv3, w9, w10, w11] at c19; grind)
        refine need_wp (by first | exact ⟨_, _, _, rfl⟩ | (simp only [vd, reduceCtorEq, ve, updD, eS2, ex0, et, hv3, w9, w10, w11]; exact ⟨_, _, _, rfl⟩)) ?_
        refine ret_wp ?_
        refine ⟨((⟨0, (⟨#[]⟩ : ByteArray), 0, Rw.nil⟩ : Rep), 0, 9), by first | (simp only [vd, reduceCtorEq, ve, updD, eS2, ex0, et, hv3, w9, w10, w11]; done) | (simp only [vd, reduceCtorEq, ve, updD, eS2, ex0, et, hv3, w9, w10, w11]; rfl), ?_⟩
        show _ = dec (ls (ofBytes b.l)) ∧ _
        rw [← hb0]
        exact ⟨(d36n hS hs qn21).symm, .inl rfl⟩
      ·replace c18 : ¬((byteAt t (v2 + 1)) ≠ 10) := by first | simpa only [vd, reduceCtorEq, ve, updD, eS2, ex0, et, hv3, w9, w10, w11] using c18 | (simp only [vd, reduceCtorEq, ve, updD, eS2, ex0, et, hv3, w9, w10, w11] at c18; grind)
       obtain ⟨r23, hr23⟩ : ∃ z, z = t.extract (v2 + 2 : Int).toNat t.size := ⟨_, rfl⟩
       have zr23 : (r23.size : Int) = t.size - ((v2 + 2)) := by rw [hr23]; exact ext_size (by omega) (by omega)
       have er23 : t.extract (v2 + 2 : Int).toNat (t.size : Int).toNat = r23 := hr23.symm
       have q22 : textL (ls t) = .ok (ls (t.extract 0 v2.toNat)) (ls r23) := by rw [hr23]; exact tx_ok hia2 c3 cl19 cb18 (Decidable.not_not.1 c18)
       have qn24 : numL (-1) most (ls t) = .ok k1 (ls r23) := nm_w hcu1 c1 c2 hk2 q22
       refine need_wp (by simp only [vd, reduceCtorEq, ve, updD, eS2, ex0, et, hv3, w9, w10, w11, er23, List.length_cons, List.length_nil, List.length_append, List.length_set]; first | omega | (grind)) ?_
       refine need_wp (by simp only [vd, reduceCtorEq, ve, updD, eS2, ex0, et, hv3, w9, w10, w11, er23, List.length_cons, List.length_nil, List.length_append, List.length_set]; first | omega | (grind)) ?_
       refine need_wp (by simp only [vd, reduceCtorEq, ve, updD, eS2, ex0, et, hv3, w9, w10, w11, er23, List.length_cons, List.length_nil, List.length_append, List.length_set]; first | omega | (grind)) ?_
       refine need_wp (by simp only [vd, reduceCtorEq, ve, updD, eS2, ex0, et, hv3, w9, w10, w11, er23, List.length_cons, List.length_nil, List.length_append, List.length_set]; first | omega | (grind)) ?_
       refine br_wp (fun c20 => ?_) (fun c20 => ?_)
       ·replace c20 : k1 < 0 := by first | simpa only [vd, reduceCtorEq, ve, updD, eS2, ex0, et, hv3, w9, w10, w11, er23] using c20 | (simp only [vd, reduceCtorEq, ve, updD, eS2, ex0, et, hv3, w9, w10, w11, er23] at c20; grind)
        refine need_wp (by first | exact ⟨_, _, _, rfl⟩ | (simp only [vd, reduceCtorEq, ve, updD, eS2, ex0, et, hv3, w9, w10, w11, er23]; exact ⟨_, _, _, rfl⟩)) ?_
        refine need_wp (by first | exact ⟨_, _, _, rfl⟩ | (simp only [vd, reduceCtorEq, ve, updD, eS2, ex0, et, hv3, w9, w10, w11, er23]; exact ⟨_, _, _, rfl⟩)) ?_
        refine ret_wp ?_
        refine ⟨((⟨5, (⟨#[]⟩ : ByteArray), 0, Rw.nil⟩ : Rep), (IntKind.i64.wrap ((b.l.length : Int) - (r23.size : Int))), 0), by first | (simp only [vd, reduceCtorEq, ve, updD, eS2, ex0, et, hv3, w9, w10, w11, er23]; done) | (simp only [vd, reduceCtorEq, ve, updD, eS2, ex0, et, hv3, w9, w10, w11, er23]; rfl), ?_⟩
        show _ = dec (ls (ofBytes b.l)) ∧ _
        rw [← hb0]
        exact ⟨dec_leaf (n := b.l.length) (d36z hS hs qn24 c20) hSn (by omega) (by omega), .inl rfl⟩
       ·replace c20 : ¬(k1 < 0) := by first | simpa only [vd, reduceCtorEq, ve, updD, eS2, ex0, et, hv3, w9, w10, w11, er23] using c20 | (simp only [vd, reduceCtorEq, ve, updD, eS2, ex0, et, hv3, w9, w10, w11, er23] at c20; grind)
        have w25 : IntKind.i64.wrap (k1 + 2) = k1 + 2 := wrap_id _ (by omega) (by omega)
        refine br_wp (fun c21 => ?_) (fun c21 => ?_)
        ·replace c21 : (r23.size : Int) < (k1 + 2) := by first | simpa only [vd, reduceCtorEq, ve, updD, eS2, ex0, et, hv3, w9, w10, w11, er23, w25] using c21 | (simp only [vd, reduceCtorEq, ve, updD, eS2, ex0, et, hv3, w9, w10, w11, er23, w25] at c21; grind)
         refine need_wp (by simp only [vd, reduceCtorEq, ve, updD, eS2, ex0, et, hv3, w9, w10, w11, er23, w25, List.length_cons, List.length_nil, List.length_append, List.length_set]; first | omega | (grind)) ?_
         refine need_wp (by simp only [vd, reduceCtorEq, ve, updD, eS2, ex0, et, hv3, w9, w10, w11, er23, w25, List.length_cons, List.length_nil, List.length_append, List.length_set]; first | omega | (grind)) ?_
         refine need_wp (by simp only [vd, reduceCtorEq, ve, updD, eS2, ex0, et, hv3, w9, w10, w11, er23, w25, List.length_cons, List.length_nil, List.length_append, List.length_set]; first | omega | (grind)) ?_
         refine call_fun (((⟨#[13, 10]⟩ : ByteArray), (r23.extract ((min k1 (r23.size : Int)) : Int).toNat ((r23.size : Int) : Int).toNat))) rfl (by first | (simp only [vd, reduceCtorEq, ve, updD, eS2, ex0, et, hv3, w9, w10, w11, er23, w25]; done) | (simp only [vd, reduceCtorEq, ve, updD, eS2, ex0, et, hv3, w9, w10, w11, er23, w25]; rfl)) trivial ?_
         refine br_wp (fun c22 => ?_) (fun c22 => ?_)
         ·simp only [vd, reduceCtorEq, ve, updD, eS2, ex0, et, hv3, w9, w10, w11, er23, w25] at c22
          have q26 : bytL k1 (ls r23) = .no 8 := by_8 (by omega) c21 rfl c22
          refine need_wp (by first | exact ⟨_, _, _, rfl⟩ | (simp only [vd, reduceCtorEq, ve, updD, eS2, ex0, et, hv3, w9, w10, w11, er23, w25]; exact ⟨_, _, _, rfl⟩)) ?_
          refine ret_wp ?_
          refine ⟨((⟨0, (⟨#[]⟩ : ByteArray), 0, Rw.nil⟩ : Rep), 0, 8), by first | (simp only [vd, reduceCtorEq, ve, updD, eS2, ex0, et, hv3, w9, w10, w11, er23, w25]; done) | (simp only [vd, reduceCtorEq, ve, updD, eS2, ex0, et, hv3, w9, w10, w11, er23, w25]; rfl), ?_⟩
          show _ = dec (ls (ofBytes b.l)) ∧ _
          rw [← hb0]
          exact ⟨(d36b hS hs qn24 c20 q26).symm, .inl rfl⟩
         ·simp only [vd, reduceCtorEq, ve, updD, eS2, ex0, et, hv3, w9, w10, w11, er23, w25] at c22
          have q27 : bytL k1 (ls r23) = .no 9 := by_9a (by omega) c21 rfl (fun h => Bool.noConfusion (h.symm.trans c22))
          refine need_wp (by first | exact ⟨_, _, _, rfl⟩ | (simp only [vd, reduceCtorEq, ve, updD, eS2, ex0, et, hv3, w9, w10, w11, er23, w25]; exact ⟨_, _, _, rfl⟩)) ?_
          refine ret_wp ?_
          refine ⟨((⟨0, (⟨#[]⟩ : ByteArray), 0, Rw.nil⟩ : Rep), 0, 9), by first | (simp only [vd, reduceCtorEq, ve, updD, eS2, ex0, et, hv3, w9, w10, w11, er23, w25]; done) | (simp only [vd, reduceCtorEq, ve, updD, eS2, ex0, et, hv3, w9, w10, w11, er23, w25]; rfl), ?_⟩
          show _ = dec (ls (ofBytes b.l)) ∧ _
          rw [← hb0]
          exact ⟨(d36b hS hs qn24 c20 q27).symm, .inl rfl⟩
        ·replace c21 : ¬((r23.size : Int) < (k1 + 2)) := by first | simpa only [vd, reduceCtorEq, ve, updD, eS2, ex0, et, hv3, w9, w10, w11, er23, w25] using c21 | (simp only [vd, reduceCtorEq, ve, updD, eS2, ex0, et, hv3, w9, w10, w11, er23, w25] at c21; grind)
         refine need_wp (by simp only [vd, reduceCtorEq, ve, updD, eS2, ex0, et, hv3, w9, w10, w11, er23, w25, List.length_cons, List.length_nil, List.length_append, List.length_set]; first | omega | (grind)) ?_
         refine need_wp (by simp only [vd, reduceCtorEq, ve, updD, eS2, ex0, et, hv3, w9, w10, w11, er23, w25, List.length_cons, List.length_nil, List.length_append, List.length_set]; first | omega | (grind)) ?_
         refine need_wp (by simp only [vd, reduceCtorEq, ve, updD, eS2, ex0, et, hv3, w9, w10, w11, er23, w25, List.length_cons, List.length_nil, List.length_append, List.length_set]; first | omega | (grind)) ?_
         refine br_wp (fun c23 => ?_) (fun c23 => ?_)
         ·replace c23 : (r23.extract (k1 : Int).toNat ((k1 + 2) : Int).toNat) = (⟨#[13, 10]⟩ : ByteArray) := by first | simpa only [vd, reduceCtorEq, ve, updD, eS2, ex0, et, hv3, w9, w10, w11, er23, w25] using c23 | (simp only [vd, reduceCtorEq, ve, updD, eS2, ex0, et, hv3, w9, w10, w11, er23, w25] at c23; grind)
          obtain ⟨r29, hr29⟩ : ∃ z, z = r23.extract (k1 + 2 : Int).toNat r23.size := ⟨_, rfl⟩
          have zr29 : (r29.size : Int) = r23.size - ((k1 + 2)) := by rw [hr29]; exact ext_size (by omega) (by omega)
          have er29 : r23.extract (k1 + 2 : Int).toNat (r23.size : Int).toNat = r29 := hr29.symm
          have q28 : bytL k1 (ls r23) = .ok (ls (r23.extract 0 k1.toNat)) (ls r29) := by rw [hr29]; exact by_ok (by omega) c21 c23
          refine need_wp (by simp only [vd, reduceCtorEq, ve, updD, eS2, ex0, et, hv3, w9, w10, w11, er23, w25, er29, List.length_cons, List.length_nil, List.length_append, List.length_set]; first | omega | (grind)) ?_
          refine need_wp (by simp only [vd, reduceCtorEq, ve, updD, eS2, ex0, et, hv3, w9, w10, w11, er23, w25, er29, List.length_cons, List.length_nil, List.length_append, List.length_set]; first | omega | (grind)) ?_
          refine need_wp (by simp only [vd, reduceCtorEq, ve, updD, eS2, ex0, et, hv3, w9, w10, w11, er23, w25, er29, List.length_cons, List.length_nil, List.length_append, List.length_set]; first | omega | (grind)) ?_
          refine need_wp (by first | exact ⟨_, _, _, rfl⟩ | (simp only [vd, reduceCtorEq, ve, updD, eS2, ex0, et, hv3, w9, w10, w11, er23, w25, er29]; exact ⟨_, _, _, rfl⟩)) ?_
          refine need_wp (by first | exact ⟨_, _, _, rfl⟩ | (simp only [vd, reduceCtorEq, ve, updD, eS2, ex0, et, hv3, w9, w10, w11, er23, w25, er29]; exact ⟨_, _, _, rfl⟩)) ?_
          refine ret_wp ?_
          refine ⟨((⟨4, (r23.extract (0 : Int).toNat (k1 : Int).toNat), 0, Rw.nil⟩ : Rep), (IntKind.i64.wrap ((b.l.length : Int) - (r29.size : Int))), 0), by first | (simp only [vd, reduceCtorEq, ve, updD, eS2, ex0, et, hv3, w9, w10, w11, er23, w25, er29]; done) | (simp only [vd, reduceCtorEq, ve, updD, eS2, ex0, et, hv3, w9, w10, w11, er23, w25, er29]; rfl), ?_⟩
          show _ = dec (ls (ofBytes b.l)) ∧ _
          rw [← hb0]
          exact ⟨dec_leaf (n := b.l.length) (d36k hS hs qn24 c20 q28) hSn (by omega) (by omega), .inl rfl⟩
         ·replace c23 : ¬((r23.extract (k1 : Int).toNat ((k1 + 2) : Int).toNat) = (⟨#[13, 10]⟩ : ByteArray)) := by first | simpa only [vd, reduceCtorEq, ve, updD, eS2, ex0, et, hv3, w9, w10, w11, er23, w25] using c23 | (simp only [vd, reduceCtorEq, ve, updD, eS2, ex0, et, hv3, w9, w10, w11, er23, w25] at c23; grind)
          have q30 : bytL k1 (ls r23) = .no 9 := by_9b (by omega) c21 c23
          refine need_wp (by first | exact ⟨_, _, _, rfl⟩ | (simp only [vd, reduceCtorEq, ve, updD, eS2, ex0, et, hv3, w9, w10, w11, er23, w25]; exact ⟨_, _, _, rfl⟩)) ?_
          refine ret_wp ?_
          refine ⟨((⟨0, (⟨#[]⟩ : ByteArray), 0, Rw.nil⟩ : Rep), 0, 9), by first | (simp only [vd, reduceCtorEq, ve, updD, eS2, ex0, et, hv3, w9, w10, w11, er23, w25]; done) | (simp only [vd, reduceCtorEq, ve, updD, eS2, ex0, et, hv3, w9, w10, w11, er23, w25]; rfl), ?_⟩
          show _ = dec (ls (ofBytes b.l)) ∧ _
          rw [← hb0]
          exact ⟨(d36b hS hs qn24 c20 q30).symm, .inl rfl⟩
  ·replace c2 : ¬(upt w1 (-1) 1099511627776) := by first | simpa only [vd, reduceCtorEq, ve, updD, eS2, ex0, et] using c2 | (simp only [vd, reduceCtorEq, ve, updD, eS2, ex0, et] at c2; grind)
   have qn31 : numL (-1) most (ls t) = .no 9 := nm_9w hcu1 c1 c2
   refine need_wp (by first | exact ⟨_, _, _, rfl⟩ | (simp only [vd, reduceCtorEq, ve, updD, eS2, ex0, et]; exact ⟨_, _, _, rfl⟩)) ?_
   refine ret_wp ?_
   refine ⟨((⟨0, (⟨#[]⟩ : ByteArray), 0, Rw.nil⟩ : Rep), 0, 9), by first | (simp only [vd, reduceCtorEq, ve, updD, eS2, ex0, et]; done) | (simp only [vd, reduceCtorEq, ve, updD, eS2, ex0, et]; rfl), ?_⟩
   show _ = dec (ls (ofBytes b.l)) ∧ _
   rw [← hb0]
   exact ⟨(d36n hS hs qn31).symm, .inl rfl⟩
 ·replace c1 : ¬((w1.size : Int) < (t.size : Int)) := by first | simpa only [vd, reduceCtorEq, ve, updD, eS2, ex0, et] using c1 | (simp only [vd, reduceCtorEq, ve, updD, eS2, ex0, et] at c1; grind)
  refine call_fun ((w1, (-1), q)) rfl (by first | (simp only [vd, reduceCtorEq, ve, updD, eS2, ex0, et]; done) | (simp only [vd, reduceCtorEq, ve, updD, eS2, ex0, et]; rfl)) (⟨by dsimp only; omega, hq⟩) ?_
  refine br_wp (fun c24 => ?_) (fun c24 => ?_)
  ·replace c24 : begL (ls w1) (-1) := by first | simpa only [vd, reduceCtorEq, ve, updD, eS2, ex0, et] using c24 | (simp only [vd, reduceCtorEq, ve, updD, eS2, ex0, et] at c24; grind)
   refine call_rel ((t, (⟨#[13, 10]⟩ : ByteArray))) rfl (by first | (simp only [vd, reduceCtorEq, ve, updD, eS2, ex0, et]; done) | (simp only [vd, reduceCtorEq, ve, updD, eS2, ex0, et]; rfl)) (⟨by dsimp only; omega, rfl⟩) ?_
   rintro v3 hia3
   try dsimp only at hia3
   refine br_wp (fun c25 => ?_) (fun c25 => ?_)
   ·replace c25 : v3 < 0 := by first | simpa only [vd, reduceCtorEq, ve, updD, eS2, ex0, et] using c25 | (simp only [vd, reduceCtorEq, ve, updD, eS2, ex0, et] at c25; grind)
    have qn32 : numL (-1) most (ls t) = .no 8 := nm_8b hcu1 c1 c24
    refine br_wp (fun c26 => ?_) (fun c26 => ?_)
    ·replace c26 : (if upt w1 (-1) 1099511627776 then val (ls w1) else 0) < 0 := by first | simpa only [vd, reduceCtorEq, ve, updD, eS2, ex0, et] using c26 | (simp only [vd, reduceCtorEq, ve, updD, eS2, ex0, et] at c26; grind)
     refine need_wp (by first | exact ⟨_, _, _, rfl⟩ | (simp only [vd, reduceCtorEq, ve, updD, eS2, ex0, et]; exact ⟨_, _, _, rfl⟩)) ?_
     refine ret_wp ?_
     refine ⟨((⟨0, (⟨#[]⟩ : ByteArray), 0, Rw.nil⟩ : Rep), 0, 8), by first | (simp only [vd, reduceCtorEq, ve, updD, eS2, ex0, et]; done) | (simp only [vd, reduceCtorEq, ve, updD, eS2, ex0, et]; rfl), ?_⟩
     show _ = dec (ls (ofBytes b.l)) ∧ _
     rw [← hb0]
     exact ⟨(d36n hS hs qn32).symm, .inl rfl⟩
    ·replace c26 : ¬((if upt w1 (-1) 1099511627776 then val (ls w1) else 0) < 0) := by first | simpa only [vd, reduceCtorEq, ve, updD, eS2, ex0, et] using c26 | (simp only [vd, reduceCtorEq, ve, updD, eS2, ex0, et] at c26; grind)
     refine need_wp (by first | exact ⟨_, _, _, rfl⟩ | (simp only [vd, reduceCtorEq, ve, updD, eS2, ex0, et]; exact ⟨_, _, _, rfl⟩)) ?_
     refine ret_wp ?_
     refine ⟨((⟨0, (⟨#[]⟩ : ByteArray), 0, Rw.nil⟩ : Rep), 0, 8), by first | (simp only [vd, reduceCtorEq, ve, updD, eS2, ex0, et]; done) | (simp only [vd, reduceCtorEq, ve, updD, eS2, ex0, et]; rfl), ?_⟩
     show _ = dec (ls (ofBytes b.l)) ∧ _
     rw [← hb0]
     exact ⟨(d36n hS hs qn32).symm, .inl rfl⟩
   ·replace c25 : ¬(v3 < 0) := by first | simpa only [vd, reduceCtorEq, ve, updD, eS2, ex0, et] using c25 | (simp only [vd, reduceCtorEq, ve, updD, eS2, ex0, et] at c25; grind)
    exfalso; exact nm_dead hcu1 c1 (beg_10 c24) hia3 c25
  ·replace c24 : ¬(begL (ls w1) (-1)) := by first | simpa only [vd, reduceCtorEq, ve, updD, eS2, ex0, et] using c24 | (simp only [vd, reduceCtorEq, ve, updD, eS2, ex0, et] at c24; grind)
   have qn33 : numL (-1) most (ls t) = .no 9 := nm_9b hcu1 c1 c24
   refine need_wp (by first | exact ⟨_, _, _, rfl⟩ | (simp only [vd, reduceCtorEq, ve, updD, eS2, ex0, et]; exact ⟨_, _, _, rfl⟩)) ?_
   refine ret_wp ?_
   refine ⟨((⟨0, (⟨#[]⟩ : ByteArray), 0, Rw.nil⟩ : Rep), 0, 9), by first | (simp only [vd, reduceCtorEq, ve, updD, eS2, ex0, et]; done) | (simp only [vd, reduceCtorEq, ve, updD, eS2, ex0, et]; rfl), ?_⟩
   show _ = dec (ls (ofBytes b.l)) ∧ _
   rw [← hb0]
   exact ⟨(d36n hS hs qn33).symm, .inl rfl⟩
end Go.Proofs.YtbcbjgomnhajdaaDoorK
end
