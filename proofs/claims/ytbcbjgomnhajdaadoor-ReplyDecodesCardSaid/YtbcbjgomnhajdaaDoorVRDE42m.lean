/-  -/
import Derived.Test.YtbcbjgomnhajdaaDoorVRDE43m
import Derived.Test.YtbcbjgomnhajdaaDoorVRDh1m
import Derived.Test.YtbcbjgomnhajdaaDoorVRDp2m
set_option linter.unusedSimpArgs false
set_option linter.unusedVariables false
section
set_option linter.unusedSimpArgs false
set_option linter.unusedVariables false
set_option linter.unnecessarySimpa false
namespace Go.Proofs.YtbcbjgomnhajdaaDoorK
open Go Go.Proofs.YtbcbjgomnhajdaaDoorV Go.Proofs Go.Proofs.YtbcbjgomnhajdaaDoorK Go.Proofs.YtbcbjgomnhajdaaDoorK
set_option maxHeartbeats 16000000 in
theorem h8_42 {b : Rw Int} {q : Gh} {s0 t : ByteArray} {cc0 : UInt8} {b1 : Bool} (kb : b.ok 1) (hq : pG q) (hl : b.l.length ≤ 100000) (hb0 : s0 = ofBytes b.l) (hSn : s0.size = b.l.length) (hS : ls s0 = cc0 :: ls t) (hx0 : s0.extract 0 1 = (⟨#[cc0]⟩ : ByteArray)) (hz0 : 1 ≤ (s0.size : Int)) (ht : t = s0.extract (1 : Int).toNat s0.size) (zt : (t.size : Int) = s0.size - 1) (hs : cc0 = 42) : t8_42.wp (tab [kCo sg38, kIA sg47, kCut sg48, kUpto sg49, kBegins sg50, kNumeric sg51, kHP sg52]) (post8 (b, q)) [Rw.atom eB b, Rw.atom eF q.a, Rw.atom eF q.b, aB b1] [] := by
 have eS2 : ofBytes b.l = s0 := hb0.symm
 have ex0 : s0.extract (0 : Int).toNat (1 : Int).toNat = (⟨#[cc0]⟩ : ByteArray) := hx0
 have et : s0.extract (1 : Int).toNat (s0.size : Int).toNat = t := ht.symm
 unfold t8_42
 unfold l8_2
 refine call_rel ((t, (⟨#[13]⟩ : ByteArray))) rfl (by first | (simp only [vd, reduceCtorEq, ve, updD, eS2, ex0, et]; done) | (simp only [vd, reduceCtorEq, ve, updD, eS2, ex0, et]; rfl)) (⟨by dsimp only; omega, rfl⟩) ?_
 rintro ⟨w1, w21, bb1⟩ hcu1
 try dsimp only at hcu1
 have hz1 : w1.size ≤ t.size := lnB_size hcu1
 refine call_fun ((w1, 0, 1099511627776, q)) rfl (by first | (simp only [vd, reduceCtorEq, ve, updD, eS2, ex0, et]; done) | (simp only [vd, reduceCtorEq, ve, updD, eS2, ex0, et]; rfl)) (⟨by dsimp only; omega, hq⟩) ?_
 refine br_wp (fun c1 => ?_) (fun c1 => ?_)
 ·replace c1 : (w1.size : Int) < (t.size : Int) := by first | simpa only [vd, reduceCtorEq, ve, updD, eS2, ex0, et] using c1 | (simp only [vd, reduceCtorEq, ve, updD, eS2, ex0, et] at c1; grind)
  refine br_wp (fun c2 => ?_) (fun c2 => ?_)
  ·replace c2 : upt w1 0 1099511627776 := by first | simpa only [vd, reduceCtorEq, ve, updD, eS2, ex0, et] using c2 | (simp only [vd, reduceCtorEq, ve, updD, eS2, ex0, et] at c2; grind)
   obtain ⟨k1, hk2⟩ : ∃ k, k = val (ls w1) := ⟨_, rfl⟩
   have hv3 : (if upt w1 0 1099511627776 then val (ls w1) else 0) = k1 := by rw [if_pos c2, hk2]
   have hb4 : 0 ≤ k1 ∧ k1 ≤ 1099511627776 := by rw [hk2]; exact c2.2
   refine call_rel ((t, (⟨#[13, 10]⟩ : ByteArray))) rfl (by first | (simp only [vd, reduceCtorEq, ve, updD, eS2, ex0, et, hv3]; done) | (simp only [vd, reduceCtorEq, ve, updD, eS2, ex0, et, hv3]; rfl)) (⟨by dsimp only; omega, rfl⟩) ?_
   rintro v2 hia2
   try dsimp only at hia2
   refine br_wp (fun c3 => ?_) (fun c3 => ?_)
   ·replace c3 : v2 < 0 := by first | simpa only [vd, reduceCtorEq, ve, updD, eS2, ex0, et, hv3] using c3 | (simp only [vd, reduceCtorEq, ve, updD, eS2, ex0, et, hv3] at c3; grind)
    have q5 := tx_8 hia2 c3
    have qn6 : numL 0 most (ls t) = .no 8 := nm_w hcu1 c1 c2 hk2 q5
    refine br_wp (fun c4 => ?_) (fun c4 => ?_)
    ·replace c4 : k1 > 0 := by first | simpa only [vd, reduceCtorEq, ve, updD, eS2, ex0, et, hv3] using c4 | (simp only [vd, reduceCtorEq, ve, updD, eS2, ex0, et, hv3] at c4; grind)
     refine need_wp (by first | exact ⟨_, _, _, rfl⟩ | (simp only [vd, reduceCtorEq, ve, updD, eS2, ex0, et, hv3]; exact ⟨_, _, _, rfl⟩)) ?_
     refine ret_wp ?_
     refine ⟨((⟨0, (⟨#[]⟩ : ByteArray), 0, Rw.nil⟩ : Rep), 0, 8), by first | (simp only [vd, reduceCtorEq, ve, updD, eS2, ex0, et, hv3]; done) | (simp only [vd, reduceCtorEq, ve, updD, eS2, ex0, et, hv3]; rfl), ?_⟩
     show _ = dec (ls (ofBytes b.l)) ∧ _
     rw [← hb0]
     exact ⟨(d42n hS hs qn6).symm, .inl rfl⟩
    ·replace c4 : ¬(k1 > 0) := by first | simpa only [vd, reduceCtorEq, ve, updD, eS2, ex0, et, hv3] using c4 | (simp only [vd, reduceCtorEq, ve, updD, eS2, ex0, et, hv3] at c4; grind)
     refine need_wp (by first | exact ⟨_, _, _, rfl⟩ | (simp only [vd, reduceCtorEq, ve, updD, eS2, ex0, et, hv3]; exact ⟨_, _, _, rfl⟩)) ?_
     refine ret_wp ?_
     refine ⟨((⟨0, (⟨#[]⟩ : ByteArray), 0, Rw.nil⟩ : Rep), 0, 8), by first | (simp only [vd, reduceCtorEq, ve, updD, eS2, ex0, et, hv3]; done) | (simp only [vd, reduceCtorEq, ve, updD, eS2, ex0, et, hv3]; rfl), ?_⟩
     show _ = dec (ls (ofBytes b.l)) ∧ _
     rw [← hb0]
     exact ⟨(d42n hS hs qn6).symm, .inl rfl⟩
   ·replace c3 : ¬(v2 < 0) := by first | simpa only [vd, reduceCtorEq, ve, updD, eS2, ex0, et, hv3] using c3 | (simp only [vd, reduceCtorEq, ve, updD, eS2, ex0, et, hv3] at c3; grind)
    obtain ⟨g7, g8⟩ := tx_rng hia2 c3
    have w9 : IntKind.i64.wrap ((t.size : Int) - 1) = (t.size : Int) - 1 := wrap_id _ (by omega) (by omega)
    have w10 : IntKind.i64.wrap (v2 + 1) = v2 + 1 := wrap_id _ (by omega) (by omega)
    have w11 : IntKind.i64.wrap (v2 + 2) = v2 + 2 := wrap_id _ (by omega) (by omega)
    refine br_wp (fun c5 => ?_) (fun c5 => ?_)
    ·replace c5 : v2 = ((t.size : Int) - 1) := by first | simpa only [vd, reduceCtorEq, ve, updD, eS2, ex0, et, hv3, w9, w10, w11] using c5 | (simp only [vd, reduceCtorEq, ve, updD, eS2, ex0, et, hv3, w9, w10, w11] at c5; grind)
     refine need_wp (by simp only [vd, reduceCtorEq, ve, updD, eS2, ex0, et, hv3, w9, w10, w11, List.length_cons, List.length_nil, List.length_append, List.length_set]; first | omega | (grind)) ?_
     refine need_wp (by simp only [vd, reduceCtorEq, ve, updD, eS2, ex0, et, hv3, w9, w10, w11, List.length_cons, List.length_nil, List.length_append, List.length_set]; first | omega | (grind)) ?_
     refine br_wp (fun c6 => ?_) (fun c6 => ?_)
     ·replace c6 : (byteAt t v2) = 13 := by first | simpa only [vd, reduceCtorEq, ve, updD, eS2, ex0, et, hv3, w9, w10, w11] using c6 | (simp only [vd, reduceCtorEq, ve, updD, eS2, ex0, et, hv3, w9, w10, w11] at c6; grind)
      have q12 := tx_cr8 hia2 c3 c5 c6
      have qn13 : numL 0 most (ls t) = .no 8 := nm_w hcu1 c1 c2 hk2 q12
      refine br_wp (fun c7 => ?_) (fun c7 => ?_)
      ·replace c7 : k1 > 0 := by first | simpa only [vd, reduceCtorEq, ve, updD, eS2, ex0, et, hv3, w9, w10, w11] using c7 | (simp only [vd, reduceCtorEq, ve, updD, eS2, ex0, et, hv3, w9, w10, w11] at c7; grind)
       refine need_wp (by first | exact ⟨_, _, _, rfl⟩ | (simp only [vd, reduceCtorEq, ve, updD, eS2, ex0, et, hv3, w9, w10, w11]; exact ⟨_, _, _, rfl⟩)) ?_
       refine ret_wp ?_
       refine ⟨((⟨0, (⟨#[]⟩ : ByteArray), 0, Rw.nil⟩ : Rep), 0, 8), by first | (simp only [vd, reduceCtorEq, ve, updD, eS2, ex0, et, hv3, w9, w10, w11]; done) | (simp only [vd, reduceCtorEq, ve, updD, eS2, ex0, et, hv3, w9, w10, w11]; rfl), ?_⟩
       show _ = dec (ls (ofBytes b.l)) ∧ _
       rw [← hb0]
       exact ⟨(d42n hS hs qn13).symm, .inl rfl⟩
      ·replace c7 : ¬(k1 > 0) := by first | simpa only [vd, reduceCtorEq, ve, updD, eS2, ex0, et, hv3, w9, w10, w11] using c7 | (simp only [vd, reduceCtorEq, ve, updD, eS2, ex0, et, hv3, w9, w10, w11] at c7; grind)
       refine need_wp (by first | exact ⟨_, _, _, rfl⟩ | (simp only [vd, reduceCtorEq, ve, updD, eS2, ex0, et, hv3, w9, w10, w11]; exact ⟨_, _, _, rfl⟩)) ?_
       refine ret_wp ?_
       refine ⟨((⟨0, (⟨#[]⟩ : ByteArray), 0, Rw.nil⟩ : Rep), 0, 8), by first | (simp only [vd, reduceCtorEq, ve, updD, eS2, ex0, et, hv3, w9, w10, w11]; done) | (simp only [vd, reduceCtorEq, ve, updD, eS2, ex0, et, hv3, w9, w10, w11]; rfl), ?_⟩
       show _ = dec (ls (ofBytes b.l)) ∧ _
       rw [← hb0]
       exact ⟨(d42n hS hs qn13).symm, .inl rfl⟩
     ·replace c6 : ¬((byteAt t v2) = 13) := by first | simpa only [vd, reduceCtorEq, ve, updD, eS2, ex0, et, hv3, w9, w10, w11] using c6 | (simp only [vd, reduceCtorEq, ve, updD, eS2, ex0, et, hv3, w9, w10, w11] at c6; grind)
      refine br_wp (fun c8 => ?_) (fun c8 => ?_)
      ·replace c8 : (byteAt t v2) ≠ 13 := by first | simpa only [vd, reduceCtorEq, ve, updD, eS2, ex0, et, hv3, w9, w10, w11] using c8 | (simp only [vd, reduceCtorEq, ve, updD, eS2, ex0, et, hv3, w9, w10, w11] at c8; grind)
       have q14 := tx_9 hia2 c3 c8
       have qn15 : numL 0 most (ls t) = .no 9 := nm_w hcu1 c1 c2 hk2 q14
       refine br_wp (fun c9 => ?_) (fun c9 => ?_)
       ·replace c9 : k1 > 0 := by first | simpa only [vd, reduceCtorEq, ve, updD, eS2, ex0, et, hv3, w9, w10, w11] using c9 | (simp only [vd, reduceCtorEq, ve, updD, eS2, ex0, et, hv3, w9, w10, w11] at c9; grind)
        refine need_wp (by first | exact ⟨_, _, _, rfl⟩ | (simp only [vd, reduceCtorEq, ve, updD, eS2, ex0, et, hv3, w9, w10, w11]; exact ⟨_, _, _, rfl⟩)) ?_
        refine ret_wp ?_
        refine ⟨((⟨0, (⟨#[]⟩ : ByteArray), 0, Rw.nil⟩ : Rep), 0, 9), by first | (simp only [vd, reduceCtorEq, ve, updD, eS2, ex0, et, hv3, w9, w10, w11]; done) | (simp only [vd, reduceCtorEq, ve, updD, eS2, ex0, et, hv3, w9, w10, w11]; rfl), ?_⟩
        show _ = dec (ls (ofBytes b.l)) ∧ _
        rw [← hb0]
        exact ⟨(d42n hS hs qn15).symm, .inl rfl⟩
       ·replace c9 : ¬(k1 > 0) := by first | simpa only [vd, reduceCtorEq, ve, updD, eS2, ex0, et, hv3, w9, w10, w11] using c9 | (simp only [vd, reduceCtorEq, ve, updD, eS2, ex0, et, hv3, w9, w10, w11] at c9; grind)
        refine need_wp (by first | exact ⟨_, _, _, rfl⟩ | (simp only [vd, reduceCtorEq, ve, updD, eS2, ex0, et, hv3, w9, w10, w11]; exact ⟨_, _, _, rfl⟩)) ?_
        refine ret_wp ?_
        refine ⟨((⟨0, (⟨#[]⟩ : ByteArray), 0, Rw.nil⟩ : Rep), 0, 9), by first | (simp only [vd, reduceCtorEq, ve, updD, eS2, ex0, et, hv3, w9, w10, w11]; done) | (simp only [vd, reduceCtorEq, ve, updD, eS2, ex0, et, hv3, w9, w10, w11]; rfl), ?_⟩
        show _ = dec (ls (ofBytes b.l)) ∧ _
        rw [← hb0]
        exact ⟨(d42n hS hs qn15).symm, .inl rfl⟩
      ·replace c8 : ¬((byteAt t v2) ≠ 13) := by first | simpa only [vd, reduceCtorEq, ve, updD, eS2, ex0, et, hv3, w9, w10, w11] using c8 | (simp only [vd, reduceCtorEq, ve, updD, eS2, ex0, et, hv3, w9, w10, w11] at c8; grind)
       exfalso; exact c8 c6
    ·replace c5 : ¬(v2 = ((t.size : Int) - 1)) := by first | simpa only [vd, reduceCtorEq, ve, updD, eS2, ex0, et, hv3, w9, w10, w11] using c5 | (simp only [vd, reduceCtorEq, ve, updD, eS2, ex0, et, hv3, w9, w10, w11] at c5; grind)
     refine need_wp (by simp only [vd, reduceCtorEq, ve, updD, eS2, ex0, et, hv3, w9, w10, w11, List.length_cons, List.length_nil, List.length_append, List.length_set]; first | omega | (grind)) ?_
     refine need_wp (by simp only [vd, reduceCtorEq, ve, updD, eS2, ex0, et, hv3, w9, w10, w11, List.length_cons, List.length_nil, List.length_append, List.length_set]; first | omega | (grind)) ?_
     refine br_wp (fun c48 => ?_) (fun c48 => ?_)
     ·replace c48 : (byteAt t v2) ≠ 13 := by first | simpa only [vd, reduceCtorEq, ve, updD, eS2, ex0, et, hv3, w9, w10, w11] using c48 | (simp only [vd, reduceCtorEq, ve, updD, eS2, ex0, et, hv3, w9, w10, w11] at c48; grind)
      have q16 := tx_9 hia2 c3 c48
      have qn17 : numL 0 most (ls t) = .no 9 := nm_w hcu1 c1 c2 hk2 q16
      refine br_wp (fun c49 => ?_) (fun c49 => ?_)
      ·replace c49 : k1 > 0 := by first | simpa only [vd, reduceCtorEq, ve, updD, eS2, ex0, et, hv3, w9, w10, w11] using c49 | (simp only [vd, reduceCtorEq, ve, updD, eS2, ex0, et, hv3, w9, w10, w11] at c49; grind)
       refine need_wp (by first | exact ⟨_, _, _, rfl⟩ | (simp only [vd, reduceCtorEq, ve, updD, eS2, ex0, et, hv3, w9, w10, w11]; exact ⟨_, _, _, rfl⟩)) ?_
       refine ret_wp ?_
       refine ⟨((⟨0, (⟨#[]⟩ : ByteArray), 0, Rw.nil⟩ : Rep), 0, 9), by first | (simp only [vd, reduceCtorEq, ve, updD, eS2, ex0, et, hv3, w9, w10, w11]; done) | (simp only [vd, reduceCtorEq, ve, updD, eS2, ex0, et, hv3, w9, w10, w11]; rfl), ?_⟩
       show _ = dec (ls (ofBytes b.l)) ∧ _
       rw [← hb0]
       exact ⟨(d42n hS hs qn17).symm, .inl rfl⟩
      ·replace c49 : ¬(k1 > 0) := by first | simpa only [vd, reduceCtorEq, ve, updD, eS2, ex0, et, hv3, w9, w10, w11] using c49 | (simp only [vd, reduceCtorEq, ve, updD, eS2, ex0, et, hv3, w9, w10, w11] at c49; grind)
       refine need_wp (by first | exact ⟨_, _, _, rfl⟩ | (simp only [vd, reduceCtorEq, ve, updD, eS2, ex0, et, hv3, w9, w10, w11]; exact ⟨_, _, _, rfl⟩)) ?_
       refine ret_wp ?_
       refine ⟨((⟨0, (⟨#[]⟩ : ByteArray), 0, Rw.nil⟩ : Rep), 0, 9), by first | (simp only [vd, reduceCtorEq, ve, updD, eS2, ex0, et, hv3, w9, w10, w11]; done) | (simp only [vd, reduceCtorEq, ve, updD, eS2, ex0, et, hv3, w9, w10, w11]; rfl), ?_⟩
       show _ = dec (ls (ofBytes b.l)) ∧ _
       rw [← hb0]
       exact ⟨(d42n hS hs qn17).symm, .inl rfl⟩
     ·replace c48 : ¬((byteAt t v2) ≠ 13) := by first | simpa only [vd, reduceCtorEq, ve, updD, eS2, ex0, et, hv3, w9, w10, w11] using c48 | (simp only [vd, reduceCtorEq, ve, updD, eS2, ex0, et, hv3, w9, w10, w11] at c48; grind)
      have cb18 : byteAt t v2 = 13 := Decidable.not_not.1 c48
      have cl19 : v2 + 1 < (t.size : Int) := by omega
      refine need_wp (by simp only [vd, reduceCtorEq, ve, updD, eS2, ex0, et, hv3, w9, w10, w11, List.length_cons, List.length_nil, List.length_append, List.length_set]; first | omega | (grind)) ?_
      refine need_wp (by simp only [vd, reduceCtorEq, ve, updD, eS2, ex0, et, hv3, w9, w10, w11, List.length_cons, List.length_nil, List.length_append, List.length_set]; first | omega | (grind)) ?_
      refine br_wp (fun c50 => ?_) (fun c50 => ?_)
      ·replace c50 : (byteAt t (v2 + 1)) ≠ 10 := by first | simpa only [vd, reduceCtorEq, ve, updD, eS2, ex0, et, hv3, w9, w10, w11] using c50 | (simp only [vd, reduceCtorEq, ve, updD, eS2, ex0, et, hv3, w9, w10, w11] at c50; grind)
       have q20 := tx_n9 hia2 c3 cl19 cb18 c50
       have qn21 : numL 0 most (ls t) = .no 9 := nm_w hcu1 c1 c2 hk2 q20
       refine br_wp (fun c51 => ?_) (fun c51 => ?_)
       ·replace c51 : k1 > 0 := by first | simpa only [vd, reduceCtorEq, ve, updD, eS2, ex0, et, hv3, w9, w10, w11] using c51 | (simp only [vd, reduceCtorEq, ve, updD, eS2, ex0, et, hv3, w9, w10, w11] at c51; grind)
        refine need_wp (by first | exact ⟨_, _, _, rfl⟩ | (simp only [vd, reduceCtorEq, ve, updD, eS2, ex0, et, hv3, w9, w10, w11]; exact ⟨_, _, _, rfl⟩)) ?_
        refine ret_wp ?_
        refine ⟨((⟨0, (⟨#[]⟩ : ByteArray), 0, Rw.nil⟩ : Rep), 0, 9), by first | (simp only [vd, reduceCtorEq, ve, updD, eS2, ex0, et, hv3, w9, w10, w11]; done) | (simp only [vd, reduceCtorEq, ve, updD, eS2, ex0, et, hv3, w9, w10, w11]; rfl), ?_⟩
        show _ = dec (ls (ofBytes b.l)) ∧ _
        rw [← hb0]
        exact ⟨(d42n hS hs qn21).symm, .inl rfl⟩
       ·replace c51 : ¬(k1 > 0) := by first | simpa only [vd, reduceCtorEq, ve, updD, eS2, ex0, et, hv3, w9, w10, w11] using c51 | (simp only [vd, reduceCtorEq, ve, updD, eS2, ex0, et, hv3, w9, w10, w11] at c51; grind)
        refine need_wp (by first | exact ⟨_, _, _, rfl⟩ | (simp only [vd, reduceCtorEq, ve, updD, eS2, ex0, et, hv3, w9, w10, w11]; exact ⟨_, _, _, rfl⟩)) ?_
        refine ret_wp ?_
        refine ⟨((⟨0, (⟨#[]⟩ : ByteArray), 0, Rw.nil⟩ : Rep), 0, 9), by first | (simp only [vd, reduceCtorEq, ve, updD, eS2, ex0, et, hv3, w9, w10, w11]; done) | (simp only [vd, reduceCtorEq, ve, updD, eS2, ex0, et, hv3, w9, w10, w11]; rfl), ?_⟩
        show _ = dec (ls (ofBytes b.l)) ∧ _
        rw [← hb0]
        exact ⟨(d42n hS hs qn21).symm, .inl rfl⟩
      ·replace c50 : ¬((byteAt t (v2 + 1)) ≠ 10) := by first | simpa only [vd, reduceCtorEq, ve, updD, eS2, ex0, et, hv3, w9, w10, w11] using c50 | (simp only [vd, reduceCtorEq, ve, updD, eS2, ex0, et, hv3, w9, w10, w11] at c50; grind)
       obtain ⟨r23, hr23⟩ : ∃ z, z = t.extract (v2 + 2 : Int).toNat t.size := ⟨_, rfl⟩
       have zr23 : (r23.size : Int) = t.size - ((v2 + 2)) := by rw [hr23]; exact ext_size (by omega) (by omega)
       have er23 : t.extract (v2 + 2 : Int).toNat (t.size : Int).toNat = r23 := hr23.symm
       have q22 : textL (ls t) = .ok (ls (t.extract 0 v2.toNat)) (ls r23) := by rw [hr23]; exact tx_ok hia2 c3 cl19 cb18 (Decidable.not_not.1 c50)
       have qn24 : numL 0 most (ls t) = .ok k1 (ls r23) := nm_w hcu1 c1 c2 hk2 q22
       refine need_wp (by simp only [vd, reduceCtorEq, ve, updD, eS2, ex0, et, hv3, w9, w10, w11, er23, List.length_cons, List.length_nil, List.length_append, List.length_set]; first | omega | (grind)) ?_
       refine need_wp (by simp only [vd, reduceCtorEq, ve, updD, eS2, ex0, et, hv3, w9, w10, w11, er23, List.length_cons, List.length_nil, List.length_append, List.length_set]; first | omega | (grind)) ?_
       refine need_wp (by simp only [vd, reduceCtorEq, ve, updD, eS2, ex0, et, hv3, w9, w10, w11, er23, List.length_cons, List.length_nil, List.length_append, List.length_set]; first | omega | (grind)) ?_
       refine need_wp (by simp only [vd, reduceCtorEq, ve, updD, eS2, ex0, et, hv3, w9, w10, w11, er23, List.length_cons, List.length_nil, List.length_append, List.length_set]; first | omega | (grind)) ?_
       refine need_wp (by first | exact ⟨_, _, _, rfl⟩ | (simp only [vd, reduceCtorEq, ve, updD, eS2, ex0, et, hv3, w9, w10, w11, er23]; exact ⟨_, _, _, rfl⟩)) ?_
       refine loop_wp (fun bs0 => ∃ (nn : Int) (ss : ByteArray) (ee : Int) (xx : Rw ByteArray), bs0 = [aI nn, aS ss, aI ee, Rw.atom eS xx] ∧ (0 ≤ nn ∧ (xx.l.length : Int) + nn = k1 ∧ (ss.size : Int) ≤ r23.size ∧ (ee = 0 → lstL k1.toNat (ls r23) = preR xx.l (lstL nn.toNat (ls ss))) ∧ (ee ≠ 0 → lstL k1.toNat (ls r23) = .no ee) ∧ xx.ok 1)) (fun bs0 => (vi (bs0.getD 0 atom0).1).toNat) ?_ ?_
       ·refine ⟨k1, r23, 0, Rw.nil, by first | (simp only [vd, reduceCtorEq, ve, updD, eS2, ex0, et, hv3, w9, w10, w11, er23]; done) | (simp only [vd, reduceCtorEq, ve, updD, eS2, ex0, et, hv3, w9, w10, w11, er23]; rfl) | simp only [vd, reduceCtorEq, ve, updD, eS2, ex0, et, hv3, w9, w10, w11, er23, Rw.atom, Rw.nil, List.length_nil, List.map_nil], ?_⟩
        exact ⟨by omega, by simp [Rw.nil], by omega, fun _ => (preR_nil _).symm, fun h => absurd rfl h, .inl rfl⟩
       rintro _ _ ⟨nn, ss, ee, xx, rfl, ⟨i0, i1, i2, iL, iN, kx⟩⟩
       refine br_wp (fun c52 => ?_) (fun c52 => ?_)
       ·replace c52 : nn > 0 := by first | simpa only [vd, reduceCtorEq, ve, updD, eS2, ex0, et, hv3, w9, w10, w11, er23] using c52 | (simp only [vd, reduceCtorEq, ve, updD, eS2, ex0, et, hv3, w9, w10, w11, er23] at c52; grind)
        have i9 : 0 < nn := c52
        refine br_wp (fun c53 => ?_) (fun c53 => ?_)
        ·replace c53 : ee = 0 := by first | simpa only [vd, reduceCtorEq, ve, updD, eS2, ex0, et, hv3, w9, w10, w11, er23] using c53 | (simp only [vd, reduceCtorEq, ve, updD, eS2, ex0, et, hv3, w9, w10, w11, er23] at c53; grind)
         refine br_wp (fun c54 => ?_) (fun c54 => ?_)
         ·replace c54 : ee ≠ 0 := by first | simpa only [vd, reduceCtorEq, ve, updD, eS2, ex0, et, hv3, w9, w10, w11, er23] using c54 | (simp only [vd, reduceCtorEq, ve, updD, eS2, ex0, et, hv3, w9, w10, w11, er23] at c54; grind)
          exfalso; exact c54 c53
         ·replace c54 : ¬(ee ≠ 0) := by first | simpa only [vd, reduceCtorEq, ve, updD, eS2, ex0, et, hv3, w9, w10, w11, er23] using c54 | (simp only [vd, reduceCtorEq, ve, updD, eS2, ex0, et, hv3, w9, w10, w11, er23] at c54; grind)
          refine br_wp (fun c55 => ?_) (fun c55 => ?_)
          ·replace c55 : ss = (⟨#[]⟩ : ByteArray) := by first | simpa only [vd, reduceCtorEq, ve, updD, eS2, ex0, et, hv3, w9, w10, w11, er23] using c55 | (simp only [vd, reduceCtorEq, ve, updD, eS2, ex0, et, hv3, w9, w10, w11, er23] at c55; grind)
           have ql25 : lstL nn.toNat (ls ss) = .no 8 := ls_8 i9 c55
           have w26 : IntKind.i64.wrap (nn - 1) = nn - 1 := wrap_id _ (by omega) (by omega)
           refine new_wp eS [(⟨#[]⟩ : ByteArray)] (by first | (simp only [vd, reduceCtorEq, ve, updD, eS2, ex0, et, hv3, w9, w10, w11, er23, w26, eS]; done) | rfl) ?_
           intro a71 b71
           generalize hx71 : (⟨a71, b71, 1, [(⟨#[]⟩ : ByteArray)]⟩ : Rw ByteArray) = x71
           have lx71 : x71.l = [(⟨#[]⟩ : ByteArray)] := by first | (rw [← hx71]; done) | (rw [← hx71]; rfl)
           have zx71 : x71.z = 1 := by rw [← hx71]
           have kx71 : Rw.ok 1 x71 := .inr zx71
           have nx71 : (x71.l.length : Int) = 1 := by first | (rw [← hx71]; done) | (rw [← hx71]; simp [Rw.nil])
           refine need_wp (by first | exact ⟨_, _, _, rfl⟩ | (simp only [vd, reduceCtorEq, ve, updD, eS2, ex0, et, hv3, w9, w10, w11, er23, w26]; exact ⟨_, _, _, rfl⟩)) ?_
           refine need_wp (by first | exact rw_szz (by assumption) | exact rw_szz (.inr rfl)) ?_
           refine need_wp (by simp only [vd, reduceCtorEq, ve, updD, eS2, ex0, et, hv3, w9, w10, w11, er23, w26, List.length_cons, List.length_nil, List.length_append, List.length_set]; first | omega | (grind)) ?_
           refine need_wp (by simp only [vd, reduceCtorEq, ve, updD, eS2, ex0, et, hv3, w9, w10, w11, er23, w26, List.length_cons, List.length_nil, List.length_append, List.length_set]; first | omega | (grind)) ?_
           refine app_wp eS xx x71 (by first | rfl | simp only [vd, reduceCtorEq, ve, updD, eS2, ex0, et, hv3, w9, w10, w11, er23, w26]) (by first | rfl | simp only [vd, reduceCtorEq, ve, updD, eS2, ex0, et, hv3, w9, w10, w11, er23, w26]) ?_
           intro a72 b72
           generalize hx72 : (⟨a72, b72, 1, xx.l ++ x71.l⟩ : Rw ByteArray) = x72
           have lx72 : x72.l = xx.l ++ x71.l := by first | (rw [← hx72]; done) | (rw [← hx72]; rfl)
           have zx72 : x72.z = 1 := by rw [← hx72]
           have kx72 : Rw.ok 1 x72 := .inr zx72
           have nx72 : (x72.l.length : Int) = (xx.l.length : Int) + (x71.l.length : Int) := by first | (rw [← hx72]; done) | (rw [← hx72]; simp [Rw.nil])
           refine need_wp (by first | exact ⟨_, _, _, rfl⟩ | (simp only [vd, reduceCtorEq, ve, updD, eS2, ex0, et, hv3, w9, w10, w11, er23, w26]; exact ⟨_, _, _, rfl⟩)) ?_
           refine again_wp rfl ⟨(nn - 1), ss, 8, x72, by simp only [vd, reduceCtorEq, ve, updD, eS2, ex0, et, hv3, w9, w10, w11, er23, w26], ?_⟩ ?_
           ·exact ⟨by omega, by rw [lx72, lx71, List.length_append, List.length_singleton]; omega, by omega, fun h => absurd h (by decide), fun _ => by rw [iL c53, ql25]; rfl, kx72⟩
           ·(try simp only [vd, reduceCtorEq, ve, updD, eS2, ex0, et, hv3, w9, w10, w11, er23, w26]); omega
          ·replace c55 : ¬(ss = (⟨#[]⟩ : ByteArray)) := by first | simpa only [vd, reduceCtorEq, ve, updD, eS2, ex0, et, hv3, w9, w10, w11, er23] using c55 | (simp only [vd, reduceCtorEq, ve, updD, eS2, ex0, et, hv3, w9, w10, w11, er23] at c55; grind)
           obtain ⟨cc1, hT, hc1, hx1, hz1⟩ := cons_of c55
           have ex1 : ss.extract (0 : Int).toNat (1 : Int).toNat = (⟨#[cc1]⟩ : ByteArray) := hx1
           obtain ⟨u, hu⟩ : ∃ z, z = ss.extract (1 : Int).toNat ss.size := ⟨_, rfl⟩
           have zu : (u.size : Int) = ss.size - (1) := by rw [hu]; exact ext_size (by omega) (by omega)
           have eu : ss.extract (1 : Int).toNat (ss.size : Int).toNat = u := hu.symm
           replace hT : ls ss = cc1 :: ls u := by rw [hu]; exact hT
           refine need_wp (by simp only [vd, reduceCtorEq, ve, updD, eS2, ex0, et, hv3, w9, w10, w11, er23, ex1, eu, List.length_cons, List.length_nil, List.length_append, List.length_set]; first | omega | (grind)) ?_
           refine call_rel (((⟨#[36]⟩ : ByteArray), (⟨#[cc1]⟩ : ByteArray))) rfl (by first | (simp only [vd, reduceCtorEq, ve, updD, eS2, ex0, et, hv3, w9, w10, w11, er23, ex1, eu]; done) | (simp only [vd, reduceCtorEq, ve, updD, eS2, ex0, et, hv3, w9, w10, w11, er23, ex1, eu]; rfl)) rfl ?_
           rintro b73 hco73
           try dsimp only at hco73
           have hin := hco73 cc1 rfl
           refine br_wp (fun c56 => ?_) (fun c56 => ?_)
           ·replace c56 : b73 = true := by first | simpa only [vd, reduceCtorEq, ve, updD, eS2, ex0, et, hv3, w9, w10, w11, er23, ex1, eu] using c56 | (simp only [vd, reduceCtorEq, ve, updD, eS2, ex0, et, hv3, w9, w10, w11, er23, ex1, eu] at c56; grind)
            have hs1 : cc1 = 36 := one_of hin c56
            refine need_wp (by simp only [vd, reduceCtorEq, ve, updD, eS2, ex0, et, hv3, w9, w10, w11, er23, ex1, eu, List.length_cons, List.length_nil, List.length_append, List.length_set]; first | omega | (grind)) ?_
            refine need_wp (by simp only [vd, reduceCtorEq, ve, updD, eS2, ex0, et, hv3, w9, w10, w11, er23, ex1, eu, List.length_cons, List.length_nil, List.length_append, List.length_set]; first | omega | (grind)) ?_
            refine call_rel ((u, (⟨#[13]⟩ : ByteArray))) rfl (by first | (simp only [vd, reduceCtorEq, ve, updD, eS2, ex0, et, hv3, w9, w10, w11, er23, ex1, eu]; done) | (simp only [vd, reduceCtorEq, ve, updD, eS2, ex0, et, hv3, w9, w10, w11, er23, ex1, eu]; rfl)) (⟨by dsimp only; omega, rfl⟩) ?_
            rintro ⟨w74, w274, bb74⟩ hcu74
            try dsimp only at hcu74
            have hz74 : w74.size ≤ u.size := lnB_size hcu74
            refine call_fun ((w74, 0, 1099511627776, q)) rfl (by first | (simp only [vd, reduceCtorEq, ve, updD, eS2, ex0, et, hv3, w9, w10, w11, er23, ex1, eu]; done) | (simp only [vd, reduceCtorEq, ve, updD, eS2, ex0, et, hv3, w9, w10, w11, er23, ex1, eu]; rfl)) (⟨by dsimp only; omega, hq⟩) ?_
            refine br_wp (fun c57 => ?_) (fun c57 => ?_)
            ·replace c57 : (w74.size : Int) < (u.size : Int) := by first | simpa only [vd, reduceCtorEq, ve, updD, eS2, ex0, et, hv3, w9, w10, w11, er23, ex1, eu] using c57 | (simp only [vd, reduceCtorEq, ve, updD, eS2, ex0, et, hv3, w9, w10, w11, er23, ex1, eu] at c57; grind)
             refine br_wp (fun c58 => ?_) (fun c58 => ?_)
             ·replace c58 : upt w74 0 1099511627776 := by first | simpa only [vd, reduceCtorEq, ve, updD, eS2, ex0, et, hv3, w9, w10, w11, er23, ex1, eu] using c58 | (simp only [vd, reduceCtorEq, ve, updD, eS2, ex0, et, hv3, w9, w10, w11, er23, ex1, eu] at c58; grind)
              obtain ⟨k27, hk28⟩ : ∃ k, k = val (ls w74) := ⟨_, rfl⟩
              have hv29 : (if upt w74 0 1099511627776 then val (ls w74) else 0) = k27 := by rw [if_pos c58, hk28]
              have hb30 : 0 ≤ k27 ∧ k27 ≤ 1099511627776 := by rw [hk28]; exact c58.2
              refine call_rel ((u, (⟨#[13, 10]⟩ : ByteArray))) rfl (by first | (simp only [vd, reduceCtorEq, ve, updD, eS2, ex0, et, hv3, w9, w10, w11, er23, ex1, eu, hv29]; done) | (simp only [vd, reduceCtorEq, ve, updD, eS2, ex0, et, hv3, w9, w10, w11, er23, ex1, eu, hv29]; rfl)) (⟨by dsimp only; omega, rfl⟩) ?_
              rintro v75 hia75
              try dsimp only at hia75
              refine br_wp (fun c59 => ?_) (fun c59 => ?_)
              ·replace c59 : v75 < 0 := by first | simpa only [vd, reduceCtorEq, ve, updD, eS2, ex0, et, hv3, w9, w10, w11, er23, ex1, eu, hv29] using c59 | (simp only [vd, reduceCtorEq, ve, updD, eS2, ex0, et, hv3, w9, w10, w11, er23, ex1, eu, hv29] at c59; grind)
               have q31 := tx_8 hia75 c59
               have qn32 : numL 0 most (ls u) = .no 8 := nm_w hcu74 c57 c58 hk28 q31
               have ql33 : lstL nn.toNat (ls ss) = .no 8 := ls_n i9 hT hs1 qn32
               have w34 : IntKind.i64.wrap (nn - 1) = nn - 1 := wrap_id _ (by omega) (by omega)
               refine new_wp eS [(⟨#[]⟩ : ByteArray)] (by first | (simp only [vd, reduceCtorEq, ve, updD, eS2, ex0, et, hv3, w9, w10, w11, er23, ex1, eu, hv29, w34, eS]; done) | rfl) ?_
               intro a76 b76
               generalize hx76 : (⟨a76, b76, 1, [(⟨#[]⟩ : ByteArray)]⟩ : Rw ByteArray) = x76
               have lx76 : x76.l = [(⟨#[]⟩ : ByteArray)] := by first | (rw [← hx76]; done) | (rw [← hx76]; rfl)
               have zx76 : x76.z = 1 := by rw [← hx76]
               have kx76 : Rw.ok 1 x76 := .inr zx76
               have nx76 : (x76.l.length : Int) = 1 := by first | (rw [← hx76]; done) | (rw [← hx76]; simp [Rw.nil])
               refine need_wp (by first | exact ⟨_, _, _, rfl⟩ | (simp only [vd, reduceCtorEq, ve, updD, eS2, ex0, et, hv3, w9, w10, w11, er23, ex1, eu, hv29, w34]; exact ⟨_, _, _, rfl⟩)) ?_
               refine need_wp (by first | exact rw_szz (by assumption) | exact rw_szz (.inr rfl)) ?_
               refine need_wp (by simp only [vd, reduceCtorEq, ve, updD, eS2, ex0, et, hv3, w9, w10, w11, er23, ex1, eu, hv29, w34, List.length_cons, List.length_nil, List.length_append, List.length_set]; first | omega | (grind)) ?_
               refine need_wp (by simp only [vd, reduceCtorEq, ve, updD, eS2, ex0, et, hv3, w9, w10, w11, er23, ex1, eu, hv29, w34, List.length_cons, List.length_nil, List.length_append, List.length_set]; first | omega | (grind)) ?_
               refine app_wp eS xx x76 (by first | rfl | simp only [vd, reduceCtorEq, ve, updD, eS2, ex0, et, hv3, w9, w10, w11, er23, ex1, eu, hv29, w34]) (by first | rfl | simp only [vd, reduceCtorEq, ve, updD, eS2, ex0, et, hv3, w9, w10, w11, er23, ex1, eu, hv29, w34]) ?_
               intro a77 b77
               generalize hx77 : (⟨a77, b77, 1, xx.l ++ x76.l⟩ : Rw ByteArray) = x77
               have lx77 : x77.l = xx.l ++ x76.l := by first | (rw [← hx77]; done) | (rw [← hx77]; rfl)
               have zx77 : x77.z = 1 := by rw [← hx77]
               have kx77 : Rw.ok 1 x77 := .inr zx77
               have nx77 : (x77.l.length : Int) = (xx.l.length : Int) + (x76.l.length : Int) := by first | (rw [← hx77]; done) | (rw [← hx77]; simp [Rw.nil])
               refine need_wp (by first | exact ⟨_, _, _, rfl⟩ | (simp only [vd, reduceCtorEq, ve, updD, eS2, ex0, et, hv3, w9, w10, w11, er23, ex1, eu, hv29, w34]; exact ⟨_, _, _, rfl⟩)) ?_
               refine again_wp rfl ⟨(nn - 1), u, 8, x77, by simp only [vd, reduceCtorEq, ve, updD, eS2, ex0, et, hv3, w9, w10, w11, er23, ex1, eu, hv29, w34], ?_⟩ ?_
               ·exact ⟨by omega, by rw [lx77, lx76, List.length_append, List.length_singleton]; omega, by omega, fun h => absurd h (by decide), fun _ => by rw [iL c53, ql33]; rfl, kx77⟩
               ·(try simp only [vd, reduceCtorEq, ve, updD, eS2, ex0, et, hv3, w9, w10, w11, er23, ex1, eu, hv29, w34]); omega
              ·replace c59 : ¬(v75 < 0) := by first | simpa only [vd, reduceCtorEq, ve, updD, eS2, ex0, et, hv3, w9, w10, w11, er23, ex1, eu, hv29] using c59 | (simp only [vd, reduceCtorEq, ve, updD, eS2, ex0, et, hv3, w9, w10, w11, er23, ex1, eu, hv29] at c59; grind)
               obtain ⟨g35, g36⟩ := tx_rng hia75 c59
               have w37 : IntKind.i64.wrap ((u.size : Int) - 1) = (u.size : Int) - 1 := wrap_id _ (by omega) (by omega)
               have w38 : IntKind.i64.wrap (v75 + 1) = v75 + 1 := wrap_id _ (by omega) (by omega)
               have w39 : IntKind.i64.wrap (v75 + 2) = v75 + 2 := wrap_id _ (by omega) (by omega)
               refine br_wp (fun c60 => ?_) (fun c60 => ?_)
               ·replace c60 : v75 = ((u.size : Int) - 1) := by first | simpa only [vd, reduceCtorEq, ve, updD, eS2, ex0, et, hv3, w9, w10, w11, er23, ex1, eu, hv29, w37, w38, w39] using c60 | (simp only [vd, reduceCtorEq, ve, updD, eS2, ex0, et, hv3, w9, w10, w11, er23, ex1, eu, hv29, w37, w38, w39] at c60; grind)
                refine need_wp (by simp only [vd, reduceCtorEq, ve, updD, eS2, ex0, et, hv3, w9, w10, w11, er23, ex1, eu, hv29, w37, w38, w39, List.length_cons, List.length_nil, List.length_append, List.length_set]; first | omega | (grind)) ?_
                refine need_wp (by simp only [vd, reduceCtorEq, ve, updD, eS2, ex0, et, hv3, w9, w10, w11, er23, ex1, eu, hv29, w37, w38, w39, List.length_cons, List.length_nil, List.length_append, List.length_set]; first | omega | (grind)) ?_
                refine br_wp (fun c61 => ?_) (fun c61 => ?_)
                ·replace c61 : (byteAt u v75) = 13 := by first | simpa only [vd, reduceCtorEq, ve, updD, eS2, ex0, et, hv3, w9, w10, w11, er23, ex1, eu, hv29, w37, w38, w39] using c61 | (simp only [vd, reduceCtorEq, ve, updD, eS2, ex0, et, hv3, w9, w10, w11, er23, ex1, eu, hv29, w37, w38, w39] at c61; grind)
                 have q40 := tx_cr8 hia75 c59 c60 c61
                 have qn41 : numL 0 most (ls u) = .no 8 := nm_w hcu74 c57 c58 hk28 q40
                 have ql42 : lstL nn.toNat (ls ss) = .no 8 := ls_n i9 hT hs1 qn41
                 have w43 : IntKind.i64.wrap (nn - 1) = nn - 1 := wrap_id _ (by omega) (by omega)
                 refine new_wp eS [(⟨#[]⟩ : ByteArray)] (by first | (simp only [vd, reduceCtorEq, ve, updD, eS2, ex0, et, hv3, w9, w10, w11, er23, ex1, eu, hv29, w37, w38, w39, w43, eS]; done) | rfl) ?_
                 intro a78 b78
                 generalize hx78 : (⟨a78, b78, 1, [(⟨#[]⟩ : ByteArray)]⟩ : Rw ByteArray) = x78
                 have lx78 : x78.l = [(⟨#[]⟩ : ByteArray)] := by first | (rw [← hx78]; done) | (rw [← hx78]; rfl)
                 have zx78 : x78.z = 1 := by rw [← hx78]
                 have kx78 : Rw.ok 1 x78 := .inr zx78
                 have nx78 : (x78.l.length : Int) = 1 := by first | (rw [← hx78]; done) | (rw [← hx78]; simp [Rw.nil])
                 refine need_wp (by first | exact ⟨_, _, _, rfl⟩ | (simp only [vd, reduceCtorEq, ve, updD, eS2, ex0, et, hv3, w9, w10, w11, er23, ex1, eu, hv29, w37, w38, w39, w43]; exact ⟨_, _, _, rfl⟩)) ?_
                 refine need_wp (by first | exact rw_szz (by assumption) | exact rw_szz (.inr rfl)) ?_
                 refine need_wp (by simp only [vd, reduceCtorEq, ve, updD, eS2, ex0, et, hv3, w9, w10, w11, er23, ex1, eu, hv29, w37, w38, w39, w43, List.length_cons, List.length_nil, List.length_append, List.length_set]; first | omega | (grind)) ?_
                 refine need_wp (by simp only [vd, reduceCtorEq, ve, updD, eS2, ex0, et, hv3, w9, w10, w11, er23, ex1, eu, hv29, w37, w38, w39, w43, List.length_cons, List.length_nil, List.length_append, List.length_set]; first | omega | (grind)) ?_
                 refine app_wp eS xx x78 (by first | rfl | simp only [vd, reduceCtorEq, ve, updD, eS2, ex0, et, hv3, w9, w10, w11, er23, ex1, eu, hv29, w37, w38, w39, w43]) (by first | rfl | simp only [vd, reduceCtorEq, ve, updD, eS2, ex0, et, hv3, w9, w10, w11, er23, ex1, eu, hv29, w37, w38, w39, w43]) ?_
                 intro a79 b79
                 generalize hx79 : (⟨a79, b79, 1, xx.l ++ x78.l⟩ : Rw ByteArray) = x79
                 have lx79 : x79.l = xx.l ++ x78.l := by first | (rw [← hx79]; done) | (rw [← hx79]; rfl)
                 have zx79 : x79.z = 1 := by rw [← hx79]
                 have kx79 : Rw.ok 1 x79 := .inr zx79
                 have nx79 : (x79.l.length : Int) = (xx.l.length : Int) + (x78.l.length : Int) := by first | (rw [← hx79]; done) | (rw [← hx79]; simp [Rw.nil])
                 refine need_wp (by first | exact ⟨_, _, _, rfl⟩ | (simp only [vd, reduceCtorEq, ve, updD, eS2, ex0, et, hv3, w9, w10, w11, er23, ex1, eu, hv29, w37, w38, w39, w43]; exact ⟨_, _, _, rfl⟩)) ?_
                 refine again_wp rfl ⟨(nn - 1), u, 8, x79, by simp only [vd, reduceCtorEq, ve, updD, eS2, ex0, et, hv3, w9, w10, w11, er23, ex1, eu, hv29, w37, w38, w39, w43], ?_⟩ ?_
                 ·exact ⟨by omega, by rw [lx79, lx78, List.length_append, List.length_singleton]; omega, by omega, fun h => absurd h (by decide), fun _ => by rw [iL c53, ql42]; rfl, kx79⟩
                 ·(try simp only [vd, reduceCtorEq, ve, updD, eS2, ex0, et, hv3, w9, w10, w11, er23, ex1, eu, hv29, w37, w38, w39, w43]); omega
                ·replace c61 : ¬((byteAt u v75) = 13) := by first | simpa only [vd, reduceCtorEq, ve, updD, eS2, ex0, et, hv3, w9, w10, w11, er23, ex1, eu, hv29, w37, w38, w39] using c61 | (simp only [vd, reduceCtorEq, ve, updD, eS2, ex0, et, hv3, w9, w10, w11, er23, ex1, eu, hv29, w37, w38, w39] at c61; grind)
                 refine br_wp (fun c62 => ?_) (fun c62 => ?_)
                 ·replace c62 : (byteAt u v75) ≠ 13 := by first | simpa only [vd, reduceCtorEq, ve, updD, eS2, ex0, et, hv3, w9, w10, w11, er23, ex1, eu, hv29, w37, w38, w39] using c62 | (simp only [vd, reduceCtorEq, ve, updD, eS2, ex0, et, hv3, w9, w10, w11, er23, ex1, eu, hv29, w37, w38, w39] at c62; grind)
                  have q44 := tx_9 hia75 c59 c62
                  have qn45 : numL 0 most (ls u) = .no 9 := nm_w hcu74 c57 c58 hk28 q44
                  have ql46 : lstL nn.toNat (ls ss) = .no 9 := ls_n i9 hT hs1 qn45
                  have w47 : IntKind.i64.wrap (nn - 1) = nn - 1 := wrap_id _ (by omega) (by omega)
                  refine new_wp eS [(⟨#[]⟩ : ByteArray)] (by first | (simp only [vd, reduceCtorEq, ve, updD, eS2, ex0, et, hv3, w9, w10, w11, er23, ex1, eu, hv29, w37, w38, w39, w47, eS]; done) | rfl) ?_
                  intro a80 b80
                  generalize hx80 : (⟨a80, b80, 1, [(⟨#[]⟩ : ByteArray)]⟩ : Rw ByteArray) = x80
                  have lx80 : x80.l = [(⟨#[]⟩ : ByteArray)] := by first | (rw [← hx80]; done) | (rw [← hx80]; rfl)
                  have zx80 : x80.z = 1 := by rw [← hx80]
                  have kx80 : Rw.ok 1 x80 := .inr zx80
                  have nx80 : (x80.l.length : Int) = 1 := by first | (rw [← hx80]; done) | (rw [← hx80]; simp [Rw.nil])
                  refine need_wp (by first | exact ⟨_, _, _, rfl⟩ | (simp only [vd, reduceCtorEq, ve, updD, eS2, ex0, et, hv3, w9, w10, w11, er23, ex1, eu, hv29, w37, w38, w39, w47]; exact ⟨_, _, _, rfl⟩)) ?_
                  refine need_wp (by first | exact rw_szz (by assumption) | exact rw_szz (.inr rfl)) ?_
                  refine need_wp (by simp only [vd, reduceCtorEq, ve, updD, eS2, ex0, et, hv3, w9, w10, w11, er23, ex1, eu, hv29, w37, w38, w39, w47, List.length_cons, List.length_nil, List.length_append, List.length_set]; first | omega | (grind)) ?_
                  refine need_wp (by simp only [vd, reduceCtorEq, ve, updD, eS2, ex0, et, hv3, w9, w10, w11, er23, ex1, eu, hv29, w37, w38, w39, w47, List.length_cons, List.length_nil, List.length_append, List.length_set]; first | omega | (grind)) ?_
                  refine app_wp eS xx x80 (by first | rfl | simp only [vd, reduceCtorEq, ve, updD, eS2, ex0, et, hv3, w9, w10, w11, er23, ex1, eu, hv29, w37, w38, w39, w47]) (by first | rfl | simp only [vd, reduceCtorEq, ve, updD, eS2, ex0, et, hv3, w9, w10, w11, er23, ex1, eu, hv29, w37, w38, w39, w47]) ?_
                  intro a81 b81
                  generalize hx81 : (⟨a81, b81, 1, xx.l ++ x80.l⟩ : Rw ByteArray) = x81
                  have lx81 : x81.l = xx.l ++ x80.l := by first | (rw [← hx81]; done) | (rw [← hx81]; rfl)
                  have zx81 : x81.z = 1 := by rw [← hx81]
                  have kx81 : Rw.ok 1 x81 := .inr zx81
                  have nx81 : (x81.l.length : Int) = (xx.l.length : Int) + (x80.l.length : Int) := by first | (rw [← hx81]; done) | (rw [← hx81]; simp [Rw.nil])
                  refine need_wp (by first | exact ⟨_, _, _, rfl⟩ | (simp only [vd, reduceCtorEq, ve, updD, eS2, ex0, et, hv3, w9, w10, w11, er23, ex1, eu, hv29, w37, w38, w39, w47]; exact ⟨_, _, _, rfl⟩)) ?_
                  refine again_wp rfl ⟨(nn - 1), u, 9, x81, by simp only [vd, reduceCtorEq, ve, updD, eS2, ex0, et, hv3, w9, w10, w11, er23, ex1, eu, hv29, w37, w38, w39, w47], ?_⟩ ?_
                  ·exact ⟨by omega, by rw [lx81, lx80, List.length_append, List.length_singleton]; omega, by omega, fun h => absurd h (by decide), fun _ => by rw [iL c53, ql46]; rfl, kx81⟩
                  ·(try simp only [vd, reduceCtorEq, ve, updD, eS2, ex0, et, hv3, w9, w10, w11, er23, ex1, eu, hv29, w37, w38, w39, w47]); omega
                 ·replace c62 : ¬((byteAt u v75) ≠ 13) := by first | simpa only [vd, reduceCtorEq, ve, updD, eS2, ex0, et, hv3, w9, w10, w11, er23, ex1, eu, hv29, w37, w38, w39] using c62 | (simp only [vd, reduceCtorEq, ve, updD, eS2, ex0, et, hv3, w9, w10, w11, er23, ex1, eu, hv29, w37, w38, w39] at c62; grind)
                  exfalso; exact c62 c61
               ·replace c60 : ¬(v75 = ((u.size : Int) - 1)) := by first | simpa only [vd, reduceCtorEq, ve, updD, eS2, ex0, et, hv3, w9, w10, w11, er23, ex1, eu, hv29, w37, w38, w39] using c60 | (simp only [vd, reduceCtorEq, ve, updD, eS2, ex0, et, hv3, w9, w10, w11, er23, ex1, eu, hv29, w37, w38, w39] at c60; grind)
                refine need_wp (by simp only [vd, reduceCtorEq, ve, updD, eS2, ex0, et, hv3, w9, w10, w11, er23, ex1, eu, hv29, w37, w38, w39, List.length_cons, List.length_nil, List.length_append, List.length_set]; first | omega | (grind)) ?_
                refine need_wp (by simp only [vd, reduceCtorEq, ve, updD, eS2, ex0, et, hv3, w9, w10, w11, er23, ex1, eu, hv29, w37, w38, w39, List.length_cons, List.length_nil, List.length_append, List.length_set]; first | omega | (grind)) ?_
                refine br_wp (fun c67 => ?_) (fun c67 => ?_)
                ·replace c67 : (byteAt u v75) ≠ 13 := by first | simpa only [vd, reduceCtorEq, ve, updD, eS2, ex0, et, hv3, w9, w10, w11, er23, ex1, eu, hv29, w37, w38, w39] using c67 | (simp only [vd, reduceCtorEq, ve, updD, eS2, ex0, et, hv3, w9, w10, w11, er23, ex1, eu, hv29, w37, w38, w39] at c67; grind)
                 have q48 := tx_9 hia75 c59 c67
                 have qn49 : numL 0 most (ls u) = .no 9 := nm_w hcu74 c57 c58 hk28 q48
                 have ql50 : lstL nn.toNat (ls ss) = .no 9 := ls_n i9 hT hs1 qn49
                 have w51 : IntKind.i64.wrap (nn - 1) = nn - 1 := wrap_id _ (by omega) (by omega)
                 refine new_wp eS [(⟨#[]⟩ : ByteArray)] (by first | (simp only [vd, reduceCtorEq, ve, updD, eS2, ex0, et, hv3, w9, w10, w11, er23, ex1, eu, hv29, w37, w38, w39, w51, eS]; done) | rfl) ?_
                 intro a92 b92
                 generalize hx92 : (⟨a92, b92, 1, [(⟨#[]⟩ : ByteArray)]⟩ : Rw ByteArray) = x92
                 have lx92 : x92.l = [(⟨#[]⟩ : ByteArray)] := by first | (rw [← hx92]; done) | (rw [← hx92]; rfl)
                 have zx92 : x92.z = 1 := by rw [← hx92]
                 have kx92 : Rw.ok 1 x92 := .inr zx92
                 have nx92 : (x92.l.length : Int) = 1 := by first | (rw [← hx92]; done) | (rw [← hx92]; simp [Rw.nil])
                 refine need_wp (by first | exact ⟨_, _, _, rfl⟩ | (simp only [vd, reduceCtorEq, ve, updD, eS2, ex0, et, hv3, w9, w10, w11, er23, ex1, eu, hv29, w37, w38, w39, w51]; exact ⟨_, _, _, rfl⟩)) ?_
                 refine need_wp (by first | exact rw_szz (by assumption) | exact rw_szz (.inr rfl)) ?_
                 refine need_wp (by simp only [vd, reduceCtorEq, ve, updD, eS2, ex0, et, hv3, w9, w10, w11, er23, ex1, eu, hv29, w37, w38, w39, w51, List.length_cons, List.length_nil, List.length_append, List.length_set]; first | omega | (grind)) ?_
                 refine need_wp (by simp only [vd, reduceCtorEq, ve, updD, eS2, ex0, et, hv3, w9, w10, w11, er23, ex1, eu, hv29, w37, w38, w39, w51, List.length_cons, List.length_nil, List.length_append, List.length_set]; first | omega | (grind)) ?_
                 refine app_wp eS xx x92 (by first | rfl | simp only [vd, reduceCtorEq, ve, updD, eS2, ex0, et, hv3, w9, w10, w11, er23, ex1, eu, hv29, w37, w38, w39, w51]) (by first | rfl | simp only [vd, reduceCtorEq, ve, updD, eS2, ex0, et, hv3, w9, w10, w11, er23, ex1, eu, hv29, w37, w38, w39, w51]) ?_
                 intro a93 b93
                 generalize hx93 : (⟨a93, b93, 1, xx.l ++ x92.l⟩ : Rw ByteArray) = x93
                 have lx93 : x93.l = xx.l ++ x92.l := by first | (rw [← hx93]; done) | (rw [← hx93]; rfl)
                 have zx93 : x93.z = 1 := by rw [← hx93]
                 have kx93 : Rw.ok 1 x93 := .inr zx93
                 have nx93 : (x93.l.length : Int) = (xx.l.length : Int) + (x92.l.length : Int) := by first | (rw [← hx93]; done) | (rw [← hx93]; simp [Rw.nil])
                 refine need_wp (by first | exact ⟨_, _, _, rfl⟩ | (simp only [vd, reduceCtorEq, ve, updD, eS2, ex0, et, hv3, w9, w10, w11, er23, ex1, eu, hv29, w37, w38, w39, w51]; exact ⟨_, _, _, rfl⟩)) ?_
                 refine again_wp rfl ⟨(nn - 1), u, 9, x93, by simp only [vd, reduceCtorEq, ve, updD, eS2, ex0, et, hv3, w9, w10, w11, er23, ex1, eu, hv29, w37, w38, w39, w51], ?_⟩ ?_
                 ·exact ⟨by omega, by rw [lx93, lx92, List.length_append, List.length_singleton]; omega, by omega, fun h => absurd h (by decide), fun _ => by rw [iL c53, ql50]; rfl, kx93⟩
                 ·(try simp only [vd, reduceCtorEq, ve, updD, eS2, ex0, et, hv3, w9, w10, w11, er23, ex1, eu, hv29, w37, w38, w39, w51]); omega
                ·replace c67 : ¬((byteAt u v75) ≠ 13) := by first | simpa only [vd, reduceCtorEq, ve, updD, eS2, ex0, et, hv3, w9, w10, w11, er23, ex1, eu, hv29, w37, w38, w39] using c67 | (simp only [vd, reduceCtorEq, ve, updD, eS2, ex0, et, hv3, w9, w10, w11, er23, ex1, eu, hv29, w37, w38, w39] at c67; grind)
                 have cb52 : byteAt u v75 = 13 := Decidable.not_not.1 c67
                 have cl53 : v75 + 1 < (u.size : Int) := by omega
                 refine need_wp (by simp only [vd, reduceCtorEq, ve, updD, eS2, ex0, et, hv3, w9, w10, w11, er23, ex1, eu, hv29, w37, w38, w39, List.length_cons, List.length_nil, List.length_append, List.length_set]; first | omega | (grind)) ?_
                 refine need_wp (by simp only [vd, reduceCtorEq, ve, updD, eS2, ex0, et, hv3, w9, w10, w11, er23, ex1, eu, hv29, w37, w38, w39, List.length_cons, List.length_nil, List.length_append, List.length_set]; first | omega | (grind)) ?_
                 refine br_wp (fun c68 => ?_) (fun c68 => ?_)
                 ·replace c68 : (byteAt u (v75 + 1)) ≠ 10 := by first | simpa only [vd, reduceCtorEq, ve, updD, eS2, ex0, et, hv3, w9, w10, w11, er23, ex1, eu, hv29, w37, w38, w39] using c68 | (simp only [vd, reduceCtorEq, ve, updD, eS2, ex0, et, hv3, w9, w10, w11, er23, ex1, eu, hv29, w37, w38, w39] at c68; grind)
                  have q54 := tx_n9 hia75 c59 cl53 cb52 c68
                  have qn55 : numL 0 most (ls u) = .no 9 := nm_w hcu74 c57 c58 hk28 q54
                  have ql56 : lstL nn.toNat (ls ss) = .no 9 := ls_n i9 hT hs1 qn55
                  have w57 : IntKind.i64.wrap (nn - 1) = nn - 1 := wrap_id _ (by omega) (by omega)
                  refine new_wp eS [(⟨#[]⟩ : ByteArray)] (by first | (simp only [vd, reduceCtorEq, ve, updD, eS2, ex0, et, hv3, w9, w10, w11, er23, ex1, eu, hv29, w37, w38, w39, w57, eS]; done) | rfl) ?_
                  intro a94 b94
                  generalize hx94 : (⟨a94, b94, 1, [(⟨#[]⟩ : ByteArray)]⟩ : Rw ByteArray) = x94
                  have lx94 : x94.l = [(⟨#[]⟩ : ByteArray)] := by first | (rw [← hx94]; done) | (rw [← hx94]; rfl)
                  have zx94 : x94.z = 1 := by rw [← hx94]
                  have kx94 : Rw.ok 1 x94 := .inr zx94
                  have nx94 : (x94.l.length : Int) = 1 := by first | (rw [← hx94]; done) | (rw [← hx94]; simp [Rw.nil])
                  refine need_wp (by first | exact ⟨_, _, _, rfl⟩ | (simp only [vd, reduceCtorEq, ve, updD, eS2, ex0, et, hv3, w9, w10, w11, er23, ex1, eu, hv29, w37, w38, w39, w57]; exact ⟨_, _, _, rfl⟩)) ?_
                  refine need_wp (by first | exact rw_szz (by assumption) | exact rw_szz (.inr rfl)) ?_
                  refine need_wp (by simp only [vd, reduceCtorEq, ve, updD, eS2, ex0, et, hv3, w9, w10, w11, er23, ex1, eu, hv29, w37, w38, w39, w57, List.length_cons, List.length_nil, List.length_append, List.length_set]; first | omega | (grind)) ?_
                  refine need_wp (by simp only [vd, reduceCtorEq, ve, updD, eS2, ex0, et, hv3, w9, w10, w11, er23, ex1, eu, hv29, w37, w38, w39, w57, List.length_cons, List.length_nil, List.length_append, List.length_set]; first | omega | (grind)) ?_
                  refine app_wp eS xx x94 (by first | rfl | simp only [vd, reduceCtorEq, ve, updD, eS2, ex0, et, hv3, w9, w10, w11, er23, ex1, eu, hv29, w37, w38, w39, w57]) (by first | rfl | simp only [vd, reduceCtorEq, ve, updD, eS2, ex0, et, hv3, w9, w10, w11, er23, ex1, eu, hv29, w37, w38, w39, w57]) ?_
                  intro a95 b95
                  generalize hx95 : (⟨a95, b95, 1, xx.l ++ x94.l⟩ : Rw ByteArray) = x95
                  have lx95 : x95.l = xx.l ++ x94.l := by first | (rw [← hx95]; done) | (rw [← hx95]; rfl)
                  have zx95 : x95.z = 1 := by rw [← hx95]
                  have kx95 : Rw.ok 1 x95 := .inr zx95
                  have nx95 : (x95.l.length : Int) = (xx.l.length : Int) + (x94.l.length : Int) := by first | (rw [← hx95]; done) | (rw [← hx95]; simp [Rw.nil])
                  refine need_wp (by first | exact ⟨_, _, _, rfl⟩ | (simp only [vd, reduceCtorEq, ve, updD, eS2, ex0, et, hv3, w9, w10, w11, er23, ex1, eu, hv29, w37, w38, w39, w57]; exact ⟨_, _, _, rfl⟩)) ?_
                  refine again_wp rfl ⟨(nn - 1), u, 9, x95, by simp only [vd, reduceCtorEq, ve, updD, eS2, ex0, et, hv3, w9, w10, w11, er23, ex1, eu, hv29, w37, w38, w39, w57], ?_⟩ ?_
                  ·exact ⟨by omega, by rw [lx95, lx94, List.length_append, List.length_singleton]; omega, by omega, fun h => absurd h (by decide), fun _ => by rw [iL c53, ql56]; rfl, kx95⟩
                  ·(try simp only [vd, reduceCtorEq, ve, updD, eS2, ex0, et, hv3, w9, w10, w11, er23, ex1, eu, hv29, w37, w38, w39, w57]); omega
                 ·replace c68 : ¬((byteAt u (v75 + 1)) ≠ 10) := by first | simpa only [vd, reduceCtorEq, ve, updD, eS2, ex0, et, hv3, w9, w10, w11, er23, ex1, eu, hv29, w37, w38, w39] using c68 | (simp only [vd, reduceCtorEq, ve, updD, eS2, ex0, et, hv3, w9, w10, w11, er23, ex1, eu, hv29, w37, w38, w39] at c68; grind)
                  obtain ⟨r59, hr59⟩ : ∃ z, z = u.extract (v75 + 2 : Int).toNat u.size := ⟨_, rfl⟩
                  have zr59 : (r59.size : Int) = u.size - ((v75 + 2)) := by rw [hr59]; exact ext_size (by omega) (by omega)
                  have er59 : u.extract (v75 + 2 : Int).toNat (u.size : Int).toNat = r59 := hr59.symm
                  have q58 : textL (ls u) = .ok (ls (u.extract 0 v75.toNat)) (ls r59) := by rw [hr59]; exact tx_ok hia75 c59 cl53 cb52 (Decidable.not_not.1 c68)
                  have qn60 : numL 0 most (ls u) = .ok k27 (ls r59) := nm_w hcu74 c57 c58 hk28 q58
                  have w61 : IntKind.i64.wrap (k27 + 2) = k27 + 2 := wrap_id _ (by omega) (by omega)
                  refine need_wp (by simp only [vd, reduceCtorEq, ve, updD, eS2, ex0, et, hv3, w9, w10, w11, er23, ex1, eu, hv29, w37, w38, w39, er59, w61, List.length_cons, List.length_nil, List.length_append, List.length_set]; first | omega | (grind)) ?_
                  refine need_wp (by simp only [vd, reduceCtorEq, ve, updD, eS2, ex0, et, hv3, w9, w10, w11, er23, ex1, eu, hv29, w37, w38, w39, er59, w61, List.length_cons, List.length_nil, List.length_append, List.length_set]; first | omega | (grind)) ?_
                  refine need_wp (by simp only [vd, reduceCtorEq, ve, updD, eS2, ex0, et, hv3, w9, w10, w11, er23, ex1, eu, hv29, w37, w38, w39, er59, w61, List.length_cons, List.length_nil, List.length_append, List.length_set]; first | omega | (grind)) ?_
                  refine need_wp (by simp only [vd, reduceCtorEq, ve, updD, eS2, ex0, et, hv3, w9, w10, w11, er23, ex1, eu, hv29, w37, w38, w39, er59, w61, List.length_cons, List.length_nil, List.length_append, List.length_set]; first | omega | (grind)) ?_
                  refine br_wp (fun c69 => ?_) (fun c69 => ?_)
                  ·replace c69 : (r59.size : Int) < (k27 + 2) := by first | simpa only [vd, reduceCtorEq, ve, updD, eS2, ex0, et, hv3, w9, w10, w11, er23, ex1, eu, hv29, w37, w38, w39, er59, w61] using c69 | (simp only [vd, reduceCtorEq, ve, updD, eS2, ex0, et, hv3, w9, w10, w11, er23, ex1, eu, hv29, w37, w38, w39, er59, w61] at c69; grind)
                   refine need_wp (by simp only [vd, reduceCtorEq, ve, updD, eS2, ex0, et, hv3, w9, w10, w11, er23, ex1, eu, hv29, w37, w38, w39, er59, w61, List.length_cons, List.length_nil, List.length_append, List.length_set]; first | omega | (grind)) ?_
                   refine need_wp (by simp only [vd, reduceCtorEq, ve, updD, eS2, ex0, et, hv3, w9, w10, w11, er23, ex1, eu, hv29, w37, w38, w39, er59, w61, List.length_cons, List.length_nil, List.length_append, List.length_set]; first | omega | (grind)) ?_
                   refine need_wp (by simp only [vd, reduceCtorEq, ve, updD, eS2, ex0, et, hv3, w9, w10, w11, er23, ex1, eu, hv29, w37, w38, w39, er59, w61, List.length_cons, List.length_nil, List.length_append, List.length_set]; first | omega | (grind)) ?_
                   refine call_fun (((⟨#[13, 10]⟩ : ByteArray), (r59.extract ((min k27 (r59.size : Int)) : Int).toNat ((r59.size : Int) : Int).toNat))) rfl (by first | (simp only [vd, reduceCtorEq, ve, updD, eS2, ex0, et, hv3, w9, w10, w11, er23, ex1, eu, hv29, w37, w38, w39, er59, w61]; done) | (simp only [vd, reduceCtorEq, ve, updD, eS2, ex0, et, hv3, w9, w10, w11, er23, ex1, eu, hv29, w37, w38, w39, er59, w61]; rfl)) trivial ?_
                   refine br_wp (fun c70 => ?_) (fun c70 => ?_)
                   ·simp only [vd, reduceCtorEq, ve, updD, eS2, ex0, et, hv3, w9, w10, w11, er23, ex1, eu, hv29, w37, w38, w39, er59, w61] at c70
                    have q62 : bytL k27 (ls r59) = .no 8 := by_8 (by omega) c69 rfl c70
                    have ql63 : lstL nn.toNat (ls ss) = .no 8 := ls_b i9 hT hs1 qn60 q62
                    have w64 : IntKind.i64.wrap (nn - 1) = nn - 1 := wrap_id _ (by omega) (by omega)
                    refine new_wp eS [(⟨#[]⟩ : ByteArray)] (by first | (simp only [vd, reduceCtorEq, ve, updD, eS2, ex0, et, hv3, w9, w10, w11, er23, ex1, eu, hv29, w37, w38, w39, er59, w61, w64, eS]; done) | rfl) ?_
                    intro a96 b96
                    generalize hx96 : (⟨a96, b96, 1, [(⟨#[]⟩ : ByteArray)]⟩ : Rw ByteArray) = x96
                    have lx96 : x96.l = [(⟨#[]⟩ : ByteArray)] := by first | (rw [← hx96]; done) | (rw [← hx96]; rfl)
                    have zx96 : x96.z = 1 := by rw [← hx96]
                    have kx96 : Rw.ok 1 x96 := .inr zx96
                    have nx96 : (x96.l.length : Int) = 1 := by first | (rw [← hx96]; done) | (rw [← hx96]; simp [Rw.nil])
                    refine need_wp (by first | exact ⟨_, _, _, rfl⟩ | (simp only [vd, reduceCtorEq, ve, updD, eS2, ex0, et, hv3, w9, w10, w11, er23, ex1, eu, hv29, w37, w38, w39, er59, w61, w64]; exact ⟨_, _, _, rfl⟩)) ?_
                    refine need_wp (by first | exact rw_szz (by assumption) | exact rw_szz (.inr rfl)) ?_
                    refine need_wp (by simp only [vd, reduceCtorEq, ve, updD, eS2, ex0, et, hv3, w9, w10, w11, er23, ex1, eu, hv29, w37, w38, w39, er59, w61, w64, List.length_cons, List.length_nil, List.length_append, List.length_set]; first | omega | (grind)) ?_
                    refine need_wp (by simp only [vd, reduceCtorEq, ve, updD, eS2, ex0, et, hv3, w9, w10, w11, er23, ex1, eu, hv29, w37, w38, w39, er59, w61, w64, List.length_cons, List.length_nil, List.length_append, List.length_set]; first | omega | (grind)) ?_
                    refine app_wp eS xx x96 (by first | rfl | simp only [vd, reduceCtorEq, ve, updD, eS2, ex0, et, hv3, w9, w10, w11, er23, ex1, eu, hv29, w37, w38, w39, er59, w61, w64]) (by first | rfl | simp only [vd, reduceCtorEq, ve, updD, eS2, ex0, et, hv3, w9, w10, w11, er23, ex1, eu, hv29, w37, w38, w39, er59, w61, w64]) ?_
                    intro a97 b97
                    generalize hx97 : (⟨a97, b97, 1, xx.l ++ x96.l⟩ : Rw ByteArray) = x97
                    have lx97 : x97.l = xx.l ++ x96.l := by first | (rw [← hx97]; done) | (rw [← hx97]; rfl)
                    have zx97 : x97.z = 1 := by rw [← hx97]
                    have kx97 : Rw.ok 1 x97 := .inr zx97
                    have nx97 : (x97.l.length : Int) = (xx.l.length : Int) + (x96.l.length : Int) := by first | (rw [← hx97]; done) | (rw [← hx97]; simp [Rw.nil])
                    refine need_wp (by first | exact ⟨_, _, _, rfl⟩ | (simp only [vd, reduceCtorEq, ve, updD, eS2, ex0, et, hv3, w9, w10, w11, er23, ex1, eu, hv29, w37, w38, w39, er59, w61, w64]; exact ⟨_, _, _, rfl⟩)) ?_
                    refine again_wp rfl ⟨(nn - 1), r59, 8, x97, by simp only [vd, reduceCtorEq, ve, updD, eS2, ex0, et, hv3, w9, w10, w11, er23, ex1, eu, hv29, w37, w38, w39, er59, w61, w64], ?_⟩ ?_
                    ·exact ⟨by omega, by rw [lx97, lx96, List.length_append, List.length_singleton]; omega, by omega, fun h => absurd h (by decide), fun _ => by rw [iL c53, ql63]; rfl, kx97⟩
                    ·(try simp only [vd, reduceCtorEq, ve, updD, eS2, ex0, et, hv3, w9, w10, w11, er23, ex1, eu, hv29, w37, w38, w39, er59, w61, w64]); omega
                   ·simp only [vd, reduceCtorEq, ve, updD, eS2, ex0, et, hv3, w9, w10, w11, er23, ex1, eu, hv29, w37, w38, w39, er59, w61] at c70
                    have q65 : bytL k27 (ls r59) = .no 9 := by_9a (by omega) c69 rfl (fun h => Bool.noConfusion (h.symm.trans c70))
                    have ql66 : lstL nn.toNat (ls ss) = .no 9 := ls_b i9 hT hs1 qn60 q65
                    have w67 : IntKind.i64.wrap (nn - 1) = nn - 1 := wrap_id _ (by omega) (by omega)
                    refine new_wp eS [(⟨#[]⟩ : ByteArray)] (by first | (simp only [vd, reduceCtorEq, ve, updD, eS2, ex0, et, hv3, w9, w10, w11, er23, ex1, eu, hv29, w37, w38, w39, er59, w61, w67, eS]; done) | rfl) ?_
                    intro a98 b98
                    generalize hx98 : (⟨a98, b98, 1, [(⟨#[]⟩ : ByteArray)]⟩ : Rw ByteArray) = x98
                    have lx98 : x98.l = [(⟨#[]⟩ : ByteArray)] := by first | (rw [← hx98]; done) | (rw [← hx98]; rfl)
                    have zx98 : x98.z = 1 := by rw [← hx98]
                    have kx98 : Rw.ok 1 x98 := .inr zx98
                    have nx98 : (x98.l.length : Int) = 1 := by first | (rw [← hx98]; done) | (rw [← hx98]; simp [Rw.nil])
                    refine need_wp (by first | exact ⟨_, _, _, rfl⟩ | (simp only [vd, reduceCtorEq, ve, updD, eS2, ex0, et, hv3, w9, w10, w11, er23, ex1, eu, hv29, w37, w38, w39, er59, w61, w67]; exact ⟨_, _, _, rfl⟩)) ?_
                    refine need_wp (by first | exact rw_szz (by assumption) | exact rw_szz (.inr rfl)) ?_
                    refine need_wp (by simp only [vd, reduceCtorEq, ve, updD, eS2, ex0, et, hv3, w9, w10, w11, er23, ex1, eu, hv29, w37, w38, w39, er59, w61, w67, List.length_cons, List.length_nil, List.length_append, List.length_set]; first | omega | (grind)) ?_
                    refine need_wp (by simp only [vd, reduceCtorEq, ve, updD, eS2, ex0, et, hv3, w9, w10, w11, er23, ex1, eu, hv29, w37, w38, w39, er59, w61, w67, List.length_cons, List.length_nil, List.length_append, List.length_set]; first | omega | (grind)) ?_
                    refine app_wp eS xx x98 (by first | rfl | simp only [vd, reduceCtorEq, ve, updD, eS2, ex0, et, hv3, w9, w10, w11, er23, ex1, eu, hv29, w37, w38, w39, er59, w61, w67]) (by first | rfl | simp only [vd, reduceCtorEq, ve, updD, eS2, ex0, et, hv3, w9, w10, w11, er23, ex1, eu, hv29, w37, w38, w39, er59, w61, w67]) ?_
                    intro a99 b99
                    generalize hx99 : (⟨a99, b99, 1, xx.l ++ x98.l⟩ : Rw ByteArray) = x99
                    have lx99 : x99.l = xx.l ++ x98.l := by first | (rw [← hx99]; done) | (rw [← hx99]; rfl)
                    have zx99 : x99.z = 1 := by rw [← hx99]
                    have kx99 : Rw.ok 1 x99 := .inr zx99
                    have nx99 : (x99.l.length : Int) = (xx.l.length : Int) + (x98.l.length : Int) := by first | (rw [← hx99]; done) | (rw [← hx99]; simp [Rw.nil])
                    refine need_wp (by first | exact ⟨_, _, _, rfl⟩ | (simp only [vd, reduceCtorEq, ve, updD, eS2, ex0, et, hv3, w9, w10, w11, er23, ex1, eu, hv29, w37, w38, w39, er59, w61, w67]; exact ⟨_, _, _, rfl⟩)) ?_
                    refine again_wp rfl ⟨(nn - 1), r59, 9, x99, by simp only [vd, reduceCtorEq, ve, updD, eS2, ex0, et, hv3, w9, w10, w11, er23, ex1, eu, hv29, w37, w38, w39, er59, w61, w67], ?_⟩ ?_
                    ·exact ⟨by omega, by rw [lx99, lx98, List.length_append, List.length_singleton]; omega, by omega, fun h => absurd h (by decide), fun _ => by rw [iL c53, ql66]; rfl, kx99⟩
                    ·(try simp only [vd, reduceCtorEq, ve, updD, eS2, ex0, et, hv3, w9, w10, w11, er23, ex1, eu, hv29, w37, w38, w39, er59, w61, w67]); omega
                  ·replace c69 : ¬((r59.size : Int) < (k27 + 2)) := by first | simpa only [vd, reduceCtorEq, ve, updD, eS2, ex0, et, hv3, w9, w10, w11, er23, ex1, eu, hv29, w37, w38, w39, er59, w61] using c69 | (simp only [vd, reduceCtorEq, ve, updD, eS2, ex0, et, hv3, w9, w10, w11, er23, ex1, eu, hv29, w37, w38, w39, er59, w61] at c69; grind)
                   refine need_wp (by simp only [vd, reduceCtorEq, ve, updD, eS2, ex0, et, hv3, w9, w10, w11, er23, ex1, eu, hv29, w37, w38, w39, er59, w61, List.length_cons, List.length_nil, List.length_append, List.length_set]; first | omega | (grind)) ?_
                   refine need_wp (by simp only [vd, reduceCtorEq, ve, updD, eS2, ex0, et, hv3, w9, w10, w11, er23, ex1, eu, hv29, w37, w38, w39, er59, w61, List.length_cons, List.length_nil, List.length_append, List.length_set]; first | omega | (grind)) ?_
                   refine need_wp (by simp only [vd, reduceCtorEq, ve, updD, eS2, ex0, et, hv3, w9, w10, w11, er23, ex1, eu, hv29, w37, w38, w39, er59, w61, List.length_cons, List.length_nil, List.length_append, List.length_set]; first | omega | (grind)) ?_
                   refine br_wp (fun c71 => ?_) (fun c71 => ?_)
                   ·replace c71 : (r59.extract (k27 : Int).toNat ((k27 + 2) : Int).toNat) = (⟨#[13, 10]⟩ : ByteArray) := by first | simpa only [vd, reduceCtorEq, ve, updD, eS2, ex0, et, hv3, w9, w10, w11, er23, ex1, eu, hv29, w37, w38, w39, er59, w61] using c71 | (simp only [vd, reduceCtorEq, ve, updD, eS2, ex0, et, hv3, w9, w10, w11, er23, ex1, eu, hv29, w37, w38, w39, er59, w61] at c71; grind)
                    obtain ⟨r69, hr69⟩ : ∃ z, z = r59.extract (k27 + 2 : Int).toNat r59.size := ⟨_, rfl⟩
                    have zr69 : (r69.size : Int) = r59.size - ((k27 + 2)) := by rw [hr69]; exact ext_size (by omega) (by omega)
                    have er69 : r59.extract (k27 + 2 : Int).toNat (r59.size : Int).toNat = r69 := hr69.symm
                    have q68 : bytL k27 (ls r59) = .ok (ls (r59.extract 0 k27.toNat)) (ls r69) := by rw [hr69]; exact by_ok (by omega) c69 c71
                    have ql70 := ls_k i9 hT hs1 qn60 q68
                    have w71 : IntKind.i64.wrap (nn - 1) = nn - 1 := wrap_id _ (by omega) (by omega)
                    refine need_wp (by simp only [vd, reduceCtorEq, ve, updD, eS2, ex0, et, hv3, w9, w10, w11, er23, ex1, eu, hv29, w37, w38, w39, er59, w61, er69, w71, List.length_cons, List.length_nil, List.length_append, List.length_set]; first | omega | (grind)) ?_
                    refine need_wp (by simp only [vd, reduceCtorEq, ve, updD, eS2, ex0, et, hv3, w9, w10, w11, er23, ex1, eu, hv29, w37, w38, w39, er59, w61, er69, w71, List.length_cons, List.length_nil, List.length_append, List.length_set]; first | omega | (grind)) ?_
                    refine need_wp (by simp only [vd, reduceCtorEq, ve, updD, eS2, ex0, et, hv3, w9, w10, w11, er23, ex1, eu, hv29, w37, w38, w39, er59, w61, er69, w71, List.length_cons, List.length_nil, List.length_append, List.length_set]; first | omega | (grind)) ?_
                    refine new_wp eS [(r59.extract (0 : Int).toNat (k27 : Int).toNat)] (by first | (simp only [vd, reduceCtorEq, ve, updD, eS2, ex0, et, hv3, w9, w10, w11, er23, ex1, eu, hv29, w37, w38, w39, er59, w61, er69, w71, eS]; done) | rfl) ?_
                    intro a100 b100
                    generalize hx100 : (⟨a100, b100, 1, [(r59.extract (0 : Int).toNat (k27 : Int).toNat)]⟩ : Rw ByteArray) = x100
                    have lx100 : x100.l = [(r59.extract (0 : Int).toNat (k27 : Int).toNat)] := by first | (rw [← hx100]; done) | (rw [← hx100]; rfl)
                    have zx100 : x100.z = 1 := by rw [← hx100]
                    have kx100 : Rw.ok 1 x100 := .inr zx100
                    have nx100 : (x100.l.length : Int) = 1 := by first | (rw [← hx100]; done) | (rw [← hx100]; simp [Rw.nil])
                    refine need_wp (by first | exact ⟨_, _, _, rfl⟩ | (simp only [vd, reduceCtorEq, ve, updD, eS2, ex0, et, hv3, w9, w10, w11, er23, ex1, eu, hv29, w37, w38, w39, er59, w61, er69, w71]; exact ⟨_, _, _, rfl⟩)) ?_
                    refine need_wp (by first | exact rw_szz (by assumption) | exact rw_szz (.inr rfl)) ?_
                    refine need_wp (by simp only [vd, reduceCtorEq, ve, updD, eS2, ex0, et, hv3, w9, w10, w11, er23, ex1, eu, hv29, w37, w38, w39, er59, w61, er69, w71, List.length_cons, List.length_nil, List.length_append, List.length_set]; first | omega | (grind)) ?_
                    refine need_wp (by simp only [vd, reduceCtorEq, ve, updD, eS2, ex0, et, hv3, w9, w10, w11, er23, ex1, eu, hv29, w37, w38, w39, er59, w61, er69, w71, List.length_cons, List.length_nil, List.length_append, List.length_set]; first | omega | (grind)) ?_
                    refine app_wp eS xx x100 (by first | rfl | simp only [vd, reduceCtorEq, ve, updD, eS2, ex0, et, hv3, w9, w10, w11, er23, ex1, eu, hv29, w37, w38, w39, er59, w61, er69, w71]) (by first | rfl | simp only [vd, reduceCtorEq, ve, updD, eS2, ex0, et, hv3, w9, w10, w11, er23, ex1, eu, hv29, w37, w38, w39, er59, w61, er69, w71]) ?_
                    intro a101 b101
                    generalize hx101 : (⟨a101, b101, 1, xx.l ++ x100.l⟩ : Rw ByteArray) = x101
                    have lx101 : x101.l = xx.l ++ x100.l := by first | (rw [← hx101]; done) | (rw [← hx101]; rfl)
                    have zx101 : x101.z = 1 := by rw [← hx101]
                    have kx101 : Rw.ok 1 x101 := .inr zx101
                    have nx101 : (x101.l.length : Int) = (xx.l.length : Int) + (x100.l.length : Int) := by first | (rw [← hx101]; done) | (rw [← hx101]; simp [Rw.nil])
                    refine need_wp (by first | exact ⟨_, _, _, rfl⟩ | (simp only [vd, reduceCtorEq, ve, updD, eS2, ex0, et, hv3, w9, w10, w11, er23, ex1, eu, hv29, w37, w38, w39, er59, w61, er69, w71]; exact ⟨_, _, _, rfl⟩)) ?_
                    refine again_wp rfl ⟨(nn - 1), r69, ee, x101, by simp only [vd, reduceCtorEq, ve, updD, eS2, ex0, et, hv3, w9, w10, w11, er23, ex1, eu, hv29, w37, w38, w39, er59, w61, er69, w71], ?_⟩ ?_
                    ·exact ⟨by omega, by rw [lx101, lx100, List.length_append, List.length_singleton]; omega, by omega, fun _ => by rw [iL c53, ql70, preR_preR, lx101, lx100]; rfl, fun h => absurd c53 h, kx101⟩
                    ·(try simp only [vd, reduceCtorEq, ve, updD, eS2, ex0, et, hv3, w9, w10, w11, er23, ex1, eu, hv29, w37, w38, w39, er59, w61, er69, w71]); omega
                   ·replace c71 : ¬((r59.extract (k27 : Int).toNat ((k27 + 2) : Int).toNat) = (⟨#[13, 10]⟩ : ByteArray)) := by first | simpa only [vd, reduceCtorEq, ve, updD, eS2, ex0, et, hv3, w9, w10, w11, er23, ex1, eu, hv29, w37, w38, w39, er59, w61] using c71 | (simp only [vd, reduceCtorEq, ve, updD, eS2, ex0, et, hv3, w9, w10, w11, er23, ex1, eu, hv29, w37, w38, w39, er59, w61] at c71; grind)
                    have q72 : bytL k27 (ls r59) = .no 9 := by_9b (by omega) c69 c71
                    have ql73 : lstL nn.toNat (ls ss) = .no 9 := ls_b i9 hT hs1 qn60 q72
                    have w74 : IntKind.i64.wrap (nn - 1) = nn - 1 := wrap_id _ (by omega) (by omega)
                    refine new_wp eS [(⟨#[]⟩ : ByteArray)] (by first | (simp only [vd, reduceCtorEq, ve, updD, eS2, ex0, et, hv3, w9, w10, w11, er23, ex1, eu, hv29, w37, w38, w39, er59, w61, w74, eS]; done) | rfl) ?_
                    intro a102 b102
                    generalize hx102 : (⟨a102, b102, 1, [(⟨#[]⟩ : ByteArray)]⟩ : Rw ByteArray) = x102
                    have lx102 : x102.l = [(⟨#[]⟩ : ByteArray)] := by first | (rw [← hx102]; done) | (rw [← hx102]; rfl)
                    have zx102 : x102.z = 1 := by rw [← hx102]
                    have kx102 : Rw.ok 1 x102 := .inr zx102
                    have nx102 : (x102.l.length : Int) = 1 := by first | (rw [← hx102]; done) | (rw [← hx102]; simp [Rw.nil])
                    refine need_wp (by first | exact ⟨_, _, _, rfl⟩ | (simp only [vd, reduceCtorEq, ve, updD, eS2, ex0, et, hv3, w9, w10, w11, er23, ex1, eu, hv29, w37, w38, w39, er59, w61, w74]; exact ⟨_, _, _, rfl⟩)) ?_
                    refine need_wp (by first | exact rw_szz (by assumption) | exact rw_szz (.inr rfl)) ?_
                    refine need_wp (by simp only [vd, reduceCtorEq, ve, updD, eS2, ex0, et, hv3, w9, w10, w11, er23, ex1, eu, hv29, w37, w38, w39, er59, w61, w74, List.length_cons, List.length_nil, List.length_append, List.length_set]; first | omega | (grind)) ?_
                    refine need_wp (by simp only [vd, reduceCtorEq, ve, updD, eS2, ex0, et, hv3, w9, w10, w11, er23, ex1, eu, hv29, w37, w38, w39, er59, w61, w74, List.length_cons, List.length_nil, List.length_append, List.length_set]; first | omega | (grind)) ?_
                    refine app_wp eS xx x102 (by first | rfl | simp only [vd, reduceCtorEq, ve, updD, eS2, ex0, et, hv3, w9, w10, w11, er23, ex1, eu, hv29, w37, w38, w39, er59, w61, w74]) (by first | rfl | simp only [vd, reduceCtorEq, ve, updD, eS2, ex0, et, hv3, w9, w10, w11, er23, ex1, eu, hv29, w37, w38, w39, er59, w61, w74]) ?_
                    intro a103 b103
                    generalize hx103 : (⟨a103, b103, 1, xx.l ++ x102.l⟩ : Rw ByteArray) = x103
                    have lx103 : x103.l = xx.l ++ x102.l := by first | (rw [← hx103]; done) | (rw [← hx103]; rfl)
                    have zx103 : x103.z = 1 := by rw [← hx103]
                    have kx103 : Rw.ok 1 x103 := .inr zx103
                    have nx103 : (x103.l.length : Int) = (xx.l.length : Int) + (x102.l.length : Int) := by first | (rw [← hx103]; done) | (rw [← hx103]; simp [Rw.nil])
                    refine need_wp (by first | exact ⟨_, _, _, rfl⟩ | (simp only [vd, reduceCtorEq, ve, updD, eS2, ex0, et, hv3, w9, w10, w11, er23, ex1, eu, hv29, w37, w38, w39, er59, w61, w74]; exact ⟨_, _, _, rfl⟩)) ?_
                    refine again_wp rfl ⟨(nn - 1), r59, 9, x103, by simp only [vd, reduceCtorEq, ve, updD, eS2, ex0, et, hv3, w9, w10, w11, er23, ex1, eu, hv29, w37, w38, w39, er59, w61, w74], ?_⟩ ?_
                    ·exact ⟨by omega, by rw [lx103, lx102, List.length_append, List.length_singleton]; omega, by omega, fun h => absurd h (by decide), fun _ => by rw [iL c53, ql73]; rfl, kx103⟩
                    ·(try simp only [vd, reduceCtorEq, ve, updD, eS2, ex0, et, hv3, w9, w10, w11, er23, ex1, eu, hv29, w37, w38, w39, er59, w61, w74]); omega
             ·replace c58 : ¬(upt w74 0 1099511627776) := by first | simpa only [vd, reduceCtorEq, ve, updD, eS2, ex0, et, hv3, w9, w10, w11, er23, ex1, eu] using c58 | (simp only [vd, reduceCtorEq, ve, updD, eS2, ex0, et, hv3, w9, w10, w11, er23, ex1, eu] at c58; grind)
              have qn75 : numL 0 most (ls u) = .no 9 := nm_9w hcu74 c57 c58
              have ql76 : lstL nn.toNat (ls ss) = .no 9 := ls_n i9 hT hs1 qn75
              have w77 : IntKind.i64.wrap (nn - 1) = nn - 1 := wrap_id _ (by omega) (by omega)
              refine new_wp eS [(⟨#[]⟩ : ByteArray)] (by first | (simp only [vd, reduceCtorEq, ve, updD, eS2, ex0, et, hv3, w9, w10, w11, er23, ex1, eu, w77, eS]; done) | rfl) ?_
              intro a104 b104
              generalize hx104 : (⟨a104, b104, 1, [(⟨#[]⟩ : ByteArray)]⟩ : Rw ByteArray) = x104
              have lx104 : x104.l = [(⟨#[]⟩ : ByteArray)] := by first | (rw [← hx104]; done) | (rw [← hx104]; rfl)
              have zx104 : x104.z = 1 := by rw [← hx104]
              have kx104 : Rw.ok 1 x104 := .inr zx104
              have nx104 : (x104.l.length : Int) = 1 := by first | (rw [← hx104]; done) | (rw [← hx104]; simp [Rw.nil])
              refine need_wp (by first | exact ⟨_, _, _, rfl⟩ | (simp only [vd, reduceCtorEq, ve, updD, eS2, ex0, et, hv3, w9, w10, w11, er23, ex1, eu, w77]; exact ⟨_, _, _, rfl⟩)) ?_
              refine need_wp (by first | exact rw_szz (by assumption) | exact rw_szz (.inr rfl)) ?_
              refine need_wp (by simp only [vd, reduceCtorEq, ve, updD, eS2, ex0, et, hv3, w9, w10, w11, er23, ex1, eu, w77, List.length_cons, List.length_nil, List.length_append, List.length_set]; first | omega | (grind)) ?_
              refine need_wp (by simp only [vd, reduceCtorEq, ve, updD, eS2, ex0, et, hv3, w9, w10, w11, er23, ex1, eu, w77, List.length_cons, List.length_nil, List.length_append, List.length_set]; first | omega | (grind)) ?_
              refine app_wp eS xx x104 (by first | rfl | simp only [vd, reduceCtorEq, ve, updD, eS2, ex0, et, hv3, w9, w10, w11, er23, ex1, eu, w77]) (by first | rfl | simp only [vd, reduceCtorEq, ve, updD, eS2, ex0, et, hv3, w9, w10, w11, er23, ex1, eu, w77]) ?_
              intro a105 b105
              generalize hx105 : (⟨a105, b105, 1, xx.l ++ x104.l⟩ : Rw ByteArray) = x105
              have lx105 : x105.l = xx.l ++ x104.l := by first | (rw [← hx105]; done) | (rw [← hx105]; rfl)
              have zx105 : x105.z = 1 := by rw [← hx105]
              have kx105 : Rw.ok 1 x105 := .inr zx105
              have nx105 : (x105.l.length : Int) = (xx.l.length : Int) + (x104.l.length : Int) := by first | (rw [← hx105]; done) | (rw [← hx105]; simp [Rw.nil])
              refine need_wp (by first | exact ⟨_, _, _, rfl⟩ | (simp only [vd, reduceCtorEq, ve, updD, eS2, ex0, et, hv3, w9, w10, w11, er23, ex1, eu, w77]; exact ⟨_, _, _, rfl⟩)) ?_
              refine again_wp rfl ⟨(nn - 1), u, 9, x105, by simp only [vd, reduceCtorEq, ve, updD, eS2, ex0, et, hv3, w9, w10, w11, er23, ex1, eu, w77], ?_⟩ ?_
              ·exact ⟨by omega, by rw [lx105, lx104, List.length_append, List.length_singleton]; omega, by omega, fun h => absurd h (by decide), fun _ => by rw [iL c53, ql76]; rfl, kx105⟩
              ·(try simp only [vd, reduceCtorEq, ve, updD, eS2, ex0, et, hv3, w9, w10, w11, er23, ex1, eu, w77]); omega
            ·replace c57 : ¬((w74.size : Int) < (u.size : Int)) := by first | simpa only [vd, reduceCtorEq, ve, updD, eS2, ex0, et, hv3, w9, w10, w11, er23, ex1, eu] using c57 | (simp only [vd, reduceCtorEq, ve, updD, eS2, ex0, et, hv3, w9, w10, w11, er23, ex1, eu] at c57; grind)
             refine call_fun ((w74, 0, q)) rfl (by first | (simp only [vd, reduceCtorEq, ve, updD, eS2, ex0, et, hv3, w9, w10, w11, er23, ex1, eu]; done) | (simp only [vd, reduceCtorEq, ve, updD, eS2, ex0, et, hv3, w9, w10, w11, er23, ex1, eu]; rfl)) (⟨by dsimp only; omega, hq⟩) ?_
             refine br_wp (fun c72 => ?_) (fun c72 => ?_)
             ·replace c72 : begL (ls w74) 0 := by first | simpa only [vd, reduceCtorEq, ve, updD, eS2, ex0, et, hv3, w9, w10, w11, er23, ex1, eu] using c72 | (simp only [vd, reduceCtorEq, ve, updD, eS2, ex0, et, hv3, w9, w10, w11, er23, ex1, eu] at c72; grind)
              refine call_rel ((u, (⟨#[13, 10]⟩ : ByteArray))) rfl (by first | (simp only [vd, reduceCtorEq, ve, updD, eS2, ex0, et, hv3, w9, w10, w11, er23, ex1, eu]; done) | (simp only [vd, reduceCtorEq, ve, updD, eS2, ex0, et, hv3, w9, w10, w11, er23, ex1, eu]; rfl)) (⟨by dsimp only; omega, rfl⟩) ?_
              rintro v106 hia106
              try dsimp only at hia106
              refine br_wp (fun c73 => ?_) (fun c73 => ?_)
              ·replace c73 : v106 < 0 := by first | simpa only [vd, reduceCtorEq, ve, updD, eS2, ex0, et, hv3, w9, w10, w11, er23, ex1, eu] using c73 | (simp only [vd, reduceCtorEq, ve, updD, eS2, ex0, et, hv3, w9, w10, w11, er23, ex1, eu] at c73; grind)
               have qn78 : numL 0 most (ls u) = .no 8 := nm_8b hcu74 c57 c72
               have ql79 : lstL nn.toNat (ls ss) = .no 8 := ls_n i9 hT hs1 qn78
               have w80 : IntKind.i64.wrap (nn - 1) = nn - 1 := wrap_id _ (by omega) (by omega)
               refine new_wp eS [(⟨#[]⟩ : ByteArray)] (by first | (simp only [vd, reduceCtorEq, ve, updD, eS2, ex0, et, hv3, w9, w10, w11, er23, ex1, eu, w80, eS]; done) | rfl) ?_
               intro a107 b107
               generalize hx107 : (⟨a107, b107, 1, [(⟨#[]⟩ : ByteArray)]⟩ : Rw ByteArray) = x107
               have lx107 : x107.l = [(⟨#[]⟩ : ByteArray)] := by first | (rw [← hx107]; done) | (rw [← hx107]; rfl)
               have zx107 : x107.z = 1 := by rw [← hx107]
               have kx107 : Rw.ok 1 x107 := .inr zx107
               have nx107 : (x107.l.length : Int) = 1 := by first | (rw [← hx107]; done) | (rw [← hx107]; simp [Rw.nil])
               refine need_wp (by first | exact ⟨_, _, _, rfl⟩ | (simp only [vd, reduceCtorEq, ve, updD, eS2, ex0, et, hv3, w9, w10, w11, er23, ex1, eu, w80]; exact ⟨_, _, _, rfl⟩)) ?_
               refine need_wp (by first | exact rw_szz (by assumption) | exact rw_szz (.inr rfl)) ?_
               refine need_wp (by simp only [vd, reduceCtorEq, ve, updD, eS2, ex0, et, hv3, w9, w10, w11, er23, ex1, eu, w80, List.length_cons, List.length_nil, List.length_append, List.length_set]; first | omega | (grind)) ?_
               refine need_wp (by simp only [vd, reduceCtorEq, ve, updD, eS2, ex0, et, hv3, w9, w10, w11, er23, ex1, eu, w80, List.length_cons, List.length_nil, List.length_append, List.length_set]; first | omega | (grind)) ?_
               refine app_wp eS xx x107 (by first | rfl | simp only [vd, reduceCtorEq, ve, updD, eS2, ex0, et, hv3, w9, w10, w11, er23, ex1, eu, w80]) (by first | rfl | simp only [vd, reduceCtorEq, ve, updD, eS2, ex0, et, hv3, w9, w10, w11, er23, ex1, eu, w80]) ?_
               intro a108 b108
               generalize hx108 : (⟨a108, b108, 1, xx.l ++ x107.l⟩ : Rw ByteArray) = x108
               have lx108 : x108.l = xx.l ++ x107.l := by first | (rw [← hx108]; done) | (rw [← hx108]; rfl)
               have zx108 : x108.z = 1 := by rw [← hx108]
               have kx108 : Rw.ok 1 x108 := .inr zx108
               have nx108 : (x108.l.length : Int) = (xx.l.length : Int) + (x107.l.length : Int) := by first | (rw [← hx108]; done) | (rw [← hx108]; simp [Rw.nil])
               refine need_wp (by first | exact ⟨_, _, _, rfl⟩ | (simp only [vd, reduceCtorEq, ve, updD, eS2, ex0, et, hv3, w9, w10, w11, er23, ex1, eu, w80]; exact ⟨_, _, _, rfl⟩)) ?_
               refine again_wp rfl ⟨(nn - 1), u, 8, x108, by simp only [vd, reduceCtorEq, ve, updD, eS2, ex0, et, hv3, w9, w10, w11, er23, ex1, eu, w80], ?_⟩ ?_
               ·exact ⟨by omega, by rw [lx108, lx107, List.length_append, List.length_singleton]; omega, by omega, fun h => absurd h (by decide), fun _ => by rw [iL c53, ql79]; rfl, kx108⟩
               ·(try simp only [vd, reduceCtorEq, ve, updD, eS2, ex0, et, hv3, w9, w10, w11, er23, ex1, eu, w80]); omega
              ·replace c73 : ¬(v106 < 0) := by first | simpa only [vd, reduceCtorEq, ve, updD, eS2, ex0, et, hv3, w9, w10, w11, er23, ex1, eu] using c73 | (simp only [vd, reduceCtorEq, ve, updD, eS2, ex0, et, hv3, w9, w10, w11, er23, ex1, eu] at c73; grind)
               exfalso; exact nm_dead hcu74 c57 (beg_10 c72) hia106 c73
             ·replace c72 : ¬(begL (ls w74) 0) := by first | simpa only [vd, reduceCtorEq, ve, updD, eS2, ex0, et, hv3, w9, w10, w11, er23, ex1, eu] using c72 | (simp only [vd, reduceCtorEq, ve, updD, eS2, ex0, et, hv3, w9, w10, w11, er23, ex1, eu] at c72; grind)
              have qn81 : numL 0 most (ls u) = .no 9 := nm_9b hcu74 c57 c72
              have ql82 : lstL nn.toNat (ls ss) = .no 9 := ls_n i9 hT hs1 qn81
              have w83 : IntKind.i64.wrap (nn - 1) = nn - 1 := wrap_id _ (by omega) (by omega)
              refine new_wp eS [(⟨#[]⟩ : ByteArray)] (by first | (simp only [vd, reduceCtorEq, ve, updD, eS2, ex0, et, hv3, w9, w10, w11, er23, ex1, eu, w83, eS]; done) | rfl) ?_
              intro a135 b135
              generalize hx135 : (⟨a135, b135, 1, [(⟨#[]⟩ : ByteArray)]⟩ : Rw ByteArray) = x135
              have lx135 : x135.l = [(⟨#[]⟩ : ByteArray)] := by first | (rw [← hx135]; done) | (rw [← hx135]; rfl)
              have zx135 : x135.z = 1 := by rw [← hx135]
              have kx135 : Rw.ok 1 x135 := .inr zx135
              have nx135 : (x135.l.length : Int) = 1 := by first | (rw [← hx135]; done) | (rw [← hx135]; simp [Rw.nil])
              refine need_wp (by first | exact ⟨_, _, _, rfl⟩ | (simp only [vd, reduceCtorEq, ve, updD, eS2, ex0, et, hv3, w9, w10, w11, er23, ex1, eu, w83]; exact ⟨_, _, _, rfl⟩)) ?_
              refine need_wp (by first | exact rw_szz (by assumption) | exact rw_szz (.inr rfl)) ?_
              refine need_wp (by simp only [vd, reduceCtorEq, ve, updD, eS2, ex0, et, hv3, w9, w10, w11, er23, ex1, eu, w83, List.length_cons, List.length_nil, List.length_append, List.length_set]; first | omega | (grind)) ?_
              refine need_wp (by simp only [vd, reduceCtorEq, ve, updD, eS2, ex0, et, hv3, w9, w10, w11, er23, ex1, eu, w83, List.length_cons, List.length_nil, List.length_append, List.length_set]; first | omega | (grind)) ?_
              refine app_wp eS xx x135 (by first | rfl | simp only [vd, reduceCtorEq, ve, updD, eS2, ex0, et, hv3, w9, w10, w11, er23, ex1, eu, w83]) (by first | rfl | simp only [vd, reduceCtorEq, ve, updD, eS2, ex0, et, hv3, w9, w10, w11, er23, ex1, eu, w83]) ?_
              intro a136 b136
              generalize hx136 : (⟨a136, b136, 1, xx.l ++ x135.l⟩ : Rw ByteArray) = x136
              have lx136 : x136.l = xx.l ++ x135.l := by first | (rw [← hx136]; done) | (rw [← hx136]; rfl)
              have zx136 : x136.z = 1 := by rw [← hx136]
              have kx136 : Rw.ok 1 x136 := .inr zx136
              have nx136 : (x136.l.length : Int) = (xx.l.length : Int) + (x135.l.length : Int) := by first | (rw [← hx136]; done) | (rw [← hx136]; simp [Rw.nil])
              refine need_wp (by first | exact ⟨_, _, _, rfl⟩ | (simp only [vd, reduceCtorEq, ve, updD, eS2, ex0, et, hv3, w9, w10, w11, er23, ex1, eu, w83]; exact ⟨_, _, _, rfl⟩)) ?_
              refine again_wp rfl ⟨(nn - 1), u, 9, x136, by simp only [vd, reduceCtorEq, ve, updD, eS2, ex0, et, hv3, w9, w10, w11, er23, ex1, eu, w83], ?_⟩ ?_
              ·exact ⟨by omega, by rw [lx136, lx135, List.length_append, List.length_singleton]; omega, by omega, fun h => absurd h (by decide), fun _ => by rw [iL c53, ql82]; rfl, kx136⟩
              ·(try simp only [vd, reduceCtorEq, ve, updD, eS2, ex0, et, hv3, w9, w10, w11, er23, ex1, eu, w83]); omega
           ·replace c56 : ¬(b73 = true) := by first | simpa only [vd, reduceCtorEq, ve, updD, eS2, ex0, et, hv3, w9, w10, w11, er23, ex1, eu] using c56 | (simp only [vd, reduceCtorEq, ve, updD, eS2, ex0, et, hv3, w9, w10, w11, er23, ex1, eu] at c56; grind)
            have ql84 : lstL nn.toNat (ls ss) = .no 9 := ls_9 i9 hT (not_of hin c56)
            have w85 : IntKind.i64.wrap (nn - 1) = nn - 1 := wrap_id _ (by omega) (by omega)
            refine new_wp eS [(⟨#[]⟩ : ByteArray)] (by first | (simp only [vd, reduceCtorEq, ve, updD, eS2, ex0, et, hv3, w9, w10, w11, er23, ex1, eu, w85, eS]; done) | rfl) ?_
            intro a137 b137
            generalize hx137 : (⟨a137, b137, 1, [(⟨#[]⟩ : ByteArray)]⟩ : Rw ByteArray) = x137
            have lx137 : x137.l = [(⟨#[]⟩ : ByteArray)] := by first | (rw [← hx137]; done) | (rw [← hx137]; rfl)
            have zx137 : x137.z = 1 := by rw [← hx137]
            have kx137 : Rw.ok 1 x137 := .inr zx137
            have nx137 : (x137.l.length : Int) = 1 := by first | (rw [← hx137]; done) | (rw [← hx137]; simp [Rw.nil])
            refine need_wp (by first | exact ⟨_, _, _, rfl⟩ | (simp only [vd, reduceCtorEq, ve, updD, eS2, ex0, et, hv3, w9, w10, w11, er23, ex1, eu, w85]; exact ⟨_, _, _, rfl⟩)) ?_
            refine need_wp (by first | exact rw_szz (by assumption) | exact rw_szz (.inr rfl)) ?_
            refine need_wp (by simp only [vd, reduceCtorEq, ve, updD, eS2, ex0, et, hv3, w9, w10, w11, er23, ex1, eu, w85, List.length_cons, List.length_nil, List.length_append, List.length_set]; first | omega | (grind)) ?_
            refine need_wp (by simp only [vd, reduceCtorEq, ve, updD, eS2, ex0, et, hv3, w9, w10, w11, er23, ex1, eu, w85, List.length_cons, List.length_nil, List.length_append, List.length_set]; first | omega | (grind)) ?_
            refine app_wp eS xx x137 (by first | rfl | simp only [vd, reduceCtorEq, ve, updD, eS2, ex0, et, hv3, w9, w10, w11, er23, ex1, eu, w85]) (by first | rfl | simp only [vd, reduceCtorEq, ve, updD, eS2, ex0, et, hv3, w9, w10, w11, er23, ex1, eu, w85]) ?_
            intro a138 b138
            generalize hx138 : (⟨a138, b138, 1, xx.l ++ x137.l⟩ : Rw ByteArray) = x138
            have lx138 : x138.l = xx.l ++ x137.l := by first | (rw [← hx138]; done) | (rw [← hx138]; rfl)
            have zx138 : x138.z = 1 := by rw [← hx138]
            have kx138 : Rw.ok 1 x138 := .inr zx138
            have nx138 : (x138.l.length : Int) = (xx.l.length : Int) + (x137.l.length : Int) := by first | (rw [← hx138]; done) | (rw [← hx138]; simp [Rw.nil])
            refine need_wp (by first | exact ⟨_, _, _, rfl⟩ | (simp only [vd, reduceCtorEq, ve, updD, eS2, ex0, et, hv3, w9, w10, w11, er23, ex1, eu, w85]; exact ⟨_, _, _, rfl⟩)) ?_
            refine again_wp rfl ⟨(nn - 1), ss, 9, x138, by simp only [vd, reduceCtorEq, ve, updD, eS2, ex0, et, hv3, w9, w10, w11, er23, ex1, eu, w85], ?_⟩ ?_
            ·exact ⟨by omega, by rw [lx138, lx137, List.length_append, List.length_singleton]; omega, by omega, fun h => absurd h (by decide), fun _ => by rw [iL c53, ql84]; rfl, kx138⟩
            ·(try simp only [vd, reduceCtorEq, ve, updD, eS2, ex0, et, hv3, w9, w10, w11, er23, ex1, eu, w85]); omega
        ·replace c53 : ¬(ee = 0) := by first | simpa only [vd, reduceCtorEq, ve, updD, eS2, ex0, et, hv3, w9, w10, w11, er23] using c53 | (simp only [vd, reduceCtorEq, ve, updD, eS2, ex0, et, hv3, w9, w10, w11, er23] at c53; grind)
         refine pop_wp ?_
         refine br_wp (fun c86 => ?_) (fun c86 => ?_)
         ·replace c86 : ee ≠ 0 := by first | simpa only [vd, reduceCtorEq, ve, updD, eS2, ex0, et, hv3, w9, w10, w11, er23] using c86 | (simp only [vd, reduceCtorEq, ve, updD, eS2, ex0, et, hv3, w9, w10, w11, er23] at c86; grind)
          refine need_wp (by first | exact ⟨_, _, _, rfl⟩ | (simp only [vd, reduceCtorEq, ve, updD, eS2, ex0, et, hv3, w9, w10, w11, er23]; exact ⟨_, _, _, rfl⟩)) ?_
          refine ret_wp ?_
          refine ⟨((⟨0, (⟨#[]⟩ : ByteArray), 0, Rw.nil⟩ : Rep), 0, ee), by first | (simp only [vd, reduceCtorEq, ve, updD, eS2, ex0, et, hv3, w9, w10, w11, er23]; done) | (simp only [vd, reduceCtorEq, ve, updD, eS2, ex0, et, hv3, w9, w10, w11, er23]; rfl), ?_⟩
          show _ = dec (ls (ofBytes b.l)) ∧ _
          rw [← hb0]
          exact ⟨(d42l hS hs qn24 (iN c86)).symm, .inl rfl⟩
         ·replace c86 : ¬(ee ≠ 0) := by first | simpa only [vd, reduceCtorEq, ve, updD, eS2, ex0, et, hv3, w9, w10, w11, er23] using c86 | (simp only [vd, reduceCtorEq, ve, updD, eS2, ex0, et, hv3, w9, w10, w11, er23] at c86; grind)
          exfalso; exact c86 c53
       ·replace c52 : ¬(nn > 0) := by first | simpa only [vd, reduceCtorEq, ve, updD, eS2, ex0, et, hv3, w9, w10, w11, er23] using c52 | (simp only [vd, reduceCtorEq, ve, updD, eS2, ex0, et, hv3, w9, w10, w11, er23] at c52; grind)
        refine pop_wp ?_
        refine br_wp (fun c87 => ?_) (fun c87 => ?_)
        ·replace c87 : ee ≠ 0 := by first | simpa only [vd, reduceCtorEq, ve, updD, eS2, ex0, et, hv3, w9, w10, w11, er23] using c87 | (simp only [vd, reduceCtorEq, ve, updD, eS2, ex0, et, hv3, w9, w10, w11, er23] at c87; grind)
         refine need_wp (by first | exact ⟨_, _, _, rfl⟩ | (simp only [vd, reduceCtorEq, ve, updD, eS2, ex0, et, hv3, w9, w10, w11, er23]; exact ⟨_, _, _, rfl⟩)) ?_
         refine ret_wp ?_
         refine ⟨((⟨0, (⟨#[]⟩ : ByteArray), 0, Rw.nil⟩ : Rep), 0, ee), by first | (simp only [vd, reduceCtorEq, ve, updD, eS2, ex0, et, hv3, w9, w10, w11, er23]; done) | (simp only [vd, reduceCtorEq, ve, updD, eS2, ex0, et, hv3, w9, w10, w11, er23]; rfl), ?_⟩
         show _ = dec (ls (ofBytes b.l)) ∧ _
         rw [← hb0]
         exact ⟨(d42l hS hs qn24 (iN c87)).symm, .inl rfl⟩
        ·replace c87 : ¬(ee ≠ 0) := by first | simpa only [vd, reduceCtorEq, ve, updD, eS2, ex0, et, hv3, w9, w10, w11, er23] using c87 | (simp only [vd, reduceCtorEq, ve, updD, eS2, ex0, et, hv3, w9, w10, w11, er23] at c87; grind)
         have qf : lstL k1.toNat (ls r23) = .ok xx.l (ls ss) := by rw [iL (by omega), show nn.toNat = 0 by omega]; simp [lstL, preR, mapR]
         refine need_wp (by first | exact ⟨_, _, _, rfl⟩ | (simp only [vd, reduceCtorEq, ve, updD, eS2, ex0, et, hv3, w9, w10, w11, er23]; exact ⟨_, _, _, rfl⟩)) ?_
         refine need_wp (by first | exact ⟨_, _, _, rfl⟩ | (simp only [vd, reduceCtorEq, ve, updD, eS2, ex0, et, hv3, w9, w10, w11, er23]; exact ⟨_, _, _, rfl⟩)) ?_
         refine ret_wp ?_
         refine ⟨((⟨6, (⟨#[]⟩ : ByteArray), 0, xx⟩ : Rep), (IntKind.i64.wrap ((b.l.length : Int) - (ss.size : Int))), 0), by first | (simp only [vd, reduceCtorEq, ve, updD, eS2, ex0, et, hv3, w9, w10, w11, er23]; done) | (simp only [vd, reduceCtorEq, ve, updD, eS2, ex0, et, hv3, w9, w10, w11, er23]; rfl), ?_⟩
         show _ = dec (ls (ofBytes b.l)) ∧ _
         rw [← hb0]
         exact ⟨dec_leaf (n := b.l.length) (d42k hS hs qn24 qf) hSn (by omega) (by omega), kx⟩
  ·replace c2 : ¬(upt w1 0 1099511627776) := by first | simpa only [vd, reduceCtorEq, ve, updD, eS2, ex0, et] using c2 | (simp only [vd, reduceCtorEq, ve, updD, eS2, ex0, et] at c2; grind)
   have qn86 : numL 0 most (ls t) = .no 9 := nm_9w hcu1 c1 c2
   refine need_wp (by first | exact ⟨_, _, _, rfl⟩ | (simp only [vd, reduceCtorEq, ve, updD, eS2, ex0, et]; exact ⟨_, _, _, rfl⟩)) ?_
   refine ret_wp ?_
   refine ⟨((⟨0, (⟨#[]⟩ : ByteArray), 0, Rw.nil⟩ : Rep), 0, 9), by first | (simp only [vd, reduceCtorEq, ve, updD, eS2, ex0, et]; done) | (simp only [vd, reduceCtorEq, ve, updD, eS2, ex0, et]; rfl), ?_⟩
   show _ = dec (ls (ofBytes b.l)) ∧ _
   rw [← hb0]
   exact ⟨(d42n hS hs qn86).symm, .inl rfl⟩
 ·replace c1 : ¬((w1.size : Int) < (t.size : Int)) := by first | simpa only [vd, reduceCtorEq, ve, updD, eS2, ex0, et] using c1 | (simp only [vd, reduceCtorEq, ve, updD, eS2, ex0, et] at c1; grind)
  refine call_fun ((w1, 0, q)) rfl (by first | (simp only [vd, reduceCtorEq, ve, updD, eS2, ex0, et]; done) | (simp only [vd, reduceCtorEq, ve, updD, eS2, ex0, et]; rfl)) (⟨by dsimp only; omega, hq⟩) ?_
  refine br_wp (fun c88 => ?_) (fun c88 => ?_)
  ·replace c88 : begL (ls w1) 0 := by first | simpa only [vd, reduceCtorEq, ve, updD, eS2, ex0, et] using c88 | (simp only [vd, reduceCtorEq, ve, updD, eS2, ex0, et] at c88; grind)
   refine call_rel ((t, (⟨#[13, 10]⟩ : ByteArray))) rfl (by first | (simp only [vd, reduceCtorEq, ve, updD, eS2, ex0, et]; done) | (simp only [vd, reduceCtorEq, ve, updD, eS2, ex0, et]; rfl)) (⟨by dsimp only; omega, rfl⟩) ?_
   rintro v139 hia139
   try dsimp only at hia139
   refine br_wp (fun c89 => ?_) (fun c89 => ?_)
   ·replace c89 : v139 < 0 := by first | simpa only [vd, reduceCtorEq, ve, updD, eS2, ex0, et] using c89 | (simp only [vd, reduceCtorEq, ve, updD, eS2, ex0, et] at c89; grind)
    have qn87 : numL 0 most (ls t) = .no 8 := nm_8b hcu1 c1 c88
    refine br_wp (fun c90 => ?_) (fun c90 => ?_)
    ·replace c90 : (if upt w1 0 1099511627776 then val (ls w1) else 0) > 0 := by first | simpa only [vd, reduceCtorEq, ve, updD, eS2, ex0, et] using c90 | (simp only [vd, reduceCtorEq, ve, updD, eS2, ex0, et] at c90; grind)
     refine need_wp (by first | exact ⟨_, _, _, rfl⟩ | (simp only [vd, reduceCtorEq, ve, updD, eS2, ex0, et]; exact ⟨_, _, _, rfl⟩)) ?_
     refine ret_wp ?_
     refine ⟨((⟨0, (⟨#[]⟩ : ByteArray), 0, Rw.nil⟩ : Rep), 0, 8), by first | (simp only [vd, reduceCtorEq, ve, updD, eS2, ex0, et]; done) | (simp only [vd, reduceCtorEq, ve, updD, eS2, ex0, et]; rfl), ?_⟩
     show _ = dec (ls (ofBytes b.l)) ∧ _
     rw [← hb0]
     exact ⟨(d42n hS hs qn87).symm, .inl rfl⟩
    ·replace c90 : ¬((if upt w1 0 1099511627776 then val (ls w1) else 0) > 0) := by first | simpa only [vd, reduceCtorEq, ve, updD, eS2, ex0, et] using c90 | (simp only [vd, reduceCtorEq, ve, updD, eS2, ex0, et] at c90; grind)
     refine need_wp (by first | exact ⟨_, _, _, rfl⟩ | (simp only [vd, reduceCtorEq, ve, updD, eS2, ex0, et]; exact ⟨_, _, _, rfl⟩)) ?_
     refine ret_wp ?_
     refine ⟨((⟨0, (⟨#[]⟩ : ByteArray), 0, Rw.nil⟩ : Rep), 0, 8), by first | (simp only [vd, reduceCtorEq, ve, updD, eS2, ex0, et]; done) | (simp only [vd, reduceCtorEq, ve, updD, eS2, ex0, et]; rfl), ?_⟩
     show _ = dec (ls (ofBytes b.l)) ∧ _
     rw [← hb0]
     exact ⟨(d42n hS hs qn87).symm, .inl rfl⟩
   ·replace c89 : ¬(v139 < 0) := by first | simpa only [vd, reduceCtorEq, ve, updD, eS2, ex0, et] using c89 | (simp only [vd, reduceCtorEq, ve, updD, eS2, ex0, et] at c89; grind)
    exfalso; exact nm_dead hcu1 c1 (beg_10 c88) hia139 c89
  ·replace c88 : ¬(begL (ls w1) 0) := by first | simpa only [vd, reduceCtorEq, ve, updD, eS2, ex0, et] using c88 | (simp only [vd, reduceCtorEq, ve, updD, eS2, ex0, et] at c88; grind)
   have qn88 : numL 0 most (ls t) = .no 9 := nm_9b hcu1 c1 c88
   refine need_wp (by first | exact ⟨_, _, _, rfl⟩ | (simp only [vd, reduceCtorEq, ve, updD, eS2, ex0, et]; exact ⟨_, _, _, rfl⟩)) ?_
   refine ret_wp ?_
   refine ⟨((⟨0, (⟨#[]⟩ : ByteArray), 0, Rw.nil⟩ : Rep), 0, 9), by first | (simp only [vd, reduceCtorEq, ve, updD, eS2, ex0, et]; done) | (simp only [vd, reduceCtorEq, ve, updD, eS2, ex0, et]; rfl), ?_⟩
   show _ = dec (ls (ofBytes b.l)) ∧ _
   rw [← hb0]
   exact ⟨(d42n hS hs qn88).symm, .inl rfl⟩
end Go.Proofs.YtbcbjgomnhajdaaDoorK
end

section
set_option linter.unusedSimpArgs false
set_option linter.unusedVariables false
set_option linter.unnecessarySimpa false
namespace Go.Proofs.YtbcbjgomnhajdaaDoorK
open Go Go.Proofs.YtbcbjgomnhajdaaDoorV Go.Proofs Go.Proofs.YtbcbjgomnhajdaaDoorK Go.Proofs.YtbcbjgomnhajdaaDoorK
def kDec (sg : Sig) : Sig × Con := (sg, mkRel (fun x : Rw Int × Gh => ([Rw.atom eB x.1, Rw.atom eF x.2.a, Rw.atom eF x.2.b] : List Atom)) (fun x => x.1.ok 1 ∧ isB x.1.l ∧ x.1.l.length ≤ 100000 ∧ pG x.2) (fun x : Rep × Int × Int => ([aI x.1.k, aS x.1.t, aI x.1.n, Rw.atom eS x.1.l, aI x.2.1, aI x.2.2] : List Atom)) rel8)
set_option maxHeartbeats 4000000 in
theorem h8 : holds Tryd.prog (kDec sg8) := by
 refine fn_holdsH (l := [kCo sg38, kIA sg47, kCut sg48, kUpto sg49, kBegins sg50, kNumeric sg51, kHP sg52]) ⟨h38, h47, h48, h49, h50, h51, h52, trivial⟩ (inl := [in8_19, in8_20, in8_29, in8_31, in8_32, in8_34, in8_36, in8_30, in8_33, in8_35, in8_37]) (by refine ⟨⟨Tryd.func19, by kernel_rfl, by kernel_rfl, by kernel_rfl⟩, ⟨Tryd.func20, by kernel_rfl, by kernel_rfl, by kernel_rfl⟩, ⟨Tryd.func29, by kernel_rfl, by kernel_rfl, by kernel_rfl⟩, ⟨Tryd.func31, by kernel_rfl, by kernel_rfl, by kernel_rfl⟩, ⟨Tryd.func32, by kernel_rfl, by kernel_rfl, by kernel_rfl⟩, ⟨Tryd.func34, by kernel_rfl, by kernel_rfl, by kernel_rfl⟩, ⟨Tryd.func36, by kernel_rfl, by kernel_rfl, by kernel_rfl⟩, ⟨Tryd.func30, by kernel_rfl, by kernel_rfl, by kernel_rfl⟩, ⟨Tryd.func33, by kernel_rfl, by kernel_rfl, by kernel_rfl⟩, ⟨Tryd.func35, by kernel_rfl, by kernel_rfl, by kernel_rfl⟩, ⟨Tryd.func37, by kernel_rfl, by kernel_rfl, by kernel_rfl⟩, trivial⟩) hP gh8 rs8 (inj_of (fun l : List Atom => ((Rw.un unI (l.getD 0 atom0), (⟨Rw.un unF (l.getD 1 atom0), Rw.un unF (l.getD 2 atom0)⟩ : Gh)) : Rw Int × Gh)) (fun _ => by simp [List.getD_cons_zero, List.getD_cons_succ, unA_atom, unF_at])) Tryd.func8 (by kernel_rfl) (c := code Tryd.f8) (by kernel_rfl) (an := an8) (by kernel_rfl) (pk := pk8g) rfl (t := t8) ht8 ?_
 rintro ⟨b, q⟩ hnil ⟨kb, hB, hl, hq⟩
 refine ⟨by simp [pk8g, pk8, KindsOk, RK.ok, Rw.atom, Sl.atom], ?_⟩
 unfold t8
 dsimp only at kb hB hl hq
 obtain ⟨s0, hb0⟩ : ∃ S, S = ofBytes b.l := ⟨_, rfl⟩
 have eS2 : ofBytes b.l = s0 := hb0.symm
 have hSn : s0.size = b.l.length := by rw [hb0, ← bi_len, bi_ofBytes hB]
 refine need_wp (by first | exact ⟨_, _, _, rfl⟩ | (simp only [vd, reduceCtorEq, ve, updD, eS2]; exact ⟨_, _, _, rfl⟩)) ?_
 refine need_wp (by simp only [vd, reduceCtorEq, ve, updD, eS2]; exact need_bytes (by assumption) (by assumption)) ?_
 refine br_wp (fun c1 => ?_) (fun c1 => ?_)
 ·replace c1 : s0 = (⟨#[]⟩ : ByteArray) := by first | simpa only [vd, reduceCtorEq, ve, updD, eS2] using c1 | (simp only [vd, reduceCtorEq, ve, updD, eS2] at c1; grind)
  refine need_wp (by first | exact ⟨_, _, _, rfl⟩ | (simp only [vd, reduceCtorEq, ve, updD, eS2]; exact ⟨_, _, _, rfl⟩)) ?_
  refine ret_wp ?_
  refine ⟨((⟨0, (⟨#[]⟩ : ByteArray), 0, Rw.nil⟩ : Rep), 0, 8), by first | (simp only [vd, reduceCtorEq, ve, updD, eS2]; done) | (simp only [vd, reduceCtorEq, ve, updD, eS2]; rfl), ?_⟩
  show _ = dec (ls (ofBytes b.l)) ∧ _
  rw [← hb0]
  exact ⟨(dec_em c1).symm, .inl rfl⟩
 ·replace c1 : ¬(s0 = (⟨#[]⟩ : ByteArray)) := by first | simpa only [vd, reduceCtorEq, ve, updD, eS2] using c1 | (simp only [vd, reduceCtorEq, ve, updD, eS2] at c1; grind)
  obtain ⟨cc0, hS, hc0, hx0, hz0⟩ := cons_of c1
  have ex0 : s0.extract (0 : Int).toNat (1 : Int).toNat = (⟨#[cc0]⟩ : ByteArray) := hx0
  obtain ⟨t, ht⟩ : ∃ z, z = s0.extract (1 : Int).toNat s0.size := ⟨_, rfl⟩
  have zt : (t.size : Int) = s0.size - (1) := by rw [ht]; exact ext_size (by omega) (by omega)
  have et : s0.extract (1 : Int).toNat (s0.size : Int).toNat = t := ht.symm
  replace hS : ls s0 = cc0 :: ls t := by rw [ht]; exact hS
  refine need_wp (by simp only [vd, reduceCtorEq, ve, updD, eS2, ex0, et, List.length_cons, List.length_nil, List.length_append, List.length_set]; first | omega | (grind)) ?_
  refine call_rel (((⟨#[43, 45, 58, 36, 42]⟩ : ByteArray), (⟨#[cc0]⟩ : ByteArray))) rfl (by first | (simp only [vd, reduceCtorEq, ve, updD, eS2, ex0, et]; done) | (simp only [vd, reduceCtorEq, ve, updD, eS2, ex0, et]; rfl)) rfl ?_
  rintro b1 hco1
  try dsimp only at hco1
  have hin1 := hco1 cc0 rfl
  refine br_wp (fun c2 => ?_) (fun c2 => ?_)
  ·replace c2 : b1 = true := by first | simpa only [vd, reduceCtorEq, ve, updD, eS2, ex0, et] using c2 | (simp only [vd, reduceCtorEq, ve, updD, eS2, ex0, et] at c2; grind)
   have hb1 := c2
   refine need_wp (by simp only [vd, reduceCtorEq, ve, updD, eS2, ex0, et, List.length_cons, List.length_nil, List.length_append, List.length_set]; first | omega | (grind)) ?_
   refine need_wp (by simp only [vd, reduceCtorEq, ve, updD, eS2, ex0, et, List.length_cons, List.length_nil, List.length_append, List.length_set]; first | omega | (grind)) ?_
   refine br_wp (fun c3 => ?_) (fun c3 => ?_)
   ·replace c3 : (byteAt s0 0) = 43 := by first | simpa only [vd, reduceCtorEq, ve, updD, eS2, ex0, et] using c3 | (simp only [vd, reduceCtorEq, ve, updD, eS2, ex0, et] at c3; grind)
    have hs : cc0 = 43 := c_lit (d := 43) (c_of hc0 c3)
    exact h8_43 kb hq hl hb0 hSn hS hx0 hz0 ht zt hs
   ·replace c3 : ¬((byteAt s0 0) = 43) := by first | simpa only [vd, reduceCtorEq, ve, updD, eS2, ex0, et] using c3 | (simp only [vd, reduceCtorEq, ve, updD, eS2, ex0, et] at c3; grind)
    refine br_wp (fun c11 => ?_) (fun c11 => ?_)
    ·replace c11 : (byteAt s0 0) = 45 := by first | simpa only [vd, reduceCtorEq, ve, updD, eS2, ex0, et] using c11 | (simp only [vd, reduceCtorEq, ve, updD, eS2, ex0, et] at c11; grind)
     have hs : cc0 = 45 := c_lit (d := 45) (c_of hc0 c11)
     exact h8_45 kb hq hl hb0 hSn hS hx0 hz0 ht zt hs
    ·replace c11 : ¬((byteAt s0 0) = 45) := by first | simpa only [vd, reduceCtorEq, ve, updD, eS2, ex0, et] using c11 | (simp only [vd, reduceCtorEq, ve, updD, eS2, ex0, et] at c11; grind)
     refine br_wp (fun c19 => ?_) (fun c19 => ?_)
     ·replace c19 : (byteAt s0 0) = 58 := by first | simpa only [vd, reduceCtorEq, ve, updD, eS2, ex0, et] using c19 | (simp only [vd, reduceCtorEq, ve, updD, eS2, ex0, et] at c19; grind)
      have hs : cc0 = 58 := c_lit (d := 58) (c_of hc0 c19)
      exact h8_58 kb hq hl hb0 hSn hS hx0 hz0 ht zt hs
     ·replace c19 : ¬((byteAt s0 0) = 58) := by first | simpa only [vd, reduceCtorEq, ve, updD, eS2, ex0, et] using c19 | (simp only [vd, reduceCtorEq, ve, updD, eS2, ex0, et] at c19; grind)
      refine br_wp (fun c37 => ?_) (fun c37 => ?_)
      ·replace c37 : (byteAt s0 0) = 36 := by first | simpa only [vd, reduceCtorEq, ve, updD, eS2, ex0, et] using c37 | (simp only [vd, reduceCtorEq, ve, updD, eS2, ex0, et] at c37; grind)
       have hs : cc0 = 36 := c_lit (d := 36) (c_of hc0 c37)
       exact h8_36 kb hq hl hb0 hSn hS hx0 hz0 ht zt hs
      ·replace c37 : ¬((byteAt s0 0) = 36) := by first | simpa only [vd, reduceCtorEq, ve, updD, eS2, ex0, et] using c37 | (simp only [vd, reduceCtorEq, ve, updD, eS2, ex0, et] at c37; grind)
       refine br_wp (fun c83 => ?_) (fun c83 => ?_)
       ·replace c83 : (byteAt s0 0) = 42 := by first | simpa only [vd, reduceCtorEq, ve, updD, eS2, ex0, et] using c83 | (simp only [vd, reduceCtorEq, ve, updD, eS2, ex0, et] at c83; grind)
        have hs : cc0 = 42 := c_lit (d := 42) (c_of hc0 c83)
        exact h8_42 kb hq hl hb0 hSn hS hx0 hz0 ht zt hs
       ·replace c83 : ¬((byteAt s0 0) = 42) := by first | simpa only [vd, reduceCtorEq, ve, updD, eS2, ex0, et] using c83 | (simp only [vd, reduceCtorEq, ve, updD, eS2, ex0, et] at c83; grind)
        exact bad_of hin1 hb1 hc0 c3 c11 c19 c37 c83
  ·replace c2 : ¬(b1 = true) := by first | simpa only [vd, reduceCtorEq, ve, updD, eS2, ex0, et] using c2 | (simp only [vd, reduceCtorEq, ve, updD, eS2, ex0, et] at c2; grind)
   obtain ⟨o1, o2, o3, o4, o5⟩ := out_of hin1 c2
   refine need_wp (by first | exact ⟨_, _, _, rfl⟩ | (simp only [vd, reduceCtorEq, ve, updD, eS2, ex0, et]; exact ⟨_, _, _, rfl⟩)) ?_
   refine ret_wp ?_
   refine ⟨((⟨0, (⟨#[]⟩ : ByteArray), 0, Rw.nil⟩ : Rep), 0, 9), by first | (simp only [vd, reduceCtorEq, ve, updD, eS2, ex0, et]; done) | (simp only [vd, reduceCtorEq, ve, updD, eS2, ex0, et]; rfl), ?_⟩
   show _ = dec (ls (ofBytes b.l)) ∧ _
   rw [← hb0]
   exact ⟨(dec_out hS o1 o2 o3 o4 o5).symm, .inl rfl⟩
end Go.Proofs.YtbcbjgomnhajdaaDoorK
end

section
set_option linter.unusedSimpArgs false
set_option linter.unusedVariables false
set_option linter.unnecessarySimpa false
namespace Go.Proofs.YtbcbjgomnhajdaaDoorK
open Go Go.Proofs.YtbcbjgomnhajdaaDoorV Go.Proofs Go.Proofs.YtbcbjgomnhajdaaDoorK Go.Proofs.YtbcbjgomnhajdaaDoorK
def kAll (sg : Sig) : Sig × Con := (sg, mkRel (fun x : Rw Int × Gh => ([Rw.atom eB x.1, Rw.atom eF x.2.a, Rw.atom eF x.2.b] : List Atom)) (fun x => (x.1.ok 1 ∧ isB x.1.l ∧ x.1.l.length ≤ 100000) ∧ pG x.2) (fun x : Rw Rep × Int => ([Rw.atom eP x.1, aI x.2] : List Atom)) (fun x y => (y.1.l.map Rep.v, y.2) = all (ls (ofBytes x.1.l)) ∧ y.1.ok 4 ∧ ∀ z ∈ y.1.l, z.l.ok 1 ∧ in64 z.n))
set_option maxHeartbeats 1000000 in
theorem h16 : holds Tryd.prog (kAll sg16) := by
 refine fn_holdsH (inl := []) (l := [kDec sg8]) ⟨h8, trivial⟩ trivial hP gh16 rs16 (inj_of (fun l : List Atom => ((Rw.un unI (l.getD 0 atom0), (⟨Rw.un unF (l.getD 1 atom0), Rw.un unF (l.getD 2 atom0)⟩ : Gh)) : Rw Int × Gh)) (fun _ => by simp [List.getD_cons_zero, List.getD_cons_succ, unA_atom, unF_at])) Tryd.func16 (by kernel_rfl) (c := code Tryd.f16) (by kernel_rfl) (an := an16) (by kernel_rfl) (pk := pk16g) rfl (t := t16) (by kernel_rfl) ?_
 rintro ⟨b, q⟩ hnil ⟨⟨kb, hB, hl⟩, hq⟩
 refine ⟨by simp [pk16g, pk16, KindsOk, RK.ok, Rw.atom, Sl.atom], ?_⟩
 unfold t16
 dsimp only at kb hB hl hq
 refine need_wp (by first | exact ⟨_, _, _, rfl⟩ | (simp only [vd, reduceCtorEq, ve, updD]; exact ⟨_, _, _, rfl⟩)) ?_
 refine need_wp (by first | exact ⟨_, _, _, rfl⟩ | (simp only [vd, reduceCtorEq, ve, updD]; exact ⟨_, _, _, rfl⟩)) ?_
 refine loop_wp (fun bs0 => ∃ (c : Rw Int) (x : Rw Rep), bs0 = [Rw.atom eB c, Rw.atom eP x] ∧ (c.ok 1 ∧ isB c.l ∧ (x.l.length : Int) + c.l.length ≤ b.l.length ∧ x.ok 4 ∧ (∀ z ∈ x.l, z.l.ok 1 ∧ in64 z.n) ∧ all (ls (ofBytes b.l)) = comb (x.l.map Rep.v) (all (ls (ofBytes c.l))))) (fun bs0 => vn (bs0.getD 0 atom0).1) ?_ ?_
 ·refine ⟨b, Rw.nil, by first | (simp only [vd, reduceCtorEq, ve, updD]; done) | (simp only [vd, reduceCtorEq, ve, updD]; rfl) | simp only [vd, reduceCtorEq, ve, updD, Rw.atom, Rw.nil, List.length_nil, List.map_nil], ?_⟩
  exact ⟨kb, hB, by simp [Rw.nil], .inl rfl, (fun z hz => by cases hz), (comb_nil _).symm⟩
 rintro _ _ ⟨c, x, rfl, ⟨kc, hC, hn, kx, hx, hA⟩⟩
 refine need_wp (by first | exact ⟨_, _, _, rfl⟩ | (simp only [vd, reduceCtorEq, ve, updD]; exact ⟨_, _, _, rfl⟩)) ?_
 refine br_wp (fun c1 => ?_) (fun c1 => ?_)
 ·replace c1 : (c.l.length : Int) > 0 := by first | simpa only [vd, reduceCtorEq, ve, updD] using c1 | (simp only [vd, reduceCtorEq, ve, updD] at c1; grind)
  refine call_rel ((c, q)) rfl (by first | (simp only [vd, reduceCtorEq, ve, updD]; done) | (simp only [vd, reduceCtorEq, ve, updD]; rfl)) (⟨kc, hC, by dsimp only; omega, hq⟩) ?_
  rintro ⟨y1, n1, e1⟩ ⟨ed1, od1⟩
  try dsimp only at ed1 od1
  obtain ⟨E1, D1⟩ := dec_pk2 hC ed1
  refine br_wp (fun c2 => ?_) (fun c2 => ?_)
  ·replace c2 : e1 ≠ 0 := by first | simpa only [vd, reduceCtorEq, ve, updD] using c2 | (simp only [vd, reduceCtorEq, ve, updD] at c2; grind)
   refine pop_wp ?_
   refine need_wp (by first | exact ⟨_, _, _, rfl⟩ | (simp only [vd, reduceCtorEq, ve, updD]; exact ⟨_, _, _, rfl⟩)) ?_
   refine ret_wp ?_
   refine ⟨(Rw.nil, e1), by first | (simp only [vd, reduceCtorEq, ve, updD]; done) | (simp only [vd, reduceCtorEq, ve, updD]; rfl), ?_⟩
   try dsimp only
   exact ⟨by rw [hA, all_no (ne_nil_of hC (by omega)) (E1 c2), comb_err c2]; rfl, .inl rfl, fun z hz => by cases hz⟩
  ·replace c2 : ¬(e1 ≠ 0) := by first | simpa only [vd, reduceCtorEq, ve, updD] using c2 | (simp only [vd, reduceCtorEq, ve, updD] at c2; grind)
   have z1 : e1 = 0 := Decidable.not_not.1 c2
   obtain ⟨p1, p2, p3, p4⟩ := D1 z1
   have hsl := sub_len (r := c) (z := 1) (i := n1) (by omega) p2
   have hs1 := sub_rw (e := eB) (r := c) (z := 1) (i := n1) (j := (c.l.length : Int)) kc (by omega) p2 (by omega)
   refine need_wp (by first | exact ⟨_, _, _, rfl⟩ | (simp only [vd, reduceCtorEq, ve, updD, hs1]; exact ⟨_, _, _, rfl⟩)) ?_
   refine need_wp (by first | exact rw_szz (by assumption) | exact rw_szz (.inr rfl)) ?_
   refine need_wp (by simp only [vd, reduceCtorEq, ve, updD, hs1, List.length_cons, List.length_nil, List.length_append, List.length_set]; first | omega | (grind)) ?_
   refine need_wp (by simp only [vd, reduceCtorEq, ve, updD, hs1, List.length_cons, List.length_nil, List.length_append, List.length_set]; first | omega | (grind)) ?_
   refine need_wp (by simp only [vd, reduceCtorEq, ve, updD, hs1, List.length_cons, List.length_nil, List.length_append, List.length_set]; first | omega | (grind)) ?_
   refine new_wp eP [y1] (by first | (simp only [vd, reduceCtorEq, ve, updD, hs1, eP]; done) | rfl) ?_
   intro a2 b2
   generalize hx2 : (⟨a2, b2, 4, [y1]⟩ : Rw Rep) = x2
   have lx2 : x2.l = [y1] := by first | (rw [← hx2]; done) | (rw [← hx2]; rfl)
   have zx2 : x2.z = 4 := by rw [← hx2]
   have kx2 : Rw.ok 4 x2 := .inr zx2
   have nx2 : (x2.l.length : Int) = 1 := by first | (rw [← hx2]; done) | (rw [← hx2]; simp [Rw.nil])
   refine need_wp (by first | exact ⟨_, _, _, rfl⟩ | (simp only [vd, reduceCtorEq, ve, updD, hs1]; exact ⟨_, _, _, rfl⟩)) ?_
   refine need_wp (by first | exact rw_szz (by assumption) | exact rw_szz (.inr rfl)) ?_
   refine need_wp (by simp only [vd, reduceCtorEq, ve, updD, hs1, List.length_cons, List.length_nil, List.length_append, List.length_set]; first | omega | (grind)) ?_
   refine need_wp (by simp only [vd, reduceCtorEq, ve, updD, hs1, List.length_cons, List.length_nil, List.length_append, List.length_set]; first | omega | (grind)) ?_
   refine app_wp eP x x2 (by first | rfl | simp only [vd, reduceCtorEq, ve, updD, hs1]) (by first | rfl | simp only [vd, reduceCtorEq, ve, updD, hs1]) ?_
   intro a3 b3
   generalize hx3 : (⟨a3, b3, 4, x.l ++ x2.l⟩ : Rw Rep) = x3
   have lx3 : x3.l = x.l ++ x2.l := by first | (rw [← hx3]; done) | (rw [← hx3]; rfl)
   have zx3 : x3.z = 4 := by rw [← hx3]
   have kx3 : Rw.ok 4 x3 := .inr zx3
   have nx3 : (x3.l.length : Int) = (x.l.length : Int) + (x2.l.length : Int) := by first | (rw [← hx3]; done) | (rw [← hx3]; simp [Rw.nil])
   refine need_wp (by first | exact ⟨_, _, _, rfl⟩ | (simp only [vd, reduceCtorEq, ve, updD, hs1]; exact ⟨_, _, _, rfl⟩)) ?_
   refine need_wp (by first | exact ⟨_, _, _, rfl⟩ | (simp only [vd, reduceCtorEq, ve, updD, hs1]; exact ⟨_, _, _, rfl⟩)) ?_
   refine again_wp rfl ⟨(c.sub 1 n1 (c.l.length : Int)), x3, by simp only [vd, reduceCtorEq, ve, updD, hs1], ?_⟩ ?_
   ·exact ⟨ok_rsub kc _ _, isB_rsub hC _ _, by rw [lx3, lx2, List.length_append, List.length_singleton]; omega, kx3, by rw [lx3, lx2]; intro z hz; rcases List.mem_append.1 hz with h | h; exact hx z h; obtain rfl := List.mem_singleton.1 h; exact ⟨od1, p4⟩, by rw [hA, all_ok p3, comb_comb, lx3, lx2, List.map_append]; rfl⟩
   ·(try simp only [vd, reduceCtorEq, ve, updD, hs1]); omega
 ·replace c1 : ¬((c.l.length : Int) > 0) := by first | simpa only [vd, reduceCtorEq, ve, updD] using c1 | (simp only [vd, reduceCtorEq, ve, updD] at c1; grind)
  refine pop_wp ?_
  refine need_wp (by first | exact ⟨_, _, _, rfl⟩ | (simp only [vd, reduceCtorEq, ve, updD]; exact ⟨_, _, _, rfl⟩)) ?_
  refine ret_wp ?_
  refine ⟨(x, 0), by first | (simp only [vd, reduceCtorEq, ve, updD]; done) | (simp only [vd, reduceCtorEq, ve, updD]; rfl), ?_⟩
  try dsimp only
  exact ⟨by rw [hA, show c.l = [] from List.eq_nil_of_length_eq_zero (by omega)]; exact (comb_end _).symm, kx, hx⟩
end Go.Proofs.YtbcbjgomnhajdaaDoorK
end
