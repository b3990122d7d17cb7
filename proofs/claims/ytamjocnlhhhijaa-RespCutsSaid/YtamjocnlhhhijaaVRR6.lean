import Derived.Test.YtamjocnlhhhijaaVRRg
import Derived.Test.YtamjocnlhhhijaaVRRF
import Derived.Test.YtamjocnlhhhijaaVRR6h
set_option linter.unusedSimpArgs false
set_option linter.unusedVariables false
set_option linter.unnecessarySimpa false
namespace Go.Proofs.YtamjocnlhhhijaaK
open Go Go.Proofs.YtamjocnlhhhijaaV Go.Proofs Go.Proofs.YtamjocnlhhhijaaK Go.Proofs.YtamjocnlhhhijaaK Go.Proofs.YtamjocnlhhhijaaS
def kLaw6 (sg : Sig) : Sig × Con := (sg, mkFun (fun x : Rw Int × Rw Int => ([Rw.atom eB x.1, Rw.atom eB x.2] : List Atom)) (fun x => (x.1.ok 1 ∧ isB x.1.l) ∧ x.2.ok 1 ∧ isB x.2.l) (fun _ => [aB true]))
set_option maxHeartbeats 1000000 in
theorem t6_2_wp {b : Rw Int} {x all : Rw (Rw ByteArray)} {nn e : Int} (w : wholeP b x nn e) (kb : b.ok 1) (hBb : isB b.l) (hbl : b.l.length ≤ 1500) {out : Rw (Rw ByteArray)} (kall : all.ok 1) (kout : out.ok 1) (hla : all.l.length ≤ 3000) (hlo : out.l.length ≤ 3000) (hF : ∀ all2 : Rw (Rw ByteArray), all2.l = all.l ++ out.l → all2.ok 1 → OI (bS b.l) all2 b.l.length atom0 true 0 0 false atom0 0 Rw.nil) (y1 y5 y6 y7 y9 y10 y11 y12 y13 y14 y15 y16 y17 y18 y19 y20 y21 y22 y23 y24 y25 : Atom) (L : List (List Atom → Prop)) :
  t6_2.wp (tab [kKnown sg10, kWhole sg20, kSameR sg15]) (fun outs => outs = [aB true]) [Rw.atom eB b, y1, Rw.atom eL x, aI nn, aI e, y5, y6, y7, Rw.atom eL all, y9, y10, y11, y12, y13, y14, y15, y16, y17, y18, y19, y20, y21, y22, y23, y24, y25, Rw.atom eL out] L := by
 unfold t6_2
 refine pop_wp ?_
 refine need_wp (rw_row _ _) ?_
 refine need_wp (⟨_, _, _, rfl⟩) ?_
 refine need_wp (by first | exact rw_szz (by assumption) | exact rw_szz (.inr rfl)) ?_
 refine need_wp (by simp only [vx, reduceCtorEq, vlen]; first | omega | (grind)) ?_
 refine need_wp (by simp only [vx, reduceCtorEq, vlen]; first | omega | (grind)) ?_
 refine app_wp eL all out (by first | rfl | simp only [vx, reduceCtorEq]) (by first | rfl | simp only [vx, reduceCtorEq]) ?_
 intro a1 b1
 generalize hx1 : (⟨a1, b1, 1, all.l ++ out.l⟩ : Rw (Rw ByteArray)) = x1
 have lx1 : x1.l = all.l ++ out.l := by first | (rw [← hx1]; done) | (rw [← hx1]; rfl)
 have zx1 : x1.z = 1 := by rw [← hx1]
 have kx1 : Rw.ok 1 x1 := .inr zx1
 have nx1 : (x1.l.length : Int) = (all.l.length : Int) + (out.l.length : Int) := by first | (rw [← hx1]; done) | (rw [← hx1]; simp [Rw.nil])
 have hO2 := hF x1 lx1 kx1
 have hF := fin6 w hBb (by omega) hO2 (Nat.le_refl _)
 obtain ⟨hv, he, hlf, hle, hlz⟩ := hF
 simp only [if_true] at he
 refine call_fun ((x1, x)) rfl (by first | (simp only [vx, reduceCtorEq]; done) | (simp only [vx, reduceCtorEq]; rfl)) (⟨hO2.ok, w.ok, by dsimp only; omega, by intro z hz; have := hlz z hz; omega⟩) ?_
 refine brP (vv x1 = vv x) (by first | (simp only [vx, reduceCtorEq]; done) | (simp only [vx, reduceCtorEq]; grind)) (fun c1 => ?_) (fun c1 => ?_)
 ·refine brP (e = 7) (by first | (simp only [vx, reduceCtorEq]; done) | (simp only [vx, reduceCtorEq]; grind)) (fun c2 => ?_) (fun c2 => ?_)
  ·refine brP (e ≠ 0) (by first | (simp only [vx, reduceCtorEq]; done) | (simp only [vx, reduceCtorEq]; grind)) (fun c3 => ?_) (fun c3 => ?_)
   ·refine brP (true = (decide (e = 7))) (by first | (simp only [vx, reduceCtorEq]; done) | (simp only [vx, reduceCtorEq]; grind)) (fun c4 => ?_) (fun c4 => ?_)
    ·refine call_fun (()) rfl (by first | (simp only [vx, reduceCtorEq]; done) | (simp only [vx, reduceCtorEq]; rfl)) trivial ?_
     refine ret_wp ?_
     try dsimp only
     first | (simp only [vx, reduceCtorEq]; done) | (exfalso; omega)
    ·exfalso; exact c4 (by rw [he]; simp)
   ·exfalso; omega
  ·exfalso; omega
 ·exfalso; exact c1 hv
set_option maxHeartbeats 4000000 in
theorem t6_1_wp {b : Rw Int} {x all : Rw (Rw ByteArray)} {nn e : Int} (w : wholeP b x nn e) (kb : b.ok 1) (hBb : isB b.l) (hbl : b.l.length ≤ 1500) {pt lf n1 mn1 : Int} {nw ag1 : Atom} {wr sm1 : Bool} {ar1 : Rw Int} (hp0 : 0 ≤ pt) (hp1 : pt ≤ (b.l.length : Int)) (hO : OI (bS b.l) all pt.toNat nw wr lf n1 sm1 ag1 mn1 ar1) (kag1 : ∃ a n c, ag1.1 = Value.slice a n c) (y1 y5 y6 : Atom) (L : List (List Atom → Prop)) :
  t6_1.wp (tab [kKnown sg10, kWhole sg20, kSameR sg15]) (fun outs => outs = [aB true]) [Rw.atom eB b, y1, Rw.atom eL x, aI nn, aI e, y5, y6, aI pt, Rw.atom eL all, nw, aB wr, aI lf, aI n1, aB sm1, ag1, aI mn1, Rw.atom eB ar1] L := by
 unfold t6_1 t6_1u1 t6_1u2 t6_1u3 t6_1u4 t6_1u5
 have hOl := hO.len
 have kall : all.ok 1 := hO.ok.1
 refine pop_wp ?_
 refine need_wp (⟨_, _, _, rfl⟩) ?_
 refine need_wp (by first | exact rw_szz (by assumption) | exact rw_szz (.inr rfl)) ?_
 refine need_wp (by simp only [vx, reduceCtorEq, vlen]; first | omega | (grind)) ?_
 refine need_wp (by simp only [vx, reduceCtorEq, vlen]; first | omega | (grind)) ?_
 refine need_wp (by simp only [vx, reduceCtorEq, vlen]; first | omega | (grind)) ?_
 refine brP (wr = true) (by first | (simp only [vx, reduceCtorEq]; done) | (simp only [vx, reduceCtorEq]; grind)) (fun c1 => ?_) (fun c1 => ?_)
 ·refine need_wp (rw_row _ _) ?_
  refine need_wp (⟨_, _, _, rfl⟩) ?_
  refine need_wp (by exact ⟨0, [], rfl, .inl rfl⟩) ?_
  refine need_wp (by simp only [vx, reduceCtorEq, vlen]; first | omega | (grind)) ?_
  refine need_wp (by simp only [vx, reduceCtorEq, vlen]; first | omega | (grind)) ?_
  refine app_wp eL all (Rw.nil : Rw (Rw ByteArray)) (by first | rfl | simp only [vx, reduceCtorEq]) (by first | rfl | simp only [vx, reduceCtorEq]) ?_
  intro a1 b1
  generalize hx1 : (⟨a1, b1, 1, all.l ++ (Rw.nil : Rw (Rw ByteArray)).l⟩ : Rw (Rw ByteArray)) = x1
  have lx1 : x1.l = all.l := by first | (rw [← hx1]; done) | (rw [← hx1]; rfl) | (rw [← hx1]; simp [Rw.nil])
  have zx1 : x1.z = 1 := by rw [← hx1]
  have kx1 : Rw.ok 1 x1 := .inr zx1
  have nx1 : (x1.l.length : Int) = (all.l.length : Int) + 0 := by first | (rw [← hx1]; done) | (rw [← hx1]; simp [Rw.nil])
  have hO2 := hO.skip c1 (k' := b.l.length) (by omega) (by rw [bS_len]; exact Nat.le_refl _) (all' := x1) (by rw [lx1, List.append_nil]) kx1
  have hF := fin6 w hBb (by omega) hO2 (Nat.le_refl _)
  obtain ⟨hv, he, hlf, hle, hlz⟩ := hF
  rw [if_pos c1] at he
  refine call_fun ((x1, x)) rfl (by first | (simp only [vx, reduceCtorEq]; done) | (simp only [vx, reduceCtorEq]; rfl)) (⟨hO2.ok, w.ok, by dsimp only; omega, by intro z hz; have := hlz z hz; omega⟩) ?_
  refine brP (vv x1 = vv x) (by first | (simp only [vx, reduceCtorEq]; done) | (simp only [vx, reduceCtorEq]; grind)) (fun c2 => ?_) (fun c2 => ?_)
  ·refine brP (e = 7) (by first | (simp only [vx, reduceCtorEq]; done) | (simp only [vx, reduceCtorEq]; grind)) (fun c3 => ?_) (fun c3 => ?_)
   ·refine brP (e ≠ 0) (by first | (simp only [vx, reduceCtorEq]; done) | (simp only [vx, reduceCtorEq]; grind)) (fun c4 => ?_) (fun c4 => ?_)
    ·refine brP (wr = (decide (e = 7))) (by first | (simp only [vx, reduceCtorEq]; done) | (simp only [vx, reduceCtorEq]; grind)) (fun c5 => ?_) (fun c5 => ?_)
     ·refine call_fun (()) rfl (by first | (simp only [vx, reduceCtorEq]; done) | (simp only [vx, reduceCtorEq]; rfl)) trivial ?_
      refine ret_wp ?_
      try dsimp only
      first | (simp only [vx, reduceCtorEq]; done) | (exfalso; omega)
     ·exfalso; exact c5 (by rw [he]; simp [c1])
    ·exfalso; omega
   ·exfalso; omega
  ·exfalso; exact c2 hv
 ·refine clo_wp ?_
  intro y1 o1 q1
  refine need_wp (by first | exact ⟨_, _, _, rfl⟩ | (simp only [vx, reduceCtorEq]; exact ⟨_, _, _, rfl⟩)) ?_
  refine need_wp (by exact kag1) ?_
  refine need_wp (⟨_, _, _, rfl⟩) ?_
  refine need_wp (⟨_, _, _, rfl⟩) ?_
  obtain ⟨m0, hR0⟩ := hO.m (by assumption)
  obtain ⟨k0, hk0⟩ : ∃ k0, k0 = pt.toNat := ⟨_, rfl⟩
  obtain ⟨AV, hAV⟩ : ∃ AV, AV = (vv all).map (List.map ls) := ⟨_, rfl⟩
  rw [← hk0, ← hAV] at hR0
  obtain ⟨p, hp⟩ : ∃ p, p = b.sub 1 pt (b.l.length : Int) := ⟨_, rfl⟩
  have hpl : p.l = (b.sub 1 pt (b.l.length : Int)).l := by rw [hp]
  have kp : p.ok 1 := by rw [hp]; exact ok_sub kb _ _
  have hB : isB p.l := by rw [hp]; exact isB_sub hBb _ _ _
  have hs := sub_rw (e := eB) (r := b) (z := 1) (i := pt) (j := (b.l.length : Int)) kb (by omega) (by omega) (by omega)
  rw [← hp] at hs
  have hpn : (p.l.length : Int) = (b.l.length : Int) - pt := by rw [hpl]; exact sub_len b (by omega) (by omega) (by omega)
  have hpB : ∀ i : Int, 0 ≤ i → i < p.l.length → (bS b.l)[k0 + i.toNat]? = some (UInt8.ofNat (p.get i).toNat) := fun i i0 i1 => by rw [hk0]; exact piece_get hpl (by omega) (by omega) (by omega) i0 i1
  refine loop_wp (fun bs0 => ∃ (i : Int) (now : Atom) (left : Int) (n : Int) (sm : Bool) (args : Atom) (many : Int) (arg : Rw Int) (out : Rw (Rw ByteArray)), bs0 = [aI i, now, aI left, aI n, aB sm, args, aI many, Rw.atom eB arg, Rw.atom eL out] ∧ (0 ≤ i ∧ i ≤ (p.l.length : Int) ∧ ∃ m : Mc, RG AV (bS b.l) (k0 + i.toNat) now left n sm args many arg out m)) (fun bs0 => ((p.l.length : Int) - vi (bs0.getD 0 atom0).1).toNat) ?_ ?_
  ·refine ⟨0, nw, lf, n1, sm1, ag1, mn1, ar1, (Rw.nil : Rw (Rw ByteArray)), by first | (simp only [vx, reduceCtorEq, hs]; done) | (simp only [vx, reduceCtorEq, hs]; rfl) | (simp only [vx, reduceCtorEq, hs, Rw.atom, Rw.nil, List.length_nil, List.map_nil]; done) | (simp only [vx, reduceCtorEq, hs, Rw.atom, Rw.nil, List.length_nil, List.map_nil]; rfl), ?_⟩
   exact ⟨by omega, by omega, m0, by rw [Int.toNat_zero, Nat.add_zero]; exact hR0⟩
  rintro _ hko ⟨i, now, left, n, sm, args, many, arg, out, rfl, ⟨i0, ip, m, hR⟩⟩
  have kargs : ∃ a n c, args.1 = Value.slice a n c := hko.2.2.2.2.2.1
  have hkl := hR.kl
  rw [bS_len] at hkl
  have hct := hR.count
  have kout : out.ok 1 := hR.out.2.1
  refine brP (i < (p.l.length : Int)) (by first | (simp only [vx, reduceCtorEq, hs]; done) | (simp only [vx, reduceCtorEq, hs]; grind)) (fun c8 => ?_) (fun c8 => ?_)
  ·obtain ⟨hz0, hz1⟩ := hB (p.get i) (get_memL i0 c8)
   have hz := hpB i i0 c8
   have hl1 := hR.left
   have hl2 := hR.lft
   have hps := hR.pos
   have hn1 := hR.n
   have wi : IntKind.i64.wrap (i + 1) = i + 1 := wrap_id _ (by omega) (by omega)
   have wl : IntKind.i64.wrap (left + 1) = left + 1 := wrap_id _ (by omega) (by omega)
   have ht : k0 + (i + 1).toNat = k0 + i.toNat + 1 := by omega
   refine need_wp (by first | exact ⟨_, _, _, rfl⟩ | (simp only [vx, reduceCtorEq, hs, wi, wl]; exact ⟨_, _, _, rfl⟩)) ?_
   refine need_wp (by first | exact rw_row _ _ | (simp only [vx, reduceCtorEq, hs, wi, wl]; exact ⟨_, _, rfl⟩)) ?_
   refine need_wp (by simp only [vx, reduceCtorEq, hs, wi, wl, vlen]; first | omega | (grind)) ?_
   refine need_wp (by first | exact ⟨_, _, _, rfl⟩ | (simp only [vx, reduceCtorEq, hs, wi, wl]; exact ⟨_, _, _, rfl⟩)) ?_
   refine need_wp (by first | exact rw_row _ _ | (simp only [vx, reduceCtorEq, hs, wi, wl]; exact ⟨_, _, rfl⟩)) ?_
   refine need_wp (by first | exact rw_sz' rfl | exact rw_szn (by assumption) (.inr (by omega)) | (simp only [vx, reduceCtorEq, hs, wi, wl]; exact rw_szn (by assumption) (.inr (by omega))) | exact rw_szn (by simp [Rw.ok]) (.inr (by omega))) ?_
   refine need_wp (by simp only [vx, reduceCtorEq, hs, wi, wl]; exact kind_Rb (by omega) (by omega)) ?_
   refine brP (cloB (.some 40) [(.int .u8 42), (.fn 33)] now = true) (by first | (simp only [vx, reduceCtorEq, hs, wi, wl]; done) | (simp only [vx, reduceCtorEq, hs, wi, wl]; grind)) (fun c9 => ?_) (fun c9 => ?_)
   ·have hσ : m.σ = .star := now_of (τ := .star) hR.now c9
    refine brP ((p.get i) ≠ 42) (by first | (simp only [vx, reduceCtorEq, hs, wi, wl]; done) | (simp only [vx, reduceCtorEq, hs, wi, wl]; grind)) (fun c10 => ?_) (fun c10 => ?_)
    ·have hw : stepZ m (p.get i) = none := by rw [sz_star hz0 hz1 hσ, if_neg (by omega)]
     subst hAV
     have hct := hR.count
     simp only [List.length_map, vv] at hct
     exact t6_2_wp w kb hBb hbl kall hR.out.2.1 (by omega) (by omega) (fun all2 l2 k2 => hR.bad hz hw hO.ok (by omega) (by rw [bS_len]; exact Nat.le_refl _) l2 k2 rfl rfl) _ _ _ _ _ _ _ _ _ _ _ _ _ _ _ _ _ _ _ _ _ _
    ·refine clo_wp ?_
     intro y2 o2 q2
     refine need_wp (⟨_, _, _, rfl⟩) ?_
     refine need_wp (by exact kargs) ?_
     refine need_wp (⟨_, _, _, rfl⟩) ?_
     refine need_wp (⟨_, _, _, rfl⟩) ?_
     refine again_wp rfl ⟨(i + 1), y2, (left + 1), 0, false, args, many, arg, out, by first | (simp only [vx, reduceCtorEq, hs, wi, wl]; done) | rfl, ?_⟩ ?_
     ·have hs := (sz_star hz0 hz1 hσ).trans (if_pos (by omega)); exact ⟨by omega, by omega, _, hR.next' hz hz0 hz1 ht hs (q2) (by first | omega | (simp only; omega)) rfl rfl hR.many (fun h => by simp [hasA] at h) hR.arg hR.out⟩
     ·(try simp only [vx, reduceCtorEq, hs, wi, wl]); omega
   ·refine brP (cloB (.some 41) [(.int .i64 1), (.fn 36), (.int .i64 50), .self] now = true) (by first | (simp only [vx, reduceCtorEq, hs, wi, wl]; done) | (simp only [vx, reduceCtorEq, hs, wi, wl]; grind)) (fun c11 => ?_) (fun c11 => ?_)
    ·have hσ : m.σ = (.num .cnt) := now_of (τ := (.num .cnt)) hR.now c11
     refine brP ((p.get i) = 13) (by first | (simp only [vx, reduceCtorEq, hs, wi, wl]; done) | (simp only [vx, reduceCtorEq, hs, wi, wl]; grind)) (fun c12 => ?_) (fun c12 => ?_)
     ·refine brP (sm = true) (by first | (simp only [vx, reduceCtorEq, hs, wi, wl]; done) | (simp only [vx, reduceCtorEq, hs, wi, wl]; grind)) (fun c13 => ?_) (fun c13 => ?_)
      ·refine brP (n ≥ 1) (by first | (simp only [vx, reduceCtorEq, hs, wi, wl]; done) | (simp only [vx, reduceCtorEq, hs, wi, wl]; grind)) (fun c14 => ?_) (fun c14 => ?_)
       ·refine clo_wp ?_
        intro y3 o3 q3
        refine need_wp (⟨_, _, _, rfl⟩) ?_
        refine need_wp (by exact kargs) ?_
        refine need_wp (⟨_, _, _, rfl⟩) ?_
        refine need_wp (⟨_, _, _, rfl⟩) ?_
        refine again_wp rfl ⟨(i + 1), y3, (left + 1), n, sm, args, many, arg, out, by first | (simp only [vx, reduceCtorEq, hs, wi, wl]; done) | rfl, ?_⟩ ?_
        ·have hs := num_cr hz0 hz1 hσ hR.n hR.sm ⟨by omega, by assumption, by simp only [Ks.least]; omega⟩; exact ⟨by omega, by omega, _, hR.next' hz hz0 hz1 ht hs (q3) (by first | omega | (simp only; omega)) hR.n hR.sm hR.many (fun h => by simp [hasA] at h) hR.arg hR.out⟩
        ·(try simp only [vx, reduceCtorEq, hs, wi, wl]); omega
       ·refine brP ((p.get i) < 48) (by first | (simp only [vx, reduceCtorEq, hs, wi, wl]; done) | (simp only [vx, reduceCtorEq, hs, wi, wl]; grind)) (fun c15 => ?_) (fun c15 => ?_)
        ·have hw : stepZ m (p.get i) = none := by
          refine num_none hz0 hz1 hσ hR.n hR.sm ?_ ?_
          ·rintro ⟨h1, h2, h3⟩; simp only [Ks.least] at h3; first | omega | exact absurd h2 (by assumption)
          ·simp only [Ks.least, Ks.most]; first | exact .inl (by omega) | exact .inr (.inl (by omega)) | exact .inr (.inr (.inl ⟨by assumption, by omega⟩)) | exact .inr (.inr (.inr (.inl (by omega)))) | exact .inr (.inr (.inr (.inr ⟨by omega, by omega⟩)))
         subst hAV
         have hct := hR.count
         simp only [List.length_map, vv] at hct
         exact t6_2_wp w kb hBb hbl kall hR.out.2.1 (by omega) (by omega) (fun all2 l2 k2 => hR.bad hz hw hO.ok (by omega) (by rw [bS_len]; exact Nat.le_refl _) l2 k2 rfl rfl) _ _ _ _ _ _ _ _ _ _ _ _ _ _ _ _ _ _ _ _ _ _
        ·refine brP ((p.get i) > 57) (by first | (simp only [vx, reduceCtorEq, hs, wi, wl]; done) | (simp only [vx, reduceCtorEq, hs, wi, wl]; grind)) (fun c16 => ?_) (fun c16 => ?_)
         ·have hw : stepZ m (p.get i) = none := by
           refine num_none hz0 hz1 hσ hR.n hR.sm ?_ ?_
           ·rintro ⟨h1, h2, h3⟩; simp only [Ks.least] at h3; first | omega | exact absurd h2 (by assumption)
           ·simp only [Ks.least, Ks.most]; first | exact .inl (by omega) | exact .inr (.inl (by omega)) | exact .inr (.inr (.inl ⟨by assumption, by omega⟩)) | exact .inr (.inr (.inr (.inl (by omega)))) | exact .inr (.inr (.inr (.inr ⟨by omega, by omega⟩)))
          subst hAV
          have hct := hR.count
          simp only [List.length_map, vv] at hct
          exact t6_2_wp w kb hBb hbl kall hR.out.2.1 (by omega) (by omega) (fun all2 l2 k2 => hR.bad hz hw hO.ok (by omega) (by rw [bS_len]; exact Nat.le_refl _) l2 k2 rfl rfl) _ _ _ _ _ _ _ _ _ _ _ _ _ _ _ _ _ _ _ _ _ _
         ·have wu : IntKind.u8.wrap ((p.get i) - 48) = (p.get i) - 48 := by rw [IntKind.wrap_u8]; omega
          have ww : IntKind.i64.wrap ((p.get i) - 48) = (p.get i) - 48 := wrap_id _ (by omega) (by omega)
          have wm : IntKind.i64.wrap (10 * n) = 10 * n := wrap_id _ (by omega) (by omega)
          have wa : IntKind.i64.wrap (10 * n + ((p.get i) - 48)) = 10 * n + ((p.get i) - 48) := wrap_id _ (by omega) (by omega)
          refine brP (n = 0) (by first | (simp only [vx, reduceCtorEq, hs, wi, wl, wu, ww, wm, wa]; done) | (simp only [vx, reduceCtorEq, hs, wi, wl, wu, ww, wm, wa]; grind)) (fun c17 => ?_) (fun c17 => ?_)
          ·have hw : stepZ m (p.get i) = none := by
            refine num_none hz0 hz1 hσ hR.n hR.sm ?_ ?_
            ·rintro ⟨h1, h2, h3⟩; simp only [Ks.least] at h3; first | omega | exact absurd h2 (by assumption)
            ·simp only [Ks.least, Ks.most]; first | exact .inl (by omega) | exact .inr (.inl (by omega)) | exact .inr (.inr (.inl ⟨by assumption, by omega⟩)) | exact .inr (.inr (.inr (.inl (by omega)))) | exact .inr (.inr (.inr (.inr ⟨by omega, by omega⟩)))
           subst hAV
           have hct := hR.count
           simp only [List.length_map, vv] at hct
           exact t6_2_wp w kb hBb hbl kall hR.out.2.1 (by omega) (by omega) (fun all2 l2 k2 => hR.bad hz hw hO.ok (by omega) (by rw [bS_len]; exact Nat.le_refl _) l2 k2 rfl rfl) _ _ _ _ _ _ _ _ _ _ _ _ _ _ _ _ _ _ _ _ _ _
          ·refine brP ((10 * n + ((p.get i) - 48)) > 50) (by first | (simp only [vx, reduceCtorEq, hs, wi, wl, wu, ww, wm, wa]; done) | (simp only [vx, reduceCtorEq, hs, wi, wl, wu, ww, wm, wa]; grind)) (fun c18 => ?_) (fun c18 => ?_)
           ·have hw : stepZ m (p.get i) = none := by
             refine num_none hz0 hz1 hσ hR.n hR.sm ?_ ?_
             ·rintro ⟨h1, h2, h3⟩; simp only [Ks.least] at h3; first | omega | exact absurd h2 (by assumption)
             ·simp only [Ks.least, Ks.most]; first | exact .inl (by omega) | exact .inr (.inl (by omega)) | exact .inr (.inr (.inl ⟨by assumption, by omega⟩)) | exact .inr (.inr (.inr (.inl (by omega)))) | exact .inr (.inr (.inr (.inr ⟨by omega, by omega⟩)))
            subst hAV
            have hct := hR.count
            simp only [List.length_map, vv] at hct
            exact t6_2_wp w kb hBb hbl kall hR.out.2.1 (by omega) (by omega) (fun all2 l2 k2 => hR.bad hz hw hO.ok (by omega) (by rw [bS_len]; exact Nat.le_refl _) l2 k2 rfl rfl) _ _ _ _ _ _ _ _ _ _ _ _ _ _ _ _ _ _ _ _ _ _
           ·refine brP ((10 * n + ((p.get i) - 48)) = 0) (by first | (simp only [vx, reduceCtorEq, hs, wi, wl, wu, ww, wm, wa]; done) | (simp only [vx, reduceCtorEq, hs, wi, wl, wu, ww, wm, wa]; grind)) (fun c19 => ?_) (fun c19 => ?_)
            ·have hw : stepZ m (p.get i) = none := by
              refine num_none hz0 hz1 hσ hR.n hR.sm ?_ ?_
              ·rintro ⟨h1, h2, h3⟩; simp only [Ks.least] at h3; first | omega | exact absurd h2 (by assumption)
              ·simp only [Ks.least, Ks.most]; first | exact .inl (by omega) | exact .inr (.inl (by omega)) | exact .inr (.inr (.inl ⟨by assumption, by omega⟩)) | exact .inr (.inr (.inr (.inl (by omega)))) | exact .inr (.inr (.inr (.inr ⟨by omega, by omega⟩)))
             subst hAV
             have hct := hR.count
             simp only [List.length_map, vv] at hct
             exact t6_2_wp w kb hBb hbl kall hR.out.2.1 (by omega) (by omega) (fun all2 l2 k2 => hR.bad hz hw hO.ok (by omega) (by rw [bS_len]; exact Nat.le_refl _) l2 k2 rfl rfl) _ _ _ _ _ _ _ _ _ _ _ _ _ _ _ _ _ _ _ _ _ _
            ·refine need_wp (⟨_, _, _, rfl⟩) ?_
             refine need_wp (by exact kargs) ?_
             refine need_wp (⟨_, _, _, rfl⟩) ?_
             refine need_wp (⟨_, _, _, rfl⟩) ?_
             refine again_wp rfl ⟨(i + 1), now, (left + 1), (10 * n + ((p.get i) - 48)), true, args, many, arg, out, by first | (simp only [vx, reduceCtorEq, hs, wi, wl, wu, ww, wm, wa]; done) | rfl, ?_⟩ ?_
             ·have hs := num_dig hz0 hz1 hσ hR.n hR.sm (by rintro ⟨h1, h2, h3⟩; simp only [Ks.least] at h3; first | omega | exact absurd h2 (by assumption)) (by omega) (by omega) (by rintro ⟨h1, h2⟩; first | omega | exact absurd h1 (by assumption)) (by simp only [Ks.most]; omega) (by rintro ⟨h1, h2⟩; simp only [Ks.least] at h2; omega); exact ⟨by omega, by omega, _, hR.next' hz hz0 hz1 ht hs (by have := hR.now; rw [hσ] at this; simpa only [hσ] using this) (by first | omega | (simp only; omega)) rfl rfl hR.many (fun h => hR.args h) hR.arg hR.out⟩
             ·(try simp only [vx, reduceCtorEq, hs, wi, wl, wu, ww, wm, wa]); omega
      ·refine brP ((p.get i) < 48) (by first | (simp only [vx, reduceCtorEq, hs, wi, wl]; done) | (simp only [vx, reduceCtorEq, hs, wi, wl]; grind)) (fun c20 => ?_) (fun c20 => ?_)
       ·have hw : stepZ m (p.get i) = none := by
         refine num_none hz0 hz1 hσ hR.n hR.sm ?_ ?_
         ·rintro ⟨h1, h2, h3⟩; simp only [Ks.least] at h3; first | omega | exact absurd h2 (by assumption)
         ·simp only [Ks.least, Ks.most]; first | exact .inl (by omega) | exact .inr (.inl (by omega)) | exact .inr (.inr (.inl ⟨by assumption, by omega⟩)) | exact .inr (.inr (.inr (.inl (by omega)))) | exact .inr (.inr (.inr (.inr ⟨by omega, by omega⟩)))
        subst hAV
        have hct := hR.count
        simp only [List.length_map, vv] at hct
        exact t6_2_wp w kb hBb hbl kall hR.out.2.1 (by omega) (by omega) (fun all2 l2 k2 => hR.bad hz hw hO.ok (by omega) (by rw [bS_len]; exact Nat.le_refl _) l2 k2 rfl rfl) _ _ _ _ _ _ _ _ _ _ _ _ _ _ _ _ _ _ _ _ _ _
       ·refine brP ((p.get i) > 57) (by first | (simp only [vx, reduceCtorEq, hs, wi, wl]; done) | (simp only [vx, reduceCtorEq, hs, wi, wl]; grind)) (fun c21 => ?_) (fun c21 => ?_)
        ·have hw : stepZ m (p.get i) = none := by
          refine num_none hz0 hz1 hσ hR.n hR.sm ?_ ?_
          ·rintro ⟨h1, h2, h3⟩; simp only [Ks.least] at h3; first | omega | exact absurd h2 (by assumption)
          ·simp only [Ks.least, Ks.most]; first | exact .inl (by omega) | exact .inr (.inl (by omega)) | exact .inr (.inr (.inl ⟨by assumption, by omega⟩)) | exact .inr (.inr (.inr (.inl (by omega)))) | exact .inr (.inr (.inr (.inr ⟨by omega, by omega⟩)))
         subst hAV
         have hct := hR.count
         simp only [List.length_map, vv] at hct
         exact t6_2_wp w kb hBb hbl kall hR.out.2.1 (by omega) (by omega) (fun all2 l2 k2 => hR.bad hz hw hO.ok (by omega) (by rw [bS_len]; exact Nat.le_refl _) l2 k2 rfl rfl) _ _ _ _ _ _ _ _ _ _ _ _ _ _ _ _ _ _ _ _ _ _
        ·have wu : IntKind.u8.wrap ((p.get i) - 48) = (p.get i) - 48 := by rw [IntKind.wrap_u8]; omega
         have ww : IntKind.i64.wrap ((p.get i) - 48) = (p.get i) - 48 := wrap_id _ (by omega) (by omega)
         have wm : IntKind.i64.wrap (10 * n) = 10 * n := wrap_id _ (by omega) (by omega)
         have wa : IntKind.i64.wrap (10 * n + ((p.get i) - 48)) = 10 * n + ((p.get i) - 48) := wrap_id _ (by omega) (by omega)
         refine brP ((10 * n + ((p.get i) - 48)) > 50) (by first | (simp only [vx, reduceCtorEq, hs, wi, wl, wu, ww, wm, wa]; done) | (simp only [vx, reduceCtorEq, hs, wi, wl, wu, ww, wm, wa]; grind)) (fun c22 => ?_) (fun c22 => ?_)
         ·have hw : stepZ m (p.get i) = none := by
           refine num_none hz0 hz1 hσ hR.n hR.sm ?_ ?_
           ·rintro ⟨h1, h2, h3⟩; simp only [Ks.least] at h3; first | omega | exact absurd h2 (by assumption)
           ·simp only [Ks.least, Ks.most]; first | exact .inl (by omega) | exact .inr (.inl (by omega)) | exact .inr (.inr (.inl ⟨by assumption, by omega⟩)) | exact .inr (.inr (.inr (.inl (by omega)))) | exact .inr (.inr (.inr (.inr ⟨by omega, by omega⟩)))
          subst hAV
          have hct := hR.count
          simp only [List.length_map, vv] at hct
          exact t6_2_wp w kb hBb hbl kall hR.out.2.1 (by omega) (by omega) (fun all2 l2 k2 => hR.bad hz hw hO.ok (by omega) (by rw [bS_len]; exact Nat.le_refl _) l2 k2 rfl rfl) _ _ _ _ _ _ _ _ _ _ _ _ _ _ _ _ _ _ _ _ _ _
         ·refine brP ((10 * n + ((p.get i) - 48)) = 0) (by first | (simp only [vx, reduceCtorEq, hs, wi, wl, wu, ww, wm, wa]; done) | (simp only [vx, reduceCtorEq, hs, wi, wl, wu, ww, wm, wa]; grind)) (fun c23 => ?_) (fun c23 => ?_)
          ·have hw : stepZ m (p.get i) = none := by
            refine num_none hz0 hz1 hσ hR.n hR.sm ?_ ?_
            ·rintro ⟨h1, h2, h3⟩; simp only [Ks.least] at h3; first | omega | exact absurd h2 (by assumption)
            ·simp only [Ks.least, Ks.most]; first | exact .inl (by omega) | exact .inr (.inl (by omega)) | exact .inr (.inr (.inl ⟨by assumption, by omega⟩)) | exact .inr (.inr (.inr (.inl (by omega)))) | exact .inr (.inr (.inr (.inr ⟨by omega, by omega⟩)))
           subst hAV
           have hct := hR.count
           simp only [List.length_map, vv] at hct
           exact t6_2_wp w kb hBb hbl kall hR.out.2.1 (by omega) (by omega) (fun all2 l2 k2 => hR.bad hz hw hO.ok (by omega) (by rw [bS_len]; exact Nat.le_refl _) l2 k2 rfl rfl) _ _ _ _ _ _ _ _ _ _ _ _ _ _ _ _ _ _ _ _ _ _
          ·refine need_wp (⟨_, _, _, rfl⟩) ?_
           refine need_wp (by exact kargs) ?_
           refine need_wp (⟨_, _, _, rfl⟩) ?_
           refine need_wp (⟨_, _, _, rfl⟩) ?_
           refine again_wp rfl ⟨(i + 1), now, (left + 1), (10 * n + ((p.get i) - 48)), true, args, many, arg, out, by first | (simp only [vx, reduceCtorEq, hs, wi, wl, wu, ww, wm, wa]; done) | rfl, ?_⟩ ?_
           ·have hs := num_dig hz0 hz1 hσ hR.n hR.sm (by rintro ⟨h1, h2, h3⟩; simp only [Ks.least] at h3; first | omega | exact absurd h2 (by assumption)) (by omega) (by omega) (by rintro ⟨h1, h2⟩; first | omega | exact absurd h1 (by assumption)) (by simp only [Ks.most]; omega) (by rintro ⟨h1, h2⟩; simp only [Ks.least] at h2; omega); exact ⟨by omega, by omega, _, hR.next' hz hz0 hz1 ht hs (by have := hR.now; rw [hσ] at this; simpa only [hσ] using this) (by first | omega | (simp only; omega)) rfl rfl hR.many (fun h => hR.args h) hR.arg hR.out⟩
           ·(try simp only [vx, reduceCtorEq, hs, wi, wl, wu, ww, wm, wa]); omega
     ·refine brP ((p.get i) < 48) (by first | (simp only [vx, reduceCtorEq, hs, wi, wl]; done) | (simp only [vx, reduceCtorEq, hs, wi, wl]; grind)) (fun c24 => ?_) (fun c24 => ?_)
      ·have hw : stepZ m (p.get i) = none := by
        refine num_none hz0 hz1 hσ hR.n hR.sm ?_ ?_
        ·rintro ⟨h1, h2, h3⟩; simp only [Ks.least] at h3; first | omega | exact absurd h2 (by assumption)
        ·simp only [Ks.least, Ks.most]; first | exact .inl (by omega) | exact .inr (.inl (by omega)) | exact .inr (.inr (.inl ⟨by assumption, by omega⟩)) | exact .inr (.inr (.inr (.inl (by omega)))) | exact .inr (.inr (.inr (.inr ⟨by omega, by omega⟩)))
       subst hAV
       have hct := hR.count
       simp only [List.length_map, vv] at hct
       exact t6_2_wp w kb hBb hbl kall hR.out.2.1 (by omega) (by omega) (fun all2 l2 k2 => hR.bad hz hw hO.ok (by omega) (by rw [bS_len]; exact Nat.le_refl _) l2 k2 rfl rfl) _ _ _ _ _ _ _ _ _ _ _ _ _ _ _ _ _ _ _ _ _ _
      ·refine brP ((p.get i) > 57) (by first | (simp only [vx, reduceCtorEq, hs, wi, wl]; done) | (simp only [vx, reduceCtorEq, hs, wi, wl]; grind)) (fun c25 => ?_) (fun c25 => ?_)
       ·have hw : stepZ m (p.get i) = none := by
         refine num_none hz0 hz1 hσ hR.n hR.sm ?_ ?_
         ·rintro ⟨h1, h2, h3⟩; simp only [Ks.least] at h3; first | omega | exact absurd h2 (by assumption)
         ·simp only [Ks.least, Ks.most]; first | exact .inl (by omega) | exact .inr (.inl (by omega)) | exact .inr (.inr (.inl ⟨by assumption, by omega⟩)) | exact .inr (.inr (.inr (.inl (by omega)))) | exact .inr (.inr (.inr (.inr ⟨by omega, by omega⟩)))
        subst hAV
        have hct := hR.count
        simp only [List.length_map, vv] at hct
        exact t6_2_wp w kb hBb hbl kall hR.out.2.1 (by omega) (by omega) (fun all2 l2 k2 => hR.bad hz hw hO.ok (by omega) (by rw [bS_len]; exact Nat.le_refl _) l2 k2 rfl rfl) _ _ _ _ _ _ _ _ _ _ _ _ _ _ _ _ _ _ _ _ _ _
       ·have wu : IntKind.u8.wrap ((p.get i) - 48) = (p.get i) - 48 := by rw [IntKind.wrap_u8]; omega
        have ww : IntKind.i64.wrap ((p.get i) - 48) = (p.get i) - 48 := wrap_id _ (by omega) (by omega)
        have wm : IntKind.i64.wrap (10 * n) = 10 * n := wrap_id _ (by omega) (by omega)
        have wa : IntKind.i64.wrap (10 * n + ((p.get i) - 48)) = 10 * n + ((p.get i) - 48) := wrap_id _ (by omega) (by omega)
        refine brP (sm = true) (by first | (simp only [vx, reduceCtorEq, hs, wi, wl, wu, ww, wm, wa]; done) | (simp only [vx, reduceCtorEq, hs, wi, wl, wu, ww, wm, wa]; grind)) (fun c26 => ?_) (fun c26 => ?_)
        ·refine brP (n = 0) (by first | (simp only [vx, reduceCtorEq, hs, wi, wl, wu, ww, wm, wa]; done) | (simp only [vx, reduceCtorEq, hs, wi, wl, wu, ww, wm, wa]; grind)) (fun c27 => ?_) (fun c27 => ?_)
         ·have hw : stepZ m (p.get i) = none := by
           refine num_none hz0 hz1 hσ hR.n hR.sm ?_ ?_
           ·rintro ⟨h1, h2, h3⟩; simp only [Ks.least] at h3; first | omega | exact absurd h2 (by assumption)
           ·simp only [Ks.least, Ks.most]; first | exact .inl (by omega) | exact .inr (.inl (by omega)) | exact .inr (.inr (.inl ⟨by assumption, by omega⟩)) | exact .inr (.inr (.inr (.inl (by omega)))) | exact .inr (.inr (.inr (.inr ⟨by omega, by omega⟩)))
          subst hAV
          have hct := hR.count
          simp only [List.length_map, vv] at hct
          exact t6_2_wp w kb hBb hbl kall hR.out.2.1 (by omega) (by omega) (fun all2 l2 k2 => hR.bad hz hw hO.ok (by omega) (by rw [bS_len]; exact Nat.le_refl _) l2 k2 rfl rfl) _ _ _ _ _ _ _ _ _ _ _ _ _ _ _ _ _ _ _ _ _ _
         ·refine brP ((10 * n + ((p.get i) - 48)) > 50) (by first | (simp only [vx, reduceCtorEq, hs, wi, wl, wu, ww, wm, wa]; done) | (simp only [vx, reduceCtorEq, hs, wi, wl, wu, ww, wm, wa]; grind)) (fun c28 => ?_) (fun c28 => ?_)
          ·have hw : stepZ m (p.get i) = none := by
            refine num_none hz0 hz1 hσ hR.n hR.sm ?_ ?_
            ·rintro ⟨h1, h2, h3⟩; simp only [Ks.least] at h3; first | omega | exact absurd h2 (by assumption)
            ·simp only [Ks.least, Ks.most]; first | exact .inl (by omega) | exact .inr (.inl (by omega)) | exact .inr (.inr (.inl ⟨by assumption, by omega⟩)) | exact .inr (.inr (.inr (.inl (by omega)))) | exact .inr (.inr (.inr (.inr ⟨by omega, by omega⟩)))
           subst hAV
           have hct := hR.count
           simp only [List.length_map, vv] at hct
           exact t6_2_wp w kb hBb hbl kall hR.out.2.1 (by omega) (by omega) (fun all2 l2 k2 => hR.bad hz hw hO.ok (by omega) (by rw [bS_len]; exact Nat.le_refl _) l2 k2 rfl rfl) _ _ _ _ _ _ _ _ _ _ _ _ _ _ _ _ _ _ _ _ _ _
          ·refine brP ((10 * n + ((p.get i) - 48)) = 0) (by first | (simp only [vx, reduceCtorEq, hs, wi, wl, wu, ww, wm, wa]; done) | (simp only [vx, reduceCtorEq, hs, wi, wl, wu, ww, wm, wa]; grind)) (fun c29 => ?_) (fun c29 => ?_)
           ·have hw : stepZ m (p.get i) = none := by
             refine num_none hz0 hz1 hσ hR.n hR.sm ?_ ?_
             ·rintro ⟨h1, h2, h3⟩; simp only [Ks.least] at h3; first | omega | exact absurd h2 (by assumption)
             ·simp only [Ks.least, Ks.most]; first | exact .inl (by omega) | exact .inr (.inl (by omega)) | exact .inr (.inr (.inl ⟨by assumption, by omega⟩)) | exact .inr (.inr (.inr (.inl (by omega)))) | exact .inr (.inr (.inr (.inr ⟨by omega, by omega⟩)))
            subst hAV
            have hct := hR.count
            simp only [List.length_map, vv] at hct
            exact t6_2_wp w kb hBb hbl kall hR.out.2.1 (by omega) (by omega) (fun all2 l2 k2 => hR.bad hz hw hO.ok (by omega) (by rw [bS_len]; exact Nat.le_refl _) l2 k2 rfl rfl) _ _ _ _ _ _ _ _ _ _ _ _ _ _ _ _ _ _ _ _ _ _
           ·refine need_wp (⟨_, _, _, rfl⟩) ?_
            refine need_wp (by exact kargs) ?_
            refine need_wp (⟨_, _, _, rfl⟩) ?_
            refine need_wp (⟨_, _, _, rfl⟩) ?_
            refine again_wp rfl ⟨(i + 1), now, (left + 1), (10 * n + ((p.get i) - 48)), true, args, many, arg, out, by first | (simp only [vx, reduceCtorEq, hs, wi, wl, wu, ww, wm, wa]; done) | rfl, ?_⟩ ?_
            ·have hs := num_dig hz0 hz1 hσ hR.n hR.sm (by rintro ⟨h1, h2, h3⟩; simp only [Ks.least] at h3; first | omega | exact absurd h2 (by assumption)) (by omega) (by omega) (by rintro ⟨h1, h2⟩; first | omega | exact absurd h1 (by assumption)) (by simp only [Ks.most]; omega) (by rintro ⟨h1, h2⟩; simp only [Ks.least] at h2; omega); exact ⟨by omega, by omega, _, hR.next' hz hz0 hz1 ht hs (by have := hR.now; rw [hσ] at this; simpa only [hσ] using this) (by first | omega | (simp only; omega)) rfl rfl hR.many (fun h => hR.args h) hR.arg hR.out⟩
            ·(try simp only [vx, reduceCtorEq, hs, wi, wl, wu, ww, wm, wa]); omega
        ·refine brP ((10 * n + ((p.get i) - 48)) > 50) (by first | (simp only [vx, reduceCtorEq, hs, wi, wl, wu, ww, wm, wa]; done) | (simp only [vx, reduceCtorEq, hs, wi, wl, wu, ww, wm, wa]; grind)) (fun c30 => ?_) (fun c30 => ?_)
         ·have hw : stepZ m (p.get i) = none := by
           refine num_none hz0 hz1 hσ hR.n hR.sm ?_ ?_
           ·rintro ⟨h1, h2, h3⟩; simp only [Ks.least] at h3; first | omega | exact absurd h2 (by assumption)
           ·simp only [Ks.least, Ks.most]; first | exact .inl (by omega) | exact .inr (.inl (by omega)) | exact .inr (.inr (.inl ⟨by assumption, by omega⟩)) | exact .inr (.inr (.inr (.inl (by omega)))) | exact .inr (.inr (.inr (.inr ⟨by omega, by omega⟩)))
          subst hAV
          have hct := hR.count
          simp only [List.length_map, vv] at hct
          exact t6_2_wp w kb hBb hbl kall hR.out.2.1 (by omega) (by omega) (fun all2 l2 k2 => hR.bad hz hw hO.ok (by omega) (by rw [bS_len]; exact Nat.le_refl _) l2 k2 rfl rfl) _ _ _ _ _ _ _ _ _ _ _ _ _ _ _ _ _ _ _ _ _ _
         ·refine brP ((10 * n + ((p.get i) - 48)) = 0) (by first | (simp only [vx, reduceCtorEq, hs, wi, wl, wu, ww, wm, wa]; done) | (simp only [vx, reduceCtorEq, hs, wi, wl, wu, ww, wm, wa]; grind)) (fun c31 => ?_) (fun c31 => ?_)
          ·have hw : stepZ m (p.get i) = none := by
            refine num_none hz0 hz1 hσ hR.n hR.sm ?_ ?_
            ·rintro ⟨h1, h2, h3⟩; simp only [Ks.least] at h3; first | omega | exact absurd h2 (by assumption)
            ·simp only [Ks.least, Ks.most]; first | exact .inl (by omega) | exact .inr (.inl (by omega)) | exact .inr (.inr (.inl ⟨by assumption, by omega⟩)) | exact .inr (.inr (.inr (.inl (by omega)))) | exact .inr (.inr (.inr (.inr ⟨by omega, by omega⟩)))
           subst hAV
           have hct := hR.count
           simp only [List.length_map, vv] at hct
           exact t6_2_wp w kb hBb hbl kall hR.out.2.1 (by omega) (by omega) (fun all2 l2 k2 => hR.bad hz hw hO.ok (by omega) (by rw [bS_len]; exact Nat.le_refl _) l2 k2 rfl rfl) _ _ _ _ _ _ _ _ _ _ _ _ _ _ _ _ _ _ _ _ _ _
          ·refine need_wp (⟨_, _, _, rfl⟩) ?_
           refine need_wp (by exact kargs) ?_
           refine need_wp (⟨_, _, _, rfl⟩) ?_
           refine need_wp (⟨_, _, _, rfl⟩) ?_
           refine again_wp rfl ⟨(i + 1), now, (left + 1), (10 * n + ((p.get i) - 48)), true, args, many, arg, out, by first | (simp only [vx, reduceCtorEq, hs, wi, wl, wu, ww, wm, wa]; done) | rfl, ?_⟩ ?_
           ·have hs := num_dig hz0 hz1 hσ hR.n hR.sm (by rintro ⟨h1, h2, h3⟩; simp only [Ks.least] at h3; first | omega | exact absurd h2 (by assumption)) (by omega) (by omega) (by rintro ⟨h1, h2⟩; first | omega | exact absurd h1 (by assumption)) (by simp only [Ks.most]; omega) (by rintro ⟨h1, h2⟩; simp only [Ks.least] at h2; omega); exact ⟨by omega, by omega, _, hR.next' hz hz0 hz1 ht hs (by have := hR.now; rw [hσ] at this; simpa only [hσ] using this) (by first | omega | (simp only; omega)) rfl rfl hR.many (fun h => hR.args h) hR.arg hR.out⟩
           ·(try simp only [vx, reduceCtorEq, hs, wi, wl, wu, ww, wm, wa]); omega
    ·refine brP (cloB (.some 40) [(.int .u8 10), (.fn 36)] now = true) (by first | (simp only [vx, reduceCtorEq, hs, wi, wl]; done) | (simp only [vx, reduceCtorEq, hs, wi, wl]; grind)) (fun c32 => ?_) (fun c32 => ?_)
     ·have hσ : m.σ = (.lf .cnt) := now_of (τ := (.lf .cnt)) hR.now c32
      refine brP ((p.get i) ≠ 10) (by first | (simp only [vx, reduceCtorEq, hs, wi, wl]; done) | (simp only [vx, reduceCtorEq, hs, wi, wl]; grind)) (fun c33 => ?_) (fun c33 => ?_)
      ·have hw : stepZ m (p.get i) = none := by rw [sz_lfc hz0 hz1 hσ, if_neg (by omega)]
       subst hAV
       have hct := hR.count
       simp only [List.length_map, vv] at hct
       exact t6_2_wp w kb hBb hbl kall hR.out.2.1 (by omega) (by omega) (fun all2 l2 k2 => hR.bad hz hw hO.ok (by omega) (by rw [bS_len]; exact Nat.le_refl _) l2 k2 rfl rfl) _ _ _ _ _ _ _ _ _ _ _ _ _ _ _ _ _ _ _ _ _ _
      ·refine clo_wp ?_
       intro y4 o4 q4
       refine need_wp (⟨_, _, _, rfl⟩) ?_
       refine need_wp (⟨_, _, _, rfl⟩) ?_
       refine need_wp (⟨_, _, _, rfl⟩) ?_
       refine need_wp (⟨_, _, _, rfl⟩) ?_
       refine again_wp rfl ⟨(i + 1), y4, (left + 1), n, sm, (Rw.atom eS (Rw.nil : Rw ByteArray)), n, arg, out, by first | (simp only [vx, reduceCtorEq, hs, wi, wl]; done) | (simp only [vx, reduceCtorEq, hs, wi, wl]; rfl) | (simp only [vx, reduceCtorEq, hs, wi, wl, Rw.nil, Rw.atom, List.length_nil, List.map_nil]; done), ?_⟩ ?_
       ·have hs := (sz_lfc hz0 hz1 hσ).trans (if_pos (by omega)); exact ⟨by omega, by omega, _, hR.next' hz hz0 hz1 ht hs (q4) (by first | omega | (simp only; omega)) hR.n hR.sm hR.n (fun _ => ⟨Rw.nil, rfl, rfl, .inl rfl⟩) hR.arg hR.out⟩
       ·(try simp only [vx, reduceCtorEq, hs, wi, wl]); omega
     ·refine brP (cloB (.some 40) [(.int .u8 36), (.fn 43)] now = true) (by first | (simp only [vx, reduceCtorEq, hs, wi, wl]; done) | (simp only [vx, reduceCtorEq, hs, wi, wl]; grind)) (fun c34 => ?_) (fun c34 => ?_)
      ·have hσ : m.σ = .dol := now_of (τ := .dol) hR.now c34
       refine brP ((p.get i) ≠ 36) (by first | (simp only [vx, reduceCtorEq, hs, wi, wl]; done) | (simp only [vx, reduceCtorEq, hs, wi, wl]; grind)) (fun c35 => ?_) (fun c35 => ?_)
       ·have hw : stepZ m (p.get i) = none := by rw [sz_dol hz0 hz1 hσ, if_neg (by omega)]
        subst hAV
        have hct := hR.count
        simp only [List.length_map, vv] at hct
        exact t6_2_wp w kb hBb hbl kall hR.out.2.1 (by omega) (by omega) (fun all2 l2 k2 => hR.bad hz hw hO.ok (by omega) (by rw [bS_len]; exact Nat.le_refl _) l2 k2 rfl rfl) _ _ _ _ _ _ _ _ _ _ _ _ _ _ _ _ _ _ _ _ _ _
       ·refine clo_wp ?_
        intro y5 o5 q5
        refine need_wp (⟨_, _, _, rfl⟩) ?_
        refine need_wp (by exact kargs) ?_
        refine need_wp (⟨_, _, _, rfl⟩) ?_
        refine need_wp (⟨_, _, _, rfl⟩) ?_
        refine again_wp rfl ⟨(i + 1), y5, (left + 1), 0, false, args, many, arg, out, by first | (simp only [vx, reduceCtorEq, hs, wi, wl]; done) | rfl, ?_⟩ ?_
        ·have hs := (sz_dol hz0 hz1 hσ).trans (if_pos (by omega)); exact ⟨by omega, by omega, _, hR.next' hz hz0 hz1 ht hs (q5) (by first | omega | (simp only; omega)) rfl rfl hR.many (fun _ => hR.args (by rw [hσ]; rfl)) hR.arg hR.out⟩
        ·(try simp only [vx, reduceCtorEq, hs, wi, wl]); omega
      ·refine brP (cloB (.some 41) [(.int .i64 0), (.fn 44), (.int .i64 1000), .self] now = true) (by first | (simp only [vx, reduceCtorEq, hs, wi, wl]; done) | (simp only [vx, reduceCtorEq, hs, wi, wl]; grind)) (fun c36 => ?_) (fun c36 => ?_)
       ·have hσ : m.σ = (.num .szd) := now_of (τ := (.num .szd)) hR.now c36
        refine brP ((p.get i) = 13) (by first | (simp only [vx, reduceCtorEq, hs, wi, wl]; done) | (simp only [vx, reduceCtorEq, hs, wi, wl]; grind)) (fun c37 => ?_) (fun c37 => ?_)
        ·refine brP (sm = true) (by first | (simp only [vx, reduceCtorEq, hs, wi, wl]; done) | (simp only [vx, reduceCtorEq, hs, wi, wl]; grind)) (fun c38 => ?_) (fun c38 => ?_)
         ·refine brP (n ≥ 0) (by first | (simp only [vx, reduceCtorEq, hs, wi, wl]; done) | (simp only [vx, reduceCtorEq, hs, wi, wl]; grind)) (fun c39 => ?_) (fun c39 => ?_)
          ·refine clo_wp ?_
           intro y6 o6 q6
           refine need_wp (⟨_, _, _, rfl⟩) ?_
           refine need_wp (by exact kargs) ?_
           refine need_wp (⟨_, _, _, rfl⟩) ?_
           refine need_wp (⟨_, _, _, rfl⟩) ?_
           refine again_wp rfl ⟨(i + 1), y6, (left + 1), n, sm, args, many, arg, out, by first | (simp only [vx, reduceCtorEq, hs, wi, wl]; done) | rfl, ?_⟩ ?_
           ·have hs := num_cr hz0 hz1 hσ hR.n hR.sm ⟨by omega, by assumption, by simp only [Ks.least]; omega⟩; exact ⟨by omega, by omega, _, hR.next' hz hz0 hz1 ht hs (q6) (by first | omega | (simp only; omega)) hR.n hR.sm hR.many (fun _ => hR.args (by rw [hσ]; rfl)) hR.arg hR.out⟩
           ·(try simp only [vx, reduceCtorEq, hs, wi, wl]); omega
          ·exfalso; omega
         ·refine brP ((p.get i) < 48) (by first | (simp only [vx, reduceCtorEq, hs, wi, wl]; done) | (simp only [vx, reduceCtorEq, hs, wi, wl]; grind)) (fun c45 => ?_) (fun c45 => ?_)
          ·have hw : stepZ m (p.get i) = none := by
            refine num_none hz0 hz1 hσ hR.n hR.sm ?_ ?_
            ·rintro ⟨h1, h2, h3⟩; simp only [Ks.least] at h3; first | omega | exact absurd h2 (by assumption)
            ·simp only [Ks.least, Ks.most]; first | exact .inl (by omega) | exact .inr (.inl (by omega)) | exact .inr (.inr (.inl ⟨by assumption, by omega⟩)) | exact .inr (.inr (.inr (.inl (by omega)))) | exact .inr (.inr (.inr (.inr ⟨by omega, by omega⟩)))
           subst hAV
           have hct := hR.count
           simp only [List.length_map, vv] at hct
           exact t6_2_wp w kb hBb hbl kall hR.out.2.1 (by omega) (by omega) (fun all2 l2 k2 => hR.bad hz hw hO.ok (by omega) (by rw [bS_len]; exact Nat.le_refl _) l2 k2 rfl rfl) _ _ _ _ _ _ _ _ _ _ _ _ _ _ _ _ _ _ _ _ _ _
          ·refine brP ((p.get i) > 57) (by first | (simp only [vx, reduceCtorEq, hs, wi, wl]; done) | (simp only [vx, reduceCtorEq, hs, wi, wl]; grind)) (fun c46 => ?_) (fun c46 => ?_)
           ·have hw : stepZ m (p.get i) = none := by
             refine num_none hz0 hz1 hσ hR.n hR.sm ?_ ?_
             ·rintro ⟨h1, h2, h3⟩; simp only [Ks.least] at h3; first | omega | exact absurd h2 (by assumption)
             ·simp only [Ks.least, Ks.most]; first | exact .inl (by omega) | exact .inr (.inl (by omega)) | exact .inr (.inr (.inl ⟨by assumption, by omega⟩)) | exact .inr (.inr (.inr (.inl (by omega)))) | exact .inr (.inr (.inr (.inr ⟨by omega, by omega⟩)))
            subst hAV
            have hct := hR.count
            simp only [List.length_map, vv] at hct
            exact t6_2_wp w kb hBb hbl kall hR.out.2.1 (by omega) (by omega) (fun all2 l2 k2 => hR.bad hz hw hO.ok (by omega) (by rw [bS_len]; exact Nat.le_refl _) l2 k2 rfl rfl) _ _ _ _ _ _ _ _ _ _ _ _ _ _ _ _ _ _ _ _ _ _
           ·have wu : IntKind.u8.wrap ((p.get i) - 48) = (p.get i) - 48 := by rw [IntKind.wrap_u8]; omega
            have ww : IntKind.i64.wrap ((p.get i) - 48) = (p.get i) - 48 := wrap_id _ (by omega) (by omega)
            have wm : IntKind.i64.wrap (10 * n) = 10 * n := wrap_id _ (by omega) (by omega)
            have wa : IntKind.i64.wrap (10 * n + ((p.get i) - 48)) = 10 * n + ((p.get i) - 48) := wrap_id _ (by omega) (by omega)
            refine brP ((10 * n + ((p.get i) - 48)) > 1000) (by first | (simp only [vx, reduceCtorEq, hs, wi, wl, wu, ww, wm, wa]; done) | (simp only [vx, reduceCtorEq, hs, wi, wl, wu, ww, wm, wa]; grind)) (fun c47 => ?_) (fun c47 => ?_)
            ·have hw : stepZ m (p.get i) = none := by
              refine num_none hz0 hz1 hσ hR.n hR.sm ?_ ?_
              ·rintro ⟨h1, h2, h3⟩; simp only [Ks.least] at h3; first | omega | exact absurd h2 (by assumption)
              ·simp only [Ks.least, Ks.most]; first | exact .inl (by omega) | exact .inr (.inl (by omega)) | exact .inr (.inr (.inl ⟨by assumption, by omega⟩)) | exact .inr (.inr (.inr (.inl (by omega)))) | exact .inr (.inr (.inr (.inr ⟨by omega, by omega⟩)))
             subst hAV
             have hct := hR.count
             simp only [List.length_map, vv] at hct
             exact t6_2_wp w kb hBb hbl kall hR.out.2.1 (by omega) (by omega) (fun all2 l2 k2 => hR.bad hz hw hO.ok (by omega) (by rw [bS_len]; exact Nat.le_refl _) l2 k2 rfl rfl) _ _ _ _ _ _ _ _ _ _ _ _ _ _ _ _ _ _ _ _ _ _
            ·refine brP ((10 * n + ((p.get i) - 48)) = 0) (by first | (simp only [vx, reduceCtorEq, hs, wi, wl, wu, ww, wm, wa]; done) | (simp only [vx, reduceCtorEq, hs, wi, wl, wu, ww, wm, wa]; grind)) (fun c48 => ?_) (fun c48 => ?_)
             ·refine need_wp (⟨_, _, _, rfl⟩) ?_
              refine need_wp (by exact kargs) ?_
              refine need_wp (⟨_, _, _, rfl⟩) ?_
              refine need_wp (⟨_, _, _, rfl⟩) ?_
              refine again_wp rfl ⟨(i + 1), now, (left + 1), (10 * n + ((p.get i) - 48)), true, args, many, arg, out, by first | (simp only [vx, reduceCtorEq, hs, wi, wl, wu, ww, wm, wa]; done) | rfl, ?_⟩ ?_
              ·have hs := num_dig hz0 hz1 hσ hR.n hR.sm (by rintro ⟨h1, h2, h3⟩; simp only [Ks.least] at h3; first | omega | exact absurd h2 (by assumption)) (by omega) (by omega) (by rintro ⟨h1, h2⟩; first | omega | exact absurd h1 (by assumption)) (by simp only [Ks.most]; omega) (by rintro ⟨h1, h2⟩; simp only [Ks.least] at h2; omega); exact ⟨by omega, by omega, _, hR.next' hz hz0 hz1 ht hs (by have := hR.now; rw [hσ] at this; simpa only [hσ] using this) (by first | omega | (simp only; omega)) rfl rfl hR.many (fun h => hR.args h) hR.arg hR.out⟩
              ·(try simp only [vx, reduceCtorEq, hs, wi, wl, wu, ww, wm, wa]); omega
             ·refine need_wp (⟨_, _, _, rfl⟩) ?_
              refine need_wp (by exact kargs) ?_
              refine need_wp (⟨_, _, _, rfl⟩) ?_
              refine need_wp (⟨_, _, _, rfl⟩) ?_
              refine again_wp rfl ⟨(i + 1), now, (left + 1), (10 * n + ((p.get i) - 48)), true, args, many, arg, out, by first | (simp only [vx, reduceCtorEq, hs, wi, wl, wu, ww, wm, wa]; done) | rfl, ?_⟩ ?_
              ·have hs := num_dig hz0 hz1 hσ hR.n hR.sm (by rintro ⟨h1, h2, h3⟩; simp only [Ks.least] at h3; first | omega | exact absurd h2 (by assumption)) (by omega) (by omega) (by rintro ⟨h1, h2⟩; first | omega | exact absurd h1 (by assumption)) (by simp only [Ks.most]; omega) (by rintro ⟨h1, h2⟩; simp only [Ks.least] at h2; omega); exact ⟨by omega, by omega, _, hR.next' hz hz0 hz1 ht hs (by have := hR.now; rw [hσ] at this; simpa only [hσ] using this) (by first | omega | (simp only; omega)) rfl rfl hR.many (fun h => hR.args h) hR.arg hR.out⟩
              ·(try simp only [vx, reduceCtorEq, hs, wi, wl, wu, ww, wm, wa]); omega
        ·refine brP ((p.get i) < 48) (by first | (simp only [vx, reduceCtorEq, hs, wi, wl]; done) | (simp only [vx, reduceCtorEq, hs, wi, wl]; grind)) (fun c49 => ?_) (fun c49 => ?_)
         ·have hw : stepZ m (p.get i) = none := by
           refine num_none hz0 hz1 hσ hR.n hR.sm ?_ ?_
           ·rintro ⟨h1, h2, h3⟩; simp only [Ks.least] at h3; first | omega | exact absurd h2 (by assumption)
           ·simp only [Ks.least, Ks.most]; first | exact .inl (by omega) | exact .inr (.inl (by omega)) | exact .inr (.inr (.inl ⟨by assumption, by omega⟩)) | exact .inr (.inr (.inr (.inl (by omega)))) | exact .inr (.inr (.inr (.inr ⟨by omega, by omega⟩)))
          subst hAV
          have hct := hR.count
          simp only [List.length_map, vv] at hct
          exact t6_2_wp w kb hBb hbl kall hR.out.2.1 (by omega) (by omega) (fun all2 l2 k2 => hR.bad hz hw hO.ok (by omega) (by rw [bS_len]; exact Nat.le_refl _) l2 k2 rfl rfl) _ _ _ _ _ _ _ _ _ _ _ _ _ _ _ _ _ _ _ _ _ _
         ·refine brP ((p.get i) > 57) (by first | (simp only [vx, reduceCtorEq, hs, wi, wl]; done) | (simp only [vx, reduceCtorEq, hs, wi, wl]; grind)) (fun c50 => ?_) (fun c50 => ?_)
          ·have hw : stepZ m (p.get i) = none := by
            refine num_none hz0 hz1 hσ hR.n hR.sm ?_ ?_
            ·rintro ⟨h1, h2, h3⟩; simp only [Ks.least] at h3; first | omega | exact absurd h2 (by assumption)
            ·simp only [Ks.least, Ks.most]; first | exact .inl (by omega) | exact .inr (.inl (by omega)) | exact .inr (.inr (.inl ⟨by assumption, by omega⟩)) | exact .inr (.inr (.inr (.inl (by omega)))) | exact .inr (.inr (.inr (.inr ⟨by omega, by omega⟩)))
           subst hAV
           have hct := hR.count
           simp only [List.length_map, vv] at hct
           exact t6_2_wp w kb hBb hbl kall hR.out.2.1 (by omega) (by omega) (fun all2 l2 k2 => hR.bad hz hw hO.ok (by omega) (by rw [bS_len]; exact Nat.le_refl _) l2 k2 rfl rfl) _ _ _ _ _ _ _ _ _ _ _ _ _ _ _ _ _ _ _ _ _ _
          ·have wu : IntKind.u8.wrap ((p.get i) - 48) = (p.get i) - 48 := by rw [IntKind.wrap_u8]; omega
           have ww : IntKind.i64.wrap ((p.get i) - 48) = (p.get i) - 48 := wrap_id _ (by omega) (by omega)
           have wm : IntKind.i64.wrap (10 * n) = 10 * n := wrap_id _ (by omega) (by omega)
           have wa : IntKind.i64.wrap (10 * n + ((p.get i) - 48)) = 10 * n + ((p.get i) - 48) := wrap_id _ (by omega) (by omega)
           refine brP (sm = true) (by first | (simp only [vx, reduceCtorEq, hs, wi, wl, wu, ww, wm, wa]; done) | (simp only [vx, reduceCtorEq, hs, wi, wl, wu, ww, wm, wa]; grind)) (fun c51 => ?_) (fun c51 => ?_)
           ·refine brP (n = 0) (by first | (simp only [vx, reduceCtorEq, hs, wi, wl, wu, ww, wm, wa]; done) | (simp only [vx, reduceCtorEq, hs, wi, wl, wu, ww, wm, wa]; grind)) (fun c52 => ?_) (fun c52 => ?_)
            ·have hw : stepZ m (p.get i) = none := by
              refine num_none hz0 hz1 hσ hR.n hR.sm ?_ ?_
              ·rintro ⟨h1, h2, h3⟩; simp only [Ks.least] at h3; first | omega | exact absurd h2 (by assumption)
              ·simp only [Ks.least, Ks.most]; first | exact .inl (by omega) | exact .inr (.inl (by omega)) | exact .inr (.inr (.inl ⟨by assumption, by omega⟩)) | exact .inr (.inr (.inr (.inl (by omega)))) | exact .inr (.inr (.inr (.inr ⟨by omega, by omega⟩)))
             subst hAV
             have hct := hR.count
             simp only [List.length_map, vv] at hct
             exact t6_2_wp w kb hBb hbl kall hR.out.2.1 (by omega) (by omega) (fun all2 l2 k2 => hR.bad hz hw hO.ok (by omega) (by rw [bS_len]; exact Nat.le_refl _) l2 k2 rfl rfl) _ _ _ _ _ _ _ _ _ _ _ _ _ _ _ _ _ _ _ _ _ _
            ·refine brP ((10 * n + ((p.get i) - 48)) > 1000) (by first | (simp only [vx, reduceCtorEq, hs, wi, wl, wu, ww, wm, wa]; done) | (simp only [vx, reduceCtorEq, hs, wi, wl, wu, ww, wm, wa]; grind)) (fun c53 => ?_) (fun c53 => ?_)
             ·have hw : stepZ m (p.get i) = none := by
               refine num_none hz0 hz1 hσ hR.n hR.sm ?_ ?_
               ·rintro ⟨h1, h2, h3⟩; simp only [Ks.least] at h3; first | omega | exact absurd h2 (by assumption)
               ·simp only [Ks.least, Ks.most]; first | exact .inl (by omega) | exact .inr (.inl (by omega)) | exact .inr (.inr (.inl ⟨by assumption, by omega⟩)) | exact .inr (.inr (.inr (.inl (by omega)))) | exact .inr (.inr (.inr (.inr ⟨by omega, by omega⟩)))
              subst hAV
              have hct := hR.count
              simp only [List.length_map, vv] at hct
              exact t6_2_wp w kb hBb hbl kall hR.out.2.1 (by omega) (by omega) (fun all2 l2 k2 => hR.bad hz hw hO.ok (by omega) (by rw [bS_len]; exact Nat.le_refl _) l2 k2 rfl rfl) _ _ _ _ _ _ _ _ _ _ _ _ _ _ _ _ _ _ _ _ _ _
             ·refine brP ((10 * n + ((p.get i) - 48)) = 0) (by first | (simp only [vx, reduceCtorEq, hs, wi, wl, wu, ww, wm, wa]; done) | (simp only [vx, reduceCtorEq, hs, wi, wl, wu, ww, wm, wa]; grind)) (fun c54 => ?_) (fun c54 => ?_)
              ·refine need_wp (⟨_, _, _, rfl⟩) ?_
               refine need_wp (by exact kargs) ?_
               refine need_wp (⟨_, _, _, rfl⟩) ?_
               refine need_wp (⟨_, _, _, rfl⟩) ?_
               refine again_wp rfl ⟨(i + 1), now, (left + 1), (10 * n + ((p.get i) - 48)), true, args, many, arg, out, by first | (simp only [vx, reduceCtorEq, hs, wi, wl, wu, ww, wm, wa]; done) | rfl, ?_⟩ ?_
               ·have hs := num_dig hz0 hz1 hσ hR.n hR.sm (by rintro ⟨h1, h2, h3⟩; simp only [Ks.least] at h3; first | omega | exact absurd h2 (by assumption)) (by omega) (by omega) (by rintro ⟨h1, h2⟩; first | omega | exact absurd h1 (by assumption)) (by simp only [Ks.most]; omega) (by rintro ⟨h1, h2⟩; simp only [Ks.least] at h2; omega); exact ⟨by omega, by omega, _, hR.next' hz hz0 hz1 ht hs (by have := hR.now; rw [hσ] at this; simpa only [hσ] using this) (by first | omega | (simp only; omega)) rfl rfl hR.many (fun h => hR.args h) hR.arg hR.out⟩
               ·(try simp only [vx, reduceCtorEq, hs, wi, wl, wu, ww, wm, wa]); omega
              ·refine need_wp (⟨_, _, _, rfl⟩) ?_
               refine need_wp (by exact kargs) ?_
               refine need_wp (⟨_, _, _, rfl⟩) ?_
               refine need_wp (⟨_, _, _, rfl⟩) ?_
               refine again_wp rfl ⟨(i + 1), now, (left + 1), (10 * n + ((p.get i) - 48)), true, args, many, arg, out, by first | (simp only [vx, reduceCtorEq, hs, wi, wl, wu, ww, wm, wa]; done) | rfl, ?_⟩ ?_
               ·have hs := num_dig hz0 hz1 hσ hR.n hR.sm (by rintro ⟨h1, h2, h3⟩; simp only [Ks.least] at h3; first | omega | exact absurd h2 (by assumption)) (by omega) (by omega) (by rintro ⟨h1, h2⟩; first | omega | exact absurd h1 (by assumption)) (by simp only [Ks.most]; omega) (by rintro ⟨h1, h2⟩; simp only [Ks.least] at h2; omega); exact ⟨by omega, by omega, _, hR.next' hz hz0 hz1 ht hs (by have := hR.now; rw [hσ] at this; simpa only [hσ] using this) (by first | omega | (simp only; omega)) rfl rfl hR.many (fun h => hR.args h) hR.arg hR.out⟩
               ·(try simp only [vx, reduceCtorEq, hs, wi, wl, wu, ww, wm, wa]); omega
           ·refine brP ((10 * n + ((p.get i) - 48)) > 1000) (by first | (simp only [vx, reduceCtorEq, hs, wi, wl, wu, ww, wm, wa]; done) | (simp only [vx, reduceCtorEq, hs, wi, wl, wu, ww, wm, wa]; grind)) (fun c55 => ?_) (fun c55 => ?_)
            ·have hw : stepZ m (p.get i) = none := by
              refine num_none hz0 hz1 hσ hR.n hR.sm ?_ ?_
              ·rintro ⟨h1, h2, h3⟩; simp only [Ks.least] at h3; first | omega | exact absurd h2 (by assumption)
              ·simp only [Ks.least, Ks.most]; first | exact .inl (by omega) | exact .inr (.inl (by omega)) | exact .inr (.inr (.inl ⟨by assumption, by omega⟩)) | exact .inr (.inr (.inr (.inl (by omega)))) | exact .inr (.inr (.inr (.inr ⟨by omega, by omega⟩)))
             subst hAV
             have hct := hR.count
             simp only [List.length_map, vv] at hct
             exact t6_2_wp w kb hBb hbl kall hR.out.2.1 (by omega) (by omega) (fun all2 l2 k2 => hR.bad hz hw hO.ok (by omega) (by rw [bS_len]; exact Nat.le_refl _) l2 k2 rfl rfl) _ _ _ _ _ _ _ _ _ _ _ _ _ _ _ _ _ _ _ _ _ _
            ·refine brP ((10 * n + ((p.get i) - 48)) = 0) (by first | (simp only [vx, reduceCtorEq, hs, wi, wl, wu, ww, wm, wa]; done) | (simp only [vx, reduceCtorEq, hs, wi, wl, wu, ww, wm, wa]; grind)) (fun c56 => ?_) (fun c56 => ?_)
             ·refine need_wp (⟨_, _, _, rfl⟩) ?_
              refine need_wp (by exact kargs) ?_
              refine need_wp (⟨_, _, _, rfl⟩) ?_
              refine need_wp (⟨_, _, _, rfl⟩) ?_
              refine again_wp rfl ⟨(i + 1), now, (left + 1), (10 * n + ((p.get i) - 48)), true, args, many, arg, out, by first | (simp only [vx, reduceCtorEq, hs, wi, wl, wu, ww, wm, wa]; done) | rfl, ?_⟩ ?_
              ·have hs := num_dig hz0 hz1 hσ hR.n hR.sm (by rintro ⟨h1, h2, h3⟩; simp only [Ks.least] at h3; first | omega | exact absurd h2 (by assumption)) (by omega) (by omega) (by rintro ⟨h1, h2⟩; first | omega | exact absurd h1 (by assumption)) (by simp only [Ks.most]; omega) (by rintro ⟨h1, h2⟩; simp only [Ks.least] at h2; omega); exact ⟨by omega, by omega, _, hR.next' hz hz0 hz1 ht hs (by have := hR.now; rw [hσ] at this; simpa only [hσ] using this) (by first | omega | (simp only; omega)) rfl rfl hR.many (fun h => hR.args h) hR.arg hR.out⟩
              ·(try simp only [vx, reduceCtorEq, hs, wi, wl, wu, ww, wm, wa]); omega
             ·refine need_wp (⟨_, _, _, rfl⟩) ?_
              refine need_wp (by exact kargs) ?_
              refine need_wp (⟨_, _, _, rfl⟩) ?_
              refine need_wp (⟨_, _, _, rfl⟩) ?_
              refine again_wp rfl ⟨(i + 1), now, (left + 1), (10 * n + ((p.get i) - 48)), true, args, many, arg, out, by first | (simp only [vx, reduceCtorEq, hs, wi, wl, wu, ww, wm, wa]; done) | rfl, ?_⟩ ?_
              ·have hs := num_dig hz0 hz1 hσ hR.n hR.sm (by rintro ⟨h1, h2, h3⟩; simp only [Ks.least] at h3; first | omega | exact absurd h2 (by assumption)) (by omega) (by omega) (by rintro ⟨h1, h2⟩; first | omega | exact absurd h1 (by assumption)) (by simp only [Ks.most]; omega) (by rintro ⟨h1, h2⟩; simp only [Ks.least] at h2; omega); exact ⟨by omega, by omega, _, hR.next' hz hz0 hz1 ht hs (by have := hR.now; rw [hσ] at this; simpa only [hσ] using this) (by first | omega | (simp only; omega)) rfl rfl hR.many (fun h => hR.args h) hR.arg hR.out⟩
              ·(try simp only [vx, reduceCtorEq, hs, wi, wl, wu, ww, wm, wa]); omega
       ·refine brP (cloB (.some 40) [(.int .u8 10), (.fn 44)] now = true) (by first | (simp only [vx, reduceCtorEq, hs, wi, wl]; done) | (simp only [vx, reduceCtorEq, hs, wi, wl]; grind)) (fun c57 => ?_) (fun c57 => ?_)
        ·have hσ : m.σ = (.lf .szd) := now_of (τ := (.lf .szd)) hR.now c57
         refine brP ((p.get i) ≠ 10) (by first | (simp only [vx, reduceCtorEq, hs, wi, wl]; done) | (simp only [vx, reduceCtorEq, hs, wi, wl]; grind)) (fun c58 => ?_) (fun c58 => ?_)
         ·have hw : stepZ m (p.get i) = none := by rw [sz_lfs hz0 hz1 hσ, if_neg (by omega)]
          subst hAV
          have hct := hR.count
          simp only [List.length_map, vv] at hct
          exact t6_2_wp w kb hBb hbl kall hR.out.2.1 (by omega) (by omega) (fun all2 l2 k2 => hR.bad hz hw hO.ok (by omega) (by rw [bS_len]; exact Nat.le_refl _) l2 k2 rfl rfl) _ _ _ _ _ _ _ _ _ _ _ _ _ _ _ _ _ _ _ _ _ _
         ·refine need_wp (⟨_, _, _, rfl⟩) ?_
          refine brP (0 = n) (by first | (simp only [vx, reduceCtorEq, hs, wi, wl]; done) | (simp only [vx, reduceCtorEq, hs, wi, wl]; grind)) (fun c59 => ?_) (fun c59 => ?_)
          ·refine clo_wp ?_
           intro y7 o7 q7
           refine need_wp (⟨_, _, _, rfl⟩) ?_
           refine need_wp (by exact kargs) ?_
           refine need_wp (⟨_, _, _, rfl⟩) ?_
           refine need_wp (⟨_, _, _, rfl⟩) ?_
           refine again_wp rfl ⟨(i + 1), y7, (left + 1), n, sm, args, many, (Rw.nil : Rw Int), out, by first | (simp only [vx, reduceCtorEq, hs, wi, wl]; done) | (simp only [vx, reduceCtorEq, hs, wi, wl]; rfl) | (simp only [vx, reduceCtorEq, hs, wi, wl, Rw.nil, Rw.atom, List.length_nil, List.map_nil]; done), ?_⟩ ?_
           ·have hs := (sz_lfs hz0 hz1 hσ).trans (if_pos (by omega)); exact ⟨by omega, by omega, _, hR.next' hz hz0 hz1 ht hs (by first | (rw [if_pos (by omega)]; exact q7) | (rw [if_neg (by omega)]; exact q7)) (by first | omega | (simp only; omega)) hR.n hR.sm hR.many (fun _ => hR.args (by rw [hσ]; rfl)) ⟨rfl, .inl rfl⟩ hR.out⟩
           ·(try simp only [vx, reduceCtorEq, hs, wi, wl]); omega
          ·refine clo_wp ?_
           intro y8 o8 q8
           refine need_wp (⟨_, _, _, rfl⟩) ?_
           refine need_wp (by exact kargs) ?_
           refine need_wp (⟨_, _, _, rfl⟩) ?_
           refine need_wp (⟨_, _, _, rfl⟩) ?_
           refine again_wp rfl ⟨(i + 1), y8, (left + 1), n, sm, args, many, (Rw.nil : Rw Int), out, by first | (simp only [vx, reduceCtorEq, hs, wi, wl]; done) | (simp only [vx, reduceCtorEq, hs, wi, wl]; rfl) | (simp only [vx, reduceCtorEq, hs, wi, wl, Rw.nil, Rw.atom, List.length_nil, List.map_nil]; done), ?_⟩ ?_
           ·have hs := (sz_lfs hz0 hz1 hσ).trans (if_pos (by omega)); exact ⟨by omega, by omega, _, hR.next' hz hz0 hz1 ht hs (by first | (rw [if_pos (by omega)]; exact q8) | (rw [if_neg (by omega)]; exact q8)) (by first | omega | (simp only; omega)) hR.n hR.sm hR.many (fun _ => hR.args (by rw [hσ]; rfl)) ⟨rfl, .inl rfl⟩ hR.out⟩
           ·(try simp only [vx, reduceCtorEq, hs, wi, wl]); omega
        ·refine brP (cloB (.some 48) [] now = true) (by first | (simp only [vx, reduceCtorEq, hs, wi, wl]; done) | (simp only [vx, reduceCtorEq, hs, wi, wl]; grind)) (fun c60 => ?_) (fun c60 => ?_)
         ·have hσ : m.σ = .byt := now_of (τ := .byt) hR.now c60
          have hwt := hR.wt
          have hGl : arg.l.length = m.arg.length := by rw [hR.arg.1, bI_len]
          simp only [Wt, hσ] at hwt
          have kA : arg.ok 1 := hR.arg.2
          refine new_wp eB [(p.get i)] (by first | (simp only [vx, reduceCtorEq, hs, wi, wl, eB]; done) | rfl) ?_
          intro a2 b2
          generalize hx2 : (⟨a2, b2, 1, [(p.get i)]⟩ : Rw Int) = x2
          have lx2 : x2.l = [(p.get i)] := by first | (rw [← hx2]; done) | (rw [← hx2]; rfl)
          have zx2 : x2.z = 1 := by rw [← hx2]
          have kx2 : Rw.ok 1 x2 := .inr zx2
          have nx2 : (x2.l.length : Int) = 1 := by first | (rw [← hx2]; done) | (rw [← hx2]; simp [Rw.nil])
          refine need_wp (rw_row _ _) ?_
          refine need_wp (⟨_, _, _, rfl⟩) ?_
          refine need_wp (by first | exact rw_szz (by assumption) | exact rw_szz (.inr rfl)) ?_
          refine need_wp (by simp only [vx, reduceCtorEq, hs, wi, wl, vlen]; first | omega | (grind)) ?_
          refine need_wp (by simp only [vx, reduceCtorEq, hs, wi, wl, vlen]; first | omega | (grind)) ?_
          refine app_wp eB arg x2 (by first | rfl | simp only [vx, reduceCtorEq, hs, wi, wl]) (by first | rfl | simp only [vx, reduceCtorEq, hs, wi, wl]) ?_
          intro a3 b3
          generalize hx3 : (⟨a3, b3, 1, arg.l ++ x2.l⟩ : Rw Int) = x3
          have lx3 : x3.l = arg.l ++ x2.l := by first | (rw [← hx3]; done) | (rw [← hx3]; rfl)
          have zx3 : x3.z = 1 := by rw [← hx3]
          have kx3 : Rw.ok 1 x3 := .inr zx3
          have nx3 : (x3.l.length : Int) = (arg.l.length : Int) + (x2.l.length : Int) := by first | (rw [← hx3]; done) | (rw [← hx3]; simp [Rw.nil])
          refine need_wp (⟨_, _, _, rfl⟩) ?_
          refine brP ((x3.l.length : Int) = n) (by first | (simp only [vx, reduceCtorEq, hs, wi, wl]; done) | (simp only [vx, reduceCtorEq, hs, wi, wl]; grind)) (fun c61 => ?_) (fun c61 => ?_)
          ·refine clo_wp ?_
           intro y9 o9 q9
           refine need_wp (⟨_, _, _, rfl⟩) ?_
           refine need_wp (by exact kargs) ?_
           refine need_wp (⟨_, _, _, rfl⟩) ?_
           refine need_wp (⟨_, _, _, rfl⟩) ?_
           refine again_wp rfl ⟨(i + 1), y9, (left + 1), n, sm, args, many, x3, out, by first | (simp only [vx, reduceCtorEq, hs, wi, wl]; done) | rfl, ?_⟩ ?_
           ·have hs := sz_byt (z := p.get i) hσ; exact ⟨by omega, by omega, _, hR.next' hz hz0 hz1 ht hs (by first | (rw [if_pos (by rw [List.length_append, List.length_singleton]; omega)]; exact q9) | (rw [if_neg (by rw [List.length_append, List.length_singleton]; omega)]; exact q9)) (by first | omega | (simp only; omega)) hR.n hR.sm hR.many (fun _ => hR.args (by rw [hσ]; rfl)) ⟨by rw [lx3, hR.arg.1, lx2, bI_app]; simp only [bI, List.map_cons, List.map_nil, u8_n hz0 hz1], kx3⟩ hR.out⟩
           ·(try simp only [vx, reduceCtorEq, hs, wi, wl]); omega
          ·refine clo_wp ?_
           intro y10 o10 q10
           refine need_wp (⟨_, _, _, rfl⟩) ?_
           refine need_wp (by exact kargs) ?_
           refine need_wp (⟨_, _, _, rfl⟩) ?_
           refine need_wp (⟨_, _, _, rfl⟩) ?_
           refine again_wp rfl ⟨(i + 1), y10, (left + 1), n, sm, args, many, x3, out, by first | (simp only [vx, reduceCtorEq, hs, wi, wl]; done) | rfl, ?_⟩ ?_
           ·have hs := sz_byt (z := p.get i) hσ; exact ⟨by omega, by omega, _, hR.next' hz hz0 hz1 ht hs (by first | (rw [if_pos (by rw [List.length_append, List.length_singleton]; omega)]; exact q10) | (rw [if_neg (by rw [List.length_append, List.length_singleton]; omega)]; exact q10)) (by first | omega | (simp only; omega)) hR.n hR.sm hR.many (fun _ => hR.args (by rw [hσ]; rfl)) ⟨by rw [lx3, hR.arg.1, lx2, bI_app]; simp only [bI, List.map_cons, List.map_nil, u8_n hz0 hz1], kx3⟩ hR.out⟩
           ·(try simp only [vx, reduceCtorEq, hs, wi, wl]); omega
         ·refine brP (cloB (.some 40) [(.int .u8 13), (.fn 46)] now = true) (by first | (simp only [vx, reduceCtorEq, hs, wi, wl]; done) | (simp only [vx, reduceCtorEq, hs, wi, wl]; grind)) (fun c62 => ?_) (fun c62 => ?_)
          ·have hσ : m.σ = .cr := now_of (τ := .cr) hR.now c62
           refine brP ((p.get i) ≠ 13) (by first | (simp only [vx, reduceCtorEq, hs, wi, wl]; done) | (simp only [vx, reduceCtorEq, hs, wi, wl]; grind)) (fun c63 => ?_) (fun c63 => ?_)
           ·have hw : stepZ m (p.get i) = none := by rw [sz_cr hz0 hz1 hσ, if_neg (by omega)]
            subst hAV
            have hct := hR.count
            simp only [List.length_map, vv] at hct
            exact t6_2_wp w kb hBb hbl kall hR.out.2.1 (by omega) (by omega) (fun all2 l2 k2 => hR.bad hz hw hO.ok (by omega) (by rw [bS_len]; exact Nat.le_refl _) l2 k2 rfl rfl) _ _ _ _ _ _ _ _ _ _ _ _ _ _ _ _ _ _ _ _ _ _
           ·refine clo_wp ?_
            intro y11 o11 q11
            refine need_wp (⟨_, _, _, rfl⟩) ?_
            refine need_wp (by exact kargs) ?_
            refine need_wp (⟨_, _, _, rfl⟩) ?_
            refine need_wp (⟨_, _, _, rfl⟩) ?_
            refine again_wp rfl ⟨(i + 1), y11, (left + 1), n, sm, args, many, arg, out, by first | (simp only [vx, reduceCtorEq, hs, wi, wl]; done) | rfl, ?_⟩ ?_
            ·have hs := (sz_cr hz0 hz1 hσ).trans (if_pos (by omega)); exact ⟨by omega, by omega, _, hR.next' hz hz0 hz1 ht hs (q11) (by first | omega | (simp only; omega)) hR.n hR.sm hR.many (fun _ => hR.args (by rw [hσ]; rfl)) hR.arg hR.out⟩
            ·(try simp only [vx, reduceCtorEq, hs, wi, wl]); omega
          ·refine brP (cloB (.some 40) [(.int .u8 10), (.fn 47)] now = true) (by first | (simp only [vx, reduceCtorEq, hs, wi, wl]; done) | (simp only [vx, reduceCtorEq, hs, wi, wl]; grind)) (fun c64 => ?_) (fun c64 => ?_)
           ·have hσ : m.σ = .lf2 := now_of (τ := .lf2) hR.now c64
            obtain ⟨rA, eA, hA1, hA2⟩ := hR.args (by rw [hσ]; rfl)
            subst eA
            have hwt := hR.wt
            have hAl := wS_len m.args
            have hAl2 : rA.l.length = m.args.length := by rw [← hA1, List.length_map]
            have hBs : isB arg.l := by rw [hR.arg.1]; exact isB_bI _
            have kA : arg.ok 1 := hR.arg.2
            simp only [Wt, hσ] at hwt
            have hOl := wO_len m.out
            have hOl2 : out.l.length ≤ m.out.length := by rw [← hR.out.1]; simp [vv]
            have kO : out.ok 1 := hR.out.2.1
            refine brP ((p.get i) ≠ 10) (by first | (simp only [vx, reduceCtorEq, hs, wi, wl]; done) | (simp only [vx, reduceCtorEq, hs, wi, wl]; grind)) (fun c65 => ?_) (fun c65 => ?_)
            ·have hw : stepZ m (p.get i) = none := by rw [sz_lf2 hz0 hz1 hσ, if_neg (by omega)]
             subst hAV
             have hct := hR.count
             simp only [List.length_map, vv] at hct
             exact t6_2_wp w kb hBb hbl kall hR.out.2.1 (by omega) (by omega) (fun all2 l2 k2 => hR.bad hz hw hO.ok (by omega) (by rw [bS_len]; exact Nat.le_refl _) l2 k2 rfl rfl) _ _ _ _ _ _ _ _ _ _ _ _ _ _ _ _ _ _ _ _ _ _
            ·refine need_wp (⟨_, _, _, rfl⟩) ?_
             refine need_wp (by simp only [vx, reduceCtorEq, hs, wi, wl]; exact need_bytes (by assumption) (by assumption)) ?_
             refine new_wp eS [(ofBytes arg.l)] (by first | (simp only [vx, reduceCtorEq, hs, wi, wl, eS]; done) | rfl) ?_
             intro a4 b4
             generalize hx4 : (⟨a4, b4, 1, [(ofBytes arg.l)]⟩ : Rw ByteArray) = x4
             have lx4 : x4.l = [(ofBytes arg.l)] := by first | (rw [← hx4]; done) | (rw [← hx4]; rfl)
             have zx4 : x4.z = 1 := by rw [← hx4]
             have kx4 : Rw.ok 1 x4 := .inr zx4
             have nx4 : (x4.l.length : Int) = 1 := by first | (rw [← hx4]; done) | (rw [← hx4]; simp [Rw.nil])
             refine need_wp (rw_row _ _) ?_
             refine need_wp (⟨_, _, _, rfl⟩) ?_
             refine need_wp (by first | exact rw_szz (by assumption) | exact rw_szz (.inr rfl)) ?_
             refine need_wp (by simp only [vx, reduceCtorEq, hs, wi, wl, vlen]; first | omega | (grind)) ?_
             refine need_wp (by simp only [vx, reduceCtorEq, hs, wi, wl, vlen]; first | omega | (grind)) ?_
             refine app_wp eS rA x4 (by first | rfl | simp only [vx, reduceCtorEq, hs, wi, wl]) (by first | rfl | simp only [vx, reduceCtorEq, hs, wi, wl]) ?_
             intro a5 b5
             generalize hx5 : (⟨a5, b5, 1, rA.l ++ x4.l⟩ : Rw ByteArray) = x5
             have lx5 : x5.l = rA.l ++ x4.l := by first | (rw [← hx5]; done) | (rw [← hx5]; rfl)
             have zx5 : x5.z = 1 := by rw [← hx5]
             have kx5 : Rw.ok 1 x5 := .inr zx5
             have nx5 : (x5.l.length : Int) = (rA.l.length : Int) + (x4.l.length : Int) := by first | (rw [← hx5]; done) | (rw [← hx5]; simp [Rw.nil])
             refine need_wp (⟨_, _, _, rfl⟩) ?_
             refine brP ((x5.l.length : Int) < many) (by first | (simp only [vx, reduceCtorEq, hs, wi, wl]; done) | (simp only [vx, reduceCtorEq, hs, wi, wl]; grind)) (fun c66 => ?_) (fun c66 => ?_)
             ·refine clo_wp ?_
              intro y12 o12 q12
              refine need_wp (⟨_, _, _, rfl⟩) ?_
              refine need_wp (⟨_, _, _, rfl⟩) ?_
              refine need_wp (⟨_, _, _, rfl⟩) ?_
              refine need_wp (⟨_, _, _, rfl⟩) ?_
              refine again_wp rfl ⟨(i + 1), y12, (left + 1), n, sm, (Rw.atom eS x5), many, arg, out, by first | (simp only [vx, reduceCtorEq, hs, wi, wl]; done) | rfl, ?_⟩ ?_
              ·have hs := ((sz_lf2 hz0 hz1 hσ).trans (if_pos (by omega))).trans (if_pos (by rw [List.length_append, List.length_singleton]; have := hR.many; omega)); exact ⟨by omega, by omega, _, hR.next' hz hz0 hz1 ht hs q12 (by first | omega | (simp only; omega)) hR.n hR.sm hR.many (fun _ => ⟨x5, rfl, by rw [lx5, List.map_append, hA1, lx4]; simp [hR.arg.1, ls_ofBytes], kx5⟩) hR.arg hR.out⟩
              ·(try simp only [vx, reduceCtorEq, hs, wi, wl]); omega
             ·refine new_wp eL [x5] (by first | (simp only [vx, reduceCtorEq, hs, wi, wl, eL]; done) | rfl) ?_
              intro a6 b6
              generalize hx6 : (⟨a6, b6, 1, [x5]⟩ : Rw (Rw ByteArray)) = x6
              have lx6 : x6.l = [x5] := by first | (rw [← hx6]; done) | (rw [← hx6]; rfl)
              have zx6 : x6.z = 1 := by rw [← hx6]
              have kx6 : Rw.ok 1 x6 := .inr zx6
              have nx6 : (x6.l.length : Int) = 1 := by first | (rw [← hx6]; done) | (rw [← hx6]; simp [Rw.nil])
              refine need_wp (⟨_, _, rfl⟩) ?_
              refine need_wp (⟨_, _, _, rfl⟩) ?_
              refine need_wp (by first | exact rw_szz (by assumption) | exact rw_szz (.inr rfl)) ?_
              refine need_wp (by simp only [vx, reduceCtorEq, hs, wi, wl, vlen]; first | omega | (grind)) ?_
              refine need_wp (by simp only [vx, reduceCtorEq, hs, wi, wl, vlen]; first | omega | (grind)) ?_
              refine app_wp eL (Rw.nil : Rw (Rw ByteArray)) x6 (by first | rfl | simp only [vx, reduceCtorEq, hs, wi, wl]) (by first | rfl | simp only [vx, reduceCtorEq, hs, wi, wl]) ?_
              intro a7 b7
              generalize hx7 : (⟨a7, b7, 1, (Rw.nil : Rw (Rw ByteArray)).l ++ x6.l⟩ : Rw (Rw ByteArray)) = x7
              have lx7 : x7.l = x6.l := by first | (rw [← hx7]; done) | (rw [← hx7]; rfl) | (rw [← hx7]; simp [Rw.nil])
              have zx7 : x7.z = 1 := by rw [← hx7]
              have kx7 : Rw.ok 1 x7 := .inr zx7
              have nx7 : (x7.l.length : Int) = 0 + (x6.l.length : Int) := by first | (rw [← hx7]; done) | (rw [← hx7]; simp [Rw.nil])
              refine clo_wp ?_
              intro y13 o13 q13
              refine need_wp (⟨_, _, _, rfl⟩) ?_
              refine brP (0 < (x7.l.length : Int)) (by first | (simp only [vx, reduceCtorEq, hs, wi, wl]; done) | (simp only [vx, reduceCtorEq, hs, wi, wl]; grind)) (fun c67 => ?_) (fun c67 => ?_)
              ·have hg := cell_L x7 (i := 0) (by omega) c67
               have hg6 : x7.get 0 = x5 := by unfold Rw.get; rw [lx7, lx6]; rfl
               refine need_wp (⟨_, _, _, rfl⟩) ?_
               refine need_wp (rw_row _ _) ?_
               refine need_wp (⟨_, _, _, rfl⟩) ?_
               refine need_wp (rw_row _ _) ?_
               refine need_wp (rw_sz' zx7) ?_
               refine need_wp (by simp only [vx, reduceCtorEq, hs, wi, wl, hg]; first | exact ⟨_, _, _, rfl⟩ | exact kind_Rl (by omega) (by omega)) ?_
               refine new_wp eL [(x7.get 0)] (by first | (simp only [vx, reduceCtorEq, hs, wi, wl, hg, eL]; done) | rfl) ?_
               intro a8 b8
               generalize hx8 : (⟨a8, b8, 1, [(x7.get 0)]⟩ : Rw (Rw ByteArray)) = x8
               have lx8 : x8.l = [(x7.get 0)] := by first | (rw [← hx8]; done) | (rw [← hx8]; rfl)
               have zx8 : x8.z = 1 := by rw [← hx8]
               have kx8 : Rw.ok 1 x8 := .inr zx8
               have nx8 : (x8.l.length : Int) = 1 := by first | (rw [← hx8]; done) | (rw [← hx8]; simp [Rw.nil])
               refine need_wp (rw_row _ _) ?_
               refine need_wp (⟨_, _, _, rfl⟩) ?_
               refine need_wp (by first | exact rw_szz (by assumption) | exact rw_szz (.inr rfl)) ?_
               refine need_wp (by simp only [vx, reduceCtorEq, hs, wi, wl, hg, vlen]; first | omega | (grind)) ?_
               refine need_wp (by simp only [vx, reduceCtorEq, hs, wi, wl, hg, vlen]; first | omega | (grind)) ?_
               refine app_wp eL out x8 (by first | rfl | simp only [vx, reduceCtorEq, hs, wi, wl, hg]) (by first | rfl | simp only [vx, reduceCtorEq, hs, wi, wl, hg]) ?_
               intro a9 b9
               generalize hx9 : (⟨a9, b9, 1, out.l ++ x8.l⟩ : Rw (Rw ByteArray)) = x9
               have lx9 : x9.l = out.l ++ x8.l := by first | (rw [← hx9]; done) | (rw [← hx9]; rfl)
               have zx9 : x9.z = 1 := by rw [← hx9]
               have kx9 : Rw.ok 1 x9 := .inr zx9
               have nx9 : (x9.l.length : Int) = (out.l.length : Int) + (x8.l.length : Int) := by first | (rw [← hx9]; done) | (rw [← hx9]; simp [Rw.nil])
               refine brP (1 < (x7.l.length : Int)) (by first | (simp only [vx, reduceCtorEq, hs, wi, wl, hg]; done) | (simp only [vx, reduceCtorEq, hs, wi, wl, hg]; grind)) (fun c68 => ?_) (fun c68 => ?_)
               ·exfalso; omega
               ·refine need_wp (by first | exact ⟨_, _, _, rfl⟩ | (simp only [vx, reduceCtorEq, hs, wi, wl, hg]; exact ⟨_, _, _, rfl⟩)) ?_
                refine need_wp (⟨_, _, _, rfl⟩) ?_
                refine need_wp (⟨_, _, _, rfl⟩) ?_
                refine again_wp rfl ⟨(i + 1), y13, 0, n, sm, ((Rw.atom eS x5).1, D.leaf), many, arg, x9, by first | (simp only [vx, reduceCtorEq, hs, wi, wl, hg]; done) | rfl, ?_⟩ ?_
                ·have hs := ((sz_lf2 hz0 hz1 hσ).trans (if_pos (by omega))).trans (if_neg (by rw [List.length_append, List.length_singleton]; have := hR.many; omega)); exact ⟨by omega, by omega, _, hR.next' hz hz0 hz1 ht hs q13 (by first | omega | (simp only; omega)) hR.n hR.sm hR.many (fun h => by simp [hasA] at h) hR.arg ⟨by rw [vv, lx9, lx8, List.map_append, List.map_append, hg6, ← hR.out.1]; simp [vv, lx5, lx4, hA1, hR.arg.1, ls_ofBytes], kx9, by intro y hy; rw [lx9, lx8, hg6] at hy; rcases List.mem_append.1 hy with h | h; exact hR.out.2.2 y h; rw [List.mem_singleton.1 h]; exact kx5⟩⟩
                ·(try simp only [vx, reduceCtorEq, hs, wi, wl, hg]); omega
              ·exfalso; omega
           ·exfalso; first | omega | (have hq := hR.now; cases hσ : m.σ <;> (try (rename_i k; cases k)) <;> rw [hσ] at hq <;> simp only [Now] at hq <;> contradiction)
  ·have hi : i = p.l.length := by omega
   refine pop_wp ?_
   refine need_wp (rw_row _ _) ?_
   refine need_wp (⟨_, _, _, rfl⟩) ?_
   refine need_wp (by first | exact rw_szz (by assumption) | exact rw_szz (.inr rfl)) ?_
   refine need_wp (by simp only [vx, reduceCtorEq, hs, vlen]; first | omega | (grind)) ?_
   refine need_wp (by simp only [vx, reduceCtorEq, hs, vlen]; first | omega | (grind)) ?_
   refine app_wp eL all out (by first | rfl | simp only [vx, reduceCtorEq, hs]) (by first | rfl | simp only [vx, reduceCtorEq, hs]) ?_
   intro a12 b12
   generalize hx12 : (⟨a12, b12, 1, all.l ++ out.l⟩ : Rw (Rw ByteArray)) = x12
   have lx12 : x12.l = all.l ++ out.l := by first | (rw [← hx12]; done) | (rw [← hx12]; rfl)
   have zx12 : x12.z = 1 := by rw [← hx12]
   have kx12 : Rw.ok 1 x12 := .inr zx12
   have nx12 : (x12.l.length : Int) = (all.l.length : Int) + (out.l.length : Int) := by first | (rw [← hx12]; done) | (rw [← hx12]; simp [Rw.nil])
   have hkq : k0 + i.toNat = b.l.length := by omega
   rw [hkq] at hR
   subst hAV
   have hO2 := hR.back hO.ok lx12 kx12 (wr := wr) (by simpa using c1)
   have hF := fin6 w hBb (by omega) hO2 (Nat.le_refl _)
   obtain ⟨hv, he, hlf, hle, hlz⟩ := hF
   rw [if_neg c1] at he
   have hlf := hlf (by simpa using c1)
   have hlk := hR.left
   have hlm := hR.lft
   have wln : IntKind.i64.wrap ((b.l.length : Int) - nn) = (b.l.length : Int) - nn := wrap_id _ (by omega) (by omega)
   refine call_fun ((x12, x)) rfl (by first | (simp only [vx, reduceCtorEq, hs, wln]; done) | (simp only [vx, reduceCtorEq, hs, wln]; rfl)) (⟨hO2.ok, w.ok, by dsimp only; omega, by intro z hz; have := hlz z hz; omega⟩) ?_
   refine brP (vv x12 = vv x) (by first | (simp only [vx, reduceCtorEq, hs, wln]; done) | (simp only [vx, reduceCtorEq, hs, wln]; grind)) (fun c69 => ?_) (fun c69 => ?_)
   ·refine brP (e = 0) (by first | (simp only [vx, reduceCtorEq, hs, wln]; done) | (simp only [vx, reduceCtorEq, hs, wln]; grind)) (fun c70 => ?_) (fun c70 => ?_)
    ·refine brP (e ≠ 0) (by first | (simp only [vx, reduceCtorEq, hs, wln]; done) | (simp only [vx, reduceCtorEq, hs, wln]; grind)) (fun c71 => ?_) (fun c71 => ?_)
     ·exfalso; omega
     ·refine need_wp (⟨_, _, _, rfl⟩) ?_
      refine brP (left = ((b.l.length : Int) - nn)) (by first | (simp only [vx, reduceCtorEq, hs, wln]; done) | (simp only [vx, reduceCtorEq, hs, wln]; grind)) (fun c73 => ?_) (fun c73 => ?_)
      ·refine brP (wr = (decide (e = 7))) (by first | (simp only [vx, reduceCtorEq, hs, wln]; done) | (simp only [vx, reduceCtorEq, hs, wln]; grind)) (fun c74 => ?_) (fun c74 => ?_)
       ·refine call_fun (()) rfl (by first | (simp only [vx, reduceCtorEq, hs, wln]; done) | (simp only [vx, reduceCtorEq, hs, wln]; rfl)) trivial ?_
        refine ret_wp ?_
        try dsimp only
        first | (simp only [vx, reduceCtorEq, hs, wln]; done) | (exfalso; omega)
       ·exfalso; exact c74 (by rw [he]; simp [c1])
      ·exfalso; omega
    ·exfalso; omega
   ·exfalso; exact c69 hv
set_option maxHeartbeats 4000000 in
theorem h6 : holds Try.prog (kLaw6 sg6) := by
 refine fn_holdsC (l := [kKnown sg10, kWhole sg20, kSameR sg15]) ⟨h10, h20, h15, trivial⟩ (inl := [in6_11, in6_27, in6_13, in6_28, in6_37, in6_32, in6_40, in6_33, in6_34, in6_35, in6_41, in6_36, in6_42, in6_43, in6_44, in6_45, in6_46, in6_47, in6_48, in6_17, in6_18]) (by refine ⟨⟨Try.func11, by kernel_rfl, by kernel_rfl, by kernel_rfl⟩, ⟨Try.func27, by kernel_rfl, by kernel_rfl, by kernel_rfl⟩, ⟨Try.func13, by kernel_rfl, by kernel_rfl, by kernel_rfl⟩, ⟨Try.func28, by kernel_rfl, by kernel_rfl, by kernel_rfl⟩, ⟨Try.func37, by kernel_rfl, by kernel_rfl, by kernel_rfl⟩, ⟨Try.func32, by kernel_rfl, by kernel_rfl, by kernel_rfl⟩, ⟨Try.func40, by kernel_rfl, by kernel_rfl, by kernel_rfl⟩, ⟨Try.func33, by kernel_rfl, by kernel_rfl, by kernel_rfl⟩, ⟨Try.func34, by kernel_rfl, by kernel_rfl, by kernel_rfl⟩, ⟨Try.func35, by kernel_rfl, by kernel_rfl, by kernel_rfl⟩, ⟨Try.func41, by kernel_rfl, by kernel_rfl, by kernel_rfl⟩, ⟨Try.func36, by kernel_rfl, by kernel_rfl, by kernel_rfl⟩, ⟨Try.func42, by kernel_rfl, by kernel_rfl, by kernel_rfl⟩, ⟨Try.func43, by kernel_rfl, by kernel_rfl, by kernel_rfl⟩, ⟨Try.func44, by kernel_rfl, by kernel_rfl, by kernel_rfl⟩, ⟨Try.func45, by kernel_rfl, by kernel_rfl, by kernel_rfl⟩, ⟨Try.func46, by kernel_rfl, by kernel_rfl, by kernel_rfl⟩, ⟨Try.func47, by kernel_rfl, by kernel_rfl, by kernel_rfl⟩, ⟨Try.func48, by kernel_rfl, by kernel_rfl, by kernel_rfl⟩, ⟨Try.func17, by kernel_rfl, by kernel_rfl, by kernel_rfl⟩, ⟨Try.func18, by kernel_rfl, by kernel_rfl, by kernel_rfl⟩, trivial⟩) hP [] clos 8 rs6 (inj_of (fun l : List Atom => ((Rw.un unI (l.getD 0 atom0), Rw.un unI (l.getD 1 atom0)) : Rw Int × Rw Int)) (fun _ => by simp [List.getD_cons_zero, List.getD_cons_succ, unA_atom, unL_atom])) Try.func6 (by kernel_rfl) (c := code Try.f6) (by kernel_rfl) (an := an6) (by kernel_rfl) (pk := pk6) rfl (t := t6) ht6 ?_
 rintro ⟨b, cuts⟩ _ ⟨⟨kb, hBb⟩, kc, hBc⟩
 refine ⟨by simp [pk6, KindsOk, RK.ok, Rw.atom, Sl.atom], ?_⟩
 unfold t6 t6v1 t6v2 t6v3 t6v4 t6v5 t6_3
 dsimp only at kb hBb kc hBc
 refine need_wp (⟨_, _, _, rfl⟩) ?_
 refine brP ((b.l.length : Int) > 1500) (by first | (simp only [vx, reduceCtorEq]; done) | (simp only [vx, reduceCtorEq]; grind)) (fun c1 => ?_) (fun c1 => ?_)
 ·refine call_fun (()) rfl (by first | (simp only [vx, reduceCtorEq]; done) | (simp only [vx, reduceCtorEq]; rfl)) trivial ?_
  refine ret_wp ?_
  try dsimp only
  simp only [vx, reduceCtorEq]
 ·have hbl : b.l.length ≤ 1500 := by omega
  refine need_wp (⟨_, _, _, rfl⟩) ?_
  refine brP ((cuts.l.length : Int) > 100) (by first | (simp only [vx, reduceCtorEq]; done) | (simp only [vx, reduceCtorEq]; grind)) (fun c2 => ?_) (fun c2 => ?_)
  ·refine call_fun (()) rfl (by first | (simp only [vx, reduceCtorEq]; done) | (simp only [vx, reduceCtorEq]; rfl)) trivial ?_
   refine ret_wp ?_
   try dsimp only
   simp only [vx, reduceCtorEq]
  ·refine call_rel (b) rfl (by first | (simp only [vx, reduceCtorEq]; done) | (simp only [vx, reduceCtorEq]; rfl)) (⟨kb, hBb, by omega⟩) ?_
   rintro ⟨x1, n1, e1⟩ w1
   try dsimp only at w1
   refine clo_wp ?_
   intro y1 o1 q1
   refine need_wp (⟨_, _, _, rfl⟩) ?_
   refine need_wp (⟨_, _, _, rfl⟩) ?_
   refine need_wp (⟨_, _, _, rfl⟩) ?_
   refine loop_wp (fun bs0 => ∃ (i1 : Int) (pt : Int) (all : Rw (Rw ByteArray)) (nw : Atom) (wr : Bool) (lf : Int) (n1 : Int) (sm1 : Bool) (ag1 : Atom) (mn1 : Int) (ar1 : Rw Int), bs0 = [aI i1, aI pt, Rw.atom eL all, nw, aB wr, aI lf, aI n1, aB sm1, ag1, aI mn1, Rw.atom eB ar1] ∧ (0 ≤ i1 ∧ 0 ≤ pt ∧ pt ≤ (b.l.length : Int) ∧ OI (bS b.l) all pt.toNat nw wr lf n1 sm1 ag1 mn1 ar1)) (fun bs0 => ((cuts.l.length : Int) - vi (bs0.getD 0 atom0).1).toNat) ?_ ?_
   ·refine ⟨0, 0, (Rw.nil : Rw (Rw ByteArray)), y1, false, 0, 0, false, (Rw.atom eS (Rw.nil : Rw ByteArray)), 0, (Rw.nil : Rw Int), by first | (simp only [vx, reduceCtorEq]; done) | (simp only [vx, reduceCtorEq]; rfl) | (simp only [vx, reduceCtorEq, Rw.atom, Rw.nil, List.length_nil, List.map_nil]; done) | (simp only [vx, reduceCtorEq, Rw.atom, Rw.nil, List.length_nil, List.map_nil]; rfl), ?_⟩
    exact ⟨by omega, by omega, by omega, OI.start _ q1⟩
   rintro _ hko ⟨i1, pt, all, nw, wr, lf, n1, sm1, ag1, mn1, ar1, rfl, ⟨j0, hp0, hp1, hO⟩⟩
   have kag1 : ∃ a n c, ag1.1 = Value.slice a n c := hko.2.2.2.2.2.2.2.2.1
   have hOl := hO.len
   have kall : all.ok 1 := hO.ok.1
   refine need_wp (⟨_, _, _, rfl⟩) ?_
   refine brP (i1 < (cuts.l.length : Int)) (by first | (simp only [vx, reduceCtorEq]; done) | (simp only [vx, reduceCtorEq]; grind)) (fun c3 => ?_) (fun c3 => ?_)
   ·have wj1 : IntKind.i64.wrap (i1 + 1) = i1 + 1 := wrap_id _ (by omega) (by omega)
    have hcz := hBc (cuts.get i1) (get_memL j0 c3)
    have wc : IntKind.i64.wrap ((cuts.get i1)) = (cuts.get i1) := wrap_id _ (by omega) (by omega)
    refine need_wp (⟨_, _, _, rfl⟩) ?_
    refine brP (pt < (b.l.length : Int)) (by first | (simp only [vx, reduceCtorEq, wj1, wc]; done) | (simp only [vx, reduceCtorEq, wj1, wc]; grind)) (fun c4 => ?_) (fun c4 => ?_)
    ·have wp : IntKind.i64.wrap (pt + (cuts.get i1)) = pt + (cuts.get i1) := wrap_id _ (by omega) (by omega)
     obtain ⟨kk, hkk⟩ : ∃ kk, kk = min (pt + (cuts.get i1)) (b.l.length : Int) := ⟨_, rfl⟩
     have hk1 : pt ≤ kk := by omega
     have hk2 : kk ≤ (b.l.length : Int) := by omega
     refine need_wp (⟨_, _, _, rfl⟩) ?_
     refine need_wp (rw_row _ _) ?_
     refine need_wp (by simp only [vx, reduceCtorEq, wj1, wc, wp, ← hkk, vlen]; first | omega | (grind)) ?_
     refine need_wp (⟨_, _, _, rfl⟩) ?_
     refine need_wp (rw_row _ _) ?_
     refine need_wp (by first | exact rw_sz' rfl | exact rw_szn (by assumption) (.inr (by omega)) | (simp only [vx, reduceCtorEq, wj1, wc, wp, ← hkk]; exact rw_szn (by assumption) (.inr (by omega))) | exact rw_szn (by simp [Rw.ok]) (.inr (by omega))) ?_
     refine need_wp (by simp only [vx, reduceCtorEq, wj1, wc, wp, ← hkk]; exact kind_Rb (by omega) (by omega)) ?_
     refine need_wp (⟨_, _, _, rfl⟩) ?_
     refine need_wp (⟨_, _, _, rfl⟩) ?_
     refine need_wp (by first | exact rw_szz (by assumption) | exact rw_szz (.inr rfl)) ?_
     refine need_wp (by simp only [vx, reduceCtorEq, wj1, wc, wp, ← hkk, vlen]; first | omega | (grind)) ?_
     refine need_wp (by simp only [vx, reduceCtorEq, wj1, wc, wp, ← hkk, vlen]; first | omega | (grind)) ?_
     refine need_wp (by simp only [vx, reduceCtorEq, wj1, wc, wp, ← hkk, vlen]; first | omega | (grind)) ?_
     refine brP (wr = true) (by first | (simp only [vx, reduceCtorEq, wj1, wc, wp, ← hkk]; done) | (simp only [vx, reduceCtorEq, wj1, wc, wp, ← hkk]; grind)) (fun c5 => ?_) (fun c5 => ?_)
     ·refine need_wp (rw_row _ _) ?_
      refine need_wp (⟨_, _, _, rfl⟩) ?_
      refine need_wp (by exact ⟨0, [], rfl, .inl rfl⟩) ?_
      refine need_wp (by simp only [vx, reduceCtorEq, wj1, wc, wp, ← hkk, vlen]; first | omega | (grind)) ?_
      refine need_wp (by simp only [vx, reduceCtorEq, wj1, wc, wp, ← hkk, vlen]; first | omega | (grind)) ?_
      refine app_wp eL all (Rw.nil : Rw (Rw ByteArray)) (by first | rfl | simp only [vx, reduceCtorEq, wj1, wc, wp, ← hkk]) (by first | rfl | simp only [vx, reduceCtorEq, wj1, wc, wp, ← hkk]) ?_
      intro a2 b2
      generalize hx2 : (⟨a2, b2, 1, all.l ++ (Rw.nil : Rw (Rw ByteArray)).l⟩ : Rw (Rw ByteArray)) = x2
      have lx2 : x2.l = all.l := by first | (rw [← hx2]; done) | (rw [← hx2]; rfl) | (rw [← hx2]; simp [Rw.nil])
      have zx2 : x2.z = 1 := by rw [← hx2]
      have kx2 : Rw.ok 1 x2 := .inr zx2
      have nx2 : (x2.l.length : Int) = (all.l.length : Int) + 0 := by first | (rw [← hx2]; done) | (rw [← hx2]; simp [Rw.nil])
      refine need_wp (⟨_, _, _, rfl⟩) ?_
      refine need_wp (by exact kag1) ?_
      refine need_wp (⟨_, _, _, rfl⟩) ?_
      refine again_wp rfl ⟨(i1 + 1), kk, x2, nw, wr, lf, n1, sm1, ag1, mn1, ar1, by first | (simp only [vx, reduceCtorEq, wj1, wc, wp, ← hkk]; done) | rfl, ?_⟩ ?_
      ·refine ⟨by omega, by omega, by omega, ?_⟩; exact hO.skip c5 (by omega) (by rw [bS_len]; omega) (by rw [lx2, List.append_nil]) kx2
      ·(try simp only [vx, reduceCtorEq, wj1, wc, wp, ← hkk]); omega
     ·refine clo_wp ?_
      intro y2 o2 q2
      refine need_wp (by first | exact ⟨_, _, _, rfl⟩ | (simp only [vx, reduceCtorEq, wj1, wc, wp, ← hkk]; exact ⟨_, _, _, rfl⟩)) ?_
      refine need_wp (by exact kag1) ?_
      refine need_wp (⟨_, _, _, rfl⟩) ?_
      refine need_wp (⟨_, _, _, rfl⟩) ?_
      obtain ⟨m0, hR0⟩ := hO.m (by assumption)
      obtain ⟨k0, hk0⟩ : ∃ k0, k0 = pt.toNat := ⟨_, rfl⟩
      obtain ⟨AV, hAV⟩ : ∃ AV, AV = (vv all).map (List.map ls) := ⟨_, rfl⟩
      rw [← hk0, ← hAV] at hR0
      obtain ⟨p, hp⟩ : ∃ p, p = b.sub 1 pt kk := ⟨_, rfl⟩
      have hpl : p.l = (b.sub 1 pt kk).l := by rw [hp]
      have kp : p.ok 1 := by rw [hp]; exact ok_sub kb _ _
      have hB : isB p.l := by rw [hp]; exact isB_sub hBb _ _ _
      have hs := sub_rw (e := eB) (r := b) (z := 1) (i := pt) (j := kk) kb (by omega) (by omega) (by omega)
      rw [← hp] at hs
      have hpn : (p.l.length : Int) = kk - pt := by rw [hpl]; exact sub_len b (by omega) (by omega) (by omega)
      have hpB : ∀ i : Int, 0 ≤ i → i < p.l.length → (bS b.l)[k0 + i.toNat]? = some (UInt8.ofNat (p.get i).toNat) := fun i i0 i1 => by rw [hk0]; exact piece_get hpl (by omega) (by omega) (by omega) i0 i1
      refine loop_wp (fun bs0 => ∃ (i : Int) (now : Atom) (left : Int) (n : Int) (sm : Bool) (args : Atom) (many : Int) (arg : Rw Int) (out : Rw (Rw ByteArray)), bs0 = [aI i, now, aI left, aI n, aB sm, args, aI many, Rw.atom eB arg, Rw.atom eL out] ∧ (0 ≤ i ∧ i ≤ (p.l.length : Int) ∧ ∃ m : Mc, RG AV (bS b.l) (k0 + i.toNat) now left n sm args many arg out m)) (fun bs0 => ((p.l.length : Int) - vi (bs0.getD 0 atom0).1).toNat) ?_ ?_
      ·refine ⟨0, nw, lf, n1, sm1, ag1, mn1, ar1, (Rw.nil : Rw (Rw ByteArray)), by first | (simp only [vx, reduceCtorEq, wj1, wc, wp, ← hkk, hs]; done) | (simp only [vx, reduceCtorEq, wj1, wc, wp, ← hkk, hs]; rfl) | (simp only [vx, reduceCtorEq, wj1, wc, wp, ← hkk, hs, Rw.atom, Rw.nil, List.length_nil, List.map_nil]; done) | (simp only [vx, reduceCtorEq, wj1, wc, wp, ← hkk, hs, Rw.atom, Rw.nil, List.length_nil, List.map_nil]; rfl), ?_⟩
       exact ⟨by omega, by omega, m0, by rw [Int.toNat_zero, Nat.add_zero]; exact hR0⟩
      rintro _ hko ⟨i, now, left, n, sm, args, many, arg, out, rfl, ⟨i0, ip, m, hR⟩⟩
      have kargs : ∃ a n c, args.1 = Value.slice a n c := hko.2.2.2.2.2.1
      have hkl := hR.kl
      rw [bS_len] at hkl
      have hct := hR.count
      have kout : out.ok 1 := hR.out.2.1
      refine brP (i < (p.l.length : Int)) (by first | (simp only [vx, reduceCtorEq, wj1, wc, wp, ← hkk, hs]; done) | (simp only [vx, reduceCtorEq, wj1, wc, wp, ← hkk, hs]; grind)) (fun c6 => ?_) (fun c6 => ?_)
      ·obtain ⟨hz0, hz1⟩ := hB (p.get i) (get_memL i0 c6)
       have hz := hpB i i0 c6
       have hl1 := hR.left
       have hl2 := hR.lft
       have hps := hR.pos
       have hn1 := hR.n
       have wi : IntKind.i64.wrap (i + 1) = i + 1 := wrap_id _ (by omega) (by omega)
       have wl : IntKind.i64.wrap (left + 1) = left + 1 := wrap_id _ (by omega) (by omega)
       have ht : k0 + (i + 1).toNat = k0 + i.toNat + 1 := by omega
       refine need_wp (by first | exact ⟨_, _, _, rfl⟩ | (simp only [vx, reduceCtorEq, wj1, wc, wp, ← hkk, hs, wi, wl]; exact ⟨_, _, _, rfl⟩)) ?_
       refine need_wp (by first | exact rw_row _ _ | (simp only [vx, reduceCtorEq, wj1, wc, wp, ← hkk, hs, wi, wl]; exact ⟨_, _, rfl⟩)) ?_
       refine need_wp (by simp only [vx, reduceCtorEq, wj1, wc, wp, ← hkk, hs, wi, wl, vlen]; first | omega | (grind)) ?_
       refine need_wp (by first | exact ⟨_, _, _, rfl⟩ | (simp only [vx, reduceCtorEq, wj1, wc, wp, ← hkk, hs, wi, wl]; exact ⟨_, _, _, rfl⟩)) ?_
       refine need_wp (by first | exact rw_row _ _ | (simp only [vx, reduceCtorEq, wj1, wc, wp, ← hkk, hs, wi, wl]; exact ⟨_, _, rfl⟩)) ?_
       refine need_wp (by first | exact rw_sz' rfl | exact rw_szn (by assumption) (.inr (by omega)) | (simp only [vx, reduceCtorEq, wj1, wc, wp, ← hkk, hs, wi, wl]; exact rw_szn (by assumption) (.inr (by omega))) | exact rw_szn (by simp [Rw.ok]) (.inr (by omega))) ?_
       refine need_wp (by simp only [vx, reduceCtorEq, wj1, wc, wp, ← hkk, hs, wi, wl]; exact kind_Rb (by omega) (by omega)) ?_
       refine brP (cloB (.some 40) [(.int .u8 42), (.fn 33)] now = true) (by first | (simp only [vx, reduceCtorEq, wj1, wc, wp, ← hkk, hs, wi, wl]; done) | (simp only [vx, reduceCtorEq, wj1, wc, wp, ← hkk, hs, wi, wl]; grind)) (fun c7 => ?_) (fun c7 => ?_)
       ·have hσ : m.σ = .star := now_of (τ := .star) hR.now c7
        refine brP ((p.get i) ≠ 42) (by first | (simp only [vx, reduceCtorEq, wj1, wc, wp, ← hkk, hs, wi, wl]; done) | (simp only [vx, reduceCtorEq, wj1, wc, wp, ← hkk, hs, wi, wl]; grind)) (fun c8 => ?_) (fun c8 => ?_)
        ·have hw : stepZ m (p.get i) = none := by rw [sz_star hz0 hz1 hσ, if_neg (by omega)]
         refine pop_wp ?_
         refine need_wp (rw_row _ _) ?_
         refine need_wp (⟨_, _, _, rfl⟩) ?_
         refine need_wp (by first | exact rw_szz (by assumption) | exact rw_szz (.inr rfl)) ?_
         refine need_wp (by simp only [vx, reduceCtorEq, wj1, wc, wp, ← hkk, hs, wi, wl, vlen]; first | omega | (grind)) ?_
         refine need_wp (by simp only [vx, reduceCtorEq, wj1, wc, wp, ← hkk, hs, wi, wl, vlen]; first | omega | (grind)) ?_
         refine app_wp eL all out (by first | rfl | simp only [vx, reduceCtorEq, wj1, wc, wp, ← hkk, hs, wi, wl]) (by first | rfl | simp only [vx, reduceCtorEq, wj1, wc, wp, ← hkk, hs, wi, wl]) ?_
         intro a3 b3
         generalize hx3 : (⟨a3, b3, 1, all.l ++ out.l⟩ : Rw (Rw ByteArray)) = x3
         have lx3 : x3.l = all.l ++ out.l := by first | (rw [← hx3]; done) | (rw [← hx3]; rfl)
         have zx3 : x3.z = 1 := by rw [← hx3]
         have kx3 : Rw.ok 1 x3 := .inr zx3
         have nx3 : (x3.l.length : Int) = (all.l.length : Int) + (out.l.length : Int) := by first | (rw [← hx3]; done) | (rw [← hx3]; simp [Rw.nil])
         refine need_wp (⟨_, _, _, rfl⟩) ?_
         refine need_wp (by exact kargs) ?_
         refine need_wp (⟨_, _, _, rfl⟩) ?_
         refine again_wp rfl ⟨(i1 + 1), kk, x3, ((Value.nilFunc, D.leaf) : Atom), true, 0, n, sm, args, many, arg, by first | (simp only [vx, reduceCtorEq, wj1, wc, wp, ← hkk, hs, wi, wl]; done) | rfl, ?_⟩ ?_
         ·subst hAV; refine ⟨by omega, by omega, by omega, ?_⟩; exact hR.bad hz hw hO.ok (by omega) (by rw [bS_len]; omega) lx3 kx3 rfl rfl
         ·(try simp only [vx, reduceCtorEq, wj1, wc, wp, ← hkk, hs, wi, wl]); omega
        ·refine clo_wp ?_
         intro y3 o3 q3
         refine need_wp (⟨_, _, _, rfl⟩) ?_
         refine need_wp (by exact kargs) ?_
         refine need_wp (⟨_, _, _, rfl⟩) ?_
         refine need_wp (⟨_, _, _, rfl⟩) ?_
         refine again_wp rfl ⟨(i + 1), y3, (left + 1), 0, false, args, many, arg, out, by first | (simp only [vx, reduceCtorEq, wj1, wc, wp, ← hkk, hs, wi, wl]; done) | rfl, ?_⟩ ?_
         ·have hs := (sz_star hz0 hz1 hσ).trans (if_pos (by omega)); exact ⟨by omega, by omega, _, hR.next' hz hz0 hz1 ht hs (q3) (by first | omega | (simp only; omega)) rfl rfl hR.many (fun h => by simp [hasA] at h) hR.arg hR.out⟩
         ·(try simp only [vx, reduceCtorEq, wj1, wc, wp, ← hkk, hs, wi, wl]); omega
       ·refine brP (cloB (.some 41) [(.int .i64 1), (.fn 36), (.int .i64 50), .self] now = true) (by first | (simp only [vx, reduceCtorEq, wj1, wc, wp, ← hkk, hs, wi, wl]; done) | (simp only [vx, reduceCtorEq, wj1, wc, wp, ← hkk, hs, wi, wl]; grind)) (fun c9 => ?_) (fun c9 => ?_)
        ·have hσ : m.σ = (.num .cnt) := now_of (τ := (.num .cnt)) hR.now c9
         refine brP ((p.get i) = 13) (by first | (simp only [vx, reduceCtorEq, wj1, wc, wp, ← hkk, hs, wi, wl]; done) | (simp only [vx, reduceCtorEq, wj1, wc, wp, ← hkk, hs, wi, wl]; grind)) (fun c10 => ?_) (fun c10 => ?_)
         ·refine brP (sm = true) (by first | (simp only [vx, reduceCtorEq, wj1, wc, wp, ← hkk, hs, wi, wl]; done) | (simp only [vx, reduceCtorEq, wj1, wc, wp, ← hkk, hs, wi, wl]; grind)) (fun c11 => ?_) (fun c11 => ?_)
          ·refine brP (n ≥ 1) (by first | (simp only [vx, reduceCtorEq, wj1, wc, wp, ← hkk, hs, wi, wl]; done) | (simp only [vx, reduceCtorEq, wj1, wc, wp, ← hkk, hs, wi, wl]; grind)) (fun c12 => ?_) (fun c12 => ?_)
           ·refine clo_wp ?_
            intro y4 o4 q4
            refine need_wp (⟨_, _, _, rfl⟩) ?_
            refine need_wp (by exact kargs) ?_
            refine need_wp (⟨_, _, _, rfl⟩) ?_
            refine need_wp (⟨_, _, _, rfl⟩) ?_
            refine again_wp rfl ⟨(i + 1), y4, (left + 1), n, sm, args, many, arg, out, by first | (simp only [vx, reduceCtorEq, wj1, wc, wp, ← hkk, hs, wi, wl]; done) | rfl, ?_⟩ ?_
            ·have hs := num_cr hz0 hz1 hσ hR.n hR.sm ⟨by omega, by assumption, by simp only [Ks.least]; omega⟩; exact ⟨by omega, by omega, _, hR.next' hz hz0 hz1 ht hs (q4) (by first | omega | (simp only; omega)) hR.n hR.sm hR.many (fun h => by simp [hasA] at h) hR.arg hR.out⟩
            ·(try simp only [vx, reduceCtorEq, wj1, wc, wp, ← hkk, hs, wi, wl]); omega
           ·refine brP ((p.get i) < 48) (by first | (simp only [vx, reduceCtorEq, wj1, wc, wp, ← hkk, hs, wi, wl]; done) | (simp only [vx, reduceCtorEq, wj1, wc, wp, ← hkk, hs, wi, wl]; grind)) (fun c13 => ?_) (fun c13 => ?_)
            ·have hw : stepZ m (p.get i) = none := by
              refine num_none hz0 hz1 hσ hR.n hR.sm ?_ ?_
              ·rintro ⟨h1, h2, h3⟩; simp only [Ks.least] at h3; first | omega | exact absurd h2 (by assumption)
              ·simp only [Ks.least, Ks.most]; first | exact .inl (by omega) | exact .inr (.inl (by omega)) | exact .inr (.inr (.inl ⟨by assumption, by omega⟩)) | exact .inr (.inr (.inr (.inl (by omega)))) | exact .inr (.inr (.inr (.inr ⟨by omega, by omega⟩)))
             refine pop_wp ?_
             refine need_wp (rw_row _ _) ?_
             refine need_wp (⟨_, _, _, rfl⟩) ?_
             refine need_wp (by first | exact rw_szz (by assumption) | exact rw_szz (.inr rfl)) ?_
             refine need_wp (by simp only [vx, reduceCtorEq, wj1, wc, wp, ← hkk, hs, wi, wl, vlen]; first | omega | (grind)) ?_
             refine need_wp (by simp only [vx, reduceCtorEq, wj1, wc, wp, ← hkk, hs, wi, wl, vlen]; first | omega | (grind)) ?_
             refine app_wp eL all out (by first | rfl | simp only [vx, reduceCtorEq, wj1, wc, wp, ← hkk, hs, wi, wl]) (by first | rfl | simp only [vx, reduceCtorEq, wj1, wc, wp, ← hkk, hs, wi, wl]) ?_
             intro a4 b4
             generalize hx4 : (⟨a4, b4, 1, all.l ++ out.l⟩ : Rw (Rw ByteArray)) = x4
             have lx4 : x4.l = all.l ++ out.l := by first | (rw [← hx4]; done) | (rw [← hx4]; rfl)
             have zx4 : x4.z = 1 := by rw [← hx4]
             have kx4 : Rw.ok 1 x4 := .inr zx4
             have nx4 : (x4.l.length : Int) = (all.l.length : Int) + (out.l.length : Int) := by first | (rw [← hx4]; done) | (rw [← hx4]; simp [Rw.nil])
             refine need_wp (⟨_, _, _, rfl⟩) ?_
             refine need_wp (by exact kargs) ?_
             refine need_wp (⟨_, _, _, rfl⟩) ?_
             refine again_wp rfl ⟨(i1 + 1), kk, x4, ((Value.nilFunc, D.leaf) : Atom), true, 0, n, sm, args, many, arg, by first | (simp only [vx, reduceCtorEq, wj1, wc, wp, ← hkk, hs, wi, wl]; done) | rfl, ?_⟩ ?_
             ·subst hAV; refine ⟨by omega, by omega, by omega, ?_⟩; exact hR.bad hz hw hO.ok (by omega) (by rw [bS_len]; omega) lx4 kx4 rfl rfl
             ·(try simp only [vx, reduceCtorEq, wj1, wc, wp, ← hkk, hs, wi, wl]); omega
            ·refine brP ((p.get i) > 57) (by first | (simp only [vx, reduceCtorEq, wj1, wc, wp, ← hkk, hs, wi, wl]; done) | (simp only [vx, reduceCtorEq, wj1, wc, wp, ← hkk, hs, wi, wl]; grind)) (fun c14 => ?_) (fun c14 => ?_)
             ·have hw : stepZ m (p.get i) = none := by
               refine num_none hz0 hz1 hσ hR.n hR.sm ?_ ?_
               ·rintro ⟨h1, h2, h3⟩; simp only [Ks.least] at h3; first | omega | exact absurd h2 (by assumption)
               ·simp only [Ks.least, Ks.most]; first | exact .inl (by omega) | exact .inr (.inl (by omega)) | exact .inr (.inr (.inl ⟨by assumption, by omega⟩)) | exact .inr (.inr (.inr (.inl (by omega)))) | exact .inr (.inr (.inr (.inr ⟨by omega, by omega⟩)))
              refine pop_wp ?_
              refine need_wp (rw_row _ _) ?_
              refine need_wp (⟨_, _, _, rfl⟩) ?_
              refine need_wp (by first | exact rw_szz (by assumption) | exact rw_szz (.inr rfl)) ?_
              refine need_wp (by simp only [vx, reduceCtorEq, wj1, wc, wp, ← hkk, hs, wi, wl, vlen]; first | omega | (grind)) ?_
              refine need_wp (by simp only [vx, reduceCtorEq, wj1, wc, wp, ← hkk, hs, wi, wl, vlen]; first | omega | (grind)) ?_
              refine app_wp eL all out (by first | rfl | simp only [vx, reduceCtorEq, wj1, wc, wp, ← hkk, hs, wi, wl]) (by first | rfl | simp only [vx, reduceCtorEq, wj1, wc, wp, ← hkk, hs, wi, wl]) ?_
              intro a5 b5
              generalize hx5 : (⟨a5, b5, 1, all.l ++ out.l⟩ : Rw (Rw ByteArray)) = x5
              have lx5 : x5.l = all.l ++ out.l := by first | (rw [← hx5]; done) | (rw [← hx5]; rfl)
              have zx5 : x5.z = 1 := by rw [← hx5]
              have kx5 : Rw.ok 1 x5 := .inr zx5
              have nx5 : (x5.l.length : Int) = (all.l.length : Int) + (out.l.length : Int) := by first | (rw [← hx5]; done) | (rw [← hx5]; simp [Rw.nil])
              refine need_wp (⟨_, _, _, rfl⟩) ?_
              refine need_wp (by exact kargs) ?_
              refine need_wp (⟨_, _, _, rfl⟩) ?_
              refine again_wp rfl ⟨(i1 + 1), kk, x5, ((Value.nilFunc, D.leaf) : Atom), true, 0, n, sm, args, many, arg, by first | (simp only [vx, reduceCtorEq, wj1, wc, wp, ← hkk, hs, wi, wl]; done) | rfl, ?_⟩ ?_
              ·subst hAV; refine ⟨by omega, by omega, by omega, ?_⟩; exact hR.bad hz hw hO.ok (by omega) (by rw [bS_len]; omega) lx5 kx5 rfl rfl
              ·(try simp only [vx, reduceCtorEq, wj1, wc, wp, ← hkk, hs, wi, wl]); omega
             ·have wu : IntKind.u8.wrap ((p.get i) - 48) = (p.get i) - 48 := by rw [IntKind.wrap_u8]; omega
              have ww : IntKind.i64.wrap ((p.get i) - 48) = (p.get i) - 48 := wrap_id _ (by omega) (by omega)
              have wm : IntKind.i64.wrap (10 * n) = 10 * n := wrap_id _ (by omega) (by omega)
              have wa : IntKind.i64.wrap (10 * n + ((p.get i) - 48)) = 10 * n + ((p.get i) - 48) := wrap_id _ (by omega) (by omega)
              refine brP (n = 0) (by first | (simp only [vx, reduceCtorEq, wj1, wc, wp, ← hkk, hs, wi, wl, wu, ww, wm, wa]; done) | (simp only [vx, reduceCtorEq, wj1, wc, wp, ← hkk, hs, wi, wl, wu, ww, wm, wa]; grind)) (fun c15 => ?_) (fun c15 => ?_)
              ·have hw : stepZ m (p.get i) = none := by
                refine num_none hz0 hz1 hσ hR.n hR.sm ?_ ?_
                ·rintro ⟨h1, h2, h3⟩; simp only [Ks.least] at h3; first | omega | exact absurd h2 (by assumption)
                ·simp only [Ks.least, Ks.most]; first | exact .inl (by omega) | exact .inr (.inl (by omega)) | exact .inr (.inr (.inl ⟨by assumption, by omega⟩)) | exact .inr (.inr (.inr (.inl (by omega)))) | exact .inr (.inr (.inr (.inr ⟨by omega, by omega⟩)))
               refine pop_wp ?_
               refine need_wp (rw_row _ _) ?_
               refine need_wp (⟨_, _, _, rfl⟩) ?_
               refine need_wp (by first | exact rw_szz (by assumption) | exact rw_szz (.inr rfl)) ?_
               refine need_wp (by simp only [vx, reduceCtorEq, wj1, wc, wp, ← hkk, hs, wi, wl, wu, ww, wm, wa, vlen]; first | omega | (grind)) ?_
               refine need_wp (by simp only [vx, reduceCtorEq, wj1, wc, wp, ← hkk, hs, wi, wl, wu, ww, wm, wa, vlen]; first | omega | (grind)) ?_
               refine app_wp eL all out (by first | rfl | simp only [vx, reduceCtorEq, wj1, wc, wp, ← hkk, hs, wi, wl, wu, ww, wm, wa]) (by first | rfl | simp only [vx, reduceCtorEq, wj1, wc, wp, ← hkk, hs, wi, wl, wu, ww, wm, wa]) ?_
               intro a6 b6
               generalize hx6 : (⟨a6, b6, 1, all.l ++ out.l⟩ : Rw (Rw ByteArray)) = x6
               have lx6 : x6.l = all.l ++ out.l := by first | (rw [← hx6]; done) | (rw [← hx6]; rfl)
               have zx6 : x6.z = 1 := by rw [← hx6]
               have kx6 : Rw.ok 1 x6 := .inr zx6
               have nx6 : (x6.l.length : Int) = (all.l.length : Int) + (out.l.length : Int) := by first | (rw [← hx6]; done) | (rw [← hx6]; simp [Rw.nil])
               refine need_wp (⟨_, _, _, rfl⟩) ?_
               refine need_wp (by exact kargs) ?_
               refine need_wp (⟨_, _, _, rfl⟩) ?_
               refine again_wp rfl ⟨(i1 + 1), kk, x6, ((Value.nilFunc, D.leaf) : Atom), true, 0, n, sm, args, many, arg, by first | (simp only [vx, reduceCtorEq, wj1, wc, wp, ← hkk, hs, wi, wl, wu, ww, wm, wa]; done) | rfl, ?_⟩ ?_
               ·subst hAV; refine ⟨by omega, by omega, by omega, ?_⟩; exact hR.bad hz hw hO.ok (by omega) (by rw [bS_len]; omega) lx6 kx6 rfl rfl
               ·(try simp only [vx, reduceCtorEq, wj1, wc, wp, ← hkk, hs, wi, wl, wu, ww, wm, wa]); omega
              ·refine brP ((10 * n + ((p.get i) - 48)) > 50) (by first | (simp only [vx, reduceCtorEq, wj1, wc, wp, ← hkk, hs, wi, wl, wu, ww, wm, wa]; done) | (simp only [vx, reduceCtorEq, wj1, wc, wp, ← hkk, hs, wi, wl, wu, ww, wm, wa]; grind)) (fun c16 => ?_) (fun c16 => ?_)
               ·have hw : stepZ m (p.get i) = none := by
                 refine num_none hz0 hz1 hσ hR.n hR.sm ?_ ?_
                 ·rintro ⟨h1, h2, h3⟩; simp only [Ks.least] at h3; first | omega | exact absurd h2 (by assumption)
                 ·simp only [Ks.least, Ks.most]; first | exact .inl (by omega) | exact .inr (.inl (by omega)) | exact .inr (.inr (.inl ⟨by assumption, by omega⟩)) | exact .inr (.inr (.inr (.inl (by omega)))) | exact .inr (.inr (.inr (.inr ⟨by omega, by omega⟩)))
                refine pop_wp ?_
                refine need_wp (rw_row _ _) ?_
                refine need_wp (⟨_, _, _, rfl⟩) ?_
                refine need_wp (by first | exact rw_szz (by assumption) | exact rw_szz (.inr rfl)) ?_
                refine need_wp (by simp only [vx, reduceCtorEq, wj1, wc, wp, ← hkk, hs, wi, wl, wu, ww, wm, wa, vlen]; first | omega | (grind)) ?_
                refine need_wp (by simp only [vx, reduceCtorEq, wj1, wc, wp, ← hkk, hs, wi, wl, wu, ww, wm, wa, vlen]; first | omega | (grind)) ?_
                refine app_wp eL all out (by first | rfl | simp only [vx, reduceCtorEq, wj1, wc, wp, ← hkk, hs, wi, wl, wu, ww, wm, wa]) (by first | rfl | simp only [vx, reduceCtorEq, wj1, wc, wp, ← hkk, hs, wi, wl, wu, ww, wm, wa]) ?_
                intro a7 b7
                generalize hx7 : (⟨a7, b7, 1, all.l ++ out.l⟩ : Rw (Rw ByteArray)) = x7
                have lx7 : x7.l = all.l ++ out.l := by first | (rw [← hx7]; done) | (rw [← hx7]; rfl)
                have zx7 : x7.z = 1 := by rw [← hx7]
                have kx7 : Rw.ok 1 x7 := .inr zx7
                have nx7 : (x7.l.length : Int) = (all.l.length : Int) + (out.l.length : Int) := by first | (rw [← hx7]; done) | (rw [← hx7]; simp [Rw.nil])
                refine need_wp (⟨_, _, _, rfl⟩) ?_
                refine need_wp (by exact kargs) ?_
                refine need_wp (⟨_, _, _, rfl⟩) ?_
                refine again_wp rfl ⟨(i1 + 1), kk, x7, ((Value.nilFunc, D.leaf) : Atom), true, 0, (10 * n + ((p.get i) - 48)), true, args, many, arg, by first | (simp only [vx, reduceCtorEq, wj1, wc, wp, ← hkk, hs, wi, wl, wu, ww, wm, wa]; done) | rfl, ?_⟩ ?_
                ·subst hAV; refine ⟨by omega, by omega, by omega, ?_⟩; exact hR.bad hz hw hO.ok (by omega) (by rw [bS_len]; omega) lx7 kx7 rfl rfl
                ·(try simp only [vx, reduceCtorEq, wj1, wc, wp, ← hkk, hs, wi, wl, wu, ww, wm, wa]); omega
               ·refine brP ((10 * n + ((p.get i) - 48)) = 0) (by first | (simp only [vx, reduceCtorEq, wj1, wc, wp, ← hkk, hs, wi, wl, wu, ww, wm, wa]; done) | (simp only [vx, reduceCtorEq, wj1, wc, wp, ← hkk, hs, wi, wl, wu, ww, wm, wa]; grind)) (fun c17 => ?_) (fun c17 => ?_)
                ·have hw : stepZ m (p.get i) = none := by
                  refine num_none hz0 hz1 hσ hR.n hR.sm ?_ ?_
                  ·rintro ⟨h1, h2, h3⟩; simp only [Ks.least] at h3; first | omega | exact absurd h2 (by assumption)
                  ·simp only [Ks.least, Ks.most]; first | exact .inl (by omega) | exact .inr (.inl (by omega)) | exact .inr (.inr (.inl ⟨by assumption, by omega⟩)) | exact .inr (.inr (.inr (.inl (by omega)))) | exact .inr (.inr (.inr (.inr ⟨by omega, by omega⟩)))
                 refine pop_wp ?_
                 refine need_wp (rw_row _ _) ?_
                 refine need_wp (⟨_, _, _, rfl⟩) ?_
                 refine need_wp (by first | exact rw_szz (by assumption) | exact rw_szz (.inr rfl)) ?_
                 refine need_wp (by simp only [vx, reduceCtorEq, wj1, wc, wp, ← hkk, hs, wi, wl, wu, ww, wm, wa, vlen]; first | omega | (grind)) ?_
                 refine need_wp (by simp only [vx, reduceCtorEq, wj1, wc, wp, ← hkk, hs, wi, wl, wu, ww, wm, wa, vlen]; first | omega | (grind)) ?_
                 refine app_wp eL all out (by first | rfl | simp only [vx, reduceCtorEq, wj1, wc, wp, ← hkk, hs, wi, wl, wu, ww, wm, wa]) (by first | rfl | simp only [vx, reduceCtorEq, wj1, wc, wp, ← hkk, hs, wi, wl, wu, ww, wm, wa]) ?_
                 intro a8 b8
                 generalize hx8 : (⟨a8, b8, 1, all.l ++ out.l⟩ : Rw (Rw ByteArray)) = x8
                 have lx8 : x8.l = all.l ++ out.l := by first | (rw [← hx8]; done) | (rw [← hx8]; rfl)
                 have zx8 : x8.z = 1 := by rw [← hx8]
                 have kx8 : Rw.ok 1 x8 := .inr zx8
                 have nx8 : (x8.l.length : Int) = (all.l.length : Int) + (out.l.length : Int) := by first | (rw [← hx8]; done) | (rw [← hx8]; simp [Rw.nil])
                 refine need_wp (⟨_, _, _, rfl⟩) ?_
                 refine need_wp (by exact kargs) ?_
                 refine need_wp (⟨_, _, _, rfl⟩) ?_
                 refine again_wp rfl ⟨(i1 + 1), kk, x8, ((Value.nilFunc, D.leaf) : Atom), true, 0, (10 * n + ((p.get i) - 48)), true, args, many, arg, by first | (simp only [vx, reduceCtorEq, wj1, wc, wp, ← hkk, hs, wi, wl, wu, ww, wm, wa]; done) | rfl, ?_⟩ ?_
                 ·subst hAV; refine ⟨by omega, by omega, by omega, ?_⟩; exact hR.bad hz hw hO.ok (by omega) (by rw [bS_len]; omega) lx8 kx8 rfl rfl
                 ·(try simp only [vx, reduceCtorEq, wj1, wc, wp, ← hkk, hs, wi, wl, wu, ww, wm, wa]); omega
                ·refine need_wp (⟨_, _, _, rfl⟩) ?_
                 refine need_wp (by exact kargs) ?_
                 refine need_wp (⟨_, _, _, rfl⟩) ?_
                 refine need_wp (⟨_, _, _, rfl⟩) ?_
                 refine again_wp rfl ⟨(i + 1), now, (left + 1), (10 * n + ((p.get i) - 48)), true, args, many, arg, out, by first | (simp only [vx, reduceCtorEq, wj1, wc, wp, ← hkk, hs, wi, wl, wu, ww, wm, wa]; done) | rfl, ?_⟩ ?_
                 ·have hs := num_dig hz0 hz1 hσ hR.n hR.sm (by rintro ⟨h1, h2, h3⟩; simp only [Ks.least] at h3; first | omega | exact absurd h2 (by assumption)) (by omega) (by omega) (by rintro ⟨h1, h2⟩; first | omega | exact absurd h1 (by assumption)) (by simp only [Ks.most]; omega) (by rintro ⟨h1, h2⟩; simp only [Ks.least] at h2; omega); exact ⟨by omega, by omega, _, hR.next' hz hz0 hz1 ht hs (by have := hR.now; rw [hσ] at this; simpa only [hσ] using this) (by first | omega | (simp only; omega)) rfl rfl hR.many (fun h => hR.args h) hR.arg hR.out⟩
                 ·(try simp only [vx, reduceCtorEq, wj1, wc, wp, ← hkk, hs, wi, wl, wu, ww, wm, wa]); omega
          ·refine brP ((p.get i) < 48) (by first | (simp only [vx, reduceCtorEq, wj1, wc, wp, ← hkk, hs, wi, wl]; done) | (simp only [vx, reduceCtorEq, wj1, wc, wp, ← hkk, hs, wi, wl]; grind)) (fun c18 => ?_) (fun c18 => ?_)
           ·have hw : stepZ m (p.get i) = none := by
             refine num_none hz0 hz1 hσ hR.n hR.sm ?_ ?_
             ·rintro ⟨h1, h2, h3⟩; simp only [Ks.least] at h3; first | omega | exact absurd h2 (by assumption)
             ·simp only [Ks.least, Ks.most]; first | exact .inl (by omega) | exact .inr (.inl (by omega)) | exact .inr (.inr (.inl ⟨by assumption, by omega⟩)) | exact .inr (.inr (.inr (.inl (by omega)))) | exact .inr (.inr (.inr (.inr ⟨by omega, by omega⟩)))
            refine pop_wp ?_
            refine need_wp (rw_row _ _) ?_
            refine need_wp (⟨_, _, _, rfl⟩) ?_
            refine need_wp (by first | exact rw_szz (by assumption) | exact rw_szz (.inr rfl)) ?_
            refine need_wp (by simp only [vx, reduceCtorEq, wj1, wc, wp, ← hkk, hs, wi, wl, vlen]; first | omega | (grind)) ?_
            refine need_wp (by simp only [vx, reduceCtorEq, wj1, wc, wp, ← hkk, hs, wi, wl, vlen]; first | omega | (grind)) ?_
            refine app_wp eL all out (by first | rfl | simp only [vx, reduceCtorEq, wj1, wc, wp, ← hkk, hs, wi, wl]) (by first | rfl | simp only [vx, reduceCtorEq, wj1, wc, wp, ← hkk, hs, wi, wl]) ?_
            intro a9 b9
            generalize hx9 : (⟨a9, b9, 1, all.l ++ out.l⟩ : Rw (Rw ByteArray)) = x9
            have lx9 : x9.l = all.l ++ out.l := by first | (rw [← hx9]; done) | (rw [← hx9]; rfl)
            have zx9 : x9.z = 1 := by rw [← hx9]
            have kx9 : Rw.ok 1 x9 := .inr zx9
            have nx9 : (x9.l.length : Int) = (all.l.length : Int) + (out.l.length : Int) := by first | (rw [← hx9]; done) | (rw [← hx9]; simp [Rw.nil])
            refine need_wp (⟨_, _, _, rfl⟩) ?_
            refine need_wp (by exact kargs) ?_
            refine need_wp (⟨_, _, _, rfl⟩) ?_
            refine again_wp rfl ⟨(i1 + 1), kk, x9, ((Value.nilFunc, D.leaf) : Atom), true, 0, n, sm, args, many, arg, by first | (simp only [vx, reduceCtorEq, wj1, wc, wp, ← hkk, hs, wi, wl]; done) | rfl, ?_⟩ ?_
            ·subst hAV; refine ⟨by omega, by omega, by omega, ?_⟩; exact hR.bad hz hw hO.ok (by omega) (by rw [bS_len]; omega) lx9 kx9 rfl rfl
            ·(try simp only [vx, reduceCtorEq, wj1, wc, wp, ← hkk, hs, wi, wl]); omega
           ·refine brP ((p.get i) > 57) (by first | (simp only [vx, reduceCtorEq, wj1, wc, wp, ← hkk, hs, wi, wl]; done) | (simp only [vx, reduceCtorEq, wj1, wc, wp, ← hkk, hs, wi, wl]; grind)) (fun c19 => ?_) (fun c19 => ?_)
            ·have hw : stepZ m (p.get i) = none := by
              refine num_none hz0 hz1 hσ hR.n hR.sm ?_ ?_
              ·rintro ⟨h1, h2, h3⟩; simp only [Ks.least] at h3; first | omega | exact absurd h2 (by assumption)
              ·simp only [Ks.least, Ks.most]; first | exact .inl (by omega) | exact .inr (.inl (by omega)) | exact .inr (.inr (.inl ⟨by assumption, by omega⟩)) | exact .inr (.inr (.inr (.inl (by omega)))) | exact .inr (.inr (.inr (.inr ⟨by omega, by omega⟩)))
             refine pop_wp ?_
             refine need_wp (rw_row _ _) ?_
             refine need_wp (⟨_, _, _, rfl⟩) ?_
             refine need_wp (by first | exact rw_szz (by assumption) | exact rw_szz (.inr rfl)) ?_
             refine need_wp (by simp only [vx, reduceCtorEq, wj1, wc, wp, ← hkk, hs, wi, wl, vlen]; first | omega | (grind)) ?_
             refine need_wp (by simp only [vx, reduceCtorEq, wj1, wc, wp, ← hkk, hs, wi, wl, vlen]; first | omega | (grind)) ?_
             refine app_wp eL all out (by first | rfl | simp only [vx, reduceCtorEq, wj1, wc, wp, ← hkk, hs, wi, wl]) (by first | rfl | simp only [vx, reduceCtorEq, wj1, wc, wp, ← hkk, hs, wi, wl]) ?_
             intro a10 b10
             generalize hx10 : (⟨a10, b10, 1, all.l ++ out.l⟩ : Rw (Rw ByteArray)) = x10
             have lx10 : x10.l = all.l ++ out.l := by first | (rw [← hx10]; done) | (rw [← hx10]; rfl)
             have zx10 : x10.z = 1 := by rw [← hx10]
             have kx10 : Rw.ok 1 x10 := .inr zx10
             have nx10 : (x10.l.length : Int) = (all.l.length : Int) + (out.l.length : Int) := by first | (rw [← hx10]; done) | (rw [← hx10]; simp [Rw.nil])
             refine need_wp (⟨_, _, _, rfl⟩) ?_
             refine need_wp (by exact kargs) ?_
             refine need_wp (⟨_, _, _, rfl⟩) ?_
             refine again_wp rfl ⟨(i1 + 1), kk, x10, ((Value.nilFunc, D.leaf) : Atom), true, 0, n, sm, args, many, arg, by first | (simp only [vx, reduceCtorEq, wj1, wc, wp, ← hkk, hs, wi, wl]; done) | rfl, ?_⟩ ?_
             ·subst hAV; refine ⟨by omega, by omega, by omega, ?_⟩; exact hR.bad hz hw hO.ok (by omega) (by rw [bS_len]; omega) lx10 kx10 rfl rfl
             ·(try simp only [vx, reduceCtorEq, wj1, wc, wp, ← hkk, hs, wi, wl]); omega
            ·have wu : IntKind.u8.wrap ((p.get i) - 48) = (p.get i) - 48 := by rw [IntKind.wrap_u8]; omega
             have ww : IntKind.i64.wrap ((p.get i) - 48) = (p.get i) - 48 := wrap_id _ (by omega) (by omega)
             have wm : IntKind.i64.wrap (10 * n) = 10 * n := wrap_id _ (by omega) (by omega)
             have wa : IntKind.i64.wrap (10 * n + ((p.get i) - 48)) = 10 * n + ((p.get i) - 48) := wrap_id _ (by omega) (by omega)
             refine brP ((10 * n + ((p.get i) - 48)) > 50) (by first | (simp only [vx, reduceCtorEq, wj1, wc, wp, ← hkk, hs, wi, wl, wu, ww, wm, wa]; done) | (simp only [vx, reduceCtorEq, wj1, wc, wp, ← hkk, hs, wi, wl, wu, ww, wm, wa]; grind)) (fun c20 => ?_) (fun c20 => ?_)
             ·have hw : stepZ m (p.get i) = none := by
               refine num_none hz0 hz1 hσ hR.n hR.sm ?_ ?_
               ·rintro ⟨h1, h2, h3⟩; simp only [Ks.least] at h3; first | omega | exact absurd h2 (by assumption)
               ·simp only [Ks.least, Ks.most]; first | exact .inl (by omega) | exact .inr (.inl (by omega)) | exact .inr (.inr (.inl ⟨by assumption, by omega⟩)) | exact .inr (.inr (.inr (.inl (by omega)))) | exact .inr (.inr (.inr (.inr ⟨by omega, by omega⟩)))
              refine pop_wp ?_
              refine need_wp (rw_row _ _) ?_
              refine need_wp (⟨_, _, _, rfl⟩) ?_
              refine need_wp (by first | exact rw_szz (by assumption) | exact rw_szz (.inr rfl)) ?_
              refine need_wp (by simp only [vx, reduceCtorEq, wj1, wc, wp, ← hkk, hs, wi, wl, wu, ww, wm, wa, vlen]; first | omega | (grind)) ?_
              refine need_wp (by simp only [vx, reduceCtorEq, wj1, wc, wp, ← hkk, hs, wi, wl, wu, ww, wm, wa, vlen]; first | omega | (grind)) ?_
              refine app_wp eL all out (by first | rfl | simp only [vx, reduceCtorEq, wj1, wc, wp, ← hkk, hs, wi, wl, wu, ww, wm, wa]) (by first | rfl | simp only [vx, reduceCtorEq, wj1, wc, wp, ← hkk, hs, wi, wl, wu, ww, wm, wa]) ?_
              intro a11 b11
              generalize hx11 : (⟨a11, b11, 1, all.l ++ out.l⟩ : Rw (Rw ByteArray)) = x11
              have lx11 : x11.l = all.l ++ out.l := by first | (rw [← hx11]; done) | (rw [← hx11]; rfl)
              have zx11 : x11.z = 1 := by rw [← hx11]
              have kx11 : Rw.ok 1 x11 := .inr zx11
              have nx11 : (x11.l.length : Int) = (all.l.length : Int) + (out.l.length : Int) := by first | (rw [← hx11]; done) | (rw [← hx11]; simp [Rw.nil])
              refine need_wp (⟨_, _, _, rfl⟩) ?_
              refine need_wp (by exact kargs) ?_
              refine need_wp (⟨_, _, _, rfl⟩) ?_
              refine again_wp rfl ⟨(i1 + 1), kk, x11, ((Value.nilFunc, D.leaf) : Atom), true, 0, (10 * n + ((p.get i) - 48)), true, args, many, arg, by first | (simp only [vx, reduceCtorEq, wj1, wc, wp, ← hkk, hs, wi, wl, wu, ww, wm, wa]; done) | rfl, ?_⟩ ?_
              ·subst hAV; refine ⟨by omega, by omega, by omega, ?_⟩; exact hR.bad hz hw hO.ok (by omega) (by rw [bS_len]; omega) lx11 kx11 rfl rfl
              ·(try simp only [vx, reduceCtorEq, wj1, wc, wp, ← hkk, hs, wi, wl, wu, ww, wm, wa]); omega
             ·refine brP ((10 * n + ((p.get i) - 48)) = 0) (by first | (simp only [vx, reduceCtorEq, wj1, wc, wp, ← hkk, hs, wi, wl, wu, ww, wm, wa]; done) | (simp only [vx, reduceCtorEq, wj1, wc, wp, ← hkk, hs, wi, wl, wu, ww, wm, wa]; grind)) (fun c21 => ?_) (fun c21 => ?_)
              ·have hw : stepZ m (p.get i) = none := by
                refine num_none hz0 hz1 hσ hR.n hR.sm ?_ ?_
                ·rintro ⟨h1, h2, h3⟩; simp only [Ks.least] at h3; first | omega | exact absurd h2 (by assumption)
                ·simp only [Ks.least, Ks.most]; first | exact .inl (by omega) | exact .inr (.inl (by omega)) | exact .inr (.inr (.inl ⟨by assumption, by omega⟩)) | exact .inr (.inr (.inr (.inl (by omega)))) | exact .inr (.inr (.inr (.inr ⟨by omega, by omega⟩)))
               refine pop_wp ?_
               refine need_wp (rw_row _ _) ?_
               refine need_wp (⟨_, _, _, rfl⟩) ?_
               refine need_wp (by first | exact rw_szz (by assumption) | exact rw_szz (.inr rfl)) ?_
               refine need_wp (by simp only [vx, reduceCtorEq, wj1, wc, wp, ← hkk, hs, wi, wl, wu, ww, wm, wa, vlen]; first | omega | (grind)) ?_
               refine need_wp (by simp only [vx, reduceCtorEq, wj1, wc, wp, ← hkk, hs, wi, wl, wu, ww, wm, wa, vlen]; first | omega | (grind)) ?_
               refine app_wp eL all out (by first | rfl | simp only [vx, reduceCtorEq, wj1, wc, wp, ← hkk, hs, wi, wl, wu, ww, wm, wa]) (by first | rfl | simp only [vx, reduceCtorEq, wj1, wc, wp, ← hkk, hs, wi, wl, wu, ww, wm, wa]) ?_
               intro a12 b12
               generalize hx12 : (⟨a12, b12, 1, all.l ++ out.l⟩ : Rw (Rw ByteArray)) = x12
               have lx12 : x12.l = all.l ++ out.l := by first | (rw [← hx12]; done) | (rw [← hx12]; rfl)
               have zx12 : x12.z = 1 := by rw [← hx12]
               have kx12 : Rw.ok 1 x12 := .inr zx12
               have nx12 : (x12.l.length : Int) = (all.l.length : Int) + (out.l.length : Int) := by first | (rw [← hx12]; done) | (rw [← hx12]; simp [Rw.nil])
               refine need_wp (⟨_, _, _, rfl⟩) ?_
               refine need_wp (by exact kargs) ?_
               refine need_wp (⟨_, _, _, rfl⟩) ?_
               refine again_wp rfl ⟨(i1 + 1), kk, x12, ((Value.nilFunc, D.leaf) : Atom), true, 0, (10 * n + ((p.get i) - 48)), true, args, many, arg, by first | (simp only [vx, reduceCtorEq, wj1, wc, wp, ← hkk, hs, wi, wl, wu, ww, wm, wa]; done) | rfl, ?_⟩ ?_
               ·subst hAV; refine ⟨by omega, by omega, by omega, ?_⟩; exact hR.bad hz hw hO.ok (by omega) (by rw [bS_len]; omega) lx12 kx12 rfl rfl
               ·(try simp only [vx, reduceCtorEq, wj1, wc, wp, ← hkk, hs, wi, wl, wu, ww, wm, wa]); omega
              ·refine need_wp (⟨_, _, _, rfl⟩) ?_
               refine need_wp (by exact kargs) ?_
               refine need_wp (⟨_, _, _, rfl⟩) ?_
               refine need_wp (⟨_, _, _, rfl⟩) ?_
               refine again_wp rfl ⟨(i + 1), now, (left + 1), (10 * n + ((p.get i) - 48)), true, args, many, arg, out, by first | (simp only [vx, reduceCtorEq, wj1, wc, wp, ← hkk, hs, wi, wl, wu, ww, wm, wa]; done) | rfl, ?_⟩ ?_
               ·have hs := num_dig hz0 hz1 hσ hR.n hR.sm (by rintro ⟨h1, h2, h3⟩; simp only [Ks.least] at h3; first | omega | exact absurd h2 (by assumption)) (by omega) (by omega) (by rintro ⟨h1, h2⟩; first | omega | exact absurd h1 (by assumption)) (by simp only [Ks.most]; omega) (by rintro ⟨h1, h2⟩; simp only [Ks.least] at h2; omega); exact ⟨by omega, by omega, _, hR.next' hz hz0 hz1 ht hs (by have := hR.now; rw [hσ] at this; simpa only [hσ] using this) (by first | omega | (simp only; omega)) rfl rfl hR.many (fun h => hR.args h) hR.arg hR.out⟩
               ·(try simp only [vx, reduceCtorEq, wj1, wc, wp, ← hkk, hs, wi, wl, wu, ww, wm, wa]); omega
         ·refine brP ((p.get i) < 48) (by first | (simp only [vx, reduceCtorEq, wj1, wc, wp, ← hkk, hs, wi, wl]; done) | (simp only [vx, reduceCtorEq, wj1, wc, wp, ← hkk, hs, wi, wl]; grind)) (fun c22 => ?_) (fun c22 => ?_)
          ·have hw : stepZ m (p.get i) = none := by
            refine num_none hz0 hz1 hσ hR.n hR.sm ?_ ?_
            ·rintro ⟨h1, h2, h3⟩; simp only [Ks.least] at h3; first | omega | exact absurd h2 (by assumption)
            ·simp only [Ks.least, Ks.most]; first | exact .inl (by omega) | exact .inr (.inl (by omega)) | exact .inr (.inr (.inl ⟨by assumption, by omega⟩)) | exact .inr (.inr (.inr (.inl (by omega)))) | exact .inr (.inr (.inr (.inr ⟨by omega, by omega⟩)))
           refine pop_wp ?_
           refine need_wp (rw_row _ _) ?_
           refine need_wp (⟨_, _, _, rfl⟩) ?_
           refine need_wp (by first | exact rw_szz (by assumption) | exact rw_szz (.inr rfl)) ?_
           refine need_wp (by simp only [vx, reduceCtorEq, wj1, wc, wp, ← hkk, hs, wi, wl, vlen]; first | omega | (grind)) ?_
           refine need_wp (by simp only [vx, reduceCtorEq, wj1, wc, wp, ← hkk, hs, wi, wl, vlen]; first | omega | (grind)) ?_
           refine app_wp eL all out (by first | rfl | simp only [vx, reduceCtorEq, wj1, wc, wp, ← hkk, hs, wi, wl]) (by first | rfl | simp only [vx, reduceCtorEq, wj1, wc, wp, ← hkk, hs, wi, wl]) ?_
           intro a13 b13
           generalize hx13 : (⟨a13, b13, 1, all.l ++ out.l⟩ : Rw (Rw ByteArray)) = x13
           have lx13 : x13.l = all.l ++ out.l := by first | (rw [← hx13]; done) | (rw [← hx13]; rfl)
           have zx13 : x13.z = 1 := by rw [← hx13]
           have kx13 : Rw.ok 1 x13 := .inr zx13
           have nx13 : (x13.l.length : Int) = (all.l.length : Int) + (out.l.length : Int) := by first | (rw [← hx13]; done) | (rw [← hx13]; simp [Rw.nil])
           refine need_wp (⟨_, _, _, rfl⟩) ?_
           refine need_wp (by exact kargs) ?_
           refine need_wp (⟨_, _, _, rfl⟩) ?_
           refine again_wp rfl ⟨(i1 + 1), kk, x13, ((Value.nilFunc, D.leaf) : Atom), true, 0, n, sm, args, many, arg, by first | (simp only [vx, reduceCtorEq, wj1, wc, wp, ← hkk, hs, wi, wl]; done) | rfl, ?_⟩ ?_
           ·subst hAV; refine ⟨by omega, by omega, by omega, ?_⟩; exact hR.bad hz hw hO.ok (by omega) (by rw [bS_len]; omega) lx13 kx13 rfl rfl
           ·(try simp only [vx, reduceCtorEq, wj1, wc, wp, ← hkk, hs, wi, wl]); omega
          ·refine brP ((p.get i) > 57) (by first | (simp only [vx, reduceCtorEq, wj1, wc, wp, ← hkk, hs, wi, wl]; done) | (simp only [vx, reduceCtorEq, wj1, wc, wp, ← hkk, hs, wi, wl]; grind)) (fun c23 => ?_) (fun c23 => ?_)
           ·have hw : stepZ m (p.get i) = none := by
             refine num_none hz0 hz1 hσ hR.n hR.sm ?_ ?_
             ·rintro ⟨h1, h2, h3⟩; simp only [Ks.least] at h3; first | omega | exact absurd h2 (by assumption)
             ·simp only [Ks.least, Ks.most]; first | exact .inl (by omega) | exact .inr (.inl (by omega)) | exact .inr (.inr (.inl ⟨by assumption, by omega⟩)) | exact .inr (.inr (.inr (.inl (by omega)))) | exact .inr (.inr (.inr (.inr ⟨by omega, by omega⟩)))
            refine pop_wp ?_
            refine need_wp (rw_row _ _) ?_
            refine need_wp (⟨_, _, _, rfl⟩) ?_
            refine need_wp (by first | exact rw_szz (by assumption) | exact rw_szz (.inr rfl)) ?_
            refine need_wp (by simp only [vx, reduceCtorEq, wj1, wc, wp, ← hkk, hs, wi, wl, vlen]; first | omega | (grind)) ?_
            refine need_wp (by simp only [vx, reduceCtorEq, wj1, wc, wp, ← hkk, hs, wi, wl, vlen]; first | omega | (grind)) ?_
            refine app_wp eL all out (by first | rfl | simp only [vx, reduceCtorEq, wj1, wc, wp, ← hkk, hs, wi, wl]) (by first | rfl | simp only [vx, reduceCtorEq, wj1, wc, wp, ← hkk, hs, wi, wl]) ?_
            intro a14 b14
            generalize hx14 : (⟨a14, b14, 1, all.l ++ out.l⟩ : Rw (Rw ByteArray)) = x14
            have lx14 : x14.l = all.l ++ out.l := by first | (rw [← hx14]; done) | (rw [← hx14]; rfl)
            have zx14 : x14.z = 1 := by rw [← hx14]
            have kx14 : Rw.ok 1 x14 := .inr zx14
            have nx14 : (x14.l.length : Int) = (all.l.length : Int) + (out.l.length : Int) := by first | (rw [← hx14]; done) | (rw [← hx14]; simp [Rw.nil])
            refine need_wp (⟨_, _, _, rfl⟩) ?_
            refine need_wp (by exact kargs) ?_
            refine need_wp (⟨_, _, _, rfl⟩) ?_
            refine again_wp rfl ⟨(i1 + 1), kk, x14, ((Value.nilFunc, D.leaf) : Atom), true, 0, n, sm, args, many, arg, by first | (simp only [vx, reduceCtorEq, wj1, wc, wp, ← hkk, hs, wi, wl]; done) | rfl, ?_⟩ ?_
            ·subst hAV; refine ⟨by omega, by omega, by omega, ?_⟩; exact hR.bad hz hw hO.ok (by omega) (by rw [bS_len]; omega) lx14 kx14 rfl rfl
            ·(try simp only [vx, reduceCtorEq, wj1, wc, wp, ← hkk, hs, wi, wl]); omega
           ·have wu : IntKind.u8.wrap ((p.get i) - 48) = (p.get i) - 48 := by rw [IntKind.wrap_u8]; omega
            have ww : IntKind.i64.wrap ((p.get i) - 48) = (p.get i) - 48 := wrap_id _ (by omega) (by omega)
            have wm : IntKind.i64.wrap (10 * n) = 10 * n := wrap_id _ (by omega) (by omega)
            have wa : IntKind.i64.wrap (10 * n + ((p.get i) - 48)) = 10 * n + ((p.get i) - 48) := wrap_id _ (by omega) (by omega)
            refine brP (sm = true) (by first | (simp only [vx, reduceCtorEq, wj1, wc, wp, ← hkk, hs, wi, wl, wu, ww, wm, wa]; done) | (simp only [vx, reduceCtorEq, wj1, wc, wp, ← hkk, hs, wi, wl, wu, ww, wm, wa]; grind)) (fun c24 => ?_) (fun c24 => ?_)
            ·refine brP (n = 0) (by first | (simp only [vx, reduceCtorEq, wj1, wc, wp, ← hkk, hs, wi, wl, wu, ww, wm, wa]; done) | (simp only [vx, reduceCtorEq, wj1, wc, wp, ← hkk, hs, wi, wl, wu, ww, wm, wa]; grind)) (fun c25 => ?_) (fun c25 => ?_)
             ·have hw : stepZ m (p.get i) = none := by
               refine num_none hz0 hz1 hσ hR.n hR.sm ?_ ?_
               ·rintro ⟨h1, h2, h3⟩; simp only [Ks.least] at h3; first | omega | exact absurd h2 (by assumption)
               ·simp only [Ks.least, Ks.most]; first | exact .inl (by omega) | exact .inr (.inl (by omega)) | exact .inr (.inr (.inl ⟨by assumption, by omega⟩)) | exact .inr (.inr (.inr (.inl (by omega)))) | exact .inr (.inr (.inr (.inr ⟨by omega, by omega⟩)))
              refine pop_wp ?_
              refine need_wp (rw_row _ _) ?_
              refine need_wp (⟨_, _, _, rfl⟩) ?_
              refine need_wp (by first | exact rw_szz (by assumption) | exact rw_szz (.inr rfl)) ?_
              refine need_wp (by simp only [vx, reduceCtorEq, wj1, wc, wp, ← hkk, hs, wi, wl, wu, ww, wm, wa, vlen]; first | omega | (grind)) ?_
              refine need_wp (by simp only [vx, reduceCtorEq, wj1, wc, wp, ← hkk, hs, wi, wl, wu, ww, wm, wa, vlen]; first | omega | (grind)) ?_
              refine app_wp eL all out (by first | rfl | simp only [vx, reduceCtorEq, wj1, wc, wp, ← hkk, hs, wi, wl, wu, ww, wm, wa]) (by first | rfl | simp only [vx, reduceCtorEq, wj1, wc, wp, ← hkk, hs, wi, wl, wu, ww, wm, wa]) ?_
              intro a15 b15
              generalize hx15 : (⟨a15, b15, 1, all.l ++ out.l⟩ : Rw (Rw ByteArray)) = x15
              have lx15 : x15.l = all.l ++ out.l := by first | (rw [← hx15]; done) | (rw [← hx15]; rfl)
              have zx15 : x15.z = 1 := by rw [← hx15]
              have kx15 : Rw.ok 1 x15 := .inr zx15
              have nx15 : (x15.l.length : Int) = (all.l.length : Int) + (out.l.length : Int) := by first | (rw [← hx15]; done) | (rw [← hx15]; simp [Rw.nil])
              refine need_wp (⟨_, _, _, rfl⟩) ?_
              refine need_wp (by exact kargs) ?_
              refine need_wp (⟨_, _, _, rfl⟩) ?_
              refine again_wp rfl ⟨(i1 + 1), kk, x15, ((Value.nilFunc, D.leaf) : Atom), true, 0, n, sm, args, many, arg, by first | (simp only [vx, reduceCtorEq, wj1, wc, wp, ← hkk, hs, wi, wl, wu, ww, wm, wa]; done) | rfl, ?_⟩ ?_
              ·subst hAV; refine ⟨by omega, by omega, by omega, ?_⟩; exact hR.bad hz hw hO.ok (by omega) (by rw [bS_len]; omega) lx15 kx15 rfl rfl
              ·(try simp only [vx, reduceCtorEq, wj1, wc, wp, ← hkk, hs, wi, wl, wu, ww, wm, wa]); omega
             ·refine brP ((10 * n + ((p.get i) - 48)) > 50) (by first | (simp only [vx, reduceCtorEq, wj1, wc, wp, ← hkk, hs, wi, wl, wu, ww, wm, wa]; done) | (simp only [vx, reduceCtorEq, wj1, wc, wp, ← hkk, hs, wi, wl, wu, ww, wm, wa]; grind)) (fun c26 => ?_) (fun c26 => ?_)
              ·have hw : stepZ m (p.get i) = none := by
                refine num_none hz0 hz1 hσ hR.n hR.sm ?_ ?_
                ·rintro ⟨h1, h2, h3⟩; simp only [Ks.least] at h3; first | omega | exact absurd h2 (by assumption)
                ·simp only [Ks.least, Ks.most]; first | exact .inl (by omega) | exact .inr (.inl (by omega)) | exact .inr (.inr (.inl ⟨by assumption, by omega⟩)) | exact .inr (.inr (.inr (.inl (by omega)))) | exact .inr (.inr (.inr (.inr ⟨by omega, by omega⟩)))
               refine pop_wp ?_
               refine need_wp (rw_row _ _) ?_
               refine need_wp (⟨_, _, _, rfl⟩) ?_
               refine need_wp (by first | exact rw_szz (by assumption) | exact rw_szz (.inr rfl)) ?_
               refine need_wp (by simp only [vx, reduceCtorEq, wj1, wc, wp, ← hkk, hs, wi, wl, wu, ww, wm, wa, vlen]; first | omega | (grind)) ?_
               refine need_wp (by simp only [vx, reduceCtorEq, wj1, wc, wp, ← hkk, hs, wi, wl, wu, ww, wm, wa, vlen]; first | omega | (grind)) ?_
               refine app_wp eL all out (by first | rfl | simp only [vx, reduceCtorEq, wj1, wc, wp, ← hkk, hs, wi, wl, wu, ww, wm, wa]) (by first | rfl | simp only [vx, reduceCtorEq, wj1, wc, wp, ← hkk, hs, wi, wl, wu, ww, wm, wa]) ?_
               intro a16 b16
               generalize hx16 : (⟨a16, b16, 1, all.l ++ out.l⟩ : Rw (Rw ByteArray)) = x16
               have lx16 : x16.l = all.l ++ out.l := by first | (rw [← hx16]; done) | (rw [← hx16]; rfl)
               have zx16 : x16.z = 1 := by rw [← hx16]
               have kx16 : Rw.ok 1 x16 := .inr zx16
               have nx16 : (x16.l.length : Int) = (all.l.length : Int) + (out.l.length : Int) := by first | (rw [← hx16]; done) | (rw [← hx16]; simp [Rw.nil])
               refine need_wp (⟨_, _, _, rfl⟩) ?_
               refine need_wp (by exact kargs) ?_
               refine need_wp (⟨_, _, _, rfl⟩) ?_
               refine again_wp rfl ⟨(i1 + 1), kk, x16, ((Value.nilFunc, D.leaf) : Atom), true, 0, (10 * n + ((p.get i) - 48)), true, args, many, arg, by first | (simp only [vx, reduceCtorEq, wj1, wc, wp, ← hkk, hs, wi, wl, wu, ww, wm, wa]; done) | rfl, ?_⟩ ?_
               ·subst hAV; refine ⟨by omega, by omega, by omega, ?_⟩; exact hR.bad hz hw hO.ok (by omega) (by rw [bS_len]; omega) lx16 kx16 rfl rfl
               ·(try simp only [vx, reduceCtorEq, wj1, wc, wp, ← hkk, hs, wi, wl, wu, ww, wm, wa]); omega
              ·refine brP ((10 * n + ((p.get i) - 48)) = 0) (by first | (simp only [vx, reduceCtorEq, wj1, wc, wp, ← hkk, hs, wi, wl, wu, ww, wm, wa]; done) | (simp only [vx, reduceCtorEq, wj1, wc, wp, ← hkk, hs, wi, wl, wu, ww, wm, wa]; grind)) (fun c27 => ?_) (fun c27 => ?_)
               ·have hw : stepZ m (p.get i) = none := by
                 refine num_none hz0 hz1 hσ hR.n hR.sm ?_ ?_
                 ·rintro ⟨h1, h2, h3⟩; simp only [Ks.least] at h3; first | omega | exact absurd h2 (by assumption)
                 ·simp only [Ks.least, Ks.most]; first | exact .inl (by omega) | exact .inr (.inl (by omega)) | exact .inr (.inr (.inl ⟨by assumption, by omega⟩)) | exact .inr (.inr (.inr (.inl (by omega)))) | exact .inr (.inr (.inr (.inr ⟨by omega, by omega⟩)))
                refine pop_wp ?_
                refine need_wp (rw_row _ _) ?_
                refine need_wp (⟨_, _, _, rfl⟩) ?_
                refine need_wp (by first | exact rw_szz (by assumption) | exact rw_szz (.inr rfl)) ?_
                refine need_wp (by simp only [vx, reduceCtorEq, wj1, wc, wp, ← hkk, hs, wi, wl, wu, ww, wm, wa, vlen]; first | omega | (grind)) ?_
                refine need_wp (by simp only [vx, reduceCtorEq, wj1, wc, wp, ← hkk, hs, wi, wl, wu, ww, wm, wa, vlen]; first | omega | (grind)) ?_
                refine app_wp eL all out (by first | rfl | simp only [vx, reduceCtorEq, wj1, wc, wp, ← hkk, hs, wi, wl, wu, ww, wm, wa]) (by first | rfl | simp only [vx, reduceCtorEq, wj1, wc, wp, ← hkk, hs, wi, wl, wu, ww, wm, wa]) ?_
                intro a17 b17
                generalize hx17 : (⟨a17, b17, 1, all.l ++ out.l⟩ : Rw (Rw ByteArray)) = x17
                have lx17 : x17.l = all.l ++ out.l := by first | (rw [← hx17]; done) | (rw [← hx17]; rfl)
                have zx17 : x17.z = 1 := by rw [← hx17]
                have kx17 : Rw.ok 1 x17 := .inr zx17
                have nx17 : (x17.l.length : Int) = (all.l.length : Int) + (out.l.length : Int) := by first | (rw [← hx17]; done) | (rw [← hx17]; simp [Rw.nil])
                refine need_wp (⟨_, _, _, rfl⟩) ?_
                refine need_wp (by exact kargs) ?_
                refine need_wp (⟨_, _, _, rfl⟩) ?_
                refine again_wp rfl ⟨(i1 + 1), kk, x17, ((Value.nilFunc, D.leaf) : Atom), true, 0, (10 * n + ((p.get i) - 48)), true, args, many, arg, by first | (simp only [vx, reduceCtorEq, wj1, wc, wp, ← hkk, hs, wi, wl, wu, ww, wm, wa]; done) | rfl, ?_⟩ ?_
                ·subst hAV; refine ⟨by omega, by omega, by omega, ?_⟩; exact hR.bad hz hw hO.ok (by omega) (by rw [bS_len]; omega) lx17 kx17 rfl rfl
                ·(try simp only [vx, reduceCtorEq, wj1, wc, wp, ← hkk, hs, wi, wl, wu, ww, wm, wa]); omega
               ·refine need_wp (⟨_, _, _, rfl⟩) ?_
                refine need_wp (by exact kargs) ?_
                refine need_wp (⟨_, _, _, rfl⟩) ?_
                refine need_wp (⟨_, _, _, rfl⟩) ?_
                refine again_wp rfl ⟨(i + 1), now, (left + 1), (10 * n + ((p.get i) - 48)), true, args, many, arg, out, by first | (simp only [vx, reduceCtorEq, wj1, wc, wp, ← hkk, hs, wi, wl, wu, ww, wm, wa]; done) | rfl, ?_⟩ ?_
                ·have hs := num_dig hz0 hz1 hσ hR.n hR.sm (by rintro ⟨h1, h2, h3⟩; simp only [Ks.least] at h3; first | omega | exact absurd h2 (by assumption)) (by omega) (by omega) (by rintro ⟨h1, h2⟩; first | omega | exact absurd h1 (by assumption)) (by simp only [Ks.most]; omega) (by rintro ⟨h1, h2⟩; simp only [Ks.least] at h2; omega); exact ⟨by omega, by omega, _, hR.next' hz hz0 hz1 ht hs (by have := hR.now; rw [hσ] at this; simpa only [hσ] using this) (by first | omega | (simp only; omega)) rfl rfl hR.many (fun h => hR.args h) hR.arg hR.out⟩
                ·(try simp only [vx, reduceCtorEq, wj1, wc, wp, ← hkk, hs, wi, wl, wu, ww, wm, wa]); omega
            ·refine brP ((10 * n + ((p.get i) - 48)) > 50) (by first | (simp only [vx, reduceCtorEq, wj1, wc, wp, ← hkk, hs, wi, wl, wu, ww, wm, wa]; done) | (simp only [vx, reduceCtorEq, wj1, wc, wp, ← hkk, hs, wi, wl, wu, ww, wm, wa]; grind)) (fun c28 => ?_) (fun c28 => ?_)
             ·have hw : stepZ m (p.get i) = none := by
               refine num_none hz0 hz1 hσ hR.n hR.sm ?_ ?_
               ·rintro ⟨h1, h2, h3⟩; simp only [Ks.least] at h3; first | omega | exact absurd h2 (by assumption)
               ·simp only [Ks.least, Ks.most]; first | exact .inl (by omega) | exact .inr (.inl (by omega)) | exact .inr (.inr (.inl ⟨by assumption, by omega⟩)) | exact .inr (.inr (.inr (.inl (by omega)))) | exact .inr (.inr (.inr (.inr ⟨by omega, by omega⟩)))
              refine pop_wp ?_
              refine need_wp (rw_row _ _) ?_
              refine need_wp (⟨_, _, _, rfl⟩) ?_
              refine need_wp (by first | exact rw_szz (by assumption) | exact rw_szz (.inr rfl)) ?_
              refine need_wp (by simp only [vx, reduceCtorEq, wj1, wc, wp, ← hkk, hs, wi, wl, wu, ww, wm, wa, vlen]; first | omega | (grind)) ?_
              refine need_wp (by simp only [vx, reduceCtorEq, wj1, wc, wp, ← hkk, hs, wi, wl, wu, ww, wm, wa, vlen]; first | omega | (grind)) ?_
              refine app_wp eL all out (by first | rfl | simp only [vx, reduceCtorEq, wj1, wc, wp, ← hkk, hs, wi, wl, wu, ww, wm, wa]) (by first | rfl | simp only [vx, reduceCtorEq, wj1, wc, wp, ← hkk, hs, wi, wl, wu, ww, wm, wa]) ?_
              intro a18 b18
              generalize hx18 : (⟨a18, b18, 1, all.l ++ out.l⟩ : Rw (Rw ByteArray)) = x18
              have lx18 : x18.l = all.l ++ out.l := by first | (rw [← hx18]; done) | (rw [← hx18]; rfl)
              have zx18 : x18.z = 1 := by rw [← hx18]
              have kx18 : Rw.ok 1 x18 := .inr zx18
              have nx18 : (x18.l.length : Int) = (all.l.length : Int) + (out.l.length : Int) := by first | (rw [← hx18]; done) | (rw [← hx18]; simp [Rw.nil])
              refine need_wp (⟨_, _, _, rfl⟩) ?_
              refine need_wp (by exact kargs) ?_
              refine need_wp (⟨_, _, _, rfl⟩) ?_
              refine again_wp rfl ⟨(i1 + 1), kk, x18, ((Value.nilFunc, D.leaf) : Atom), true, 0, (10 * n + ((p.get i) - 48)), true, args, many, arg, by first | (simp only [vx, reduceCtorEq, wj1, wc, wp, ← hkk, hs, wi, wl, wu, ww, wm, wa]; done) | rfl, ?_⟩ ?_
              ·subst hAV; refine ⟨by omega, by omega, by omega, ?_⟩; exact hR.bad hz hw hO.ok (by omega) (by rw [bS_len]; omega) lx18 kx18 rfl rfl
              ·(try simp only [vx, reduceCtorEq, wj1, wc, wp, ← hkk, hs, wi, wl, wu, ww, wm, wa]); omega
             ·refine brP ((10 * n + ((p.get i) - 48)) = 0) (by first | (simp only [vx, reduceCtorEq, wj1, wc, wp, ← hkk, hs, wi, wl, wu, ww, wm, wa]; done) | (simp only [vx, reduceCtorEq, wj1, wc, wp, ← hkk, hs, wi, wl, wu, ww, wm, wa]; grind)) (fun c29 => ?_) (fun c29 => ?_)
              ·have hw : stepZ m (p.get i) = none := by
                refine num_none hz0 hz1 hσ hR.n hR.sm ?_ ?_
                ·rintro ⟨h1, h2, h3⟩; simp only [Ks.least] at h3; first | omega | exact absurd h2 (by assumption)
                ·simp only [Ks.least, Ks.most]; first | exact .inl (by omega) | exact .inr (.inl (by omega)) | exact .inr (.inr (.inl ⟨by assumption, by omega⟩)) | exact .inr (.inr (.inr (.inl (by omega)))) | exact .inr (.inr (.inr (.inr ⟨by omega, by omega⟩)))
               refine pop_wp ?_
               refine need_wp (rw_row _ _) ?_
               refine need_wp (⟨_, _, _, rfl⟩) ?_
               refine need_wp (by first | exact rw_szz (by assumption) | exact rw_szz (.inr rfl)) ?_
               refine need_wp (by simp only [vx, reduceCtorEq, wj1, wc, wp, ← hkk, hs, wi, wl, wu, ww, wm, wa, vlen]; first | omega | (grind)) ?_
               refine need_wp (by simp only [vx, reduceCtorEq, wj1, wc, wp, ← hkk, hs, wi, wl, wu, ww, wm, wa, vlen]; first | omega | (grind)) ?_
               refine app_wp eL all out (by first | rfl | simp only [vx, reduceCtorEq, wj1, wc, wp, ← hkk, hs, wi, wl, wu, ww, wm, wa]) (by first | rfl | simp only [vx, reduceCtorEq, wj1, wc, wp, ← hkk, hs, wi, wl, wu, ww, wm, wa]) ?_
               intro a19 b19
               generalize hx19 : (⟨a19, b19, 1, all.l ++ out.l⟩ : Rw (Rw ByteArray)) = x19
               have lx19 : x19.l = all.l ++ out.l := by first | (rw [← hx19]; done) | (rw [← hx19]; rfl)
               have zx19 : x19.z = 1 := by rw [← hx19]
               have kx19 : Rw.ok 1 x19 := .inr zx19
               have nx19 : (x19.l.length : Int) = (all.l.length : Int) + (out.l.length : Int) := by first | (rw [← hx19]; done) | (rw [← hx19]; simp [Rw.nil])
               refine need_wp (⟨_, _, _, rfl⟩) ?_
               refine need_wp (by exact kargs) ?_
               refine need_wp (⟨_, _, _, rfl⟩) ?_
               refine again_wp rfl ⟨(i1 + 1), kk, x19, ((Value.nilFunc, D.leaf) : Atom), true, 0, (10 * n + ((p.get i) - 48)), true, args, many, arg, by first | (simp only [vx, reduceCtorEq, wj1, wc, wp, ← hkk, hs, wi, wl, wu, ww, wm, wa]; done) | rfl, ?_⟩ ?_
               ·subst hAV; refine ⟨by omega, by omega, by omega, ?_⟩; exact hR.bad hz hw hO.ok (by omega) (by rw [bS_len]; omega) lx19 kx19 rfl rfl
               ·(try simp only [vx, reduceCtorEq, wj1, wc, wp, ← hkk, hs, wi, wl, wu, ww, wm, wa]); omega
              ·refine need_wp (⟨_, _, _, rfl⟩) ?_
               refine need_wp (by exact kargs) ?_
               refine need_wp (⟨_, _, _, rfl⟩) ?_
               refine need_wp (⟨_, _, _, rfl⟩) ?_
               refine again_wp rfl ⟨(i + 1), now, (left + 1), (10 * n + ((p.get i) - 48)), true, args, many, arg, out, by first | (simp only [vx, reduceCtorEq, wj1, wc, wp, ← hkk, hs, wi, wl, wu, ww, wm, wa]; done) | rfl, ?_⟩ ?_
               ·have hs := num_dig hz0 hz1 hσ hR.n hR.sm (by rintro ⟨h1, h2, h3⟩; simp only [Ks.least] at h3; first | omega | exact absurd h2 (by assumption)) (by omega) (by omega) (by rintro ⟨h1, h2⟩; first | omega | exact absurd h1 (by assumption)) (by simp only [Ks.most]; omega) (by rintro ⟨h1, h2⟩; simp only [Ks.least] at h2; omega); exact ⟨by omega, by omega, _, hR.next' hz hz0 hz1 ht hs (by have := hR.now; rw [hσ] at this; simpa only [hσ] using this) (by first | omega | (simp only; omega)) rfl rfl hR.many (fun h => hR.args h) hR.arg hR.out⟩
               ·(try simp only [vx, reduceCtorEq, wj1, wc, wp, ← hkk, hs, wi, wl, wu, ww, wm, wa]); omega
        ·refine brP (cloB (.some 40) [(.int .u8 10), (.fn 36)] now = true) (by first | (simp only [vx, reduceCtorEq, wj1, wc, wp, ← hkk, hs, wi, wl]; done) | (simp only [vx, reduceCtorEq, wj1, wc, wp, ← hkk, hs, wi, wl]; grind)) (fun c30 => ?_) (fun c30 => ?_)
         ·have hσ : m.σ = (.lf .cnt) := now_of (τ := (.lf .cnt)) hR.now c30
          refine brP ((p.get i) ≠ 10) (by first | (simp only [vx, reduceCtorEq, wj1, wc, wp, ← hkk, hs, wi, wl]; done) | (simp only [vx, reduceCtorEq, wj1, wc, wp, ← hkk, hs, wi, wl]; grind)) (fun c31 => ?_) (fun c31 => ?_)
          ·have hw : stepZ m (p.get i) = none := by rw [sz_lfc hz0 hz1 hσ, if_neg (by omega)]
           refine pop_wp ?_
           refine need_wp (rw_row _ _) ?_
           refine need_wp (⟨_, _, _, rfl⟩) ?_
           refine need_wp (by first | exact rw_szz (by assumption) | exact rw_szz (.inr rfl)) ?_
           refine need_wp (by simp only [vx, reduceCtorEq, wj1, wc, wp, ← hkk, hs, wi, wl, vlen]; first | omega | (grind)) ?_
           refine need_wp (by simp only [vx, reduceCtorEq, wj1, wc, wp, ← hkk, hs, wi, wl, vlen]; first | omega | (grind)) ?_
           refine app_wp eL all out (by first | rfl | simp only [vx, reduceCtorEq, wj1, wc, wp, ← hkk, hs, wi, wl]) (by first | rfl | simp only [vx, reduceCtorEq, wj1, wc, wp, ← hkk, hs, wi, wl]) ?_
           intro a20 b20
           generalize hx20 : (⟨a20, b20, 1, all.l ++ out.l⟩ : Rw (Rw ByteArray)) = x20
           have lx20 : x20.l = all.l ++ out.l := by first | (rw [← hx20]; done) | (rw [← hx20]; rfl)
           have zx20 : x20.z = 1 := by rw [← hx20]
           have kx20 : Rw.ok 1 x20 := .inr zx20
           have nx20 : (x20.l.length : Int) = (all.l.length : Int) + (out.l.length : Int) := by first | (rw [← hx20]; done) | (rw [← hx20]; simp [Rw.nil])
           refine need_wp (⟨_, _, _, rfl⟩) ?_
           refine need_wp (by exact kargs) ?_
           refine need_wp (⟨_, _, _, rfl⟩) ?_
           refine again_wp rfl ⟨(i1 + 1), kk, x20, ((Value.nilFunc, D.leaf) : Atom), true, 0, n, sm, args, many, arg, by first | (simp only [vx, reduceCtorEq, wj1, wc, wp, ← hkk, hs, wi, wl]; done) | rfl, ?_⟩ ?_
           ·subst hAV; refine ⟨by omega, by omega, by omega, ?_⟩; exact hR.bad hz hw hO.ok (by omega) (by rw [bS_len]; omega) lx20 kx20 rfl rfl
           ·(try simp only [vx, reduceCtorEq, wj1, wc, wp, ← hkk, hs, wi, wl]); omega
          ·refine clo_wp ?_
           intro y5 o5 q5
           refine need_wp (⟨_, _, _, rfl⟩) ?_
           refine need_wp (⟨_, _, _, rfl⟩) ?_
           refine need_wp (⟨_, _, _, rfl⟩) ?_
           refine need_wp (⟨_, _, _, rfl⟩) ?_
           refine again_wp rfl ⟨(i + 1), y5, (left + 1), n, sm, (Rw.atom eS (Rw.nil : Rw ByteArray)), n, arg, out, by first | (simp only [vx, reduceCtorEq, wj1, wc, wp, ← hkk, hs, wi, wl]; done) | (simp only [vx, reduceCtorEq, wj1, wc, wp, ← hkk, hs, wi, wl]; rfl) | (simp only [vx, reduceCtorEq, wj1, wc, wp, ← hkk, hs, wi, wl, Rw.nil, Rw.atom, List.length_nil, List.map_nil]; done), ?_⟩ ?_
           ·have hs := (sz_lfc hz0 hz1 hσ).trans (if_pos (by omega)); exact ⟨by omega, by omega, _, hR.next' hz hz0 hz1 ht hs (q5) (by first | omega | (simp only; omega)) hR.n hR.sm hR.n (fun _ => ⟨Rw.nil, rfl, rfl, .inl rfl⟩) hR.arg hR.out⟩
           ·(try simp only [vx, reduceCtorEq, wj1, wc, wp, ← hkk, hs, wi, wl]); omega
         ·refine brP (cloB (.some 40) [(.int .u8 36), (.fn 43)] now = true) (by first | (simp only [vx, reduceCtorEq, wj1, wc, wp, ← hkk, hs, wi, wl]; done) | (simp only [vx, reduceCtorEq, wj1, wc, wp, ← hkk, hs, wi, wl]; grind)) (fun c32 => ?_) (fun c32 => ?_)
          ·have hσ : m.σ = .dol := now_of (τ := .dol) hR.now c32
           refine brP ((p.get i) ≠ 36) (by first | (simp only [vx, reduceCtorEq, wj1, wc, wp, ← hkk, hs, wi, wl]; done) | (simp only [vx, reduceCtorEq, wj1, wc, wp, ← hkk, hs, wi, wl]; grind)) (fun c33 => ?_) (fun c33 => ?_)
           ·have hw : stepZ m (p.get i) = none := by rw [sz_dol hz0 hz1 hσ, if_neg (by omega)]
            refine pop_wp ?_
            refine need_wp (rw_row _ _) ?_
            refine need_wp (⟨_, _, _, rfl⟩) ?_
            refine need_wp (by first | exact rw_szz (by assumption) | exact rw_szz (.inr rfl)) ?_
            refine need_wp (by simp only [vx, reduceCtorEq, wj1, wc, wp, ← hkk, hs, wi, wl, vlen]; first | omega | (grind)) ?_
            refine need_wp (by simp only [vx, reduceCtorEq, wj1, wc, wp, ← hkk, hs, wi, wl, vlen]; first | omega | (grind)) ?_
            refine app_wp eL all out (by first | rfl | simp only [vx, reduceCtorEq, wj1, wc, wp, ← hkk, hs, wi, wl]) (by first | rfl | simp only [vx, reduceCtorEq, wj1, wc, wp, ← hkk, hs, wi, wl]) ?_
            intro a21 b21
            generalize hx21 : (⟨a21, b21, 1, all.l ++ out.l⟩ : Rw (Rw ByteArray)) = x21
            have lx21 : x21.l = all.l ++ out.l := by first | (rw [← hx21]; done) | (rw [← hx21]; rfl)
            have zx21 : x21.z = 1 := by rw [← hx21]
            have kx21 : Rw.ok 1 x21 := .inr zx21
            have nx21 : (x21.l.length : Int) = (all.l.length : Int) + (out.l.length : Int) := by first | (rw [← hx21]; done) | (rw [← hx21]; simp [Rw.nil])
            refine need_wp (⟨_, _, _, rfl⟩) ?_
            refine need_wp (by exact kargs) ?_
            refine need_wp (⟨_, _, _, rfl⟩) ?_
            refine again_wp rfl ⟨(i1 + 1), kk, x21, ((Value.nilFunc, D.leaf) : Atom), true, 0, n, sm, args, many, arg, by first | (simp only [vx, reduceCtorEq, wj1, wc, wp, ← hkk, hs, wi, wl]; done) | rfl, ?_⟩ ?_
            ·subst hAV; refine ⟨by omega, by omega, by omega, ?_⟩; exact hR.bad hz hw hO.ok (by omega) (by rw [bS_len]; omega) lx21 kx21 rfl rfl
            ·(try simp only [vx, reduceCtorEq, wj1, wc, wp, ← hkk, hs, wi, wl]); omega
           ·refine clo_wp ?_
            intro y6 o6 q6
            refine need_wp (⟨_, _, _, rfl⟩) ?_
            refine need_wp (by exact kargs) ?_
            refine need_wp (⟨_, _, _, rfl⟩) ?_
            refine need_wp (⟨_, _, _, rfl⟩) ?_
            refine again_wp rfl ⟨(i + 1), y6, (left + 1), 0, false, args, many, arg, out, by first | (simp only [vx, reduceCtorEq, wj1, wc, wp, ← hkk, hs, wi, wl]; done) | rfl, ?_⟩ ?_
            ·have hs := (sz_dol hz0 hz1 hσ).trans (if_pos (by omega)); exact ⟨by omega, by omega, _, hR.next' hz hz0 hz1 ht hs (q6) (by first | omega | (simp only; omega)) rfl rfl hR.many (fun _ => hR.args (by rw [hσ]; rfl)) hR.arg hR.out⟩
            ·(try simp only [vx, reduceCtorEq, wj1, wc, wp, ← hkk, hs, wi, wl]); omega
          ·refine brP (cloB (.some 41) [(.int .i64 0), (.fn 44), (.int .i64 1000), .self] now = true) (by first | (simp only [vx, reduceCtorEq, wj1, wc, wp, ← hkk, hs, wi, wl]; done) | (simp only [vx, reduceCtorEq, wj1, wc, wp, ← hkk, hs, wi, wl]; grind)) (fun c34 => ?_) (fun c34 => ?_)
           ·have hσ : m.σ = (.num .szd) := now_of (τ := (.num .szd)) hR.now c34
            refine brP ((p.get i) = 13) (by first | (simp only [vx, reduceCtorEq, wj1, wc, wp, ← hkk, hs, wi, wl]; done) | (simp only [vx, reduceCtorEq, wj1, wc, wp, ← hkk, hs, wi, wl]; grind)) (fun c35 => ?_) (fun c35 => ?_)
            ·refine brP (sm = true) (by first | (simp only [vx, reduceCtorEq, wj1, wc, wp, ← hkk, hs, wi, wl]; done) | (simp only [vx, reduceCtorEq, wj1, wc, wp, ← hkk, hs, wi, wl]; grind)) (fun c36 => ?_) (fun c36 => ?_)
             ·refine brP (n ≥ 0) (by first | (simp only [vx, reduceCtorEq, wj1, wc, wp, ← hkk, hs, wi, wl]; done) | (simp only [vx, reduceCtorEq, wj1, wc, wp, ← hkk, hs, wi, wl]; grind)) (fun c37 => ?_) (fun c37 => ?_)
              ·refine clo_wp ?_
               intro y7 o7 q7
               refine need_wp (⟨_, _, _, rfl⟩) ?_
               refine need_wp (by exact kargs) ?_
               refine need_wp (⟨_, _, _, rfl⟩) ?_
               refine need_wp (⟨_, _, _, rfl⟩) ?_
               refine again_wp rfl ⟨(i + 1), y7, (left + 1), n, sm, args, many, arg, out, by first | (simp only [vx, reduceCtorEq, wj1, wc, wp, ← hkk, hs, wi, wl]; done) | rfl, ?_⟩ ?_
               ·have hs := num_cr hz0 hz1 hσ hR.n hR.sm ⟨by omega, by assumption, by simp only [Ks.least]; omega⟩; exact ⟨by omega, by omega, _, hR.next' hz hz0 hz1 ht hs (q7) (by first | omega | (simp only; omega)) hR.n hR.sm hR.many (fun _ => hR.args (by rw [hσ]; rfl)) hR.arg hR.out⟩
               ·(try simp only [vx, reduceCtorEq, wj1, wc, wp, ← hkk, hs, wi, wl]); omega
              ·exfalso; omega
             ·refine brP ((p.get i) < 48) (by first | (simp only [vx, reduceCtorEq, wj1, wc, wp, ← hkk, hs, wi, wl]; done) | (simp only [vx, reduceCtorEq, wj1, wc, wp, ← hkk, hs, wi, wl]; grind)) (fun c43 => ?_) (fun c43 => ?_)
              ·have hw : stepZ m (p.get i) = none := by
                refine num_none hz0 hz1 hσ hR.n hR.sm ?_ ?_
                ·rintro ⟨h1, h2, h3⟩; simp only [Ks.least] at h3; first | omega | exact absurd h2 (by assumption)
                ·simp only [Ks.least, Ks.most]; first | exact .inl (by omega) | exact .inr (.inl (by omega)) | exact .inr (.inr (.inl ⟨by assumption, by omega⟩)) | exact .inr (.inr (.inr (.inl (by omega)))) | exact .inr (.inr (.inr (.inr ⟨by omega, by omega⟩)))
               refine pop_wp ?_
               refine need_wp (rw_row _ _) ?_
               refine need_wp (⟨_, _, _, rfl⟩) ?_
               refine need_wp (by first | exact rw_szz (by assumption) | exact rw_szz (.inr rfl)) ?_
               refine need_wp (by simp only [vx, reduceCtorEq, wj1, wc, wp, ← hkk, hs, wi, wl, vlen]; first | omega | (grind)) ?_
               refine need_wp (by simp only [vx, reduceCtorEq, wj1, wc, wp, ← hkk, hs, wi, wl, vlen]; first | omega | (grind)) ?_
               refine app_wp eL all out (by first | rfl | simp only [vx, reduceCtorEq, wj1, wc, wp, ← hkk, hs, wi, wl]) (by first | rfl | simp only [vx, reduceCtorEq, wj1, wc, wp, ← hkk, hs, wi, wl]) ?_
               intro a26 b26
               generalize hx26 : (⟨a26, b26, 1, all.l ++ out.l⟩ : Rw (Rw ByteArray)) = x26
               have lx26 : x26.l = all.l ++ out.l := by first | (rw [← hx26]; done) | (rw [← hx26]; rfl)
               have zx26 : x26.z = 1 := by rw [← hx26]
               have kx26 : Rw.ok 1 x26 := .inr zx26
               have nx26 : (x26.l.length : Int) = (all.l.length : Int) + (out.l.length : Int) := by first | (rw [← hx26]; done) | (rw [← hx26]; simp [Rw.nil])
               refine need_wp (⟨_, _, _, rfl⟩) ?_
               refine need_wp (by exact kargs) ?_
               refine need_wp (⟨_, _, _, rfl⟩) ?_
               refine again_wp rfl ⟨(i1 + 1), kk, x26, ((Value.nilFunc, D.leaf) : Atom), true, 0, n, sm, args, many, arg, by first | (simp only [vx, reduceCtorEq, wj1, wc, wp, ← hkk, hs, wi, wl]; done) | rfl, ?_⟩ ?_
               ·subst hAV; refine ⟨by omega, by omega, by omega, ?_⟩; exact hR.bad hz hw hO.ok (by omega) (by rw [bS_len]; omega) lx26 kx26 rfl rfl
               ·(try simp only [vx, reduceCtorEq, wj1, wc, wp, ← hkk, hs, wi, wl]); omega
              ·refine brP ((p.get i) > 57) (by first | (simp only [vx, reduceCtorEq, wj1, wc, wp, ← hkk, hs, wi, wl]; done) | (simp only [vx, reduceCtorEq, wj1, wc, wp, ← hkk, hs, wi, wl]; grind)) (fun c44 => ?_) (fun c44 => ?_)
               ·have hw : stepZ m (p.get i) = none := by
                 refine num_none hz0 hz1 hσ hR.n hR.sm ?_ ?_
                 ·rintro ⟨h1, h2, h3⟩; simp only [Ks.least] at h3; first | omega | exact absurd h2 (by assumption)
                 ·simp only [Ks.least, Ks.most]; first | exact .inl (by omega) | exact .inr (.inl (by omega)) | exact .inr (.inr (.inl ⟨by assumption, by omega⟩)) | exact .inr (.inr (.inr (.inl (by omega)))) | exact .inr (.inr (.inr (.inr ⟨by omega, by omega⟩)))
                refine pop_wp ?_
                refine need_wp (rw_row _ _) ?_
                refine need_wp (⟨_, _, _, rfl⟩) ?_
                refine need_wp (by first | exact rw_szz (by assumption) | exact rw_szz (.inr rfl)) ?_
                refine need_wp (by simp only [vx, reduceCtorEq, wj1, wc, wp, ← hkk, hs, wi, wl, vlen]; first | omega | (grind)) ?_
                refine need_wp (by simp only [vx, reduceCtorEq, wj1, wc, wp, ← hkk, hs, wi, wl, vlen]; first | omega | (grind)) ?_
                refine app_wp eL all out (by first | rfl | simp only [vx, reduceCtorEq, wj1, wc, wp, ← hkk, hs, wi, wl]) (by first | rfl | simp only [vx, reduceCtorEq, wj1, wc, wp, ← hkk, hs, wi, wl]) ?_
                intro a27 b27
                generalize hx27 : (⟨a27, b27, 1, all.l ++ out.l⟩ : Rw (Rw ByteArray)) = x27
                have lx27 : x27.l = all.l ++ out.l := by first | (rw [← hx27]; done) | (rw [← hx27]; rfl)
                have zx27 : x27.z = 1 := by rw [← hx27]
                have kx27 : Rw.ok 1 x27 := .inr zx27
                have nx27 : (x27.l.length : Int) = (all.l.length : Int) + (out.l.length : Int) := by first | (rw [← hx27]; done) | (rw [← hx27]; simp [Rw.nil])
                refine need_wp (⟨_, _, _, rfl⟩) ?_
                refine need_wp (by exact kargs) ?_
                refine need_wp (⟨_, _, _, rfl⟩) ?_
                refine again_wp rfl ⟨(i1 + 1), kk, x27, ((Value.nilFunc, D.leaf) : Atom), true, 0, n, sm, args, many, arg, by first | (simp only [vx, reduceCtorEq, wj1, wc, wp, ← hkk, hs, wi, wl]; done) | rfl, ?_⟩ ?_
                ·subst hAV; refine ⟨by omega, by omega, by omega, ?_⟩; exact hR.bad hz hw hO.ok (by omega) (by rw [bS_len]; omega) lx27 kx27 rfl rfl
                ·(try simp only [vx, reduceCtorEq, wj1, wc, wp, ← hkk, hs, wi, wl]); omega
               ·have wu : IntKind.u8.wrap ((p.get i) - 48) = (p.get i) - 48 := by rw [IntKind.wrap_u8]; omega
                have ww : IntKind.i64.wrap ((p.get i) - 48) = (p.get i) - 48 := wrap_id _ (by omega) (by omega)
                have wm : IntKind.i64.wrap (10 * n) = 10 * n := wrap_id _ (by omega) (by omega)
                have wa : IntKind.i64.wrap (10 * n + ((p.get i) - 48)) = 10 * n + ((p.get i) - 48) := wrap_id _ (by omega) (by omega)
                refine brP ((10 * n + ((p.get i) - 48)) > 1000) (by first | (simp only [vx, reduceCtorEq, wj1, wc, wp, ← hkk, hs, wi, wl, wu, ww, wm, wa]; done) | (simp only [vx, reduceCtorEq, wj1, wc, wp, ← hkk, hs, wi, wl, wu, ww, wm, wa]; grind)) (fun c45 => ?_) (fun c45 => ?_)
                ·have hw : stepZ m (p.get i) = none := by
                  refine num_none hz0 hz1 hσ hR.n hR.sm ?_ ?_
                  ·rintro ⟨h1, h2, h3⟩; simp only [Ks.least] at h3; first | omega | exact absurd h2 (by assumption)
                  ·simp only [Ks.least, Ks.most]; first | exact .inl (by omega) | exact .inr (.inl (by omega)) | exact .inr (.inr (.inl ⟨by assumption, by omega⟩)) | exact .inr (.inr (.inr (.inl (by omega)))) | exact .inr (.inr (.inr (.inr ⟨by omega, by omega⟩)))
                 refine pop_wp ?_
                 refine need_wp (rw_row _ _) ?_
                 refine need_wp (⟨_, _, _, rfl⟩) ?_
                 refine need_wp (by first | exact rw_szz (by assumption) | exact rw_szz (.inr rfl)) ?_
                 refine need_wp (by simp only [vx, reduceCtorEq, wj1, wc, wp, ← hkk, hs, wi, wl, wu, ww, wm, wa, vlen]; first | omega | (grind)) ?_
                 refine need_wp (by simp only [vx, reduceCtorEq, wj1, wc, wp, ← hkk, hs, wi, wl, wu, ww, wm, wa, vlen]; first | omega | (grind)) ?_
                 refine app_wp eL all out (by first | rfl | simp only [vx, reduceCtorEq, wj1, wc, wp, ← hkk, hs, wi, wl, wu, ww, wm, wa]) (by first | rfl | simp only [vx, reduceCtorEq, wj1, wc, wp, ← hkk, hs, wi, wl, wu, ww, wm, wa]) ?_
                 intro a28 b28
                 generalize hx28 : (⟨a28, b28, 1, all.l ++ out.l⟩ : Rw (Rw ByteArray)) = x28
                 have lx28 : x28.l = all.l ++ out.l := by first | (rw [← hx28]; done) | (rw [← hx28]; rfl)
                 have zx28 : x28.z = 1 := by rw [← hx28]
                 have kx28 : Rw.ok 1 x28 := .inr zx28
                 have nx28 : (x28.l.length : Int) = (all.l.length : Int) + (out.l.length : Int) := by first | (rw [← hx28]; done) | (rw [← hx28]; simp [Rw.nil])
                 refine need_wp (⟨_, _, _, rfl⟩) ?_
                 refine need_wp (by exact kargs) ?_
                 refine need_wp (⟨_, _, _, rfl⟩) ?_
                 refine again_wp rfl ⟨(i1 + 1), kk, x28, ((Value.nilFunc, D.leaf) : Atom), true, 0, (10 * n + ((p.get i) - 48)), true, args, many, arg, by first | (simp only [vx, reduceCtorEq, wj1, wc, wp, ← hkk, hs, wi, wl, wu, ww, wm, wa]; done) | rfl, ?_⟩ ?_
                 ·subst hAV; refine ⟨by omega, by omega, by omega, ?_⟩; exact hR.bad hz hw hO.ok (by omega) (by rw [bS_len]; omega) lx28 kx28 rfl rfl
                 ·(try simp only [vx, reduceCtorEq, wj1, wc, wp, ← hkk, hs, wi, wl, wu, ww, wm, wa]); omega
                ·refine brP ((10 * n + ((p.get i) - 48)) = 0) (by first | (simp only [vx, reduceCtorEq, wj1, wc, wp, ← hkk, hs, wi, wl, wu, ww, wm, wa]; done) | (simp only [vx, reduceCtorEq, wj1, wc, wp, ← hkk, hs, wi, wl, wu, ww, wm, wa]; grind)) (fun c46 => ?_) (fun c46 => ?_)
                 ·refine need_wp (⟨_, _, _, rfl⟩) ?_
                  refine need_wp (by exact kargs) ?_
                  refine need_wp (⟨_, _, _, rfl⟩) ?_
                  refine need_wp (⟨_, _, _, rfl⟩) ?_
                  refine again_wp rfl ⟨(i + 1), now, (left + 1), (10 * n + ((p.get i) - 48)), true, args, many, arg, out, by first | (simp only [vx, reduceCtorEq, wj1, wc, wp, ← hkk, hs, wi, wl, wu, ww, wm, wa]; done) | rfl, ?_⟩ ?_
                  ·have hs := num_dig hz0 hz1 hσ hR.n hR.sm (by rintro ⟨h1, h2, h3⟩; simp only [Ks.least] at h3; first | omega | exact absurd h2 (by assumption)) (by omega) (by omega) (by rintro ⟨h1, h2⟩; first | omega | exact absurd h1 (by assumption)) (by simp only [Ks.most]; omega) (by rintro ⟨h1, h2⟩; simp only [Ks.least] at h2; omega); exact ⟨by omega, by omega, _, hR.next' hz hz0 hz1 ht hs (by have := hR.now; rw [hσ] at this; simpa only [hσ] using this) (by first | omega | (simp only; omega)) rfl rfl hR.many (fun h => hR.args h) hR.arg hR.out⟩
                  ·(try simp only [vx, reduceCtorEq, wj1, wc, wp, ← hkk, hs, wi, wl, wu, ww, wm, wa]); omega
                 ·refine need_wp (⟨_, _, _, rfl⟩) ?_
                  refine need_wp (by exact kargs) ?_
                  refine need_wp (⟨_, _, _, rfl⟩) ?_
                  refine need_wp (⟨_, _, _, rfl⟩) ?_
                  refine again_wp rfl ⟨(i + 1), now, (left + 1), (10 * n + ((p.get i) - 48)), true, args, many, arg, out, by first | (simp only [vx, reduceCtorEq, wj1, wc, wp, ← hkk, hs, wi, wl, wu, ww, wm, wa]; done) | rfl, ?_⟩ ?_
                  ·have hs := num_dig hz0 hz1 hσ hR.n hR.sm (by rintro ⟨h1, h2, h3⟩; simp only [Ks.least] at h3; first | omega | exact absurd h2 (by assumption)) (by omega) (by omega) (by rintro ⟨h1, h2⟩; first | omega | exact absurd h1 (by assumption)) (by simp only [Ks.most]; omega) (by rintro ⟨h1, h2⟩; simp only [Ks.least] at h2; omega); exact ⟨by omega, by omega, _, hR.next' hz hz0 hz1 ht hs (by have := hR.now; rw [hσ] at this; simpa only [hσ] using this) (by first | omega | (simp only; omega)) rfl rfl hR.many (fun h => hR.args h) hR.arg hR.out⟩
                  ·(try simp only [vx, reduceCtorEq, wj1, wc, wp, ← hkk, hs, wi, wl, wu, ww, wm, wa]); omega
            ·refine brP ((p.get i) < 48) (by first | (simp only [vx, reduceCtorEq, wj1, wc, wp, ← hkk, hs, wi, wl]; done) | (simp only [vx, reduceCtorEq, wj1, wc, wp, ← hkk, hs, wi, wl]; grind)) (fun c47 => ?_) (fun c47 => ?_)
             ·have hw : stepZ m (p.get i) = none := by
               refine num_none hz0 hz1 hσ hR.n hR.sm ?_ ?_
               ·rintro ⟨h1, h2, h3⟩; simp only [Ks.least] at h3; first | omega | exact absurd h2 (by assumption)
               ·simp only [Ks.least, Ks.most]; first | exact .inl (by omega) | exact .inr (.inl (by omega)) | exact .inr (.inr (.inl ⟨by assumption, by omega⟩)) | exact .inr (.inr (.inr (.inl (by omega)))) | exact .inr (.inr (.inr (.inr ⟨by omega, by omega⟩)))
              refine pop_wp ?_
              refine need_wp (rw_row _ _) ?_
              refine need_wp (⟨_, _, _, rfl⟩) ?_
              refine need_wp (by first | exact rw_szz (by assumption) | exact rw_szz (.inr rfl)) ?_
              refine need_wp (by simp only [vx, reduceCtorEq, wj1, wc, wp, ← hkk, hs, wi, wl, vlen]; first | omega | (grind)) ?_
              refine need_wp (by simp only [vx, reduceCtorEq, wj1, wc, wp, ← hkk, hs, wi, wl, vlen]; first | omega | (grind)) ?_
              refine app_wp eL all out (by first | rfl | simp only [vx, reduceCtorEq, wj1, wc, wp, ← hkk, hs, wi, wl]) (by first | rfl | simp only [vx, reduceCtorEq, wj1, wc, wp, ← hkk, hs, wi, wl]) ?_
              intro a29 b29
              generalize hx29 : (⟨a29, b29, 1, all.l ++ out.l⟩ : Rw (Rw ByteArray)) = x29
              have lx29 : x29.l = all.l ++ out.l := by first | (rw [← hx29]; done) | (rw [← hx29]; rfl)
              have zx29 : x29.z = 1 := by rw [← hx29]
              have kx29 : Rw.ok 1 x29 := .inr zx29
              have nx29 : (x29.l.length : Int) = (all.l.length : Int) + (out.l.length : Int) := by first | (rw [← hx29]; done) | (rw [← hx29]; simp [Rw.nil])
              refine need_wp (⟨_, _, _, rfl⟩) ?_
              refine need_wp (by exact kargs) ?_
              refine need_wp (⟨_, _, _, rfl⟩) ?_
              refine again_wp rfl ⟨(i1 + 1), kk, x29, ((Value.nilFunc, D.leaf) : Atom), true, 0, n, sm, args, many, arg, by first | (simp only [vx, reduceCtorEq, wj1, wc, wp, ← hkk, hs, wi, wl]; done) | rfl, ?_⟩ ?_
              ·subst hAV; refine ⟨by omega, by omega, by omega, ?_⟩; exact hR.bad hz hw hO.ok (by omega) (by rw [bS_len]; omega) lx29 kx29 rfl rfl
              ·(try simp only [vx, reduceCtorEq, wj1, wc, wp, ← hkk, hs, wi, wl]); omega
             ·refine brP ((p.get i) > 57) (by first | (simp only [vx, reduceCtorEq, wj1, wc, wp, ← hkk, hs, wi, wl]; done) | (simp only [vx, reduceCtorEq, wj1, wc, wp, ← hkk, hs, wi, wl]; grind)) (fun c48 => ?_) (fun c48 => ?_)
              ·have hw : stepZ m (p.get i) = none := by
                refine num_none hz0 hz1 hσ hR.n hR.sm ?_ ?_
                ·rintro ⟨h1, h2, h3⟩; simp only [Ks.least] at h3; first | omega | exact absurd h2 (by assumption)
                ·simp only [Ks.least, Ks.most]; first | exact .inl (by omega) | exact .inr (.inl (by omega)) | exact .inr (.inr (.inl ⟨by assumption, by omega⟩)) | exact .inr (.inr (.inr (.inl (by omega)))) | exact .inr (.inr (.inr (.inr ⟨by omega, by omega⟩)))
               refine pop_wp ?_
               refine need_wp (rw_row _ _) ?_
               refine need_wp (⟨_, _, _, rfl⟩) ?_
               refine need_wp (by first | exact rw_szz (by assumption) | exact rw_szz (.inr rfl)) ?_
               refine need_wp (by simp only [vx, reduceCtorEq, wj1, wc, wp, ← hkk, hs, wi, wl, vlen]; first | omega | (grind)) ?_
               refine need_wp (by simp only [vx, reduceCtorEq, wj1, wc, wp, ← hkk, hs, wi, wl, vlen]; first | omega | (grind)) ?_
               refine app_wp eL all out (by first | rfl | simp only [vx, reduceCtorEq, wj1, wc, wp, ← hkk, hs, wi, wl]) (by first | rfl | simp only [vx, reduceCtorEq, wj1, wc, wp, ← hkk, hs, wi, wl]) ?_
               intro a30 b30
               generalize hx30 : (⟨a30, b30, 1, all.l ++ out.l⟩ : Rw (Rw ByteArray)) = x30
               have lx30 : x30.l = all.l ++ out.l := by first | (rw [← hx30]; done) | (rw [← hx30]; rfl)
               have zx30 : x30.z = 1 := by rw [← hx30]
               have kx30 : Rw.ok 1 x30 := .inr zx30
               have nx30 : (x30.l.length : Int) = (all.l.length : Int) + (out.l.length : Int) := by first | (rw [← hx30]; done) | (rw [← hx30]; simp [Rw.nil])
               refine need_wp (⟨_, _, _, rfl⟩) ?_
               refine need_wp (by exact kargs) ?_
               refine need_wp (⟨_, _, _, rfl⟩) ?_
               refine again_wp rfl ⟨(i1 + 1), kk, x30, ((Value.nilFunc, D.leaf) : Atom), true, 0, n, sm, args, many, arg, by first | (simp only [vx, reduceCtorEq, wj1, wc, wp, ← hkk, hs, wi, wl]; done) | rfl, ?_⟩ ?_
               ·subst hAV; refine ⟨by omega, by omega, by omega, ?_⟩; exact hR.bad hz hw hO.ok (by omega) (by rw [bS_len]; omega) lx30 kx30 rfl rfl
               ·(try simp only [vx, reduceCtorEq, wj1, wc, wp, ← hkk, hs, wi, wl]); omega
              ·have wu : IntKind.u8.wrap ((p.get i) - 48) = (p.get i) - 48 := by rw [IntKind.wrap_u8]; omega
               have ww : IntKind.i64.wrap ((p.get i) - 48) = (p.get i) - 48 := wrap_id _ (by omega) (by omega)
               have wm : IntKind.i64.wrap (10 * n) = 10 * n := wrap_id _ (by omega) (by omega)
               have wa : IntKind.i64.wrap (10 * n + ((p.get i) - 48)) = 10 * n + ((p.get i) - 48) := wrap_id _ (by omega) (by omega)
               refine brP (sm = true) (by first | (simp only [vx, reduceCtorEq, wj1, wc, wp, ← hkk, hs, wi, wl, wu, ww, wm, wa]; done) | (simp only [vx, reduceCtorEq, wj1, wc, wp, ← hkk, hs, wi, wl, wu, ww, wm, wa]; grind)) (fun c49 => ?_) (fun c49 => ?_)
               ·refine brP (n = 0) (by first | (simp only [vx, reduceCtorEq, wj1, wc, wp, ← hkk, hs, wi, wl, wu, ww, wm, wa]; done) | (simp only [vx, reduceCtorEq, wj1, wc, wp, ← hkk, hs, wi, wl, wu, ww, wm, wa]; grind)) (fun c50 => ?_) (fun c50 => ?_)
                ·have hw : stepZ m (p.get i) = none := by
                  refine num_none hz0 hz1 hσ hR.n hR.sm ?_ ?_
                  ·rintro ⟨h1, h2, h3⟩; simp only [Ks.least] at h3; first | omega | exact absurd h2 (by assumption)
                  ·simp only [Ks.least, Ks.most]; first | exact .inl (by omega) | exact .inr (.inl (by omega)) | exact .inr (.inr (.inl ⟨by assumption, by omega⟩)) | exact .inr (.inr (.inr (.inl (by omega)))) | exact .inr (.inr (.inr (.inr ⟨by omega, by omega⟩)))
                 refine pop_wp ?_
                 refine need_wp (rw_row _ _) ?_
                 refine need_wp (⟨_, _, _, rfl⟩) ?_
                 refine need_wp (by first | exact rw_szz (by assumption) | exact rw_szz (.inr rfl)) ?_
                 refine need_wp (by simp only [vx, reduceCtorEq, wj1, wc, wp, ← hkk, hs, wi, wl, wu, ww, wm, wa, vlen]; first | omega | (grind)) ?_
                 refine need_wp (by simp only [vx, reduceCtorEq, wj1, wc, wp, ← hkk, hs, wi, wl, wu, ww, wm, wa, vlen]; first | omega | (grind)) ?_
                 refine app_wp eL all out (by first | rfl | simp only [vx, reduceCtorEq, wj1, wc, wp, ← hkk, hs, wi, wl, wu, ww, wm, wa]) (by first | rfl | simp only [vx, reduceCtorEq, wj1, wc, wp, ← hkk, hs, wi, wl, wu, ww, wm, wa]) ?_
                 intro a31 b31
                 generalize hx31 : (⟨a31, b31, 1, all.l ++ out.l⟩ : Rw (Rw ByteArray)) = x31
                 have lx31 : x31.l = all.l ++ out.l := by first | (rw [← hx31]; done) | (rw [← hx31]; rfl)
                 have zx31 : x31.z = 1 := by rw [← hx31]
                 have kx31 : Rw.ok 1 x31 := .inr zx31
                 have nx31 : (x31.l.length : Int) = (all.l.length : Int) + (out.l.length : Int) := by first | (rw [← hx31]; done) | (rw [← hx31]; simp [Rw.nil])
                 refine need_wp (⟨_, _, _, rfl⟩) ?_
                 refine need_wp (by exact kargs) ?_
                 refine need_wp (⟨_, _, _, rfl⟩) ?_
                 refine again_wp rfl ⟨(i1 + 1), kk, x31, ((Value.nilFunc, D.leaf) : Atom), true, 0, n, sm, args, many, arg, by first | (simp only [vx, reduceCtorEq, wj1, wc, wp, ← hkk, hs, wi, wl, wu, ww, wm, wa]; done) | rfl, ?_⟩ ?_
                 ·subst hAV; refine ⟨by omega, by omega, by omega, ?_⟩; exact hR.bad hz hw hO.ok (by omega) (by rw [bS_len]; omega) lx31 kx31 rfl rfl
                 ·(try simp only [vx, reduceCtorEq, wj1, wc, wp, ← hkk, hs, wi, wl, wu, ww, wm, wa]); omega
                ·refine brP ((10 * n + ((p.get i) - 48)) > 1000) (by first | (simp only [vx, reduceCtorEq, wj1, wc, wp, ← hkk, hs, wi, wl, wu, ww, wm, wa]; done) | (simp only [vx, reduceCtorEq, wj1, wc, wp, ← hkk, hs, wi, wl, wu, ww, wm, wa]; grind)) (fun c51 => ?_) (fun c51 => ?_)
                 ·have hw : stepZ m (p.get i) = none := by
                   refine num_none hz0 hz1 hσ hR.n hR.sm ?_ ?_
                   ·rintro ⟨h1, h2, h3⟩; simp only [Ks.least] at h3; first | omega | exact absurd h2 (by assumption)
                   ·simp only [Ks.least, Ks.most]; first | exact .inl (by omega) | exact .inr (.inl (by omega)) | exact .inr (.inr (.inl ⟨by assumption, by omega⟩)) | exact .inr (.inr (.inr (.inl (by omega)))) | exact .inr (.inr (.inr (.inr ⟨by omega, by omega⟩)))
                  refine pop_wp ?_
                  refine need_wp (rw_row _ _) ?_
                  refine need_wp (⟨_, _, _, rfl⟩) ?_
                  refine need_wp (by first | exact rw_szz (by assumption) | exact rw_szz (.inr rfl)) ?_
                  refine need_wp (by simp only [vx, reduceCtorEq, wj1, wc, wp, ← hkk, hs, wi, wl, wu, ww, wm, wa, vlen]; first | omega | (grind)) ?_
                  refine need_wp (by simp only [vx, reduceCtorEq, wj1, wc, wp, ← hkk, hs, wi, wl, wu, ww, wm, wa, vlen]; first | omega | (grind)) ?_
                  refine app_wp eL all out (by first | rfl | simp only [vx, reduceCtorEq, wj1, wc, wp, ← hkk, hs, wi, wl, wu, ww, wm, wa]) (by first | rfl | simp only [vx, reduceCtorEq, wj1, wc, wp, ← hkk, hs, wi, wl, wu, ww, wm, wa]) ?_
                  intro a32 b32
                  generalize hx32 : (⟨a32, b32, 1, all.l ++ out.l⟩ : Rw (Rw ByteArray)) = x32
                  have lx32 : x32.l = all.l ++ out.l := by first | (rw [← hx32]; done) | (rw [← hx32]; rfl)
                  have zx32 : x32.z = 1 := by rw [← hx32]
                  have kx32 : Rw.ok 1 x32 := .inr zx32
                  have nx32 : (x32.l.length : Int) = (all.l.length : Int) + (out.l.length : Int) := by first | (rw [← hx32]; done) | (rw [← hx32]; simp [Rw.nil])
                  refine need_wp (⟨_, _, _, rfl⟩) ?_
                  refine need_wp (by exact kargs) ?_
                  refine need_wp (⟨_, _, _, rfl⟩) ?_
                  refine again_wp rfl ⟨(i1 + 1), kk, x32, ((Value.nilFunc, D.leaf) : Atom), true, 0, (10 * n + ((p.get i) - 48)), true, args, many, arg, by first | (simp only [vx, reduceCtorEq, wj1, wc, wp, ← hkk, hs, wi, wl, wu, ww, wm, wa]; done) | rfl, ?_⟩ ?_
                  ·subst hAV; refine ⟨by omega, by omega, by omega, ?_⟩; exact hR.bad hz hw hO.ok (by omega) (by rw [bS_len]; omega) lx32 kx32 rfl rfl
                  ·(try simp only [vx, reduceCtorEq, wj1, wc, wp, ← hkk, hs, wi, wl, wu, ww, wm, wa]); omega
                 ·refine brP ((10 * n + ((p.get i) - 48)) = 0) (by first | (simp only [vx, reduceCtorEq, wj1, wc, wp, ← hkk, hs, wi, wl, wu, ww, wm, wa]; done) | (simp only [vx, reduceCtorEq, wj1, wc, wp, ← hkk, hs, wi, wl, wu, ww, wm, wa]; grind)) (fun c52 => ?_) (fun c52 => ?_)
                  ·refine need_wp (⟨_, _, _, rfl⟩) ?_
                   refine need_wp (by exact kargs) ?_
                   refine need_wp (⟨_, _, _, rfl⟩) ?_
                   refine need_wp (⟨_, _, _, rfl⟩) ?_
                   refine again_wp rfl ⟨(i + 1), now, (left + 1), (10 * n + ((p.get i) - 48)), true, args, many, arg, out, by first | (simp only [vx, reduceCtorEq, wj1, wc, wp, ← hkk, hs, wi, wl, wu, ww, wm, wa]; done) | rfl, ?_⟩ ?_
                   ·have hs := num_dig hz0 hz1 hσ hR.n hR.sm (by rintro ⟨h1, h2, h3⟩; simp only [Ks.least] at h3; first | omega | exact absurd h2 (by assumption)) (by omega) (by omega) (by rintro ⟨h1, h2⟩; first | omega | exact absurd h1 (by assumption)) (by simp only [Ks.most]; omega) (by rintro ⟨h1, h2⟩; simp only [Ks.least] at h2; omega); exact ⟨by omega, by omega, _, hR.next' hz hz0 hz1 ht hs (by have := hR.now; rw [hσ] at this; simpa only [hσ] using this) (by first | omega | (simp only; omega)) rfl rfl hR.many (fun h => hR.args h) hR.arg hR.out⟩
                   ·(try simp only [vx, reduceCtorEq, wj1, wc, wp, ← hkk, hs, wi, wl, wu, ww, wm, wa]); omega
                  ·refine need_wp (⟨_, _, _, rfl⟩) ?_
                   refine need_wp (by exact kargs) ?_
                   refine need_wp (⟨_, _, _, rfl⟩) ?_
                   refine need_wp (⟨_, _, _, rfl⟩) ?_
                   refine again_wp rfl ⟨(i + 1), now, (left + 1), (10 * n + ((p.get i) - 48)), true, args, many, arg, out, by first | (simp only [vx, reduceCtorEq, wj1, wc, wp, ← hkk, hs, wi, wl, wu, ww, wm, wa]; done) | rfl, ?_⟩ ?_
                   ·have hs := num_dig hz0 hz1 hσ hR.n hR.sm (by rintro ⟨h1, h2, h3⟩; simp only [Ks.least] at h3; first | omega | exact absurd h2 (by assumption)) (by omega) (by omega) (by rintro ⟨h1, h2⟩; first | omega | exact absurd h1 (by assumption)) (by simp only [Ks.most]; omega) (by rintro ⟨h1, h2⟩; simp only [Ks.least] at h2; omega); exact ⟨by omega, by omega, _, hR.next' hz hz0 hz1 ht hs (by have := hR.now; rw [hσ] at this; simpa only [hσ] using this) (by first | omega | (simp only; omega)) rfl rfl hR.many (fun h => hR.args h) hR.arg hR.out⟩
                   ·(try simp only [vx, reduceCtorEq, wj1, wc, wp, ← hkk, hs, wi, wl, wu, ww, wm, wa]); omega
               ·refine brP ((10 * n + ((p.get i) - 48)) > 1000) (by first | (simp only [vx, reduceCtorEq, wj1, wc, wp, ← hkk, hs, wi, wl, wu, ww, wm, wa]; done) | (simp only [vx, reduceCtorEq, wj1, wc, wp, ← hkk, hs, wi, wl, wu, ww, wm, wa]; grind)) (fun c53 => ?_) (fun c53 => ?_)
                ·have hw : stepZ m (p.get i) = none := by
                  refine num_none hz0 hz1 hσ hR.n hR.sm ?_ ?_
                  ·rintro ⟨h1, h2, h3⟩; simp only [Ks.least] at h3; first | omega | exact absurd h2 (by assumption)
                  ·simp only [Ks.least, Ks.most]; first | exact .inl (by omega) | exact .inr (.inl (by omega)) | exact .inr (.inr (.inl ⟨by assumption, by omega⟩)) | exact .inr (.inr (.inr (.inl (by omega)))) | exact .inr (.inr (.inr (.inr ⟨by omega, by omega⟩)))
                 refine pop_wp ?_
                 refine need_wp (rw_row _ _) ?_
                 refine need_wp (⟨_, _, _, rfl⟩) ?_
                 refine need_wp (by first | exact rw_szz (by assumption) | exact rw_szz (.inr rfl)) ?_
                 refine need_wp (by simp only [vx, reduceCtorEq, wj1, wc, wp, ← hkk, hs, wi, wl, wu, ww, wm, wa, vlen]; first | omega | (grind)) ?_
                 refine need_wp (by simp only [vx, reduceCtorEq, wj1, wc, wp, ← hkk, hs, wi, wl, wu, ww, wm, wa, vlen]; first | omega | (grind)) ?_
                 refine app_wp eL all out (by first | rfl | simp only [vx, reduceCtorEq, wj1, wc, wp, ← hkk, hs, wi, wl, wu, ww, wm, wa]) (by first | rfl | simp only [vx, reduceCtorEq, wj1, wc, wp, ← hkk, hs, wi, wl, wu, ww, wm, wa]) ?_
                 intro a33 b33
                 generalize hx33 : (⟨a33, b33, 1, all.l ++ out.l⟩ : Rw (Rw ByteArray)) = x33
                 have lx33 : x33.l = all.l ++ out.l := by first | (rw [← hx33]; done) | (rw [← hx33]; rfl)
                 have zx33 : x33.z = 1 := by rw [← hx33]
                 have kx33 : Rw.ok 1 x33 := .inr zx33
                 have nx33 : (x33.l.length : Int) = (all.l.length : Int) + (out.l.length : Int) := by first | (rw [← hx33]; done) | (rw [← hx33]; simp [Rw.nil])
                 refine need_wp (⟨_, _, _, rfl⟩) ?_
                 refine need_wp (by exact kargs) ?_
                 refine need_wp (⟨_, _, _, rfl⟩) ?_
                 refine again_wp rfl ⟨(i1 + 1), kk, x33, ((Value.nilFunc, D.leaf) : Atom), true, 0, (10 * n + ((p.get i) - 48)), true, args, many, arg, by first | (simp only [vx, reduceCtorEq, wj1, wc, wp, ← hkk, hs, wi, wl, wu, ww, wm, wa]; done) | rfl, ?_⟩ ?_
                 ·subst hAV; refine ⟨by omega, by omega, by omega, ?_⟩; exact hR.bad hz hw hO.ok (by omega) (by rw [bS_len]; omega) lx33 kx33 rfl rfl
                 ·(try simp only [vx, reduceCtorEq, wj1, wc, wp, ← hkk, hs, wi, wl, wu, ww, wm, wa]); omega
                ·refine brP ((10 * n + ((p.get i) - 48)) = 0) (by first | (simp only [vx, reduceCtorEq, wj1, wc, wp, ← hkk, hs, wi, wl, wu, ww, wm, wa]; done) | (simp only [vx, reduceCtorEq, wj1, wc, wp, ← hkk, hs, wi, wl, wu, ww, wm, wa]; grind)) (fun c54 => ?_) (fun c54 => ?_)
                 ·refine need_wp (⟨_, _, _, rfl⟩) ?_
                  refine need_wp (by exact kargs) ?_
                  refine need_wp (⟨_, _, _, rfl⟩) ?_
                  refine need_wp (⟨_, _, _, rfl⟩) ?_
                  refine again_wp rfl ⟨(i + 1), now, (left + 1), (10 * n + ((p.get i) - 48)), true, args, many, arg, out, by first | (simp only [vx, reduceCtorEq, wj1, wc, wp, ← hkk, hs, wi, wl, wu, ww, wm, wa]; done) | rfl, ?_⟩ ?_
                  ·have hs := num_dig hz0 hz1 hσ hR.n hR.sm (by rintro ⟨h1, h2, h3⟩; simp only [Ks.least] at h3; first | omega | exact absurd h2 (by assumption)) (by omega) (by omega) (by rintro ⟨h1, h2⟩; first | omega | exact absurd h1 (by assumption)) (by simp only [Ks.most]; omega) (by rintro ⟨h1, h2⟩; simp only [Ks.least] at h2; omega); exact ⟨by omega, by omega, _, hR.next' hz hz0 hz1 ht hs (by have := hR.now; rw [hσ] at this; simpa only [hσ] using this) (by first | omega | (simp only; omega)) rfl rfl hR.many (fun h => hR.args h) hR.arg hR.out⟩
                  ·(try simp only [vx, reduceCtorEq, wj1, wc, wp, ← hkk, hs, wi, wl, wu, ww, wm, wa]); omega
                 ·refine need_wp (⟨_, _, _, rfl⟩) ?_
                  refine need_wp (by exact kargs) ?_
                  refine need_wp (⟨_, _, _, rfl⟩) ?_
                  refine need_wp (⟨_, _, _, rfl⟩) ?_
                  refine again_wp rfl ⟨(i + 1), now, (left + 1), (10 * n + ((p.get i) - 48)), true, args, many, arg, out, by first | (simp only [vx, reduceCtorEq, wj1, wc, wp, ← hkk, hs, wi, wl, wu, ww, wm, wa]; done) | rfl, ?_⟩ ?_
                  ·have hs := num_dig hz0 hz1 hσ hR.n hR.sm (by rintro ⟨h1, h2, h3⟩; simp only [Ks.least] at h3; first | omega | exact absurd h2 (by assumption)) (by omega) (by omega) (by rintro ⟨h1, h2⟩; first | omega | exact absurd h1 (by assumption)) (by simp only [Ks.most]; omega) (by rintro ⟨h1, h2⟩; simp only [Ks.least] at h2; omega); exact ⟨by omega, by omega, _, hR.next' hz hz0 hz1 ht hs (by have := hR.now; rw [hσ] at this; simpa only [hσ] using this) (by first | omega | (simp only; omega)) rfl rfl hR.many (fun h => hR.args h) hR.arg hR.out⟩
                  ·(try simp only [vx, reduceCtorEq, wj1, wc, wp, ← hkk, hs, wi, wl, wu, ww, wm, wa]); omega
           ·refine brP (cloB (.some 40) [(.int .u8 10), (.fn 44)] now = true) (by first | (simp only [vx, reduceCtorEq, wj1, wc, wp, ← hkk, hs, wi, wl]; done) | (simp only [vx, reduceCtorEq, wj1, wc, wp, ← hkk, hs, wi, wl]; grind)) (fun c55 => ?_) (fun c55 => ?_)
            ·have hσ : m.σ = (.lf .szd) := now_of (τ := (.lf .szd)) hR.now c55
             refine brP ((p.get i) ≠ 10) (by first | (simp only [vx, reduceCtorEq, wj1, wc, wp, ← hkk, hs, wi, wl]; done) | (simp only [vx, reduceCtorEq, wj1, wc, wp, ← hkk, hs, wi, wl]; grind)) (fun c56 => ?_) (fun c56 => ?_)
             ·have hw : stepZ m (p.get i) = none := by rw [sz_lfs hz0 hz1 hσ, if_neg (by omega)]
              refine pop_wp ?_
              refine need_wp (rw_row _ _) ?_
              refine need_wp (⟨_, _, _, rfl⟩) ?_
              refine need_wp (by first | exact rw_szz (by assumption) | exact rw_szz (.inr rfl)) ?_
              refine need_wp (by simp only [vx, reduceCtorEq, wj1, wc, wp, ← hkk, hs, wi, wl, vlen]; first | omega | (grind)) ?_
              refine need_wp (by simp only [vx, reduceCtorEq, wj1, wc, wp, ← hkk, hs, wi, wl, vlen]; first | omega | (grind)) ?_
              refine app_wp eL all out (by first | rfl | simp only [vx, reduceCtorEq, wj1, wc, wp, ← hkk, hs, wi, wl]) (by first | rfl | simp only [vx, reduceCtorEq, wj1, wc, wp, ← hkk, hs, wi, wl]) ?_
              intro a34 b34
              generalize hx34 : (⟨a34, b34, 1, all.l ++ out.l⟩ : Rw (Rw ByteArray)) = x34
              have lx34 : x34.l = all.l ++ out.l := by first | (rw [← hx34]; done) | (rw [← hx34]; rfl)
              have zx34 : x34.z = 1 := by rw [← hx34]
              have kx34 : Rw.ok 1 x34 := .inr zx34
              have nx34 : (x34.l.length : Int) = (all.l.length : Int) + (out.l.length : Int) := by first | (rw [← hx34]; done) | (rw [← hx34]; simp [Rw.nil])
              refine need_wp (⟨_, _, _, rfl⟩) ?_
              refine need_wp (by exact kargs) ?_
              refine need_wp (⟨_, _, _, rfl⟩) ?_
              refine again_wp rfl ⟨(i1 + 1), kk, x34, ((Value.nilFunc, D.leaf) : Atom), true, 0, n, sm, args, many, arg, by first | (simp only [vx, reduceCtorEq, wj1, wc, wp, ← hkk, hs, wi, wl]; done) | rfl, ?_⟩ ?_
              ·subst hAV; refine ⟨by omega, by omega, by omega, ?_⟩; exact hR.bad hz hw hO.ok (by omega) (by rw [bS_len]; omega) lx34 kx34 rfl rfl
              ·(try simp only [vx, reduceCtorEq, wj1, wc, wp, ← hkk, hs, wi, wl]); omega
             ·refine need_wp (⟨_, _, _, rfl⟩) ?_
              refine brP (0 = n) (by first | (simp only [vx, reduceCtorEq, wj1, wc, wp, ← hkk, hs, wi, wl]; done) | (simp only [vx, reduceCtorEq, wj1, wc, wp, ← hkk, hs, wi, wl]; grind)) (fun c57 => ?_) (fun c57 => ?_)
              ·refine clo_wp ?_
               intro y8 o8 q8
               refine need_wp (⟨_, _, _, rfl⟩) ?_
               refine need_wp (by exact kargs) ?_
               refine need_wp (⟨_, _, _, rfl⟩) ?_
               refine need_wp (⟨_, _, _, rfl⟩) ?_
               refine again_wp rfl ⟨(i + 1), y8, (left + 1), n, sm, args, many, (Rw.nil : Rw Int), out, by first | (simp only [vx, reduceCtorEq, wj1, wc, wp, ← hkk, hs, wi, wl]; done) | (simp only [vx, reduceCtorEq, wj1, wc, wp, ← hkk, hs, wi, wl]; rfl) | (simp only [vx, reduceCtorEq, wj1, wc, wp, ← hkk, hs, wi, wl, Rw.nil, Rw.atom, List.length_nil, List.map_nil]; done), ?_⟩ ?_
               ·have hs := (sz_lfs hz0 hz1 hσ).trans (if_pos (by omega)); exact ⟨by omega, by omega, _, hR.next' hz hz0 hz1 ht hs (by first | (rw [if_pos (by omega)]; exact q8) | (rw [if_neg (by omega)]; exact q8)) (by first | omega | (simp only; omega)) hR.n hR.sm hR.many (fun _ => hR.args (by rw [hσ]; rfl)) ⟨rfl, .inl rfl⟩ hR.out⟩
               ·(try simp only [vx, reduceCtorEq, wj1, wc, wp, ← hkk, hs, wi, wl]); omega
              ·refine clo_wp ?_
               intro y9 o9 q9
               refine need_wp (⟨_, _, _, rfl⟩) ?_
               refine need_wp (by exact kargs) ?_
               refine need_wp (⟨_, _, _, rfl⟩) ?_
               refine need_wp (⟨_, _, _, rfl⟩) ?_
               refine again_wp rfl ⟨(i + 1), y9, (left + 1), n, sm, args, many, (Rw.nil : Rw Int), out, by first | (simp only [vx, reduceCtorEq, wj1, wc, wp, ← hkk, hs, wi, wl]; done) | (simp only [vx, reduceCtorEq, wj1, wc, wp, ← hkk, hs, wi, wl]; rfl) | (simp only [vx, reduceCtorEq, wj1, wc, wp, ← hkk, hs, wi, wl, Rw.nil, Rw.atom, List.length_nil, List.map_nil]; done), ?_⟩ ?_
               ·have hs := (sz_lfs hz0 hz1 hσ).trans (if_pos (by omega)); exact ⟨by omega, by omega, _, hR.next' hz hz0 hz1 ht hs (by first | (rw [if_pos (by omega)]; exact q9) | (rw [if_neg (by omega)]; exact q9)) (by first | omega | (simp only; omega)) hR.n hR.sm hR.many (fun _ => hR.args (by rw [hσ]; rfl)) ⟨rfl, .inl rfl⟩ hR.out⟩
               ·(try simp only [vx, reduceCtorEq, wj1, wc, wp, ← hkk, hs, wi, wl]); omega
            ·refine brP (cloB (.some 48) [] now = true) (by first | (simp only [vx, reduceCtorEq, wj1, wc, wp, ← hkk, hs, wi, wl]; done) | (simp only [vx, reduceCtorEq, wj1, wc, wp, ← hkk, hs, wi, wl]; grind)) (fun c58 => ?_) (fun c58 => ?_)
             ·have hσ : m.σ = .byt := now_of (τ := .byt) hR.now c58
              have hwt := hR.wt
              have hGl : arg.l.length = m.arg.length := by rw [hR.arg.1, bI_len]
              simp only [Wt, hσ] at hwt
              have kA : arg.ok 1 := hR.arg.2
              refine new_wp eB [(p.get i)] (by first | (simp only [vx, reduceCtorEq, wj1, wc, wp, ← hkk, hs, wi, wl, eB]; done) | rfl) ?_
              intro a35 b35
              generalize hx35 : (⟨a35, b35, 1, [(p.get i)]⟩ : Rw Int) = x35
              have lx35 : x35.l = [(p.get i)] := by first | (rw [← hx35]; done) | (rw [← hx35]; rfl)
              have zx35 : x35.z = 1 := by rw [← hx35]
              have kx35 : Rw.ok 1 x35 := .inr zx35
              have nx35 : (x35.l.length : Int) = 1 := by first | (rw [← hx35]; done) | (rw [← hx35]; simp [Rw.nil])
              refine need_wp (rw_row _ _) ?_
              refine need_wp (⟨_, _, _, rfl⟩) ?_
              refine need_wp (by first | exact rw_szz (by assumption) | exact rw_szz (.inr rfl)) ?_
              refine need_wp (by simp only [vx, reduceCtorEq, wj1, wc, wp, ← hkk, hs, wi, wl, vlen]; first | omega | (grind)) ?_
              refine need_wp (by simp only [vx, reduceCtorEq, wj1, wc, wp, ← hkk, hs, wi, wl, vlen]; first | omega | (grind)) ?_
              refine app_wp eB arg x35 (by first | rfl | simp only [vx, reduceCtorEq, wj1, wc, wp, ← hkk, hs, wi, wl]) (by first | rfl | simp only [vx, reduceCtorEq, wj1, wc, wp, ← hkk, hs, wi, wl]) ?_
              intro a36 b36
              generalize hx36 : (⟨a36, b36, 1, arg.l ++ x35.l⟩ : Rw Int) = x36
              have lx36 : x36.l = arg.l ++ x35.l := by first | (rw [← hx36]; done) | (rw [← hx36]; rfl)
              have zx36 : x36.z = 1 := by rw [← hx36]
              have kx36 : Rw.ok 1 x36 := .inr zx36
              have nx36 : (x36.l.length : Int) = (arg.l.length : Int) + (x35.l.length : Int) := by first | (rw [← hx36]; done) | (rw [← hx36]; simp [Rw.nil])
              refine need_wp (⟨_, _, _, rfl⟩) ?_
              refine brP ((x36.l.length : Int) = n) (by first | (simp only [vx, reduceCtorEq, wj1, wc, wp, ← hkk, hs, wi, wl]; done) | (simp only [vx, reduceCtorEq, wj1, wc, wp, ← hkk, hs, wi, wl]; grind)) (fun c59 => ?_) (fun c59 => ?_)
              ·refine clo_wp ?_
               intro y10 o10 q10
               refine need_wp (⟨_, _, _, rfl⟩) ?_
               refine need_wp (by exact kargs) ?_
               refine need_wp (⟨_, _, _, rfl⟩) ?_
               refine need_wp (⟨_, _, _, rfl⟩) ?_
               refine again_wp rfl ⟨(i + 1), y10, (left + 1), n, sm, args, many, x36, out, by first | (simp only [vx, reduceCtorEq, wj1, wc, wp, ← hkk, hs, wi, wl]; done) | rfl, ?_⟩ ?_
               ·have hs := sz_byt (z := p.get i) hσ; exact ⟨by omega, by omega, _, hR.next' hz hz0 hz1 ht hs (by first | (rw [if_pos (by rw [List.length_append, List.length_singleton]; omega)]; exact q10) | (rw [if_neg (by rw [List.length_append, List.length_singleton]; omega)]; exact q10)) (by first | omega | (simp only; omega)) hR.n hR.sm hR.many (fun _ => hR.args (by rw [hσ]; rfl)) ⟨by rw [lx36, hR.arg.1, lx35, bI_app]; simp only [bI, List.map_cons, List.map_nil, u8_n hz0 hz1], kx36⟩ hR.out⟩
               ·(try simp only [vx, reduceCtorEq, wj1, wc, wp, ← hkk, hs, wi, wl]); omega
              ·refine clo_wp ?_
               intro y11 o11 q11
               refine need_wp (⟨_, _, _, rfl⟩) ?_
               refine need_wp (by exact kargs) ?_
               refine need_wp (⟨_, _, _, rfl⟩) ?_
               refine need_wp (⟨_, _, _, rfl⟩) ?_
               refine again_wp rfl ⟨(i + 1), y11, (left + 1), n, sm, args, many, x36, out, by first | (simp only [vx, reduceCtorEq, wj1, wc, wp, ← hkk, hs, wi, wl]; done) | rfl, ?_⟩ ?_
               ·have hs := sz_byt (z := p.get i) hσ; exact ⟨by omega, by omega, _, hR.next' hz hz0 hz1 ht hs (by first | (rw [if_pos (by rw [List.length_append, List.length_singleton]; omega)]; exact q11) | (rw [if_neg (by rw [List.length_append, List.length_singleton]; omega)]; exact q11)) (by first | omega | (simp only; omega)) hR.n hR.sm hR.many (fun _ => hR.args (by rw [hσ]; rfl)) ⟨by rw [lx36, hR.arg.1, lx35, bI_app]; simp only [bI, List.map_cons, List.map_nil, u8_n hz0 hz1], kx36⟩ hR.out⟩
               ·(try simp only [vx, reduceCtorEq, wj1, wc, wp, ← hkk, hs, wi, wl]); omega
             ·refine brP (cloB (.some 40) [(.int .u8 13), (.fn 46)] now = true) (by first | (simp only [vx, reduceCtorEq, wj1, wc, wp, ← hkk, hs, wi, wl]; done) | (simp only [vx, reduceCtorEq, wj1, wc, wp, ← hkk, hs, wi, wl]; grind)) (fun c60 => ?_) (fun c60 => ?_)
              ·have hσ : m.σ = .cr := now_of (τ := .cr) hR.now c60
               refine brP ((p.get i) ≠ 13) (by first | (simp only [vx, reduceCtorEq, wj1, wc, wp, ← hkk, hs, wi, wl]; done) | (simp only [vx, reduceCtorEq, wj1, wc, wp, ← hkk, hs, wi, wl]; grind)) (fun c61 => ?_) (fun c61 => ?_)
               ·have hw : stepZ m (p.get i) = none := by rw [sz_cr hz0 hz1 hσ, if_neg (by omega)]
                refine pop_wp ?_
                refine need_wp (rw_row _ _) ?_
                refine need_wp (⟨_, _, _, rfl⟩) ?_
                refine need_wp (by first | exact rw_szz (by assumption) | exact rw_szz (.inr rfl)) ?_
                refine need_wp (by simp only [vx, reduceCtorEq, wj1, wc, wp, ← hkk, hs, wi, wl, vlen]; first | omega | (grind)) ?_
                refine need_wp (by simp only [vx, reduceCtorEq, wj1, wc, wp, ← hkk, hs, wi, wl, vlen]; first | omega | (grind)) ?_
                refine app_wp eL all out (by first | rfl | simp only [vx, reduceCtorEq, wj1, wc, wp, ← hkk, hs, wi, wl]) (by first | rfl | simp only [vx, reduceCtorEq, wj1, wc, wp, ← hkk, hs, wi, wl]) ?_
                intro a37 b37
                generalize hx37 : (⟨a37, b37, 1, all.l ++ out.l⟩ : Rw (Rw ByteArray)) = x37
                have lx37 : x37.l = all.l ++ out.l := by first | (rw [← hx37]; done) | (rw [← hx37]; rfl)
                have zx37 : x37.z = 1 := by rw [← hx37]
                have kx37 : Rw.ok 1 x37 := .inr zx37
                have nx37 : (x37.l.length : Int) = (all.l.length : Int) + (out.l.length : Int) := by first | (rw [← hx37]; done) | (rw [← hx37]; simp [Rw.nil])
                refine need_wp (⟨_, _, _, rfl⟩) ?_
                refine need_wp (by exact kargs) ?_
                refine need_wp (⟨_, _, _, rfl⟩) ?_
                refine again_wp rfl ⟨(i1 + 1), kk, x37, ((Value.nilFunc, D.leaf) : Atom), true, 0, n, sm, args, many, arg, by first | (simp only [vx, reduceCtorEq, wj1, wc, wp, ← hkk, hs, wi, wl]; done) | rfl, ?_⟩ ?_
                ·subst hAV; refine ⟨by omega, by omega, by omega, ?_⟩; exact hR.bad hz hw hO.ok (by omega) (by rw [bS_len]; omega) lx37 kx37 rfl rfl
                ·(try simp only [vx, reduceCtorEq, wj1, wc, wp, ← hkk, hs, wi, wl]); omega
               ·refine clo_wp ?_
                intro y12 o12 q12
                refine need_wp (⟨_, _, _, rfl⟩) ?_
                refine need_wp (by exact kargs) ?_
                refine need_wp (⟨_, _, _, rfl⟩) ?_
                refine need_wp (⟨_, _, _, rfl⟩) ?_
                refine again_wp rfl ⟨(i + 1), y12, (left + 1), n, sm, args, many, arg, out, by first | (simp only [vx, reduceCtorEq, wj1, wc, wp, ← hkk, hs, wi, wl]; done) | rfl, ?_⟩ ?_
                ·have hs := (sz_cr hz0 hz1 hσ).trans (if_pos (by omega)); exact ⟨by omega, by omega, _, hR.next' hz hz0 hz1 ht hs (q12) (by first | omega | (simp only; omega)) hR.n hR.sm hR.many (fun _ => hR.args (by rw [hσ]; rfl)) hR.arg hR.out⟩
                ·(try simp only [vx, reduceCtorEq, wj1, wc, wp, ← hkk, hs, wi, wl]); omega
              ·refine brP (cloB (.some 40) [(.int .u8 10), (.fn 47)] now = true) (by first | (simp only [vx, reduceCtorEq, wj1, wc, wp, ← hkk, hs, wi, wl]; done) | (simp only [vx, reduceCtorEq, wj1, wc, wp, ← hkk, hs, wi, wl]; grind)) (fun c62 => ?_) (fun c62 => ?_)
               ·have hσ : m.σ = .lf2 := now_of (τ := .lf2) hR.now c62
                obtain ⟨rA, eA, hA1, hA2⟩ := hR.args (by rw [hσ]; rfl)
                subst eA
                have hwt := hR.wt
                have hAl := wS_len m.args
                have hAl2 : rA.l.length = m.args.length := by rw [← hA1, List.length_map]
                have hBs : isB arg.l := by rw [hR.arg.1]; exact isB_bI _
                have kA : arg.ok 1 := hR.arg.2
                simp only [Wt, hσ] at hwt
                have hOl := wO_len m.out
                have hOl2 : out.l.length ≤ m.out.length := by rw [← hR.out.1]; simp [vv]
                have kO : out.ok 1 := hR.out.2.1
                refine brP ((p.get i) ≠ 10) (by first | (simp only [vx, reduceCtorEq, wj1, wc, wp, ← hkk, hs, wi, wl]; done) | (simp only [vx, reduceCtorEq, wj1, wc, wp, ← hkk, hs, wi, wl]; grind)) (fun c63 => ?_) (fun c63 => ?_)
                ·have hw : stepZ m (p.get i) = none := by rw [sz_lf2 hz0 hz1 hσ, if_neg (by omega)]
                 refine pop_wp ?_
                 refine need_wp (rw_row _ _) ?_
                 refine need_wp (⟨_, _, _, rfl⟩) ?_
                 refine need_wp (by first | exact rw_szz (by assumption) | exact rw_szz (.inr rfl)) ?_
                 refine need_wp (by simp only [vx, reduceCtorEq, wj1, wc, wp, ← hkk, hs, wi, wl, vlen]; first | omega | (grind)) ?_
                 refine need_wp (by simp only [vx, reduceCtorEq, wj1, wc, wp, ← hkk, hs, wi, wl, vlen]; first | omega | (grind)) ?_
                 refine app_wp eL all out (by first | rfl | simp only [vx, reduceCtorEq, wj1, wc, wp, ← hkk, hs, wi, wl]) (by first | rfl | simp only [vx, reduceCtorEq, wj1, wc, wp, ← hkk, hs, wi, wl]) ?_
                 intro a38 b38
                 generalize hx38 : (⟨a38, b38, 1, all.l ++ out.l⟩ : Rw (Rw ByteArray)) = x38
                 have lx38 : x38.l = all.l ++ out.l := by first | (rw [← hx38]; done) | (rw [← hx38]; rfl)
                 have zx38 : x38.z = 1 := by rw [← hx38]
                 have kx38 : Rw.ok 1 x38 := .inr zx38
                 have nx38 : (x38.l.length : Int) = (all.l.length : Int) + (out.l.length : Int) := by first | (rw [← hx38]; done) | (rw [← hx38]; simp [Rw.nil])
                 refine need_wp (⟨_, _, _, rfl⟩) ?_
                 refine need_wp (⟨_, _, _, rfl⟩) ?_
                 refine need_wp (⟨_, _, _, rfl⟩) ?_
                 refine again_wp rfl ⟨(i1 + 1), kk, x38, ((Value.nilFunc, D.leaf) : Atom), true, 0, n, sm, (Rw.atom eS rA), many, arg, by first | (simp only [vx, reduceCtorEq, wj1, wc, wp, ← hkk, hs, wi, wl]; done) | rfl, ?_⟩ ?_
                 ·subst hAV; refine ⟨by omega, by omega, by omega, ?_⟩; exact hR.bad hz hw hO.ok (by omega) (by rw [bS_len]; omega) lx38 kx38 rfl rfl
                 ·(try simp only [vx, reduceCtorEq, wj1, wc, wp, ← hkk, hs, wi, wl]); omega
                ·refine need_wp (⟨_, _, _, rfl⟩) ?_
                 refine need_wp (by simp only [vx, reduceCtorEq, wj1, wc, wp, ← hkk, hs, wi, wl]; exact need_bytes (by assumption) (by assumption)) ?_
                 refine new_wp eS [(ofBytes arg.l)] (by first | (simp only [vx, reduceCtorEq, wj1, wc, wp, ← hkk, hs, wi, wl, eS]; done) | rfl) ?_
                 intro a39 b39
                 generalize hx39 : (⟨a39, b39, 1, [(ofBytes arg.l)]⟩ : Rw ByteArray) = x39
                 have lx39 : x39.l = [(ofBytes arg.l)] := by first | (rw [← hx39]; done) | (rw [← hx39]; rfl)
                 have zx39 : x39.z = 1 := by rw [← hx39]
                 have kx39 : Rw.ok 1 x39 := .inr zx39
                 have nx39 : (x39.l.length : Int) = 1 := by first | (rw [← hx39]; done) | (rw [← hx39]; simp [Rw.nil])
                 refine need_wp (rw_row _ _) ?_
                 refine need_wp (⟨_, _, _, rfl⟩) ?_
                 refine need_wp (by first | exact rw_szz (by assumption) | exact rw_szz (.inr rfl)) ?_
                 refine need_wp (by simp only [vx, reduceCtorEq, wj1, wc, wp, ← hkk, hs, wi, wl, vlen]; first | omega | (grind)) ?_
                 refine need_wp (by simp only [vx, reduceCtorEq, wj1, wc, wp, ← hkk, hs, wi, wl, vlen]; first | omega | (grind)) ?_
                 refine app_wp eS rA x39 (by first | rfl | simp only [vx, reduceCtorEq, wj1, wc, wp, ← hkk, hs, wi, wl]) (by first | rfl | simp only [vx, reduceCtorEq, wj1, wc, wp, ← hkk, hs, wi, wl]) ?_
                 intro a40 b40
                 generalize hx40 : (⟨a40, b40, 1, rA.l ++ x39.l⟩ : Rw ByteArray) = x40
                 have lx40 : x40.l = rA.l ++ x39.l := by first | (rw [← hx40]; done) | (rw [← hx40]; rfl)
                 have zx40 : x40.z = 1 := by rw [← hx40]
                 have kx40 : Rw.ok 1 x40 := .inr zx40
                 have nx40 : (x40.l.length : Int) = (rA.l.length : Int) + (x39.l.length : Int) := by first | (rw [← hx40]; done) | (rw [← hx40]; simp [Rw.nil])
                 refine need_wp (⟨_, _, _, rfl⟩) ?_
                 refine brP ((x40.l.length : Int) < many) (by first | (simp only [vx, reduceCtorEq, wj1, wc, wp, ← hkk, hs, wi, wl]; done) | (simp only [vx, reduceCtorEq, wj1, wc, wp, ← hkk, hs, wi, wl]; grind)) (fun c64 => ?_) (fun c64 => ?_)
                 ·refine clo_wp ?_
                  intro y13 o13 q13
                  refine need_wp (⟨_, _, _, rfl⟩) ?_
                  refine need_wp (⟨_, _, _, rfl⟩) ?_
                  refine need_wp (⟨_, _, _, rfl⟩) ?_
                  refine need_wp (⟨_, _, _, rfl⟩) ?_
                  refine again_wp rfl ⟨(i + 1), y13, (left + 1), n, sm, (Rw.atom eS x40), many, arg, out, by first | (simp only [vx, reduceCtorEq, wj1, wc, wp, ← hkk, hs, wi, wl]; done) | rfl, ?_⟩ ?_
                  ·have hs := ((sz_lf2 hz0 hz1 hσ).trans (if_pos (by omega))).trans (if_pos (by rw [List.length_append, List.length_singleton]; have := hR.many; omega)); exact ⟨by omega, by omega, _, hR.next' hz hz0 hz1 ht hs q13 (by first | omega | (simp only; omega)) hR.n hR.sm hR.many (fun _ => ⟨x40, rfl, by rw [lx40, List.map_append, hA1, lx39]; simp [hR.arg.1, ls_ofBytes], kx40⟩) hR.arg hR.out⟩
                  ·(try simp only [vx, reduceCtorEq, wj1, wc, wp, ← hkk, hs, wi, wl]); omega
                 ·refine new_wp eL [x40] (by first | (simp only [vx, reduceCtorEq, wj1, wc, wp, ← hkk, hs, wi, wl, eL]; done) | rfl) ?_
                  intro a41 b41
                  generalize hx41 : (⟨a41, b41, 1, [x40]⟩ : Rw (Rw ByteArray)) = x41
                  have lx41 : x41.l = [x40] := by first | (rw [← hx41]; done) | (rw [← hx41]; rfl)
                  have zx41 : x41.z = 1 := by rw [← hx41]
                  have kx41 : Rw.ok 1 x41 := .inr zx41
                  have nx41 : (x41.l.length : Int) = 1 := by first | (rw [← hx41]; done) | (rw [← hx41]; simp [Rw.nil])
                  refine need_wp (⟨_, _, rfl⟩) ?_
                  refine need_wp (⟨_, _, _, rfl⟩) ?_
                  refine need_wp (by first | exact rw_szz (by assumption) | exact rw_szz (.inr rfl)) ?_
                  refine need_wp (by simp only [vx, reduceCtorEq, wj1, wc, wp, ← hkk, hs, wi, wl, vlen]; first | omega | (grind)) ?_
                  refine need_wp (by simp only [vx, reduceCtorEq, wj1, wc, wp, ← hkk, hs, wi, wl, vlen]; first | omega | (grind)) ?_
                  refine app_wp eL (Rw.nil : Rw (Rw ByteArray)) x41 (by first | rfl | simp only [vx, reduceCtorEq, wj1, wc, wp, ← hkk, hs, wi, wl]) (by first | rfl | simp only [vx, reduceCtorEq, wj1, wc, wp, ← hkk, hs, wi, wl]) ?_
                  intro a42 b42
                  generalize hx42 : (⟨a42, b42, 1, (Rw.nil : Rw (Rw ByteArray)).l ++ x41.l⟩ : Rw (Rw ByteArray)) = x42
                  have lx42 : x42.l = x41.l := by first | (rw [← hx42]; done) | (rw [← hx42]; rfl) | (rw [← hx42]; simp [Rw.nil])
                  have zx42 : x42.z = 1 := by rw [← hx42]
                  have kx42 : Rw.ok 1 x42 := .inr zx42
                  have nx42 : (x42.l.length : Int) = 0 + (x41.l.length : Int) := by first | (rw [← hx42]; done) | (rw [← hx42]; simp [Rw.nil])
                  refine clo_wp ?_
                  intro y14 o14 q14
                  refine need_wp (⟨_, _, _, rfl⟩) ?_
                  refine brP (0 < (x42.l.length : Int)) (by first | (simp only [vx, reduceCtorEq, wj1, wc, wp, ← hkk, hs, wi, wl]; done) | (simp only [vx, reduceCtorEq, wj1, wc, wp, ← hkk, hs, wi, wl]; grind)) (fun c65 => ?_) (fun c65 => ?_)
                  ·have hg := cell_L x42 (i := 0) (by omega) c65
                   have hg6 : x42.get 0 = x40 := by unfold Rw.get; rw [lx42, lx41]; rfl
                   refine need_wp (⟨_, _, _, rfl⟩) ?_
                   refine need_wp (rw_row _ _) ?_
                   refine need_wp (⟨_, _, _, rfl⟩) ?_
                   refine need_wp (rw_row _ _) ?_
                   refine need_wp (rw_sz' zx42) ?_
                   refine need_wp (by simp only [vx, reduceCtorEq, wj1, wc, wp, ← hkk, hs, wi, wl, hg]; first | exact ⟨_, _, _, rfl⟩ | exact kind_Rl (by omega) (by omega)) ?_
                   refine new_wp eL [(x42.get 0)] (by first | (simp only [vx, reduceCtorEq, wj1, wc, wp, ← hkk, hs, wi, wl, hg, eL]; done) | rfl) ?_
                   intro a43 b43
                   generalize hx43 : (⟨a43, b43, 1, [(x42.get 0)]⟩ : Rw (Rw ByteArray)) = x43
                   have lx43 : x43.l = [(x42.get 0)] := by first | (rw [← hx43]; done) | (rw [← hx43]; rfl)
                   have zx43 : x43.z = 1 := by rw [← hx43]
                   have kx43 : Rw.ok 1 x43 := .inr zx43
                   have nx43 : (x43.l.length : Int) = 1 := by first | (rw [← hx43]; done) | (rw [← hx43]; simp [Rw.nil])
                   refine need_wp (rw_row _ _) ?_
                   refine need_wp (⟨_, _, _, rfl⟩) ?_
                   refine need_wp (by first | exact rw_szz (by assumption) | exact rw_szz (.inr rfl)) ?_
                   refine need_wp (by simp only [vx, reduceCtorEq, wj1, wc, wp, ← hkk, hs, wi, wl, hg, vlen]; first | omega | (grind)) ?_
                   refine need_wp (by simp only [vx, reduceCtorEq, wj1, wc, wp, ← hkk, hs, wi, wl, hg, vlen]; first | omega | (grind)) ?_
                   refine app_wp eL out x43 (by first | rfl | simp only [vx, reduceCtorEq, wj1, wc, wp, ← hkk, hs, wi, wl, hg]) (by first | rfl | simp only [vx, reduceCtorEq, wj1, wc, wp, ← hkk, hs, wi, wl, hg]) ?_
                   intro a44 b44
                   generalize hx44 : (⟨a44, b44, 1, out.l ++ x43.l⟩ : Rw (Rw ByteArray)) = x44
                   have lx44 : x44.l = out.l ++ x43.l := by first | (rw [← hx44]; done) | (rw [← hx44]; rfl)
                   have zx44 : x44.z = 1 := by rw [← hx44]
                   have kx44 : Rw.ok 1 x44 := .inr zx44
                   have nx44 : (x44.l.length : Int) = (out.l.length : Int) + (x43.l.length : Int) := by first | (rw [← hx44]; done) | (rw [← hx44]; simp [Rw.nil])
                   refine brP (1 < (x42.l.length : Int)) (by first | (simp only [vx, reduceCtorEq, wj1, wc, wp, ← hkk, hs, wi, wl, hg]; done) | (simp only [vx, reduceCtorEq, wj1, wc, wp, ← hkk, hs, wi, wl, hg]; grind)) (fun c66 => ?_) (fun c66 => ?_)
                   ·exfalso; omega
                   ·refine need_wp (by first | exact ⟨_, _, _, rfl⟩ | (simp only [vx, reduceCtorEq, wj1, wc, wp, ← hkk, hs, wi, wl, hg]; exact ⟨_, _, _, rfl⟩)) ?_
                    refine need_wp (⟨_, _, _, rfl⟩) ?_
                    refine need_wp (⟨_, _, _, rfl⟩) ?_
                    refine again_wp rfl ⟨(i + 1), y14, 0, n, sm, ((Rw.atom eS x40).1, D.leaf), many, arg, x44, by first | (simp only [vx, reduceCtorEq, wj1, wc, wp, ← hkk, hs, wi, wl, hg]; done) | rfl, ?_⟩ ?_
                    ·have hs := ((sz_lf2 hz0 hz1 hσ).trans (if_pos (by omega))).trans (if_neg (by rw [List.length_append, List.length_singleton]; have := hR.many; omega)); exact ⟨by omega, by omega, _, hR.next' hz hz0 hz1 ht hs q14 (by first | omega | (simp only; omega)) hR.n hR.sm hR.many (fun h => by simp [hasA] at h) hR.arg ⟨by rw [vv, lx44, lx43, List.map_append, List.map_append, hg6, ← hR.out.1]; simp [vv, lx40, lx39, hA1, hR.arg.1, ls_ofBytes], kx44, by intro y hy; rw [lx44, lx43, hg6] at hy; rcases List.mem_append.1 hy with h | h; exact hR.out.2.2 y h; rw [List.mem_singleton.1 h]; exact kx40⟩⟩
                    ·(try simp only [vx, reduceCtorEq, wj1, wc, wp, ← hkk, hs, wi, wl, hg]); omega
                  ·exfalso; omega
               ·exfalso; first | omega | (have hq := hR.now; cases hσ : m.σ <;> (try (rename_i k; cases k)) <;> rw [hσ] at hq <;> simp only [Now] at hq <;> contradiction)
      ·have hi : i = p.l.length := by omega
       refine pop_wp ?_
       refine need_wp (rw_row _ _) ?_
       refine need_wp (⟨_, _, _, rfl⟩) ?_
       refine need_wp (by first | exact rw_szz (by assumption) | exact rw_szz (.inr rfl)) ?_
       refine need_wp (by simp only [vx, reduceCtorEq, wj1, wc, wp, ← hkk, hs, vlen]; first | omega | (grind)) ?_
       refine need_wp (by simp only [vx, reduceCtorEq, wj1, wc, wp, ← hkk, hs, vlen]; first | omega | (grind)) ?_
       refine app_wp eL all out (by first | rfl | simp only [vx, reduceCtorEq, wj1, wc, wp, ← hkk, hs]) (by first | rfl | simp only [vx, reduceCtorEq, wj1, wc, wp, ← hkk, hs]) ?_
       intro a47 b47
       generalize hx47 : (⟨a47, b47, 1, all.l ++ out.l⟩ : Rw (Rw ByteArray)) = x47
       have lx47 : x47.l = all.l ++ out.l := by first | (rw [← hx47]; done) | (rw [← hx47]; rfl)
       have zx47 : x47.z = 1 := by rw [← hx47]
       have kx47 : Rw.ok 1 x47 := .inr zx47
       have nx47 : (x47.l.length : Int) = (all.l.length : Int) + (out.l.length : Int) := by first | (rw [← hx47]; done) | (rw [← hx47]; simp [Rw.nil])
       refine need_wp (⟨_, _, _, rfl⟩) ?_
       refine need_wp (by exact kargs) ?_
       refine need_wp (⟨_, _, _, rfl⟩) ?_
       refine again_wp rfl ⟨(i1 + 1), kk, x47, now, wr, left, n, sm, args, many, arg, by first | (simp only [vx, reduceCtorEq, wj1, wc, wp, ← hkk, hs]; done) | rfl, ?_⟩ ?_
       ·have hkq : k0 + i.toNat = kk.toNat := (by omega); rw [hkq] at hR; subst hAV; refine ⟨by omega, by omega, by omega, ?_⟩; exact hR.back hO.ok lx47 kx47 (by simpa using c5)
       ·(try simp only [vx, reduceCtorEq, wj1, wc, wp, ← hkk, hs]); omega
    ·exact t6_1_wp w1 kb hBb (by omega) hp0 hp1 hO kag1 _ _ _ _
   ·exact t6_1_wp w1 kb hBb (by omega) hp0 hp1 hO kag1 _ _ _ _
end Go.Proofs.YtamjocnlhhhijaaK
