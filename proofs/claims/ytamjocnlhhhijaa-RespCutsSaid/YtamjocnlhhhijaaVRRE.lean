import Derived.Test.YtamjocnlhhhijaaVRRx
import Derived.Test.YtamjocnlhhhijaaVRRD
import Derived.Test.YtamjocnlhhhijaaVRRW0
set_option linter.unusedSimpArgs false
set_option linter.unusedVariables false
set_option linter.unnecessarySimpa false
namespace Go.Proofs.YtamjocnlhhhijaaK
open Go Go.Proofs.YtamjocnlhhhijaaV Go.Proofs Go.Proofs.YtamjocnlhhhijaaK Go.Proofs.YtamjocnlhhhijaaK Go.Proofs.YtamjocnlhhhijaaS
def kWhole (sg : Sig) : Sig × Con := (sg, mkRel (fun x : Rw Int => ([Rw.atom eB x] : List Atom)) (fun b => b.ok 1 ∧ isB b.l ∧ b.l.length ≤ 1500) (fun x : Rw (Rw ByteArray) × Int × Int => ([Rw.atom eL x.1, aI x.2.1, aI x.2.2] : List Atom)) (fun b y => wholeP b y.1 y.2.1 y.2.2))
theorem t20_5_wp {b : Rw Int} {out : Rw (Rw ByteArray)} {m : Mc} (hO : (vv out).map (List.map ls) = m.out ∧ okL out) (hW2 : wO m.out ≤ 3000) (hw : res Go.Proofs.YtamjocnlhhhijaaS.start (bS b.l) = (m.out, 0, true)) (y0 y1 y2 y3 y4 y5 y6 y7 y8 y9 y10 : Atom) (L : List (List Atom → Prop)) :
  (t20_5).wp (tab [kCmd sg23]) (fun outs => ∃ y : Rw (Rw ByteArray) × Int × Int, outs = (fun x : Rw (Rw ByteArray) × Int × Int => ([Rw.atom eL x.1, aI x.2.1, aI x.2.2] : List Atom)) y ∧ wholeP b y.1 y.2.1 y.2.2) [y0, y1, y2, y3, y4, y5, y6, y7, y8, y9, y10, Rw.atom eL out] L := by
 unfold t20_5
 have hcl : clen (vv out) ≤ 26 * wO ((vv out).map (List.map ls)) := clen_le (by rw [hO.1]; omega)
 have hO1 := hO.1
 have hO3 : wO ((vv out).map (List.map ls)) ≤ 3000 := by rw [hO.1]; exact hW2
 have kO2 : out.ok 1 := hO.2.1
 have hOn : out.l.length ≤ 3000 := by have h1 := wO_len ((vv out).map (List.map ls)); rw [List.length_map, vv, List.length_map] at h1; exact Nat.le_trans h1 hO3
 refine pop_wp ?_
 refine need_wp (⟨_, _, _, rfl⟩) ?_
 refine loop_wp (fun bs0 => ∃ (j : Int) (s : Int), bs0 = [aI j, aI s] ∧ (0 ≤ j ∧ j ≤ (out.l.length : Int) ∧ s = clen ((vv out).take j.toNat))) (fun bs0 => ((out.l.length : Int) - vi (bs0.getD 0 atom0).1).toNat) ?_ ?_
 ·refine ⟨0, 0, by first | (simp only [vx, reduceCtorEq]; done) | (simp only [vx, reduceCtorEq]; rfl) | simp only [vx, reduceCtorEq, Rw.atom, Rw.nil, List.length_nil, List.map_nil], ?_⟩
  exact ⟨by omega, by omega, rfl⟩
 rintro _ _ ⟨j, s, rfl, ⟨j0, j1, hs⟩⟩
 refine brP (j < (out.l.length : Int)) (by first | (simp only [vx, reduceCtorEq]; done) | (simp only [vx, reduceCtorEq]; grind)) (fun c1 => ?_) (fun c1 => ?_)
 ·have hc := cell_L out (i := j) j0 c1
  have wj : IntKind.i64.wrap (j + 1) = j + 1 := wrap_id _ (by omega) (by omega)
  have hok := hO.2.2 _ (get_memL j0 c1)
  have hls : lenS (out.get j).l ≤ 100000 := by have := wO_mem (vv_mem (get_memL j0 c1)); omega
  have hvt := vv_take j0 c1
  refine need_wp (⟨_, _, _, rfl⟩) ?_
  refine need_wp (rw_row _ _) ?_
  refine need_wp (by simp only [vx, reduceCtorEq, hc, wj, vlen]; first | omega | (grind)) ?_
  refine need_wp (⟨_, _, _, rfl⟩) ?_
  refine need_wp (rw_row _ _) ?_
  refine need_wp (by first | exact rw_sz' rfl | exact rw_szn (by assumption) (.inr (by omega)) | (simp only [vx, reduceCtorEq, hc, wj]; exact rw_szn (by assumption) (.inr (by omega))) | exact rw_szn (by simp [Rw.ok]) (.inr (by omega))) ?_
  refine need_wp (by simp only [vx, reduceCtorEq, hc, wj]; first | exact ⟨_, _, _, rfl⟩ | exact kind_Rl (by omega) (by omega)) ?_
  refine call_rel ((out.get j)) rfl (by first | (simp only [vx, reduceCtorEq, hc, wj]; done) | (simp only [vx, reduceCtorEq, hc, wj]; rfl)) (⟨hok, hls⟩) ?_
  rintro z1 ⟨ez1, oz1⟩
  try dsimp only at ez1 oz1
  have hzl : (z1.l.length : Int) = ((cmdB (out.get j).l).size : Int) := by rw [ez1, bi_len]
  have hct := clen_take (vv out) (j + 1).toNat
  rw [hvt, clen_app] at hct
  have hcp := clen_pos ((vv out).take j.toNat)
  have wz : IntKind.i64.wrap (s + (z1.l.length : Int)) = s + (z1.l.length : Int) := wrap_id _ (by omega) (by omega)
  refine need_wp (⟨_, _, _, rfl⟩) ?_
  refine again_wp rfl ⟨(j + 1), (s + (z1.l.length : Int)), by simp only [vx, reduceCtorEq, hc, wj, wz], ?_⟩ ?_
  ·exact ⟨by omega, by omega, by rw [hvt, clen_app, ← hs, hzl]⟩
  ·(try simp only [vx, reduceCtorEq, hc, wj, wz]); omega
 ·have hj : j = out.l.length := by omega
  refine pop_wp ?_
  refine need_wp (⟨_, _, _, rfl⟩) ?_
  refine ret_wp ?_
  refine ⟨(out, s, 7), by first | (simp only [vx, reduceCtorEq]; done) | (simp only [vx, reduceCtorEq]; rfl), ?_⟩
  try dsimp only
  exact ⟨hO.2, by rw [hO.1, hw], by rw [hs, hj, Int.toNat_natCast, show out.l.length = (vv out).length by simp [vv], List.take_length], by rw [hw]; rfl⟩
set_option maxHeartbeats 2000000 in
theorem h20 : holds Try.prog (kWhole sg20) := by
 refine fn_holdsC (l := [kCmd sg23]) ⟨h23, trivial⟩ (inl := [in20_11, in20_27, in20_13, in20_28, in20_37, in20_32, in20_40, in20_33, in20_34, in20_35, in20_41, in20_36, in20_42, in20_43, in20_44, in20_45, in20_46, in20_47, in20_48]) (by refine ⟨⟨Try.func11, by kernel_rfl, by kernel_rfl, by kernel_rfl⟩, ⟨Try.func27, by kernel_rfl, by kernel_rfl, by kernel_rfl⟩, ⟨Try.func13, by kernel_rfl, by kernel_rfl, by kernel_rfl⟩, ⟨Try.func28, by kernel_rfl, by kernel_rfl, by kernel_rfl⟩, ⟨Try.func37, by kernel_rfl, by kernel_rfl, by kernel_rfl⟩, ⟨Try.func32, by kernel_rfl, by kernel_rfl, by kernel_rfl⟩, ⟨Try.func40, by kernel_rfl, by kernel_rfl, by kernel_rfl⟩, ⟨Try.func33, by kernel_rfl, by kernel_rfl, by kernel_rfl⟩, ⟨Try.func34, by kernel_rfl, by kernel_rfl, by kernel_rfl⟩, ⟨Try.func35, by kernel_rfl, by kernel_rfl, by kernel_rfl⟩, ⟨Try.func41, by kernel_rfl, by kernel_rfl, by kernel_rfl⟩, ⟨Try.func36, by kernel_rfl, by kernel_rfl, by kernel_rfl⟩, ⟨Try.func42, by kernel_rfl, by kernel_rfl, by kernel_rfl⟩, ⟨Try.func43, by kernel_rfl, by kernel_rfl, by kernel_rfl⟩, ⟨Try.func44, by kernel_rfl, by kernel_rfl, by kernel_rfl⟩, ⟨Try.func45, by kernel_rfl, by kernel_rfl, by kernel_rfl⟩, ⟨Try.func46, by kernel_rfl, by kernel_rfl, by kernel_rfl⟩, ⟨Try.func47, by kernel_rfl, by kernel_rfl, by kernel_rfl⟩, ⟨Try.func48, by kernel_rfl, by kernel_rfl, by kernel_rfl⟩, trivial⟩) hP [] clos 8 rs20 (inj_of (fun l : List Atom => (Rw.un unI (l.getD 0 atom0) : Rw Int)) (fun _ => by simp [List.getD_cons_zero, List.getD_cons_succ, unA_atom, unL_atom])) Try.func20 (by kernel_rfl) (c := code Try.f20) (by kernel_rfl) (an := an20) (by kernel_rfl) (pk := pk20) rfl (t := t20) (by kernel_rfl) ?_
 rintro b _ ⟨kb, hB, hl⟩
 refine ⟨by simp [pk20, KindsOk, RK.ok, Rw.atom, Sl.atom], ?_⟩
 unfold t20
 refine clo_wp ?_
 intro y1 o1 q1
 refine clo_wp ?_
 intro y2 o2 q2
 refine need_wp (⟨_, _, _, rfl⟩) ?_
 refine need_wp (⟨_, _, _, rfl⟩) ?_
 refine need_wp (⟨_, _, _, rfl⟩) ?_
 refine need_wp (⟨_, _, _, rfl⟩) ?_
 refine loop_wp (fun bs0 => ∃ (i : Int) (now : Atom) (left : Int) (n : Int) (sm : Bool) (args : Atom) (many : Int) (arg : Rw Int) (out : Rw (Rw ByteArray)), bs0 = [aI i, now, aI left, aI n, aB sm, args, aI many, Rw.atom eB arg, Rw.atom eL out] ∧ (0 ≤ i ∧ ∃ m : Mc, RI (bS b.l) i.toNat now left n sm args many arg out m)) (fun bs0 => ((b.l.length : Int) - vi (bs0.getD 0 atom0).1).toNat) ?_ ?_
 ·refine ⟨0, y1, 0, 0, false, (Rw.atom eS (Rw.nil : Rw ByteArray)), 0, (Rw.nil : Rw Int), (Rw.nil : Rw (Rw ByteArray)), by first | (simp only [vx, reduceCtorEq]; done) | (simp only [vx, reduceCtorEq]; rfl) | (simp only [vx, reduceCtorEq, Rw.atom, Rw.nil, List.length_nil, List.map_nil]; done) | (simp only [vx, reduceCtorEq, Rw.atom, Rw.nil, List.length_nil, List.map_nil]; rfl), ?_⟩
  exact ⟨by omega, _, RI.start q1⟩
 rintro _ hko ⟨i, now, left, n, sm, args, many, arg, out, rfl, ⟨i0, m, hR⟩⟩
 have kargs : ∃ a n c, args.1 = Value.slice a n c := hko.2.2.2.2.2.1
 have hkl := hR.kl
 rw [bS_len] at hkl
 refine brP (i < (b.l.length : Int)) (by first | (simp only [vx, reduceCtorEq]; done) | (simp only [vx, reduceCtorEq]; grind)) (fun c1 => ?_) (fun c1 => ?_)
 ·obtain ⟨hz0, hz1⟩ := hB (b.get i) (get_memL i0 c1)
  have hz := bS_get i0 c1
  have hl1 := hR.left
  have hl2 := hR.lft
  have hps := hR.pos
  have hn1 := hR.n
  have wi : IntKind.i64.wrap (i + 1) = i + 1 := wrap_id _ (by omega) (by omega)
  have wl : IntKind.i64.wrap (left + 1) = left + 1 := wrap_id _ (by omega) (by omega)
  have ht : (i + 1).toNat = i.toNat + 1 := by omega
  refine need_wp (⟨_, _, _, rfl⟩) ?_
  refine need_wp (rw_row _ _) ?_
  refine need_wp (by simp only [vx, reduceCtorEq, wi, wl, vlen]; first | omega | (grind)) ?_
  refine need_wp (⟨_, _, _, rfl⟩) ?_
  refine need_wp (rw_row _ _) ?_
  refine need_wp (by first | exact rw_sz' rfl | exact rw_szn (by assumption) (.inr (by omega)) | (simp only [vx, reduceCtorEq, wi, wl]; exact rw_szn (by assumption) (.inr (by omega))) | exact rw_szn (by simp [Rw.ok]) (.inr (by omega))) ?_
  refine need_wp (by simp only [vx, reduceCtorEq, wi, wl]; exact kind_Rb (by omega) (by omega)) ?_
  refine brP (cloB (.some 40) [(.int .u8 42), (.fn 33)] now = true) (by first | (simp only [vx, reduceCtorEq, wi, wl]; done) | (simp only [vx, reduceCtorEq, wi, wl]; grind)) (fun c2 => ?_) (fun c2 => ?_)
  ·have hσ : m.σ = .star := now_of (τ := .star) hR.now c2
   refine brP ((b.get i) ≠ 42) (by first | (simp only [vx, reduceCtorEq, wi, wl]; done) | (simp only [vx, reduceCtorEq, wi, wl]; grind)) (fun c3 => ?_) (fun c3 => ?_)
   ·have hw : stepZ m (b.get i) = none := by rw [sz_star hz0 hz1 hσ, if_neg (by omega)]
    have hW := hR.wt
    have hW2 : wO m.out ≤ 3000 := by simp only [Wt] at hW; omega
    exact t20_5_wp hR.out hW2 (hR.wrong hz hw) _ _ _ _ _ _ _ _ _ _ _ _
   ·refine clo_wp ?_
    intro y3 o3 q3
    refine need_wp (⟨_, _, _, rfl⟩) ?_
    refine need_wp (by exact kargs) ?_
    refine need_wp (⟨_, _, _, rfl⟩) ?_
    refine need_wp (⟨_, _, _, rfl⟩) ?_
    refine again_wp rfl ⟨(i + 1), y3, (left + 1), 0, false, args, many, arg, out, by first | (simp only [vx, reduceCtorEq, wi, wl]; done) | rfl, ?_⟩ ?_
    ·have hs := (sz_star hz0 hz1 hσ).trans (if_pos (by omega)); exact ⟨by omega, _, hR.next' hz hz0 hz1 ht hs (q3) (by first | omega | (simp only; omega)) rfl rfl hR.many (fun h => by simp [hasA] at h) hR.arg hR.out⟩
    ·(try simp only [vx, reduceCtorEq, wi, wl]); omega
  ·refine brP (cloB (.some 41) [(.int .i64 1), (.fn 36), (.int .i64 50), .self] now = true) (by first | (simp only [vx, reduceCtorEq, wi, wl]; done) | (simp only [vx, reduceCtorEq, wi, wl]; grind)) (fun c4 => ?_) (fun c4 => ?_)
   ·have hσ : m.σ = (.num .cnt) := now_of (τ := (.num .cnt)) hR.now c4
    refine brP ((b.get i) = 13) (by first | (simp only [vx, reduceCtorEq, wi, wl]; done) | (simp only [vx, reduceCtorEq, wi, wl]; grind)) (fun c5 => ?_) (fun c5 => ?_)
    ·refine brP (sm = true) (by first | (simp only [vx, reduceCtorEq, wi, wl]; done) | (simp only [vx, reduceCtorEq, wi, wl]; grind)) (fun c6 => ?_) (fun c6 => ?_)
     ·refine brP (n ≥ 1) (by first | (simp only [vx, reduceCtorEq, wi, wl]; done) | (simp only [vx, reduceCtorEq, wi, wl]; grind)) (fun c7 => ?_) (fun c7 => ?_)
      ·refine clo_wp ?_
       intro y4 o4 q4
       refine need_wp (⟨_, _, _, rfl⟩) ?_
       refine need_wp (by exact kargs) ?_
       refine need_wp (⟨_, _, _, rfl⟩) ?_
       refine need_wp (⟨_, _, _, rfl⟩) ?_
       refine again_wp rfl ⟨(i + 1), y4, (left + 1), n, sm, args, many, arg, out, by first | (simp only [vx, reduceCtorEq, wi, wl]; done) | rfl, ?_⟩ ?_
       ·have hs := num_cr hz0 hz1 hσ hR.n hR.sm ⟨by omega, by assumption, by simp only [Ks.least]; omega⟩; exact ⟨by omega, _, hR.next' hz hz0 hz1 ht hs (q4) (by first | omega | (simp only; omega)) hR.n hR.sm hR.many (fun h => by simp [hasA] at h) hR.arg hR.out⟩
       ·(try simp only [vx, reduceCtorEq, wi, wl]); omega
      ·refine brP ((b.get i) < 48) (by first | (simp only [vx, reduceCtorEq, wi, wl]; done) | (simp only [vx, reduceCtorEq, wi, wl]; grind)) (fun c8 => ?_) (fun c8 => ?_)
       ·have hw : stepZ m (b.get i) = none := by
         refine num_none hz0 hz1 hσ hR.n hR.sm ?_ ?_
         ·rintro ⟨h1, h2, h3⟩; simp only [Ks.least] at h3; first | omega | exact absurd h2 (by assumption)
         ·simp only [Ks.least, Ks.most]; first | exact .inl (by omega) | exact .inr (.inl (by omega)) | exact .inr (.inr (.inl ⟨by assumption, by omega⟩)) | exact .inr (.inr (.inr (.inl (by omega)))) | exact .inr (.inr (.inr (.inr ⟨by omega, by omega⟩)))
        have hW := hR.wt
        have hW2 : wO m.out ≤ 3000 := by simp only [Wt] at hW; omega
        exact t20_5_wp hR.out hW2 (hR.wrong hz hw) _ _ _ _ _ _ _ _ _ _ _ _
       ·refine brP ((b.get i) > 57) (by first | (simp only [vx, reduceCtorEq, wi, wl]; done) | (simp only [vx, reduceCtorEq, wi, wl]; grind)) (fun c9 => ?_) (fun c9 => ?_)
        ·have hw : stepZ m (b.get i) = none := by
          refine num_none hz0 hz1 hσ hR.n hR.sm ?_ ?_
          ·rintro ⟨h1, h2, h3⟩; simp only [Ks.least] at h3; first | omega | exact absurd h2 (by assumption)
          ·simp only [Ks.least, Ks.most]; first | exact .inl (by omega) | exact .inr (.inl (by omega)) | exact .inr (.inr (.inl ⟨by assumption, by omega⟩)) | exact .inr (.inr (.inr (.inl (by omega)))) | exact .inr (.inr (.inr (.inr ⟨by omega, by omega⟩)))
         have hW := hR.wt
         have hW2 : wO m.out ≤ 3000 := by simp only [Wt] at hW; omega
         exact t20_5_wp hR.out hW2 (hR.wrong hz hw) _ _ _ _ _ _ _ _ _ _ _ _
        ·have wu : IntKind.u8.wrap ((b.get i) - 48) = (b.get i) - 48 := by rw [IntKind.wrap_u8]; omega
         have ww : IntKind.i64.wrap ((b.get i) - 48) = (b.get i) - 48 := wrap_id _ (by omega) (by omega)
         have wm : IntKind.i64.wrap (10 * n) = 10 * n := wrap_id _ (by omega) (by omega)
         have wa : IntKind.i64.wrap (10 * n + ((b.get i) - 48)) = 10 * n + ((b.get i) - 48) := wrap_id _ (by omega) (by omega)
         refine brP (n = 0) (by first | (simp only [vx, reduceCtorEq, wi, wl, wu, ww, wm, wa]; done) | (simp only [vx, reduceCtorEq, wi, wl, wu, ww, wm, wa]; grind)) (fun c10 => ?_) (fun c10 => ?_)
         ·have hw : stepZ m (b.get i) = none := by
           refine num_none hz0 hz1 hσ hR.n hR.sm ?_ ?_
           ·rintro ⟨h1, h2, h3⟩; simp only [Ks.least] at h3; first | omega | exact absurd h2 (by assumption)
           ·simp only [Ks.least, Ks.most]; first | exact .inl (by omega) | exact .inr (.inl (by omega)) | exact .inr (.inr (.inl ⟨by assumption, by omega⟩)) | exact .inr (.inr (.inr (.inl (by omega)))) | exact .inr (.inr (.inr (.inr ⟨by omega, by omega⟩)))
          have hW := hR.wt
          have hW2 : wO m.out ≤ 3000 := by simp only [Wt] at hW; omega
          exact t20_5_wp hR.out hW2 (hR.wrong hz hw) _ _ _ _ _ _ _ _ _ _ _ _
         ·refine brP ((10 * n + ((b.get i) - 48)) > 50) (by first | (simp only [vx, reduceCtorEq, wi, wl, wu, ww, wm, wa]; done) | (simp only [vx, reduceCtorEq, wi, wl, wu, ww, wm, wa]; grind)) (fun c11 => ?_) (fun c11 => ?_)
          ·have hw : stepZ m (b.get i) = none := by
            refine num_none hz0 hz1 hσ hR.n hR.sm ?_ ?_
            ·rintro ⟨h1, h2, h3⟩; simp only [Ks.least] at h3; first | omega | exact absurd h2 (by assumption)
            ·simp only [Ks.least, Ks.most]; first | exact .inl (by omega) | exact .inr (.inl (by omega)) | exact .inr (.inr (.inl ⟨by assumption, by omega⟩)) | exact .inr (.inr (.inr (.inl (by omega)))) | exact .inr (.inr (.inr (.inr ⟨by omega, by omega⟩)))
           have hW := hR.wt
           have hW2 : wO m.out ≤ 3000 := by simp only [Wt] at hW; omega
           exact t20_5_wp hR.out hW2 (hR.wrong hz hw) _ _ _ _ _ _ _ _ _ _ _ _
          ·refine brP ((10 * n + ((b.get i) - 48)) = 0) (by first | (simp only [vx, reduceCtorEq, wi, wl, wu, ww, wm, wa]; done) | (simp only [vx, reduceCtorEq, wi, wl, wu, ww, wm, wa]; grind)) (fun c12 => ?_) (fun c12 => ?_)
           ·have hw : stepZ m (b.get i) = none := by
             refine num_none hz0 hz1 hσ hR.n hR.sm ?_ ?_
             ·rintro ⟨h1, h2, h3⟩; simp only [Ks.least] at h3; first | omega | exact absurd h2 (by assumption)
             ·simp only [Ks.least, Ks.most]; first | exact .inl (by omega) | exact .inr (.inl (by omega)) | exact .inr (.inr (.inl ⟨by assumption, by omega⟩)) | exact .inr (.inr (.inr (.inl (by omega)))) | exact .inr (.inr (.inr (.inr ⟨by omega, by omega⟩)))
            have hW := hR.wt
            have hW2 : wO m.out ≤ 3000 := by simp only [Wt] at hW; omega
            exact t20_5_wp hR.out hW2 (hR.wrong hz hw) _ _ _ _ _ _ _ _ _ _ _ _
           ·refine need_wp (⟨_, _, _, rfl⟩) ?_
            refine need_wp (by exact kargs) ?_
            refine need_wp (⟨_, _, _, rfl⟩) ?_
            refine need_wp (⟨_, _, _, rfl⟩) ?_
            refine again_wp rfl ⟨(i + 1), now, (left + 1), (10 * n + ((b.get i) - 48)), true, args, many, arg, out, by first | (simp only [vx, reduceCtorEq, wi, wl, wu, ww, wm, wa]; done) | rfl, ?_⟩ ?_
            ·have hs := num_dig hz0 hz1 hσ hR.n hR.sm (by rintro ⟨h1, h2, h3⟩; simp only [Ks.least] at h3; first | omega | exact absurd h2 (by assumption)) (by omega) (by omega) (by rintro ⟨h1, h2⟩; first | omega | exact absurd h1 (by assumption)) (by simp only [Ks.most]; omega) (by rintro ⟨h1, h2⟩; simp only [Ks.least] at h2; omega); exact ⟨by omega, _, hR.next' hz hz0 hz1 ht hs (by have := hR.now; rw [hσ] at this; simpa only [hσ] using this) (by first | omega | (simp only; omega)) rfl rfl hR.many (fun h => hR.args h) hR.arg hR.out⟩
            ·(try simp only [vx, reduceCtorEq, wi, wl, wu, ww, wm, wa]); omega
     ·refine brP ((b.get i) < 48) (by first | (simp only [vx, reduceCtorEq, wi, wl]; done) | (simp only [vx, reduceCtorEq, wi, wl]; grind)) (fun c13 => ?_) (fun c13 => ?_)
      ·have hw : stepZ m (b.get i) = none := by
        refine num_none hz0 hz1 hσ hR.n hR.sm ?_ ?_
        ·rintro ⟨h1, h2, h3⟩; simp only [Ks.least] at h3; first | omega | exact absurd h2 (by assumption)
        ·simp only [Ks.least, Ks.most]; first | exact .inl (by omega) | exact .inr (.inl (by omega)) | exact .inr (.inr (.inl ⟨by assumption, by omega⟩)) | exact .inr (.inr (.inr (.inl (by omega)))) | exact .inr (.inr (.inr (.inr ⟨by omega, by omega⟩)))
       have hW := hR.wt
       have hW2 : wO m.out ≤ 3000 := by simp only [Wt] at hW; omega
       exact t20_5_wp hR.out hW2 (hR.wrong hz hw) _ _ _ _ _ _ _ _ _ _ _ _
      ·refine brP ((b.get i) > 57) (by first | (simp only [vx, reduceCtorEq, wi, wl]; done) | (simp only [vx, reduceCtorEq, wi, wl]; grind)) (fun c14 => ?_) (fun c14 => ?_)
       ·have hw : stepZ m (b.get i) = none := by
         refine num_none hz0 hz1 hσ hR.n hR.sm ?_ ?_
         ·rintro ⟨h1, h2, h3⟩; simp only [Ks.least] at h3; first | omega | exact absurd h2 (by assumption)
         ·simp only [Ks.least, Ks.most]; first | exact .inl (by omega) | exact .inr (.inl (by omega)) | exact .inr (.inr (.inl ⟨by assumption, by omega⟩)) | exact .inr (.inr (.inr (.inl (by omega)))) | exact .inr (.inr (.inr (.inr ⟨by omega, by omega⟩)))
        have hW := hR.wt
        have hW2 : wO m.out ≤ 3000 := by simp only [Wt] at hW; omega
        exact t20_5_wp hR.out hW2 (hR.wrong hz hw) _ _ _ _ _ _ _ _ _ _ _ _
       ·have wu : IntKind.u8.wrap ((b.get i) - 48) = (b.get i) - 48 := by rw [IntKind.wrap_u8]; omega
        have ww : IntKind.i64.wrap ((b.get i) - 48) = (b.get i) - 48 := wrap_id _ (by omega) (by omega)
        have wm : IntKind.i64.wrap (10 * n) = 10 * n := wrap_id _ (by omega) (by omega)
        have wa : IntKind.i64.wrap (10 * n + ((b.get i) - 48)) = 10 * n + ((b.get i) - 48) := wrap_id _ (by omega) (by omega)
        refine brP ((10 * n + ((b.get i) - 48)) > 50) (by first | (simp only [vx, reduceCtorEq, wi, wl, wu, ww, wm, wa]; done) | (simp only [vx, reduceCtorEq, wi, wl, wu, ww, wm, wa]; grind)) (fun c15 => ?_) (fun c15 => ?_)
        ·have hw : stepZ m (b.get i) = none := by
          refine num_none hz0 hz1 hσ hR.n hR.sm ?_ ?_
          ·rintro ⟨h1, h2, h3⟩; simp only [Ks.least] at h3; first | omega | exact absurd h2 (by assumption)
          ·simp only [Ks.least, Ks.most]; first | exact .inl (by omega) | exact .inr (.inl (by omega)) | exact .inr (.inr (.inl ⟨by assumption, by omega⟩)) | exact .inr (.inr (.inr (.inl (by omega)))) | exact .inr (.inr (.inr (.inr ⟨by omega, by omega⟩)))
         have hW := hR.wt
         have hW2 : wO m.out ≤ 3000 := by simp only [Wt] at hW; omega
         exact t20_5_wp hR.out hW2 (hR.wrong hz hw) _ _ _ _ _ _ _ _ _ _ _ _
        ·refine brP ((10 * n + ((b.get i) - 48)) = 0) (by first | (simp only [vx, reduceCtorEq, wi, wl, wu, ww, wm, wa]; done) | (simp only [vx, reduceCtorEq, wi, wl, wu, ww, wm, wa]; grind)) (fun c16 => ?_) (fun c16 => ?_)
         ·have hw : stepZ m (b.get i) = none := by
           refine num_none hz0 hz1 hσ hR.n hR.sm ?_ ?_
           ·rintro ⟨h1, h2, h3⟩; simp only [Ks.least] at h3; first | omega | exact absurd h2 (by assumption)
           ·simp only [Ks.least, Ks.most]; first | exact .inl (by omega) | exact .inr (.inl (by omega)) | exact .inr (.inr (.inl ⟨by assumption, by omega⟩)) | exact .inr (.inr (.inr (.inl (by omega)))) | exact .inr (.inr (.inr (.inr ⟨by omega, by omega⟩)))
          have hW := hR.wt
          have hW2 : wO m.out ≤ 3000 := by simp only [Wt] at hW; omega
          exact t20_5_wp hR.out hW2 (hR.wrong hz hw) _ _ _ _ _ _ _ _ _ _ _ _
         ·refine need_wp (⟨_, _, _, rfl⟩) ?_
          refine need_wp (by exact kargs) ?_
          refine need_wp (⟨_, _, _, rfl⟩) ?_
          refine need_wp (⟨_, _, _, rfl⟩) ?_
          refine again_wp rfl ⟨(i + 1), now, (left + 1), (10 * n + ((b.get i) - 48)), true, args, many, arg, out, by first | (simp only [vx, reduceCtorEq, wi, wl, wu, ww, wm, wa]; done) | rfl, ?_⟩ ?_
          ·have hs := num_dig hz0 hz1 hσ hR.n hR.sm (by rintro ⟨h1, h2, h3⟩; simp only [Ks.least] at h3; first | omega | exact absurd h2 (by assumption)) (by omega) (by omega) (by rintro ⟨h1, h2⟩; first | omega | exact absurd h1 (by assumption)) (by simp only [Ks.most]; omega) (by rintro ⟨h1, h2⟩; simp only [Ks.least] at h2; omega); exact ⟨by omega, _, hR.next' hz hz0 hz1 ht hs (by have := hR.now; rw [hσ] at this; simpa only [hσ] using this) (by first | omega | (simp only; omega)) rfl rfl hR.many (fun h => hR.args h) hR.arg hR.out⟩
          ·(try simp only [vx, reduceCtorEq, wi, wl, wu, ww, wm, wa]); omega
    ·refine brP ((b.get i) < 48) (by first | (simp only [vx, reduceCtorEq, wi, wl]; done) | (simp only [vx, reduceCtorEq, wi, wl]; grind)) (fun c17 => ?_) (fun c17 => ?_)
     ·have hw : stepZ m (b.get i) = none := by
       refine num_none hz0 hz1 hσ hR.n hR.sm ?_ ?_
       ·rintro ⟨h1, h2, h3⟩; simp only [Ks.least] at h3; first | omega | exact absurd h2 (by assumption)
       ·simp only [Ks.least, Ks.most]; first | exact .inl (by omega) | exact .inr (.inl (by omega)) | exact .inr (.inr (.inl ⟨by assumption, by omega⟩)) | exact .inr (.inr (.inr (.inl (by omega)))) | exact .inr (.inr (.inr (.inr ⟨by omega, by omega⟩)))
      have hW := hR.wt
      have hW2 : wO m.out ≤ 3000 := by simp only [Wt] at hW; omega
      exact t20_5_wp hR.out hW2 (hR.wrong hz hw) _ _ _ _ _ _ _ _ _ _ _ _
     ·refine brP ((b.get i) > 57) (by first | (simp only [vx, reduceCtorEq, wi, wl]; done) | (simp only [vx, reduceCtorEq, wi, wl]; grind)) (fun c18 => ?_) (fun c18 => ?_)
      ·have hw : stepZ m (b.get i) = none := by
        refine num_none hz0 hz1 hσ hR.n hR.sm ?_ ?_
        ·rintro ⟨h1, h2, h3⟩; simp only [Ks.least] at h3; first | omega | exact absurd h2 (by assumption)
        ·simp only [Ks.least, Ks.most]; first | exact .inl (by omega) | exact .inr (.inl (by omega)) | exact .inr (.inr (.inl ⟨by assumption, by omega⟩)) | exact .inr (.inr (.inr (.inl (by omega)))) | exact .inr (.inr (.inr (.inr ⟨by omega, by omega⟩)))
       have hW := hR.wt
       have hW2 : wO m.out ≤ 3000 := by simp only [Wt] at hW; omega
       exact t20_5_wp hR.out hW2 (hR.wrong hz hw) _ _ _ _ _ _ _ _ _ _ _ _
      ·have wu : IntKind.u8.wrap ((b.get i) - 48) = (b.get i) - 48 := by rw [IntKind.wrap_u8]; omega
       have ww : IntKind.i64.wrap ((b.get i) - 48) = (b.get i) - 48 := wrap_id _ (by omega) (by omega)
       have wm : IntKind.i64.wrap (10 * n) = 10 * n := wrap_id _ (by omega) (by omega)
       have wa : IntKind.i64.wrap (10 * n + ((b.get i) - 48)) = 10 * n + ((b.get i) - 48) := wrap_id _ (by omega) (by omega)
       refine brP (sm = true) (by first | (simp only [vx, reduceCtorEq, wi, wl, wu, ww, wm, wa]; done) | (simp only [vx, reduceCtorEq, wi, wl, wu, ww, wm, wa]; grind)) (fun c19 => ?_) (fun c19 => ?_)
       ·refine brP (n = 0) (by first | (simp only [vx, reduceCtorEq, wi, wl, wu, ww, wm, wa]; done) | (simp only [vx, reduceCtorEq, wi, wl, wu, ww, wm, wa]; grind)) (fun c20 => ?_) (fun c20 => ?_)
        ·have hw : stepZ m (b.get i) = none := by
          refine num_none hz0 hz1 hσ hR.n hR.sm ?_ ?_
          ·rintro ⟨h1, h2, h3⟩; simp only [Ks.least] at h3; first | omega | exact absurd h2 (by assumption)
          ·simp only [Ks.least, Ks.most]; first | exact .inl (by omega) | exact .inr (.inl (by omega)) | exact .inr (.inr (.inl ⟨by assumption, by omega⟩)) | exact .inr (.inr (.inr (.inl (by omega)))) | exact .inr (.inr (.inr (.inr ⟨by omega, by omega⟩)))
         have hW := hR.wt
         have hW2 : wO m.out ≤ 3000 := by simp only [Wt] at hW; omega
         exact t20_5_wp hR.out hW2 (hR.wrong hz hw) _ _ _ _ _ _ _ _ _ _ _ _
        ·refine brP ((10 * n + ((b.get i) - 48)) > 50) (by first | (simp only [vx, reduceCtorEq, wi, wl, wu, ww, wm, wa]; done) | (simp only [vx, reduceCtorEq, wi, wl, wu, ww, wm, wa]; grind)) (fun c21 => ?_) (fun c21 => ?_)
         ·have hw : stepZ m (b.get i) = none := by
           refine num_none hz0 hz1 hσ hR.n hR.sm ?_ ?_
           ·rintro ⟨h1, h2, h3⟩; simp only [Ks.least] at h3; first | omega | exact absurd h2 (by assumption)
           ·simp only [Ks.least, Ks.most]; first | exact .inl (by omega) | exact .inr (.inl (by omega)) | exact .inr (.inr (.inl ⟨by assumption, by omega⟩)) | exact .inr (.inr (.inr (.inl (by omega)))) | exact .inr (.inr (.inr (.inr ⟨by omega, by omega⟩)))
          have hW := hR.wt
          have hW2 : wO m.out ≤ 3000 := by simp only [Wt] at hW; omega
          exact t20_5_wp hR.out hW2 (hR.wrong hz hw) _ _ _ _ _ _ _ _ _ _ _ _
         ·refine brP ((10 * n + ((b.get i) - 48)) = 0) (by first | (simp only [vx, reduceCtorEq, wi, wl, wu, ww, wm, wa]; done) | (simp only [vx, reduceCtorEq, wi, wl, wu, ww, wm, wa]; grind)) (fun c22 => ?_) (fun c22 => ?_)
          ·have hw : stepZ m (b.get i) = none := by
            refine num_none hz0 hz1 hσ hR.n hR.sm ?_ ?_
            ·rintro ⟨h1, h2, h3⟩; simp only [Ks.least] at h3; first | omega | exact absurd h2 (by assumption)
            ·simp only [Ks.least, Ks.most]; first | exact .inl (by omega) | exact .inr (.inl (by omega)) | exact .inr (.inr (.inl ⟨by assumption, by omega⟩)) | exact .inr (.inr (.inr (.inl (by omega)))) | exact .inr (.inr (.inr (.inr ⟨by omega, by omega⟩)))
           have hW := hR.wt
           have hW2 : wO m.out ≤ 3000 := by simp only [Wt] at hW; omega
           exact t20_5_wp hR.out hW2 (hR.wrong hz hw) _ _ _ _ _ _ _ _ _ _ _ _
          ·refine need_wp (⟨_, _, _, rfl⟩) ?_
           refine need_wp (by exact kargs) ?_
           refine need_wp (⟨_, _, _, rfl⟩) ?_
           refine need_wp (⟨_, _, _, rfl⟩) ?_
           refine again_wp rfl ⟨(i + 1), now, (left + 1), (10 * n + ((b.get i) - 48)), true, args, many, arg, out, by first | (simp only [vx, reduceCtorEq, wi, wl, wu, ww, wm, wa]; done) | rfl, ?_⟩ ?_
           ·have hs := num_dig hz0 hz1 hσ hR.n hR.sm (by rintro ⟨h1, h2, h3⟩; simp only [Ks.least] at h3; first | omega | exact absurd h2 (by assumption)) (by omega) (by omega) (by rintro ⟨h1, h2⟩; first | omega | exact absurd h1 (by assumption)) (by simp only [Ks.most]; omega) (by rintro ⟨h1, h2⟩; simp only [Ks.least] at h2; omega); exact ⟨by omega, _, hR.next' hz hz0 hz1 ht hs (by have := hR.now; rw [hσ] at this; simpa only [hσ] using this) (by first | omega | (simp only; omega)) rfl rfl hR.many (fun h => hR.args h) hR.arg hR.out⟩
           ·(try simp only [vx, reduceCtorEq, wi, wl, wu, ww, wm, wa]); omega
       ·refine brP ((10 * n + ((b.get i) - 48)) > 50) (by first | (simp only [vx, reduceCtorEq, wi, wl, wu, ww, wm, wa]; done) | (simp only [vx, reduceCtorEq, wi, wl, wu, ww, wm, wa]; grind)) (fun c23 => ?_) (fun c23 => ?_)
        ·have hw : stepZ m (b.get i) = none := by
          refine num_none hz0 hz1 hσ hR.n hR.sm ?_ ?_
          ·rintro ⟨h1, h2, h3⟩; simp only [Ks.least] at h3; first | omega | exact absurd h2 (by assumption)
          ·simp only [Ks.least, Ks.most]; first | exact .inl (by omega) | exact .inr (.inl (by omega)) | exact .inr (.inr (.inl ⟨by assumption, by omega⟩)) | exact .inr (.inr (.inr (.inl (by omega)))) | exact .inr (.inr (.inr (.inr ⟨by omega, by omega⟩)))
         have hW := hR.wt
         have hW2 : wO m.out ≤ 3000 := by simp only [Wt] at hW; omega
         exact t20_5_wp hR.out hW2 (hR.wrong hz hw) _ _ _ _ _ _ _ _ _ _ _ _
        ·refine brP ((10 * n + ((b.get i) - 48)) = 0) (by first | (simp only [vx, reduceCtorEq, wi, wl, wu, ww, wm, wa]; done) | (simp only [vx, reduceCtorEq, wi, wl, wu, ww, wm, wa]; grind)) (fun c24 => ?_) (fun c24 => ?_)
         ·have hw : stepZ m (b.get i) = none := by
           refine num_none hz0 hz1 hσ hR.n hR.sm ?_ ?_
           ·rintro ⟨h1, h2, h3⟩; simp only [Ks.least] at h3; first | omega | exact absurd h2 (by assumption)
           ·simp only [Ks.least, Ks.most]; first | exact .inl (by omega) | exact .inr (.inl (by omega)) | exact .inr (.inr (.inl ⟨by assumption, by omega⟩)) | exact .inr (.inr (.inr (.inl (by omega)))) | exact .inr (.inr (.inr (.inr ⟨by omega, by omega⟩)))
          have hW := hR.wt
          have hW2 : wO m.out ≤ 3000 := by simp only [Wt] at hW; omega
          exact t20_5_wp hR.out hW2 (hR.wrong hz hw) _ _ _ _ _ _ _ _ _ _ _ _
         ·refine need_wp (⟨_, _, _, rfl⟩) ?_
          refine need_wp (by exact kargs) ?_
          refine need_wp (⟨_, _, _, rfl⟩) ?_
          refine need_wp (⟨_, _, _, rfl⟩) ?_
          refine again_wp rfl ⟨(i + 1), now, (left + 1), (10 * n + ((b.get i) - 48)), true, args, many, arg, out, by first | (simp only [vx, reduceCtorEq, wi, wl, wu, ww, wm, wa]; done) | rfl, ?_⟩ ?_
          ·have hs := num_dig hz0 hz1 hσ hR.n hR.sm (by rintro ⟨h1, h2, h3⟩; simp only [Ks.least] at h3; first | omega | exact absurd h2 (by assumption)) (by omega) (by omega) (by rintro ⟨h1, h2⟩; first | omega | exact absurd h1 (by assumption)) (by simp only [Ks.most]; omega) (by rintro ⟨h1, h2⟩; simp only [Ks.least] at h2; omega); exact ⟨by omega, _, hR.next' hz hz0 hz1 ht hs (by have := hR.now; rw [hσ] at this; simpa only [hσ] using this) (by first | omega | (simp only; omega)) rfl rfl hR.many (fun h => hR.args h) hR.arg hR.out⟩
          ·(try simp only [vx, reduceCtorEq, wi, wl, wu, ww, wm, wa]); omega
   ·refine brP (cloB (.some 40) [(.int .u8 10), (.fn 36)] now = true) (by first | (simp only [vx, reduceCtorEq, wi, wl]; done) | (simp only [vx, reduceCtorEq, wi, wl]; grind)) (fun c25 => ?_) (fun c25 => ?_)
    ·have hσ : m.σ = (.lf .cnt) := now_of (τ := (.lf .cnt)) hR.now c25
     refine brP ((b.get i) ≠ 10) (by first | (simp only [vx, reduceCtorEq, wi, wl]; done) | (simp only [vx, reduceCtorEq, wi, wl]; grind)) (fun c26 => ?_) (fun c26 => ?_)
     ·have hw : stepZ m (b.get i) = none := by rw [sz_lfc hz0 hz1 hσ, if_neg (by omega)]
      have hW := hR.wt
      have hW2 : wO m.out ≤ 3000 := by simp only [Wt] at hW; omega
      exact t20_5_wp hR.out hW2 (hR.wrong hz hw) _ _ _ _ _ _ _ _ _ _ _ _
     ·refine clo_wp ?_
      intro y5 o5 q5
      refine need_wp (⟨_, _, _, rfl⟩) ?_
      refine need_wp (⟨_, _, _, rfl⟩) ?_
      refine need_wp (⟨_, _, _, rfl⟩) ?_
      refine need_wp (⟨_, _, _, rfl⟩) ?_
      refine again_wp rfl ⟨(i + 1), y5, (left + 1), n, sm, (Rw.atom eS (Rw.nil : Rw ByteArray)), n, arg, out, by first | (simp only [vx, reduceCtorEq, wi, wl]; done) | (simp only [vx, reduceCtorEq, wi, wl]; rfl) | (simp only [vx, reduceCtorEq, wi, wl, Rw.nil, Rw.atom, List.length_nil, List.map_nil]; done), ?_⟩ ?_
      ·have hs := (sz_lfc hz0 hz1 hσ).trans (if_pos (by omega)); exact ⟨by omega, _, hR.next' hz hz0 hz1 ht hs (q5) (by first | omega | (simp only; omega)) hR.n hR.sm hR.n (fun _ => ⟨Rw.nil, rfl, rfl, .inl rfl⟩) hR.arg hR.out⟩
      ·(try simp only [vx, reduceCtorEq, wi, wl]); omega
    ·refine brP (cloB (.some 40) [(.int .u8 36), (.fn 43)] now = true) (by first | (simp only [vx, reduceCtorEq, wi, wl]; done) | (simp only [vx, reduceCtorEq, wi, wl]; grind)) (fun c27 => ?_) (fun c27 => ?_)
     ·have hσ : m.σ = .dol := now_of (τ := .dol) hR.now c27
      refine brP ((b.get i) ≠ 36) (by first | (simp only [vx, reduceCtorEq, wi, wl]; done) | (simp only [vx, reduceCtorEq, wi, wl]; grind)) (fun c28 => ?_) (fun c28 => ?_)
      ·have hw : stepZ m (b.get i) = none := by rw [sz_dol hz0 hz1 hσ, if_neg (by omega)]
       have hW := hR.wt
       have hW2 : wO m.out ≤ 3000 := by simp only [Wt] at hW; omega
       exact t20_5_wp hR.out hW2 (hR.wrong hz hw) _ _ _ _ _ _ _ _ _ _ _ _
      ·refine clo_wp ?_
       intro y6 o6 q6
       refine need_wp (⟨_, _, _, rfl⟩) ?_
       refine need_wp (by exact kargs) ?_
       refine need_wp (⟨_, _, _, rfl⟩) ?_
       refine need_wp (⟨_, _, _, rfl⟩) ?_
       refine again_wp rfl ⟨(i + 1), y6, (left + 1), 0, false, args, many, arg, out, by first | (simp only [vx, reduceCtorEq, wi, wl]; done) | rfl, ?_⟩ ?_
       ·have hs := (sz_dol hz0 hz1 hσ).trans (if_pos (by omega)); exact ⟨by omega, _, hR.next' hz hz0 hz1 ht hs (q6) (by first | omega | (simp only; omega)) rfl rfl hR.many (fun _ => hR.args (by rw [hσ]; rfl)) hR.arg hR.out⟩
       ·(try simp only [vx, reduceCtorEq, wi, wl]); omega
     ·refine brP (cloB (.some 41) [(.int .i64 0), (.fn 44), (.int .i64 1000), .self] now = true) (by first | (simp only [vx, reduceCtorEq, wi, wl]; done) | (simp only [vx, reduceCtorEq, wi, wl]; grind)) (fun c29 => ?_) (fun c29 => ?_)
      ·have hσ : m.σ = (.num .szd) := now_of (τ := (.num .szd)) hR.now c29
       refine brP ((b.get i) = 13) (by first | (simp only [vx, reduceCtorEq, wi, wl]; done) | (simp only [vx, reduceCtorEq, wi, wl]; grind)) (fun c30 => ?_) (fun c30 => ?_)
       ·refine brP (sm = true) (by first | (simp only [vx, reduceCtorEq, wi, wl]; done) | (simp only [vx, reduceCtorEq, wi, wl]; grind)) (fun c31 => ?_) (fun c31 => ?_)
        ·refine brP (n ≥ 0) (by first | (simp only [vx, reduceCtorEq, wi, wl]; done) | (simp only [vx, reduceCtorEq, wi, wl]; grind)) (fun c32 => ?_) (fun c32 => ?_)
         ·refine clo_wp ?_
          intro y7 o7 q7
          refine need_wp (⟨_, _, _, rfl⟩) ?_
          refine need_wp (by exact kargs) ?_
          refine need_wp (⟨_, _, _, rfl⟩) ?_
          refine need_wp (⟨_, _, _, rfl⟩) ?_
          refine again_wp rfl ⟨(i + 1), y7, (left + 1), n, sm, args, many, arg, out, by first | (simp only [vx, reduceCtorEq, wi, wl]; done) | rfl, ?_⟩ ?_
          ·have hs := num_cr hz0 hz1 hσ hR.n hR.sm ⟨by omega, by assumption, by simp only [Ks.least]; omega⟩; exact ⟨by omega, _, hR.next' hz hz0 hz1 ht hs (q7) (by first | omega | (simp only; omega)) hR.n hR.sm hR.many (fun _ => hR.args (by rw [hσ]; rfl)) hR.arg hR.out⟩
          ·(try simp only [vx, reduceCtorEq, wi, wl]); omega
         ·exfalso; omega
        ·refine brP ((b.get i) < 48) (by first | (simp only [vx, reduceCtorEq, wi, wl]; done) | (simp only [vx, reduceCtorEq, wi, wl]; grind)) (fun c38 => ?_) (fun c38 => ?_)
         ·have hw : stepZ m (b.get i) = none := by
           refine num_none hz0 hz1 hσ hR.n hR.sm ?_ ?_
           ·rintro ⟨h1, h2, h3⟩; simp only [Ks.least] at h3; first | omega | exact absurd h2 (by assumption)
           ·simp only [Ks.least, Ks.most]; first | exact .inl (by omega) | exact .inr (.inl (by omega)) | exact .inr (.inr (.inl ⟨by assumption, by omega⟩)) | exact .inr (.inr (.inr (.inl (by omega)))) | exact .inr (.inr (.inr (.inr ⟨by omega, by omega⟩)))
          have hW := hR.wt
          have hW2 : wO m.out ≤ 3000 := by simp only [Wt] at hW; omega
          exact t20_5_wp hR.out hW2 (hR.wrong hz hw) _ _ _ _ _ _ _ _ _ _ _ _
         ·refine brP ((b.get i) > 57) (by first | (simp only [vx, reduceCtorEq, wi, wl]; done) | (simp only [vx, reduceCtorEq, wi, wl]; grind)) (fun c39 => ?_) (fun c39 => ?_)
          ·have hw : stepZ m (b.get i) = none := by
            refine num_none hz0 hz1 hσ hR.n hR.sm ?_ ?_
            ·rintro ⟨h1, h2, h3⟩; simp only [Ks.least] at h3; first | omega | exact absurd h2 (by assumption)
            ·simp only [Ks.least, Ks.most]; first | exact .inl (by omega) | exact .inr (.inl (by omega)) | exact .inr (.inr (.inl ⟨by assumption, by omega⟩)) | exact .inr (.inr (.inr (.inl (by omega)))) | exact .inr (.inr (.inr (.inr ⟨by omega, by omega⟩)))
           have hW := hR.wt
           have hW2 : wO m.out ≤ 3000 := by simp only [Wt] at hW; omega
           exact t20_5_wp hR.out hW2 (hR.wrong hz hw) _ _ _ _ _ _ _ _ _ _ _ _
          ·have wu : IntKind.u8.wrap ((b.get i) - 48) = (b.get i) - 48 := by rw [IntKind.wrap_u8]; omega
           have ww : IntKind.i64.wrap ((b.get i) - 48) = (b.get i) - 48 := wrap_id _ (by omega) (by omega)
           have wm : IntKind.i64.wrap (10 * n) = 10 * n := wrap_id _ (by omega) (by omega)
           have wa : IntKind.i64.wrap (10 * n + ((b.get i) - 48)) = 10 * n + ((b.get i) - 48) := wrap_id _ (by omega) (by omega)
           refine brP ((10 * n + ((b.get i) - 48)) > 1000) (by first | (simp only [vx, reduceCtorEq, wi, wl, wu, ww, wm, wa]; done) | (simp only [vx, reduceCtorEq, wi, wl, wu, ww, wm, wa]; grind)) (fun c40 => ?_) (fun c40 => ?_)
           ·have hw : stepZ m (b.get i) = none := by
             refine num_none hz0 hz1 hσ hR.n hR.sm ?_ ?_
             ·rintro ⟨h1, h2, h3⟩; simp only [Ks.least] at h3; first | omega | exact absurd h2 (by assumption)
             ·simp only [Ks.least, Ks.most]; first | exact .inl (by omega) | exact .inr (.inl (by omega)) | exact .inr (.inr (.inl ⟨by assumption, by omega⟩)) | exact .inr (.inr (.inr (.inl (by omega)))) | exact .inr (.inr (.inr (.inr ⟨by omega, by omega⟩)))
            have hW := hR.wt
            have hW2 : wO m.out ≤ 3000 := by simp only [Wt] at hW; omega
            exact t20_5_wp hR.out hW2 (hR.wrong hz hw) _ _ _ _ _ _ _ _ _ _ _ _
           ·refine brP ((10 * n + ((b.get i) - 48)) = 0) (by first | (simp only [vx, reduceCtorEq, wi, wl, wu, ww, wm, wa]; done) | (simp only [vx, reduceCtorEq, wi, wl, wu, ww, wm, wa]; grind)) (fun c41 => ?_) (fun c41 => ?_)
            ·refine need_wp (⟨_, _, _, rfl⟩) ?_
             refine need_wp (by exact kargs) ?_
             refine need_wp (⟨_, _, _, rfl⟩) ?_
             refine need_wp (⟨_, _, _, rfl⟩) ?_
             refine again_wp rfl ⟨(i + 1), now, (left + 1), (10 * n + ((b.get i) - 48)), true, args, many, arg, out, by first | (simp only [vx, reduceCtorEq, wi, wl, wu, ww, wm, wa]; done) | rfl, ?_⟩ ?_
             ·have hs := num_dig hz0 hz1 hσ hR.n hR.sm (by rintro ⟨h1, h2, h3⟩; simp only [Ks.least] at h3; first | omega | exact absurd h2 (by assumption)) (by omega) (by omega) (by rintro ⟨h1, h2⟩; first | omega | exact absurd h1 (by assumption)) (by simp only [Ks.most]; omega) (by rintro ⟨h1, h2⟩; simp only [Ks.least] at h2; omega); exact ⟨by omega, _, hR.next' hz hz0 hz1 ht hs (by have := hR.now; rw [hσ] at this; simpa only [hσ] using this) (by first | omega | (simp only; omega)) rfl rfl hR.many (fun h => hR.args h) hR.arg hR.out⟩
             ·(try simp only [vx, reduceCtorEq, wi, wl, wu, ww, wm, wa]); omega
            ·refine need_wp (⟨_, _, _, rfl⟩) ?_
             refine need_wp (by exact kargs) ?_
             refine need_wp (⟨_, _, _, rfl⟩) ?_
             refine need_wp (⟨_, _, _, rfl⟩) ?_
             refine again_wp rfl ⟨(i + 1), now, (left + 1), (10 * n + ((b.get i) - 48)), true, args, many, arg, out, by first | (simp only [vx, reduceCtorEq, wi, wl, wu, ww, wm, wa]; done) | rfl, ?_⟩ ?_
             ·have hs := num_dig hz0 hz1 hσ hR.n hR.sm (by rintro ⟨h1, h2, h3⟩; simp only [Ks.least] at h3; first | omega | exact absurd h2 (by assumption)) (by omega) (by omega) (by rintro ⟨h1, h2⟩; first | omega | exact absurd h1 (by assumption)) (by simp only [Ks.most]; omega) (by rintro ⟨h1, h2⟩; simp only [Ks.least] at h2; omega); exact ⟨by omega, _, hR.next' hz hz0 hz1 ht hs (by have := hR.now; rw [hσ] at this; simpa only [hσ] using this) (by first | omega | (simp only; omega)) rfl rfl hR.many (fun h => hR.args h) hR.arg hR.out⟩
             ·(try simp only [vx, reduceCtorEq, wi, wl, wu, ww, wm, wa]); omega
       ·refine brP ((b.get i) < 48) (by first | (simp only [vx, reduceCtorEq, wi, wl]; done) | (simp only [vx, reduceCtorEq, wi, wl]; grind)) (fun c42 => ?_) (fun c42 => ?_)
        ·have hw : stepZ m (b.get i) = none := by
          refine num_none hz0 hz1 hσ hR.n hR.sm ?_ ?_
          ·rintro ⟨h1, h2, h3⟩; simp only [Ks.least] at h3; first | omega | exact absurd h2 (by assumption)
          ·simp only [Ks.least, Ks.most]; first | exact .inl (by omega) | exact .inr (.inl (by omega)) | exact .inr (.inr (.inl ⟨by assumption, by omega⟩)) | exact .inr (.inr (.inr (.inl (by omega)))) | exact .inr (.inr (.inr (.inr ⟨by omega, by omega⟩)))
         have hW := hR.wt
         have hW2 : wO m.out ≤ 3000 := by simp only [Wt] at hW; omega
         exact t20_5_wp hR.out hW2 (hR.wrong hz hw) _ _ _ _ _ _ _ _ _ _ _ _
        ·refine brP ((b.get i) > 57) (by first | (simp only [vx, reduceCtorEq, wi, wl]; done) | (simp only [vx, reduceCtorEq, wi, wl]; grind)) (fun c43 => ?_) (fun c43 => ?_)
         ·have hw : stepZ m (b.get i) = none := by
           refine num_none hz0 hz1 hσ hR.n hR.sm ?_ ?_
           ·rintro ⟨h1, h2, h3⟩; simp only [Ks.least] at h3; first | omega | exact absurd h2 (by assumption)
           ·simp only [Ks.least, Ks.most]; first | exact .inl (by omega) | exact .inr (.inl (by omega)) | exact .inr (.inr (.inl ⟨by assumption, by omega⟩)) | exact .inr (.inr (.inr (.inl (by omega)))) | exact .inr (.inr (.inr (.inr ⟨by omega, by omega⟩)))
          have hW := hR.wt
          have hW2 : wO m.out ≤ 3000 := by simp only [Wt] at hW; omega
          exact t20_5_wp hR.out hW2 (hR.wrong hz hw) _ _ _ _ _ _ _ _ _ _ _ _
         ·have wu : IntKind.u8.wrap ((b.get i) - 48) = (b.get i) - 48 := by rw [IntKind.wrap_u8]; omega
          have ww : IntKind.i64.wrap ((b.get i) - 48) = (b.get i) - 48 := wrap_id _ (by omega) (by omega)
          have wm : IntKind.i64.wrap (10 * n) = 10 * n := wrap_id _ (by omega) (by omega)
          have wa : IntKind.i64.wrap (10 * n + ((b.get i) - 48)) = 10 * n + ((b.get i) - 48) := wrap_id _ (by omega) (by omega)
          refine brP (sm = true) (by first | (simp only [vx, reduceCtorEq, wi, wl, wu, ww, wm, wa]; done) | (simp only [vx, reduceCtorEq, wi, wl, wu, ww, wm, wa]; grind)) (fun c44 => ?_) (fun c44 => ?_)
          ·refine brP (n = 0) (by first | (simp only [vx, reduceCtorEq, wi, wl, wu, ww, wm, wa]; done) | (simp only [vx, reduceCtorEq, wi, wl, wu, ww, wm, wa]; grind)) (fun c45 => ?_) (fun c45 => ?_)
           ·have hw : stepZ m (b.get i) = none := by
             refine num_none hz0 hz1 hσ hR.n hR.sm ?_ ?_
             ·rintro ⟨h1, h2, h3⟩; simp only [Ks.least] at h3; first | omega | exact absurd h2 (by assumption)
             ·simp only [Ks.least, Ks.most]; first | exact .inl (by omega) | exact .inr (.inl (by omega)) | exact .inr (.inr (.inl ⟨by assumption, by omega⟩)) | exact .inr (.inr (.inr (.inl (by omega)))) | exact .inr (.inr (.inr (.inr ⟨by omega, by omega⟩)))
            have hW := hR.wt
            have hW2 : wO m.out ≤ 3000 := by simp only [Wt] at hW; omega
            exact t20_5_wp hR.out hW2 (hR.wrong hz hw) _ _ _ _ _ _ _ _ _ _ _ _
           ·refine brP ((10 * n + ((b.get i) - 48)) > 1000) (by first | (simp only [vx, reduceCtorEq, wi, wl, wu, ww, wm, wa]; done) | (simp only [vx, reduceCtorEq, wi, wl, wu, ww, wm, wa]; grind)) (fun c46 => ?_) (fun c46 => ?_)
            ·have hw : stepZ m (b.get i) = none := by
              refine num_none hz0 hz1 hσ hR.n hR.sm ?_ ?_
              ·rintro ⟨h1, h2, h3⟩; simp only [Ks.least] at h3; first | omega | exact absurd h2 (by assumption)
              ·simp only [Ks.least, Ks.most]; first | exact .inl (by omega) | exact .inr (.inl (by omega)) | exact .inr (.inr (.inl ⟨by assumption, by omega⟩)) | exact .inr (.inr (.inr (.inl (by omega)))) | exact .inr (.inr (.inr (.inr ⟨by omega, by omega⟩)))
             have hW := hR.wt
             have hW2 : wO m.out ≤ 3000 := by simp only [Wt] at hW; omega
             exact t20_5_wp hR.out hW2 (hR.wrong hz hw) _ _ _ _ _ _ _ _ _ _ _ _
            ·refine brP ((10 * n + ((b.get i) - 48)) = 0) (by first | (simp only [vx, reduceCtorEq, wi, wl, wu, ww, wm, wa]; done) | (simp only [vx, reduceCtorEq, wi, wl, wu, ww, wm, wa]; grind)) (fun c47 => ?_) (fun c47 => ?_)
             ·refine need_wp (⟨_, _, _, rfl⟩) ?_
              refine need_wp (by exact kargs) ?_
              refine need_wp (⟨_, _, _, rfl⟩) ?_
              refine need_wp (⟨_, _, _, rfl⟩) ?_
              refine again_wp rfl ⟨(i + 1), now, (left + 1), (10 * n + ((b.get i) - 48)), true, args, many, arg, out, by first | (simp only [vx, reduceCtorEq, wi, wl, wu, ww, wm, wa]; done) | rfl, ?_⟩ ?_
              ·have hs := num_dig hz0 hz1 hσ hR.n hR.sm (by rintro ⟨h1, h2, h3⟩; simp only [Ks.least] at h3; first | omega | exact absurd h2 (by assumption)) (by omega) (by omega) (by rintro ⟨h1, h2⟩; first | omega | exact absurd h1 (by assumption)) (by simp only [Ks.most]; omega) (by rintro ⟨h1, h2⟩; simp only [Ks.least] at h2; omega); exact ⟨by omega, _, hR.next' hz hz0 hz1 ht hs (by have := hR.now; rw [hσ] at this; simpa only [hσ] using this) (by first | omega | (simp only; omega)) rfl rfl hR.many (fun h => hR.args h) hR.arg hR.out⟩
              ·(try simp only [vx, reduceCtorEq, wi, wl, wu, ww, wm, wa]); omega
             ·refine need_wp (⟨_, _, _, rfl⟩) ?_
              refine need_wp (by exact kargs) ?_
              refine need_wp (⟨_, _, _, rfl⟩) ?_
              refine need_wp (⟨_, _, _, rfl⟩) ?_
              refine again_wp rfl ⟨(i + 1), now, (left + 1), (10 * n + ((b.get i) - 48)), true, args, many, arg, out, by first | (simp only [vx, reduceCtorEq, wi, wl, wu, ww, wm, wa]; done) | rfl, ?_⟩ ?_
              ·have hs := num_dig hz0 hz1 hσ hR.n hR.sm (by rintro ⟨h1, h2, h3⟩; simp only [Ks.least] at h3; first | omega | exact absurd h2 (by assumption)) (by omega) (by omega) (by rintro ⟨h1, h2⟩; first | omega | exact absurd h1 (by assumption)) (by simp only [Ks.most]; omega) (by rintro ⟨h1, h2⟩; simp only [Ks.least] at h2; omega); exact ⟨by omega, _, hR.next' hz hz0 hz1 ht hs (by have := hR.now; rw [hσ] at this; simpa only [hσ] using this) (by first | omega | (simp only; omega)) rfl rfl hR.many (fun h => hR.args h) hR.arg hR.out⟩
              ·(try simp only [vx, reduceCtorEq, wi, wl, wu, ww, wm, wa]); omega
          ·refine brP ((10 * n + ((b.get i) - 48)) > 1000) (by first | (simp only [vx, reduceCtorEq, wi, wl, wu, ww, wm, wa]; done) | (simp only [vx, reduceCtorEq, wi, wl, wu, ww, wm, wa]; grind)) (fun c48 => ?_) (fun c48 => ?_)
           ·have hw : stepZ m (b.get i) = none := by
             refine num_none hz0 hz1 hσ hR.n hR.sm ?_ ?_
             ·rintro ⟨h1, h2, h3⟩; simp only [Ks.least] at h3; first | omega | exact absurd h2 (by assumption)
             ·simp only [Ks.least, Ks.most]; first | exact .inl (by omega) | exact .inr (.inl (by omega)) | exact .inr (.inr (.inl ⟨by assumption, by omega⟩)) | exact .inr (.inr (.inr (.inl (by omega)))) | exact .inr (.inr (.inr (.inr ⟨by omega, by omega⟩)))
            have hW := hR.wt
            have hW2 : wO m.out ≤ 3000 := by simp only [Wt] at hW; omega
            exact t20_5_wp hR.out hW2 (hR.wrong hz hw) _ _ _ _ _ _ _ _ _ _ _ _
           ·refine brP ((10 * n + ((b.get i) - 48)) = 0) (by first | (simp only [vx, reduceCtorEq, wi, wl, wu, ww, wm, wa]; done) | (simp only [vx, reduceCtorEq, wi, wl, wu, ww, wm, wa]; grind)) (fun c49 => ?_) (fun c49 => ?_)
            ·refine need_wp (⟨_, _, _, rfl⟩) ?_
             refine need_wp (by exact kargs) ?_
             refine need_wp (⟨_, _, _, rfl⟩) ?_
             refine need_wp (⟨_, _, _, rfl⟩) ?_
             refine again_wp rfl ⟨(i + 1), now, (left + 1), (10 * n + ((b.get i) - 48)), true, args, many, arg, out, by first | (simp only [vx, reduceCtorEq, wi, wl, wu, ww, wm, wa]; done) | rfl, ?_⟩ ?_
             ·have hs := num_dig hz0 hz1 hσ hR.n hR.sm (by rintro ⟨h1, h2, h3⟩; simp only [Ks.least] at h3; first | omega | exact absurd h2 (by assumption)) (by omega) (by omega) (by rintro ⟨h1, h2⟩; first | omega | exact absurd h1 (by assumption)) (by simp only [Ks.most]; omega) (by rintro ⟨h1, h2⟩; simp only [Ks.least] at h2; omega); exact ⟨by omega, _, hR.next' hz hz0 hz1 ht hs (by have := hR.now; rw [hσ] at this; simpa only [hσ] using this) (by first | omega | (simp only; omega)) rfl rfl hR.many (fun h => hR.args h) hR.arg hR.out⟩
             ·(try simp only [vx, reduceCtorEq, wi, wl, wu, ww, wm, wa]); omega
            ·refine need_wp (⟨_, _, _, rfl⟩) ?_
             refine need_wp (by exact kargs) ?_
             refine need_wp (⟨_, _, _, rfl⟩) ?_
             refine need_wp (⟨_, _, _, rfl⟩) ?_
             refine again_wp rfl ⟨(i + 1), now, (left + 1), (10 * n + ((b.get i) - 48)), true, args, many, arg, out, by first | (simp only [vx, reduceCtorEq, wi, wl, wu, ww, wm, wa]; done) | rfl, ?_⟩ ?_
             ·have hs := num_dig hz0 hz1 hσ hR.n hR.sm (by rintro ⟨h1, h2, h3⟩; simp only [Ks.least] at h3; first | omega | exact absurd h2 (by assumption)) (by omega) (by omega) (by rintro ⟨h1, h2⟩; first | omega | exact absurd h1 (by assumption)) (by simp only [Ks.most]; omega) (by rintro ⟨h1, h2⟩; simp only [Ks.least] at h2; omega); exact ⟨by omega, _, hR.next' hz hz0 hz1 ht hs (by have := hR.now; rw [hσ] at this; simpa only [hσ] using this) (by first | omega | (simp only; omega)) rfl rfl hR.many (fun h => hR.args h) hR.arg hR.out⟩
             ·(try simp only [vx, reduceCtorEq, wi, wl, wu, ww, wm, wa]); omega
      ·refine brP (cloB (.some 40) [(.int .u8 10), (.fn 44)] now = true) (by first | (simp only [vx, reduceCtorEq, wi, wl]; done) | (simp only [vx, reduceCtorEq, wi, wl]; grind)) (fun c50 => ?_) (fun c50 => ?_)
       ·have hσ : m.σ = (.lf .szd) := now_of (τ := (.lf .szd)) hR.now c50
        refine brP ((b.get i) ≠ 10) (by first | (simp only [vx, reduceCtorEq, wi, wl]; done) | (simp only [vx, reduceCtorEq, wi, wl]; grind)) (fun c51 => ?_) (fun c51 => ?_)
        ·have hw : stepZ m (b.get i) = none := by rw [sz_lfs hz0 hz1 hσ, if_neg (by omega)]
         have hW := hR.wt
         have hW2 : wO m.out ≤ 3000 := by simp only [Wt] at hW; omega
         exact t20_5_wp hR.out hW2 (hR.wrong hz hw) _ _ _ _ _ _ _ _ _ _ _ _
        ·refine need_wp (⟨_, _, _, rfl⟩) ?_
         refine brP (0 = n) (by first | (simp only [vx, reduceCtorEq, wi, wl]; done) | (simp only [vx, reduceCtorEq, wi, wl]; grind)) (fun c52 => ?_) (fun c52 => ?_)
         ·refine clo_wp ?_
          intro y8 o8 q8
          refine need_wp (⟨_, _, _, rfl⟩) ?_
          refine need_wp (by exact kargs) ?_
          refine need_wp (⟨_, _, _, rfl⟩) ?_
          refine need_wp (⟨_, _, _, rfl⟩) ?_
          refine again_wp rfl ⟨(i + 1), y8, (left + 1), n, sm, args, many, (Rw.nil : Rw Int), out, by first | (simp only [vx, reduceCtorEq, wi, wl]; done) | (simp only [vx, reduceCtorEq, wi, wl]; rfl) | (simp only [vx, reduceCtorEq, wi, wl, Rw.nil, Rw.atom, List.length_nil, List.map_nil]; done), ?_⟩ ?_
          ·have hs := (sz_lfs hz0 hz1 hσ).trans (if_pos (by omega)); exact ⟨by omega, _, hR.next' hz hz0 hz1 ht hs (by first | (rw [if_pos (by omega)]; exact q8) | (rw [if_neg (by omega)]; exact q8)) (by first | omega | (simp only; omega)) hR.n hR.sm hR.many (fun _ => hR.args (by rw [hσ]; rfl)) ⟨rfl, .inl rfl⟩ hR.out⟩
          ·(try simp only [vx, reduceCtorEq, wi, wl]); omega
         ·refine clo_wp ?_
          intro y9 o9 q9
          refine need_wp (⟨_, _, _, rfl⟩) ?_
          refine need_wp (by exact kargs) ?_
          refine need_wp (⟨_, _, _, rfl⟩) ?_
          refine need_wp (⟨_, _, _, rfl⟩) ?_
          refine again_wp rfl ⟨(i + 1), y9, (left + 1), n, sm, args, many, (Rw.nil : Rw Int), out, by first | (simp only [vx, reduceCtorEq, wi, wl]; done) | (simp only [vx, reduceCtorEq, wi, wl]; rfl) | (simp only [vx, reduceCtorEq, wi, wl, Rw.nil, Rw.atom, List.length_nil, List.map_nil]; done), ?_⟩ ?_
          ·have hs := (sz_lfs hz0 hz1 hσ).trans (if_pos (by omega)); exact ⟨by omega, _, hR.next' hz hz0 hz1 ht hs (by first | (rw [if_pos (by omega)]; exact q9) | (rw [if_neg (by omega)]; exact q9)) (by first | omega | (simp only; omega)) hR.n hR.sm hR.many (fun _ => hR.args (by rw [hσ]; rfl)) ⟨rfl, .inl rfl⟩ hR.out⟩
          ·(try simp only [vx, reduceCtorEq, wi, wl]); omega
       ·refine brP (cloB (.some 48) [] now = true) (by first | (simp only [vx, reduceCtorEq, wi, wl]; done) | (simp only [vx, reduceCtorEq, wi, wl]; grind)) (fun c53 => ?_) (fun c53 => ?_)
        ·have hσ : m.σ = .byt := now_of (τ := .byt) hR.now c53
         have hwt := hR.wt
         have hGl : arg.l.length = m.arg.length := by rw [hR.arg.1, bI_len]
         simp only [Wt, hσ] at hwt
         have kA : arg.ok 1 := hR.arg.2
         refine new_wp eB [(b.get i)] (by first | (simp only [vx, reduceCtorEq, wi, wl, eB]; done) | rfl) ?_
         intro a1 b1
         generalize hx1 : (⟨a1, b1, 1, [(b.get i)]⟩ : Rw Int) = x1
         have lx1 : x1.l = [(b.get i)] := by first | (rw [← hx1]; done) | (rw [← hx1]; rfl)
         have zx1 : x1.z = 1 := by rw [← hx1]
         have kx1 : Rw.ok 1 x1 := .inr zx1
         have nx1 : (x1.l.length : Int) = 1 := by first | (rw [← hx1]; done) | (rw [← hx1]; simp [Rw.nil])
         refine need_wp (rw_row _ _) ?_
         refine need_wp (⟨_, _, _, rfl⟩) ?_
         refine need_wp (by first | exact rw_szz (by assumption) | exact rw_szz (.inr rfl)) ?_
         refine need_wp (by simp only [vx, reduceCtorEq, wi, wl, vlen]; first | omega | (grind)) ?_
         refine need_wp (by simp only [vx, reduceCtorEq, wi, wl, vlen]; first | omega | (grind)) ?_
         refine app_wp eB arg x1 (by first | rfl | simp only [vx, reduceCtorEq, wi, wl]) (by first | rfl | simp only [vx, reduceCtorEq, wi, wl]) ?_
         intro a2 b2
         generalize hx2 : (⟨a2, b2, 1, arg.l ++ x1.l⟩ : Rw Int) = x2
         have lx2 : x2.l = arg.l ++ x1.l := by first | (rw [← hx2]; done) | (rw [← hx2]; rfl)
         have zx2 : x2.z = 1 := by rw [← hx2]
         have kx2 : Rw.ok 1 x2 := .inr zx2
         have nx2 : (x2.l.length : Int) = (arg.l.length : Int) + (x1.l.length : Int) := by first | (rw [← hx2]; done) | (rw [← hx2]; simp [Rw.nil])
         refine need_wp (⟨_, _, _, rfl⟩) ?_
         refine brP ((x2.l.length : Int) = n) (by first | (simp only [vx, reduceCtorEq, wi, wl]; done) | (simp only [vx, reduceCtorEq, wi, wl]; grind)) (fun c54 => ?_) (fun c54 => ?_)
         ·refine clo_wp ?_
          intro y10 o10 q10
          refine need_wp (⟨_, _, _, rfl⟩) ?_
          refine need_wp (by exact kargs) ?_
          refine need_wp (⟨_, _, _, rfl⟩) ?_
          refine need_wp (⟨_, _, _, rfl⟩) ?_
          refine again_wp rfl ⟨(i + 1), y10, (left + 1), n, sm, args, many, x2, out, by first | (simp only [vx, reduceCtorEq, wi, wl]; done) | rfl, ?_⟩ ?_
          ·have hs := sz_byt (z := b.get i) hσ; exact ⟨by omega, _, hR.next' hz hz0 hz1 ht hs (by first | (rw [if_pos (by rw [List.length_append, List.length_singleton]; omega)]; exact q10) | (rw [if_neg (by rw [List.length_append, List.length_singleton]; omega)]; exact q10)) (by first | omega | (simp only; omega)) hR.n hR.sm hR.many (fun _ => hR.args (by rw [hσ]; rfl)) ⟨by rw [lx2, hR.arg.1, lx1, bI_app]; simp only [bI, List.map_cons, List.map_nil, u8_n hz0 hz1], kx2⟩ hR.out⟩
          ·(try simp only [vx, reduceCtorEq, wi, wl]); omega
         ·refine clo_wp ?_
          intro y11 o11 q11
          refine need_wp (⟨_, _, _, rfl⟩) ?_
          refine need_wp (by exact kargs) ?_
          refine need_wp (⟨_, _, _, rfl⟩) ?_
          refine need_wp (⟨_, _, _, rfl⟩) ?_
          refine again_wp rfl ⟨(i + 1), y11, (left + 1), n, sm, args, many, x2, out, by first | (simp only [vx, reduceCtorEq, wi, wl]; done) | rfl, ?_⟩ ?_
          ·have hs := sz_byt (z := b.get i) hσ; exact ⟨by omega, _, hR.next' hz hz0 hz1 ht hs (by first | (rw [if_pos (by rw [List.length_append, List.length_singleton]; omega)]; exact q11) | (rw [if_neg (by rw [List.length_append, List.length_singleton]; omega)]; exact q11)) (by first | omega | (simp only; omega)) hR.n hR.sm hR.many (fun _ => hR.args (by rw [hσ]; rfl)) ⟨by rw [lx2, hR.arg.1, lx1, bI_app]; simp only [bI, List.map_cons, List.map_nil, u8_n hz0 hz1], kx2⟩ hR.out⟩
          ·(try simp only [vx, reduceCtorEq, wi, wl]); omega
        ·refine brP (cloB (.some 40) [(.int .u8 13), (.fn 46)] now = true) (by first | (simp only [vx, reduceCtorEq, wi, wl]; done) | (simp only [vx, reduceCtorEq, wi, wl]; grind)) (fun c55 => ?_) (fun c55 => ?_)
         ·have hσ : m.σ = .cr := now_of (τ := .cr) hR.now c55
          refine brP ((b.get i) ≠ 13) (by first | (simp only [vx, reduceCtorEq, wi, wl]; done) | (simp only [vx, reduceCtorEq, wi, wl]; grind)) (fun c56 => ?_) (fun c56 => ?_)
          ·have hw : stepZ m (b.get i) = none := by rw [sz_cr hz0 hz1 hσ, if_neg (by omega)]
           have hW := hR.wt
           have hW2 : wO m.out ≤ 3000 := by simp only [Wt] at hW; omega
           exact t20_5_wp hR.out hW2 (hR.wrong hz hw) _ _ _ _ _ _ _ _ _ _ _ _
          ·refine clo_wp ?_
           intro y12 o12 q12
           refine need_wp (⟨_, _, _, rfl⟩) ?_
           refine need_wp (by exact kargs) ?_
           refine need_wp (⟨_, _, _, rfl⟩) ?_
           refine need_wp (⟨_, _, _, rfl⟩) ?_
           refine again_wp rfl ⟨(i + 1), y12, (left + 1), n, sm, args, many, arg, out, by first | (simp only [vx, reduceCtorEq, wi, wl]; done) | rfl, ?_⟩ ?_
           ·have hs := (sz_cr hz0 hz1 hσ).trans (if_pos (by omega)); exact ⟨by omega, _, hR.next' hz hz0 hz1 ht hs (q12) (by first | omega | (simp only; omega)) hR.n hR.sm hR.many (fun _ => hR.args (by rw [hσ]; rfl)) hR.arg hR.out⟩
           ·(try simp only [vx, reduceCtorEq, wi, wl]); omega
         ·refine brP (cloB (.some 40) [(.int .u8 10), (.fn 47)] now = true) (by first | (simp only [vx, reduceCtorEq, wi, wl]; done) | (simp only [vx, reduceCtorEq, wi, wl]; grind)) (fun c57 => ?_) (fun c57 => ?_)
          ·have hσ : m.σ = .lf2 := now_of (τ := .lf2) hR.now c57
           obtain ⟨rA, eA, hA1, hA2⟩ := hR.args (by rw [hσ]; rfl)
           subst eA
           have hwt := hR.wt
           have hAl := wS_len m.args
           have hAl2 : rA.l.length = m.args.length := by rw [← hA1, List.length_map]
           have hBs : isB arg.l := by rw [hR.arg.1]; exact isB_bI _
           have kA : arg.ok 1 := hR.arg.2
           simp only [Wt, hσ] at hwt
           have hOl := wO_len m.out
           have hOl2 : out.l.length = m.out.length := by rw [← hR.out.1]; simp [vv]
           have kO : out.ok 1 := hR.out.2.1
           refine brP ((b.get i) ≠ 10) (by first | (simp only [vx, reduceCtorEq, wi, wl]; done) | (simp only [vx, reduceCtorEq, wi, wl]; grind)) (fun c58 => ?_) (fun c58 => ?_)
           ·have hw : stepZ m (b.get i) = none := by rw [sz_lf2 hz0 hz1 hσ, if_neg (by omega)]
            have hW := hR.wt
            have hW2 : wO m.out ≤ 3000 := by simp only [Wt] at hW; omega
            exact t20_5_wp hR.out hW2 (hR.wrong hz hw) _ _ _ _ _ _ _ _ _ _ _ _
           ·refine need_wp (⟨_, _, _, rfl⟩) ?_
            refine need_wp (by simp only [vx, reduceCtorEq, wi, wl]; exact need_bytes (by assumption) (by assumption)) ?_
            refine new_wp eS [(ofBytes arg.l)] (by first | (simp only [vx, reduceCtorEq, wi, wl, eS]; done) | rfl) ?_
            intro a3 b3
            generalize hx3 : (⟨a3, b3, 1, [(ofBytes arg.l)]⟩ : Rw ByteArray) = x3
            have lx3 : x3.l = [(ofBytes arg.l)] := by first | (rw [← hx3]; done) | (rw [← hx3]; rfl)
            have zx3 : x3.z = 1 := by rw [← hx3]
            have kx3 : Rw.ok 1 x3 := .inr zx3
            have nx3 : (x3.l.length : Int) = 1 := by first | (rw [← hx3]; done) | (rw [← hx3]; simp [Rw.nil])
            refine need_wp (rw_row _ _) ?_
            refine need_wp (⟨_, _, _, rfl⟩) ?_
            refine need_wp (by first | exact rw_szz (by assumption) | exact rw_szz (.inr rfl)) ?_
            refine need_wp (by simp only [vx, reduceCtorEq, wi, wl, vlen]; first | omega | (grind)) ?_
            refine need_wp (by simp only [vx, reduceCtorEq, wi, wl, vlen]; first | omega | (grind)) ?_
            refine app_wp eS rA x3 (by first | rfl | simp only [vx, reduceCtorEq, wi, wl]) (by first | rfl | simp only [vx, reduceCtorEq, wi, wl]) ?_
            intro a4 b4
            generalize hx4 : (⟨a4, b4, 1, rA.l ++ x3.l⟩ : Rw ByteArray) = x4
            have lx4 : x4.l = rA.l ++ x3.l := by first | (rw [← hx4]; done) | (rw [← hx4]; rfl)
            have zx4 : x4.z = 1 := by rw [← hx4]
            have kx4 : Rw.ok 1 x4 := .inr zx4
            have nx4 : (x4.l.length : Int) = (rA.l.length : Int) + (x3.l.length : Int) := by first | (rw [← hx4]; done) | (rw [← hx4]; simp [Rw.nil])
            refine need_wp (⟨_, _, _, rfl⟩) ?_
            refine brP ((x4.l.length : Int) < many) (by first | (simp only [vx, reduceCtorEq, wi, wl]; done) | (simp only [vx, reduceCtorEq, wi, wl]; grind)) (fun c59 => ?_) (fun c59 => ?_)
            ·refine clo_wp ?_
             intro y13 o13 q13
             refine need_wp (⟨_, _, _, rfl⟩) ?_
             refine need_wp (⟨_, _, _, rfl⟩) ?_
             refine need_wp (⟨_, _, _, rfl⟩) ?_
             refine need_wp (⟨_, _, _, rfl⟩) ?_
             refine again_wp rfl ⟨(i + 1), y13, (left + 1), n, sm, (Rw.atom eS x4), many, arg, out, by first | (simp only [vx, reduceCtorEq, wi, wl]; done) | rfl, ?_⟩ ?_
             ·have hs := ((sz_lf2 hz0 hz1 hσ).trans (if_pos (by omega))).trans (if_pos (by rw [List.length_append, List.length_singleton]; have := hR.many; omega)); exact ⟨by omega, _, hR.next' hz hz0 hz1 ht hs q13 (by first | omega | (simp only; omega)) hR.n hR.sm hR.many (fun _ => ⟨x4, rfl, by rw [lx4, List.map_append, hA1, lx3]; simp [hR.arg.1, ls_ofBytes], kx4⟩) hR.arg hR.out⟩
             ·(try simp only [vx, reduceCtorEq, wi, wl]); omega
            ·refine new_wp eL [x4] (by first | (simp only [vx, reduceCtorEq, wi, wl, eL]; done) | rfl) ?_
             intro a5 b5
             generalize hx5 : (⟨a5, b5, 1, [x4]⟩ : Rw (Rw ByteArray)) = x5
             have lx5 : x5.l = [x4] := by first | (rw [← hx5]; done) | (rw [← hx5]; rfl)
             have zx5 : x5.z = 1 := by rw [← hx5]
             have kx5 : Rw.ok 1 x5 := .inr zx5
             have nx5 : (x5.l.length : Int) = 1 := by first | (rw [← hx5]; done) | (rw [← hx5]; simp [Rw.nil])
             refine need_wp (⟨_, _, rfl⟩) ?_
             refine need_wp (⟨_, _, _, rfl⟩) ?_
             refine need_wp (by first | exact rw_szz (by assumption) | exact rw_szz (.inr rfl)) ?_
             refine need_wp (by simp only [vx, reduceCtorEq, wi, wl, vlen]; first | omega | (grind)) ?_
             refine need_wp (by simp only [vx, reduceCtorEq, wi, wl, vlen]; first | omega | (grind)) ?_
             refine app_wp eL (Rw.nil : Rw (Rw ByteArray)) x5 (by first | rfl | simp only [vx, reduceCtorEq, wi, wl]) (by first | rfl | simp only [vx, reduceCtorEq, wi, wl]) ?_
             intro a6 b6
             generalize hx6 : (⟨a6, b6, 1, (Rw.nil : Rw (Rw ByteArray)).l ++ x5.l⟩ : Rw (Rw ByteArray)) = x6
             have lx6 : x6.l = x5.l := by first | (rw [← hx6]; done) | (rw [← hx6]; rfl) | (rw [← hx6]; simp [Rw.nil])
             have zx6 : x6.z = 1 := by rw [← hx6]
             have kx6 : Rw.ok 1 x6 := .inr zx6
             have nx6 : (x6.l.length : Int) = 0 + (x5.l.length : Int) := by first | (rw [← hx6]; done) | (rw [← hx6]; simp [Rw.nil])
             refine clo_wp ?_
             intro y14 o14 q14
             refine need_wp (⟨_, _, _, rfl⟩) ?_
             refine brP (0 < (x6.l.length : Int)) (by first | (simp only [vx, reduceCtorEq, wi, wl]; done) | (simp only [vx, reduceCtorEq, wi, wl]; grind)) (fun c60 => ?_) (fun c60 => ?_)
             ·have hg := cell_L x6 (i := 0) (by omega) c60
              have hg6 : x6.get 0 = x4 := by unfold Rw.get; rw [lx6, lx5]; rfl
              refine need_wp (⟨_, _, _, rfl⟩) ?_
              refine need_wp (rw_row _ _) ?_
              refine need_wp (⟨_, _, _, rfl⟩) ?_
              refine need_wp (rw_row _ _) ?_
              refine need_wp (rw_sz' zx6) ?_
              refine need_wp (by simp only [vx, reduceCtorEq, wi, wl, hg]; first | exact ⟨_, _, _, rfl⟩ | exact kind_Rl (by omega) (by omega)) ?_
              refine new_wp eL [(x6.get 0)] (by first | (simp only [vx, reduceCtorEq, wi, wl, hg, eL]; done) | rfl) ?_
              intro a7 b7
              generalize hx7 : (⟨a7, b7, 1, [(x6.get 0)]⟩ : Rw (Rw ByteArray)) = x7
              have lx7 : x7.l = [(x6.get 0)] := by first | (rw [← hx7]; done) | (rw [← hx7]; rfl)
              have zx7 : x7.z = 1 := by rw [← hx7]
              have kx7 : Rw.ok 1 x7 := .inr zx7
              have nx7 : (x7.l.length : Int) = 1 := by first | (rw [← hx7]; done) | (rw [← hx7]; simp [Rw.nil])
              refine need_wp (rw_row _ _) ?_
              refine need_wp (⟨_, _, _, rfl⟩) ?_
              refine need_wp (by first | exact rw_szz (by assumption) | exact rw_szz (.inr rfl)) ?_
              refine need_wp (by simp only [vx, reduceCtorEq, wi, wl, hg, vlen]; first | omega | (grind)) ?_
              refine need_wp (by simp only [vx, reduceCtorEq, wi, wl, hg, vlen]; first | omega | (grind)) ?_
              refine app_wp eL out x7 (by first | rfl | simp only [vx, reduceCtorEq, wi, wl, hg]) (by first | rfl | simp only [vx, reduceCtorEq, wi, wl, hg]) ?_
              intro a8 b8
              generalize hx8 : (⟨a8, b8, 1, out.l ++ x7.l⟩ : Rw (Rw ByteArray)) = x8
              have lx8 : x8.l = out.l ++ x7.l := by first | (rw [← hx8]; done) | (rw [← hx8]; rfl)
              have zx8 : x8.z = 1 := by rw [← hx8]
              have kx8 : Rw.ok 1 x8 := .inr zx8
              have nx8 : (x8.l.length : Int) = (out.l.length : Int) + (x7.l.length : Int) := by first | (rw [← hx8]; done) | (rw [← hx8]; simp [Rw.nil])
              refine brP (1 < (x6.l.length : Int)) (by first | (simp only [vx, reduceCtorEq, wi, wl, hg]; done) | (simp only [vx, reduceCtorEq, wi, wl, hg]; grind)) (fun c61 => ?_) (fun c61 => ?_)
              ·exfalso; omega
              ·refine need_wp (by first | exact ⟨_, _, _, rfl⟩ | (simp only [vx, reduceCtorEq, wi, wl, hg]; exact ⟨_, _, _, rfl⟩)) ?_
               refine need_wp (⟨_, _, _, rfl⟩) ?_
               refine need_wp (⟨_, _, _, rfl⟩) ?_
               refine again_wp rfl ⟨(i + 1), y14, 0, n, sm, ((Rw.atom eS x4).1, D.leaf), many, arg, x8, by first | (simp only [vx, reduceCtorEq, wi, wl, hg]; done) | rfl, ?_⟩ ?_
               ·have hs := ((sz_lf2 hz0 hz1 hσ).trans (if_pos (by omega))).trans (if_neg (by rw [List.length_append, List.length_singleton]; have := hR.many; omega)); exact ⟨by omega, _, hR.next' hz hz0 hz1 ht hs q14 (by first | omega | (simp only; omega)) hR.n hR.sm hR.many (fun h => by simp [hasA] at h) hR.arg ⟨by rw [vv, lx8, lx7, List.map_append, List.map_append, hg6, ← hR.out.1]; simp [vv, lx4, lx3, hA1, hR.arg.1, ls_ofBytes], kx8, by intro y hy; rw [lx8, lx7, hg6] at hy; rcases List.mem_append.1 hy with h | h; exact hR.out.2.2 y h; rw [List.mem_singleton.1 h]; exact kx4⟩⟩
               ·(try simp only [vx, reduceCtorEq, wi, wl, hg]); omega
             ·exfalso; omega
          ·exfalso; first | omega | (have hq := hR.now; cases hσ : m.σ <;> (try (rename_i k; cases k)) <;> rw [hσ] at hq <;> simp only [Now] at hq <;> contradiction)
 ·have hD := hR.done (by rw [bS_len]; omega)
  have hO := hR.out
  have hW := hR.wt
  have hW2 : wO m.out ≤ 3000 := by simp only [Wt] at hW; omega
  have hcl : clen (vv out) ≤ 26 * wO ((vv out).map (List.map ls)) := clen_le (by rw [hO.1]; omega)
  have hO1 := hO.1
  have hO3 : wO ((vv out).map (List.map ls)) ≤ 3000 := by rw [hO.1]; exact hW2
  have kO2 : out.ok 1 := hO.2.1
  have hOn : out.l.length ≤ 3000 := by have h1 := wO_len ((vv out).map (List.map ls)); rw [List.length_map, vv, List.length_map] at h1; exact Nat.le_trans h1 hO3
  refine pop_wp ?_
  refine need_wp (⟨_, _, _, rfl⟩) ?_
  refine loop_wp (fun bs0 => ∃ (j : Int) (s : Int), bs0 = [aI j, aI s] ∧ (0 ≤ j ∧ j ≤ (out.l.length : Int) ∧ s = clen ((vv out).take j.toNat))) (fun bs0 => ((out.l.length : Int) - vi (bs0.getD 0 atom0).1).toNat) ?_ ?_
  ·refine ⟨0, 0, by first | (simp only [vx, reduceCtorEq]; done) | (simp only [vx, reduceCtorEq]; rfl) | simp only [vx, reduceCtorEq, Rw.atom, Rw.nil, List.length_nil, List.map_nil], ?_⟩
   exact ⟨by omega, by omega, rfl⟩
  rintro _ _ ⟨j, s, rfl, ⟨j0, j1, hs⟩⟩
  refine brP (j < (out.l.length : Int)) (by first | (simp only [vx, reduceCtorEq]; done) | (simp only [vx, reduceCtorEq]; grind)) (fun c62 => ?_) (fun c62 => ?_)
  ·have hc := cell_L out (i := j) j0 c62
   have wj : IntKind.i64.wrap (j + 1) = j + 1 := wrap_id _ (by omega) (by omega)
   have hok := hO.2.2 _ (get_memL j0 c62)
   have hls : lenS (out.get j).l ≤ 100000 := by have := wO_mem (vv_mem (get_memL j0 c62)); omega
   have hvt := vv_take j0 c62
   refine need_wp (⟨_, _, _, rfl⟩) ?_
   refine need_wp (rw_row _ _) ?_
   refine need_wp (by simp only [vx, reduceCtorEq, hc, wj, vlen]; first | omega | (grind)) ?_
   refine need_wp (⟨_, _, _, rfl⟩) ?_
   refine need_wp (rw_row _ _) ?_
   refine need_wp (by first | exact rw_sz' rfl | exact rw_szn (by assumption) (.inr (by omega)) | (simp only [vx, reduceCtorEq, hc, wj]; exact rw_szn (by assumption) (.inr (by omega))) | exact rw_szn (by simp [Rw.ok]) (.inr (by omega))) ?_
   refine need_wp (by simp only [vx, reduceCtorEq, hc, wj]; first | exact ⟨_, _, _, rfl⟩ | exact kind_Rl (by omega) (by omega)) ?_
   refine call_rel ((out.get j)) rfl (by first | (simp only [vx, reduceCtorEq, hc, wj]; done) | (simp only [vx, reduceCtorEq, hc, wj]; rfl)) (⟨hok, hls⟩) ?_
   rintro z11 ⟨ez11, oz11⟩
   try dsimp only at ez11 oz11
   have hzl : (z11.l.length : Int) = ((cmdB (out.get j).l).size : Int) := by rw [ez11, bi_len]
   have hct := clen_take (vv out) (j + 1).toNat
   rw [hvt, clen_app] at hct
   have hcp := clen_pos ((vv out).take j.toNat)
   have wz : IntKind.i64.wrap (s + (z11.l.length : Int)) = s + (z11.l.length : Int) := wrap_id _ (by omega) (by omega)
   refine need_wp (⟨_, _, _, rfl⟩) ?_
   refine again_wp rfl ⟨(j + 1), (s + (z11.l.length : Int)), by simp only [vx, reduceCtorEq, hc, wj, wz], ?_⟩ ?_
   ·exact ⟨by omega, by omega, by rw [hvt, clen_app, ← hs, hzl]⟩
   ·(try simp only [vx, reduceCtorEq, hc, wj, wz]); omega
  ·have hj : j = out.l.length := by omega
   refine pop_wp ?_
   refine need_wp (⟨_, _, _, rfl⟩) ?_
   refine ret_wp ?_
   refine ⟨(out, s, 0), by first | (simp only [vx, reduceCtorEq]; done) | (simp only [vx, reduceCtorEq]; rfl), ?_⟩
   try dsimp only
   exact ⟨hO.2, by rw [hO.1, hD], by rw [hs, hj, Int.toNat_natCast, show out.l.length = (vv out).length by simp [vv], List.take_length], by rw [hD]; rfl⟩
end Go.Proofs.YtamjocnlhhhijaaK
