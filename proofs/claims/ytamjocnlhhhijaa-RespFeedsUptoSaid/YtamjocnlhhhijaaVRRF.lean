import Derived.Test.YtamjocnlhhhijaaVRRx
import Derived.Test.YtamjocnlhhhijaaVRRD
import Derived.Test.YtamjocnlhhhijaaVRRK0
set_option linter.unusedSimpArgs false
set_option linter.unusedVariables false
set_option linter.unnecessarySimpa false
namespace Go.Proofs.YtamjocnlhhhijaaK
open Go Go.Proofs.YtamjocnlhhhijaaV Go.Proofs Go.Proofs.YtamjocnlhhhijaaK Go.Proofs.YtamjocnlhhhijaaK Go.Proofs.YtamjocnlhhhijaaS
def kKnown (sg : Sig) : Sig × Con := (sg, mkFun (fun _ : Unit => ([] : List Atom)) (fun _ => True) (fun _ => [aB true]))
theorem t10_5_wp {out : Rw (Rw ByteArray)} (hO : (vv out).map (List.map ls) = [[[71, 69, 84], [97]]] ∧ okL out) (y0 y1 y2 y3 y4 y5 y6 y7 y8 y9 y10 : Atom) (L : List (List Atom → Prop)) :
  (t10_5).wp (tab [kSameS sg19]) (fun outs => outs = [aB true]) [y0, y1, y2, y3, y4, y5, y6, y7, y8, y9, y10, Rw.atom eL out] L := by
 unfold t10_5
 obtain ⟨hg0, hg1⟩ := known_get hO.1
 have kO2 : out.ok 1 := hO.2.1
 refine pop_wp ?_
 refine need_wp (⟨_, _, _, rfl⟩) ?_
 refine br_wp (fun c1 => ?_) (fun c1 => ?_)
 ·replace c1 : (out.l.length : Int) = 1 := by first | simpa only [vx, reduceCtorEq] using c1 | (simp only [vx, reduceCtorEq] at c1; grind)
  have hc := cell_L out (i := 0) (by omega) (by omega)
  refine need_wp (⟨_, _, _, rfl⟩) ?_
  refine need_wp (rw_row _ _) ?_
  refine need_wp (by simp only [vx, reduceCtorEq, hc, vlen]; first | omega | (grind)) ?_
  refine need_wp (⟨_, _, _, rfl⟩) ?_
  refine need_wp (rw_row _ _) ?_
  refine need_wp (by first | exact rw_sz' rfl | exact rw_szn (by assumption) (.inr (by omega)) | (simp only [vx, reduceCtorEq, hc]; exact rw_szn (by assumption) (.inr (by omega))) | exact rw_szn (by simp [Rw.ok]) (.inr (by omega))) ?_
  refine need_wp (by simp only [vx, reduceCtorEq, hc]; first | exact ⟨_, _, _, rfl⟩ | exact kind_Rl (by omega) (by omega)) ?_
  refine new_wp eS [(⟨#[71, 69, 84]⟩ : ByteArray), (⟨#[97]⟩ : ByteArray)] (by first | (simp only [vx, reduceCtorEq, hc, eS]; done) | rfl) ?_
  intro a1 b1
  generalize hx1 : (⟨a1, b1, 1, [(⟨#[71, 69, 84]⟩ : ByteArray), (⟨#[97]⟩ : ByteArray)]⟩ : Rw ByteArray) = x1
  have lx1 : x1.l = [(⟨#[71, 69, 84]⟩ : ByteArray), (⟨#[97]⟩ : ByteArray)] := by first | (rw [← hx1]; done) | (rw [← hx1]; rfl)
  have zx1 : x1.z = 1 := by rw [← hx1]
  have kx1 : Rw.ok 1 x1 := .inr zx1
  have nx1 : (x1.l.length : Int) = 2 := by first | (rw [← hx1]; done) | (rw [← hx1]; simp [Rw.nil])
  refine call_fun (((out.get 0), x1)) rfl (by first | (simp only [vx, reduceCtorEq, hc]; done) | (simp only [vx, reduceCtorEq, hc]; rfl)) (⟨hO.2.2 _ (get_memL (by omega) (by omega)), kx1, by dsimp only; rw [hg1]; decide⟩) ?_
  refine br_wp (fun c2 => ?_) (fun c2 => ?_)
  ·replace c2 : (out.get 0).l = x1.l := by first | simpa only [vx, reduceCtorEq, hc] using c2 | (simp only [vx, reduceCtorEq, hc] at c2; grind)
   refine ret_wp ?_
   try dsimp only
   simp only [vx, reduceCtorEq, hc]
  ·replace c2 : ¬((out.get 0).l = x1.l) := by first | simpa only [vx, reduceCtorEq, hc] using c2 | (simp only [vx, reduceCtorEq, hc] at c2; grind)
   exfalso; exact c2 (by rw [hg1, lx1])
 ·replace c1 : ¬((out.l.length : Int) = 1) := by first | simpa only [vx, reduceCtorEq] using c1 | (simp only [vx, reduceCtorEq] at c1; grind)
  exfalso; omega
set_option maxHeartbeats 2000000 in
theorem h10 : holds Try.prog (kKnown sg10) := by
 refine fn_holdsC (l := [kSameS sg19]) ⟨h19, trivial⟩ (inl := [in10_11, in10_27, in10_13, in10_28, in10_37, in10_32, in10_40, in10_33, in10_34, in10_35, in10_41, in10_36, in10_42, in10_43, in10_44, in10_45, in10_46, in10_47, in10_48, in10_17]) (by refine ⟨⟨Try.func11, by kernel_rfl, by kernel_rfl, by kernel_rfl⟩, ⟨Try.func27, by kernel_rfl, by kernel_rfl, by kernel_rfl⟩, ⟨Try.func13, by kernel_rfl, by kernel_rfl, by kernel_rfl⟩, ⟨Try.func28, by kernel_rfl, by kernel_rfl, by kernel_rfl⟩, ⟨Try.func37, by kernel_rfl, by kernel_rfl, by kernel_rfl⟩, ⟨Try.func32, by kernel_rfl, by kernel_rfl, by kernel_rfl⟩, ⟨Try.func40, by kernel_rfl, by kernel_rfl, by kernel_rfl⟩, ⟨Try.func33, by kernel_rfl, by kernel_rfl, by kernel_rfl⟩, ⟨Try.func34, by kernel_rfl, by kernel_rfl, by kernel_rfl⟩, ⟨Try.func35, by kernel_rfl, by kernel_rfl, by kernel_rfl⟩, ⟨Try.func41, by kernel_rfl, by kernel_rfl, by kernel_rfl⟩, ⟨Try.func36, by kernel_rfl, by kernel_rfl, by kernel_rfl⟩, ⟨Try.func42, by kernel_rfl, by kernel_rfl, by kernel_rfl⟩, ⟨Try.func43, by kernel_rfl, by kernel_rfl, by kernel_rfl⟩, ⟨Try.func44, by kernel_rfl, by kernel_rfl, by kernel_rfl⟩, ⟨Try.func45, by kernel_rfl, by kernel_rfl, by kernel_rfl⟩, ⟨Try.func46, by kernel_rfl, by kernel_rfl, by kernel_rfl⟩, ⟨Try.func47, by kernel_rfl, by kernel_rfl, by kernel_rfl⟩, ⟨Try.func48, by kernel_rfl, by kernel_rfl, by kernel_rfl⟩, ⟨Try.func17, by kernel_rfl, by kernel_rfl, by kernel_rfl⟩, trivial⟩) hP [] clos 8 rs10 (inj_of (fun l : List Atom => (() : Unit)) (fun _ => rfl)) Try.func10 (by kernel_rfl) (c := code Try.f10) (by kernel_rfl) (an := an10) (by kernel_rfl) (pk := pk10) rfl (t := t10) (by kernel_rfl) ?_
 rintro _ _ _
 refine ⟨by simp [pk10, KindsOk, RK.ok, Rw.atom, Sl.atom], ?_⟩
 unfold t10
 refine clo_wp ?_
 intro y1 o1 q1
 refine new_wpS eB [42, 50, 13, 10, 36, 51, 13, 10, 71, 69, 84, 13, 10, 36, 49, 13, 10, 97, 13, 10, 42, 48] (by first | (simp only [vx, reduceCtorEq, eB]; done) | rfl) ?_
 intro a1 b1
 generalize hx1 : (⟨some ⟨a1, 0, none⟩, b1, 1, [42, 50, 13, 10, 36, 51, 13, 10, 71, 69, 84, 13, 10, 36, 49, 13, 10, 97, 13, 10, 42, 48]⟩ : Rw Int) = x1
 have lx1 : x1.l = [42, 50, 13, 10, 36, 51, 13, 10, 71, 69, 84, 13, 10, 36, 49, 13, 10, 97, 13, 10, 42, 48] := by first | (rw [← hx1]; done) | (rw [← hx1]; rfl)
 have zx1 : x1.z = 1 := by rw [← hx1]
 have kx1 : Rw.ok 1 x1 := .inr zx1
 have nx1 : (x1.l.length : Int) = 22 := by first | (rw [← hx1]; done) | (rw [← hx1]; simp [Rw.nil])
 have ax1 : x1.a = some ⟨a1, 0, none⟩ := by rw [← hx1]
 have hbS : bS x1.l = [42, 50, 13, 10, 36, 51, 13, 10, 71, 69, 84, 13, 10, 36, 49, 13, 10, 97, 13, 10, 42, 48] := by rw [lx1]; rfl
 have hB : isB x1.l := by rw [lx1]; unfold isB; decide
 have hl : x1.l.length ≤ 1500 := by rw [lx1]; decide
 refine need_wp (rw_row _ _) ?_
 refine need_wp (⟨_, _, _, rfl⟩) ?_
 refine need_wp (by simp only [vx, reduceCtorEq, ax1]; first | rfl | exact not_false | simp) ?_
 refine clo_wp ?_
 intro y2 o2 q2
 refine need_wp (⟨_, _, _, rfl⟩) ?_
 refine need_wp (⟨_, _, _, rfl⟩) ?_
 refine need_wp (⟨_, _, _, rfl⟩) ?_
 refine need_wp (⟨_, _, _, rfl⟩) ?_
 refine loop_wp (fun bs0 => ∃ (i : Int) (now : Atom) (left : Int) (n : Int) (sm : Bool) (args : Atom) (many : Int) (arg : Rw Int) (out : Rw (Rw ByteArray)), bs0 = [aI i, now, aI left, aI n, aB sm, args, aI many, Rw.atom eB arg, Rw.atom eL out] ∧ (0 ≤ i ∧ ∃ m : Mc, RI (bS x1.l) i.toNat now left n sm args many arg out m)) (fun bs0 => ((x1.l.length : Int) - vi (bs0.getD 0 atom0).1).toNat) ?_ ?_
 ·refine ⟨0, y1, 0, 0, false, (Rw.atom eS (Rw.nil : Rw ByteArray)), 0, (Rw.nil : Rw Int), (Rw.nil : Rw (Rw ByteArray)), by first | (simp only [vx, reduceCtorEq]; done) | (simp only [vx, reduceCtorEq]; rfl) | (simp only [vx, reduceCtorEq, Rw.atom, Rw.nil, List.length_nil, List.map_nil]; done) | (simp only [vx, reduceCtorEq, Rw.atom, Rw.nil, List.length_nil, List.map_nil]; rfl), ?_⟩
  exact ⟨by omega, _, RI.start q1⟩
 rintro _ hko ⟨i, now, left, n, sm, args, many, arg, out, rfl, ⟨i0, m, hR⟩⟩
 have kargs : ∃ a n c, args.1 = Value.slice a n c := hko.2.2.2.2.2.1
 have hkl := hR.kl
 rw [bS_len] at hkl
 refine brP (i < (x1.l.length : Int)) (by first | (simp only [vx, reduceCtorEq]; done) | (simp only [vx, reduceCtorEq]; grind)) (fun c1 => ?_) (fun c1 => ?_)
 ·obtain ⟨hz0, hz1⟩ := hB (x1.get i) (get_memL i0 c1)
  have hz := bS_get i0 c1
  have hl1 := hR.left
  have hl2 := hR.lft
  have hps := hR.pos
  have hn1 := hR.n
  have wi : IntKind.i64.wrap (i + 1) = i + 1 := wrap_id _ (by omega) (by omega)
  have wl : IntKind.i64.wrap (left + 1) = left + 1 := wrap_id _ (by omega) (by omega)
  have ht : (i + 1).toNat = i.toNat + 1 := by omega
  refine need_wp (⟨_, _, _, rfl⟩) ?_
  refine need_wp (rw_row _ _) ?_
  refine need_wp (by simp only [vx, reduceCtorEq, wi, wl, vlen]; first | omega | (grind)) ?_
  refine need_wp (⟨_, _, _, rfl⟩) ?_
  refine need_wp (rw_row _ _) ?_
  refine need_wp (rw_sz' zx1) ?_
  refine need_wp (by simp only [vx, reduceCtorEq, wi, wl]; exact kind_Rb (by omega) (by omega)) ?_
  refine brP (cloB (.some 40) [(.int .u8 42), (.fn 33)] now = true) (by first | (simp only [vx, reduceCtorEq, wi, wl]; done) | (simp only [vx, reduceCtorEq, wi, wl]; grind)) (fun c2 => ?_) (fun c2 => ?_)
  ·have hσ : m.σ = .star := now_of (τ := .star) hR.now c2
   refine brP ((x1.get i) ≠ 42) (by first | (simp only [vx, reduceCtorEq, wi, wl]; done) | (simp only [vx, reduceCtorEq, wi, wl]; grind)) (fun c3 => ?_) (fun c3 => ?_)
   ·have hw : stepZ m (x1.get i) = none := by rw [sz_star hz0 hz1 hσ, if_neg (by omega)]
    have hwr := hR.wrong hz hw
    rw [hbS, known_res] at hwr
    have hwo : m.out = [[[71, 69, 84], [97]]] := (congrArg (fun x => x.1) hwr).symm
    exact t10_5_wp ⟨by rw [hR.out.1, hwo], hR.out.2⟩ _ _ _ _ _ _ _ _ _ _ _ _
   ·refine clo_wp ?_
    intro y3 o3 q3
    refine need_wp (⟨_, _, _, rfl⟩) ?_
    refine need_wp (by exact kargs) ?_
    refine need_wp (⟨_, _, _, rfl⟩) ?_
    refine need_wp (⟨_, _, _, rfl⟩) ?_
    refine again_wp rfl ⟨(i + 1), y3, (left + 1), 0, false, args, many, arg, out, by first | (simp only [vx, reduceCtorEq, wi, wl]; done) | rfl, ?_⟩ ?_
    ·have hs := (sz_star hz0 hz1 hσ).trans (if_pos (by omega)); exact ⟨by omega, _, hR.next' hz hz0 hz1 ht hs (q3) (by first | omega | (simp only; omega)) rfl rfl hR.many (fun h => by simp [hasA] at h) hR.arg hR.out⟩
    ·(try simp only [vx, reduceCtorEq, wi, wl]); omega
  ·refine brP (cloB (.some 41) [(.int .i64 1), (.fn 36), (.int .i64 50), .self] now = true) (by first | (simp only [vx, reduceCtorEq, wi, wl]; done) | (simp only [vx, reduceCtorEq, wi, wl]; grind)) (fun c4 => ?_) (fun c4 => ?_)
   ·have hσ : m.σ = (.num .cnt) := now_of (τ := (.num .cnt)) hR.now c4
    refine brP ((x1.get i) = 13) (by first | (simp only [vx, reduceCtorEq, wi, wl]; done) | (simp only [vx, reduceCtorEq, wi, wl]; grind)) (fun c5 => ?_) (fun c5 => ?_)
    ·refine brP (sm = true) (by first | (simp only [vx, reduceCtorEq, wi, wl]; done) | (simp only [vx, reduceCtorEq, wi, wl]; grind)) (fun c6 => ?_) (fun c6 => ?_)
     ·refine brP (n ≥ 1) (by first | (simp only [vx, reduceCtorEq, wi, wl]; done) | (simp only [vx, reduceCtorEq, wi, wl]; grind)) (fun c7 => ?_) (fun c7 => ?_)
      ·refine clo_wp ?_
       intro y4 o4 q4
       refine need_wp (⟨_, _, _, rfl⟩) ?_
       refine need_wp (by exact kargs) ?_
       refine need_wp (⟨_, _, _, rfl⟩) ?_
       refine need_wp (⟨_, _, _, rfl⟩) ?_
       refine again_wp rfl ⟨(i + 1), y4, (left + 1), n, sm, args, many, arg, out, by first | (simp only [vx, reduceCtorEq, wi, wl]; done) | rfl, ?_⟩ ?_
       ·have hs := num_cr hz0 hz1 hσ hR.n hR.sm ⟨by omega, by assumption, by simp only [Ks.least]; omega⟩; exact ⟨by omega, _, hR.next' hz hz0 hz1 ht hs (q4) (by first | omega | (simp only; omega)) hR.n hR.sm hR.many (fun h => by simp [hasA] at h) hR.arg hR.out⟩
       ·(try simp only [vx, reduceCtorEq, wi, wl]); omega
      ·refine brP ((x1.get i) < 48) (by first | (simp only [vx, reduceCtorEq, wi, wl]; done) | (simp only [vx, reduceCtorEq, wi, wl]; grind)) (fun c8 => ?_) (fun c8 => ?_)
       ·have hw : stepZ m (x1.get i) = none := by
         refine num_none hz0 hz1 hσ hR.n hR.sm ?_ ?_
         ·rintro ⟨h1, h2, h3⟩; simp only [Ks.least] at h3; first | omega | exact absurd h2 (by assumption)
         ·simp only [Ks.least, Ks.most]; first | exact .inl (by omega) | exact .inr (.inl (by omega)) | exact .inr (.inr (.inl ⟨by assumption, by omega⟩)) | exact .inr (.inr (.inr (.inl (by omega)))) | exact .inr (.inr (.inr (.inr ⟨by omega, by omega⟩)))
        have hwr := hR.wrong hz hw
        rw [hbS, known_res] at hwr
        have hwo : m.out = [[[71, 69, 84], [97]]] := (congrArg (fun x => x.1) hwr).symm
        exact t10_5_wp ⟨by rw [hR.out.1, hwo], hR.out.2⟩ _ _ _ _ _ _ _ _ _ _ _ _
       ·refine brP ((x1.get i) > 57) (by first | (simp only [vx, reduceCtorEq, wi, wl]; done) | (simp only [vx, reduceCtorEq, wi, wl]; grind)) (fun c9 => ?_) (fun c9 => ?_)
        ·have hw : stepZ m (x1.get i) = none := by
          refine num_none hz0 hz1 hσ hR.n hR.sm ?_ ?_
          ·rintro ⟨h1, h2, h3⟩; simp only [Ks.least] at h3; first | omega | exact absurd h2 (by assumption)
          ·simp only [Ks.least, Ks.most]; first | exact .inl (by omega) | exact .inr (.inl (by omega)) | exact .inr (.inr (.inl ⟨by assumption, by omega⟩)) | exact .inr (.inr (.inr (.inl (by omega)))) | exact .inr (.inr (.inr (.inr ⟨by omega, by omega⟩)))
         have hwr := hR.wrong hz hw
         rw [hbS, known_res] at hwr
         have hwo : m.out = [[[71, 69, 84], [97]]] := (congrArg (fun x => x.1) hwr).symm
         exact t10_5_wp ⟨by rw [hR.out.1, hwo], hR.out.2⟩ _ _ _ _ _ _ _ _ _ _ _ _
        ·have wu : IntKind.u8.wrap ((x1.get i) - 48) = (x1.get i) - 48 := by rw [IntKind.wrap_u8]; omega
         have ww : IntKind.i64.wrap ((x1.get i) - 48) = (x1.get i) - 48 := wrap_id _ (by omega) (by omega)
         have wm : IntKind.i64.wrap (10 * n) = 10 * n := wrap_id _ (by omega) (by omega)
         have wa : IntKind.i64.wrap (10 * n + ((x1.get i) - 48)) = 10 * n + ((x1.get i) - 48) := wrap_id _ (by omega) (by omega)
         refine brP (n = 0) (by first | (simp only [vx, reduceCtorEq, wi, wl, wu, ww, wm, wa]; done) | (simp only [vx, reduceCtorEq, wi, wl, wu, ww, wm, wa]; grind)) (fun c10 => ?_) (fun c10 => ?_)
         ·have hw : stepZ m (x1.get i) = none := by
           refine num_none hz0 hz1 hσ hR.n hR.sm ?_ ?_
           ·rintro ⟨h1, h2, h3⟩; simp only [Ks.least] at h3; first | omega | exact absurd h2 (by assumption)
           ·simp only [Ks.least, Ks.most]; first | exact .inl (by omega) | exact .inr (.inl (by omega)) | exact .inr (.inr (.inl ⟨by assumption, by omega⟩)) | exact .inr (.inr (.inr (.inl (by omega)))) | exact .inr (.inr (.inr (.inr ⟨by omega, by omega⟩)))
          have hwr := hR.wrong hz hw
          rw [hbS, known_res] at hwr
          have hwo : m.out = [[[71, 69, 84], [97]]] := (congrArg (fun x => x.1) hwr).symm
          exact t10_5_wp ⟨by rw [hR.out.1, hwo], hR.out.2⟩ _ _ _ _ _ _ _ _ _ _ _ _
         ·refine brP ((10 * n + ((x1.get i) - 48)) > 50) (by first | (simp only [vx, reduceCtorEq, wi, wl, wu, ww, wm, wa]; done) | (simp only [vx, reduceCtorEq, wi, wl, wu, ww, wm, wa]; grind)) (fun c11 => ?_) (fun c11 => ?_)
          ·have hw : stepZ m (x1.get i) = none := by
            refine num_none hz0 hz1 hσ hR.n hR.sm ?_ ?_
            ·rintro ⟨h1, h2, h3⟩; simp only [Ks.least] at h3; first | omega | exact absurd h2 (by assumption)
            ·simp only [Ks.least, Ks.most]; first | exact .inl (by omega) | exact .inr (.inl (by omega)) | exact .inr (.inr (.inl ⟨by assumption, by omega⟩)) | exact .inr (.inr (.inr (.inl (by omega)))) | exact .inr (.inr (.inr (.inr ⟨by omega, by omega⟩)))
           have hwr := hR.wrong hz hw
           rw [hbS, known_res] at hwr
           have hwo : m.out = [[[71, 69, 84], [97]]] := (congrArg (fun x => x.1) hwr).symm
           exact t10_5_wp ⟨by rw [hR.out.1, hwo], hR.out.2⟩ _ _ _ _ _ _ _ _ _ _ _ _
          ·refine brP ((10 * n + ((x1.get i) - 48)) = 0) (by first | (simp only [vx, reduceCtorEq, wi, wl, wu, ww, wm, wa]; done) | (simp only [vx, reduceCtorEq, wi, wl, wu, ww, wm, wa]; grind)) (fun c12 => ?_) (fun c12 => ?_)
           ·have hw : stepZ m (x1.get i) = none := by
             refine num_none hz0 hz1 hσ hR.n hR.sm ?_ ?_
             ·rintro ⟨h1, h2, h3⟩; simp only [Ks.least] at h3; first | omega | exact absurd h2 (by assumption)
             ·simp only [Ks.least, Ks.most]; first | exact .inl (by omega) | exact .inr (.inl (by omega)) | exact .inr (.inr (.inl ⟨by assumption, by omega⟩)) | exact .inr (.inr (.inr (.inl (by omega)))) | exact .inr (.inr (.inr (.inr ⟨by omega, by omega⟩)))
            have hwr := hR.wrong hz hw
            rw [hbS, known_res] at hwr
            have hwo : m.out = [[[71, 69, 84], [97]]] := (congrArg (fun x => x.1) hwr).symm
            exact t10_5_wp ⟨by rw [hR.out.1, hwo], hR.out.2⟩ _ _ _ _ _ _ _ _ _ _ _ _
           ·refine need_wp (⟨_, _, _, rfl⟩) ?_
            refine need_wp (by exact kargs) ?_
            refine need_wp (⟨_, _, _, rfl⟩) ?_
            refine need_wp (⟨_, _, _, rfl⟩) ?_
            refine again_wp rfl ⟨(i + 1), now, (left + 1), (10 * n + ((x1.get i) - 48)), true, args, many, arg, out, by first | (simp only [vx, reduceCtorEq, wi, wl, wu, ww, wm, wa]; done) | rfl, ?_⟩ ?_
            ·have hs := num_dig hz0 hz1 hσ hR.n hR.sm (by rintro ⟨h1, h2, h3⟩; simp only [Ks.least] at h3; first | omega | exact absurd h2 (by assumption)) (by omega) (by omega) (by rintro ⟨h1, h2⟩; first | omega | exact absurd h1 (by assumption)) (by simp only [Ks.most]; omega) (by rintro ⟨h1, h2⟩; simp only [Ks.least] at h2; omega); exact ⟨by omega, _, hR.next' hz hz0 hz1 ht hs (by have := hR.now; rw [hσ] at this; simpa only [hσ] using this) (by first | omega | (simp only; omega)) rfl rfl hR.many (fun h => hR.args h) hR.arg hR.out⟩
            ·(try simp only [vx, reduceCtorEq, wi, wl, wu, ww, wm, wa]); omega
     ·refine brP ((x1.get i) < 48) (by first | (simp only [vx, reduceCtorEq, wi, wl]; done) | (simp only [vx, reduceCtorEq, wi, wl]; grind)) (fun c13 => ?_) (fun c13 => ?_)
      ·have hw : stepZ m (x1.get i) = none := by
        refine num_none hz0 hz1 hσ hR.n hR.sm ?_ ?_
        ·rintro ⟨h1, h2, h3⟩; simp only [Ks.least] at h3; first | omega | exact absurd h2 (by assumption)
        ·simp only [Ks.least, Ks.most]; first | exact .inl (by omega) | exact .inr (.inl (by omega)) | exact .inr (.inr (.inl ⟨by assumption, by omega⟩)) | exact .inr (.inr (.inr (.inl (by omega)))) | exact .inr (.inr (.inr (.inr ⟨by omega, by omega⟩)))
       have hwr := hR.wrong hz hw
       rw [hbS, known_res] at hwr
       have hwo : m.out = [[[71, 69, 84], [97]]] := (congrArg (fun x => x.1) hwr).symm
       exact t10_5_wp ⟨by rw [hR.out.1, hwo], hR.out.2⟩ _ _ _ _ _ _ _ _ _ _ _ _
      ·refine brP ((x1.get i) > 57) (by first | (simp only [vx, reduceCtorEq, wi, wl]; done) | (simp only [vx, reduceCtorEq, wi, wl]; grind)) (fun c14 => ?_) (fun c14 => ?_)
       ·have hw : stepZ m (x1.get i) = none := by
         refine num_none hz0 hz1 hσ hR.n hR.sm ?_ ?_
         ·rintro ⟨h1, h2, h3⟩; simp only [Ks.least] at h3; first | omega | exact absurd h2 (by assumption)
         ·simp only [Ks.least, Ks.most]; first | exact .inl (by omega) | exact .inr (.inl (by omega)) | exact .inr (.inr (.inl ⟨by assumption, by omega⟩)) | exact .inr (.inr (.inr (.inl (by omega)))) | exact .inr (.inr (.inr (.inr ⟨by omega, by omega⟩)))
        have hwr := hR.wrong hz hw
        rw [hbS, known_res] at hwr
        have hwo : m.out = [[[71, 69, 84], [97]]] := (congrArg (fun x => x.1) hwr).symm
        exact t10_5_wp ⟨by rw [hR.out.1, hwo], hR.out.2⟩ _ _ _ _ _ _ _ _ _ _ _ _
       ·have wu : IntKind.u8.wrap ((x1.get i) - 48) = (x1.get i) - 48 := by rw [IntKind.wrap_u8]; omega
        have ww : IntKind.i64.wrap ((x1.get i) - 48) = (x1.get i) - 48 := wrap_id _ (by omega) (by omega)
        have wm : IntKind.i64.wrap (10 * n) = 10 * n := wrap_id _ (by omega) (by omega)
        have wa : IntKind.i64.wrap (10 * n + ((x1.get i) - 48)) = 10 * n + ((x1.get i) - 48) := wrap_id _ (by omega) (by omega)
        refine brP ((10 * n + ((x1.get i) - 48)) > 50) (by first | (simp only [vx, reduceCtorEq, wi, wl, wu, ww, wm, wa]; done) | (simp only [vx, reduceCtorEq, wi, wl, wu, ww, wm, wa]; grind)) (fun c15 => ?_) (fun c15 => ?_)
        ·have hw : stepZ m (x1.get i) = none := by
          refine num_none hz0 hz1 hσ hR.n hR.sm ?_ ?_
          ·rintro ⟨h1, h2, h3⟩; simp only [Ks.least] at h3; first | omega | exact absurd h2 (by assumption)
          ·simp only [Ks.least, Ks.most]; first | exact .inl (by omega) | exact .inr (.inl (by omega)) | exact .inr (.inr (.inl ⟨by assumption, by omega⟩)) | exact .inr (.inr (.inr (.inl (by omega)))) | exact .inr (.inr (.inr (.inr ⟨by omega, by omega⟩)))
         have hwr := hR.wrong hz hw
         rw [hbS, known_res] at hwr
         have hwo : m.out = [[[71, 69, 84], [97]]] := (congrArg (fun x => x.1) hwr).symm
         exact t10_5_wp ⟨by rw [hR.out.1, hwo], hR.out.2⟩ _ _ _ _ _ _ _ _ _ _ _ _
        ·refine brP ((10 * n + ((x1.get i) - 48)) = 0) (by first | (simp only [vx, reduceCtorEq, wi, wl, wu, ww, wm, wa]; done) | (simp only [vx, reduceCtorEq, wi, wl, wu, ww, wm, wa]; grind)) (fun c16 => ?_) (fun c16 => ?_)
         ·have hw : stepZ m (x1.get i) = none := by
           refine num_none hz0 hz1 hσ hR.n hR.sm ?_ ?_
           ·rintro ⟨h1, h2, h3⟩; simp only [Ks.least] at h3; first | omega | exact absurd h2 (by assumption)
           ·simp only [Ks.least, Ks.most]; first | exact .inl (by omega) | exact .inr (.inl (by omega)) | exact .inr (.inr (.inl ⟨by assumption, by omega⟩)) | exact .inr (.inr (.inr (.inl (by omega)))) | exact .inr (.inr (.inr (.inr ⟨by omega, by omega⟩)))
          have hwr := hR.wrong hz hw
          rw [hbS, known_res] at hwr
          have hwo : m.out = [[[71, 69, 84], [97]]] := (congrArg (fun x => x.1) hwr).symm
          exact t10_5_wp ⟨by rw [hR.out.1, hwo], hR.out.2⟩ _ _ _ _ _ _ _ _ _ _ _ _
         ·refine need_wp (⟨_, _, _, rfl⟩) ?_
          refine need_wp (by exact kargs) ?_
          refine need_wp (⟨_, _, _, rfl⟩) ?_
          refine need_wp (⟨_, _, _, rfl⟩) ?_
          refine again_wp rfl ⟨(i + 1), now, (left + 1), (10 * n + ((x1.get i) - 48)), true, args, many, arg, out, by first | (simp only [vx, reduceCtorEq, wi, wl, wu, ww, wm, wa]; done) | rfl, ?_⟩ ?_
          ·have hs := num_dig hz0 hz1 hσ hR.n hR.sm (by rintro ⟨h1, h2, h3⟩; simp only [Ks.least] at h3; first | omega | exact absurd h2 (by assumption)) (by omega) (by omega) (by rintro ⟨h1, h2⟩; first | omega | exact absurd h1 (by assumption)) (by simp only [Ks.most]; omega) (by rintro ⟨h1, h2⟩; simp only [Ks.least] at h2; omega); exact ⟨by omega, _, hR.next' hz hz0 hz1 ht hs (by have := hR.now; rw [hσ] at this; simpa only [hσ] using this) (by first | omega | (simp only; omega)) rfl rfl hR.many (fun h => hR.args h) hR.arg hR.out⟩
          ·(try simp only [vx, reduceCtorEq, wi, wl, wu, ww, wm, wa]); omega
    ·refine brP ((x1.get i) < 48) (by first | (simp only [vx, reduceCtorEq, wi, wl]; done) | (simp only [vx, reduceCtorEq, wi, wl]; grind)) (fun c17 => ?_) (fun c17 => ?_)
     ·have hw : stepZ m (x1.get i) = none := by
       refine num_none hz0 hz1 hσ hR.n hR.sm ?_ ?_
       ·rintro ⟨h1, h2, h3⟩; simp only [Ks.least] at h3; first | omega | exact absurd h2 (by assumption)
       ·simp only [Ks.least, Ks.most]; first | exact .inl (by omega) | exact .inr (.inl (by omega)) | exact .inr (.inr (.inl ⟨by assumption, by omega⟩)) | exact .inr (.inr (.inr (.inl (by omega)))) | exact .inr (.inr (.inr (.inr ⟨by omega, by omega⟩)))
      have hwr := hR.wrong hz hw
      rw [hbS, known_res] at hwr
      have hwo : m.out = [[[71, 69, 84], [97]]] := (congrArg (fun x => x.1) hwr).symm
      exact t10_5_wp ⟨by rw [hR.out.1, hwo], hR.out.2⟩ _ _ _ _ _ _ _ _ _ _ _ _
     ·refine brP ((x1.get i) > 57) (by first | (simp only [vx, reduceCtorEq, wi, wl]; done) | (simp only [vx, reduceCtorEq, wi, wl]; grind)) (fun c18 => ?_) (fun c18 => ?_)
      ·have hw : stepZ m (x1.get i) = none := by
        refine num_none hz0 hz1 hσ hR.n hR.sm ?_ ?_
        ·rintro ⟨h1, h2, h3⟩; simp only [Ks.least] at h3; first | omega | exact absurd h2 (by assumption)
        ·simp only [Ks.least, Ks.most]; first | exact .inl (by omega) | exact .inr (.inl (by omega)) | exact .inr (.inr (.inl ⟨by assumption, by omega⟩)) | exact .inr (.inr (.inr (.inl (by omega)))) | exact .inr (.inr (.inr (.inr ⟨by omega, by omega⟩)))
       have hwr := hR.wrong hz hw
       rw [hbS, known_res] at hwr
       have hwo : m.out = [[[71, 69, 84], [97]]] := (congrArg (fun x => x.1) hwr).symm
       exact t10_5_wp ⟨by rw [hR.out.1, hwo], hR.out.2⟩ _ _ _ _ _ _ _ _ _ _ _ _
      ·have wu : IntKind.u8.wrap ((x1.get i) - 48) = (x1.get i) - 48 := by rw [IntKind.wrap_u8]; omega
       have ww : IntKind.i64.wrap ((x1.get i) - 48) = (x1.get i) - 48 := wrap_id _ (by omega) (by omega)
       have wm : IntKind.i64.wrap (10 * n) = 10 * n := wrap_id _ (by omega) (by omega)
       have wa : IntKind.i64.wrap (10 * n + ((x1.get i) - 48)) = 10 * n + ((x1.get i) - 48) := wrap_id _ (by omega) (by omega)
       refine brP (sm = true) (by first | (simp only [vx, reduceCtorEq, wi, wl, wu, ww, wm, wa]; done) | (simp only [vx, reduceCtorEq, wi, wl, wu, ww, wm, wa]; grind)) (fun c19 => ?_) (fun c19 => ?_)
       ·refine brP (n = 0) (by first | (simp only [vx, reduceCtorEq, wi, wl, wu, ww, wm, wa]; done) | (simp only [vx, reduceCtorEq, wi, wl, wu, ww, wm, wa]; grind)) (fun c20 => ?_) (fun c20 => ?_)
        ·have hw : stepZ m (x1.get i) = none := by
          refine num_none hz0 hz1 hσ hR.n hR.sm ?_ ?_
          ·rintro ⟨h1, h2, h3⟩; simp only [Ks.least] at h3; first | omega | exact absurd h2 (by assumption)
          ·simp only [Ks.least, Ks.most]; first | exact .inl (by omega) | exact .inr (.inl (by omega)) | exact .inr (.inr (.inl ⟨by assumption, by omega⟩)) | exact .inr (.inr (.inr (.inl (by omega)))) | exact .inr (.inr (.inr (.inr ⟨by omega, by omega⟩)))
         have hwr := hR.wrong hz hw
         rw [hbS, known_res] at hwr
         have hwo : m.out = [[[71, 69, 84], [97]]] := (congrArg (fun x => x.1) hwr).symm
         exact t10_5_wp ⟨by rw [hR.out.1, hwo], hR.out.2⟩ _ _ _ _ _ _ _ _ _ _ _ _
        ·refine brP ((10 * n + ((x1.get i) - 48)) > 50) (by first | (simp only [vx, reduceCtorEq, wi, wl, wu, ww, wm, wa]; done) | (simp only [vx, reduceCtorEq, wi, wl, wu, ww, wm, wa]; grind)) (fun c21 => ?_) (fun c21 => ?_)
         ·have hw : stepZ m (x1.get i) = none := by
           refine num_none hz0 hz1 hσ hR.n hR.sm ?_ ?_
           ·rintro ⟨h1, h2, h3⟩; simp only [Ks.least] at h3; first | omega | exact absurd h2 (by assumption)
           ·simp only [Ks.least, Ks.most]; first | exact .inl (by omega) | exact .inr (.inl (by omega)) | exact .inr (.inr (.inl ⟨by assumption, by omega⟩)) | exact .inr (.inr (.inr (.inl (by omega)))) | exact .inr (.inr (.inr (.inr ⟨by omega, by omega⟩)))
          have hwr := hR.wrong hz hw
          rw [hbS, known_res] at hwr
          have hwo : m.out = [[[71, 69, 84], [97]]] := (congrArg (fun x => x.1) hwr).symm
          exact t10_5_wp ⟨by rw [hR.out.1, hwo], hR.out.2⟩ _ _ _ _ _ _ _ _ _ _ _ _
         ·refine brP ((10 * n + ((x1.get i) - 48)) = 0) (by first | (simp only [vx, reduceCtorEq, wi, wl, wu, ww, wm, wa]; done) | (simp only [vx, reduceCtorEq, wi, wl, wu, ww, wm, wa]; grind)) (fun c22 => ?_) (fun c22 => ?_)
          ·have hw : stepZ m (x1.get i) = none := by
            refine num_none hz0 hz1 hσ hR.n hR.sm ?_ ?_
            ·rintro ⟨h1, h2, h3⟩; simp only [Ks.least] at h3; first | omega | exact absurd h2 (by assumption)
            ·simp only [Ks.least, Ks.most]; first | exact .inl (by omega) | exact .inr (.inl (by omega)) | exact .inr (.inr (.inl ⟨by assumption, by omega⟩)) | exact .inr (.inr (.inr (.inl (by omega)))) | exact .inr (.inr (.inr (.inr ⟨by omega, by omega⟩)))
           have hwr := hR.wrong hz hw
           rw [hbS, known_res] at hwr
           have hwo : m.out = [[[71, 69, 84], [97]]] := (congrArg (fun x => x.1) hwr).symm
           exact t10_5_wp ⟨by rw [hR.out.1, hwo], hR.out.2⟩ _ _ _ _ _ _ _ _ _ _ _ _
          ·refine need_wp (⟨_, _, _, rfl⟩) ?_
           refine need_wp (by exact kargs) ?_
           refine need_wp (⟨_, _, _, rfl⟩) ?_
           refine need_wp (⟨_, _, _, rfl⟩) ?_
           refine again_wp rfl ⟨(i + 1), now, (left + 1), (10 * n + ((x1.get i) - 48)), true, args, many, arg, out, by first | (simp only [vx, reduceCtorEq, wi, wl, wu, ww, wm, wa]; done) | rfl, ?_⟩ ?_
           ·have hs := num_dig hz0 hz1 hσ hR.n hR.sm (by rintro ⟨h1, h2, h3⟩; simp only [Ks.least] at h3; first | omega | exact absurd h2 (by assumption)) (by omega) (by omega) (by rintro ⟨h1, h2⟩; first | omega | exact absurd h1 (by assumption)) (by simp only [Ks.most]; omega) (by rintro ⟨h1, h2⟩; simp only [Ks.least] at h2; omega); exact ⟨by omega, _, hR.next' hz hz0 hz1 ht hs (by have := hR.now; rw [hσ] at this; simpa only [hσ] using this) (by first | omega | (simp only; omega)) rfl rfl hR.many (fun h => hR.args h) hR.arg hR.out⟩
           ·(try simp only [vx, reduceCtorEq, wi, wl, wu, ww, wm, wa]); omega
       ·refine brP ((10 * n + ((x1.get i) - 48)) > 50) (by first | (simp only [vx, reduceCtorEq, wi, wl, wu, ww, wm, wa]; done) | (simp only [vx, reduceCtorEq, wi, wl, wu, ww, wm, wa]; grind)) (fun c23 => ?_) (fun c23 => ?_)
        ·have hw : stepZ m (x1.get i) = none := by
          refine num_none hz0 hz1 hσ hR.n hR.sm ?_ ?_
          ·rintro ⟨h1, h2, h3⟩; simp only [Ks.least] at h3; first | omega | exact absurd h2 (by assumption)
          ·simp only [Ks.least, Ks.most]; first | exact .inl (by omega) | exact .inr (.inl (by omega)) | exact .inr (.inr (.inl ⟨by assumption, by omega⟩)) | exact .inr (.inr (.inr (.inl (by omega)))) | exact .inr (.inr (.inr (.inr ⟨by omega, by omega⟩)))
         have hwr := hR.wrong hz hw
         rw [hbS, known_res] at hwr
         have hwo : m.out = [[[71, 69, 84], [97]]] := (congrArg (fun x => x.1) hwr).symm
         exact t10_5_wp ⟨by rw [hR.out.1, hwo], hR.out.2⟩ _ _ _ _ _ _ _ _ _ _ _ _
        ·refine brP ((10 * n + ((x1.get i) - 48)) = 0) (by first | (simp only [vx, reduceCtorEq, wi, wl, wu, ww, wm, wa]; done) | (simp only [vx, reduceCtorEq, wi, wl, wu, ww, wm, wa]; grind)) (fun c24 => ?_) (fun c24 => ?_)
         ·have hw : stepZ m (x1.get i) = none := by
           refine num_none hz0 hz1 hσ hR.n hR.sm ?_ ?_
           ·rintro ⟨h1, h2, h3⟩; simp only [Ks.least] at h3; first | omega | exact absurd h2 (by assumption)
           ·simp only [Ks.least, Ks.most]; first | exact .inl (by omega) | exact .inr (.inl (by omega)) | exact .inr (.inr (.inl ⟨by assumption, by omega⟩)) | exact .inr (.inr (.inr (.inl (by omega)))) | exact .inr (.inr (.inr (.inr ⟨by omega, by omega⟩)))
          have hwr := hR.wrong hz hw
          rw [hbS, known_res] at hwr
          have hwo : m.out = [[[71, 69, 84], [97]]] := (congrArg (fun x => x.1) hwr).symm
          exact t10_5_wp ⟨by rw [hR.out.1, hwo], hR.out.2⟩ _ _ _ _ _ _ _ _ _ _ _ _
         ·refine need_wp (⟨_, _, _, rfl⟩) ?_
          refine need_wp (by exact kargs) ?_
          refine need_wp (⟨_, _, _, rfl⟩) ?_
          refine need_wp (⟨_, _, _, rfl⟩) ?_
          refine again_wp rfl ⟨(i + 1), now, (left + 1), (10 * n + ((x1.get i) - 48)), true, args, many, arg, out, by first | (simp only [vx, reduceCtorEq, wi, wl, wu, ww, wm, wa]; done) | rfl, ?_⟩ ?_
          ·have hs := num_dig hz0 hz1 hσ hR.n hR.sm (by rintro ⟨h1, h2, h3⟩; simp only [Ks.least] at h3; first | omega | exact absurd h2 (by assumption)) (by omega) (by omega) (by rintro ⟨h1, h2⟩; first | omega | exact absurd h1 (by assumption)) (by simp only [Ks.most]; omega) (by rintro ⟨h1, h2⟩; simp only [Ks.least] at h2; omega); exact ⟨by omega, _, hR.next' hz hz0 hz1 ht hs (by have := hR.now; rw [hσ] at this; simpa only [hσ] using this) (by first | omega | (simp only; omega)) rfl rfl hR.many (fun h => hR.args h) hR.arg hR.out⟩
          ·(try simp only [vx, reduceCtorEq, wi, wl, wu, ww, wm, wa]); omega
   ·refine brP (cloB (.some 40) [(.int .u8 10), (.fn 36)] now = true) (by first | (simp only [vx, reduceCtorEq, wi, wl]; done) | (simp only [vx, reduceCtorEq, wi, wl]; grind)) (fun c25 => ?_) (fun c25 => ?_)
    ·have hσ : m.σ = (.lf .cnt) := now_of (τ := (.lf .cnt)) hR.now c25
     refine brP ((x1.get i) ≠ 10) (by first | (simp only [vx, reduceCtorEq, wi, wl]; done) | (simp only [vx, reduceCtorEq, wi, wl]; grind)) (fun c26 => ?_) (fun c26 => ?_)
     ·have hw : stepZ m (x1.get i) = none := by rw [sz_lfc hz0 hz1 hσ, if_neg (by omega)]
      have hwr := hR.wrong hz hw
      rw [hbS, known_res] at hwr
      have hwo : m.out = [[[71, 69, 84], [97]]] := (congrArg (fun x => x.1) hwr).symm
      exact t10_5_wp ⟨by rw [hR.out.1, hwo], hR.out.2⟩ _ _ _ _ _ _ _ _ _ _ _ _
     ·refine clo_wp ?_
      intro y5 o5 q5
      refine need_wp (⟨_, _, _, rfl⟩) ?_
      refine need_wp (⟨_, _, _, rfl⟩) ?_
      refine need_wp (⟨_, _, _, rfl⟩) ?_
      refine need_wp (⟨_, _, _, rfl⟩) ?_
      refine again_wp rfl ⟨(i + 1), y5, (left + 1), n, sm, (Rw.atom eS (Rw.nil : Rw ByteArray)), n, arg, out, by first | (simp only [vx, reduceCtorEq, wi, wl]; done) | (simp only [vx, reduceCtorEq, wi, wl]; rfl) | (simp only [vx, reduceCtorEq, wi, wl, Rw.nil, Rw.atom, List.length_nil, List.map_nil]; done), ?_⟩ ?_
      ·have hs := (sz_lfc hz0 hz1 hσ).trans (if_pos (by omega)); exact ⟨by omega, _, hR.next' hz hz0 hz1 ht hs (q5) (by first | omega | (simp only; omega)) hR.n hR.sm hR.n (fun _ => ⟨Rw.nil, rfl, rfl, .inl rfl⟩) hR.arg hR.out⟩
      ·(try simp only [vx, reduceCtorEq, wi, wl]); omega
    ·refine brP (cloB (.some 40) [(.int .u8 36), (.fn 43)] now = true) (by first | (simp only [vx, reduceCtorEq, wi, wl]; done) | (simp only [vx, reduceCtorEq, wi, wl]; grind)) (fun c27 => ?_) (fun c27 => ?_)
     ·have hσ : m.σ = .dol := now_of (τ := .dol) hR.now c27
      refine brP ((x1.get i) ≠ 36) (by first | (simp only [vx, reduceCtorEq, wi, wl]; done) | (simp only [vx, reduceCtorEq, wi, wl]; grind)) (fun c28 => ?_) (fun c28 => ?_)
      ·have hw : stepZ m (x1.get i) = none := by rw [sz_dol hz0 hz1 hσ, if_neg (by omega)]
       have hwr := hR.wrong hz hw
       rw [hbS, known_res] at hwr
       have hwo : m.out = [[[71, 69, 84], [97]]] := (congrArg (fun x => x.1) hwr).symm
       exact t10_5_wp ⟨by rw [hR.out.1, hwo], hR.out.2⟩ _ _ _ _ _ _ _ _ _ _ _ _
      ·refine clo_wp ?_
       intro y6 o6 q6
       refine need_wp (⟨_, _, _, rfl⟩) ?_
       refine need_wp (by exact kargs) ?_
       refine need_wp (⟨_, _, _, rfl⟩) ?_
       refine need_wp (⟨_, _, _, rfl⟩) ?_
       refine again_wp rfl ⟨(i + 1), y6, (left + 1), 0, false, args, many, arg, out, by first | (simp only [vx, reduceCtorEq, wi, wl]; done) | rfl, ?_⟩ ?_
       ·have hs := (sz_dol hz0 hz1 hσ).trans (if_pos (by omega)); exact ⟨by omega, _, hR.next' hz hz0 hz1 ht hs (q6) (by first | omega | (simp only; omega)) rfl rfl hR.many (fun _ => hR.args (by rw [hσ]; rfl)) hR.arg hR.out⟩
       ·(try simp only [vx, reduceCtorEq, wi, wl]); omega
     ·refine brP (cloB (.some 41) [(.int .i64 0), (.fn 44), (.int .i64 1000), .self] now = true) (by first | (simp only [vx, reduceCtorEq, wi, wl]; done) | (simp only [vx, reduceCtorEq, wi, wl]; grind)) (fun c29 => ?_) (fun c29 => ?_)
      ·have hσ : m.σ = (.num .szd) := now_of (τ := (.num .szd)) hR.now c29
       refine brP ((x1.get i) = 13) (by first | (simp only [vx, reduceCtorEq, wi, wl]; done) | (simp only [vx, reduceCtorEq, wi, wl]; grind)) (fun c30 => ?_) (fun c30 => ?_)
       ·refine brP (sm = true) (by first | (simp only [vx, reduceCtorEq, wi, wl]; done) | (simp only [vx, reduceCtorEq, wi, wl]; grind)) (fun c31 => ?_) (fun c31 => ?_)
        ·refine brP (n ≥ 0) (by first | (simp only [vx, reduceCtorEq, wi, wl]; done) | (simp only [vx, reduceCtorEq, wi, wl]; grind)) (fun c32 => ?_) (fun c32 => ?_)
         ·refine clo_wp ?_
          intro y7 o7 q7
          refine need_wp (⟨_, _, _, rfl⟩) ?_
          refine need_wp (by exact kargs) ?_
          refine need_wp (⟨_, _, _, rfl⟩) ?_
          refine need_wp (⟨_, _, _, rfl⟩) ?_
          refine again_wp rfl ⟨(i + 1), y7, (left + 1), n, sm, args, many, arg, out, by first | (simp only [vx, reduceCtorEq, wi, wl]; done) | rfl, ?_⟩ ?_
          ·have hs := num_cr hz0 hz1 hσ hR.n hR.sm ⟨by omega, by assumption, by simp only [Ks.least]; omega⟩; exact ⟨by omega, _, hR.next' hz hz0 hz1 ht hs (q7) (by first | omega | (simp only; omega)) hR.n hR.sm hR.many (fun _ => hR.args (by rw [hσ]; rfl)) hR.arg hR.out⟩
          ·(try simp only [vx, reduceCtorEq, wi, wl]); omega
         ·exfalso; omega
        ·refine brP ((x1.get i) < 48) (by first | (simp only [vx, reduceCtorEq, wi, wl]; done) | (simp only [vx, reduceCtorEq, wi, wl]; grind)) (fun c38 => ?_) (fun c38 => ?_)
         ·have hw : stepZ m (x1.get i) = none := by
           refine num_none hz0 hz1 hσ hR.n hR.sm ?_ ?_
           ·rintro ⟨h1, h2, h3⟩; simp only [Ks.least] at h3; first | omega | exact absurd h2 (by assumption)
           ·simp only [Ks.least, Ks.most]; first | exact .inl (by omega) | exact .inr (.inl (by omega)) | exact .inr (.inr (.inl ⟨by assumption, by omega⟩)) | exact .inr (.inr (.inr (.inl (by omega)))) | exact .inr (.inr (.inr (.inr ⟨by omega, by omega⟩)))
          have hwr := hR.wrong hz hw
          rw [hbS, known_res] at hwr
          have hwo : m.out = [[[71, 69, 84], [97]]] := (congrArg (fun x => x.1) hwr).symm
          exact t10_5_wp ⟨by rw [hR.out.1, hwo], hR.out.2⟩ _ _ _ _ _ _ _ _ _ _ _ _
         ·refine brP ((x1.get i) > 57) (by first | (simp only [vx, reduceCtorEq, wi, wl]; done) | (simp only [vx, reduceCtorEq, wi, wl]; grind)) (fun c39 => ?_) (fun c39 => ?_)
          ·have hw : stepZ m (x1.get i) = none := by
            refine num_none hz0 hz1 hσ hR.n hR.sm ?_ ?_
            ·rintro ⟨h1, h2, h3⟩; simp only [Ks.least] at h3; first | omega | exact absurd h2 (by assumption)
            ·simp only [Ks.least, Ks.most]; first | exact .inl (by omega) | exact .inr (.inl (by omega)) | exact .inr (.inr (.inl ⟨by assumption, by omega⟩)) | exact .inr (.inr (.inr (.inl (by omega)))) | exact .inr (.inr (.inr (.inr ⟨by omega, by omega⟩)))
           have hwr := hR.wrong hz hw
           rw [hbS, known_res] at hwr
           have hwo : m.out = [[[71, 69, 84], [97]]] := (congrArg (fun x => x.1) hwr).symm
           exact t10_5_wp ⟨by rw [hR.out.1, hwo], hR.out.2⟩ _ _ _ _ _ _ _ _ _ _ _ _
          ·have wu : IntKind.u8.wrap ((x1.get i) - 48) = (x1.get i) - 48 := by rw [IntKind.wrap_u8]; omega
           have ww : IntKind.i64.wrap ((x1.get i) - 48) = (x1.get i) - 48 := wrap_id _ (by omega) (by omega)
           have wm : IntKind.i64.wrap (10 * n) = 10 * n := wrap_id _ (by omega) (by omega)
           have wa : IntKind.i64.wrap (10 * n + ((x1.get i) - 48)) = 10 * n + ((x1.get i) - 48) := wrap_id _ (by omega) (by omega)
           refine brP ((10 * n + ((x1.get i) - 48)) > 1000) (by first | (simp only [vx, reduceCtorEq, wi, wl, wu, ww, wm, wa]; done) | (simp only [vx, reduceCtorEq, wi, wl, wu, ww, wm, wa]; grind)) (fun c40 => ?_) (fun c40 => ?_)
           ·have hw : stepZ m (x1.get i) = none := by
             refine num_none hz0 hz1 hσ hR.n hR.sm ?_ ?_
             ·rintro ⟨h1, h2, h3⟩; simp only [Ks.least] at h3; first | omega | exact absurd h2 (by assumption)
             ·simp only [Ks.least, Ks.most]; first | exact .inl (by omega) | exact .inr (.inl (by omega)) | exact .inr (.inr (.inl ⟨by assumption, by omega⟩)) | exact .inr (.inr (.inr (.inl (by omega)))) | exact .inr (.inr (.inr (.inr ⟨by omega, by omega⟩)))
            have hwr := hR.wrong hz hw
            rw [hbS, known_res] at hwr
            have hwo : m.out = [[[71, 69, 84], [97]]] := (congrArg (fun x => x.1) hwr).symm
            exact t10_5_wp ⟨by rw [hR.out.1, hwo], hR.out.2⟩ _ _ _ _ _ _ _ _ _ _ _ _
           ·refine brP ((10 * n + ((x1.get i) - 48)) = 0) (by first | (simp only [vx, reduceCtorEq, wi, wl, wu, ww, wm, wa]; done) | (simp only [vx, reduceCtorEq, wi, wl, wu, ww, wm, wa]; grind)) (fun c41 => ?_) (fun c41 => ?_)
            ·refine need_wp (⟨_, _, _, rfl⟩) ?_
             refine need_wp (by exact kargs) ?_
             refine need_wp (⟨_, _, _, rfl⟩) ?_
             refine need_wp (⟨_, _, _, rfl⟩) ?_
             refine again_wp rfl ⟨(i + 1), now, (left + 1), (10 * n + ((x1.get i) - 48)), true, args, many, arg, out, by first | (simp only [vx, reduceCtorEq, wi, wl, wu, ww, wm, wa]; done) | rfl, ?_⟩ ?_
             ·have hs := num_dig hz0 hz1 hσ hR.n hR.sm (by rintro ⟨h1, h2, h3⟩; simp only [Ks.least] at h3; first | omega | exact absurd h2 (by assumption)) (by omega) (by omega) (by rintro ⟨h1, h2⟩; first | omega | exact absurd h1 (by assumption)) (by simp only [Ks.most]; omega) (by rintro ⟨h1, h2⟩; simp only [Ks.least] at h2; omega); exact ⟨by omega, _, hR.next' hz hz0 hz1 ht hs (by have := hR.now; rw [hσ] at this; simpa only [hσ] using this) (by first | omega | (simp only; omega)) rfl rfl hR.many (fun h => hR.args h) hR.arg hR.out⟩
             ·(try simp only [vx, reduceCtorEq, wi, wl, wu, ww, wm, wa]); omega
            ·refine need_wp (⟨_, _, _, rfl⟩) ?_
             refine need_wp (by exact kargs) ?_
             refine need_wp (⟨_, _, _, rfl⟩) ?_
             refine need_wp (⟨_, _, _, rfl⟩) ?_
             refine again_wp rfl ⟨(i + 1), now, (left + 1), (10 * n + ((x1.get i) - 48)), true, args, many, arg, out, by first | (simp only [vx, reduceCtorEq, wi, wl, wu, ww, wm, wa]; done) | rfl, ?_⟩ ?_
             ·have hs := num_dig hz0 hz1 hσ hR.n hR.sm (by rintro ⟨h1, h2, h3⟩; simp only [Ks.least] at h3; first | omega | exact absurd h2 (by assumption)) (by omega) (by omega) (by rintro ⟨h1, h2⟩; first | omega | exact absurd h1 (by assumption)) (by simp only [Ks.most]; omega) (by rintro ⟨h1, h2⟩; simp only [Ks.least] at h2; omega); exact ⟨by omega, _, hR.next' hz hz0 hz1 ht hs (by have := hR.now; rw [hσ] at this; simpa only [hσ] using this) (by first | omega | (simp only; omega)) rfl rfl hR.many (fun h => hR.args h) hR.arg hR.out⟩
             ·(try simp only [vx, reduceCtorEq, wi, wl, wu, ww, wm, wa]); omega
       ·refine brP ((x1.get i) < 48) (by first | (simp only [vx, reduceCtorEq, wi, wl]; done) | (simp only [vx, reduceCtorEq, wi, wl]; grind)) (fun c42 => ?_) (fun c42 => ?_)
        ·have hw : stepZ m (x1.get i) = none := by
          refine num_none hz0 hz1 hσ hR.n hR.sm ?_ ?_
          ·rintro ⟨h1, h2, h3⟩; simp only [Ks.least] at h3; first | omega | exact absurd h2 (by assumption)
          ·simp only [Ks.least, Ks.most]; first | exact .inl (by omega) | exact .inr (.inl (by omega)) | exact .inr (.inr (.inl ⟨by assumption, by omega⟩)) | exact .inr (.inr (.inr (.inl (by omega)))) | exact .inr (.inr (.inr (.inr ⟨by omega, by omega⟩)))
         have hwr := hR.wrong hz hw
         rw [hbS, known_res] at hwr
         have hwo : m.out = [[[71, 69, 84], [97]]] := (congrArg (fun x => x.1) hwr).symm
         exact t10_5_wp ⟨by rw [hR.out.1, hwo], hR.out.2⟩ _ _ _ _ _ _ _ _ _ _ _ _
        ·refine brP ((x1.get i) > 57) (by first | (simp only [vx, reduceCtorEq, wi, wl]; done) | (simp only [vx, reduceCtorEq, wi, wl]; grind)) (fun c43 => ?_) (fun c43 => ?_)
         ·have hw : stepZ m (x1.get i) = none := by
           refine num_none hz0 hz1 hσ hR.n hR.sm ?_ ?_
           ·rintro ⟨h1, h2, h3⟩; simp only [Ks.least] at h3; first | omega | exact absurd h2 (by assumption)
           ·simp only [Ks.least, Ks.most]; first | exact .inl (by omega) | exact .inr (.inl (by omega)) | exact .inr (.inr (.inl ⟨by assumption, by omega⟩)) | exact .inr (.inr (.inr (.inl (by omega)))) | exact .inr (.inr (.inr (.inr ⟨by omega, by omega⟩)))
          have hwr := hR.wrong hz hw
          rw [hbS, known_res] at hwr
          have hwo : m.out = [[[71, 69, 84], [97]]] := (congrArg (fun x => x.1) hwr).symm
          exact t10_5_wp ⟨by rw [hR.out.1, hwo], hR.out.2⟩ _ _ _ _ _ _ _ _ _ _ _ _
         ·have wu : IntKind.u8.wrap ((x1.get i) - 48) = (x1.get i) - 48 := by rw [IntKind.wrap_u8]; omega
          have ww : IntKind.i64.wrap ((x1.get i) - 48) = (x1.get i) - 48 := wrap_id _ (by omega) (by omega)
          have wm : IntKind.i64.wrap (10 * n) = 10 * n := wrap_id _ (by omega) (by omega)
          have wa : IntKind.i64.wrap (10 * n + ((x1.get i) - 48)) = 10 * n + ((x1.get i) - 48) := wrap_id _ (by omega) (by omega)
          refine brP (sm = true) (by first | (simp only [vx, reduceCtorEq, wi, wl, wu, ww, wm, wa]; done) | (simp only [vx, reduceCtorEq, wi, wl, wu, ww, wm, wa]; grind)) (fun c44 => ?_) (fun c44 => ?_)
          ·refine brP (n = 0) (by first | (simp only [vx, reduceCtorEq, wi, wl, wu, ww, wm, wa]; done) | (simp only [vx, reduceCtorEq, wi, wl, wu, ww, wm, wa]; grind)) (fun c45 => ?_) (fun c45 => ?_)
           ·have hw : stepZ m (x1.get i) = none := by
             refine num_none hz0 hz1 hσ hR.n hR.sm ?_ ?_
             ·rintro ⟨h1, h2, h3⟩; simp only [Ks.least] at h3; first | omega | exact absurd h2 (by assumption)
             ·simp only [Ks.least, Ks.most]; first | exact .inl (by omega) | exact .inr (.inl (by omega)) | exact .inr (.inr (.inl ⟨by assumption, by omega⟩)) | exact .inr (.inr (.inr (.inl (by omega)))) | exact .inr (.inr (.inr (.inr ⟨by omega, by omega⟩)))
            have hwr := hR.wrong hz hw
            rw [hbS, known_res] at hwr
            have hwo : m.out = [[[71, 69, 84], [97]]] := (congrArg (fun x => x.1) hwr).symm
            exact t10_5_wp ⟨by rw [hR.out.1, hwo], hR.out.2⟩ _ _ _ _ _ _ _ _ _ _ _ _
           ·refine brP ((10 * n + ((x1.get i) - 48)) > 1000) (by first | (simp only [vx, reduceCtorEq, wi, wl, wu, ww, wm, wa]; done) | (simp only [vx, reduceCtorEq, wi, wl, wu, ww, wm, wa]; grind)) (fun c46 => ?_) (fun c46 => ?_)
            ·have hw : stepZ m (x1.get i) = none := by
              refine num_none hz0 hz1 hσ hR.n hR.sm ?_ ?_
              ·rintro ⟨h1, h2, h3⟩; simp only [Ks.least] at h3; first | omega | exact absurd h2 (by assumption)
              ·simp only [Ks.least, Ks.most]; first | exact .inl (by omega) | exact .inr (.inl (by omega)) | exact .inr (.inr (.inl ⟨by assumption, by omega⟩)) | exact .inr (.inr (.inr (.inl (by omega)))) | exact .inr (.inr (.inr (.inr ⟨by omega, by omega⟩)))
             have hwr := hR.wrong hz hw
             rw [hbS, known_res] at hwr
             have hwo : m.out = [[[71, 69, 84], [97]]] := (congrArg (fun x => x.1) hwr).symm
             exact t10_5_wp ⟨by rw [hR.out.1, hwo], hR.out.2⟩ _ _ _ _ _ _ _ _ _ _ _ _
            ·refine brP ((10 * n + ((x1.get i) - 48)) = 0) (by first | (simp only [vx, reduceCtorEq, wi, wl, wu, ww, wm, wa]; done) | (simp only [vx, reduceCtorEq, wi, wl, wu, ww, wm, wa]; grind)) (fun c47 => ?_) (fun c47 => ?_)
             ·refine need_wp (⟨_, _, _, rfl⟩) ?_
              refine need_wp (by exact kargs) ?_
              refine need_wp (⟨_, _, _, rfl⟩) ?_
              refine need_wp (⟨_, _, _, rfl⟩) ?_
              refine again_wp rfl ⟨(i + 1), now, (left + 1), (10 * n + ((x1.get i) - 48)), true, args, many, arg, out, by first | (simp only [vx, reduceCtorEq, wi, wl, wu, ww, wm, wa]; done) | rfl, ?_⟩ ?_
              ·have hs := num_dig hz0 hz1 hσ hR.n hR.sm (by rintro ⟨h1, h2, h3⟩; simp only [Ks.least] at h3; first | omega | exact absurd h2 (by assumption)) (by omega) (by omega) (by rintro ⟨h1, h2⟩; first | omega | exact absurd h1 (by assumption)) (by simp only [Ks.most]; omega) (by rintro ⟨h1, h2⟩; simp only [Ks.least] at h2; omega); exact ⟨by omega, _, hR.next' hz hz0 hz1 ht hs (by have := hR.now; rw [hσ] at this; simpa only [hσ] using this) (by first | omega | (simp only; omega)) rfl rfl hR.many (fun h => hR.args h) hR.arg hR.out⟩
              ·(try simp only [vx, reduceCtorEq, wi, wl, wu, ww, wm, wa]); omega
             ·refine need_wp (⟨_, _, _, rfl⟩) ?_
              refine need_wp (by exact kargs) ?_
              refine need_wp (⟨_, _, _, rfl⟩) ?_
              refine need_wp (⟨_, _, _, rfl⟩) ?_
              refine again_wp rfl ⟨(i + 1), now, (left + 1), (10 * n + ((x1.get i) - 48)), true, args, many, arg, out, by first | (simp only [vx, reduceCtorEq, wi, wl, wu, ww, wm, wa]; done) | rfl, ?_⟩ ?_
              ·have hs := num_dig hz0 hz1 hσ hR.n hR.sm (by rintro ⟨h1, h2, h3⟩; simp only [Ks.least] at h3; first | omega | exact absurd h2 (by assumption)) (by omega) (by omega) (by rintro ⟨h1, h2⟩; first | omega | exact absurd h1 (by assumption)) (by simp only [Ks.most]; omega) (by rintro ⟨h1, h2⟩; simp only [Ks.least] at h2; omega); exact ⟨by omega, _, hR.next' hz hz0 hz1 ht hs (by have := hR.now; rw [hσ] at this; simpa only [hσ] using this) (by first | omega | (simp only; omega)) rfl rfl hR.many (fun h => hR.args h) hR.arg hR.out⟩
              ·(try simp only [vx, reduceCtorEq, wi, wl, wu, ww, wm, wa]); omega
          ·refine brP ((10 * n + ((x1.get i) - 48)) > 1000) (by first | (simp only [vx, reduceCtorEq, wi, wl, wu, ww, wm, wa]; done) | (simp only [vx, reduceCtorEq, wi, wl, wu, ww, wm, wa]; grind)) (fun c48 => ?_) (fun c48 => ?_)
           ·have hw : stepZ m (x1.get i) = none := by
             refine num_none hz0 hz1 hσ hR.n hR.sm ?_ ?_
             ·rintro ⟨h1, h2, h3⟩; simp only [Ks.least] at h3; first | omega | exact absurd h2 (by assumption)
             ·simp only [Ks.least, Ks.most]; first | exact .inl (by omega) | exact .inr (.inl (by omega)) | exact .inr (.inr (.inl ⟨by assumption, by omega⟩)) | exact .inr (.inr (.inr (.inl (by omega)))) | exact .inr (.inr (.inr (.inr ⟨by omega, by omega⟩)))
            have hwr := hR.wrong hz hw
            rw [hbS, known_res] at hwr
            have hwo : m.out = [[[71, 69, 84], [97]]] := (congrArg (fun x => x.1) hwr).symm
            exact t10_5_wp ⟨by rw [hR.out.1, hwo], hR.out.2⟩ _ _ _ _ _ _ _ _ _ _ _ _
           ·refine brP ((10 * n + ((x1.get i) - 48)) = 0) (by first | (simp only [vx, reduceCtorEq, wi, wl, wu, ww, wm, wa]; done) | (simp only [vx, reduceCtorEq, wi, wl, wu, ww, wm, wa]; grind)) (fun c49 => ?_) (fun c49 => ?_)
            ·refine need_wp (⟨_, _, _, rfl⟩) ?_
             refine need_wp (by exact kargs) ?_
             refine need_wp (⟨_, _, _, rfl⟩) ?_
             refine need_wp (⟨_, _, _, rfl⟩) ?_
             refine again_wp rfl ⟨(i + 1), now, (left + 1), (10 * n + ((x1.get i) - 48)), true, args, many, arg, out, by first | (simp only [vx, reduceCtorEq, wi, wl, wu, ww, wm, wa]; done) | rfl, ?_⟩ ?_
             ·have hs := num_dig hz0 hz1 hσ hR.n hR.sm (by rintro ⟨h1, h2, h3⟩; simp only [Ks.least] at h3; first | omega | exact absurd h2 (by assumption)) (by omega) (by omega) (by rintro ⟨h1, h2⟩; first | omega | exact absurd h1 (by assumption)) (by simp only [Ks.most]; omega) (by rintro ⟨h1, h2⟩; simp only [Ks.least] at h2; omega); exact ⟨by omega, _, hR.next' hz hz0 hz1 ht hs (by have := hR.now; rw [hσ] at this; simpa only [hσ] using this) (by first | omega | (simp only; omega)) rfl rfl hR.many (fun h => hR.args h) hR.arg hR.out⟩
             ·(try simp only [vx, reduceCtorEq, wi, wl, wu, ww, wm, wa]); omega
            ·refine need_wp (⟨_, _, _, rfl⟩) ?_
             refine need_wp (by exact kargs) ?_
             refine need_wp (⟨_, _, _, rfl⟩) ?_
             refine need_wp (⟨_, _, _, rfl⟩) ?_
             refine again_wp rfl ⟨(i + 1), now, (left + 1), (10 * n + ((x1.get i) - 48)), true, args, many, arg, out, by first | (simp only [vx, reduceCtorEq, wi, wl, wu, ww, wm, wa]; done) | rfl, ?_⟩ ?_
             ·have hs := num_dig hz0 hz1 hσ hR.n hR.sm (by rintro ⟨h1, h2, h3⟩; simp only [Ks.least] at h3; first | omega | exact absurd h2 (by assumption)) (by omega) (by omega) (by rintro ⟨h1, h2⟩; first | omega | exact absurd h1 (by assumption)) (by simp only [Ks.most]; omega) (by rintro ⟨h1, h2⟩; simp only [Ks.least] at h2; omega); exact ⟨by omega, _, hR.next' hz hz0 hz1 ht hs (by have := hR.now; rw [hσ] at this; simpa only [hσ] using this) (by first | omega | (simp only; omega)) rfl rfl hR.many (fun h => hR.args h) hR.arg hR.out⟩
             ·(try simp only [vx, reduceCtorEq, wi, wl, wu, ww, wm, wa]); omega
      ·refine brP (cloB (.some 40) [(.int .u8 10), (.fn 44)] now = true) (by first | (simp only [vx, reduceCtorEq, wi, wl]; done) | (simp only [vx, reduceCtorEq, wi, wl]; grind)) (fun c50 => ?_) (fun c50 => ?_)
       ·have hσ : m.σ = (.lf .szd) := now_of (τ := (.lf .szd)) hR.now c50
        refine brP ((x1.get i) ≠ 10) (by first | (simp only [vx, reduceCtorEq, wi, wl]; done) | (simp only [vx, reduceCtorEq, wi, wl]; grind)) (fun c51 => ?_) (fun c51 => ?_)
        ·have hw : stepZ m (x1.get i) = none := by rw [sz_lfs hz0 hz1 hσ, if_neg (by omega)]
         have hwr := hR.wrong hz hw
         rw [hbS, known_res] at hwr
         have hwo : m.out = [[[71, 69, 84], [97]]] := (congrArg (fun x => x.1) hwr).symm
         exact t10_5_wp ⟨by rw [hR.out.1, hwo], hR.out.2⟩ _ _ _ _ _ _ _ _ _ _ _ _
        ·refine need_wp (⟨_, _, _, rfl⟩) ?_
         refine brP (0 = n) (by first | (simp only [vx, reduceCtorEq, wi, wl]; done) | (simp only [vx, reduceCtorEq, wi, wl]; grind)) (fun c52 => ?_) (fun c52 => ?_)
         ·refine clo_wp ?_
          intro y8 o8 q8
          refine need_wp (⟨_, _, _, rfl⟩) ?_
          refine need_wp (by exact kargs) ?_
          refine need_wp (⟨_, _, _, rfl⟩) ?_
          refine need_wp (⟨_, _, _, rfl⟩) ?_
          refine again_wp rfl ⟨(i + 1), y8, (left + 1), n, sm, args, many, (Rw.nil : Rw Int), out, by first | (simp only [vx, reduceCtorEq, wi, wl]; done) | (simp only [vx, reduceCtorEq, wi, wl]; rfl) | (simp only [vx, reduceCtorEq, wi, wl, Rw.nil, Rw.atom, List.length_nil, List.map_nil]; done), ?_⟩ ?_
          ·have hs := (sz_lfs hz0 hz1 hσ).trans (if_pos (by omega)); exact ⟨by omega, _, hR.next' hz hz0 hz1 ht hs (by first | (rw [if_pos (by omega)]; exact q8) | (rw [if_neg (by omega)]; exact q8)) (by first | omega | (simp only; omega)) hR.n hR.sm hR.many (fun _ => hR.args (by rw [hσ]; rfl)) ⟨rfl, .inl rfl⟩ hR.out⟩
          ·(try simp only [vx, reduceCtorEq, wi, wl]); omega
         ·refine clo_wp ?_
          intro y9 o9 q9
          refine need_wp (⟨_, _, _, rfl⟩) ?_
          refine need_wp (by exact kargs) ?_
          refine need_wp (⟨_, _, _, rfl⟩) ?_
          refine need_wp (⟨_, _, _, rfl⟩) ?_
          refine again_wp rfl ⟨(i + 1), y9, (left + 1), n, sm, args, many, (Rw.nil : Rw Int), out, by first | (simp only [vx, reduceCtorEq, wi, wl]; done) | (simp only [vx, reduceCtorEq, wi, wl]; rfl) | (simp only [vx, reduceCtorEq, wi, wl, Rw.nil, Rw.atom, List.length_nil, List.map_nil]; done), ?_⟩ ?_
          ·have hs := (sz_lfs hz0 hz1 hσ).trans (if_pos (by omega)); exact ⟨by omega, _, hR.next' hz hz0 hz1 ht hs (by first | (rw [if_pos (by omega)]; exact q9) | (rw [if_neg (by omega)]; exact q9)) (by first | omega | (simp only; omega)) hR.n hR.sm hR.many (fun _ => hR.args (by rw [hσ]; rfl)) ⟨rfl, .inl rfl⟩ hR.out⟩
          ·(try simp only [vx, reduceCtorEq, wi, wl]); omega
       ·refine brP (cloB (.some 48) [] now = true) (by first | (simp only [vx, reduceCtorEq, wi, wl]; done) | (simp only [vx, reduceCtorEq, wi, wl]; grind)) (fun c53 => ?_) (fun c53 => ?_)
        ·have hσ : m.σ = .byt := now_of (τ := .byt) hR.now c53
         have hwt := hR.wt
         have hGl : arg.l.length = m.arg.length := by rw [hR.arg.1, bI_len]
         simp only [Wt, hσ] at hwt
         have kA : arg.ok 1 := hR.arg.2
         refine new_wp eB [(x1.get i)] (by first | (simp only [vx, reduceCtorEq, wi, wl, eB]; done) | rfl) ?_
         intro a2 b2
         generalize hx2 : (⟨a2, b2, 1, [(x1.get i)]⟩ : Rw Int) = x2
         have lx2 : x2.l = [(x1.get i)] := by first | (rw [← hx2]; done) | (rw [← hx2]; rfl)
         have zx2 : x2.z = 1 := by rw [← hx2]
         have kx2 : Rw.ok 1 x2 := .inr zx2
         have nx2 : (x2.l.length : Int) = 1 := by first | (rw [← hx2]; done) | (rw [← hx2]; simp [Rw.nil])
         refine need_wp (rw_row _ _) ?_
         refine need_wp (⟨_, _, _, rfl⟩) ?_
         refine need_wp (by first | exact rw_szz (by assumption) | exact rw_szz (.inr rfl)) ?_
         refine need_wp (by simp only [vx, reduceCtorEq, wi, wl, vlen]; first | omega | (grind)) ?_
         refine need_wp (by simp only [vx, reduceCtorEq, wi, wl, vlen]; first | omega | (grind)) ?_
         refine app_wp eB arg x2 (by first | rfl | simp only [vx, reduceCtorEq, wi, wl]) (by first | rfl | simp only [vx, reduceCtorEq, wi, wl]) ?_
         intro a3 b3
         generalize hx3 : (⟨a3, b3, 1, arg.l ++ x2.l⟩ : Rw Int) = x3
         have lx3 : x3.l = arg.l ++ x2.l := by first | (rw [← hx3]; done) | (rw [← hx3]; rfl)
         have zx3 : x3.z = 1 := by rw [← hx3]
         have kx3 : Rw.ok 1 x3 := .inr zx3
         have nx3 : (x3.l.length : Int) = (arg.l.length : Int) + (x2.l.length : Int) := by first | (rw [← hx3]; done) | (rw [← hx3]; simp [Rw.nil])
         refine need_wp (⟨_, _, _, rfl⟩) ?_
         refine brP ((x3.l.length : Int) = n) (by first | (simp only [vx, reduceCtorEq, wi, wl]; done) | (simp only [vx, reduceCtorEq, wi, wl]; grind)) (fun c54 => ?_) (fun c54 => ?_)
         ·refine clo_wp ?_
          intro y10 o10 q10
          refine need_wp (⟨_, _, _, rfl⟩) ?_
          refine need_wp (by exact kargs) ?_
          refine need_wp (⟨_, _, _, rfl⟩) ?_
          refine need_wp (⟨_, _, _, rfl⟩) ?_
          refine again_wp rfl ⟨(i + 1), y10, (left + 1), n, sm, args, many, x3, out, by first | (simp only [vx, reduceCtorEq, wi, wl]; done) | rfl, ?_⟩ ?_
          ·have hs := sz_byt (z := x1.get i) hσ; exact ⟨by omega, _, hR.next' hz hz0 hz1 ht hs (by first | (rw [if_pos (by rw [List.length_append, List.length_singleton]; omega)]; exact q10) | (rw [if_neg (by rw [List.length_append, List.length_singleton]; omega)]; exact q10)) (by first | omega | (simp only; omega)) hR.n hR.sm hR.many (fun _ => hR.args (by rw [hσ]; rfl)) ⟨by rw [lx3, hR.arg.1, lx2, bI_app]; simp only [bI, List.map_cons, List.map_nil, u8_n hz0 hz1], kx3⟩ hR.out⟩
          ·(try simp only [vx, reduceCtorEq, wi, wl]); omega
         ·refine clo_wp ?_
          intro y11 o11 q11
          refine need_wp (⟨_, _, _, rfl⟩) ?_
          refine need_wp (by exact kargs) ?_
          refine need_wp (⟨_, _, _, rfl⟩) ?_
          refine need_wp (⟨_, _, _, rfl⟩) ?_
          refine again_wp rfl ⟨(i + 1), y11, (left + 1), n, sm, args, many, x3, out, by first | (simp only [vx, reduceCtorEq, wi, wl]; done) | rfl, ?_⟩ ?_
          ·have hs := sz_byt (z := x1.get i) hσ; exact ⟨by omega, _, hR.next' hz hz0 hz1 ht hs (by first | (rw [if_pos (by rw [List.length_append, List.length_singleton]; omega)]; exact q11) | (rw [if_neg (by rw [List.length_append, List.length_singleton]; omega)]; exact q11)) (by first | omega | (simp only; omega)) hR.n hR.sm hR.many (fun _ => hR.args (by rw [hσ]; rfl)) ⟨by rw [lx3, hR.arg.1, lx2, bI_app]; simp only [bI, List.map_cons, List.map_nil, u8_n hz0 hz1], kx3⟩ hR.out⟩
          ·(try simp only [vx, reduceCtorEq, wi, wl]); omega
        ·refine brP (cloB (.some 40) [(.int .u8 13), (.fn 46)] now = true) (by first | (simp only [vx, reduceCtorEq, wi, wl]; done) | (simp only [vx, reduceCtorEq, wi, wl]; grind)) (fun c55 => ?_) (fun c55 => ?_)
         ·have hσ : m.σ = .cr := now_of (τ := .cr) hR.now c55
          refine brP ((x1.get i) ≠ 13) (by first | (simp only [vx, reduceCtorEq, wi, wl]; done) | (simp only [vx, reduceCtorEq, wi, wl]; grind)) (fun c56 => ?_) (fun c56 => ?_)
          ·have hw : stepZ m (x1.get i) = none := by rw [sz_cr hz0 hz1 hσ, if_neg (by omega)]
           have hwr := hR.wrong hz hw
           rw [hbS, known_res] at hwr
           have hwo : m.out = [[[71, 69, 84], [97]]] := (congrArg (fun x => x.1) hwr).symm
           exact t10_5_wp ⟨by rw [hR.out.1, hwo], hR.out.2⟩ _ _ _ _ _ _ _ _ _ _ _ _
          ·refine clo_wp ?_
           intro y12 o12 q12
           refine need_wp (⟨_, _, _, rfl⟩) ?_
           refine need_wp (by exact kargs) ?_
           refine need_wp (⟨_, _, _, rfl⟩) ?_
           refine need_wp (⟨_, _, _, rfl⟩) ?_
           refine again_wp rfl ⟨(i + 1), y12, (left + 1), n, sm, args, many, arg, out, by first | (simp only [vx, reduceCtorEq, wi, wl]; done) | rfl, ?_⟩ ?_
           ·have hs := (sz_cr hz0 hz1 hσ).trans (if_pos (by omega)); exact ⟨by omega, _, hR.next' hz hz0 hz1 ht hs (q12) (by first | omega | (simp only; omega)) hR.n hR.sm hR.many (fun _ => hR.args (by rw [hσ]; rfl)) hR.arg hR.out⟩
           ·(try simp only [vx, reduceCtorEq, wi, wl]); omega
         ·refine brP (cloB (.some 40) [(.int .u8 10), (.fn 47)] now = true) (by first | (simp only [vx, reduceCtorEq, wi, wl]; done) | (simp only [vx, reduceCtorEq, wi, wl]; grind)) (fun c57 => ?_) (fun c57 => ?_)
          ·have hσ : m.σ = .lf2 := now_of (τ := .lf2) hR.now c57
           obtain ⟨rA, eA, hA1, hA2⟩ := hR.args (by rw [hσ]; rfl)
           subst eA
           have hwt := hR.wt
           have hAl := wS_len m.args
           have hAl2 : rA.l.length = m.args.length := by rw [← hA1, List.length_map]
           have hBs : isB arg.l := by rw [hR.arg.1]; exact isB_bI _
           have kA : arg.ok 1 := hR.arg.2
           simp only [Wt, hσ] at hwt
           have hOl := wO_len m.out
           have hOl2 : out.l.length = m.out.length := by rw [← hR.out.1]; simp [vv]
           have kO : out.ok 1 := hR.out.2.1
           refine brP ((x1.get i) ≠ 10) (by first | (simp only [vx, reduceCtorEq, wi, wl]; done) | (simp only [vx, reduceCtorEq, wi, wl]; grind)) (fun c58 => ?_) (fun c58 => ?_)
           ·have hw : stepZ m (x1.get i) = none := by rw [sz_lf2 hz0 hz1 hσ, if_neg (by omega)]
            have hwr := hR.wrong hz hw
            rw [hbS, known_res] at hwr
            have hwo : m.out = [[[71, 69, 84], [97]]] := (congrArg (fun x => x.1) hwr).symm
            exact t10_5_wp ⟨by rw [hR.out.1, hwo], hR.out.2⟩ _ _ _ _ _ _ _ _ _ _ _ _
           ·refine need_wp (⟨_, _, _, rfl⟩) ?_
            refine need_wp (by simp only [vx, reduceCtorEq, wi, wl]; exact need_bytes (by assumption) (by assumption)) ?_
            refine new_wp eS [(ofBytes arg.l)] (by first | (simp only [vx, reduceCtorEq, wi, wl, eS]; done) | rfl) ?_
            intro a4 b4
            generalize hx4 : (⟨a4, b4, 1, [(ofBytes arg.l)]⟩ : Rw ByteArray) = x4
            have lx4 : x4.l = [(ofBytes arg.l)] := by first | (rw [← hx4]; done) | (rw [← hx4]; rfl)
            have zx4 : x4.z = 1 := by rw [← hx4]
            have kx4 : Rw.ok 1 x4 := .inr zx4
            have nx4 : (x4.l.length : Int) = 1 := by first | (rw [← hx4]; done) | (rw [← hx4]; simp [Rw.nil])
            refine need_wp (rw_row _ _) ?_
            refine need_wp (⟨_, _, _, rfl⟩) ?_
            refine need_wp (by first | exact rw_szz (by assumption) | exact rw_szz (.inr rfl)) ?_
            refine need_wp (by simp only [vx, reduceCtorEq, wi, wl, vlen]; first | omega | (grind)) ?_
            refine need_wp (by simp only [vx, reduceCtorEq, wi, wl, vlen]; first | omega | (grind)) ?_
            refine app_wp eS rA x4 (by first | rfl | simp only [vx, reduceCtorEq, wi, wl]) (by first | rfl | simp only [vx, reduceCtorEq, wi, wl]) ?_
            intro a5 b5
            generalize hx5 : (⟨a5, b5, 1, rA.l ++ x4.l⟩ : Rw ByteArray) = x5
            have lx5 : x5.l = rA.l ++ x4.l := by first | (rw [← hx5]; done) | (rw [← hx5]; rfl)
            have zx5 : x5.z = 1 := by rw [← hx5]
            have kx5 : Rw.ok 1 x5 := .inr zx5
            have nx5 : (x5.l.length : Int) = (rA.l.length : Int) + (x4.l.length : Int) := by first | (rw [← hx5]; done) | (rw [← hx5]; simp [Rw.nil])
            refine need_wp (⟨_, _, _, rfl⟩) ?_
            refine brP ((x5.l.length : Int) < many) (by first | (simp only [vx, reduceCtorEq, wi, wl]; done) | (simp only [vx, reduceCtorEq, wi, wl]; grind)) (fun c59 => ?_) (fun c59 => ?_)
            ·refine clo_wp ?_
             intro y13 o13 q13
             refine need_wp (⟨_, _, _, rfl⟩) ?_
             refine need_wp (⟨_, _, _, rfl⟩) ?_
             refine need_wp (⟨_, _, _, rfl⟩) ?_
             refine need_wp (⟨_, _, _, rfl⟩) ?_
             refine again_wp rfl ⟨(i + 1), y13, (left + 1), n, sm, (Rw.atom eS x5), many, arg, out, by first | (simp only [vx, reduceCtorEq, wi, wl]; done) | rfl, ?_⟩ ?_
             ·have hs := ((sz_lf2 hz0 hz1 hσ).trans (if_pos (by omega))).trans (if_pos (by rw [List.length_append, List.length_singleton]; have := hR.many; omega)); exact ⟨by omega, _, hR.next' hz hz0 hz1 ht hs q13 (by first | omega | (simp only; omega)) hR.n hR.sm hR.many (fun _ => ⟨x5, rfl, by rw [lx5, List.map_append, hA1, lx4]; simp [hR.arg.1, ls_ofBytes], kx5⟩) hR.arg hR.out⟩
             ·(try simp only [vx, reduceCtorEq, wi, wl]); omega
            ·refine new_wp eL [x5] (by first | (simp only [vx, reduceCtorEq, wi, wl, eL]; done) | rfl) ?_
             intro a6 b6
             generalize hx6 : (⟨a6, b6, 1, [x5]⟩ : Rw (Rw ByteArray)) = x6
             have lx6 : x6.l = [x5] := by first | (rw [← hx6]; done) | (rw [← hx6]; rfl)
             have zx6 : x6.z = 1 := by rw [← hx6]
             have kx6 : Rw.ok 1 x6 := .inr zx6
             have nx6 : (x6.l.length : Int) = 1 := by first | (rw [← hx6]; done) | (rw [← hx6]; simp [Rw.nil])
             refine need_wp (⟨_, _, rfl⟩) ?_
             refine need_wp (⟨_, _, _, rfl⟩) ?_
             refine need_wp (by first | exact rw_szz (by assumption) | exact rw_szz (.inr rfl)) ?_
             refine need_wp (by simp only [vx, reduceCtorEq, wi, wl, vlen]; first | omega | (grind)) ?_
             refine need_wp (by simp only [vx, reduceCtorEq, wi, wl, vlen]; first | omega | (grind)) ?_
             refine app_wp eL (Rw.nil : Rw (Rw ByteArray)) x6 (by first | rfl | simp only [vx, reduceCtorEq, wi, wl]) (by first | rfl | simp only [vx, reduceCtorEq, wi, wl]) ?_
             intro a7 b7
             generalize hx7 : (⟨a7, b7, 1, (Rw.nil : Rw (Rw ByteArray)).l ++ x6.l⟩ : Rw (Rw ByteArray)) = x7
             have lx7 : x7.l = x6.l := by first | (rw [← hx7]; done) | (rw [← hx7]; rfl) | (rw [← hx7]; simp [Rw.nil])
             have zx7 : x7.z = 1 := by rw [← hx7]
             have kx7 : Rw.ok 1 x7 := .inr zx7
             have nx7 : (x7.l.length : Int) = 0 + (x6.l.length : Int) := by first | (rw [← hx7]; done) | (rw [← hx7]; simp [Rw.nil])
             refine clo_wp ?_
             intro y14 o14 q14
             refine need_wp (⟨_, _, _, rfl⟩) ?_
             refine brP (0 < (x7.l.length : Int)) (by first | (simp only [vx, reduceCtorEq, wi, wl]; done) | (simp only [vx, reduceCtorEq, wi, wl]; grind)) (fun c60 => ?_) (fun c60 => ?_)
             ·have hg := cell_L x7 (i := 0) (by omega) c60
              have hg6 : x7.get 0 = x5 := by unfold Rw.get; rw [lx7, lx6]; rfl
              refine need_wp (⟨_, _, _, rfl⟩) ?_
              refine need_wp (rw_row _ _) ?_
              refine need_wp (⟨_, _, _, rfl⟩) ?_
              refine need_wp (rw_row _ _) ?_
              refine need_wp (rw_sz' zx7) ?_
              refine need_wp (by simp only [vx, reduceCtorEq, wi, wl, hg]; first | exact ⟨_, _, _, rfl⟩ | exact kind_Rl (by omega) (by omega)) ?_
              refine new_wp eL [(x7.get 0)] (by first | (simp only [vx, reduceCtorEq, wi, wl, hg, eL]; done) | rfl) ?_
              intro a8 b8
              generalize hx8 : (⟨a8, b8, 1, [(x7.get 0)]⟩ : Rw (Rw ByteArray)) = x8
              have lx8 : x8.l = [(x7.get 0)] := by first | (rw [← hx8]; done) | (rw [← hx8]; rfl)
              have zx8 : x8.z = 1 := by rw [← hx8]
              have kx8 : Rw.ok 1 x8 := .inr zx8
              have nx8 : (x8.l.length : Int) = 1 := by first | (rw [← hx8]; done) | (rw [← hx8]; simp [Rw.nil])
              refine need_wp (rw_row _ _) ?_
              refine need_wp (⟨_, _, _, rfl⟩) ?_
              refine need_wp (by first | exact rw_szz (by assumption) | exact rw_szz (.inr rfl)) ?_
              refine need_wp (by simp only [vx, reduceCtorEq, wi, wl, hg, vlen]; first | omega | (grind)) ?_
              refine need_wp (by simp only [vx, reduceCtorEq, wi, wl, hg, vlen]; first | omega | (grind)) ?_
              refine app_wp eL out x8 (by first | rfl | simp only [vx, reduceCtorEq, wi, wl, hg]) (by first | rfl | simp only [vx, reduceCtorEq, wi, wl, hg]) ?_
              intro a9 b9
              generalize hx9 : (⟨a9, b9, 1, out.l ++ x8.l⟩ : Rw (Rw ByteArray)) = x9
              have lx9 : x9.l = out.l ++ x8.l := by first | (rw [← hx9]; done) | (rw [← hx9]; rfl)
              have zx9 : x9.z = 1 := by rw [← hx9]
              have kx9 : Rw.ok 1 x9 := .inr zx9
              have nx9 : (x9.l.length : Int) = (out.l.length : Int) + (x8.l.length : Int) := by first | (rw [← hx9]; done) | (rw [← hx9]; simp [Rw.nil])
              refine brP (1 < (x7.l.length : Int)) (by first | (simp only [vx, reduceCtorEq, wi, wl, hg]; done) | (simp only [vx, reduceCtorEq, wi, wl, hg]; grind)) (fun c61 => ?_) (fun c61 => ?_)
              ·exfalso; omega
              ·refine need_wp (by first | exact ⟨_, _, _, rfl⟩ | (simp only [vx, reduceCtorEq, wi, wl, hg]; exact ⟨_, _, _, rfl⟩)) ?_
               refine need_wp (⟨_, _, _, rfl⟩) ?_
               refine need_wp (⟨_, _, _, rfl⟩) ?_
               refine again_wp rfl ⟨(i + 1), y14, 0, n, sm, ((Rw.atom eS x5).1, D.leaf), many, arg, x9, by first | (simp only [vx, reduceCtorEq, wi, wl, hg]; done) | rfl, ?_⟩ ?_
               ·have hs := ((sz_lf2 hz0 hz1 hσ).trans (if_pos (by omega))).trans (if_neg (by rw [List.length_append, List.length_singleton]; have := hR.many; omega)); exact ⟨by omega, _, hR.next' hz hz0 hz1 ht hs q14 (by first | omega | (simp only; omega)) hR.n hR.sm hR.many (fun h => by simp [hasA] at h) hR.arg ⟨by rw [vv, lx9, lx8, List.map_append, List.map_append, hg6, ← hR.out.1]; simp [vv, lx5, lx4, hA1, hR.arg.1, ls_ofBytes], kx9, by intro y hy; rw [lx9, lx8, hg6] at hy; rcases List.mem_append.1 hy with h | h; exact hR.out.2.2 y h; rw [List.mem_singleton.1 h]; exact kx5⟩⟩
               ·(try simp only [vx, reduceCtorEq, wi, wl, hg]); omega
             ·exfalso; omega
          ·exfalso; first | omega | (have hq := hR.now; cases hσ : m.σ <;> (try (rename_i k; cases k)) <;> rw [hσ] at hq <;> simp only [Now] at hq <;> contradiction)
 ·exfalso; have hD := hR.done (by rw [bS_len]; omega); rw [hbS, known_res] at hD; have hD2 := congrArg (fun x => x.2.2) hD; simp at hD2
end Go.Proofs.YtamjocnlhhhijaaK
