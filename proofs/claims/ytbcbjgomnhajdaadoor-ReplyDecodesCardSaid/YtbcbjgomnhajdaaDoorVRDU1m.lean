/-  -/
import Derived.Test.YtbcbjgomnhajdaaDoorVRDp2m
import Derived.Test.YtbcbjgomnhajdaaDoorVRDu
set_option linter.unusedSimpArgs false
set_option linter.unusedVariables false
section
set_option linter.unusedSimpArgs false
set_option linter.unusedVariables false
set_option linter.unnecessarySimpa false
namespace Go.Proofs.YtbcbjgomnhajdaaDoorK
open Go Go.Proofs.YtbcbjgomnhajdaaDoorV Go.Proofs Go.Proofs.YtbcbjgomnhajdaaDoorK Go.Proofs.YtbcbjgomnhajdaaDoorK
set_option maxHeartbeats 1000000 in
theorem h54s {k : Nat} (h54 : holds Tryd.prog (kP12 k sg54)) : holds Tryd.prog (kP12 (k + 1) sg54) := by
 refine fn_holds (l := [kP12 k sg54]) ⟨h54, trivial⟩ hP rs54 (inj_of (fun l : List Atom => (vi (l.getD 0 atom0).1 : Int)) (fun _ => rfl)) Tryd.func54 (by kernel_rfl) (c := code Tryd.f54) (by kernel_rfl) (an := an54) (by kernel_rfl) (pk := pk54) rfl (t := t54) (by kernel_rfl) ?_
 rintro n ⟨hpre, h64⟩
 refine ⟨by simp [pk54, KindsOk, RK.ok, Rw.atom, Sl.atom], ?_⟩
 unfold t54
 unfold in64 at h64
 refine br_wp (fun c1 => ?_) (fun c1 => ?_)
 ·replace c1 : n ≥ 0 := by first | simpa only [vd, reduceCtorEq, ve, updD] using c1 | (simp only [vd, reduceCtorEq, ve, updD] at c1; grind)
  refine br_wp (fun c2 => ?_) (fun c2 => ?_)
  ·replace c2 : n < 10 := by first | simpa only [vd, reduceCtorEq, ve, updD] using c2 | (simp only [vd, reduceCtorEq, ve, updD] at c2; grind)
   have wu : IntKind.i64.wrap (48 + n) = 48 + n := wrap_id _ (by omega) (by omega)
   have w8 : IntKind.u8.wrap (48 + n) = 48 + n := by rw [IntKind.wrap_u8]; omega
   refine new_wp eB [(48 + n)] (by first | (simp only [vd, reduceCtorEq, ve, updD, wu, w8, eB]; done) | rfl) ?_
   intro a1 b1
   refine need_wp (by first | exact ⟨_, _, _, rfl⟩ | (simp only [vd, reduceCtorEq, ve, updD, wu, w8]; exact ⟨_, _, _, rfl⟩)) ?_
   refine need_wp (by simp only [vd, reduceCtorEq, ve, updD, wu, w8]; exact bytes_one _ _ (by omega) (by omega)) ?_
   refine ret_wp ?_
   try dsimp only
   simp only [vd, reduceCtorEq, ve, updD, wu, w8]; rw [ofBytes_one, prt_one (by omega) (by omega), show (48 + n).toNat = 48 + n.toNat by omega]
  ·replace c2 : ¬(n < 10) := by first | simpa only [vd, reduceCtorEq, ve, updD] using c2 | (simp only [vd, reduceCtorEq, ve, updD] at c2; grind)
   refine br_wp (fun c3 => ?_) (fun c3 => ?_)
   ·replace c3 : n > 0 := by first | simpa only [vd, reduceCtorEq, ve, updD] using c3 | (simp only [vd, reduceCtorEq, ve, updD] at c3; grind)
    have pu := pre_up hpre (by omega)
    have u1 : quoD .i64 n 10 = n / 10 := quo_id n 10 (by omega) (by omega) (by omega)
    have u2 : remD n 10 = n % 10 := rem_id n 10 (by omega)
    refine call_fun ((n / 10)) rfl (by first | (simp only [vd, reduceCtorEq, ve, updD, u1, u2]; done) | (simp only [vd, reduceCtorEq, ve, updD, u1, u2]; rfl)) (⟨pu.1, by unfold in64; omega⟩) ?_
    refine call_fun ((n % 10)) rfl (by first | (simp only [vd, reduceCtorEq, ve, updD, u1, u2]; done) | (simp only [vd, reduceCtorEq, ve, updD, u1, u2]; rfl)) (⟨pu.2, by unfold in64; omega⟩) ?_
    refine need_wp (by simp only [vd, reduceCtorEq, ve, updD, u1, u2, size_app]; have z1 := prt_size (n := n / 10) (by unfold in64; omega); have z2 := prt_size (n := n % 10) (by unfold in64; omega); omega) ?_
    refine ret_wp ?_
    try dsimp only
    simp only [vd, reduceCtorEq, ve, updD, u1, u2]; rw [prt_up (n := n) (by omega)]
   ·replace c3 : ¬(n > 0) := by first | simpa only [vd, reduceCtorEq, ve, updD] using c3 | (simp only [vd, reduceCtorEq, ve, updD] at c3; grind)
    exfalso; omega
 ·replace c1 : ¬(n ≥ 0) := by first | simpa only [vd, reduceCtorEq, ve, updD] using c1 | (simp only [vd, reduceCtorEq, ve, updD] at c1; grind)
  refine br_wp (fun c5 => ?_) (fun c5 => ?_)
  ·replace c5 : n > 0 := by first | simpa only [vd, reduceCtorEq, ve, updD] using c5 | (simp only [vd, reduceCtorEq, ve, updD] at c5; grind)
   exfalso; omega
  ·replace c5 : ¬(n > 0) := by first | simpa only [vd, reduceCtorEq, ve, updD] using c5 | (simp only [vd, reduceCtorEq, ve, updD] at c5; grind)
   refine br_wp (fun c6 => ?_) (fun c6 => ?_)
   ·replace c6 : n > (-10) := by first | simpa only [vd, reduceCtorEq, ve, updD] using c6 | (simp only [vd, reduceCtorEq, ve, updD] at c6; grind)
    have pn := pre_neg hpre (by omega) (by omega)
    have u6 : IntKind.i64.wrap (0 - n) = -n := by rw [wrap_id _ (by omega) (by omega)]; omega
    refine call_fun ((-n)) rfl (by first | (simp only [vd, reduceCtorEq, ve, updD, u6]; done) | (simp only [vd, reduceCtorEq, ve, updD, u6]; rfl)) (⟨pn, by unfold in64; omega⟩) ?_
    refine need_wp (by simp only [vd, reduceCtorEq, ve, updD, u6, size_app]; have z0 : ((⟨#[45]⟩ : ByteArray).size : Int) = 1 := rfl; have z1 := prt_size (n := -n) (by unfold in64; omega); omega) ?_
    refine ret_wp ?_
    try dsimp only
    simp only [vd, reduceCtorEq, ve, updD, u6]; rw [prt_ng (n := n) (by omega)]; rfl
   ·replace c6 : ¬(n > (-10)) := by first | simpa only [vd, reduceCtorEq, ve, updD] using c6 | (simp only [vd, reduceCtorEq, ve, updD] at c6; grind)
    have pd := pre_dn hpre (by omega)
    have u3 := quo_neg (n := n) (by omega) (by omega)
    have u4 := rem_neg (n := n) (by omega)
    have u5 : IntKind.i64.wrap (0 - -(-n % 10)) = -n % 10 := by rw [wrap_id _ (by omega) (by omega)]; omega
    refine call_fun ((-(-n / 10))) rfl (by first | (simp only [vd, reduceCtorEq, ve, updD, u3, u4, u5]; done) | (simp only [vd, reduceCtorEq, ve, updD, u3, u4, u5]; rfl)) (⟨pd.1, by unfold in64; omega⟩) ?_
    refine call_fun ((-n % 10)) rfl (by first | (simp only [vd, reduceCtorEq, ve, updD, u3, u4, u5]; done) | (simp only [vd, reduceCtorEq, ve, updD, u3, u4, u5]; rfl)) (⟨pd.2, by unfold in64; omega⟩) ?_
    refine need_wp (by simp only [vd, reduceCtorEq, ve, updD, u3, u4, u5, size_app]; have z1 := prt_size (n := -(-n / 10)) (by unfold in64; omega); have z2 := prt_size (n := -n % 10) (by unfold in64; omega); omega) ?_
    refine ret_wp ?_
    try dsimp only
    simp only [vd, reduceCtorEq, ve, updD, u3, u4, u5]; rw [prt_dn (n := n) (by omega)]
theorem h54k (k : Nat) : holds Tryd.prog (kP12 k sg54) := by
 induction k with
 | zero => exact ⟨⟨Tryd.f54, Tryd.func54, by kernel_rfl, by kernel_rfl⟩, fun _ _ _ _ _ h => by obtain ⟨x, _, ⟨h, _⟩, _⟩ := h; omega⟩
 | succ k ih => exact h54s ih
theorem h54 : holds Tryd.prog (kPrint sg54) := holds_pre (h54k 21) fun x h => ⟨pre_64 h, h⟩
def kParseR (sg : Sig) : Sig × Con := (sg, mkRel (fun x : ByteArray => ([aS x] : List Atom)) (fun _ => True) (fun x : Int × Bool => ([aI x.1, aB x.2] : List Atom)) parR)
set_option maxHeartbeats 1000000 in
theorem h46 : holds Tryd.prog (kParseR sg46) := by
 refine fn_holds (l := [kPrint sg54]) ⟨h54, trivial⟩ hP rs46 (inj_of (fun l : List Atom => (vs (l.getD 0 atom0).1 : ByteArray)) (fun _ => rfl)) Tryd.func46 (by kernel_rfl) (c := code Tryd.f46) (by kernel_rfl) (an := an46) (by kernel_rfl) (pk := pk46) rfl (t := t46) (by kernel_rfl) ?_
 rintro s hpre
 refine ⟨by simp [pk46, KindsOk, RK.ok, Rw.atom, Sl.atom], ?_⟩
 unfold t46
 refine br_wp (fun c1 => ?_) (fun c1 => ?_)
 ·replace c1 : (s.size : Int) < 1 := by first | simpa only [vd, reduceCtorEq, ve, updD] using c1 | (simp only [vd, reduceCtorEq, ve, updD] at c1; grind)
  refine ret_wp ?_
  refine ⟨(0, false), by first | (simp only [vd, reduceCtorEq, ve, updD]; done) | (simp only [vd, reduceCtorEq, ve, updD]; rfl), ?_⟩
  try dsimp only
  exact par_no (fun h => by have := can_len h; omega)
 ·replace c1 : ¬((s.size : Int) < 1) := by first | simpa only [vd, reduceCtorEq, ve, updD] using c1 | (simp only [vd, reduceCtorEq, ve, updD] at c1; grind)
  refine br_wp (fun c2 => ?_) (fun c2 => ?_)
  ·replace c2 : (s.size : Int) > 20 := by first | simpa only [vd, reduceCtorEq, ve, updD] using c2 | (simp only [vd, reduceCtorEq, ve, updD] at c2; grind)
   refine ret_wp ?_
   refine ⟨(0, false), by first | (simp only [vd, reduceCtorEq, ve, updD]; done) | (simp only [vd, reduceCtorEq, ve, updD]; rfl), ?_⟩
   try dsimp only
   exact par_no (fun h => by have := can_len h; omega)
  ·replace c2 : ¬((s.size : Int) > 20) := by first | simpa only [vd, reduceCtorEq, ve, updD] using c2 | (simp only [vd, reduceCtorEq, ve, updD] at c2; grind)
   refine loop_wp (fun bs0 => ∃ (n : Int) (i : Int), bs0 = [aI n, aI i] ∧ (0 ≤ i ∧ i ≤ (s.size : Int) ∧ n = IntKind.i64.wrap (vl (body (ls s) i.toNat) : Int))) (fun bs0 => ((s.size : Int) - vi (bs0.getD 1 atom0).1).toNat) ?_ ?_
   ·refine ⟨0, 0, by first | (simp only [vd, reduceCtorEq, ve, updD]; done) | (simp only [vd, reduceCtorEq, ve, updD]; rfl) | simp only [vd, reduceCtorEq, ve, updD, Rw.atom, Rw.nil, List.length_nil, List.map_nil], ?_⟩
    exact ⟨by omega, by omega, by simp [body_zero, vl, vl0]; rfl⟩
   rintro _ _ ⟨n, i, rfl, ⟨i0, i1, hn⟩⟩
   refine br_wp (fun c3 => ?_) (fun c3 => ?_)
   ·replace c3 : i < (s.size : Int) := by first | simpa only [vd, reduceCtorEq, ve, updD] using c3 | (simp only [vd, reduceCtorEq, ve, updD] at c3; grind)
    refine br_wp (fun c4 => ?_) (fun c4 => ?_)
    ·replace c4 : i = 0 := by first | simpa only [vd, reduceCtorEq, ve, updD] using c4 | (simp only [vd, reduceCtorEq, ve, updD] at c4; grind)
     obtain ⟨ch_, hl, hb⟩ := byteAt_ex (s := s) (i := i) (by omega) (by omega)
     have wi : IntKind.i64.wrap (i + 1) = i + 1 := wrap_id _ (by omega) (by omega)
     refine need_wp (by simp only [vd, reduceCtorEq, ve, updD, wi, List.length_cons, List.length_nil, List.length_append, List.length_set]; first | omega | (grind)) ?_
     refine br_wp (fun c5 => ?_) (fun c5 => ?_)
     ·replace c5 : (byteAt s 0) = 45 := by first | simpa only [vd, reduceCtorEq, ve, updD, wi] using c5 | (simp only [vd, reduceCtorEq, ve, updD, wi] at c5; grind)
      refine again_wp rfl ⟨n, (i + 1), by simp only [vd, reduceCtorEq, ve, updD, wi], ?_⟩ ?_
      ·have h0 : i = 0 := (by omega); subst h0; have h45 : (ls s)[0]? = some 45 := (by have : ch_ = 45 := (UInt8.toNat_inj.1 (by rw [hb] at c5; simpa using Int.ofNat.inj c5)); rw [← this]; exact hl); exact ⟨by omega, by omega, by rw [hn, show ((0:Int) + 1).toNat = 1 from rfl, body_one h45]; simp [body_zero]⟩
      ·(try simp only [vd, reduceCtorEq, ve, updD, wi]); omega
     ·replace c5 : ¬((byteAt s 0) = 45) := by first | simpa only [vd, reduceCtorEq, ve, updD, wi] using c5 | (simp only [vd, reduceCtorEq, ve, updD, wi] at c5; grind)
      refine need_wp (by simp only [vd, reduceCtorEq, ve, updD, wi, List.length_cons, List.length_nil, List.length_append, List.length_set]; first | omega | (grind)) ?_
      refine br_wp (fun c6 => ?_) (fun c6 => ?_)
      ·replace c6 : (byteAt s i) < 48 := by first | simpa only [vd, reduceCtorEq, ve, updD, wi] using c6 | (simp only [vd, reduceCtorEq, ve, updD, wi] at c6; grind)
       refine pop_wp ?_
       refine ret_wp ?_
       refine ⟨(0, false), by first | (simp only [vd, reduceCtorEq, ve, updD, wi]; done) | (simp only [vd, reduceCtorEq, ve, updD, wi]; rfl), ?_⟩
       try dsimp only
       exact par_no (fun h => by rcases can_dig h hl with h2 | ⟨h2, h3⟩; (unfold dig at h2; omega); first | omega | (subst h3; have : i = 0 := (by omega); subst this; exact c5 hb))
      ·replace c6 : ¬((byteAt s i) < 48) := by first | simpa only [vd, reduceCtorEq, ve, updD, wi] using c6 | (simp only [vd, reduceCtorEq, ve, updD, wi] at c6; grind)
       refine br_wp (fun c7 => ?_) (fun c7 => ?_)
       ·replace c7 : (byteAt s i) > 57 := by first | simpa only [vd, reduceCtorEq, ve, updD, wi] using c7 | (simp only [vd, reduceCtorEq, ve, updD, wi] at c7; grind)
        refine pop_wp ?_
        refine ret_wp ?_
        refine ⟨(0, false), by first | (simp only [vd, reduceCtorEq, ve, updD, wi]; done) | (simp only [vd, reduceCtorEq, ve, updD, wi]; rfl), ?_⟩
        try dsimp only
        exact par_no (fun h => by rcases can_dig h hl with h2 | ⟨h2, h3⟩; (unfold dig at h2; omega); first | omega | (subst h3; have : i = 0 := (by omega); subst this; exact c5 hb))
       ·replace c7 : ¬((byteAt s i) > 57) := by first | simpa only [vd, reduceCtorEq, ve, updD, wi] using c7 | (simp only [vd, reduceCtorEq, ve, updD, wi] at c7; grind)
        refine again_wp rfl ⟨(IntKind.i64.wrap ((IntKind.i64.wrap ((IntKind.i64.wrap (10 * n)) + (IntKind.i64.wrap (byteAt s i)))) - 48)), (i + 1), by simp only [vd, reduceCtorEq, ve, updD, wi], ?_⟩ ?_
        ·refine ⟨by omega, by omega, ?_⟩; rw [hb, hn, show (i + 1).toNat = i.toNat + 1 by omega, body_succ hl (fun h => by obtain ⟨h2, h3⟩ := h; subst h3; have : i = 0 := (by omega); subst this; exact c5 hb), vl_app]; exact wrap_step _ (by unfold dig; omega)
        ·(try simp only [vd, reduceCtorEq, ve, updD, wi]); omega
    ·replace c4 : ¬(i = 0) := by first | simpa only [vd, reduceCtorEq, ve, updD] using c4 | (simp only [vd, reduceCtorEq, ve, updD] at c4; grind)
     obtain ⟨ch_, hl, hb⟩ := byteAt_ex (s := s) (i := i) (by omega) (by omega)
     have wi : IntKind.i64.wrap (i + 1) = i + 1 := wrap_id _ (by omega) (by omega)
     refine need_wp (by simp only [vd, reduceCtorEq, ve, updD, wi, List.length_cons, List.length_nil, List.length_append, List.length_set]; first | omega | (grind)) ?_
     refine br_wp (fun c8 => ?_) (fun c8 => ?_)
     ·replace c8 : (byteAt s i) < 48 := by first | simpa only [vd, reduceCtorEq, ve, updD, wi] using c8 | (simp only [vd, reduceCtorEq, ve, updD, wi] at c8; grind)
      refine pop_wp ?_
      refine ret_wp ?_
      refine ⟨(0, false), by first | (simp only [vd, reduceCtorEq, ve, updD, wi]; done) | (simp only [vd, reduceCtorEq, ve, updD, wi]; rfl), ?_⟩
      try dsimp only
      exact par_no (fun h => by rcases can_dig h hl with h2 | ⟨h2, h3⟩; (unfold dig at h2; omega); first | omega | (subst h3; have : i = 0 := (by omega); subst this; exact c5 hb))
     ·replace c8 : ¬((byteAt s i) < 48) := by first | simpa only [vd, reduceCtorEq, ve, updD, wi] using c8 | (simp only [vd, reduceCtorEq, ve, updD, wi] at c8; grind)
      refine br_wp (fun c9 => ?_) (fun c9 => ?_)
      ·replace c9 : (byteAt s i) > 57 := by first | simpa only [vd, reduceCtorEq, ve, updD, wi] using c9 | (simp only [vd, reduceCtorEq, ve, updD, wi] at c9; grind)
       refine pop_wp ?_
       refine ret_wp ?_
       refine ⟨(0, false), by first | (simp only [vd, reduceCtorEq, ve, updD, wi]; done) | (simp only [vd, reduceCtorEq, ve, updD, wi]; rfl), ?_⟩
       try dsimp only
       exact par_no (fun h => by rcases can_dig h hl with h2 | ⟨h2, h3⟩; (unfold dig at h2; omega); first | omega | (subst h3; have : i = 0 := (by omega); subst this; exact c5 hb))
      ·replace c9 : ¬((byteAt s i) > 57) := by first | simpa only [vd, reduceCtorEq, ve, updD, wi] using c9 | (simp only [vd, reduceCtorEq, ve, updD, wi] at c9; grind)
       refine again_wp rfl ⟨(IntKind.i64.wrap ((IntKind.i64.wrap ((IntKind.i64.wrap (10 * n)) + (IntKind.i64.wrap (byteAt s i)))) - 48)), (i + 1), by simp only [vd, reduceCtorEq, ve, updD, wi], ?_⟩ ?_
       ·refine ⟨by omega, by omega, ?_⟩; rw [hb, hn, show (i + 1).toNat = i.toNat + 1 by omega, body_succ hl (fun h => by obtain ⟨h2, h3⟩ := h; omega), vl_app]; exact wrap_step _ (by unfold dig; omega)
       ·(try simp only [vd, reduceCtorEq, ve, updD, wi]); omega
   ·replace c3 : ¬(i < (s.size : Int)) := by first | simpa only [vd, reduceCtorEq, ve, updD] using c3 | (simp only [vd, reduceCtorEq, ve, updD] at c3; grind)
    have hi : i.toNat = (ls s).length := by have := size_ls s; omega
    rw [hi] at hn
    have hv := sgn_val (ls s)
    unfold sgn at hv
    obtain ⟨ch_, hl, hb⟩ := byteAt_ex (s := s) (i := 0) (by omega) (by omega)
    have hh := List.head?_eq_getElem? (l := ls s)
    have hl0 : (ls s)[0]? = some ch_ := hl
    refine pop_wp ?_
    refine need_wp (by simp only [vd, reduceCtorEq, ve, updD, List.length_cons, List.length_nil, List.length_append, List.length_set]; first | omega | (grind)) ?_
    refine br_wp (fun c10 => ?_) (fun c10 => ?_)
    ·replace c10 : (byteAt s 0) = 45 := by first | simpa only [vd, reduceCtorEq, ve, updD] using c10 | (simp only [vd, reduceCtorEq, ve, updD] at c10; grind)
     refine call_fun ((IntKind.i64.wrap (0 - n))) rfl (by first | (simp only [vd, reduceCtorEq, ve, updD]; done) | (simp only [vd, reduceCtorEq, ve, updD]; rfl)) (wrap_in64 _) ?_
     refine ret_wp ?_
     refine ⟨((IntKind.i64.wrap (0 - n)), (decide ((prt (IntKind.i64.wrap (0 - n))) = s))), by first | (simp only [vd, reduceCtorEq, ve, updD]; done) | (simp only [vd, reduceCtorEq, ve, updD]; rfl), ?_⟩
     try dsimp only
     exact par_yes (wrap_in64 _) (fun h => by have h45 : ch_ = 45 := (UInt8.toNat_inj.1 (by rw [hb] at c10; simpa using Int.ofNat.inj c10)); rw [hh, hl0, h45, if_pos rfl] at hv; rw [hn, wrap_neg, hv]; exact wrap_in h.1)
    ·replace c10 : ¬((byteAt s 0) = 45) := by first | simpa only [vd, reduceCtorEq, ve, updD] using c10 | (simp only [vd, reduceCtorEq, ve, updD] at c10; grind)
     refine call_fun (n) rfl (by first | (simp only [vd, reduceCtorEq, ve, updD]; done) | (simp only [vd, reduceCtorEq, ve, updD]; rfl)) (by rw [hn]; exact wrap_in64 _) ?_
     refine ret_wp ?_
     refine ⟨(n, (decide ((prt n) = s))), by first | (simp only [vd, reduceCtorEq, ve, updD]; done) | (simp only [vd, reduceCtorEq, ve, updD]; rfl), ?_⟩
     try dsimp only
     exact par_yes (by rw [hn]; exact wrap_in64 _) (fun h => by have h45 : ¬ch_ = 45 := (fun e => c10 (by rw [hb, e]; rfl)); rw [hh, hl0, if_neg (fun e => h45 (Option.some.inj e))] at hv; rw [hn, hv]; exact wrap_in h.1)
def kFail (sg : Sig) : Sig × Con := (sg, mkFun (fun x : Tt × Int => ([aS x.1.s, aI x.1.e, aI x.2] : List Atom)) (fun _ => True) (fun x => [aS x.1.s, aI (if x.1.e = 0 then x.2 else x.1.e)]))
set_option maxHeartbeats 1000000 in
theorem h44 : holds Tryd.prog (kFail sg44) := by
 refine fn_holds (l := []) trivial hP rs44 (inj_of (fun l : List Atom => (((⟨vs (l.getD 0 atom0).1, vi (l.getD 1 atom0).1⟩ : Tt), vi (l.getD 2 atom0).1) : Tt × Int)) (fun _ => rfl)) Tryd.func44 (by kernel_rfl) (c := code Tryd.f44) (by kernel_rfl) (an := an44) (by kernel_rfl) (pk := pk44) rfl (t := t44) (by kernel_rfl) ?_
 rintro ⟨t, e⟩ _
 refine ⟨by simp [pk44, KindsOk, RK.ok, Rw.atom, Sl.atom], ?_⟩
 unfold t44
 refine br_wp (fun c1 => ?_) (fun c1 => ?_)
 ·replace c1 : t.e = 0 := by first | simpa only [vd, reduceCtorEq, ve, updD] using c1 | (simp only [vd, reduceCtorEq, ve, updD] at c1; grind)
  refine ret_wp ?_
  try dsimp only
  simp only [vd, reduceCtorEq, ve, updD]; rw [if_pos c1]
 ·replace c1 : ¬(t.e = 0) := by first | simpa only [vd, reduceCtorEq, ve, updD] using c1 | (simp only [vd, reduceCtorEq, ve, updD] at c1; grind)
  refine ret_wp ?_
  try dsimp only
  simp only [vd, reduceCtorEq, ve, updD]; rw [if_neg c1]
def kMay (sg : Sig) : Sig × Con := (sg, mkFun (fun x : ByteArray × Int × Int => ([aS x.1, aI x.2.1, aI x.2.2] : List Atom)) (fun _ => True) (fun x => [aB (decide (mayL (ls x.1) x.2.1 x.2.2))]))
set_option maxHeartbeats 1000000 in
theorem h45 : holds Tryd.prog (kMay sg45) := by
 refine fn_holds (l := [kParseR sg46]) ⟨h46, trivial⟩ hP rs45 (inj_of (fun l : List Atom => ((vs (l.getD 0 atom0).1, vi (l.getD 1 atom0).1, vi (l.getD 2 atom0).1) : ByteArray × Int × Int)) (fun _ => rfl)) Tryd.func45 (by kernel_rfl) (c := code Tryd.f45) (by kernel_rfl) (an := an45) (by kernel_rfl) (pk := pk45) rfl (t := t45) (by kernel_rfl) ?_
 rintro ⟨s, a, b⟩ _
 refine ⟨by simp [pk45, KindsOk, RK.ok, Rw.atom, Sl.atom], ?_⟩
 unfold t45
 refine br_wp (fun c1 => ?_) (fun c1 => ?_)
 ·replace c1 : s = (⟨#[]⟩ : ByteArray) := by first | simpa only [vd, reduceCtorEq, ve, updD] using c1 | (simp only [vd, reduceCtorEq, ve, updD] at c1; grind)
  refine ret_wp ?_
  try dsimp only
  simp only [vd, reduceCtorEq, ve, updD]; exact (decide_eq_true (.inl ((ls_em s).1 c1))).symm
 ·replace c1 : ¬(s = (⟨#[]⟩ : ByteArray)) := by first | simpa only [vd, reduceCtorEq, ve, updD] using c1 | (simp only [vd, reduceCtorEq, ve, updD] at c1; grind)
  refine br_wp (fun c2 => ?_) (fun c2 => ?_)
  ·replace c2 : s = (⟨#[45]⟩ : ByteArray) := by first | simpa only [vd, reduceCtorEq, ve, updD] using c2 | (simp only [vd, reduceCtorEq, ve, updD] at c2; grind)
   refine br_wp (fun c3 => ?_) (fun c3 => ?_)
   ·replace c3 : a < 0 := by first | simpa only [vd, reduceCtorEq, ve, updD] using c3 | (simp only [vd, reduceCtorEq, ve, updD] at c3; grind)
    refine ret_wp ?_
    try dsimp only
    simp only [vd, reduceCtorEq, ve, updD]; exact (decide_eq_true (.inr (.inl ⟨(ls_45 s).1 c2, c3⟩))).symm
   ·replace c3 : ¬(a < 0) := by first | simpa only [vd, reduceCtorEq, ve, updD] using c3 | (simp only [vd, reduceCtorEq, ve, updD] at c3; grind)
    refine call_rel (s) rfl (by first | (simp only [vd, reduceCtorEq, ve, updD]; done) | (simp only [vd, reduceCtorEq, ve, updD]; rfl)) trivial ?_
    rintro ⟨y1, b1⟩ ⟨eb1, ey1⟩
    try dsimp only at eb1 ey1
    refine br_wp (fun c4 => ?_) (fun c4 => ?_)
    ·replace c4 : b1 = true := by first | simpa only [vd, reduceCtorEq, ve, updD] using c4 | (simp only [vd, reduceCtorEq, ve, updD] at c4; grind)
     refine br_wp (fun c5 => ?_) (fun c5 => ?_)
     ·replace c5 : y1 > b := by first | simpa only [vd, reduceCtorEq, ve, updD] using c5 | (simp only [vd, reduceCtorEq, ve, updD] at c5; grind)
      refine ret_wp ?_
      try dsimp only
      simp only [vd, reduceCtorEq, ve, updD]; exact (decide_eq_false (fun h => by have := (may_canB (can_b eb1 c4) h).1; have := ey1 c4; omega)).symm
     ·replace c5 : ¬(y1 > b) := by first | simpa only [vd, reduceCtorEq, ve, updD] using c5 | (simp only [vd, reduceCtorEq, ve, updD] at c5; grind)
      refine ret_wp ?_
      try dsimp only
      simp only [vd, reduceCtorEq, ve, updD]; exact decide_eq_decide.2 (⟨fun h => .inr (.inr ⟨can_b eb1 c4, by have := ey1 c4; omega, by have := ey1 c4; omega⟩), fun h => by have := (may_canB (can_b eb1 c4) h).2; have := ey1 c4; omega⟩)
    ·replace c4 : ¬(b1 = true) := by first | simpa only [vd, reduceCtorEq, ve, updD] using c4 | (simp only [vd, reduceCtorEq, ve, updD] at c4; grind)
     refine ret_wp ?_
     try dsimp only
     simp only [vd, reduceCtorEq, ve, updD]; exact (decide_eq_false (may_nc (no_b eb1 c4) c1 (fun h => c3 h.2))).symm
  ·replace c2 : ¬(s = (⟨#[45]⟩ : ByteArray)) := by first | simpa only [vd, reduceCtorEq, ve, updD] using c2 | (simp only [vd, reduceCtorEq, ve, updD] at c2; grind)
   refine call_rel (s) rfl (by first | (simp only [vd, reduceCtorEq, ve, updD]; done) | (simp only [vd, reduceCtorEq, ve, updD]; rfl)) trivial ?_
   rintro ⟨y2, b2⟩ ⟨eb2, ey2⟩
   try dsimp only at eb2 ey2
   refine br_wp (fun c6 => ?_) (fun c6 => ?_)
   ·replace c6 : b2 = true := by first | simpa only [vd, reduceCtorEq, ve, updD] using c6 | (simp only [vd, reduceCtorEq, ve, updD] at c6; grind)
    refine br_wp (fun c7 => ?_) (fun c7 => ?_)
    ·replace c7 : y2 > b := by first | simpa only [vd, reduceCtorEq, ve, updD] using c7 | (simp only [vd, reduceCtorEq, ve, updD] at c7; grind)
     refine ret_wp ?_
     try dsimp only
     simp only [vd, reduceCtorEq, ve, updD]; exact (decide_eq_false (fun h => by have := (may_canB (can_b eb2 c6) h).1; have := ey2 c6; omega)).symm
    ·replace c7 : ¬(y2 > b) := by first | simpa only [vd, reduceCtorEq, ve, updD] using c7 | (simp only [vd, reduceCtorEq, ve, updD] at c7; grind)
     refine ret_wp ?_
     try dsimp only
     simp only [vd, reduceCtorEq, ve, updD]; exact decide_eq_decide.2 (⟨fun h => .inr (.inr ⟨can_b eb2 c6, by have := ey2 c6; omega, by have := ey2 c6; omega⟩), fun h => by have := (may_canB (can_b eb2 c6) h).2; have := ey2 c6; omega⟩)
   ·replace c6 : ¬(b2 = true) := by first | simpa only [vd, reduceCtorEq, ve, updD] using c6 | (simp only [vd, reduceCtorEq, ve, updD] at c6; grind)
    refine ret_wp ?_
    try dsimp only
    simp only [vd, reduceCtorEq, ve, updD]; exact (decide_eq_false (may_nc (no_b eb2 c6) c1 (fun h => c2 h.1))).symm
end Go.Proofs.YtbcbjgomnhajdaaDoorK
end

section
set_option linter.unusedSimpArgs false
set_option linter.unusedVariables false
set_option linter.unnecessarySimpa false
namespace Go.Proofs.YtbcbjgomnhajdaaDoorK
open Go Go.Proofs.YtbcbjgomnhajdaaDoorV Go.Proofs Go.Proofs.YtbcbjgomnhajdaaDoorK Go.Proofs.YtbcbjgomnhajdaaDoorK
def kText (sg : Sig) : Sig × Con := (sg, mkRel (fun x : Tt => ([aS x.s, aI x.e] : List Atom)) (fun t => t.e = 0 → t.s.size ≤ 1000000) (fun x : Tt × ByteArray => ([aS x.1.s, aI x.1.e, aS x.2] : List Atom)) textR)
set_option maxHeartbeats 1000000 in
theorem h25 : holds Tryd.prog (kText sg25) := by
 refine fn_holds (l := [kFail sg44]) ⟨h44, trivial⟩ hP rs25 (inj_of (fun l : List Atom => ((⟨vs (l.getD 0 atom0).1, vi (l.getD 1 atom0).1⟩ : Tt) : Tt)) (fun _ => rfl)) Tryd.func25 (by kernel_rfl) (c := code Tryd.f25) (by kernel_rfl) (an := an25) (by kernel_rfl) (pk := pk25) rfl (t := t25) (by kernel_rfl) ?_
 rintro t hp
 refine ⟨by simp [pk25, KindsOk, RK.ok, Rw.atom, Sl.atom], ?_⟩
 unfold t25
 refine loop_wp (fun bs0 => ∃ (i : Int), bs0 = [aI i] ∧ (0 ≤ i ∧ i ≤ (t.s.size : Int) ∧ cleanL ((ls t.s).take i.toNat))) (fun bs0 => ((t.s.size : Int) - vi (bs0.getD 0 atom0).1).toNat) ?_ ?_
 ·refine ⟨0, by first | (simp only [vd, reduceCtorEq, ve, updD]; done) | (simp only [vd, reduceCtorEq, ve, updD]; rfl) | simp only [vd, reduceCtorEq, ve, updD, Rw.atom, Rw.nil, List.length_nil, List.map_nil], ?_⟩
  exact ⟨by omega, by omega, fun c hc => by simp at hc⟩
 rintro _ _ ⟨i, rfl, ⟨i0, i1, hc⟩⟩
 refine br_wp (fun c1 => ?_) (fun c1 => ?_)
 ·replace c1 : i < (t.s.size : Int) := by first | simpa only [vd, reduceCtorEq, ve, updD] using c1 | (simp only [vd, reduceCtorEq, ve, updD] at c1; grind)
  refine br_wp (fun c2 => ?_) (fun c2 => ?_)
  ·replace c2 : t.e = 0 := by first | simpa only [vd, reduceCtorEq, ve, updD] using c2 | (simp only [vd, reduceCtorEq, ve, updD] at c2; grind)
   have hs := hp c2
   have wr0 : IntKind.i64.wrap (i + 1) = i + 1 := wrap_id _ (by omega) (by omega)
   have wr1 : IntKind.i64.wrap (i + 2) = i + 2 := wrap_id _ (by omega) (by omega)
   refine need_wp (by simp only [vd, reduceCtorEq, ve, updD, wr0, wr1, List.length_cons, List.length_nil, List.length_append, List.length_set]; first | omega | (grind)) ?_
   refine br_wp (fun c3 => ?_) (fun c3 => ?_)
   ·replace c3 : (byteAt t.s i) = 10 := by first | simpa only [vd, reduceCtorEq, ve, updD, wr0, wr1] using c3 | (simp only [vd, reduceCtorEq, ve, updD, wr0, wr1] at c3; grind)
    refine call_fun ((t, 9)) rfl (by first | (simp only [vd, reduceCtorEq, ve, updD, wr0, wr1]; done) | (simp only [vd, reduceCtorEq, ve, updD, wr0, wr1]; rfl)) trivial ?_
    refine pop_wp ?_
    refine ret_wp ?_
    refine ⟨((⟨t.s, (if t.e = 0 then 9 else t.e)⟩ : Tt), (⟨#[]⟩ : ByteArray)), by first | (simp only [vd, reduceCtorEq, ve, updD, wr0, wr1]; done) | (simp only [vd, reduceCtorEq, ve, updD, wr0, wr1]; rfl), ?_⟩
    try dsimp only
    exact ⟨fun _ => res_no (tx_9 (end_of i0 c1 hc (.inr c3)) (by omega) (by omega)) (if_pos c2), fun h => absurd c2 h⟩
   ·replace c3 : ¬((byteAt t.s i) = 10) := by first | simpa only [vd, reduceCtorEq, ve, updD, wr0, wr1] using c3 | (simp only [vd, reduceCtorEq, ve, updD, wr0, wr1] at c3; grind)
    refine br_wp (fun c4 => ?_) (fun c4 => ?_)
    ·replace c4 : (byteAt t.s i) = 13 := by first | simpa only [vd, reduceCtorEq, ve, updD, wr0, wr1] using c4 | (simp only [vd, reduceCtorEq, ve, updD, wr0, wr1] at c4; grind)
     refine br_wp (fun c5 => ?_) (fun c5 => ?_)
     ·replace c5 : (i + 1) = (t.s.size : Int) := by first | simpa only [vd, reduceCtorEq, ve, updD, wr0, wr1] using c5 | (simp only [vd, reduceCtorEq, ve, updD, wr0, wr1] at c5; grind)
      refine call_fun ((t, 8)) rfl (by first | (simp only [vd, reduceCtorEq, ve, updD, wr0, wr1]; done) | (simp only [vd, reduceCtorEq, ve, updD, wr0, wr1]; rfl)) trivial ?_
      refine pop_wp ?_
      refine ret_wp ?_
      refine ⟨((⟨t.s, (if t.e = 0 then 8 else t.e)⟩ : Tt), (⟨#[]⟩ : ByteArray)), by first | (simp only [vd, reduceCtorEq, ve, updD, wr0, wr1]; done) | (simp only [vd, reduceCtorEq, ve, updD, wr0, wr1]; rfl), ?_⟩
      try dsimp only
      exact ⟨fun _ => res_no (tx_cr8 (end_of i0 c1 hc (.inl c4)) (by omega) (by omega) c4) (if_pos c2), fun h => absurd c2 h⟩
     ·replace c5 : ¬((i + 1) = (t.s.size : Int)) := by first | simpa only [vd, reduceCtorEq, ve, updD, wr0, wr1] using c5 | (simp only [vd, reduceCtorEq, ve, updD, wr0, wr1] at c5; grind)
      refine need_wp (by simp only [vd, reduceCtorEq, ve, updD, wr0, wr1, List.length_cons, List.length_nil, List.length_append, List.length_set]; first | omega | (grind)) ?_
      refine need_wp (by simp only [vd, reduceCtorEq, ve, updD, wr0, wr1, List.length_cons, List.length_nil, List.length_append, List.length_set]; first | omega | (grind)) ?_
      refine br_wp (fun c6 => ?_) (fun c6 => ?_)
      ·replace c6 : (byteAt t.s (i + 1)) ≠ 10 := by first | simpa only [vd, reduceCtorEq, ve, updD, wr0, wr1] using c6 | (simp only [vd, reduceCtorEq, ve, updD, wr0, wr1] at c6; grind)
       refine call_fun ((t, 9)) rfl (by first | (simp only [vd, reduceCtorEq, ve, updD, wr0, wr1]; done) | (simp only [vd, reduceCtorEq, ve, updD, wr0, wr1]; rfl)) trivial ?_
       refine pop_wp ?_
       refine ret_wp ?_
       refine ⟨((⟨t.s, (if t.e = 0 then 9 else t.e)⟩ : Tt), (⟨#[]⟩ : ByteArray)), by first | (simp only [vd, reduceCtorEq, ve, updD, wr0, wr1]; done) | (simp only [vd, reduceCtorEq, ve, updD, wr0, wr1]; rfl), ?_⟩
       try dsimp only
       exact ⟨fun _ => res_no (tx_n9 (end_of i0 c1 hc (.inl c4)) (by omega) (by omega) c4 c6) (if_pos c2), fun h => absurd c2 h⟩
      ·replace c6 : ¬((byteAt t.s (i + 1)) ≠ 10) := by first | simpa only [vd, reduceCtorEq, ve, updD, wr0, wr1] using c6 | (simp only [vd, reduceCtorEq, ve, updD, wr0, wr1] at c6; grind)
       refine need_wp (by simp only [vd, reduceCtorEq, ve, updD, wr0, wr1, List.length_cons, List.length_nil, List.length_append, List.length_set]; first | omega | (grind)) ?_
       refine need_wp (by simp only [vd, reduceCtorEq, ve, updD, wr0, wr1, List.length_cons, List.length_nil, List.length_append, List.length_set]; first | omega | (grind)) ?_
       refine need_wp (by simp only [vd, reduceCtorEq, ve, updD, wr0, wr1, List.length_cons, List.length_nil, List.length_append, List.length_set]; first | omega | (grind)) ?_
       refine need_wp (by simp only [vd, reduceCtorEq, ve, updD, wr0, wr1, List.length_cons, List.length_nil, List.length_append, List.length_set]; first | omega | (grind)) ?_
       refine pop_wp ?_
       refine ret_wp ?_
       refine ⟨((⟨(t.s.extract ((i + 2) : Int).toNat ((t.s.size : Int) : Int).toNat), 0⟩ : Tt), (t.s.extract (0 : Int).toNat (i : Int).toNat)), by first | (simp only [vd, reduceCtorEq, ve, updD, wr0, wr1]; done) | (simp only [vd, reduceCtorEq, ve, updD, wr0, wr1]; rfl), ?_⟩
       try dsimp only
       exact ⟨fun _ => res_ok (tx_ok (end_of i0 c1 hc (.inl c4)) (by omega) (by omega) c4 (Decidable.not_not.1 c6)), fun h => absurd c2 h⟩
    ·replace c4 : ¬((byteAt t.s i) = 13) := by first | simpa only [vd, reduceCtorEq, ve, updD, wr0, wr1] using c4 | (simp only [vd, reduceCtorEq, ve, updD, wr0, wr1] at c4; grind)
     refine again_wp rfl ⟨(i + 1), by simp only [vd, reduceCtorEq, ve, updD, wr0, wr1], ?_⟩ ?_
     ·exact ⟨by omega, by omega, clean_next i0 c1 hc c3 c4⟩
     ·(try simp only [vd, reduceCtorEq, ve, updD, wr0, wr1]); omega
  ·replace c2 : ¬(t.e = 0) := by first | simpa only [vd, reduceCtorEq, ve, updD] using c2 | (simp only [vd, reduceCtorEq, ve, updD] at c2; grind)
   refine pop_wp ?_
   refine call_fun ((t, 8)) rfl (by first | (simp only [vd, reduceCtorEq, ve, updD]; done) | (simp only [vd, reduceCtorEq, ve, updD]; rfl)) trivial ?_
   refine ret_wp ?_
   refine ⟨((⟨t.s, (if t.e = 0 then 8 else t.e)⟩ : Tt), (⟨#[]⟩ : ByteArray)), by first | (simp only [vd, reduceCtorEq, ve, updD]; done) | (simp only [vd, reduceCtorEq, ve, updD]; rfl), ?_⟩
   try dsimp only
   exact ⟨fun h => absurd h c2, fun h => if_neg h⟩
 ·replace c1 : ¬(i < (t.s.size : Int)) := by first | simpa only [vd, reduceCtorEq, ve, updD] using c1 | (simp only [vd, reduceCtorEq, ve, updD] at c1; grind)
  refine pop_wp ?_
  refine call_fun ((t, 8)) rfl (by first | (simp only [vd, reduceCtorEq, ve, updD]; done) | (simp only [vd, reduceCtorEq, ve, updD]; rfl)) trivial ?_
  refine ret_wp ?_
  refine ⟨((⟨t.s, (if t.e = 0 then 8 else t.e)⟩ : Tt), (⟨#[]⟩ : ByteArray)), by first | (simp only [vd, reduceCtorEq, ve, updD]; done) | (simp only [vd, reduceCtorEq, ve, updD]; rfl), ?_⟩
  try dsimp only
  exact ⟨fun h => res_no (clean_all (by omega) hc) (if_pos h), fun h => if_neg h⟩
def kNum (sg : Sig) : Sig × Con := (sg, mkRel (fun x : Tt × Int × Int => ([aS x.1.s, aI x.1.e, aI x.2.1, aI x.2.2] : List Atom)) (fun x => (x.1.e = 0 → x.1.s.size ≤ 1000000) ∧ bnds x.2.1 x.2.2) (fun x : Tt × Int => ([aS x.1.s, aI x.1.e, aI x.2] : List Atom)) (fun x y => numR x.1 x.2.1 x.2.2 y))
set_option maxHeartbeats 1000000 in
theorem h26 : holds Tryd.prog (kNum sg26) := by
 refine fn_holds (l := [kMay sg45, kFail sg44, kText sg25, kParseR sg46]) ⟨h45, h44, h25, h46, trivial⟩ hP rs26 (inj_of (fun l : List Atom => (((⟨vs (l.getD 0 atom0).1, vi (l.getD 1 atom0).1⟩ : Tt), vi (l.getD 2 atom0).1, vi (l.getD 3 atom0).1) : Tt × Int × Int)) (fun _ => rfl)) Tryd.func26 (by kernel_rfl) (c := code Tryd.f26) (by kernel_rfl) (an := an26) (by kernel_rfl) (pk := pk26) rfl (t := t26) (by kernel_rfl) ?_
 rintro ⟨t, a, b⟩ ⟨hp, hb⟩
 refine ⟨by simp [pk26, KindsOk, RK.ok, Rw.atom, Sl.atom], ?_⟩
 unfold t26
 dsimp only at hp hb
 refine br_wp (fun c1 => ?_) (fun c1 => ?_)
 ·replace c1 : t.e ≠ 0 := by first | simpa only [vd, reduceCtorEq, ve, updD] using c1 | (simp only [vd, reduceCtorEq, ve, updD] at c1; grind)
  refine ret_wp ?_
  refine ⟨(t, 0), by first | (simp only [vd, reduceCtorEq, ve, updD]; done) | (simp only [vd, reduceCtorEq, ve, updD]; rfl), ?_⟩
  try dsimp only
  exact ⟨fun h => absurd h c1, fun _ => rfl⟩
 ·replace c1 : ¬(t.e ≠ 0) := by first | simpa only [vd, reduceCtorEq, ve, updD] using c1 | (simp only [vd, reduceCtorEq, ve, updD] at c1; grind)
  have te0 : t.e = 0 := Decidable.not_not.1 c1
  have hs := hp te0
  refine loop_wp (fun bs0 => ∃ (k : Int), bs0 = [aI k] ∧ (0 ≤ k ∧ k ≤ (t.s.size : Int) ∧ ∀ c ∈ (ls t.s).take k.toNat, c ≠ 13)) (fun bs0 => ((t.s.size : Int) - vi (bs0.getD 0 atom0).1).toNat) ?_ ?_
  ·refine ⟨0, by first | (simp only [vd, reduceCtorEq, ve, updD]; done) | (simp only [vd, reduceCtorEq, ve, updD]; rfl) | simp only [vd, reduceCtorEq, ve, updD, Rw.atom, Rw.nil, List.length_nil, List.map_nil], ?_⟩
   exact ⟨by omega, by omega, fun c hc => by simp at hc⟩
  rintro _ _ ⟨k, rfl, ⟨k0, k1, hk⟩⟩
  refine br_wp (fun c2 => ?_) (fun c2 => ?_)
  ·replace c2 : k < (t.s.size : Int) := by first | simpa only [vd, reduceCtorEq, ve, updD] using c2 | (simp only [vd, reduceCtorEq, ve, updD] at c2; grind)
   have wr0 : IntKind.i64.wrap (k + 1) = k + 1 := wrap_id _ (by omega) (by omega)
   refine need_wp (by simp only [vd, reduceCtorEq, ve, updD, wr0, List.length_cons, List.length_nil, List.length_append, List.length_set]; first | omega | (grind)) ?_
   refine br_wp (fun c3 => ?_) (fun c3 => ?_)
   ·replace c3 : (byteAt t.s k) ≠ 13 := by first | simpa only [vd, reduceCtorEq, ve, updD, wr0] using c3 | (simp only [vd, reduceCtorEq, ve, updD, wr0] at c3; grind)
    refine again_wp rfl ⟨(k + 1), by simp only [vd, reduceCtorEq, ve, updD, wr0], ?_⟩ ?_
    ·exact ⟨by omega, by omega, no13_next k0 c2 hk c3⟩
    ·(try simp only [vd, reduceCtorEq, ve, updD, wr0]); omega
   ·replace c3 : ¬((byteAt t.s k) ≠ 13) := by first | simpa only [vd, reduceCtorEq, ve, updD, wr0] using c3 | (simp only [vd, reduceCtorEq, ve, updD, wr0] at c3; grind)
    have c13_ := Decidable.not_not.1 c3
    obtain ⟨hln, hw⟩ := ln_at k0 c2 hk c13_
    have hlw : ls (t.s.extract (0 : Int).toNat k.toNat) = lnL (ls t.s) := by rw [hln]; exact ls_head
    refine pop_wp ?_
    refine need_wp (by simp only [vd, reduceCtorEq, ve, updD, wr0, List.length_cons, List.length_nil, List.length_append, List.length_set]; first | omega | (grind)) ?_
    refine call_fun (((t.s.extract (0 : Int).toNat (k : Int).toNat), a, b)) rfl (by first | (simp only [vd, reduceCtorEq, ve, updD, wr0]; done) | (simp only [vd, reduceCtorEq, ve, updD, wr0]; rfl)) trivial ?_
    refine br_wp (fun c4 => ?_) (fun c4 => ?_)
    ·replace c4 : mayL (ls (t.s.extract (0 : Int).toNat (k : Int).toNat)) a b := by first | simpa only [vd, reduceCtorEq, ve, updD, wr0] using c4 | (simp only [vd, reduceCtorEq, ve, updD, wr0] at c4; grind)
     refine br_wp (fun c5 => ?_) (fun c5 => ?_)
     ·replace c5 : k = 0 := by first | simpa only [vd, reduceCtorEq, ve, updD, wr0] using c5 | (simp only [vd, reduceCtorEq, ve, updD, wr0] at c5; grind)
      refine call_fun ((t, 9)) rfl (by first | (simp only [vd, reduceCtorEq, ve, updD, wr0]; done) | (simp only [vd, reduceCtorEq, ve, updD, wr0]; rfl)) trivial ?_
      refine ret_wp ?_
      refine ⟨((⟨t.s, (if t.e = 0 then 9 else t.e)⟩ : Tt), 0), by first | (simp only [vd, reduceCtorEq, ve, updD, wr0]; done) | (simp only [vd, reduceCtorEq, ve, updD, wr0]; rfl), ?_⟩
      try dsimp only
      exact ⟨fun _ => res_no (nmW9 hw (fun h => (can_ne h.1).1 (by rw [hln, c5]; rfl))) (if_pos te0), fun h => absurd te0 h⟩
     ·replace c5 : ¬(k = 0) := by first | simpa only [vd, reduceCtorEq, ve, updD, wr0] using c5 | (simp only [vd, reduceCtorEq, ve, updD, wr0] at c5; grind)
      refine br_wp (fun c6 => ?_) (fun c6 => ?_)
      ·replace c6 : (t.s.extract (0 : Int).toNat (k : Int).toNat) = (⟨#[45]⟩ : ByteArray) := by first | simpa only [vd, reduceCtorEq, ve, updD, wr0] using c6 | (simp only [vd, reduceCtorEq, ve, updD, wr0] at c6; grind)
       refine call_fun ((t, 9)) rfl (by first | (simp only [vd, reduceCtorEq, ve, updD, wr0]; done) | (simp only [vd, reduceCtorEq, ve, updD, wr0]; rfl)) trivial ?_
       refine ret_wp ?_
       refine ⟨((⟨t.s, (if t.e = 0 then 9 else t.e)⟩ : Tt), 0), by first | (simp only [vd, reduceCtorEq, ve, updD, wr0]; done) | (simp only [vd, reduceCtorEq, ve, updD, wr0]; rfl), ?_⟩
       try dsimp only
       exact ⟨fun _ => res_no (nmW9 hw (fun h => (can_ne h.1).2 (by rw [← hlw]; exact (ls_45 _).1 c6))) (if_pos te0), fun h => absurd te0 h⟩
      ·replace c6 : ¬((t.s.extract (0 : Int).toNat (k : Int).toNat) = (⟨#[45]⟩ : ByteArray)) := by first | simpa only [vd, reduceCtorEq, ve, updD, wr0] using c6 | (simp only [vd, reduceCtorEq, ve, updD, wr0] at c6; grind)
       refine call_rel (t) rfl (by first | (simp only [vd, reduceCtorEq, ve, updD, wr0]; done) | (simp only [vd, reduceCtorEq, ve, updD, wr0]; rfl)) hp ?_
       rintro ⟨t1, x1⟩ et1
       try dsimp only at et1
       refine call_rel (x1) rfl (by first | (simp only [vd, reduceCtorEq, ve, updD, wr0]; done) | (simp only [vd, reduceCtorEq, ve, updD, wr0]; rfl)) trivial ?_
       rintro ⟨y2, b2⟩ ⟨eb2, ey2⟩
       try dsimp only at eb2 ey2
       refine ret_wp ?_
       refine ⟨(t1, y2), by first | (simp only [vd, reduceCtorEq, ve, updD, wr0]; done) | (simp only [vd, reduceCtorEq, ve, updD, wr0]; rfl), ?_⟩
       try dsimp only
       have hm : mayL (lnL (ls t.s)) a b := by rw [← hlw]; exact c4
       have h1 : lnL (ls t.s) ≠ [] := fun e => c5 (by have := congrArg List.length e; rw [hln, List.length_take, ls_len, List.length_nil] at this; omega)
       have h2 : lnL (ls t.s) ≠ [45] := fun e => c6 ((ls_45 _).2 (hlw.trans e))
       exact ⟨fun _ => res_text (y := (t1, x1)) (nmW hw hm h1 h2) hw (may_can hm h1 h2).1 (et1.1 te0) ⟨eb2, ey2⟩, fun h => absurd te0 h⟩
    ·replace c4 : ¬(mayL (ls (t.s.extract (0 : Int).toNat (k : Int).toNat)) a b) := by first | simpa only [vd, reduceCtorEq, ve, updD, wr0] using c4 | (simp only [vd, reduceCtorEq, ve, updD, wr0] at c4; grind)
     refine call_fun ((t, 9)) rfl (by first | (simp only [vd, reduceCtorEq, ve, updD, wr0]; done) | (simp only [vd, reduceCtorEq, ve, updD, wr0]; rfl)) trivial ?_
     refine ret_wp ?_
     refine ⟨((⟨t.s, (if t.e = 0 then 9 else t.e)⟩ : Tt), 0), by first | (simp only [vd, reduceCtorEq, ve, updD, wr0]; done) | (simp only [vd, reduceCtorEq, ve, updD, wr0]; rfl), ?_⟩
     try dsimp only
     exact ⟨fun _ => res_no (nmW9 hw (fun h => c4 (by rw [hlw]; exact upt_may h))) (if_pos te0), fun h => absurd te0 h⟩
  ·replace c2 : ¬(k < (t.s.size : Int)) := by first | simpa only [vd, reduceCtorEq, ve, updD] using c2 | (simp only [vd, reduceCtorEq, ve, updD] at c2; grind)
   obtain ⟨hln, hw⟩ := ln_end (by omega) hk
   have hlw : ls (t.s.extract (0 : Int).toNat k.toNat) = lnL (ls t.s) := by rw [hln]; show ls (t.s.extract 0 k.toNat) = _; rw [ls_head, List.take_of_length_le (by rw [ls_len]; omega)]
   refine pop_wp ?_
   refine need_wp (by simp only [vd, reduceCtorEq, ve, updD, List.length_cons, List.length_nil, List.length_append, List.length_set]; first | omega | (grind)) ?_
   refine need_wp (by simp only [vd, reduceCtorEq, ve, updD, List.length_cons, List.length_nil, List.length_append, List.length_set]; first | omega | (grind)) ?_
   refine call_fun (((t.s.extract (0 : Int).toNat (k : Int).toNat), a, b)) rfl (by first | (simp only [vd, reduceCtorEq, ve, updD]; done) | (simp only [vd, reduceCtorEq, ve, updD]; rfl)) trivial ?_
   refine br_wp (fun c7 => ?_) (fun c7 => ?_)
   ·replace c7 : mayL (ls (t.s.extract (0 : Int).toNat (k : Int).toNat)) a b := by first | simpa only [vd, reduceCtorEq, ve, updD] using c7 | (simp only [vd, reduceCtorEq, ve, updD] at c7; grind)
    refine call_rel (t) rfl (by first | (simp only [vd, reduceCtorEq, ve, updD]; done) | (simp only [vd, reduceCtorEq, ve, updD]; rfl)) hp ?_
    rintro ⟨t3, x3⟩ et3
    try dsimp only at et3
    refine call_rel (x3) rfl (by first | (simp only [vd, reduceCtorEq, ve, updD]; done) | (simp only [vd, reduceCtorEq, ve, updD]; rfl)) trivial ?_
    rintro ⟨y4, b4⟩ ⟨eb4, ey4⟩
    try dsimp only at eb4 ey4
    refine ret_wp ?_
    refine ⟨(t3, y4), by first | (simp only [vd, reduceCtorEq, ve, updD]; done) | (simp only [vd, reduceCtorEq, ve, updD]; rfl), ?_⟩
    try dsimp only
    have hm : mayL (lnL (ls t.s)) a b := by rw [← hlw]; exact c7
    have h8 := et3.1 te0
    rw [may_text hw hm] at h8
    exact ⟨fun _ => res_no (nmN8 hw hb hm) h8, fun h => absurd te0 h⟩
   ·replace c7 : ¬(mayL (ls (t.s.extract (0 : Int).toNat (k : Int).toNat)) a b) := by first | simpa only [vd, reduceCtorEq, ve, updD] using c7 | (simp only [vd, reduceCtorEq, ve, updD] at c7; grind)
    refine call_fun ((t, 9)) rfl (by first | (simp only [vd, reduceCtorEq, ve, updD]; done) | (simp only [vd, reduceCtorEq, ve, updD]; rfl)) trivial ?_
    refine ret_wp ?_
    refine ⟨((⟨t.s, (if t.e = 0 then 9 else t.e)⟩ : Tt), 0), by first | (simp only [vd, reduceCtorEq, ve, updD]; done) | (simp only [vd, reduceCtorEq, ve, updD]; rfl), ?_⟩
    try dsimp only
    exact ⟨fun _ => res_no (nmN9 hw hb (fun h => c7 (by rw [hlw]; exact h))) (if_pos te0), fun h => absurd te0 h⟩
def kByt (sg : Sig) : Sig × Con := (sg, mkRel (fun x : Tt × Int => ([aS x.1.s, aI x.1.e, aI x.2] : List Atom)) (fun x => x.1.e = 0 → x.1.s.size ≤ 1000000 ∧ 0 ≤ x.2 ∧ x.2 ≤ most) (fun x : Tt × ByteArray => ([aS x.1.s, aI x.1.e, aS x.2] : List Atom)) (fun x y => bytR x.1 x.2 y))
set_option maxHeartbeats 1000000 in
theorem h27 : holds Tryd.prog (kByt sg27) := by
 refine fn_holds (l := [kFail sg44]) ⟨h44, trivial⟩ hP rs27 (inj_of (fun l : List Atom => (((⟨vs (l.getD 0 atom0).1, vi (l.getD 1 atom0).1⟩ : Tt), vi (l.getD 2 atom0).1) : Tt × Int)) (fun _ => rfl)) Tryd.func27 (by kernel_rfl) (c := code Tryd.f27) (by kernel_rfl) (an := an27) (by kernel_rfl) (pk := pk27) rfl (t := t27) (by kernel_rfl) ?_
 rintro ⟨t, n⟩ hp
 refine ⟨by simp [pk27, KindsOk, RK.ok, Rw.atom, Sl.atom], ?_⟩
 unfold t27
 dsimp only at hp
 unfold most at hp
 refine br_wp (fun c1 => ?_) (fun c1 => ?_)
 ·replace c1 : t.e ≠ 0 := by first | simpa only [vd, reduceCtorEq, ve, updD] using c1 | (simp only [vd, reduceCtorEq, ve, updD] at c1; grind)
  refine ret_wp ?_
  refine ⟨(t, (⟨#[]⟩ : ByteArray)), by first | (simp only [vd, reduceCtorEq, ve, updD]; done) | (simp only [vd, reduceCtorEq, ve, updD]; rfl), ?_⟩
  try dsimp only
  exact ⟨fun h => absurd h c1, fun _ => rfl⟩
 ·replace c1 : ¬(t.e ≠ 0) := by first | simpa only [vd, reduceCtorEq, ve, updD] using c1 | (simp only [vd, reduceCtorEq, ve, updD] at c1; grind)
  have te0 : t.e = 0 := Decidable.not_not.1 c1
  obtain ⟨hs, n0, n1⟩ := hp te0
  have wr0 : IntKind.i64.wrap (n + 1) = n + 1 := wrap_id _ (by omega) (by omega)
  have wr1 : IntKind.i64.wrap (n + 2) = n + 2 := wrap_id _ (by omega) (by omega)
  refine br_wp (fun c2 => ?_) (fun c2 => ?_)
  ·replace c2 : (t.s.size : Int) ≤ n := by first | simpa only [vd, reduceCtorEq, ve, updD, wr0, wr1] using c2 | (simp only [vd, reduceCtorEq, ve, updD, wr0, wr1] at c2; grind)
   refine call_fun ((t, 8)) rfl (by first | (simp only [vd, reduceCtorEq, ve, updD, wr0, wr1]; done) | (simp only [vd, reduceCtorEq, ve, updD, wr0, wr1]; rfl)) trivial ?_
   refine ret_wp ?_
   refine ⟨((⟨t.s, (if t.e = 0 then 8 else t.e)⟩ : Tt), (⟨#[]⟩ : ByteArray)), by first | (simp only [vd, reduceCtorEq, ve, updD, wr0, wr1]; done) | (simp only [vd, reduceCtorEq, ve, updD, wr0, wr1]; rfl), ?_⟩
   try dsimp only
   exact ⟨fun _ => res_no (bt_8 n0 c2) (if_pos te0), fun h => absurd te0 h⟩
  ·replace c2 : ¬((t.s.size : Int) ≤ n) := by first | simpa only [vd, reduceCtorEq, ve, updD, wr0, wr1] using c2 | (simp only [vd, reduceCtorEq, ve, updD, wr0, wr1] at c2; grind)
   refine need_wp (by simp only [vd, reduceCtorEq, ve, updD, wr0, wr1, List.length_cons, List.length_nil, List.length_append, List.length_set]; first | omega | (grind)) ?_
   refine need_wp (by simp only [vd, reduceCtorEq, ve, updD, wr0, wr1, List.length_cons, List.length_nil, List.length_append, List.length_set]; first | omega | (grind)) ?_
   refine br_wp (fun c3 => ?_) (fun c3 => ?_)
   ·replace c3 : (byteAt t.s n) ≠ 13 := by first | simpa only [vd, reduceCtorEq, ve, updD, wr0, wr1] using c3 | (simp only [vd, reduceCtorEq, ve, updD, wr0, wr1] at c3; grind)
    refine call_fun ((t, 9)) rfl (by first | (simp only [vd, reduceCtorEq, ve, updD, wr0, wr1]; done) | (simp only [vd, reduceCtorEq, ve, updD, wr0, wr1]; rfl)) trivial ?_
    refine ret_wp ?_
    refine ⟨((⟨t.s, (if t.e = 0 then 9 else t.e)⟩ : Tt), (⟨#[]⟩ : ByteArray)), by first | (simp only [vd, reduceCtorEq, ve, updD, wr0, wr1]; done) | (simp only [vd, reduceCtorEq, ve, updD, wr0, wr1]; rfl), ?_⟩
    try dsimp only
    exact ⟨fun _ => res_no (bt_9 n0 (by omega) c3) (if_pos te0), fun h => absurd te0 h⟩
   ·replace c3 : ¬((byteAt t.s n) ≠ 13) := by first | simpa only [vd, reduceCtorEq, ve, updD, wr0, wr1] using c3 | (simp only [vd, reduceCtorEq, ve, updD, wr0, wr1] at c3; grind)
    refine br_wp (fun c4 => ?_) (fun c4 => ?_)
    ·replace c4 : (t.s.size : Int) = (n + 1) := by first | simpa only [vd, reduceCtorEq, ve, updD, wr0, wr1] using c4 | (simp only [vd, reduceCtorEq, ve, updD, wr0, wr1] at c4; grind)
     refine call_fun ((t, 8)) rfl (by first | (simp only [vd, reduceCtorEq, ve, updD, wr0, wr1]; done) | (simp only [vd, reduceCtorEq, ve, updD, wr0, wr1]; rfl)) trivial ?_
     refine ret_wp ?_
     refine ⟨((⟨t.s, (if t.e = 0 then 8 else t.e)⟩ : Tt), (⟨#[]⟩ : ByteArray)), by first | (simp only [vd, reduceCtorEq, ve, updD, wr0, wr1]; done) | (simp only [vd, reduceCtorEq, ve, updD, wr0, wr1]; rfl), ?_⟩
     try dsimp only
     exact ⟨fun _ => res_no (bt_e8 n0 (by omega) (Decidable.not_not.1 c3) c4) (if_pos te0), fun h => absurd te0 h⟩
    ·replace c4 : ¬((t.s.size : Int) = (n + 1)) := by first | simpa only [vd, reduceCtorEq, ve, updD, wr0, wr1] using c4 | (simp only [vd, reduceCtorEq, ve, updD, wr0, wr1] at c4; grind)
     refine need_wp (by simp only [vd, reduceCtorEq, ve, updD, wr0, wr1, List.length_cons, List.length_nil, List.length_append, List.length_set]; first | omega | (grind)) ?_
     refine need_wp (by simp only [vd, reduceCtorEq, ve, updD, wr0, wr1, List.length_cons, List.length_nil, List.length_append, List.length_set]; first | omega | (grind)) ?_
     refine br_wp (fun c5 => ?_) (fun c5 => ?_)
     ·replace c5 : (byteAt t.s (n + 1)) ≠ 10 := by first | simpa only [vd, reduceCtorEq, ve, updD, wr0, wr1] using c5 | (simp only [vd, reduceCtorEq, ve, updD, wr0, wr1] at c5; grind)
      refine call_fun ((t, 9)) rfl (by first | (simp only [vd, reduceCtorEq, ve, updD, wr0, wr1]; done) | (simp only [vd, reduceCtorEq, ve, updD, wr0, wr1]; rfl)) trivial ?_
      refine ret_wp ?_
      refine ⟨((⟨t.s, (if t.e = 0 then 9 else t.e)⟩ : Tt), (⟨#[]⟩ : ByteArray)), by first | (simp only [vd, reduceCtorEq, ve, updD, wr0, wr1]; done) | (simp only [vd, reduceCtorEq, ve, updD, wr0, wr1]; rfl), ?_⟩
      try dsimp only
      exact ⟨fun _ => res_no (bt_n9 n0 (by omega) c5) (if_pos te0), fun h => absurd te0 h⟩
     ·replace c5 : ¬((byteAt t.s (n + 1)) ≠ 10) := by first | simpa only [vd, reduceCtorEq, ve, updD, wr0, wr1] using c5 | (simp only [vd, reduceCtorEq, ve, updD, wr0, wr1] at c5; grind)
      refine need_wp (by simp only [vd, reduceCtorEq, ve, updD, wr0, wr1, List.length_cons, List.length_nil, List.length_append, List.length_set]; first | omega | (grind)) ?_
      refine need_wp (by simp only [vd, reduceCtorEq, ve, updD, wr0, wr1, List.length_cons, List.length_nil, List.length_append, List.length_set]; first | omega | (grind)) ?_
      refine need_wp (by simp only [vd, reduceCtorEq, ve, updD, wr0, wr1, List.length_cons, List.length_nil, List.length_append, List.length_set]; first | omega | (grind)) ?_
      refine need_wp (by simp only [vd, reduceCtorEq, ve, updD, wr0, wr1, List.length_cons, List.length_nil, List.length_append, List.length_set]; first | omega | (grind)) ?_
      refine ret_wp ?_
      refine ⟨((⟨(t.s.extract ((n + 2) : Int).toNat ((t.s.size : Int) : Int).toNat), 0⟩ : Tt), (t.s.extract (0 : Int).toNat (n : Int).toNat)), by first | (simp only [vd, reduceCtorEq, ve, updD, wr0, wr1]; done) | (simp only [vd, reduceCtorEq, ve, updD, wr0, wr1]; rfl), ?_⟩
      try dsimp only
      exact ⟨fun _ => res_ok (bt_ok n0 (by omega) (Decidable.not_not.1 c3) (Decidable.not_not.1 c5)), fun h => absurd te0 h⟩
end Go.Proofs.YtbcbjgomnhajdaaDoorK
end

section
set_option linter.unusedSimpArgs false
set_option linter.unusedVariables false
set_option linter.unnecessarySimpa false
namespace Go.Proofs.YtbcbjgomnhajdaaDoorK
open Go Go.Proofs.YtbcbjgomnhajdaaDoorV Go.Proofs Go.Proofs.YtbcbjgomnhajdaaDoorK Go.Proofs.YtbcbjgomnhajdaaDoorK
def kLst (sg : Sig) : Sig × Con := (sg, mkRel (fun x : Tt × Int => ([aS x.1.s, aI x.1.e, aI x.2] : List Atom)) (fun x => x.1.e = 0 → x.1.s.size ≤ 1000000 ∧ 0 ≤ x.2 ∧ x.2 ≤ most) (fun x : Tt × Rw ByteArray => ([aS x.1.s, aI x.1.e, Rw.atom eS x.2] : List Atom)) (fun x y => lstR x.1 x.2 (y.1, y.2.l) ∧ y.2.ok 1))
set_option maxHeartbeats 1000000 in
theorem h28 : holds Tryd.prog (kLst sg28) := by
 refine fn_holds (l := [kFail sg44, kNum sg26, kByt sg27]) ⟨h44, h26, h27, trivial⟩ hP rs28 (inj_of (fun l : List Atom => (((⟨vs (l.getD 0 atom0).1, vi (l.getD 1 atom0).1⟩ : Tt), vi (l.getD 2 atom0).1) : Tt × Int)) (fun _ => rfl)) Tryd.func28 (by kernel_rfl) (c := code Tryd.f28) (by kernel_rfl) (an := an28) (by kernel_rfl) (pk := pk28) rfl (t := t28) (by kernel_rfl) ?_
 rintro ⟨t, n⟩ hp
 refine ⟨by simp [pk28, KindsOk, RK.ok, Rw.atom, Sl.atom], ?_⟩
 unfold t28
 dsimp only at hp
 unfold most at hp
 refine need_wp (by first | exact ⟨_, _, _, rfl⟩ | (simp only [vd, reduceCtorEq, ve, updD]; exact ⟨_, _, _, rfl⟩)) ?_
 refine loop_wp (fun bs0 => ∃ (i : Int) (x : Rw ByteArray) (s : ByteArray) (e : Int), bs0 = [aI i, Rw.atom eS x, aS s, aI e] ∧ (x.ok 1 ∧ (t.e ≠ 0 → e = t.e) ∧ (t.e = 0 → 0 ≤ i ∧ i ≤ n ∧ (x.l.length : Int) = i ∧ (e = 0 → s.size ≤ 1000000 ∧ lstL n.toNat (ls t.s) = preR x.l (lstL (n - i).toNat (ls s))) ∧ (e ≠ 0 → lstL n.toNat (ls t.s) = .no e)))) (fun bs0 => (n - vi (bs0.getD 0 atom0).1).toNat) ?_ ?_
 ·refine ⟨0, Rw.nil, t.s, t.e, by first | (simp only [vd, reduceCtorEq, ve, updD]; done) | (simp only [vd, reduceCtorEq, ve, updD]; rfl) | simp only [vd, reduceCtorEq, ve, updD, Rw.atom, Rw.nil, List.length_nil, List.map_nil], ?_⟩
  exact ⟨.inl rfl, fun _ => rfl, fun h => by obtain ⟨p1, p2, p3⟩ := hp h; exact ⟨by omega, by omega, rfl, fun _ => ⟨p1, by rw [Int.sub_zero]; exact (preR_nil _).symm⟩, fun h2 => absurd h h2⟩⟩
 rintro _ _ ⟨i, x, s, e, rfl, ⟨kx, hE, hI⟩⟩
 refine br_wp (fun c1 => ?_) (fun c1 => ?_)
 ·replace c1 : i < n := by first | simpa only [vd, reduceCtorEq, ve, updD] using c1 | (simp only [vd, reduceCtorEq, ve, updD] at c1; grind)
  refine br_wp (fun c2 => ?_) (fun c2 => ?_)
  ·replace c2 : e = 0 := by first | simpa only [vd, reduceCtorEq, ve, updD] using c2 | (simp only [vd, reduceCtorEq, ve, updD] at c2; grind)
   have te0 : t.e = 0 := Decidable.byContradiction fun h => h ((hE h).symm.trans c2)
   obtain ⟨i0, i1, i2, i3, _⟩ := hI te0
   obtain ⟨hs, _⟩ := i3 c2
   have iL := fun h => (i3 h).2
   obtain ⟨_, _, n1_⟩ := hp te0
   have wr0 : IntKind.i64.wrap (i + 1) = i + 1 := wrap_id _ (by omega) (by omega)
   refine br_wp (fun c3 => ?_) (fun c3 => ?_)
   ·replace c3 : s = (⟨#[]⟩ : ByteArray) := by first | simpa only [vd, reduceCtorEq, ve, updD, wr0] using c3 | (simp only [vd, reduceCtorEq, ve, updD, wr0] at c3; grind)
    refine call_fun (((⟨s, e⟩ : Tt), 8)) rfl (by first | (simp only [vd, reduceCtorEq, ve, updD, wr0]; done) | (simp only [vd, reduceCtorEq, ve, updD, wr0]; rfl)) trivial ?_
    refine pop_wp ?_
    refine need_wp (by first | exact ⟨_, _, _, rfl⟩ | (simp only [vd, reduceCtorEq, ve, updD, wr0]; exact ⟨_, _, _, rfl⟩)) ?_
    refine ret_wp ?_
    refine ⟨((⟨s, (if e = 0 then 8 else e)⟩ : Tt), Rw.nil), by first | (simp only [vd, reduceCtorEq, ve, updD, wr0]; done) | (simp only [vd, reduceCtorEq, ve, updD, wr0]; rfl), ?_⟩
    try dsimp only
    exact ⟨⟨fun _ => res_no (by rw [iL c2, ls_8 (by omega) c3]; rfl) (if_pos c2), fun h => absurd te0 h⟩, .inl rfl⟩
   ·replace c3 : ¬(s = (⟨#[]⟩ : ByteArray)) := by first | simpa only [vd, reduceCtorEq, ve, updD, wr0] using c3 | (simp only [vd, reduceCtorEq, ve, updD, wr0] at c3; grind)
    obtain ⟨cc, hS, hc0, _, hz0⟩ := cons_of c3
    obtain ⟨u, hu⟩ : ∃ z, z = s.extract (1 : Int).toNat s.size := ⟨_, rfl⟩
    have eu : s.extract (1 : Int).toNat (s.size : Int).toNat = u := hu.symm
    replace hS : ls s = cc :: ls u := by rw [hu]; exact hS
    have hsz := congrArg List.length hS
    rw [List.length_cons, ls_len, ls_len] at hsz
    refine need_wp (by simp only [vd, reduceCtorEq, ve, updD, wr0, eu, List.length_cons, List.length_nil, List.length_append, List.length_set]; first | omega | (grind)) ?_
    refine br_wp (fun c4 => ?_) (fun c4 => ?_)
    ·replace c4 : (byteAt s 0) ≠ 36 := by first | simpa only [vd, reduceCtorEq, ve, updD, wr0, eu] using c4 | (simp only [vd, reduceCtorEq, ve, updD, wr0, eu] at c4; grind)
     refine call_fun (((⟨s, e⟩ : Tt), 9)) rfl (by first | (simp only [vd, reduceCtorEq, ve, updD, wr0, eu]; done) | (simp only [vd, reduceCtorEq, ve, updD, wr0, eu]; rfl)) trivial ?_
     refine pop_wp ?_
     refine need_wp (by first | exact ⟨_, _, _, rfl⟩ | (simp only [vd, reduceCtorEq, ve, updD, wr0, eu]; exact ⟨_, _, _, rfl⟩)) ?_
     refine ret_wp ?_
     refine ⟨((⟨s, (if e = 0 then 9 else e)⟩ : Tt), Rw.nil), by first | (simp only [vd, reduceCtorEq, ve, updD, wr0, eu]; done) | (simp only [vd, reduceCtorEq, ve, updD, wr0, eu]; rfl), ?_⟩
     try dsimp only
     exact ⟨⟨fun _ => res_no (by rw [iL c2, ls_9 (by omega) hS (fun h => c4 (by rw [hc0, h]; rfl))]; rfl) (if_pos c2), fun h => absurd te0 h⟩, .inl rfl⟩
    ·replace c4 : ¬((byteAt s 0) ≠ 36) := by first | simpa only [vd, reduceCtorEq, ve, updD, wr0, eu] using c4 | (simp only [vd, reduceCtorEq, ve, updD, wr0, eu] at c4; grind)
     have h36 : cc = 36 := c_lit (d := 36) (c_of hc0 (Decidable.not_not.1 c4))
     refine need_wp (by simp only [vd, reduceCtorEq, ve, updD, wr0, eu, List.length_cons, List.length_nil, List.length_append, List.length_set]; first | omega | (grind)) ?_
     refine need_wp (by simp only [vd, reduceCtorEq, ve, updD, wr0, eu, List.length_cons, List.length_nil, List.length_append, List.length_set]; first | omega | (grind)) ?_
     refine call_rel (((⟨u, 0⟩ : Tt), 0, 1099511627776)) rfl (by first | (simp only [vd, reduceCtorEq, ve, updD, wr0, eu]; done) | (simp only [vd, reduceCtorEq, ve, updD, wr0, eu]; rfl)) (⟨fun _ => by dsimp only; omega, .inl ⟨rfl, .inl rfl⟩⟩) ?_
     rintro ⟨t1, n1⟩ en1
     try dsimp only at en1
     refine call_rel ((t1, n1)) rfl (by first | (simp only [vd, reduceCtorEq, ve, updD, wr0, eu]; done) | (simp only [vd, reduceCtorEq, ve, updD, wr0, eu]; rfl)) (num_pre en1 (by omega)) ?_
     rintro ⟨t2, x2⟩ eb2
     try dsimp only at eb2
     obtain ⟨S1, S2⟩ := lst_step (iL c2) (by omega) hS h36 en1 eb2
     refine new_wp eS [x2] (by first | (simp only [vd, reduceCtorEq, ve, updD, wr0, eu, eS]; done) | rfl) ?_
     intro a3 b3
     generalize hx3 : (⟨a3, b3, 1, [x2]⟩ : Rw ByteArray) = x3
     have lx3 : x3.l = [x2] := by first | (rw [← hx3]; done) | (rw [← hx3]; rfl)
     have zx3 : x3.z = 1 := by rw [← hx3]
     have kx3 : Rw.ok 1 x3 := .inr zx3
     have nx3 : (x3.l.length : Int) = 1 := by first | (rw [← hx3]; done) | (rw [← hx3]; simp [Rw.nil])
     refine need_wp (by first | exact ⟨_, _, _, rfl⟩ | (simp only [vd, reduceCtorEq, ve, updD, wr0, eu]; exact ⟨_, _, _, rfl⟩)) ?_
     refine need_wp (by first | exact rw_szz (by assumption) | exact rw_szz (.inr rfl)) ?_
     refine need_wp (by simp only [vd, reduceCtorEq, ve, updD, wr0, eu, List.length_cons, List.length_nil, List.length_append, List.length_set]; first | omega | (grind)) ?_
     refine need_wp (by simp only [vd, reduceCtorEq, ve, updD, wr0, eu, List.length_cons, List.length_nil, List.length_append, List.length_set]; first | omega | (grind)) ?_
     refine app_wp eS x x3 (by first | rfl | simp only [vd, reduceCtorEq, ve, updD, wr0, eu]) (by first | rfl | simp only [vd, reduceCtorEq, ve, updD, wr0, eu]) ?_
     intro a4 b4
     generalize hx4 : (⟨a4, b4, 1, x.l ++ x3.l⟩ : Rw ByteArray) = x4
     have lx4 : x4.l = x.l ++ x3.l := by first | (rw [← hx4]; done) | (rw [← hx4]; rfl)
     have zx4 : x4.z = 1 := by rw [← hx4]
     have kx4 : Rw.ok 1 x4 := .inr zx4
     have nx4 : (x4.l.length : Int) = (x.l.length : Int) + (x3.l.length : Int) := by first | (rw [← hx4]; done) | (rw [← hx4]; simp [Rw.nil])
     refine need_wp (by first | exact ⟨_, _, _, rfl⟩ | (simp only [vd, reduceCtorEq, ve, updD, wr0, eu]; exact ⟨_, _, _, rfl⟩)) ?_
     refine again_wp rfl ⟨(i + 1), x4, t2.s, t2.e, by simp only [vd, reduceCtorEq, ve, updD, wr0, eu], ?_⟩ ?_
     ·exact ⟨kx4, fun h => absurd te0 h, fun _ => ⟨by omega, by omega, by rw [lx4, lx3, List.length_append, List.length_singleton]; omega, fun h => by obtain ⟨r1, r2⟩ := S1 h; exact ⟨by omega, by rw [lx4, lx3, show n - (i + 1) = n - i - 1 by omega]; exact r1⟩, S2⟩⟩
     ·(try simp only [vd, reduceCtorEq, ve, updD, wr0, eu]); omega
  ·replace c2 : ¬(e = 0) := by first | simpa only [vd, reduceCtorEq, ve, updD] using c2 | (simp only [vd, reduceCtorEq, ve, updD] at c2; grind)
   refine pop_wp ?_
   refine need_wp (by first | exact ⟨_, _, _, rfl⟩ | (simp only [vd, reduceCtorEq, ve, updD]; exact ⟨_, _, _, rfl⟩)) ?_
   refine ret_wp ?_
   refine ⟨((⟨s, e⟩ : Tt), x), by first | (simp only [vd, reduceCtorEq, ve, updD]; done) | (simp only [vd, reduceCtorEq, ve, updD]; rfl), ?_⟩
   try dsimp only
   exact ⟨⟨fun h => res_no ((hI h).2.2.2.2 c2) rfl, hE⟩, kx⟩
 ·replace c1 : ¬(i < n) := by first | simpa only [vd, reduceCtorEq, ve, updD] using c1 | (simp only [vd, reduceCtorEq, ve, updD] at c1; grind)
  refine pop_wp ?_
  refine need_wp (by first | exact ⟨_, _, _, rfl⟩ | (simp only [vd, reduceCtorEq, ve, updD]; exact ⟨_, _, _, rfl⟩)) ?_
  refine ret_wp ?_
  refine ⟨((⟨s, e⟩ : Tt), x), by first | (simp only [vd, reduceCtorEq, ve, updD]; done) | (simp only [vd, reduceCtorEq, ve, updD]; rfl), ?_⟩
  try dsimp only
  exact ⟨⟨fun h => by
   obtain ⟨i0, i1, i2, i3, i4⟩ := hI h
   by_cases h0 : e = 0
   ·show resR _ (lstL n.toNat (ls t.s)) _
    rw [(i3 h0).2, show (n - i).toNat = 0 by omega]
    exact ⟨(ba_ls s).symm, h0, (List.append_nil _).symm⟩
   ·exact res_no (i4 h0) rfl, hE⟩, kx⟩
def kSameAll (sg : Sig) : Sig × Con := (sg, mkFun (fun x : Rw Rep × Rw Rep => ([Rw.atom eP x.1, Rw.atom eP x.2] : List Atom)) (fun x => (x.1.ok 4 ∧ ∀ z ∈ x.1.l, z.l.ok 1 ∧ z.l.l.length ≤ 140737488355328) ∧ (x.2.ok 4 ∧ ∀ z ∈ x.2.l, z.l.ok 1) ∧ (x.1.l.length : Int) ≤ 1000000) (fun x => [aB (decide (x.1.l.map Rep.v = x.2.l.map Rep.v))]))
set_option maxHeartbeats 1000000 in
theorem h18 : holds Tryd.prog (kSameAll sg18) := by
 refine fn_holds (l := [kSame sg12]) ⟨h12, trivial⟩ hP rs18 (inj_of (fun l : List Atom => ((Rw.un unP (l.getD 0 atom0), Rw.un unP (l.getD 1 atom0)) : Rw Rep × Rw Rep)) (fun _ => by simp [List.getD_cons_zero, List.getD_cons_succ, unA_atom, unF_at])) Tryd.func18 (by kernel_rfl) (c := code Tryd.f18) (by kernel_rfl) (an := an18) (by kernel_rfl) (pk := pk18) rfl (t := t18) (by kernel_rfl) ?_
 rintro ⟨a, b⟩ ⟨⟨ka, ha⟩, ⟨kb, hb⟩, hn⟩
 refine ⟨by simp [pk18, KindsOk, RK.ok, Rw.atom, Sl.atom], ?_⟩
 unfold t18
 dsimp only at ka ha kb hb hn
 refine need_wp (by first | exact ⟨_, _, _, rfl⟩ | (simp only [vd, reduceCtorEq, ve, updD]; exact ⟨_, _, _, rfl⟩)) ?_
 refine need_wp (by first | exact ⟨_, _, _, rfl⟩ | (simp only [vd, reduceCtorEq, ve, updD]; exact ⟨_, _, _, rfl⟩)) ?_
 refine br_wp (fun c1 => ?_) (fun c1 => ?_)
 ·replace c1 : (a.l.length : Int) ≠ (b.l.length : Int) := by first | simpa only [vd, reduceCtorEq, ve, updD] using c1 | (simp only [vd, reduceCtorEq, ve, updD] at c1; grind)
  refine ret_wp ?_
  try dsimp only
  simp only [vd, reduceCtorEq, ve, updD]; exact (decide_eq_false (fun h => c1 (by have := congrArg List.length h; simp at this; omega))).symm
 ·replace c1 : ¬((a.l.length : Int) ≠ (b.l.length : Int)) := by first | simpa only [vd, reduceCtorEq, ve, updD] using c1 | (simp only [vd, reduceCtorEq, ve, updD] at c1; grind)
  refine loop_wp (fun bs0 => ∃ (i : Int), bs0 = [aI i] ∧ (0 ≤ i ∧ i ≤ (a.l.length : Int) ∧ (a.l.take i.toNat).map Rep.v = (b.l.take i.toNat).map Rep.v)) (fun bs0 => ((a.l.length : Int) - vi (bs0.getD 0 atom0).1).toNat) ?_ ?_
  ·refine ⟨0, by first | (simp only [vd, reduceCtorEq, ve, updD]; done) | (simp only [vd, reduceCtorEq, ve, updD]; rfl) | simp only [vd, reduceCtorEq, ve, updD, Rw.atom, Rw.nil, List.length_nil, List.map_nil], ?_⟩
   exact ⟨by omega, by omega, by simp⟩
  rintro _ _ ⟨i, rfl, ⟨i0, i1, hE⟩⟩
  refine need_wp (by first | exact ⟨_, _, _, rfl⟩ | (simp only [vd, reduceCtorEq, ve, updD]; exact ⟨_, _, _, rfl⟩)) ?_
  refine br_wp (fun c2 => ?_) (fun c2 => ?_)
  ·replace c2 : i < (a.l.length : Int) := by first | simpa only [vd, reduceCtorEq, ve, updD] using c2 | (simp only [vd, reduceCtorEq, ve, updD] at c2; grind)
   have hc1 := cell_P3 a (i := i) i0 c2
   have hc2 := cell_P3 b (i := i) i0 (by omega)
   have w1 : IntKind.i64.wrap (i + 1) = i + 1 := wrap_id _ (by omega) (by omega)
   refine need_wp (by first | exact ⟨_, _, _, rfl⟩ | (simp only [vd, reduceCtorEq, ve, updD, hc1, hc2, w1]; exact ⟨_, _, _, rfl⟩)) ?_
   refine need_wp (by first | exact rw_row _ _ | (simp only [vd, reduceCtorEq, ve, updD, hc1, hc2, w1]; exact ⟨_, _, rfl⟩)) ?_
   refine need_wp (by simp only [vd, reduceCtorEq, ve, updD, hc1, hc2, w1, List.length_cons, List.length_nil, List.length_append, List.length_set]; first | omega | (grind)) ?_
   refine need_wp (by first | exact ⟨_, _, _, rfl⟩ | (simp only [vd, reduceCtorEq, ve, updD, hc1, hc2, w1]; exact ⟨_, _, _, rfl⟩)) ?_
   refine need_wp (by first | exact rw_row _ _ | (simp only [vd, reduceCtorEq, ve, updD, hc1, hc2, w1]; exact ⟨_, _, rfl⟩)) ?_
   refine need_wp (by simp only [vd, reduceCtorEq, ve, updD, hc1, hc2, w1, List.length_cons, List.length_nil, List.length_append, List.length_set]; first | omega | (grind)) ?_
   refine need_wp (by first | exact ⟨_, _, _, rfl⟩ | (simp only [vd, reduceCtorEq, ve, updD, hc1, hc2, w1]; exact ⟨_, _, _, rfl⟩)) ?_
   refine need_wp (by first | exact rw_row _ _ | (simp only [vd, reduceCtorEq, ve, updD, hc1, hc2, w1]; exact ⟨_, _, rfl⟩)) ?_
   refine need_wp (by first | exact rw_sz' rfl | exact rw_szn (by assumption) (.inr (by omega)) | (simp only [vd, reduceCtorEq, ve, updD, hc1, hc2, w1]; exact rw_szn (by assumption) (.inr (by omega))) | exact rw_szn (by simp [Rw.ok]) (.inr (by omega))) ?_
   refine need_wp (by simp only [vd, reduceCtorEq, ve, updD, hc1, hc2, w1]; exact kind_Rp0 (by omega) (by omega)) ?_
   refine need_wp (by simp only [vd, reduceCtorEq, ve, updD, hc1, hc2, w1]; exact kind_Rp1 (by omega) (by omega)) ?_
   refine need_wp (by simp only [vd, reduceCtorEq, ve, updD, hc1, hc2, w1]; exact kind_Rp2 (by omega) (by omega)) ?_
   refine need_wp (by simp only [vd, reduceCtorEq, ve, updD, hc1, hc2, w1]; first | exact ⟨_, _, _, rfl⟩ | exact kind_Rp3 (by omega) (by omega)) ?_
   refine need_wp (by first | exact ⟨_, _, _, rfl⟩ | (simp only [vd, reduceCtorEq, ve, updD, hc1, hc2, w1]; exact ⟨_, _, _, rfl⟩)) ?_
   refine need_wp (by first | exact rw_row _ _ | (simp only [vd, reduceCtorEq, ve, updD, hc1, hc2, w1]; exact ⟨_, _, rfl⟩)) ?_
   refine need_wp (by first | exact rw_sz' rfl | exact rw_szn (by assumption) (.inr (by omega)) | (simp only [vd, reduceCtorEq, ve, updD, hc1, hc2, w1]; exact rw_szn (by assumption) (.inr (by omega))) | exact rw_szn (by simp [Rw.ok]) (.inr (by omega))) ?_
   refine need_wp (by simp only [vd, reduceCtorEq, ve, updD, hc1, hc2, w1]; exact kind_Rp0 (by omega) (by omega)) ?_
   refine need_wp (by simp only [vd, reduceCtorEq, ve, updD, hc1, hc2, w1]; exact kind_Rp1 (by omega) (by omega)) ?_
   refine need_wp (by simp only [vd, reduceCtorEq, ve, updD, hc1, hc2, w1]; exact kind_Rp2 (by omega) (by omega)) ?_
   refine need_wp (by simp only [vd, reduceCtorEq, ve, updD, hc1, hc2, w1]; first | exact ⟨_, _, _, rfl⟩ | exact kind_Rp3 (by omega) (by omega)) ?_
   refine call_fun (((a.get i), (b.get i))) rfl (by first | (simp only [vd, reduceCtorEq, ve, updD, hc1, hc2, w1]; done) | (simp only [vd, reduceCtorEq, ve, updD, hc1, hc2, w1]; rfl)) (⟨(ha _ (get_mem i0 c2)).1, hb _ (get_mem i0 (by omega)), (ha _ (get_mem i0 c2)).2⟩) ?_
   refine br_wp (fun c3 => ?_) (fun c3 => ?_)
   ·replace c3 : (a.get i).v = (b.get i).v := by first | simpa only [vd, reduceCtorEq, ve, updD, hc1, hc2, w1] using c3 | (simp only [vd, reduceCtorEq, ve, updD, hc1, hc2, w1] at c3; grind)
    refine again_wp rfl ⟨(i + 1), by simp only [vd, reduceCtorEq, ve, updD, hc1, hc2, w1], ?_⟩ ?_
    ·exact ⟨by omega, by omega, by rw [take_v i0 c2, take_v i0 (by omega), hE, c3]⟩
    ·(try simp only [vd, reduceCtorEq, ve, updD, hc1, hc2, w1]); omega
   ·replace c3 : ¬((a.get i).v = (b.get i).v) := by first | simpa only [vd, reduceCtorEq, ve, updD, hc1, hc2, w1] using c3 | (simp only [vd, reduceCtorEq, ve, updD, hc1, hc2, w1] at c3; grind)
    refine pop_wp ?_
    refine ret_wp ?_
    try dsimp only
    simp only [vd, reduceCtorEq, ve, updD, hc1, hc2, w1]; exact (decide_eq_false (fun h => c3 (get_of_map h i0 c2 (by omega)))).symm
  ·replace c2 : ¬(i < (a.l.length : Int)) := by first | simpa only [vd, reduceCtorEq, ve, updD] using c2 | (simp only [vd, reduceCtorEq, ve, updD] at c2; grind)
   refine pop_wp ?_
   refine ret_wp ?_
   try dsimp only
   simp only [vd, reduceCtorEq, ve, updD]; exact (decide_eq_true (by rw [← List.take_of_length_le (show a.l.length ≤ i.toNat by omega), ← List.take_of_length_le (l := b.l) (show b.l.length ≤ i.toNat by omega)]; exact hE)).symm
end Go.Proofs.YtbcbjgomnhajdaaDoorK
end

section
set_option linter.unusedSimpArgs false
set_option linter.unusedVariables false
set_option linter.unnecessarySimpa false
namespace Go.Proofs.YtbcbjgomnhajdaaDoorK
open Go Go.Proofs.YtbcbjgomnhajdaaDoorV Go.Proofs Go.Proofs.YtbcbjgomnhajdaaDoorK Go.Proofs.YtbcbjgomnhajdaaDoorK
def kDecR (sg : Sig) : Sig × Con := (sg, mkRel (fun x : Rw Int => ([Rw.atom eB x] : List Atom)) (fun b => b.ok 1 ∧ isB b.l ∧ b.l.length ≤ 100000) (fun x : Rep × Int × Int => ([aI x.1.k, aS x.1.t, aI x.1.n, Rw.atom eS x.1.l, aI x.2.1, aI x.2.2] : List Atom)) (fun b y => (y.1.v, y.2.1, y.2.2) = dec (ls (ofBytes b.l)) ∧ y.1.l.ok 1))
set_option maxHeartbeats 1000000 in
theorem h15 : holds Tryd.prog (kDecR sg15) := by
 refine fn_holds (l := [kText sg25, kNum sg26, kByt sg27, kLst sg28]) ⟨h25, h26, h27, h28, trivial⟩ hP rs15 (inj_of (fun l : List Atom => (Rw.un unI (l.getD 0 atom0) : Rw Int)) (fun _ => by simp [List.getD_cons_zero, List.getD_cons_succ, unA_atom, unF_at])) Tryd.func15 (by kernel_rfl) (c := code Tryd.f15) (by kernel_rfl) (an := an15) (by kernel_rfl) (pk := pk15) rfl (t := t15) (by kernel_rfl) ?_
 rintro b ⟨kb, hB, hl⟩
 refine ⟨by simp [pk15, KindsOk, RK.ok, Rw.atom, Sl.atom], ?_⟩
 unfold t15
 have hSn : (ofBytes b.l).size = b.l.length := by rw [← ls_len, ls_len_of hB]
 refine need_wp (by first | exact ⟨_, _, _, rfl⟩ | (simp only [vd, reduceCtorEq, ve, updD]; exact ⟨_, _, _, rfl⟩)) ?_
 refine br_wp (fun c1 => ?_) (fun c1 => ?_)
 ·replace c1 : (b.l.length : Int) = 0 := by first | simpa only [vd, reduceCtorEq, ve, updD] using c1 | (simp only [vd, reduceCtorEq, ve, updD] at c1; grind)
  refine need_wp (by first | exact ⟨_, _, _, rfl⟩ | (simp only [vd, reduceCtorEq, ve, updD]; exact ⟨_, _, _, rfl⟩)) ?_
  refine ret_wp ?_
  refine ⟨((⟨0, (⟨#[]⟩ : ByteArray), 0, Rw.nil⟩ : Rep), 0, 8), by first | (simp only [vd, reduceCtorEq, ve, updD]; done) | (simp only [vd, reduceCtorEq, ve, updD]; rfl), ?_⟩
  try dsimp only
  exact ⟨(dec_em (S := ofBytes b.l) (by rw [show b.l = [] from List.eq_nil_of_length_eq_zero (by omega)]; rfl)).symm, .inl rfl⟩
 ·replace c1 : ¬((b.l.length : Int) = 0) := by first | simpa only [vd, reduceCtorEq, ve, updD] using c1 | (simp only [vd, reduceCtorEq, ve, updD] at c1; grind)
  have hsub := sub_rw (e := eB) (r := b) (z := 1) (i := 1) (j := (b.l.length : Int)) kb (by omega) (by omega) (by omega)
  obtain ⟨u, hu⟩ : ∃ z, z = ofBytes (b.sub 1 1 (b.l.length : Int)).l := ⟨_, rfl⟩
  have eu : ofBytes (b.sub 1 1 (b.l.length : Int)).l = u := hu.symm
  have kS := ok_rsub (z := 1) kb 1 (b.l.length : Int)
  have hBS := isB_rsub hB 1 (b.l.length : Int)
  obtain ⟨cc, hS, hg⟩ := head_of hB (by omega)
  rw [eu] at hS
  have hln := congrArg List.length hS
  rw [List.length_cons, ls_len, ls_len, hSn] at hln
  refine need_wp (by first | exact ⟨_, _, _, rfl⟩ | (simp only [vd, reduceCtorEq, ve, updD, hsub, eu]; exact ⟨_, _, _, rfl⟩)) ?_
  refine need_wp (by first | exact rw_szz (by assumption) | exact rw_szz (.inr rfl)) ?_
  refine need_wp (by simp only [vd, reduceCtorEq, ve, updD, hsub, eu, List.length_cons, List.length_nil, List.length_append, List.length_set]; first | omega | (grind)) ?_
  refine need_wp (by simp only [vd, reduceCtorEq, ve, updD, hsub, eu, List.length_cons, List.length_nil, List.length_append, List.length_set]; first | omega | (grind)) ?_
  refine need_wp (by first | exact ⟨_, _, _, rfl⟩ | (simp only [vd, reduceCtorEq, ve, updD, hsub, eu]; exact ⟨_, _, _, rfl⟩)) ?_
  refine need_wp (by simp only [vd, reduceCtorEq, ve, updD, hsub, eu]; exact need_bytes (by assumption) (by assumption)) ?_
  refine need_wp (by first | exact ⟨_, _, _, rfl⟩ | (simp only [vd, reduceCtorEq, ve, updD, hsub, eu]; exact ⟨_, _, _, rfl⟩)) ?_
  refine need_wp (by first | exact rw_row _ _ | (simp only [vd, reduceCtorEq, ve, updD, hsub, eu]; exact ⟨_, _, rfl⟩)) ?_
  refine need_wp (by simp only [vd, reduceCtorEq, ve, updD, hsub, eu, List.length_cons, List.length_nil, List.length_append, List.length_set]; first | omega | (grind)) ?_
  refine need_wp (by first | exact ⟨_, _, _, rfl⟩ | (simp only [vd, reduceCtorEq, ve, updD, hsub, eu]; exact ⟨_, _, _, rfl⟩)) ?_
  refine need_wp (by first | exact rw_row _ _ | (simp only [vd, reduceCtorEq, ve, updD, hsub, eu]; exact ⟨_, _, rfl⟩)) ?_
  refine need_wp (by first | exact rw_sz' rfl | exact rw_szn (by assumption) (.inr (by omega)) | (simp only [vd, reduceCtorEq, ve, updD, hsub, eu]; exact rw_szn (by assumption) (.inr (by omega))) | exact rw_szn (by simp [Rw.ok]) (.inr (by omega))) ?_
  refine need_wp (by simp only [vd, reduceCtorEq, ve, updD, hsub, eu]; exact kind_Rb (by omega) (by omega)) ?_
  refine br_wp (fun c2 => ?_) (fun c2 => ?_)
  ·replace c2 : (b.get 0) = 43 := by first | simpa only [vd, reduceCtorEq, ve, updD, hsub, eu] using c2 | (simp only [vd, reduceCtorEq, ve, updD, hsub, eu] at c2; grind)
   have hs : cc = 43 := g_lit (d := 43) hg c2
   refine call_rel ((⟨u, 0⟩ : Tt)) rfl (by first | (simp only [vd, reduceCtorEq, ve, updD, hsub, eu]; done) | (simp only [vd, reduceCtorEq, ve, updD, hsub, eu]; rfl)) (fun _ => by dsimp only; omega) ?_
   rintro ⟨t1, x1⟩ et1
   try dsimp only at et1
   obtain ⟨E1, O1⟩ := txE (et1.1 rfl)
   refine need_wp (by first | exact ⟨_, _, _, rfl⟩ | (simp only [vd, reduceCtorEq, ve, updD, hsub, eu]; exact ⟨_, _, _, rfl⟩)) ?_
   refine need_wp (by first | exact rw_row _ _ | (simp only [vd, reduceCtorEq, ve, updD, hsub, eu]; exact ⟨_, _, rfl⟩)) ?_
   refine need_wp (by first | exact ⟨_, _, _, rfl⟩ | (simp only [vd, reduceCtorEq, ve, updD, hsub, eu]; exact ⟨_, _, _, rfl⟩)) ?_
   refine need_wp (by first | exact rw_row _ _ | (simp only [vd, reduceCtorEq, ve, updD, hsub, eu]; exact ⟨_, _, rfl⟩)) ?_
   refine need_wp (by first | exact rw_sz' rfl | exact rw_szn (by assumption) (.inr (by omega)) | (simp only [vd, reduceCtorEq, ve, updD, hsub, eu]; exact rw_szn (by assumption) (.inr (by omega))) | exact rw_szn (by simp [Rw.ok]) (.inr (by omega))) ?_
   refine need_wp (by simp only [vd, reduceCtorEq, ve, updD, hsub, eu]; exact kind_Rb (by omega) (by omega)) ?_
   refine br_wp (fun c3 => ?_) (fun c3 => ?_)
   ·replace c3 : (b.get 0) = 45 := by first | simpa only [vd, reduceCtorEq, ve, updD, hsub, eu] using c3 | (simp only [vd, reduceCtorEq, ve, updD, hsub, eu] at c3; grind)
    exfalso; omega
   ·replace c3 : ¬((b.get 0) = 45) := by first | simpa only [vd, reduceCtorEq, ve, updD, hsub, eu] using c3 | (simp only [vd, reduceCtorEq, ve, updD, hsub, eu] at c3; grind)
    refine br_wp (fun c5 => ?_) (fun c5 => ?_)
    ·replace c5 : t1.e ≠ 0 := by first | simpa only [vd, reduceCtorEq, ve, updD, hsub, eu] using c5 | (simp only [vd, reduceCtorEq, ve, updD, hsub, eu] at c5; grind)
     refine need_wp (by first | exact ⟨_, _, _, rfl⟩ | (simp only [vd, reduceCtorEq, ve, updD, hsub, eu]; exact ⟨_, _, _, rfl⟩)) ?_
     refine ret_wp ?_
     refine ⟨((⟨0, (⟨#[]⟩ : ByteArray), 0, Rw.nil⟩ : Rep), 0, t1.e), by first | (simp only [vd, reduceCtorEq, ve, updD, hsub, eu]; done) | (simp only [vd, reduceCtorEq, ve, updD, hsub, eu]; rfl), ?_⟩
     try dsimp only
     exact ⟨(d43n hS hs (E1 c5)).symm, .inl rfl⟩
    ·replace c5 : ¬(t1.e ≠ 0) := by first | simpa only [vd, reduceCtorEq, ve, updD, hsub, eu] using c5 | (simp only [vd, reduceCtorEq, ve, updD, hsub, eu] at c5; grind)
     refine need_wp (by first | exact ⟨_, _, _, rfl⟩ | (simp only [vd, reduceCtorEq, ve, updD, hsub, eu]; exact ⟨_, _, _, rfl⟩)) ?_
     refine need_wp (by first | exact ⟨_, _, _, rfl⟩ | (simp only [vd, reduceCtorEq, ve, updD, hsub, eu]; exact ⟨_, _, _, rfl⟩)) ?_
     refine ret_wp ?_
     refine ⟨((⟨1, x1, 0, Rw.nil⟩ : Rep), (IntKind.i64.wrap ((b.l.length : Int) - (t1.s.size : Int))), 0), by first | (simp only [vd, reduceCtorEq, ve, updD, hsub, eu]; done) | (simp only [vd, reduceCtorEq, ve, updD, hsub, eu]; rfl), ?_⟩
     try dsimp only
     obtain ⟨q, hz⟩ := O1 (Decidable.not_not.1 c5)
     exact ⟨dec_leaf (n := b.l.length) (d43k hS hs q) hSn (by rw [ls_len] at hz; simp only at hz; omega) (by omega), .inl rfl⟩
  ·replace c2 : ¬((b.get 0) = 43) := by first | simpa only [vd, reduceCtorEq, ve, updD, hsub, eu] using c2 | (simp only [vd, reduceCtorEq, ve, updD, hsub, eu] at c2; grind)
   refine br_wp (fun c6 => ?_) (fun c6 => ?_)
   ·replace c6 : (b.get 0) = 45 := by first | simpa only [vd, reduceCtorEq, ve, updD, hsub, eu] using c6 | (simp only [vd, reduceCtorEq, ve, updD, hsub, eu] at c6; grind)
    have hs : cc = 45 := g_lit (d := 45) hg c6
    refine call_rel ((⟨u, 0⟩ : Tt)) rfl (by first | (simp only [vd, reduceCtorEq, ve, updD, hsub, eu]; done) | (simp only [vd, reduceCtorEq, ve, updD, hsub, eu]; rfl)) (fun _ => by dsimp only; omega) ?_
    rintro ⟨t2, x2⟩ et2
    try dsimp only at et2
    obtain ⟨E2, O2⟩ := txE (et2.1 rfl)
    refine need_wp (by first | exact ⟨_, _, _, rfl⟩ | (simp only [vd, reduceCtorEq, ve, updD, hsub, eu]; exact ⟨_, _, _, rfl⟩)) ?_
    refine need_wp (by first | exact rw_row _ _ | (simp only [vd, reduceCtorEq, ve, updD, hsub, eu]; exact ⟨_, _, rfl⟩)) ?_
    refine need_wp (by first | exact ⟨_, _, _, rfl⟩ | (simp only [vd, reduceCtorEq, ve, updD, hsub, eu]; exact ⟨_, _, _, rfl⟩)) ?_
    refine need_wp (by first | exact rw_row _ _ | (simp only [vd, reduceCtorEq, ve, updD, hsub, eu]; exact ⟨_, _, rfl⟩)) ?_
    refine need_wp (by first | exact rw_sz' rfl | exact rw_szn (by assumption) (.inr (by omega)) | (simp only [vd, reduceCtorEq, ve, updD, hsub, eu]; exact rw_szn (by assumption) (.inr (by omega))) | exact rw_szn (by simp [Rw.ok]) (.inr (by omega))) ?_
    refine need_wp (by simp only [vd, reduceCtorEq, ve, updD, hsub, eu]; exact kind_Rb (by omega) (by omega)) ?_
    refine br_wp (fun c7 => ?_) (fun c7 => ?_)
    ·replace c7 : t2.e ≠ 0 := by first | simpa only [vd, reduceCtorEq, ve, updD, hsub, eu] using c7 | (simp only [vd, reduceCtorEq, ve, updD, hsub, eu] at c7; grind)
     refine need_wp (by first | exact ⟨_, _, _, rfl⟩ | (simp only [vd, reduceCtorEq, ve, updD, hsub, eu]; exact ⟨_, _, _, rfl⟩)) ?_
     refine ret_wp ?_
     refine ⟨((⟨0, (⟨#[]⟩ : ByteArray), 0, Rw.nil⟩ : Rep), 0, t2.e), by first | (simp only [vd, reduceCtorEq, ve, updD, hsub, eu]; done) | (simp only [vd, reduceCtorEq, ve, updD, hsub, eu]; rfl), ?_⟩
     try dsimp only
     exact ⟨(d45n hS hs (E2 c7)).symm, .inl rfl⟩
    ·replace c7 : ¬(t2.e ≠ 0) := by first | simpa only [vd, reduceCtorEq, ve, updD, hsub, eu] using c7 | (simp only [vd, reduceCtorEq, ve, updD, hsub, eu] at c7; grind)
     refine need_wp (by first | exact ⟨_, _, _, rfl⟩ | (simp only [vd, reduceCtorEq, ve, updD, hsub, eu]; exact ⟨_, _, _, rfl⟩)) ?_
     refine need_wp (by first | exact ⟨_, _, _, rfl⟩ | (simp only [vd, reduceCtorEq, ve, updD, hsub, eu]; exact ⟨_, _, _, rfl⟩)) ?_
     refine ret_wp ?_
     refine ⟨((⟨2, x2, 0, Rw.nil⟩ : Rep), (IntKind.i64.wrap ((b.l.length : Int) - (t2.s.size : Int))), 0), by first | (simp only [vd, reduceCtorEq, ve, updD, hsub, eu]; done) | (simp only [vd, reduceCtorEq, ve, updD, hsub, eu]; rfl), ?_⟩
     try dsimp only
     obtain ⟨q, hz⟩ := O2 (Decidable.not_not.1 c7)
     exact ⟨dec_leaf (n := b.l.length) (d45k hS hs q) hSn (by rw [ls_len] at hz; simp only at hz; omega) (by omega), .inl rfl⟩
   ·replace c6 : ¬((b.get 0) = 45) := by first | simpa only [vd, reduceCtorEq, ve, updD, hsub, eu] using c6 | (simp only [vd, reduceCtorEq, ve, updD, hsub, eu] at c6; grind)
    refine br_wp (fun c8 => ?_) (fun c8 => ?_)
    ·replace c8 : (b.get 0) = 58 := by first | simpa only [vd, reduceCtorEq, ve, updD, hsub, eu] using c8 | (simp only [vd, reduceCtorEq, ve, updD, hsub, eu] at c8; grind)
     have hs : cc = 58 := g_lit (d := 58) hg c8
     refine call_rel (((⟨u, 0⟩ : Tt), (-9223372036854775808), 9223372036854775807)) rfl (by first | (simp only [vd, reduceCtorEq, ve, updD, hsub, eu]; done) | (simp only [vd, reduceCtorEq, ve, updD, hsub, eu]; rfl)) (⟨fun _ => by dsimp only; omega, .inr ⟨rfl, rfl⟩⟩) ?_
     rintro ⟨t3, n3⟩ en3
     try dsimp only at en3
     obtain ⟨E3, O3⟩ := nmE (en3.1 rfl)
     refine br_wp (fun c9 => ?_) (fun c9 => ?_)
     ·replace c9 : t3.e ≠ 0 := by first | simpa only [vd, reduceCtorEq, ve, updD, hsub, eu] using c9 | (simp only [vd, reduceCtorEq, ve, updD, hsub, eu] at c9; grind)
      refine need_wp (by first | exact ⟨_, _, _, rfl⟩ | (simp only [vd, reduceCtorEq, ve, updD, hsub, eu]; exact ⟨_, _, _, rfl⟩)) ?_
      refine ret_wp ?_
      refine ⟨((⟨0, (⟨#[]⟩ : ByteArray), 0, Rw.nil⟩ : Rep), 0, t3.e), by first | (simp only [vd, reduceCtorEq, ve, updD, hsub, eu]; done) | (simp only [vd, reduceCtorEq, ve, updD, hsub, eu]; rfl), ?_⟩
      try dsimp only
      exact ⟨(d58n hS hs (E3 c9)).symm, .inl rfl⟩
     ·replace c9 : ¬(t3.e ≠ 0) := by first | simpa only [vd, reduceCtorEq, ve, updD, hsub, eu] using c9 | (simp only [vd, reduceCtorEq, ve, updD, hsub, eu] at c9; grind)
      refine need_wp (by first | exact ⟨_, _, _, rfl⟩ | (simp only [vd, reduceCtorEq, ve, updD, hsub, eu]; exact ⟨_, _, _, rfl⟩)) ?_
      refine need_wp (by first | exact ⟨_, _, _, rfl⟩ | (simp only [vd, reduceCtorEq, ve, updD, hsub, eu]; exact ⟨_, _, _, rfl⟩)) ?_
      refine ret_wp ?_
      refine ⟨((⟨3, (⟨#[]⟩ : ByteArray), n3, Rw.nil⟩ : Rep), (IntKind.i64.wrap ((b.l.length : Int) - (t3.s.size : Int))), 0), by first | (simp only [vd, reduceCtorEq, ve, updD, hsub, eu]; done) | (simp only [vd, reduceCtorEq, ve, updD, hsub, eu]; rfl), ?_⟩
      try dsimp only
      obtain ⟨q, _, _, hz⟩ := O3 (Decidable.not_not.1 c9)
      exact ⟨dec_leaf (n := b.l.length) (d58k hS hs q) hSn (by rw [ls_len] at hz; simp only at hz; omega) (by omega), .inl rfl⟩
    ·replace c8 : ¬((b.get 0) = 58) := by first | simpa only [vd, reduceCtorEq, ve, updD, hsub, eu] using c8 | (simp only [vd, reduceCtorEq, ve, updD, hsub, eu] at c8; grind)
     refine br_wp (fun c10 => ?_) (fun c10 => ?_)
     ·replace c10 : (b.get 0) = 36 := by first | simpa only [vd, reduceCtorEq, ve, updD, hsub, eu] using c10 | (simp only [vd, reduceCtorEq, ve, updD, hsub, eu] at c10; grind)
      have hs : cc = 36 := g_lit (d := 36) hg c10
      refine call_rel (((⟨u, 0⟩ : Tt), (-1), 1099511627776)) rfl (by first | (simp only [vd, reduceCtorEq, ve, updD, hsub, eu]; done) | (simp only [vd, reduceCtorEq, ve, updD, hsub, eu]; rfl)) (⟨fun _ => by dsimp only; omega, .inl ⟨rfl, .inr rfl⟩⟩) ?_
      rintro ⟨t4, n4⟩ en4
      try dsimp only at en4
      obtain ⟨E4, O4⟩ := nmE (en4.1 rfl)
      refine br_wp (fun c11 => ?_) (fun c11 => ?_)
      ·replace c11 : n4 ≥ 0 := by first | simpa only [vd, reduceCtorEq, ve, updD, hsub, eu] using c11 | (simp only [vd, reduceCtorEq, ve, updD, hsub, eu] at c11; grind)
       refine call_rel ((t4, n4)) rfl (by first | (simp only [vd, reduceCtorEq, ve, updD, hsub, eu]; done) | (simp only [vd, reduceCtorEq, ve, updD, hsub, eu]; rfl)) (fun h => by obtain ⟨p1, p2, p3⟩ := num_pre en4 (by omega) h; exact ⟨p1, c11, p3⟩) ?_
       rintro ⟨t5, x5⟩ eb5
       try dsimp only at eb5
       refine br_wp (fun c12 => ?_) (fun c12 => ?_)
       ·replace c12 : t5.e ≠ 0 := by first | simpa only [vd, reduceCtorEq, ve, updD, hsub, eu] using c12 | (simp only [vd, reduceCtorEq, ve, updD, hsub, eu] at c12; grind)
        refine need_wp (by first | exact ⟨_, _, _, rfl⟩ | (simp only [vd, reduceCtorEq, ve, updD, hsub, eu]; exact ⟨_, _, _, rfl⟩)) ?_
        refine ret_wp ?_
        refine ⟨((⟨0, (⟨#[]⟩ : ByteArray), 0, Rw.nil⟩ : Rep), 0, t5.e), by first | (simp only [vd, reduceCtorEq, ve, updD, hsub, eu]; done) | (simp only [vd, reduceCtorEq, ve, updD, hsub, eu]; rfl), ?_⟩
        try dsimp only
        refine ⟨?_, .inl rfl⟩
        by_cases h4 : t4.e = 0
        ·exact (d36b hS hs (O4 h4).1 (by omega) ((byE c11 (eb5.1 h4)).1 c12)).symm
        ·have e5 : t5.e = t4.e := eb5.2 h4
         rw [e5]; exact (d36n hS hs (E4 h4)).symm
       ·replace c12 : ¬(t5.e ≠ 0) := by first | simpa only [vd, reduceCtorEq, ve, updD, hsub, eu] using c12 | (simp only [vd, reduceCtorEq, ve, updD, hsub, eu] at c12; grind)
        refine need_wp (by first | exact ⟨_, _, _, rfl⟩ | (simp only [vd, reduceCtorEq, ve, updD, hsub, eu]; exact ⟨_, _, _, rfl⟩)) ?_
        refine need_wp (by first | exact ⟨_, _, _, rfl⟩ | (simp only [vd, reduceCtorEq, ve, updD, hsub, eu]; exact ⟨_, _, _, rfl⟩)) ?_
        refine ret_wp ?_
        refine ⟨((⟨4, x5, 0, Rw.nil⟩ : Rep), (IntKind.i64.wrap ((b.l.length : Int) - (t5.s.size : Int))), 0), by first | (simp only [vd, reduceCtorEq, ve, updD, hsub, eu]; done) | (simp only [vd, reduceCtorEq, ve, updD, hsub, eu]; rfl), ?_⟩
        try dsimp only
        have h5 := Decidable.not_not.1 c12
        have h4 : t4.e = 0 := Decidable.byContradiction fun h => h ((show t5.e = t4.e from eb5.2 h).symm.trans h5)
        obtain ⟨p1, _, _, hz4⟩ := O4 h4
        obtain ⟨q, hz⟩ := (byE c11 (eb5.1 h4)).2 h5
        rw [ls_len] at hz4
        exact ⟨dec_leaf (n := b.l.length) (d36k hS hs p1 (by omega) q) hSn (by rw [ls_len] at hz; simp only at hz hz4; omega) (by omega), .inl rfl⟩
      ·replace c11 : ¬(n4 ≥ 0) := by first | simpa only [vd, reduceCtorEq, ve, updD, hsub, eu] using c11 | (simp only [vd, reduceCtorEq, ve, updD, hsub, eu] at c11; grind)
       refine br_wp (fun c13 => ?_) (fun c13 => ?_)
       ·replace c13 : t4.e ≠ 0 := by first | simpa only [vd, reduceCtorEq, ve, updD, hsub, eu] using c13 | (simp only [vd, reduceCtorEq, ve, updD, hsub, eu] at c13; grind)
        refine need_wp (by first | exact ⟨_, _, _, rfl⟩ | (simp only [vd, reduceCtorEq, ve, updD, hsub, eu]; exact ⟨_, _, _, rfl⟩)) ?_
        refine ret_wp ?_
        refine ⟨((⟨0, (⟨#[]⟩ : ByteArray), 0, Rw.nil⟩ : Rep), 0, t4.e), by first | (simp only [vd, reduceCtorEq, ve, updD, hsub, eu]; done) | (simp only [vd, reduceCtorEq, ve, updD, hsub, eu]; rfl), ?_⟩
        try dsimp only
        exact ⟨(d36n hS hs (E4 c13)).symm, .inl rfl⟩
       ·replace c13 : ¬(t4.e ≠ 0) := by first | simpa only [vd, reduceCtorEq, ve, updD, hsub, eu] using c13 | (simp only [vd, reduceCtorEq, ve, updD, hsub, eu] at c13; grind)
        refine need_wp (by first | exact ⟨_, _, _, rfl⟩ | (simp only [vd, reduceCtorEq, ve, updD, hsub, eu]; exact ⟨_, _, _, rfl⟩)) ?_
        refine need_wp (by first | exact ⟨_, _, _, rfl⟩ | (simp only [vd, reduceCtorEq, ve, updD, hsub, eu]; exact ⟨_, _, _, rfl⟩)) ?_
        refine ret_wp ?_
        refine ⟨((⟨5, (⟨#[]⟩ : ByteArray), 0, Rw.nil⟩ : Rep), (IntKind.i64.wrap ((b.l.length : Int) - (t4.s.size : Int))), 0), by first | (simp only [vd, reduceCtorEq, ve, updD, hsub, eu]; done) | (simp only [vd, reduceCtorEq, ve, updD, hsub, eu]; rfl), ?_⟩
        try dsimp only
        obtain ⟨q, _, _, hz⟩ := O4 (Decidable.not_not.1 c13)
        exact ⟨dec_leaf (n := b.l.length) (d36z hS hs q (by omega)) hSn (by rw [ls_len] at hz; simp only at hz; omega) (by omega), .inl rfl⟩
     ·replace c10 : ¬((b.get 0) = 36) := by first | simpa only [vd, reduceCtorEq, ve, updD, hsub, eu] using c10 | (simp only [vd, reduceCtorEq, ve, updD, hsub, eu] at c10; grind)
      refine br_wp (fun c14 => ?_) (fun c14 => ?_)
      ·replace c14 : (b.get 0) = 42 := by first | simpa only [vd, reduceCtorEq, ve, updD, hsub, eu] using c14 | (simp only [vd, reduceCtorEq, ve, updD, hsub, eu] at c14; grind)
       have hs : cc = 42 := g_lit (d := 42) hg c14
       refine call_rel (((⟨u, 0⟩ : Tt), 0, 1099511627776)) rfl (by first | (simp only [vd, reduceCtorEq, ve, updD, hsub, eu]; done) | (simp only [vd, reduceCtorEq, ve, updD, hsub, eu]; rfl)) (⟨fun _ => by dsimp only; omega, .inl ⟨rfl, .inl rfl⟩⟩) ?_
       rintro ⟨t6, n6⟩ en6
       try dsimp only at en6
       obtain ⟨E6, O6⟩ := nmE (en6.1 rfl)
       refine call_rel ((t6, n6)) rfl (by first | (simp only [vd, reduceCtorEq, ve, updD, hsub, eu]; done) | (simp only [vd, reduceCtorEq, ve, updD, hsub, eu]; rfl)) (num_pre en6 (by omega)) ?_
       rintro ⟨t7, z7⟩ ⟨el7, ol7⟩
       try dsimp only at el7 ol7
       refine br_wp (fun c15 => ?_) (fun c15 => ?_)
       ·replace c15 : t7.e ≠ 0 := by first | simpa only [vd, reduceCtorEq, ve, updD, hsub, eu] using c15 | (simp only [vd, reduceCtorEq, ve, updD, hsub, eu] at c15; grind)
        refine need_wp (by first | exact ⟨_, _, _, rfl⟩ | (simp only [vd, reduceCtorEq, ve, updD, hsub, eu]; exact ⟨_, _, _, rfl⟩)) ?_
        refine ret_wp ?_
        refine ⟨((⟨0, (⟨#[]⟩ : ByteArray), 0, Rw.nil⟩ : Rep), 0, t7.e), by first | (simp only [vd, reduceCtorEq, ve, updD, hsub, eu]; done) | (simp only [vd, reduceCtorEq, ve, updD, hsub, eu]; rfl), ?_⟩
        try dsimp only
        refine ⟨?_, .inl rfl⟩
        by_cases h6 : t6.e = 0
        ·exact (d42l hS hs (O6 h6).1 ((lsE (el7.1 h6)).1 c15)).symm
        ·have e7 : t7.e = t6.e := el7.2 h6
         rw [e7]; exact (d42n hS hs (E6 h6)).symm
       ·replace c15 : ¬(t7.e ≠ 0) := by first | simpa only [vd, reduceCtorEq, ve, updD, hsub, eu] using c15 | (simp only [vd, reduceCtorEq, ve, updD, hsub, eu] at c15; grind)
        refine need_wp (by first | exact ⟨_, _, _, rfl⟩ | (simp only [vd, reduceCtorEq, ve, updD, hsub, eu]; exact ⟨_, _, _, rfl⟩)) ?_
        refine need_wp (by first | exact ⟨_, _, _, rfl⟩ | (simp only [vd, reduceCtorEq, ve, updD, hsub, eu]; exact ⟨_, _, _, rfl⟩)) ?_
        refine ret_wp ?_
        refine ⟨((⟨6, (⟨#[]⟩ : ByteArray), 0, z7⟩ : Rep), (IntKind.i64.wrap ((b.l.length : Int) - (t7.s.size : Int))), 0), by first | (simp only [vd, reduceCtorEq, ve, updD, hsub, eu]; done) | (simp only [vd, reduceCtorEq, ve, updD, hsub, eu]; rfl), ?_⟩
        try dsimp only
        have h7 := Decidable.not_not.1 c15
        have h6 : t6.e = 0 := Decidable.byContradiction fun h => h ((show t7.e = t6.e from el7.2 h).symm.trans h7)
        obtain ⟨p1, _, _, hz6⟩ := O6 h6
        obtain ⟨q, hz⟩ := (lsE (el7.1 h6)).2 h7
        rw [ls_len] at hz6
        exact ⟨dec_leaf (n := b.l.length) (d42k hS hs p1 q) hSn (by rw [ls_len] at hz; simp only at hz hz6; omega) (by omega), ol7⟩
      ·replace c14 : ¬((b.get 0) = 42) := by first | simpa only [vd, reduceCtorEq, ve, updD, hsub, eu] using c14 | (simp only [vd, reduceCtorEq, ve, updD, hsub, eu] at c14; grind)
       refine need_wp (by first | exact ⟨_, _, _, rfl⟩ | (simp only [vd, reduceCtorEq, ve, updD, hsub, eu]; exact ⟨_, _, _, rfl⟩)) ?_
       refine ret_wp ?_
       refine ⟨((⟨0, (⟨#[]⟩ : ByteArray), 0, Rw.nil⟩ : Rep), 0, 9), by first | (simp only [vd, reduceCtorEq, ve, updD, hsub, eu]; done) | (simp only [vd, reduceCtorEq, ve, updD, hsub, eu]; rfl), ?_⟩
       try dsimp only
       exact ⟨(dec_out hS (g_not (d := 43) hg c2) (g_not (d := 45) hg c6) (g_not (d := 58) hg c8) (g_not (d := 36) hg c10) (g_not (d := 42) hg c14)).symm, .inl rfl⟩
def kAllR (sg : Sig) : Sig × Con := (sg, mkRel (fun x : Rw Int => ([Rw.atom eB x] : List Atom)) (fun b => b.ok 1 ∧ isB b.l ∧ b.l.length ≤ 100000) (fun x : Rw Rep × Int => ([Rw.atom eP x.1, aI x.2] : List Atom)) (fun b y => (y.1.l.map Rep.v, y.2) = all (ls (ofBytes b.l)) ∧ y.1.ok 4 ∧ ∀ z ∈ y.1.l, z.l.ok 1 ∧ in64 z.n))
set_option maxHeartbeats 1000000 in
theorem h17 : holds Tryd.prog (kAllR sg17) := by
 refine fn_holds (l := [kDecR sg15]) ⟨h15, trivial⟩ hP rs17 (inj_of (fun l : List Atom => (Rw.un unI (l.getD 0 atom0) : Rw Int)) (fun _ => by simp [List.getD_cons_zero, List.getD_cons_succ, unA_atom, unF_at])) Tryd.func17 (by kernel_rfl) (c := code Tryd.f17) (by kernel_rfl) (an := an17) (by kernel_rfl) (pk := pk17) rfl (t := t17) (by kernel_rfl) ?_
 rintro b ⟨kb, hB, hl⟩
 refine ⟨by simp [pk17, KindsOk, RK.ok, Rw.atom, Sl.atom], ?_⟩
 unfold t17
 refine need_wp (by first | exact ⟨_, _, _, rfl⟩ | (simp only [vd, reduceCtorEq, ve, updD]; exact ⟨_, _, _, rfl⟩)) ?_
 refine need_wp (by first | exact ⟨_, _, _, rfl⟩ | (simp only [vd, reduceCtorEq, ve, updD]; exact ⟨_, _, _, rfl⟩)) ?_
 refine loop_wp (fun bs0 => ∃ (c : Rw Int) (x : Rw Rep), bs0 = [Rw.atom eB c, Rw.atom eP x] ∧ (c.ok 1 ∧ isB c.l ∧ (x.l.length : Int) + c.l.length ≤ b.l.length ∧ x.ok 4 ∧ (∀ z ∈ x.l, z.l.ok 1 ∧ in64 z.n) ∧ all (ls (ofBytes b.l)) = comb (x.l.map Rep.v) (all (ls (ofBytes c.l))))) (fun bs0 => vn (bs0.getD 0 atom0).1) ?_ ?_
 ·refine ⟨b, Rw.nil, by first | (simp only [vd, reduceCtorEq, ve, updD]; done) | (simp only [vd, reduceCtorEq, ve, updD]; rfl) | simp only [vd, reduceCtorEq, ve, updD, Rw.atom, Rw.nil, List.length_nil, List.map_nil], ?_⟩
  exact ⟨kb, hB, by simp [Rw.nil], .inl rfl, (fun z hz => by cases hz), (comb_nil _).symm⟩
 rintro _ _ ⟨c, x, rfl, ⟨kc, hC, hn, kx, hx, hA⟩⟩
 refine need_wp (by first | exact ⟨_, _, _, rfl⟩ | (simp only [vd, reduceCtorEq, ve, updD]; exact ⟨_, _, _, rfl⟩)) ?_
 refine br_wp (fun c1 => ?_) (fun c1 => ?_)
 ·replace c1 : (c.l.length : Int) > 0 := by first | simpa only [vd, reduceCtorEq, ve, updD] using c1 | (simp only [vd, reduceCtorEq, ve, updD] at c1; grind)
  refine call_rel (c) rfl (by first | (simp only [vd, reduceCtorEq, ve, updD]; done) | (simp only [vd, reduceCtorEq, ve, updD]; rfl)) (⟨kc, hC, by omega⟩) ?_
  rintro ⟨y1, n1, e1⟩ ⟨ed1, od1⟩
  try dsimp only at ed1 od1
  obtain ⟨E1, D1⟩ := dec_pk2 hC ed1
  refine br_wp (fun c2 => ?_) (fun c2 => ?_)
  ·replace c2 : e1 ≠ 0 := by first | simpa only [vd, reduceCtorEq, ve, updD] using c2 | (simp only [vd, reduceCtorEq, ve, updD] at c2; grind)
   refine pop_wp ?_
   refine need_wp (by first | exact ⟨_, _, _, rfl⟩ | (simp only [vd, reduceCtorEq, ve, updD]; exact ⟨_, _, _, rfl⟩)) ?_
   refine ret_wp ?_
   refine ⟨(Rw.nil, e1), by first | (simp only [vd, reduceCtorEq, ve, updD]; done) | (simp only [vd, reduceCtorEq, ve, updD]; rfl), ?_⟩
   try dsimp only
   exact ⟨by rw [hA, all_no (ne_nil_of hC (by omega)) (E1 c2), comb_err c2]; rfl, .inl rfl, fun z hz => by cases hz⟩
  ·replace c2 : ¬(e1 ≠ 0) := by first | simpa only [vd, reduceCtorEq, ve, updD] using c2 | (simp only [vd, reduceCtorEq, ve, updD] at c2; grind)
   have z1 : e1 = 0 := Decidable.not_not.1 c2
   obtain ⟨p1, p2, p3, p4⟩ := D1 z1
   have hsl := sub_len (r := c) (z := 1) (i := n1) (by omega) p2
   have hs1 := sub_rw (e := eB) (r := c) (z := 1) (i := n1) (j := (c.l.length : Int)) kc (by omega) p2 (by omega)
   refine new_wp eP [y1] (by first | (simp only [vd, reduceCtorEq, ve, updD, hs1, eP]; done) | rfl) ?_
   intro a2 b2
   generalize hx2 : (⟨a2, b2, 4, [y1]⟩ : Rw Rep) = x2
   have lx2 : x2.l = [y1] := by first | (rw [← hx2]; done) | (rw [← hx2]; rfl)
   have zx2 : x2.z = 4 := by rw [← hx2]
   have kx2 : Rw.ok 4 x2 := .inr zx2
   have nx2 : (x2.l.length : Int) = 1 := by first | (rw [← hx2]; done) | (rw [← hx2]; simp [Rw.nil])
   refine need_wp (by first | exact ⟨_, _, _, rfl⟩ | (simp only [vd, reduceCtorEq, ve, updD, hs1]; exact ⟨_, _, _, rfl⟩)) ?_
   refine need_wp (by first | exact rw_szz (by assumption) | exact rw_szz (.inr rfl)) ?_
   refine need_wp (by simp only [vd, reduceCtorEq, ve, updD, hs1, List.length_cons, List.length_nil, List.length_append, List.length_set]; first | omega | (grind)) ?_
   refine need_wp (by simp only [vd, reduceCtorEq, ve, updD, hs1, List.length_cons, List.length_nil, List.length_append, List.length_set]; first | omega | (grind)) ?_
   refine app_wp eP x x2 (by first | rfl | simp only [vd, reduceCtorEq, ve, updD, hs1]) (by first | rfl | simp only [vd, reduceCtorEq, ve, updD, hs1]) ?_
   intro a3 b3
   generalize hx3 : (⟨a3, b3, 4, x.l ++ x2.l⟩ : Rw Rep) = x3
   have lx3 : x3.l = x.l ++ x2.l := by first | (rw [← hx3]; done) | (rw [← hx3]; rfl)
   have zx3 : x3.z = 4 := by rw [← hx3]
   have kx3 : Rw.ok 4 x3 := .inr zx3
   have nx3 : (x3.l.length : Int) = (x.l.length : Int) + (x2.l.length : Int) := by first | (rw [← hx3]; done) | (rw [← hx3]; simp [Rw.nil])
   refine need_wp (by first | exact ⟨_, _, _, rfl⟩ | (simp only [vd, reduceCtorEq, ve, updD, hs1]; exact ⟨_, _, _, rfl⟩)) ?_
   refine need_wp (by first | exact rw_szz (by assumption) | exact rw_szz (.inr rfl)) ?_
   refine need_wp (by simp only [vd, reduceCtorEq, ve, updD, hs1, List.length_cons, List.length_nil, List.length_append, List.length_set]; first | omega | (grind)) ?_
   refine need_wp (by simp only [vd, reduceCtorEq, ve, updD, hs1, List.length_cons, List.length_nil, List.length_append, List.length_set]; first | omega | (grind)) ?_
   refine need_wp (by simp only [vd, reduceCtorEq, ve, updD, hs1, List.length_cons, List.length_nil, List.length_append, List.length_set]; first | omega | (grind)) ?_
   refine need_wp (by first | exact ⟨_, _, _, rfl⟩ | (simp only [vd, reduceCtorEq, ve, updD, hs1]; exact ⟨_, _, _, rfl⟩)) ?_
   refine need_wp (by first | exact ⟨_, _, _, rfl⟩ | (simp only [vd, reduceCtorEq, ve, updD, hs1]; exact ⟨_, _, _, rfl⟩)) ?_
   refine again_wp rfl ⟨(c.sub 1 n1 (c.l.length : Int)), x3, by simp only [vd, reduceCtorEq, ve, updD, hs1], ?_⟩ ?_
   ·exact ⟨ok_rsub kc _ _, isB_rsub hC _ _, by rw [lx3, lx2, List.length_append, List.length_singleton]; omega, kx3, by rw [lx3, lx2]; intro z hz; rcases List.mem_append.1 hz with h | h; exact hx z h; obtain rfl := List.mem_singleton.1 h; exact ⟨od1, p4⟩, by rw [hA, all_ok p3, comb_comb, lx3, lx2, List.map_append]; rfl⟩
   ·(try simp only [vd, reduceCtorEq, ve, updD, hs1]); omega
 ·replace c1 : ¬((c.l.length : Int) > 0) := by first | simpa only [vd, reduceCtorEq, ve, updD] using c1 | (simp only [vd, reduceCtorEq, ve, updD] at c1; grind)
  refine pop_wp ?_
  refine need_wp (by first | exact ⟨_, _, _, rfl⟩ | (simp only [vd, reduceCtorEq, ve, updD]; exact ⟨_, _, _, rfl⟩)) ?_
  refine ret_wp ?_
  refine ⟨(x, 0), by first | (simp only [vd, reduceCtorEq, ve, updD]; done) | (simp only [vd, reduceCtorEq, ve, updD]; rfl), ?_⟩
  try dsimp only
  exact ⟨by rw [hA, show c.l = [] from List.eq_nil_of_length_eq_zero (by omega)]; exact (comb_end _).symm, kx, hx⟩
end Go.Proofs.YtbcbjgomnhajdaaDoorK
end
