import Derived.Test.YtamjocnlhhhijaaVRRB
set_option linter.unusedSimpArgs false
set_option linter.unusedVariables false
set_option linter.unnecessarySimpa false
namespace Go.Proofs.YtamjocnlhhhijaaK
open Go Go.Proofs.YtamjocnlhhhijaaV Go.Proofs Go.Proofs.YtamjocnlhhhijaaK Go.Proofs.YtamjocnlhhhijaaK
set_option maxHeartbeats 1000000 in
theorem h31s {k : Nat} (h31 : holds Try.prog (kP12 k sg31)) : holds Try.prog (kP12 (k + 1) sg31) := by
 refine fn_holds (l := [kP12 k sg31]) ⟨h31, trivial⟩ hP rs31 (inj_of (fun l : List Atom => (vi (l.getD 0 atom0).1 : Int)) (fun _ => rfl)) Try.func31 (by kernel_rfl) (c := code Try.f31) (by kernel_rfl) (an := an31) (by kernel_rfl) (pk := pk31) rfl (t := t31) (by kernel_rfl) ?_
 rintro n ⟨hpre, h64⟩
 refine ⟨by simp [pk31, KindsOk, RK.ok, Rw.atom, Sl.atom], ?_⟩
 unfold t31
 unfold in64 at h64
 refine br_wp (fun c1 => ?_) (fun c1 => ?_)
 ·replace c1 : n ≥ 0 := by first | simpa only [vd, reduceCtorEq, ve, updD] using c1 | (simp only [vd, reduceCtorEq, ve, updD] at c1; grind)
  refine br_wp (fun c2 => ?_) (fun c2 => ?_)
  ·replace c2 : n < 10 := by first | simpa only [vd, reduceCtorEq, ve, updD] using c2 | (simp only [vd, reduceCtorEq, ve, updD] at c2; grind)
   have wu : IntKind.i64.wrap (48 + n) = 48 + n := wrap_id _ (by omega) (by omega)
   have w8 : IntKind.u8.wrap (48 + n) = 48 + n := by rw [IntKind.wrap_u8]; omega
   refine new_wp eB [(48 + n)] (by first | (simp only [vd, reduceCtorEq, ve, updD, wu, w8, eB]; done) | rfl) ?_
   intro a1 b1
   refine need_wp (by first | exact ⟨_, _, _, rfl⟩ | (simp only [vd, reduceCtorEq, ve, updD, wu, w8]; exact ⟨_, _, _, rfl⟩)) ?_
   refine need_wp (by simp only [vd, reduceCtorEq, ve, updD, wu, w8]; exact bytes_one _ _ (by omega) (by omega)) ?_
   refine ret_wp ?_
   try dsimp only
   simp only [vd, reduceCtorEq, ve, updD, wu, w8]; rw [ofBytes_one, prt_one (by omega) (by omega), show (48 + n).toNat = 48 + n.toNat by omega]
  ·replace c2 : ¬(n < 10) := by first | simpa only [vd, reduceCtorEq, ve, updD] using c2 | (simp only [vd, reduceCtorEq, ve, updD] at c2; grind)
   refine br_wp (fun c3 => ?_) (fun c3 => ?_)
   ·replace c3 : n > 0 := by first | simpa only [vd, reduceCtorEq, ve, updD] using c3 | (simp only [vd, reduceCtorEq, ve, updD] at c3; grind)
    have pu := pre_up hpre (by omega)
    have u1 : quoD .i64 n 10 = n / 10 := quo_id n 10 (by omega) (by omega) (by omega)
    have u2 : remD n 10 = n % 10 := rem_id n 10 (by omega)
    refine call_fun ((n / 10)) rfl (by first | (simp only [vd, reduceCtorEq, ve, updD, u1, u2]; done) | (simp only [vd, reduceCtorEq, ve, updD, u1, u2]; rfl)) (⟨pu.1, by unfold in64; omega⟩) ?_
    refine call_fun ((n % 10)) rfl (by first | (simp only [vd, reduceCtorEq, ve, updD, u1, u2]; done) | (simp only [vd, reduceCtorEq, ve, updD, u1, u2]; rfl)) (⟨pu.2, by unfold in64; omega⟩) ?_
    refine need_wp (by simp only [vd, reduceCtorEq, ve, updD, u1, u2, size_app]; have z1 := prt_size (n := n / 10) (by unfold in64; omega); have z2 := prt_size (n := n % 10) (by unfold in64; omega); omega) ?_
    refine ret_wp ?_
    try dsimp only
    simp only [vd, reduceCtorEq, ve, updD, u1, u2]; rw [prt_up (n := n) (by omega)]
   ·replace c3 : ¬(n > 0) := by first | simpa only [vd, reduceCtorEq, ve, updD] using c3 | (simp only [vd, reduceCtorEq, ve, updD] at c3; grind)
    exfalso; omega
 ·replace c1 : ¬(n ≥ 0) := by first | simpa only [vd, reduceCtorEq, ve, updD] using c1 | (simp only [vd, reduceCtorEq, ve, updD] at c1; grind)
  refine br_wp (fun c5 => ?_) (fun c5 => ?_)
  ·replace c5 : n > 0 := by first | simpa only [vd, reduceCtorEq, ve, updD] using c5 | (simp only [vd, reduceCtorEq, ve, updD] at c5; grind)
   exfalso; omega
  ·replace c5 : ¬(n > 0) := by first | simpa only [vd, reduceCtorEq, ve, updD] using c5 | (simp only [vd, reduceCtorEq, ve, updD] at c5; grind)
   refine br_wp (fun c6 => ?_) (fun c6 => ?_)
   ·replace c6 : n > (-10) := by first | simpa only [vd, reduceCtorEq, ve, updD] using c6 | (simp only [vd, reduceCtorEq, ve, updD] at c6; grind)
    have pn := pre_neg hpre (by omega) (by omega)
    have u6 : IntKind.i64.wrap (0 - n) = -n := by rw [wrap_id _ (by omega) (by omega)]; omega
    refine call_fun ((-n)) rfl (by first | (simp only [vd, reduceCtorEq, ve, updD, u6]; done) | (simp only [vd, reduceCtorEq, ve, updD, u6]; rfl)) (⟨pn, by unfold in64; omega⟩) ?_
    refine need_wp (by simp only [vd, reduceCtorEq, ve, updD, u6, size_app]; have z0 : ((⟨#[45]⟩ : ByteArray).size : Int) = 1 := rfl; have z1 := prt_size (n := -n) (by unfold in64; omega); omega) ?_
    refine ret_wp ?_
    try dsimp only
    simp only [vd, reduceCtorEq, ve, updD, u6]; rw [prt_ng (n := n) (by omega)]; rfl
   ·replace c6 : ¬(n > (-10)) := by first | simpa only [vd, reduceCtorEq, ve, updD] using c6 | (simp only [vd, reduceCtorEq, ve, updD] at c6; grind)
    have pd := pre_dn hpre (by omega)
    have u3 := quo_neg (n := n) (by omega) (by omega)
    have u4 := rem_neg (n := n) (by omega)
    have u5 : IntKind.i64.wrap (0 - -(-n % 10)) = -n % 10 := by rw [wrap_id _ (by omega) (by omega)]; omega
    refine call_fun ((-(-n / 10))) rfl (by first | (simp only [vd, reduceCtorEq, ve, updD, u3, u4, u5]; done) | (simp only [vd, reduceCtorEq, ve, updD, u3, u4, u5]; rfl)) (⟨pd.1, by unfold in64; omega⟩) ?_
    refine call_fun ((-n % 10)) rfl (by first | (simp only [vd, reduceCtorEq, ve, updD, u3, u4, u5]; done) | (simp only [vd, reduceCtorEq, ve, updD, u3, u4, u5]; rfl)) (⟨pd.2, by unfold in64; omega⟩) ?_
    refine need_wp (by simp only [vd, reduceCtorEq, ve, updD, u3, u4, u5, size_app]; have z1 := prt_size (n := -(-n / 10)) (by unfold in64; omega); have z2 := prt_size (n := -n % 10) (by unfold in64; omega); omega) ?_
    refine ret_wp ?_
    try dsimp only
    simp only [vd, reduceCtorEq, ve, updD, u3, u4, u5]; rw [prt_dn (n := n) (by omega)]
theorem h31k (k : Nat) : holds Try.prog (kP12 k sg31) := by
 induction k with
 | zero => exact ⟨⟨Try.f31, Try.func31, by kernel_rfl, by kernel_rfl⟩, fun _ _ _ _ _ h => by obtain ⟨x, _, ⟨h, _⟩, _⟩ := h; omega⟩
 | succ k ih => exact h31s ih
theorem h31 : holds Try.prog (kPrint sg31) := holds_pre (h31k 21) fun x h => ⟨pre_64 h, h⟩
def kMay (sg : Sig) : Sig × Con := (sg, mkFun (fun x : Rw ByteArray => ([Rw.atom eS x] : List Atom)) (fun r => r.ok 1 ∧ (r.l.length : Int) ≤ 1000000) (fun r => [aB (mayB r.l)]))
set_option maxHeartbeats 1000000 in
theorem h26 : holds Try.prog (kMay sg26) := by
 refine fn_holds (l := []) trivial hP rs26 (inj_of (fun l : List Atom => (Rw.un unS (l.getD 0 atom0) : Rw ByteArray)) (fun _ => by simp [List.getD_cons_zero, List.getD_cons_succ, unA_atom, unL_atom])) Try.func26 (by kernel_rfl) (c := code Try.f26) (by kernel_rfl) (an := an26) (by kernel_rfl) (pk := pk26) rfl (t := t26) (by kernel_rfl) ?_
 rintro r ⟨kr, hn⟩
 refine ⟨by simp [pk26, KindsOk, RK.ok, Rw.atom, Sl.atom], ?_⟩
 unfold t26
 refine loop_wp (fun bs0 => ∃ (i : Int), bs0 = [aI i] ∧ (0 ≤ i ∧ i ≤ (r.l.length : Int) ∧ (r.l.take i.toNat).all (fun s => decide (s.size ≤ 1000)) = true)) (fun bs0 => ((r.l.length : Int) - vi (bs0.getD 0 atom0).1).toNat) ?_ ?_
 ·refine ⟨0, by first | (simp only [vd, reduceCtorEq, ve, updD]; done) | (simp only [vd, reduceCtorEq, ve, updD]; rfl) | simp only [vd, reduceCtorEq, ve, updD, Rw.atom, Rw.nil, List.length_nil, List.map_nil], ?_⟩
  exact ⟨by omega, by omega, by simp⟩
 rintro _ _ ⟨i, rfl, ⟨i0, i1, ha⟩⟩
 refine need_wp (by first | exact ⟨_, _, _, rfl⟩ | (simp only [vd, reduceCtorEq, ve, updD]; exact ⟨_, _, _, rfl⟩)) ?_
 refine br_wp (fun c1 => ?_) (fun c1 => ?_)
 ·replace c1 : i < (r.l.length : Int) := by first | simpa only [vd, reduceCtorEq, ve, updD] using c1 | (simp only [vd, reduceCtorEq, ve, updD] at c1; grind)
  have w1 : IntKind.i64.wrap (i + 1) = i + 1 := wrap_id _ (by omega) (by omega)
  refine need_wp (by first | exact ⟨_, _, _, rfl⟩ | (simp only [vd, reduceCtorEq, ve, updD, w1]; exact ⟨_, _, _, rfl⟩)) ?_
  refine need_wp (by first | exact rw_row _ _ | (simp only [vd, reduceCtorEq, ve, updD, w1]; exact ⟨_, _, rfl⟩)) ?_
  refine need_wp (by simp only [vd, reduceCtorEq, ve, updD, w1, List.length_cons, List.length_nil, List.length_append, List.length_set]; first | omega | (grind)) ?_
  refine need_wp (by first | exact ⟨_, _, _, rfl⟩ | (simp only [vd, reduceCtorEq, ve, updD, w1]; exact ⟨_, _, _, rfl⟩)) ?_
  refine need_wp (by first | exact rw_row _ _ | (simp only [vd, reduceCtorEq, ve, updD, w1]; exact ⟨_, _, rfl⟩)) ?_
  refine need_wp (by first | exact rw_sz' rfl | exact rw_szn (by assumption) (.inr (by omega)) | (simp only [vd, reduceCtorEq, ve, updD, w1]; exact rw_szn (by assumption) (.inr (by omega))) | exact rw_szn (by simp [Rw.ok]) (.inr (by omega))) ?_
  refine need_wp (by simp only [vd, reduceCtorEq, ve, updD, w1]; exact kind_Rs (by omega) (by omega)) ?_
  refine br_wp (fun c2 => ?_) (fun c2 => ?_)
  ·replace c2 : ((r.get i).size : Int) > 1000 := by first | simpa only [vd, reduceCtorEq, ve, updD, w1] using c2 | (simp only [vd, reduceCtorEq, ve, updD, w1] at c2; grind)
   refine pop_wp ?_
   refine ret_wp ?_
   try dsimp only
   simp only [vd, reduceCtorEq, ve, updD, w1]; exact (mayB_big i0 c1 c2).symm
  ·replace c2 : ¬(((r.get i).size : Int) > 1000) := by first | simpa only [vd, reduceCtorEq, ve, updD, w1] using c2 | (simp only [vd, reduceCtorEq, ve, updD, w1] at c2; grind)
   refine again_wp rfl ⟨(i + 1), by simp only [vd, reduceCtorEq, ve, updD, w1], ?_⟩ ?_
   ·exact ⟨by omega, by omega, all_next i0 c1 ha c2⟩
   ·(try simp only [vd, reduceCtorEq, ve, updD, w1]); omega
 ·replace c1 : ¬(i < (r.l.length : Int)) := by first | simpa only [vd, reduceCtorEq, ve, updD] using c1 | (simp only [vd, reduceCtorEq, ve, updD] at c1; grind)
  have hA := all_end (r := r) (i := i) (by omega) ha
  refine pop_wp ?_
  refine need_wp (by first | exact ⟨_, _, _, rfl⟩ | (simp only [vd, reduceCtorEq, ve, updD]; exact ⟨_, _, _, rfl⟩)) ?_
  refine br_wp (fun c3 => ?_) (fun c3 => ?_)
  ·replace c3 : (r.l.length : Int) ≥ 1 := by first | simpa only [vd, reduceCtorEq, ve, updD] using c3 | (simp only [vd, reduceCtorEq, ve, updD] at c3; grind)
   refine need_wp (by first | exact ⟨_, _, _, rfl⟩ | (simp only [vd, reduceCtorEq, ve, updD]; exact ⟨_, _, _, rfl⟩)) ?_
   refine ret_wp ?_
   try dsimp only
   simp only [vd, reduceCtorEq, ve, updD]; unfold mayB; rw [hA, decide_eq_true (show 1 ≤ r.l.length by omega), Bool.and_true, Bool.true_and]; exact decide_eq_decide.2 (by omega)
  ·replace c3 : ¬((r.l.length : Int) ≥ 1) := by first | simpa only [vd, reduceCtorEq, ve, updD] using c3 | (simp only [vd, reduceCtorEq, ve, updD] at c3; grind)
   refine ret_wp ?_
   try dsimp only
   simp only [vd, reduceCtorEq, ve, updD]; unfold mayB; rw [decide_eq_false (show ¬1 ≤ r.l.length by omega), Bool.false_and, Bool.false_and]
set_option maxHeartbeats 1000000 in
theorem h25 : holds Try.prog (kMay sg25) := by
 refine fn_holds (l := []) trivial hP rs25 (inj_of (fun l : List Atom => (Rw.un unS (l.getD 0 atom0) : Rw ByteArray)) (fun _ => by simp [List.getD_cons_zero, List.getD_cons_succ, unA_atom, unL_atom])) Try.func25 (by kernel_rfl) (c := code Try.f25) (by kernel_rfl) (an := an25) (by kernel_rfl) (pk := pk25) rfl (t := t25) (by kernel_rfl) ?_
 rintro r ⟨kr, hn⟩
 refine ⟨by simp [pk25, KindsOk, RK.ok, Rw.atom, Sl.atom], ?_⟩
 unfold t25
 refine need_wp (by first | exact ⟨_, _, _, rfl⟩ | (simp only [vd, reduceCtorEq, ve, updD]; exact ⟨_, _, _, rfl⟩)) ?_
 refine br_wp (fun c1 => ?_) (fun c1 => ?_)
 ·replace c1 : (r.l.length : Int) < 1 := by first | simpa only [vd, reduceCtorEq, ve, updD] using c1 | (simp only [vd, reduceCtorEq, ve, updD] at c1; grind)
  refine ret_wp ?_
  try dsimp only
  simp only [vd, reduceCtorEq, ve, updD]; unfold mayB; rw [decide_eq_false (show ¬1 ≤ r.l.length by omega), Bool.false_and, Bool.false_and]
 ·replace c1 : ¬((r.l.length : Int) < 1) := by first | simpa only [vd, reduceCtorEq, ve, updD] using c1 | (simp only [vd, reduceCtorEq, ve, updD] at c1; grind)
  refine need_wp (by first | exact ⟨_, _, _, rfl⟩ | (simp only [vd, reduceCtorEq, ve, updD]; exact ⟨_, _, _, rfl⟩)) ?_
  refine br_wp (fun c2 => ?_) (fun c2 => ?_)
  ·replace c2 : (r.l.length : Int) > 50 := by first | simpa only [vd, reduceCtorEq, ve, updD] using c2 | (simp only [vd, reduceCtorEq, ve, updD] at c2; grind)
   refine ret_wp ?_
   try dsimp only
   simp only [vd, reduceCtorEq, ve, updD]; unfold mayB; rw [decide_eq_false (show ¬r.l.length ≤ 50 by omega), Bool.and_false, Bool.false_and]
  ·replace c2 : ¬((r.l.length : Int) > 50) := by first | simpa only [vd, reduceCtorEq, ve, updD] using c2 | (simp only [vd, reduceCtorEq, ve, updD] at c2; grind)
   refine need_wp (by first | exact ⟨_, _, _, rfl⟩ | (simp only [vd, reduceCtorEq, ve, updD]; exact ⟨_, _, _, rfl⟩)) ?_
   refine loop_wp (fun bs0 => ∃ (i : Int), bs0 = [aI i] ∧ (0 ≤ i ∧ i ≤ (r.l.length : Int) ∧ (r.l.take i.toNat).all (fun s => decide (s.size ≤ 1000)) = true)) (fun bs0 => ((r.l.length : Int) - vi (bs0.getD 0 atom0).1).toNat) ?_ ?_
   ·refine ⟨0, by first | (simp only [vd, reduceCtorEq, ve, updD]; done) | (simp only [vd, reduceCtorEq, ve, updD]; rfl) | simp only [vd, reduceCtorEq, ve, updD, Rw.atom, Rw.nil, List.length_nil, List.map_nil], ?_⟩
    exact ⟨by omega, by omega, by simp⟩
   rintro _ _ ⟨i, rfl, ⟨i0, i1, ha⟩⟩
   refine br_wp (fun c3 => ?_) (fun c3 => ?_)
   ·replace c3 : i < (r.l.length : Int) := by first | simpa only [vd, reduceCtorEq, ve, updD] using c3 | (simp only [vd, reduceCtorEq, ve, updD] at c3; grind)
    have w1 : IntKind.i64.wrap (i + 1) = i + 1 := wrap_id _ (by omega) (by omega)
    refine need_wp (by first | exact ⟨_, _, _, rfl⟩ | (simp only [vd, reduceCtorEq, ve, updD, w1]; exact ⟨_, _, _, rfl⟩)) ?_
    refine need_wp (by first | exact rw_row _ _ | (simp only [vd, reduceCtorEq, ve, updD, w1]; exact ⟨_, _, rfl⟩)) ?_
    refine need_wp (by simp only [vd, reduceCtorEq, ve, updD, w1, List.length_cons, List.length_nil, List.length_append, List.length_set]; first | omega | (grind)) ?_
    refine need_wp (by first | exact ⟨_, _, _, rfl⟩ | (simp only [vd, reduceCtorEq, ve, updD, w1]; exact ⟨_, _, _, rfl⟩)) ?_
    refine need_wp (by first | exact rw_row _ _ | (simp only [vd, reduceCtorEq, ve, updD, w1]; exact ⟨_, _, rfl⟩)) ?_
    refine need_wp (by first | exact rw_sz' rfl | exact rw_szn (by assumption) (.inr (by omega)) | (simp only [vd, reduceCtorEq, ve, updD, w1]; exact rw_szn (by assumption) (.inr (by omega))) | exact rw_szn (by simp [Rw.ok]) (.inr (by omega))) ?_
    refine need_wp (by simp only [vd, reduceCtorEq, ve, updD, w1]; exact kind_Rs (by omega) (by omega)) ?_
    refine br_wp (fun c4 => ?_) (fun c4 => ?_)
    ·replace c4 : ((r.get i).size : Int) > 1000 := by first | simpa only [vd, reduceCtorEq, ve, updD, w1] using c4 | (simp only [vd, reduceCtorEq, ve, updD, w1] at c4; grind)
     refine pop_wp ?_
     refine ret_wp ?_
     try dsimp only
     simp only [vd, reduceCtorEq, ve, updD, w1]; exact (mayB_big i0 c3 c4).symm
    ·replace c4 : ¬(((r.get i).size : Int) > 1000) := by first | simpa only [vd, reduceCtorEq, ve, updD, w1] using c4 | (simp only [vd, reduceCtorEq, ve, updD, w1] at c4; grind)
     refine again_wp rfl ⟨(i + 1), by simp only [vd, reduceCtorEq, ve, updD, w1], ?_⟩ ?_
     ·exact ⟨by omega, by omega, all_next i0 c3 ha c4⟩
     ·(try simp only [vd, reduceCtorEq, ve, updD, w1]); omega
   ·replace c3 : ¬(i < (r.l.length : Int)) := by first | simpa only [vd, reduceCtorEq, ve, updD] using c3 | (simp only [vd, reduceCtorEq, ve, updD] at c3; grind)
    have hA := all_end (r := r) (i := i) (by omega) ha
    refine pop_wp ?_
    refine ret_wp ?_
    try dsimp only
    simp only [vd, reduceCtorEq, ve, updD]; unfold mayB; rw [hA, decide_eq_true (show 1 ≤ r.l.length by omega), decide_eq_true (show r.l.length ≤ 50 by omega)]; rfl
def kCmd (sg : Sig) : Sig × Con := (sg, mkRel (fun x : Rw ByteArray => ([Rw.atom eS x] : List Atom)) (fun r => r.ok 1 ∧ lenS r.l ≤ 100000) (fun x : Rw Int => ([Rw.atom eB x] : List Atom)) (fun r z => z.l = bi (cmdB r.l) ∧ z.ok 1))
set_option maxHeartbeats 1000000 in
theorem h24 : holds Try.prog (kCmd sg24) := by
 refine fn_holds (l := [kPrint sg31]) ⟨h31, trivial⟩ hP rs24 (inj_of (fun l : List Atom => (Rw.un unS (l.getD 0 atom0) : Rw ByteArray)) (fun _ => by simp [List.getD_cons_zero, List.getD_cons_succ, unA_atom, unL_atom])) Try.func24 (by kernel_rfl) (c := code Try.f24) (by kernel_rfl) (an := an24) (by kernel_rfl) (pk := pk24) rfl (t := t24) (by kernel_rfl) ?_
 rintro r ⟨kr, hM⟩
 refine ⟨by simp [pk24, KindsOk, RK.ok, Rw.atom, Sl.atom], ?_⟩
 unfold t24
 have hL : (r.l.length : Int) ≤ 100000 := by have := lenS_len r.l; omega
 have zl := prt_size (n := (r.l.length : Int)) (by unfold in64; omega)
 have z42 : ((⟨#[42]⟩ : ByteArray).size : Int) = 1 := rfl
 have z36 : ((⟨#[36]⟩ : ByteArray).size : Int) = 1 := rfl
 have z2 : ((⟨#[13, 10]⟩ : ByteArray).size : Int) = 2 := rfl
 refine need_wp (by first | exact ⟨_, _, _, rfl⟩ | (simp only [vd, reduceCtorEq, ve, updD]; exact ⟨_, _, _, rfl⟩)) ?_
 refine call_fun ((r.l.length : Int)) rfl (by first | (simp only [vd, reduceCtorEq, ve, updD]; done) | (simp only [vd, reduceCtorEq, ve, updD]; rfl)) (by unfold in64; omega) ?_
 refine need_wp (need_size (den_cat (den_str _) rfl) (by simp only [size_app]; omega)) ?_
 refine need_wp (need_size (den_cat (den_cat (den_str _) rfl) (den_str _)) (by simp only [size_app]; omega)) ?_
 refine loop_wp (fun bs0 => ∃ (i : Int) (o : ByteArray), bs0 = [aI i, aS o] ∧ (0 ≤ i ∧ i ≤ (r.l.length : Int) ∧ o = (⟨#[42]⟩ : ByteArray) ++ prt (r.l.length : Int) ++ (⟨#[13, 10]⟩ : ByteArray) ++ catB ((r.l.take i.toNat).map bulkB))) (fun bs0 => ((r.l.length : Int) - vi (bs0.getD 0 atom0).1).toNat) ?_ ?_
 ·refine ⟨0, (((⟨#[42]⟩ : ByteArray) ++ (prt (r.l.length : Int))) ++ (⟨#[13, 10]⟩ : ByteArray)), by first | (simp only [vd, reduceCtorEq, ve, updD]; done) | (simp only [vd, reduceCtorEq, ve, updD]; rfl) | simp only [vd, reduceCtorEq, ve, updD, Rw.atom, Rw.nil, List.length_nil, List.map_nil], ?_⟩
  exact ⟨by omega, by omega, (app_nil _).symm⟩
 rintro _ _ ⟨i, o, rfl, ⟨i0, i1, ho⟩⟩
 have hc := cat_take_size r.l i.toNat (by omega)
 have hos : (o.size : Int) ≤ 10000000 := by rw [ho, size_app, size_app, size_app]; omega
 refine need_wp (by first | exact ⟨_, _, _, rfl⟩ | (simp only [vd, reduceCtorEq, ve, updD]; exact ⟨_, _, _, rfl⟩)) ?_
 refine br_wp (fun c1 => ?_) (fun c1 => ?_)
 ·replace c1 : i < (r.l.length : Int) := by first | simpa only [vd, reduceCtorEq, ve, updD] using c1 | (simp only [vd, reduceCtorEq, ve, updD] at c1; grind)
  have hgs := get_size i0 c1
  have zi := prt_size (n := ((r.get i).size : Int)) (by unfold in64; omega)
  have w1 : IntKind.i64.wrap (i + 1) = i + 1 := wrap_id _ (by omega) (by omega)
  refine need_wp (need_size (den_cat rfl (den_str _)) (by simp only [size_app]; omega)) ?_
  refine need_wp (by first | exact ⟨_, _, _, rfl⟩ | (simp only [vd, reduceCtorEq, ve, updD, w1]; exact ⟨_, _, _, rfl⟩)) ?_
  refine need_wp (by first | exact rw_row _ _ | (simp only [vd, reduceCtorEq, ve, updD, w1]; exact ⟨_, _, rfl⟩)) ?_
  refine need_wp (by simp only [vd, reduceCtorEq, ve, updD, w1, List.length_cons, List.length_nil, List.length_append, List.length_set]; first | omega | (grind)) ?_
  refine need_wp (by first | exact ⟨_, _, _, rfl⟩ | (simp only [vd, reduceCtorEq, ve, updD, w1]; exact ⟨_, _, _, rfl⟩)) ?_
  refine need_wp (by first | exact rw_row _ _ | (simp only [vd, reduceCtorEq, ve, updD, w1]; exact ⟨_, _, rfl⟩)) ?_
  refine need_wp (by first | exact ⟨_, _, _, rfl⟩ | (simp only [vd, reduceCtorEq, ve, updD, w1]; exact ⟨_, _, _, rfl⟩)) ?_
  refine need_wp (by first | exact rw_row _ _ | (simp only [vd, reduceCtorEq, ve, updD, w1]; exact ⟨_, _, rfl⟩)) ?_
  refine need_wp (by first | exact rw_sz' rfl | exact rw_szn (by assumption) (.inr (by omega)) | (simp only [vd, reduceCtorEq, ve, updD, w1]; exact rw_szn (by assumption) (.inr (by omega))) | exact rw_szn (by simp [Rw.ok]) (.inr (by omega))) ?_
  refine need_wp (by simp only [vd, reduceCtorEq, ve, updD, w1]; exact kind_Rs (by omega) (by omega)) ?_
  refine need_wp (by first | exact ⟨_, _, _, rfl⟩ | (simp only [vd, reduceCtorEq, ve, updD, w1]; exact ⟨_, _, _, rfl⟩)) ?_
  refine need_wp (by first | exact rw_row _ _ | (simp only [vd, reduceCtorEq, ve, updD, w1]; exact ⟨_, _, rfl⟩)) ?_
  refine need_wp (by first | exact rw_sz' rfl | exact rw_szn (by assumption) (.inr (by omega)) | (simp only [vd, reduceCtorEq, ve, updD, w1]; exact rw_szn (by assumption) (.inr (by omega))) | exact rw_szn (by simp [Rw.ok]) (.inr (by omega))) ?_
  refine need_wp (by simp only [vd, reduceCtorEq, ve, updD, w1]; exact kind_Rs (by omega) (by omega)) ?_
  refine call_fun (((r.get i).size : Int)) rfl (by first | (simp only [vd, reduceCtorEq, ve, updD, w1]; done) | (simp only [vd, reduceCtorEq, ve, updD, w1]; rfl)) (by unfold in64; omega) ?_
  refine need_wp (need_size (den_cat (den_cat rfl (den_str _)) rfl) (by simp only [size_app]; omega)) ?_
  refine need_wp (need_size (den_cat (den_cat (den_cat rfl (den_str _)) rfl) (den_str _)) (by simp only [size_app]; omega)) ?_
  refine need_wp (need_size (den_cat (den_cat (den_cat (den_cat rfl (den_str _)) rfl) (den_str _)) (den_cS (r := r) (j := i) rfl rfl (by omega) (by omega))) (by simp only [size_app]; omega)) ?_
  refine need_wp (need_size (den_cat (den_cat (den_cat (den_cat (den_cat rfl (den_str _)) rfl) (den_str _)) (den_cS (r := r) (j := i) rfl rfl (by omega) (by omega))) (den_str _)) (by simp only [size_app]; omega)) ?_
  refine again_wp rfl ⟨(i + 1), (((((o ++ (⟨#[36]⟩ : ByteArray)) ++ (prt ((r.get i).size : Int))) ++ (⟨#[13, 10]⟩ : ByteArray)) ++ (r.get i)) ++ (⟨#[13, 10]⟩ : ByteArray)), by simp only [vd, reduceCtorEq, ve, updD, w1], ?_⟩ ?_
  ·refine ⟨by omega, by omega, ?_⟩; rw [cat_take i0 c1, ← app_assoc, ← ho]; show _ = o ++ bulkB _; unfold bulkB; simp only [app_assoc]; rfl
  ·(try simp only [vd, reduceCtorEq, ve, updD, w1]); omega
 ·replace c1 : ¬(i < (r.l.length : Int)) := by first | simpa only [vd, reduceCtorEq, ve, updD] using c1 | (simp only [vd, reduceCtorEq, ve, updD] at c1; grind)
  have hi : i = r.l.length := by omega
  refine pop_wp ?_
  refine need_wp (by simp only [vd, reduceCtorEq, ve, updD, List.length_cons, List.length_nil, List.length_append, List.length_set]; first | omega | (grind)) ?_
  refine apps_wp (⟨none, 0, 1, []⟩ : Rw Int) o (by first | rfl | simp only [vd, reduceCtorEq, ve, updD]) (by first | rfl | simp only [vd, reduceCtorEq, ve, updD]) ?_
  intro a1 b1
  generalize hx1 : (⟨a1, b1, 1, ([] : List Int) ++ bi o⟩ : Rw Int) = x1
  have lx1 : x1.l = bi o := by rw [← hx1]; rfl
  have zx1 : x1.z = 1 := by rw [← hx1]
  have kx1 : Rw.ok 1 x1 := .inr zx1
  refine need_wp (by first | exact ⟨_, _, _, rfl⟩ | (simp only [vd, reduceCtorEq, ve, updD]; exact ⟨_, _, _, rfl⟩)) ?_
  refine ret_wp ?_
  refine ⟨x1, by first | (simp only [vd, reduceCtorEq, ve, updD]; done) | (simp only [vd, reduceCtorEq, ve, updD]; rfl), ?_⟩
  try dsimp only
  exact ⟨by rw [lx1, ho, hi, Int.toNat_natCast, List.take_length]; rfl, kx1⟩
end Go.Proofs.YtamjocnlhhhijaaK
