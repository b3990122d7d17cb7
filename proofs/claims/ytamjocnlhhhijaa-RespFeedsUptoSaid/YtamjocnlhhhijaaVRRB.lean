import Derived.Test.YtamjocnlhhhijaaVRRA
set_option linter.unusedSimpArgs false
set_option linter.unusedVariables false
set_option linter.unnecessarySimpa false
namespace Go.Proofs.YtamjocnlhhhijaaK
open Go Go.Proofs.YtamjocnlhhhijaaV Go.Proofs Go.Proofs.YtamjocnlhhhijaaK Go.Proofs.YtamjocnlhhhijaaK
def kCopy (sg : Sig) : Sig × Con := (sg, mkRel (fun x : Rw Int => ([Rw.atom eB x] : List Atom)) (fun b => b.ok 1 ∧ b.l.length ≤ 1000000) (fun x : Rw Int => ([Rw.atom eB x] : List Atom)) (fun b z => z.l = b.l ∧ z.ok 1))
set_option maxHeartbeats 1000000 in
theorem h12 : holds Try.prog (kCopy sg12) := by
 refine fn_holds (l := []) trivial hP rs12 (inj_of (fun l : List Atom => (Rw.un unI (l.getD 0 atom0) : Rw Int)) (fun _ => by simp [List.getD_cons_zero, List.getD_cons_succ, unA_atom, unL_atom])) Try.func12 (by kernel_rfl) (c := code Try.f12) (by kernel_rfl) (an := an12) (by kernel_rfl) (pk := pk12) rfl (t := t12) (by kernel_rfl) ?_
 rintro b ⟨kb, hl⟩
 refine ⟨by simp [pk12, KindsOk, RK.ok, Rw.atom, Sl.atom], ?_⟩
 unfold t12
 refine need_wp (by first | exact rw_row _ _ | (simp only [vd, reduceCtorEq, ve, updD]; exact ⟨_, _, rfl⟩)) ?_
 refine need_wp (by first | exact ⟨_, _, _, rfl⟩ | (simp only [vd, reduceCtorEq, ve, updD]; exact ⟨_, _, _, rfl⟩)) ?_
 refine need_wp (by first | exact rw_szz (by assumption) | exact rw_szz (.inr rfl)) ?_
 refine need_wp (by simp only [vd, reduceCtorEq, ve, updD, List.length_cons, List.length_nil, List.length_append, List.length_set]; first | omega | (grind)) ?_
 refine need_wp (by simp only [vd, reduceCtorEq, ve, updD, List.length_cons, List.length_nil, List.length_append, List.length_set]; first | omega | (grind)) ?_
 refine app_wp eB (Rw.nil : Rw Int) b (by first | rfl | simp only [vd, reduceCtorEq, ve, updD]) (by first | rfl | simp only [vd, reduceCtorEq, ve, updD]) ?_
 intro a1 b1
 generalize hx1 : (⟨a1, b1, 1, (Rw.nil : Rw Int).l ++ b.l⟩ : Rw Int) = x1
 have lx1 : x1.l = b.l := by first | (rw [← hx1]; done) | (rw [← hx1]; rfl)
 have zx1 : x1.z = 1 := by rw [← hx1]
 have kx1 : Rw.ok 1 x1 := .inr zx1
 have nx1 : (x1.l.length : Int) = 0 + (b.l.length : Int) := by first | (rw [← hx1]; done) | (rw [← hx1]; simp [Rw.nil])
 refine need_wp (by first | exact ⟨_, _, _, rfl⟩ | (simp only [vd, reduceCtorEq, ve, updD]; exact ⟨_, _, _, rfl⟩)) ?_
 refine ret_wp ?_
 refine ⟨x1, by first | (simp only [vd, reduceCtorEq, ve, updD]; done) | (simp only [vd, reduceCtorEq, ve, updD]; rfl), ?_⟩
 try dsimp only
 exact ⟨lx1, kx1⟩
def kSameB (sg : Sig) : Sig × Con := (sg, mkFun (fun x : Rw Int × Rw Int => ([Rw.atom eB x.1, Rw.atom eB x.2] : List Atom)) (fun x => (x.1.ok 1 ∧ isB x.1.l) ∧ x.2.ok 1 ∧ isB x.2.l) (fun x => [aB (decide (ofBytes x.1.l = ofBytes x.2.l))]))
set_option maxHeartbeats 1000000 in
theorem h22 : holds Try.prog (kSameB sg22) := by
 refine fn_holds (l := []) trivial hP rs22 (inj_of (fun l : List Atom => ((Rw.un unI (l.getD 0 atom0), Rw.un unI (l.getD 1 atom0)) : Rw Int × Rw Int)) (fun _ => by simp [List.getD_cons_zero, List.getD_cons_succ, unA_atom, unL_atom])) Try.func22 (by kernel_rfl) (c := code Try.f22) (by kernel_rfl) (an := an22) (by kernel_rfl) (pk := pk22) rfl (t := t22) (by kernel_rfl) ?_
 rintro ⟨a, b⟩ ⟨⟨a1, a2⟩, b1, b2⟩
 refine ⟨by simp [pk22, KindsOk, RK.ok, Rw.atom, Sl.atom], ?_⟩
 unfold t22
 dsimp only at a1 a2 b1 b2
 refine need_wp (by first | exact ⟨_, _, _, rfl⟩ | (simp only [vd, reduceCtorEq, ve, updD]; exact ⟨_, _, _, rfl⟩)) ?_
 refine need_wp (by simp only [vd, reduceCtorEq, ve, updD]; exact need_bytes (by assumption) (by assumption)) ?_
 refine need_wp (by first | exact ⟨_, _, _, rfl⟩ | (simp only [vd, reduceCtorEq, ve, updD]; exact ⟨_, _, _, rfl⟩)) ?_
 refine need_wp (by simp only [vd, reduceCtorEq, ve, updD]; exact need_bytes (by assumption) (by assumption)) ?_
 refine ret_wp ?_
 try dsimp only
 simp only [vd, reduceCtorEq, ve, updD]
def kLong (sg : Sig) : Sig × Con := (sg, mkFun (fun x : Rw ByteArray => ([Rw.atom eS x] : List Atom)) (fun r => r.ok 1 ∧ lenS r.l ≤ 2000000) (fun r => [aI (lenS r.l : Int)]))
set_option maxHeartbeats 1000000 in
theorem h21 : holds Try.prog (kLong sg21) := by
 refine fn_holds (l := []) trivial hP rs21 (inj_of (fun l : List Atom => (Rw.un unS (l.getD 0 atom0) : Rw ByteArray)) (fun _ => by simp [List.getD_cons_zero, List.getD_cons_succ, unA_atom, unL_atom])) Try.func21 (by kernel_rfl) (c := code Try.f21) (by kernel_rfl) (an := an21) (by kernel_rfl) (pk := pk21) rfl (t := t21) (by kernel_rfl) ?_
 rintro r ⟨kr, hM⟩
 refine ⟨by simp [pk21, KindsOk, RK.ok, Rw.atom, Sl.atom], ?_⟩
 unfold t21
 have hL : (r.l.length : Int) ≤ 2000000 := by have := lenS_len r.l; omega
 refine loop_wp (fun bs0 => ∃ (i : Int) (n : Int), bs0 = [aI i, aI n] ∧ (0 ≤ i ∧ i ≤ (r.l.length : Int) ∧ n = (lenS (r.l.take i.toNat) : Int))) (fun bs0 => ((r.l.length : Int) - vi (bs0.getD 0 atom0).1).toNat) ?_ ?_
 ·refine ⟨0, 0, by first | (simp only [vd, reduceCtorEq, ve, updD]; done) | (simp only [vd, reduceCtorEq, ve, updD]; rfl) | simp only [vd, reduceCtorEq, ve, updD, Rw.atom, Rw.nil, List.length_nil, List.map_nil], ?_⟩
  exact ⟨by omega, by omega, rfl⟩
 rintro _ _ ⟨i, n, rfl, ⟨i0, i1, hn⟩⟩
 refine need_wp (by first | exact ⟨_, _, _, rfl⟩ | (simp only [vd, reduceCtorEq, ve, updD]; exact ⟨_, _, _, rfl⟩)) ?_
 refine br_wp (fun c1 => ?_) (fun c1 => ?_)
 ·replace c1 : i < (r.l.length : Int) := by first | simpa only [vd, reduceCtorEq, ve, updD] using c1 | (simp only [vd, reduceCtorEq, ve, updD] at c1; grind)
  have hs := take_s i0 c1
  have hs3 := lenS_take r.l (i + 1).toNat
  have wc : IntKind.i64.wrap (n + 1) = n + 1 := wrap_id _ (by omega) (by omega)
  have wd : IntKind.i64.wrap (n + 1 + ((r.get i).size : Int)) = n + 1 + ((r.get i).size : Int) := wrap_id _ (by omega) (by omega)
  have w1 : IntKind.i64.wrap (i + 1) = i + 1 := wrap_id _ (by omega) (by omega)
  refine need_wp (by first | exact ⟨_, _, _, rfl⟩ | (simp only [vd, reduceCtorEq, ve, updD, wc, wd, w1]; exact ⟨_, _, _, rfl⟩)) ?_
  refine need_wp (by first | exact rw_row _ _ | (simp only [vd, reduceCtorEq, ve, updD, wc, wd, w1]; exact ⟨_, _, rfl⟩)) ?_
  refine need_wp (by simp only [vd, reduceCtorEq, ve, updD, wc, wd, w1, List.length_cons, List.length_nil, List.length_append, List.length_set]; first | omega | (grind)) ?_
  refine need_wp (by first | exact ⟨_, _, _, rfl⟩ | (simp only [vd, reduceCtorEq, ve, updD, wc, wd, w1]; exact ⟨_, _, _, rfl⟩)) ?_
  refine need_wp (by first | exact rw_row _ _ | (simp only [vd, reduceCtorEq, ve, updD, wc, wd, w1]; exact ⟨_, _, rfl⟩)) ?_
  refine need_wp (by first | exact rw_sz' rfl | exact rw_szn (by assumption) (.inr (by omega)) | (simp only [vd, reduceCtorEq, ve, updD, wc, wd, w1]; exact rw_szn (by assumption) (.inr (by omega))) | exact rw_szn (by simp [Rw.ok]) (.inr (by omega))) ?_
  refine need_wp (by simp only [vd, reduceCtorEq, ve, updD, wc, wd, w1]; exact kind_Rs (by omega) (by omega)) ?_
  refine again_wp rfl ⟨(i + 1), ((n + 1) + ((r.get i).size : Int)), by simp only [vd, reduceCtorEq, ve, updD, wc, wd, w1], ?_⟩ ?_
  ·exact ⟨by omega, by omega, by rw [hs, hn]; omega⟩
  ·(try simp only [vd, reduceCtorEq, ve, updD, wc, wd, w1]); omega
 ·replace c1 : ¬(i < (r.l.length : Int)) := by first | simpa only [vd, reduceCtorEq, ve, updD] using c1 | (simp only [vd, reduceCtorEq, ve, updD] at c1; grind)
  have hi : i = r.l.length := by omega
  refine pop_wp ?_
  refine ret_wp ?_
  try dsimp only
  simp only [vd, reduceCtorEq, ve, updD]; rw [hn, hi, Int.toNat_natCast, List.take_length]
def kSameS (sg : Sig) : Sig × Con := (sg, mkFun (fun x : Rw ByteArray × Rw ByteArray => ([Rw.atom eS x.1, Rw.atom eS x.2] : List Atom)) (fun x => x.1.ok 1 ∧ x.2.ok 1 ∧ (x.1.l.length : Int) ≤ 140737488355328) (fun x => [aB (decide (x.1.l = x.2.l))]))
set_option maxHeartbeats 1000000 in
theorem h19 : holds Try.prog (kSameS sg19) := by
 refine fn_holds (l := []) trivial hP rs19 (inj_of (fun l : List Atom => ((Rw.un unS (l.getD 0 atom0), Rw.un unS (l.getD 1 atom0)) : Rw ByteArray × Rw ByteArray)) (fun _ => by simp [List.getD_cons_zero, List.getD_cons_succ, unA_atom, unL_atom])) Try.func19 (by kernel_rfl) (c := code Try.f19) (by kernel_rfl) (an := an19) (by kernel_rfl) (pk := pk19) rfl (t := t19) (by kernel_rfl) ?_
 rintro ⟨x, y⟩ ⟨kx, ky, hl⟩
 refine ⟨by simp [pk19, KindsOk, RK.ok, Rw.atom, Sl.atom], ?_⟩
 unfold t19
 dsimp only at kx ky hl
 refine need_wp (by first | exact ⟨_, _, _, rfl⟩ | (simp only [vd, reduceCtorEq, ve, updD]; exact ⟨_, _, _, rfl⟩)) ?_
 refine need_wp (by first | exact ⟨_, _, _, rfl⟩ | (simp only [vd, reduceCtorEq, ve, updD]; exact ⟨_, _, _, rfl⟩)) ?_
 refine br_wp (fun c1 => ?_) (fun c1 => ?_)
 ·replace c1 : (x.l.length : Int) ≠ (y.l.length : Int) := by first | simpa only [vd, reduceCtorEq, ve, updD] using c1 | (simp only [vd, reduceCtorEq, ve, updD] at c1; grind)
  refine ret_wp ?_
  try dsimp only
  simp only [vd, reduceCtorEq, ve, updD]; exact (decide_eq_false (fun h => c1 (by rw [h]))).symm
 ·replace c1 : ¬((x.l.length : Int) ≠ (y.l.length : Int)) := by first | simpa only [vd, reduceCtorEq, ve, updD] using c1 | (simp only [vd, reduceCtorEq, ve, updD] at c1; grind)
  refine loop_wp (fun bs0 => ∃ (i : Int), bs0 = [aI i] ∧ (0 ≤ i ∧ i ≤ (x.l.length : Int) ∧ x.l.take i.toNat = y.l.take i.toNat)) (fun bs0 => ((x.l.length : Int) - vi (bs0.getD 0 atom0).1).toNat) ?_ ?_
  ·refine ⟨0, by first | (simp only [vd, reduceCtorEq, ve, updD]; done) | (simp only [vd, reduceCtorEq, ve, updD]; rfl) | simp only [vd, reduceCtorEq, ve, updD, Rw.atom, Rw.nil, List.length_nil, List.map_nil], ?_⟩
   exact ⟨by omega, by omega, by simp⟩
  rintro _ _ ⟨i, rfl, ⟨i0, i1, hE⟩⟩
  refine need_wp (by first | exact ⟨_, _, _, rfl⟩ | (simp only [vd, reduceCtorEq, ve, updD]; exact ⟨_, _, _, rfl⟩)) ?_
  refine br_wp (fun c2 => ?_) (fun c2 => ?_)
  ·replace c2 : i < (x.l.length : Int) := by first | simpa only [vd, reduceCtorEq, ve, updD] using c2 | (simp only [vd, reduceCtorEq, ve, updD] at c2; grind)
   have w1 : IntKind.i64.wrap (i + 1) = i + 1 := wrap_id _ (by omega) (by omega)
   refine need_wp (by first | exact ⟨_, _, _, rfl⟩ | (simp only [vd, reduceCtorEq, ve, updD, w1]; exact ⟨_, _, _, rfl⟩)) ?_
   refine need_wp (by first | exact rw_row _ _ | (simp only [vd, reduceCtorEq, ve, updD, w1]; exact ⟨_, _, rfl⟩)) ?_
   refine need_wp (by simp only [vd, reduceCtorEq, ve, updD, w1, List.length_cons, List.length_nil, List.length_append, List.length_set]; first | omega | (grind)) ?_
   refine need_wp (by first | exact ⟨_, _, _, rfl⟩ | (simp only [vd, reduceCtorEq, ve, updD, w1]; exact ⟨_, _, _, rfl⟩)) ?_
   refine need_wp (by first | exact rw_row _ _ | (simp only [vd, reduceCtorEq, ve, updD, w1]; exact ⟨_, _, rfl⟩)) ?_
   refine need_wp (by simp only [vd, reduceCtorEq, ve, updD, w1, List.length_cons, List.length_nil, List.length_append, List.length_set]; first | omega | (grind)) ?_
   refine need_wp (by first | exact ⟨_, _, _, rfl⟩ | (simp only [vd, reduceCtorEq, ve, updD, w1]; exact ⟨_, _, _, rfl⟩)) ?_
   refine need_wp (by first | exact rw_row _ _ | (simp only [vd, reduceCtorEq, ve, updD, w1]; exact ⟨_, _, rfl⟩)) ?_
   refine need_wp (by first | exact rw_sz' rfl | exact rw_szn (by assumption) (.inr (by omega)) | (simp only [vd, reduceCtorEq, ve, updD, w1]; exact rw_szn (by assumption) (.inr (by omega))) | exact rw_szn (by simp [Rw.ok]) (.inr (by omega))) ?_
   refine need_wp (by simp only [vd, reduceCtorEq, ve, updD, w1]; exact kind_Rs (by omega) (by omega)) ?_
   refine need_wp (by first | exact ⟨_, _, _, rfl⟩ | (simp only [vd, reduceCtorEq, ve, updD, w1]; exact ⟨_, _, _, rfl⟩)) ?_
   refine need_wp (by first | exact rw_row _ _ | (simp only [vd, reduceCtorEq, ve, updD, w1]; exact ⟨_, _, rfl⟩)) ?_
   refine need_wp (by first | exact rw_sz' rfl | exact rw_szn (by assumption) (.inr (by omega)) | (simp only [vd, reduceCtorEq, ve, updD, w1]; exact rw_szn (by assumption) (.inr (by omega))) | exact rw_szn (by simp [Rw.ok]) (.inr (by omega))) ?_
   refine need_wp (by simp only [vd, reduceCtorEq, ve, updD, w1]; exact kind_Rs (by omega) (by omega)) ?_
   refine br_wp (fun c3 => ?_) (fun c3 => ?_)
   ·replace c3 : (x.get i) = (y.get i) := by first | simpa only [vd, reduceCtorEq, ve, updD, w1] using c3 | (simp only [vd, reduceCtorEq, ve, updD, w1] at c3; grind)
    refine again_wp rfl ⟨(i + 1), by simp only [vd, reduceCtorEq, ve, updD, w1], ?_⟩ ?_
    ·exact ⟨by omega, by omega, take_eq i0 (by omega) (by omega) hE (by first | exact c3 | exact Decidable.not_not.1 c3)⟩
    ·(try simp only [vd, reduceCtorEq, ve, updD, w1]); omega
   ·replace c3 : ¬((x.get i) = (y.get i)) := by first | simpa only [vd, reduceCtorEq, ve, updD, w1] using c3 | (simp only [vd, reduceCtorEq, ve, updD, w1] at c3; grind)
    refine pop_wp ?_
    refine ret_wp ?_
    try dsimp only
    simp only [vd, reduceCtorEq, ve, updD, w1]; exact (decide_eq_false (fun h => c3 (by unfold Rw.get; rw [h]))).symm
  ·replace c2 : ¬(i < (x.l.length : Int)) := by first | simpa only [vd, reduceCtorEq, ve, updD] using c2 | (simp only [vd, reduceCtorEq, ve, updD] at c2; grind)
   refine pop_wp ?_
   refine ret_wp ?_
   try dsimp only
   simp only [vd, reduceCtorEq, ve, updD]; exact (decide_eq_true (take_eqL hE (by omega) (by omega))).symm
def kSameR (sg : Sig) : Sig × Con := (sg, mkFun (fun x : Rw (Rw ByteArray) × Rw (Rw ByteArray) => ([Rw.atom eL x.1, Rw.atom eL x.2] : List Atom)) (fun x => okL x.1 ∧ okL x.2 ∧ (x.1.l.length : Int) ≤ 1000000 ∧ ∀ z ∈ x.1.l, (z.l.length : Int) ≤ 1000000) (fun x => [aB (decide (vv x.1 = vv x.2))]))
set_option maxHeartbeats 1000000 in
theorem h15 : holds Try.prog (kSameR sg15) := by
 refine fn_holds (l := [kSameS sg19]) ⟨h19, trivial⟩ hP rs15 (inj_of (fun l : List Atom => ((Rw.un unL (l.getD 0 atom0), Rw.un unL (l.getD 1 atom0)) : Rw (Rw ByteArray) × Rw (Rw ByteArray))) (fun _ => by simp [List.getD_cons_zero, List.getD_cons_succ, unA_atom, unL_atom])) Try.func15 (by kernel_rfl) (c := code Try.f15) (by kernel_rfl) (an := an15) (by kernel_rfl) (pk := pk15) rfl (t := t15) (by kernel_rfl) ?_
 rintro ⟨a, b⟩ ⟨ka, kb, hn, hz⟩
 refine ⟨by simp [pk15, KindsOk, RK.ok, Rw.atom, Sl.atom], ?_⟩
 unfold t15
 dsimp only at ka kb hn hz
 have ka1 : a.ok 1 := ka.1
 have kb1 : b.ok 1 := kb.1
 refine need_wp (by first | exact ⟨_, _, _, rfl⟩ | (simp only [vd, reduceCtorEq, ve, updD]; exact ⟨_, _, _, rfl⟩)) ?_
 refine need_wp (by first | exact ⟨_, _, _, rfl⟩ | (simp only [vd, reduceCtorEq, ve, updD]; exact ⟨_, _, _, rfl⟩)) ?_
 refine br_wp (fun c1 => ?_) (fun c1 => ?_)
 ·replace c1 : (a.l.length : Int) ≠ (b.l.length : Int) := by first | simpa only [vd, reduceCtorEq, ve, updD] using c1 | (simp only [vd, reduceCtorEq, ve, updD] at c1; grind)
  refine ret_wp ?_
  try dsimp only
  simp only [vd, reduceCtorEq, ve, updD]; exact (decide_eq_false (fun h => c1 (by have := congrArg List.length h; simp [vv] at this; omega))).symm
 ·replace c1 : ¬((a.l.length : Int) ≠ (b.l.length : Int)) := by first | simpa only [vd, reduceCtorEq, ve, updD] using c1 | (simp only [vd, reduceCtorEq, ve, updD] at c1; grind)
  refine loop_wp (fun bs0 => ∃ (i : Int), bs0 = [aI i] ∧ (0 ≤ i ∧ i ≤ (a.l.length : Int) ∧ (a.l.take i.toNat).map (·.l) = (b.l.take i.toNat).map (·.l))) (fun bs0 => ((a.l.length : Int) - vi (bs0.getD 0 atom0).1).toNat) ?_ ?_
  ·refine ⟨0, by first | (simp only [vd, reduceCtorEq, ve, updD]; done) | (simp only [vd, reduceCtorEq, ve, updD]; rfl) | simp only [vd, reduceCtorEq, ve, updD, Rw.atom, Rw.nil, List.length_nil, List.map_nil], ?_⟩
   exact ⟨by omega, by omega, by simp⟩
  rintro _ _ ⟨i, rfl, ⟨i0, i1, hE⟩⟩
  refine need_wp (by first | exact ⟨_, _, _, rfl⟩ | (simp only [vd, reduceCtorEq, ve, updD]; exact ⟨_, _, _, rfl⟩)) ?_
  refine br_wp (fun c2 => ?_) (fun c2 => ?_)
  ·replace c2 : i < (a.l.length : Int) := by first | simpa only [vd, reduceCtorEq, ve, updD] using c2 | (simp only [vd, reduceCtorEq, ve, updD] at c2; grind)
   have hc1 := cell_L a (i := i) i0 c2
   have hc2 := cell_L b (i := i) i0 (by omega)
   have w1 : IntKind.i64.wrap (i + 1) = i + 1 := wrap_id _ (by omega) (by omega)
   refine need_wp (by first | exact ⟨_, _, _, rfl⟩ | (simp only [vd, reduceCtorEq, ve, updD, hc1, hc2, w1]; exact ⟨_, _, _, rfl⟩)) ?_
   refine need_wp (by first | exact rw_row _ _ | (simp only [vd, reduceCtorEq, ve, updD, hc1, hc2, w1]; exact ⟨_, _, rfl⟩)) ?_
   refine need_wp (by simp only [vd, reduceCtorEq, ve, updD, hc1, hc2, w1, List.length_cons, List.length_nil, List.length_append, List.length_set]; first | omega | (grind)) ?_
   refine need_wp (by first | exact ⟨_, _, _, rfl⟩ | (simp only [vd, reduceCtorEq, ve, updD, hc1, hc2, w1]; exact ⟨_, _, _, rfl⟩)) ?_
   refine need_wp (by first | exact rw_row _ _ | (simp only [vd, reduceCtorEq, ve, updD, hc1, hc2, w1]; exact ⟨_, _, rfl⟩)) ?_
   refine need_wp (by simp only [vd, reduceCtorEq, ve, updD, hc1, hc2, w1, List.length_cons, List.length_nil, List.length_append, List.length_set]; first | omega | (grind)) ?_
   refine need_wp (by first | exact ⟨_, _, _, rfl⟩ | (simp only [vd, reduceCtorEq, ve, updD, hc1, hc2, w1]; exact ⟨_, _, _, rfl⟩)) ?_
   refine need_wp (by first | exact rw_row _ _ | (simp only [vd, reduceCtorEq, ve, updD, hc1, hc2, w1]; exact ⟨_, _, rfl⟩)) ?_
   refine need_wp (by first | exact rw_sz' rfl | exact rw_szn (by assumption) (.inr (by omega)) | (simp only [vd, reduceCtorEq, ve, updD, hc1, hc2, w1]; exact rw_szn (by assumption) (.inr (by omega))) | exact rw_szn (by simp [Rw.ok]) (.inr (by omega))) ?_
   refine need_wp (by simp only [vd, reduceCtorEq, ve, updD, hc1, hc2, w1]; first | exact ⟨_, _, _, rfl⟩ | exact kind_Rl (by omega) (by omega)) ?_
   refine need_wp (by first | exact ⟨_, _, _, rfl⟩ | (simp only [vd, reduceCtorEq, ve, updD, hc1, hc2, w1]; exact ⟨_, _, _, rfl⟩)) ?_
   refine need_wp (by first | exact rw_row _ _ | (simp only [vd, reduceCtorEq, ve, updD, hc1, hc2, w1]; exact ⟨_, _, rfl⟩)) ?_
   refine need_wp (by first | exact rw_sz' rfl | exact rw_szn (by assumption) (.inr (by omega)) | (simp only [vd, reduceCtorEq, ve, updD, hc1, hc2, w1]; exact rw_szn (by assumption) (.inr (by omega))) | exact rw_szn (by simp [Rw.ok]) (.inr (by omega))) ?_
   refine need_wp (by simp only [vd, reduceCtorEq, ve, updD, hc1, hc2, w1]; first | exact ⟨_, _, _, rfl⟩ | exact kind_Rl (by omega) (by omega)) ?_
   refine call_fun (((a.get i), (b.get i))) rfl (by first | (simp only [vd, reduceCtorEq, ve, updD, hc1, hc2, w1]; done) | (simp only [vd, reduceCtorEq, ve, updD, hc1, hc2, w1]; rfl)) (⟨ka.2 _ (get_memL i0 c2), kb.2 _ (get_memL i0 (by omega)), by have := hz _ (get_memL i0 c2); dsimp only; omega⟩) ?_
   refine br_wp (fun c3 => ?_) (fun c3 => ?_)
   ·replace c3 : (a.get i).l = (b.get i).l := by first | simpa only [vd, reduceCtorEq, ve, updD, hc1, hc2, w1] using c3 | (simp only [vd, reduceCtorEq, ve, updD, hc1, hc2, w1] at c3; grind)
    refine again_wp rfl ⟨(i + 1), by simp only [vd, reduceCtorEq, ve, updD, hc1, hc2, w1], ?_⟩ ?_
    ·exact ⟨by omega, by omega, by rw [take_g i0 c2, take_g i0 (by omega), List.map_append, List.map_append, hE]; simp [c3]⟩
    ·(try simp only [vd, reduceCtorEq, ve, updD, hc1, hc2, w1]); omega
   ·replace c3 : ¬((a.get i).l = (b.get i).l) := by first | simpa only [vd, reduceCtorEq, ve, updD, hc1, hc2, w1] using c3 | (simp only [vd, reduceCtorEq, ve, updD, hc1, hc2, w1] at c3; grind)
    refine pop_wp ?_
    refine ret_wp ?_
    try dsimp only
    simp only [vd, reduceCtorEq, ve, updD, hc1, hc2, w1]; exact (decide_eq_false (fun h => c3 (get_of (f := fun z : Rw ByteArray => z.l) h i0 c2 (by omega)))).symm
  ·replace c2 : ¬(i < (a.l.length : Int)) := by first | simpa only [vd, reduceCtorEq, ve, updD] using c2 | (simp only [vd, reduceCtorEq, ve, updD] at c2; grind)
   refine pop_wp ?_
   refine ret_wp ?_
   try dsimp only
   simp only [vd, reduceCtorEq, ve, updD]; exact (decide_eq_true (by unfold vv; rw [← List.take_of_length_le (show a.l.length ≤ i.toNat by omega), ← List.take_of_length_le (l := b.l) (show b.l.length ≤ i.toNat by omega)]; exact hE)).symm
end Go.Proofs.YtamjocnlhhhijaaK
