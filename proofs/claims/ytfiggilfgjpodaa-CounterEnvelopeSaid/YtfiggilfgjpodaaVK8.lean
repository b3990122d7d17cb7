import Derived.Test.YtfiggilfgjpodaaVK7
import Derived.Test.YtfiggilfgjpodaaVK7d
set_option linter.unusedSimpArgs false
set_option linter.unusedVariables false
namespace Go.Proofs.YtfiggilfgjpodaaK
open Go Go.Proofs.YtfiggilfgjpodaaV Go.Proofs
theorem inj_of {α : Type} {enc : α → List Atom} (dec : List Atom → α) (h : ∀ x, dec (enc x) = x) (x y : α) (e : enc x = enc y) : x = y := by rw [← h x, ← h y, e]
theorem vb_ite (c : Prop) [Decidable c] (a b : Atom) : vb (if c then a else b).1 = if c then vb a.1 else vb b.1 := by split <;> rfl
theorem vi_ite (c : Prop) [Decidable c] (a b : Atom) : vi (if c then a else b).1 = if c then vi a.1 else vi b.1 := by split <;> rfl
theorem pop_wp {cs : Nat → Sig × Con} {Post : List Atom → Prop} {env : List Atom} {L : List (List Atom → Prop)} {n : Nat} {t : T} (h : t.wp cs Post env (L.take n)) : (T.pop n t).wp cs Post env L := h
theorem again_wp {cs : Nat → Sig × Con} {Post : List Atom → Prop} {env : List Atom} {L : List (List Atom → Prop)} {j : Nat} {l : List S} {I : List Atom → Prop} {μ : List Atom → Nat} {bs0 : List Atom}
    (hL : L.getD j (fun _ => False) = fun bs => I bs ∧ μ bs < μ bs0) (h1 : I (l.map (S.atom env))) (h2 : μ (l.map (S.atom env)) < μ bs0) : (T.again j l).wp cs Post env L := by
  show (L.getD j (fun _ => False)) _
  rw [hL]
  exact ⟨h1, h2⟩
def lgE (g h : Sl) : Bool := g.n == h.n && (List.range g.n).all fun i => vi (cellD g.atom i 0).1 == vi (cellD h.atom i 0).1 && vi (cellD g.atom i 1).1 == vi (cellD h.atom i 1).1
def lgOk (g : Sl) : Prop := g.n = 0 ∨ ((g.n ≤ 4611686018427387903 ∧ ∃ e, g.d = .rows 2 e)) ∧ ∀ i : Int, 0 ≤ i → i < g.n → RK.ok (.int .i64) (cellD g.atom i 0).1 ∧ RK.ok (.int .i64) (cellD g.atom i 1).1
def same (s t : Stt) : Bool := decide (s.t = t.t ∧ s.v = t.v ∧ s.h = t.h) && lgE s.g t.g
theorem lgE_refl (g : Sl) : lgE g g = true := by simp [lgE]
theorem lgE_nil {g h : Sl} (h1 : g.n = 0) (h2 : h.n = 0) : lgE g h = true := by simp [lgE, h1, h2]
theorem lgOk_nil {g : Sl} (h1 : g.n = 0) : lgOk g := Or.inl h1
def kSmall (sg : Sig) : Sig × Con := (sg, mkFun (fun l : Sl => [l.atom]) (fun _ => True) (fun l => [aB (decide ((l.n : Int) ≤ 60))]))
def kKnown (sg : Sig) : Sig × Con := (sg, mkFun (fun _ : Unit => []) (fun _ => True) (fun _ => [aB true]))
def ofP (n m : Int) : Pol := ⟨4, n + 1, m + 1, 0, 0, false⟩
def kOf (sg : Sig) : Sig × Con := (sg, mkFun (fun x : Int × Int => [aK .u16 x.1, aK .u16 x.2]) (fun x => 0 ≤ x.1 ∧ x.1 < 65536 ∧ 0 ≤ x.2 ∧ x.2 < 65536) (fun x => (ofP x.1 x.2).enc))
def kSame (sg : Sig) : Sig × Con := (sg, mkFun encSS (fun x => lgOk x.1.g ∧ lgOk x.2.g) (fun x => [aB (same x.1 x.2)]))
def preTold (x : Pol × Stt × Stt × Int × Int) : Prop := lgOk x.2.1.g ∧ lgOk x.2.2.1.g ∧ same x.2.1 x.2.2.1 = true
def kTold (sg : Sig) : Sig × Con := (sg, mkFun (fun x : Pol × Stt × Stt × Int × Int => ([aI x.1.k, aI x.1.l, aI x.1.p, aI x.1.b, aI x.1.c, aB x.1.o, aI x.2.1.t, aI x.2.1.v, aI x.2.1.h, Sl.atom x.2.1.g, aI x.2.2.1.t, aI x.2.2.1.v, aI x.2.2.1.h, Sl.atom x.2.2.1.g, aI x.2.2.2.1, aI x.2.2.2.2] : List Atom)) preTold (fun _ => [aB true]))
set_option maxHeartbeats 4000000 in
theorem h11 : holds Try.prog (kKnown sg11) := by
  refine fn_holds (l := [kNew sg13, kDo sg14, kRetry sg19, kCheck sg22]) ⟨h13, h14, h19, h22, trivial⟩ hP rs11 (inj_of (fun l : List Atom => (() : Unit)) (fun _ => rfl)) Try.func11 (by kernel_rfl) (c := code Try.f11) (by kernel_rfl) (an := an11) (by kernel_rfl) (pk := pk11) rfl (t := t11) (by kernel_rfl) ?_
  rintro _ hpre
  refine ⟨by simp [pk11, KindsOk, encPS, encPSn, encPSnc, encPSA, encPn, encSS, encI, Pol.enc, Stt.enc, Ac.enc, Sl.atom, Sl.nil, Stt.zero, RK.ok], ?_⟩
  unfold t11
  refine call_fun (((⟨4, 5, 1000, 0, 0, false⟩ : Pol), 10)) rfl (by simp only [vd1, vd2, vd3, vd4, vd5, vd6, vd7, reduceCtorEq, Option.some.injEq, vb_ite, vi_ite, new_, adv, doS, doN, List.getD_cons_zero, List.getD_cons_succ]) trivial ?_
  refine call_fun (((⟨4, 5, 1000, 0, 0, false⟩ : Pol), (new_ (⟨4, 5, 1000, 0, 0, false⟩ : Pol) 10), (⟨1, 0, 5⟩ : Ac))) rfl (by simp only [vd1, vd2, vd3, vd4, vd5, vd6, vd7, reduceCtorEq, Option.some.injEq, vb_ite, vi_ite, new_, adv, doS, doN, List.getD_cons_zero, List.getD_cons_succ]) trivial ?_
  refine call_fun (((⟨4, 5, 1000, 0, 0, false⟩ : Pol), (doN (⟨4, 5, 1000, 0, 0, false⟩ : Pol) (new_ (⟨4, 5, 1000, 0, 0, false⟩ : Pol) 10) (⟨1, 0, 5⟩ : Ac)), (⟨1, 0, 1⟩ : Ac))) rfl (by simp only [vd1, vd2, vd3, vd4, vd5, vd6, vd7, reduceCtorEq, Option.some.injEq, vb_ite, vi_ite, new_, adv, doS, doN, List.getD_cons_zero, List.getD_cons_succ]) trivial ?_
  refine call_fun (((⟨4, 5, 1000, 0, 0, false⟩ : Pol), (doN (⟨4, 5, 1000, 0, 0, false⟩ : Pol) (new_ (⟨4, 5, 1000, 0, 0, false⟩ : Pol) 10) (⟨1, 0, 5⟩ : Ac)), 0, 1)) rfl (by simp only [vd1, vd2, vd3, vd4, vd5, vd6, vd7, reduceCtorEq, Option.some.injEq, vb_ite, vi_ite, new_, adv, doS, doN, List.getD_cons_zero, List.getD_cons_succ]) trivial ?_
  refine br_wp (fun c1 => ?_) (fun c1 => ?_)
  · refine br_wp (fun c2 => ?_) (fun c2 => ?_)
    · refine ret_wp ?_
      first | rfl | (exfalso; revert c1; simp only [vd1, vd2, vd3, vd4, vd5, vd6, vd7, reduceCtorEq, Option.some.injEq, vb_ite, vi_ite, new_, adv, doS, doN, List.getD_cons_zero, List.getD_cons_succ]; decide) | (exfalso; revert c2; simp only [vd1, vd2, vd3, vd4, vd5, vd6, vd7, reduceCtorEq, Option.some.injEq, vb_ite, vi_ite, new_, adv, doS, doN, List.getD_cons_zero, List.getD_cons_succ]; decide) | (exfalso; revert c3; simp only [vd1, vd2, vd3, vd4, vd5, vd6, vd7, reduceCtorEq, Option.some.injEq, vb_ite, vi_ite, new_, adv, doS, doN, List.getD_cons_zero, List.getD_cons_succ]; decide) | (exfalso; revert c4; simp only [vd1, vd2, vd3, vd4, vd5, vd6, vd7, reduceCtorEq, Option.some.injEq, vb_ite, vi_ite, new_, adv, doS, doN, List.getD_cons_zero, List.getD_cons_succ]; decide) | (simp only [vd1, vd2, vd3, vd4, vd5, vd6, vd7, reduceCtorEq, Option.some.injEq, vb_ite, vi_ite, new_, adv, doS, doN, List.getD_cons_zero, List.getD_cons_succ]; decide)
    · refine br_wp (fun c3 => ?_) (fun c3 => ?_)
      · refine br_wp (fun c4 => ?_) (fun c4 => ?_)
        · refine call_fun ((⟨0, 0, 0, 0, 0, false⟩ : Pol)) rfl (by simp only [vd1, vd2, vd3, vd4, vd5, vd6, vd7, reduceCtorEq, Option.some.injEq, vb_ite, vi_ite, new_, adv, doS, doN, List.getD_cons_zero, List.getD_cons_succ]) trivial ?_
          refine ret_wp ?_
          first | rfl | (exfalso; revert c1; simp only [vd1, vd2, vd3, vd4, vd5, vd6, vd7, reduceCtorEq, Option.some.injEq, vb_ite, vi_ite, new_, adv, doS, doN, List.getD_cons_zero, List.getD_cons_succ]; decide) | (exfalso; revert c2; simp only [vd1, vd2, vd3, vd4, vd5, vd6, vd7, reduceCtorEq, Option.some.injEq, vb_ite, vi_ite, new_, adv, doS, doN, List.getD_cons_zero, List.getD_cons_succ]; decide) | (exfalso; revert c3; simp only [vd1, vd2, vd3, vd4, vd5, vd6, vd7, reduceCtorEq, Option.some.injEq, vb_ite, vi_ite, new_, adv, doS, doN, List.getD_cons_zero, List.getD_cons_succ]; decide) | (exfalso; revert c4; simp only [vd1, vd2, vd3, vd4, vd5, vd6, vd7, reduceCtorEq, Option.some.injEq, vb_ite, vi_ite, new_, adv, doS, doN, List.getD_cons_zero, List.getD_cons_succ]; decide) | (simp only [vd1, vd2, vd3, vd4, vd5, vd6, vd7, reduceCtorEq, Option.some.injEq, vb_ite, vi_ite, new_, adv, doS, doN, List.getD_cons_zero, List.getD_cons_succ]; decide)
        · refine ret_wp ?_
          first | rfl | (exfalso; revert c1; simp only [vd1, vd2, vd3, vd4, vd5, vd6, vd7, reduceCtorEq, Option.some.injEq, vb_ite, vi_ite, new_, adv, doS, doN, List.getD_cons_zero, List.getD_cons_succ]; decide) | (exfalso; revert c2; simp only [vd1, vd2, vd3, vd4, vd5, vd6, vd7, reduceCtorEq, Option.some.injEq, vb_ite, vi_ite, new_, adv, doS, doN, List.getD_cons_zero, List.getD_cons_succ]; decide) | (exfalso; revert c3; simp only [vd1, vd2, vd3, vd4, vd5, vd6, vd7, reduceCtorEq, Option.some.injEq, vb_ite, vi_ite, new_, adv, doS, doN, List.getD_cons_zero, List.getD_cons_succ]; decide) | (exfalso; revert c4; simp only [vd1, vd2, vd3, vd4, vd5, vd6, vd7, reduceCtorEq, Option.some.injEq, vb_ite, vi_ite, new_, adv, doS, doN, List.getD_cons_zero, List.getD_cons_succ]; decide) | (simp only [vd1, vd2, vd3, vd4, vd5, vd6, vd7, reduceCtorEq, Option.some.injEq, vb_ite, vi_ite, new_, adv, doS, doN, List.getD_cons_zero, List.getD_cons_succ]; decide)
      · refine ret_wp ?_
        first | rfl | (exfalso; revert c1; simp only [vd1, vd2, vd3, vd4, vd5, vd6, vd7, reduceCtorEq, Option.some.injEq, vb_ite, vi_ite, new_, adv, doS, doN, List.getD_cons_zero, List.getD_cons_succ]; decide) | (exfalso; revert c2; simp only [vd1, vd2, vd3, vd4, vd5, vd6, vd7, reduceCtorEq, Option.some.injEq, vb_ite, vi_ite, new_, adv, doS, doN, List.getD_cons_zero, List.getD_cons_succ]; decide) | (exfalso; revert c3; simp only [vd1, vd2, vd3, vd4, vd5, vd6, vd7, reduceCtorEq, Option.some.injEq, vb_ite, vi_ite, new_, adv, doS, doN, List.getD_cons_zero, List.getD_cons_succ]; decide) | (exfalso; revert c4; simp only [vd1, vd2, vd3, vd4, vd5, vd6, vd7, reduceCtorEq, Option.some.injEq, vb_ite, vi_ite, new_, adv, doS, doN, List.getD_cons_zero, List.getD_cons_succ]; decide) | (simp only [vd1, vd2, vd3, vd4, vd5, vd6, vd7, reduceCtorEq, Option.some.injEq, vb_ite, vi_ite, new_, adv, doS, doN, List.getD_cons_zero, List.getD_cons_succ]; decide)
  · refine ret_wp ?_
    first | rfl | (exfalso; revert c1; simp only [vd1, vd2, vd3, vd4, vd5, vd6, vd7, reduceCtorEq, Option.some.injEq, vb_ite, vi_ite, new_, adv, doS, doN, List.getD_cons_zero, List.getD_cons_succ]; decide) | (exfalso; revert c2; simp only [vd1, vd2, vd3, vd4, vd5, vd6, vd7, reduceCtorEq, Option.some.injEq, vb_ite, vi_ite, new_, adv, doS, doN, List.getD_cons_zero, List.getD_cons_succ]; decide) | (exfalso; revert c3; simp only [vd1, vd2, vd3, vd4, vd5, vd6, vd7, reduceCtorEq, Option.some.injEq, vb_ite, vi_ite, new_, adv, doS, doN, List.getD_cons_zero, List.getD_cons_succ]; decide) | (exfalso; revert c4; simp only [vd1, vd2, vd3, vd4, vd5, vd6, vd7, reduceCtorEq, Option.some.injEq, vb_ite, vi_ite, new_, adv, doS, doN, List.getD_cons_zero, List.getD_cons_succ]; decide) | (simp only [vd1, vd2, vd3, vd4, vd5, vd6, vd7, reduceCtorEq, Option.some.injEq, vb_ite, vi_ite, new_, adv, doS, doN, List.getD_cons_zero, List.getD_cons_succ]; decide)
set_option maxHeartbeats 4000000 in
theorem h10 : holds Try.prog (kSmall sg10) := by
  refine fn_holds (l := []) trivial hP rs10 (inj_of (fun l : List Atom => ((⟨va (l.getD 0 atom0).1, vn (l.getD 0 atom0).1, vc (l.getD 0 atom0).1, (l.getD 0 atom0).2⟩ : Sl) : Sl)) (fun _ => rfl)) Try.func10 (by kernel_rfl) (c := code Try.f10) (by kernel_rfl) (an := an10) (by kernel_rfl) (pk := pk10) rfl (t := t10) (by kernel_rfl) ?_
  rintro l hpre
  refine ⟨by simp [pk10, KindsOk, encPS, encPSn, encPSnc, encPSA, encPn, encSS, encI, Pol.enc, Stt.enc, Ac.enc, Sl.atom, Sl.nil, Stt.zero, RK.ok], ?_⟩
  unfold t10
  refine need_wp ?_ ?_
  · exact ⟨_, _, _, rfl⟩
  refine ret_wp ?_
  simp only [vd1, vd2, vd3, vd4, vd5, vd6, vd7, reduceCtorEq, Option.some.injEq, vb_ite, vi_ite, new_, adv, doS, doN, List.getD_cons_zero, List.getD_cons_succ]
set_option maxHeartbeats 4000000 in
theorem h12 : holds Try.prog (kOf sg12) := by
  refine fn_holds (l := []) trivial hP rs12 (inj_of (fun l : List Atom => ((vi (l.getD 0 atom0).1, vi (l.getD 1 atom0).1) : Int × Int)) (fun _ => rfl)) Try.func12 (by kernel_rfl) (c := code Try.f12) (by kernel_rfl) (an := an12) (by kernel_rfl) (pk := pk12) rfl (t := t12) (by kernel_rfl) ?_
  rintro ⟨n, m⟩ ⟨g1, g2, g3, g4⟩
  refine ⟨by simp [pk12, KindsOk, encPS, encPSn, encPSnc, encPSA, encPn, encSS, encI, Pol.enc, Stt.enc, Ac.enc, Sl.atom, Sl.nil, Stt.zero, RK.ok], ?_⟩
  unfold t12
  refine ret_wp ?_
  have h1 := wrap_id n (by omega) (by omega); have h2 := wrap_id m (by omega) (by omega); have h3 := wrap_id (1 + n) (by omega) (by omega); have h4 := wrap_id (1 + m) (by omega) (by omega); simp only [vd1, vd2, vd3, vd4, vd5, vd6, vd7, reduceCtorEq, Option.some.injEq, vb_ite, vi_ite, new_, adv, doS, doN, List.getD_cons_zero, List.getD_cons_succ, ofP, h1, h2, h3, h4]; simp only [Int.add_comm 1]; simp
theorem lg_step {g h : Sl} {i : Int} (h0 : 0 ≤ i) (hi : i < g.n) (hn : g.n = h.n) (a : ∀ j : Int, 0 ≤ j → j < i → vi (cellD g.atom j 0).1 = vi (cellD h.atom j 0).1 ∧ vi (cellD g.atom j 1).1 = vi (cellD h.atom j 1).1)
    (b : vi (cellD g.atom i 0).1 = vi (cellD h.atom i 0).1 ∧ vi (cellD g.atom i 1).1 = vi (cellD h.atom i 1).1) : ∀ j : Int, 0 ≤ j → j < i + 1 → vi (cellD g.atom j 0).1 = vi (cellD h.atom j 0).1 ∧ vi (cellD g.atom j 1).1 = vi (cellD h.atom j 1).1 := by
  intro j hj hj2
  by_cases hc : j = i
  · subst hc; exact b
  · exact a j hj (by omega)
theorem lgE_all {g h : Sl} (hn : g.n = h.n) (a : ∀ j : Int, 0 ≤ j → j < g.n → vi (cellD g.atom j 0).1 = vi (cellD h.atom j 0).1 ∧ vi (cellD g.atom j 1).1 = vi (cellD h.atom j 1).1) : lgE g h = true := by
  simp only [lgE, hn, beq_self_eq_true, Bool.true_and, List.all_eq_true, List.mem_range, Bool.and_eq_true, beq_iff_eq]
  intro i hi
  exact a i (by omega) (by omega)
theorem lgE_n {g h : Sl} (e : lgE g h = true) : g.n = h.n := by
  simp only [lgE, Bool.and_eq_true, beq_iff_eq] at e; exact e.1
theorem lgE_at {g h : Sl} (e : lgE g h = true) {i : Int} (h0 : 0 ≤ i) (hi : i < g.n) : vi (cellD g.atom i 0).1 = vi (cellD h.atom i 0).1 ∧ vi (cellD g.atom i 1).1 = vi (cellD h.atom i 1).1 := by
  simp only [lgE, Bool.and_eq_true, beq_iff_eq, List.all_eq_true, List.mem_range] at e
  have := e.2 i.toNat (by omega)
  rwa [Int.toNat_of_nonneg h0] at this
theorem same_ne {s t : Stt} (h : ¬(s.t = t.t ∧ s.v = t.v ∧ s.h = t.h)) : same s t = false := by simp [same, h]
theorem same_nn {s t : Stt} (h : s.g.n ≠ t.g.n) : same s t = false := by simp [same, lgE, h]
theorem same_no {s t : Stt} {i : Int} (h0 : 0 ≤ i) (hi : i < s.g.n) (h : ¬(vi (cellD s.g.atom i 0).1 = vi (cellD t.g.atom i 0).1 ∧ vi (cellD s.g.atom i 1).1 = vi (cellD t.g.atom i 1).1)) : same s t = false := by
  cases hc : lgE s.g t.g
  · simp [same, hc]
  · exact absurd (lgE_at hc h0 hi) h
theorem same_yes {s t : Stt} (h : s.t = t.t ∧ s.v = t.v ∧ s.h = t.h) (e : lgE s.g t.g = true) : same s t = true := by simp [same, h, e]
set_option maxHeartbeats 4000000 in
theorem h15 : holds Try.prog (kSame sg15) := by
  refine fn_holds (l := []) trivial hP rs15 (inj_of (fun l : List Atom => (((⟨vi (l.getD 0 atom0).1, vi (l.getD 1 atom0).1, vi (l.getD 2 atom0).1, (⟨va (l.getD 3 atom0).1, vn (l.getD 3 atom0).1, vc (l.getD 3 atom0).1, (l.getD 3 atom0).2⟩ : Sl)⟩ : Stt), (⟨vi (l.getD 4 atom0).1, vi (l.getD 5 atom0).1, vi (l.getD 6 atom0).1, (⟨va (l.getD 7 atom0).1, vn (l.getD 7 atom0).1, vc (l.getD 7 atom0).1, (l.getD 7 atom0).2⟩ : Sl)⟩ : Stt)) : Stt × Stt)) (fun _ => rfl)) Try.func15 (by kernel_rfl) (c := code Try.f15) (by kernel_rfl) (an := an15) (by kernel_rfl) (pk := pk15) rfl (t := t15) (by kernel_rfl) ?_
  rintro ⟨s, t⟩ ⟨o1, o2⟩
  refine ⟨by simp [pk15, KindsOk, encPS, encPSn, encPSnc, encPSA, encPn, encSS, encI, Pol.enc, Stt.enc, Ac.enc, Sl.atom, Sl.nil, Stt.zero, RK.ok], ?_⟩
  unfold t15
  refine br_wp (fun c1 => ?_) (fun c1 => ?_)
  · refine ret_wp ?_
    first | (exact congrArg (fun b => [aB b]) (same_no i0 hi (by simp only [vd1, vd2, vd3, vd4, vd5, vd6, vd7, reduceCtorEq, Option.some.injEq, vb_ite, vi_ite, new_, adv, doS, doN, List.getD_cons_zero, List.getD_cons_succ] at c6 ⊢; grind)).symm) | (simp only [vd1, vd2, vd3, vd4, vd5, vd6, vd7, reduceCtorEq, Option.some.injEq, vb_ite, vi_ite, new_, adv, doS, doN, List.getD_cons_zero, List.getD_cons_succ] at c1 c2 c3 c5; exact congrArg (fun b => [aB b]) (same_yes ⟨c1, c2, c3⟩ (lgE_all i2 (fun j a b => i3 j a (by omega)))).symm) | ((simp only [vd1, vd2, vd3, vd4, vd5, vd6, vd7, reduceCtorEq, Option.some.injEq, vb_ite, vi_ite, new_, adv, doS, doN, List.getD_cons_zero, List.getD_cons_succ] at *) <;> grind [same_ne, same_nn])
  · refine br_wp (fun c2 => ?_) (fun c2 => ?_)
    · refine ret_wp ?_
      first | (exact congrArg (fun b => [aB b]) (same_no i0 hi (by simp only [vd1, vd2, vd3, vd4, vd5, vd6, vd7, reduceCtorEq, Option.some.injEq, vb_ite, vi_ite, new_, adv, doS, doN, List.getD_cons_zero, List.getD_cons_succ] at c6 ⊢; grind)).symm) | (simp only [vd1, vd2, vd3, vd4, vd5, vd6, vd7, reduceCtorEq, Option.some.injEq, vb_ite, vi_ite, new_, adv, doS, doN, List.getD_cons_zero, List.getD_cons_succ] at c1 c2 c3 c5; exact congrArg (fun b => [aB b]) (same_yes ⟨c1, c2, c3⟩ (lgE_all i2 (fun j a b => i3 j a (by omega)))).symm) | ((simp only [vd1, vd2, vd3, vd4, vd5, vd6, vd7, reduceCtorEq, Option.some.injEq, vb_ite, vi_ite, new_, adv, doS, doN, List.getD_cons_zero, List.getD_cons_succ] at *) <;> grind [same_ne, same_nn])
    · refine br_wp (fun c3 => ?_) (fun c3 => ?_)
      · refine ret_wp ?_
        first | (exact congrArg (fun b => [aB b]) (same_no i0 hi (by simp only [vd1, vd2, vd3, vd4, vd5, vd6, vd7, reduceCtorEq, Option.some.injEq, vb_ite, vi_ite, new_, adv, doS, doN, List.getD_cons_zero, List.getD_cons_succ] at c6 ⊢; grind)).symm) | (simp only [vd1, vd2, vd3, vd4, vd5, vd6, vd7, reduceCtorEq, Option.some.injEq, vb_ite, vi_ite, new_, adv, doS, doN, List.getD_cons_zero, List.getD_cons_succ] at c1 c2 c3 c5; exact congrArg (fun b => [aB b]) (same_yes ⟨c1, c2, c3⟩ (lgE_all i2 (fun j a b => i3 j a (by omega)))).symm) | ((simp only [vd1, vd2, vd3, vd4, vd5, vd6, vd7, reduceCtorEq, Option.some.injEq, vb_ite, vi_ite, new_, adv, doS, doN, List.getD_cons_zero, List.getD_cons_succ] at *) <;> grind [same_ne, same_nn])
      · refine need_wp ?_ ?_
        · first | exact ⟨_, _, _, rfl⟩ | exact ⟨_, _, r1⟩ | exact ⟨_, r1⟩ | exact ⟨_, _, r2⟩ | exact ⟨_, r2⟩ | exact a0 | exact a1 | exact b0 | exact b1 | (simp only [vd1, vd2, vd3, vd4, vd5, vd6, vd7, reduceCtorEq, Option.some.injEq, vb_ite, vi_ite, new_, adv, doS, doN, List.getD_cons_zero, List.getD_cons_succ] at *; grind)
        refine need_wp ?_ ?_
        · first | exact ⟨_, _, _, rfl⟩ | exact ⟨_, _, r1⟩ | exact ⟨_, r1⟩ | exact ⟨_, _, r2⟩ | exact ⟨_, r2⟩ | exact a0 | exact a1 | exact b0 | exact b1 | (simp only [vd1, vd2, vd3, vd4, vd5, vd6, vd7, reduceCtorEq, Option.some.injEq, vb_ite, vi_ite, new_, adv, doS, doN, List.getD_cons_zero, List.getD_cons_succ] at *; grind)
        refine br_wp (fun c4 => ?_) (fun c4 => ?_)
        · refine ret_wp ?_
          first | (exact congrArg (fun b => [aB b]) (same_no i0 hi (by simp only [vd1, vd2, vd3, vd4, vd5, vd6, vd7, reduceCtorEq, Option.some.injEq, vb_ite, vi_ite, new_, adv, doS, doN, List.getD_cons_zero, List.getD_cons_succ] at c6 ⊢; grind)).symm) | (simp only [vd1, vd2, vd3, vd4, vd5, vd6, vd7, reduceCtorEq, Option.some.injEq, vb_ite, vi_ite, new_, adv, doS, doN, List.getD_cons_zero, List.getD_cons_succ] at c1 c2 c3 c5; exact congrArg (fun b => [aB b]) (same_yes ⟨c1, c2, c3⟩ (lgE_all i2 (fun j a b => i3 j a (by omega)))).symm) | ((simp only [vd1, vd2, vd3, vd4, vd5, vd6, vd7, reduceCtorEq, Option.some.injEq, vb_ite, vi_ite, new_, adv, doS, doN, List.getD_cons_zero, List.getD_cons_succ] at *) <;> grind [same_ne, same_nn])
        · refine loop_wp (fun bs0 => ∃ (i : Int), bs0 = [aI i] ∧ (0 ≤ i ∧ i ≤ s.g.n ∧ s.g.n = t.g.n ∧ ∀ j : Int, 0 ≤ j → j < i → vi (cellD s.g.atom j 0).1 = vi (cellD t.g.atom j 0).1 ∧ vi (cellD s.g.atom j 1).1 = vi (cellD t.g.atom j 1).1)) (fun bs0 => (s.g.n - vi (bs0.getD 0 atom0).1).toNat) ?_ ?_
          · refine ⟨0, by simp only [vd1, vd2, vd3, vd4, vd5, vd6, vd7, reduceCtorEq, Option.some.injEq, vb_ite, vi_ite, new_, adv, doS, doN, List.getD_cons_zero, List.getD_cons_succ], ?_⟩
            simp only [vd1, vd2, vd3, vd4, vd5, vd6, vd7, reduceCtorEq, Option.some.injEq, vb_ite, vi_ite, new_, adv, doS, doN, List.getD_cons_zero, List.getD_cons_succ] at *; exact ⟨by omega, by omega, by omega, fun j _ _ => by omega⟩
          rintro _ _ ⟨i, rfl, ⟨i0, i1, i2, i3⟩⟩
          refine need_wp ?_ ?_
          · first | exact ⟨_, _, _, rfl⟩ | exact ⟨_, _, r1⟩ | exact ⟨_, r1⟩ | exact ⟨_, _, r2⟩ | exact ⟨_, r2⟩ | exact a0 | exact a1 | exact b0 | exact b1 | (simp only [vd1, vd2, vd3, vd4, vd5, vd6, vd7, reduceCtorEq, Option.some.injEq, vb_ite, vi_ite, new_, adv, doS, doN, List.getD_cons_zero, List.getD_cons_succ] at *; grind)
          refine br_wp (fun c5 => ?_) (fun c5 => ?_)
          · have hi : i < s.g.n := by simp only [vd1, vd2, vd3, vd4, vd5, vd6, vd7, reduceCtorEq, Option.some.injEq, vb_ite, vi_ite, new_, adv, doS, doN, List.getD_cons_zero, List.getD_cons_succ] at c5; grind
            obtain ⟨⟨m1, e1, r1⟩, k1⟩ := o1.resolve_left (fun h0 => by simp only at h0; omega)
            obtain ⟨⟨m2, e2, r2⟩, k2⟩ := o2.resolve_left (fun h0 => by simp only at h0; omega)
            obtain ⟨a0, a1⟩ := k1 i i0 hi
            obtain ⟨b0, b1⟩ := k2 i i0 (by simp only; omega)
            refine need_wp ?_ ?_
            · first | exact ⟨_, _, _, rfl⟩ | exact ⟨_, _, r1⟩ | exact ⟨_, r1⟩ | exact ⟨_, _, r2⟩ | exact ⟨_, r2⟩ | exact a0 | exact a1 | exact b0 | exact b1 | (simp only [vd1, vd2, vd3, vd4, vd5, vd6, vd7, reduceCtorEq, Option.some.injEq, vb_ite, vi_ite, new_, adv, doS, doN, List.getD_cons_zero, List.getD_cons_succ] at *; grind)
            refine need_wp ?_ ?_
            · first | exact ⟨_, _, _, rfl⟩ | exact ⟨_, _, r1⟩ | exact ⟨_, r1⟩ | exact ⟨_, _, r2⟩ | exact ⟨_, r2⟩ | exact a0 | exact a1 | exact b0 | exact b1 | (simp only [vd1, vd2, vd3, vd4, vd5, vd6, vd7, reduceCtorEq, Option.some.injEq, vb_ite, vi_ite, new_, adv, doS, doN, List.getD_cons_zero, List.getD_cons_succ] at *; grind)
            refine need_wp ?_ ?_
            · first | exact ⟨_, _, _, rfl⟩ | exact ⟨_, _, r1⟩ | exact ⟨_, r1⟩ | exact ⟨_, _, r2⟩ | exact ⟨_, r2⟩ | exact a0 | exact a1 | exact b0 | exact b1 | (simp only [vd1, vd2, vd3, vd4, vd5, vd6, vd7, reduceCtorEq, Option.some.injEq, vb_ite, vi_ite, new_, adv, doS, doN, List.getD_cons_zero, List.getD_cons_succ] at *; grind)
            refine need_wp ?_ ?_
            · first | exact ⟨_, _, _, rfl⟩ | exact ⟨_, _, r1⟩ | exact ⟨_, r1⟩ | exact ⟨_, _, r2⟩ | exact ⟨_, r2⟩ | exact a0 | exact a1 | exact b0 | exact b1 | (simp only [vd1, vd2, vd3, vd4, vd5, vd6, vd7, reduceCtorEq, Option.some.injEq, vb_ite, vi_ite, new_, adv, doS, doN, List.getD_cons_zero, List.getD_cons_succ] at *; grind)
            refine need_wp ?_ ?_
            · first | exact ⟨_, _, _, rfl⟩ | exact ⟨_, _, r1⟩ | exact ⟨_, r1⟩ | exact ⟨_, _, r2⟩ | exact ⟨_, r2⟩ | exact a0 | exact a1 | exact b0 | exact b1 | (simp only [vd1, vd2, vd3, vd4, vd5, vd6, vd7, reduceCtorEq, Option.some.injEq, vb_ite, vi_ite, new_, adv, doS, doN, List.getD_cons_zero, List.getD_cons_succ] at *; grind)
            refine need_wp ?_ ?_
            · first | exact ⟨_, _, _, rfl⟩ | exact ⟨_, _, r1⟩ | exact ⟨_, r1⟩ | exact ⟨_, _, r2⟩ | exact ⟨_, r2⟩ | exact a0 | exact a1 | exact b0 | exact b1 | (simp only [vd1, vd2, vd3, vd4, vd5, vd6, vd7, reduceCtorEq, Option.some.injEq, vb_ite, vi_ite, new_, adv, doS, doN, List.getD_cons_zero, List.getD_cons_succ] at *; grind)
            refine need_wp ?_ ?_
            · first | exact ⟨_, _, _, rfl⟩ | exact ⟨_, _, r1⟩ | exact ⟨_, r1⟩ | exact ⟨_, _, r2⟩ | exact ⟨_, r2⟩ | exact a0 | exact a1 | exact b0 | exact b1 | (simp only [vd1, vd2, vd3, vd4, vd5, vd6, vd7, reduceCtorEq, Option.some.injEq, vb_ite, vi_ite, new_, adv, doS, doN, List.getD_cons_zero, List.getD_cons_succ] at *; grind)
            refine need_wp ?_ ?_
            · first | exact ⟨_, _, _, rfl⟩ | exact ⟨_, _, r1⟩ | exact ⟨_, r1⟩ | exact ⟨_, _, r2⟩ | exact ⟨_, r2⟩ | exact a0 | exact a1 | exact b0 | exact b1 | (simp only [vd1, vd2, vd3, vd4, vd5, vd6, vd7, reduceCtorEq, Option.some.injEq, vb_ite, vi_ite, new_, adv, doS, doN, List.getD_cons_zero, List.getD_cons_succ] at *; grind)
            refine need_wp ?_ ?_
            · first | exact ⟨_, _, _, rfl⟩ | exact ⟨_, _, r1⟩ | exact ⟨_, r1⟩ | exact ⟨_, _, r2⟩ | exact ⟨_, r2⟩ | exact a0 | exact a1 | exact b0 | exact b1 | (simp only [vd1, vd2, vd3, vd4, vd5, vd6, vd7, reduceCtorEq, Option.some.injEq, vb_ite, vi_ite, new_, adv, doS, doN, List.getD_cons_zero, List.getD_cons_succ] at *; grind)
            refine need_wp ?_ ?_
            · first | exact ⟨_, _, _, rfl⟩ | exact ⟨_, _, r1⟩ | exact ⟨_, r1⟩ | exact ⟨_, _, r2⟩ | exact ⟨_, r2⟩ | exact a0 | exact a1 | exact b0 | exact b1 | (simp only [vd1, vd2, vd3, vd4, vd5, vd6, vd7, reduceCtorEq, Option.some.injEq, vb_ite, vi_ite, new_, adv, doS, doN, List.getD_cons_zero, List.getD_cons_succ] at *; grind)
            refine need_wp ?_ ?_
            · first | exact ⟨_, _, _, rfl⟩ | exact ⟨_, _, r1⟩ | exact ⟨_, r1⟩ | exact ⟨_, _, r2⟩ | exact ⟨_, r2⟩ | exact a0 | exact a1 | exact b0 | exact b1 | (simp only [vd1, vd2, vd3, vd4, vd5, vd6, vd7, reduceCtorEq, Option.some.injEq, vb_ite, vi_ite, new_, adv, doS, doN, List.getD_cons_zero, List.getD_cons_succ] at *; grind)
            refine need_wp ?_ ?_
            · first | exact ⟨_, _, _, rfl⟩ | exact ⟨_, _, r1⟩ | exact ⟨_, r1⟩ | exact ⟨_, _, r2⟩ | exact ⟨_, r2⟩ | exact a0 | exact a1 | exact b0 | exact b1 | (simp only [vd1, vd2, vd3, vd4, vd5, vd6, vd7, reduceCtorEq, Option.some.injEq, vb_ite, vi_ite, new_, adv, doS, doN, List.getD_cons_zero, List.getD_cons_succ] at *; grind)
            refine need_wp ?_ ?_
            · first | exact ⟨_, _, _, rfl⟩ | exact ⟨_, _, r1⟩ | exact ⟨_, r1⟩ | exact ⟨_, _, r2⟩ | exact ⟨_, r2⟩ | exact a0 | exact a1 | exact b0 | exact b1 | (simp only [vd1, vd2, vd3, vd4, vd5, vd6, vd7, reduceCtorEq, Option.some.injEq, vb_ite, vi_ite, new_, adv, doS, doN, List.getD_cons_zero, List.getD_cons_succ] at *; grind)
            refine need_wp ?_ ?_
            · first | exact ⟨_, _, _, rfl⟩ | exact ⟨_, _, r1⟩ | exact ⟨_, r1⟩ | exact ⟨_, _, r2⟩ | exact ⟨_, r2⟩ | exact a0 | exact a1 | exact b0 | exact b1 | (simp only [vd1, vd2, vd3, vd4, vd5, vd6, vd7, reduceCtorEq, Option.some.injEq, vb_ite, vi_ite, new_, adv, doS, doN, List.getD_cons_zero, List.getD_cons_succ] at *; grind)
            refine need_wp ?_ ?_
            · first | exact ⟨_, _, _, rfl⟩ | exact ⟨_, _, r1⟩ | exact ⟨_, r1⟩ | exact ⟨_, _, r2⟩ | exact ⟨_, r2⟩ | exact a0 | exact a1 | exact b0 | exact b1 | (simp only [vd1, vd2, vd3, vd4, vd5, vd6, vd7, reduceCtorEq, Option.some.injEq, vb_ite, vi_ite, new_, adv, doS, doN, List.getD_cons_zero, List.getD_cons_succ] at *; grind)
            refine need_wp ?_ ?_
            · first | exact ⟨_, _, _, rfl⟩ | exact ⟨_, _, r1⟩ | exact ⟨_, r1⟩ | exact ⟨_, _, r2⟩ | exact ⟨_, r2⟩ | exact a0 | exact a1 | exact b0 | exact b1 | (simp only [vd1, vd2, vd3, vd4, vd5, vd6, vd7, reduceCtorEq, Option.some.injEq, vb_ite, vi_ite, new_, adv, doS, doN, List.getD_cons_zero, List.getD_cons_succ] at *; grind)
            refine br_wp (fun c6 => ?_) (fun c6 => ?_)
            · refine again_wp rfl ⟨(IntKind.i64.wrap (i + 1)), by simp only [vd1, vd2, vd3, vd4, vd5, vd6, vd7, reduceCtorEq, Option.some.injEq, vb_ite, vi_ite, new_, adv, doS, doN, List.getD_cons_zero, List.getD_cons_succ], ?_⟩ ?_
              · simp only [vd1, vd2, vd3, vd4, vd5, vd6, vd7, reduceCtorEq, Option.some.injEq, vb_ite, vi_ite, new_, adv, doS, doN, List.getD_cons_zero, List.getD_cons_succ] at c5; simp only at m1; have hw := wrap_id (i + 1) (by omega) (by omega); simp only [vd1, vd2, vd3, vd4, vd5, vd6, vd7, reduceCtorEq, Option.some.injEq, vb_ite, vi_ite, new_, adv, doS, doN, List.getD_cons_zero, List.getD_cons_succ, hw]; refine ⟨by omega, by omega, i2, lg_step i0 (by omega) i2 i3 ?_⟩; simp only [vd1, vd2, vd3, vd4, vd5, vd6, vd7, reduceCtorEq, Option.some.injEq, vb_ite, vi_ite, new_, adv, doS, doN, List.getD_cons_zero, List.getD_cons_succ] at c6 ⊢; grind
              · simp only [vd1, vd2, vd3, vd4, vd5, vd6, vd7, reduceCtorEq, Option.some.injEq, vb_ite, vi_ite, new_, adv, doS, doN, List.getD_cons_zero, List.getD_cons_succ] at c5; simp only at m1; have hw := wrap_id (i + 1) (by omega) (by omega); simp only [vd1, vd2, vd3, vd4, vd5, vd6, vd7, reduceCtorEq, Option.some.injEq, vb_ite, vi_ite, new_, adv, doS, doN, List.getD_cons_zero, List.getD_cons_succ, hw]; omega
            · refine pop_wp ?_
              refine ret_wp ?_
              first | (exact congrArg (fun b => [aB b]) (same_no i0 hi (by simp only [vd1, vd2, vd3, vd4, vd5, vd6, vd7, reduceCtorEq, Option.some.injEq, vb_ite, vi_ite, new_, adv, doS, doN, List.getD_cons_zero, List.getD_cons_succ] at c6 ⊢; grind)).symm) | (simp only [vd1, vd2, vd3, vd4, vd5, vd6, vd7, reduceCtorEq, Option.some.injEq, vb_ite, vi_ite, new_, adv, doS, doN, List.getD_cons_zero, List.getD_cons_succ] at c1 c2 c3 c5; exact congrArg (fun b => [aB b]) (same_yes ⟨c1, c2, c3⟩ (lgE_all i2 (fun j a b => i3 j a (by omega)))).symm) | ((simp only [vd1, vd2, vd3, vd4, vd5, vd6, vd7, reduceCtorEq, Option.some.injEq, vb_ite, vi_ite, new_, adv, doS, doN, List.getD_cons_zero, List.getD_cons_succ] at *) <;> grind [same_ne, same_nn])
          · refine pop_wp ?_
            refine ret_wp ?_
            first | (exact congrArg (fun b => [aB b]) (same_no i0 hi (by simp only [vd1, vd2, vd3, vd4, vd5, vd6, vd7, reduceCtorEq, Option.some.injEq, vb_ite, vi_ite, new_, adv, doS, doN, List.getD_cons_zero, List.getD_cons_succ] at c6 ⊢; grind)).symm) | (simp only [vd1, vd2, vd3, vd4, vd5, vd6, vd7, reduceCtorEq, Option.some.injEq, vb_ite, vi_ite, new_, adv, doS, doN, List.getD_cons_zero, List.getD_cons_succ] at c1 c2 c3 c5; exact congrArg (fun b => [aB b]) (same_yes ⟨c1, c2, c3⟩ (lgE_all i2 (fun j a b => i3 j a (by omega)))).symm) | ((simp only [vd1, vd2, vd3, vd4, vd5, vd6, vd7, reduceCtorEq, Option.some.injEq, vb_ite, vi_ite, new_, adv, doS, doN, List.getD_cons_zero, List.getD_cons_succ] at *) <;> grind [same_ne, same_nn])
def sim (s t : Stt) : Prop := s.t = t.t ∧ s.v = t.v ∧ s.h = t.h ∧ s.g.n = t.g.n
theorem sim_of {s t : Stt} (h : same s t = true) : sim s t := by
  simp only [same, Bool.and_eq_true, decide_eq_true_eq] at h
  exact ⟨h.1.1, h.1.2.1, h.1.2.2, lgE_n h.2⟩
theorem right_c (p : Pol) {s t : Stt} (h : sim s t) : right p s = right p t := by
  obtain ⟨h1, h2, h3, h4⟩ := h
  unfold right; rw [h1, h2, h3, h4]
theorem ltr_c {s t : Stt} (n : Int) (h : sim s t) : ltr s n = ltr t n := by unfold ltr; rw [h.1]
theorem av_c (p : Pol) {s t : Stt} (n : Int) (h : sim s t) : av p s n = av p t n := by unfold av; rw [ltr_c n h, h.1, h.2.1]
theorem mayC_c (p : Pol) {s t : Stt} (c : Int) (h : sim s t) : mayC p s c = mayC p t c := by unfold mayC; rw [right_c p h, h.2.2.1]
theorem did_c (p : Pol) {s t : Stt} (a : Ac) (h : sim s t) : did p s a = did p t a := by unfold did; rw [right_c p h, av_c p a.t h, h.2.2.1]
theorem told (p : Pol) {s t : Stt} (n c : Int) (h : sim s t) : right p s = right p t ∧ room p s n = room p t n ∧ until_ p s n = until_ p t n ∧ retry p s n c = retry p t n c ∧ mayC p s c = mayC p t c := by
  have h1 := right_c p h
  have h2 := ltr_c n h
  have h3 := av_c p n h
  have h4 := mayC_c p c h
  refine ⟨h1, ?_, ?_, ?_, h4⟩
  · unfold room; simp only [h1, h3, h.2.2.1]
  · unfold until_; simp only [h1, h2, h3, h.2.2.1]
  · unfold retry; simp only [h2, h3, h4, h.2.2.1]
theorem advG_n (p : Pol) (s : Stt) {g : Sl} (h : g.n = 0) : (advG p s g).n = 0 := by unfold advG; split; exact h; rfl
theorem advG_r (p : Pol) (s : Stt) : (advG p s s.g).n = 0 := by
  unfold advG; split
  · rename_i h; exact h.2.2.2.2.2.2
  · rfl
theorem same_adv (p : Pol) {s t : Stt} (n : Int) (h : sim s t) : same (adv p s n Sl.nil) (adv p t n t.g) = true := by
  refine same_yes ⟨?_, ?_, ?_⟩ (lgE_nil (advG_n p s rfl) (advG_r p t))
  · show advT p s n = advT p t n; unfold advT; simp only [right_c p h, ltr_c n h]
  · show advV p s n = advV p t n; unfold advV; simp only [right_c p h, av_c p n h]
  · show advH p s = advH p t; unfold advH; simp only [right_c p h, h.2.2.1]
theorem doG_n (p : Pol) (s : Stt) (a : Ac) : (doG p s a Sl.nil).n = 0 := by
  unfold doG; split
  · rfl
  · split
    · rename_i h; exact h.2.2.2.2.2.2
    · rfl
theorem doG_r (p : Pol) (s : Stt) (a : Ac) : (doG p s a s.g).n = 0 := by
  unfold doG; split
  · rename_i h; exact h.1.2.2.2.2.2.2
  · split
    · rename_i h; exact h.2.2.2.2.2.2
    · rfl
theorem same_do (p : Pol) {s t : Stt} (a : Ac) (h : sim s t) : same (doN p s a) (doS p t a t.g) = true := by
  refine same_yes ⟨?_, ?_, ?_⟩ (lgE_nil (doG_n p s a) (doG_r p t a))
  · show doT p s a = doT p t a; unfold doT; simp only [right_c p h, did_c p a h, ltr_c a.t h, h.1]
  · show doV p s a = doV p t a; unfold doV; simp only [right_c p h, did_c p a h, av_c p a.t h, h.2.1]
  · show doH p s a = doH p t a; unfold doH; simp only [right_c p h, did_c p a h, h.2.2.1]
set_option maxHeartbeats 4000000 in
theorem h24 : holds Try.prog (kTold sg24) := by
  refine fn_holds (l := [kRetry sg19, kRetry sg30, kAdv sg18, kAdvR sg31, kSame sg15, kRight sg16, kRight sg32, kRoom sg17, kRoom sg33, kUntil sg20, kUntil sg34]) ⟨h19, h30, h18, h31, h15, h16, h32, h17, h33, h20, h34, trivial⟩ hP rs24 (inj_of (fun l : List Atom => (((⟨vi (l.getD 0 atom0).1, vi (l.getD 1 atom0).1, vi (l.getD 2 atom0).1, vi (l.getD 3 atom0).1, vi (l.getD 4 atom0).1, vb (l.getD 5 atom0).1⟩ : Pol), (⟨vi (l.getD 6 atom0).1, vi (l.getD 7 atom0).1, vi (l.getD 8 atom0).1, (⟨va (l.getD 9 atom0).1, vn (l.getD 9 atom0).1, vc (l.getD 9 atom0).1, (l.getD 9 atom0).2⟩ : Sl)⟩ : Stt), (⟨vi (l.getD 10 atom0).1, vi (l.getD 11 atom0).1, vi (l.getD 12 atom0).1, (⟨va (l.getD 13 atom0).1, vn (l.getD 13 atom0).1, vc (l.getD 13 atom0).1, (l.getD 13 atom0).2⟩ : Sl)⟩ : Stt), vi (l.getD 14 atom0).1, vi (l.getD 15 atom0).1) : Pol × Stt × Stt × Int × Int)) (fun _ => rfl)) Try.func24 (by kernel_rfl) (c := code Try.f24) (by kernel_rfl) (an := an24) (by kernel_rfl) (pk := pk24) rfl (t := t24) (by kernel_rfl) ?_
  rintro ⟨p, s, t, n, c⟩ hpre
  refine ⟨by simp [pk24, KindsOk, encPS, encPSn, encPSnc, encPSA, encPn, encSS, encI, Pol.enc, Stt.enc, Ac.enc, Sl.atom, Sl.nil, Stt.zero, RK.ok], ?_⟩
  unfold t24
  have hs := hpre.2.2
  have hx := sim_of hs
  have f1 := told p n c hx
  simp only at f1 hs
  have f2 := same_adv p n hx
  obtain ⟨o1, o2, _⟩ := hpre
  refine call_fun ((p, s, n, c)) rfl (by simp only [vd1, vd2, vd3, vd4, vd5, vd6, vd7, reduceCtorEq, Option.some.injEq, vb_ite, vi_ite, new_, adv, doS, doN, List.getD_cons_zero, List.getD_cons_succ]) trivial ?_
  refine call_fun ((p, t, n, c)) rfl (by simp only [vd1, vd2, vd3, vd4, vd5, vd6, vd7, reduceCtorEq, Option.some.injEq, vb_ite, vi_ite, new_, adv, doS, doN, List.getD_cons_zero, List.getD_cons_succ]) trivial ?_
  refine call_fun ((p, s, n)) rfl (by simp only [vd1, vd2, vd3, vd4, vd5, vd6, vd7, reduceCtorEq, Option.some.injEq, vb_ite, vi_ite, new_, adv, doS, doN, List.getD_cons_zero, List.getD_cons_succ]) trivial ?_
  refine call_fun ((p, t, n)) rfl (by simp only [vd1, vd2, vd3, vd4, vd5, vd6, vd7, reduceCtorEq, Option.some.injEq, vb_ite, vi_ite, new_, adv, doS, doN, List.getD_cons_zero, List.getD_cons_succ]) trivial ?_
  refine call_fun ((s, t)) rfl (by simp only [vd1, vd2, vd3, vd4, vd5, vd6, vd7, reduceCtorEq, Option.some.injEq, vb_ite, vi_ite, new_, adv, doS, doN, List.getD_cons_zero, List.getD_cons_succ]) (by first | exact ⟨o1, o2⟩ | exact ⟨lgOk_nil (advG_n p s rfl), lgOk_nil (advG_r p t)⟩) ?_
  refine br_wp (fun c1 => ?_) (fun c1 => ?_)
  · refine call_fun (((adv p s n Sl.nil), (adv p t n t.g))) rfl (by simp only [vd1, vd2, vd3, vd4, vd5, vd6, vd7, reduceCtorEq, Option.some.injEq, vb_ite, vi_ite, new_, adv, doS, doN, List.getD_cons_zero, List.getD_cons_succ]) (by first | exact ⟨o1, o2⟩ | exact ⟨lgOk_nil (advG_n p s rfl), lgOk_nil (advG_r p t)⟩) ?_
    refine br_wp (fun c2 => ?_) (fun c2 => ?_)
    · refine call_fun ((p, s)) rfl (by simp only [vd1, vd2, vd3, vd4, vd5, vd6, vd7, reduceCtorEq, Option.some.injEq, vb_ite, vi_ite, new_, adv, doS, doN, List.getD_cons_zero, List.getD_cons_succ]) trivial ?_
      refine call_fun ((p, t)) rfl (by simp only [vd1, vd2, vd3, vd4, vd5, vd6, vd7, reduceCtorEq, Option.some.injEq, vb_ite, vi_ite, new_, adv, doS, doN, List.getD_cons_zero, List.getD_cons_succ]) trivial ?_
      refine br_wp (fun c3 => ?_) (fun c3 => ?_)
      · refine call_fun ((p, s, n)) rfl (by simp only [vd1, vd2, vd3, vd4, vd5, vd6, vd7, reduceCtorEq, Option.some.injEq, vb_ite, vi_ite, new_, adv, doS, doN, List.getD_cons_zero, List.getD_cons_succ]) trivial ?_
        refine call_fun ((p, t, n)) rfl (by simp only [vd1, vd2, vd3, vd4, vd5, vd6, vd7, reduceCtorEq, Option.some.injEq, vb_ite, vi_ite, new_, adv, doS, doN, List.getD_cons_zero, List.getD_cons_succ]) trivial ?_
        refine br_wp (fun c4 => ?_) (fun c4 => ?_)
        · refine call_fun ((p, s, n)) rfl (by simp only [vd1, vd2, vd3, vd4, vd5, vd6, vd7, reduceCtorEq, Option.some.injEq, vb_ite, vi_ite, new_, adv, doS, doN, List.getD_cons_zero, List.getD_cons_succ]) trivial ?_
          refine call_fun ((p, t, n)) rfl (by simp only [vd1, vd2, vd3, vd4, vd5, vd6, vd7, reduceCtorEq, Option.some.injEq, vb_ite, vi_ite, new_, adv, doS, doN, List.getD_cons_zero, List.getD_cons_succ]) trivial ?_
          refine br_wp (fun c5 => ?_) (fun c5 => ?_)
          · refine br_wp (fun c6 => ?_) (fun c6 => ?_)
            · refine ret_wp ?_
              first | rfl | (simp only [vd1, vd2, vd3, vd4, vd5, vd6, vd7, reduceCtorEq, Option.some.injEq, vb_ite, vi_ite, new_, adv, doS, doN, List.getD_cons_zero, List.getD_cons_succ, f1.2.2.2.2, beq_self_eq_true]; done) | (exfalso; simp only [vd1, vd2, vd3, vd4, vd5, vd6, vd7, reduceCtorEq, Option.some.injEq, vb_ite, vi_ite, new_, adv, doS, doN, List.getD_cons_zero, List.getD_cons_succ] at *; grind)
            · refine ret_wp ?_
              first | rfl | (simp only [vd1, vd2, vd3, vd4, vd5, vd6, vd7, reduceCtorEq, Option.some.injEq, vb_ite, vi_ite, new_, adv, doS, doN, List.getD_cons_zero, List.getD_cons_succ, f1.2.2.2.2, beq_self_eq_true]; done) | (exfalso; simp only [vd1, vd2, vd3, vd4, vd5, vd6, vd7, reduceCtorEq, Option.some.injEq, vb_ite, vi_ite, new_, adv, doS, doN, List.getD_cons_zero, List.getD_cons_succ] at *; grind)
          · refine ret_wp ?_
            first | rfl | (simp only [vd1, vd2, vd3, vd4, vd5, vd6, vd7, reduceCtorEq, Option.some.injEq, vb_ite, vi_ite, new_, adv, doS, doN, List.getD_cons_zero, List.getD_cons_succ, f1.2.2.2.2, beq_self_eq_true]; done) | (exfalso; simp only [vd1, vd2, vd3, vd4, vd5, vd6, vd7, reduceCtorEq, Option.some.injEq, vb_ite, vi_ite, new_, adv, doS, doN, List.getD_cons_zero, List.getD_cons_succ] at *; grind)
        · refine ret_wp ?_
          first | rfl | (simp only [vd1, vd2, vd3, vd4, vd5, vd6, vd7, reduceCtorEq, Option.some.injEq, vb_ite, vi_ite, new_, adv, doS, doN, List.getD_cons_zero, List.getD_cons_succ, f1.2.2.2.2, beq_self_eq_true]; done) | (exfalso; simp only [vd1, vd2, vd3, vd4, vd5, vd6, vd7, reduceCtorEq, Option.some.injEq, vb_ite, vi_ite, new_, adv, doS, doN, List.getD_cons_zero, List.getD_cons_succ] at *; grind)
      · refine ret_wp ?_
        first | rfl | (simp only [vd1, vd2, vd3, vd4, vd5, vd6, vd7, reduceCtorEq, Option.some.injEq, vb_ite, vi_ite, new_, adv, doS, doN, List.getD_cons_zero, List.getD_cons_succ, f1.2.2.2.2, beq_self_eq_true]; done) | (exfalso; simp only [vd1, vd2, vd3, vd4, vd5, vd6, vd7, reduceCtorEq, Option.some.injEq, vb_ite, vi_ite, new_, adv, doS, doN, List.getD_cons_zero, List.getD_cons_succ] at *; grind)
    · refine ret_wp ?_
      first | rfl | (simp only [vd1, vd2, vd3, vd4, vd5, vd6, vd7, reduceCtorEq, Option.some.injEq, vb_ite, vi_ite, new_, adv, doS, doN, List.getD_cons_zero, List.getD_cons_succ, f1.2.2.2.2, beq_self_eq_true]; done) | (exfalso; simp only [vd1, vd2, vd3, vd4, vd5, vd6, vd7, reduceCtorEq, Option.some.injEq, vb_ite, vi_ite, new_, adv, doS, doN, List.getD_cons_zero, List.getD_cons_succ] at *; grind)
  · refine ret_wp ?_
    first | rfl | (simp only [vd1, vd2, vd3, vd4, vd5, vd6, vd7, reduceCtorEq, Option.some.injEq, vb_ite, vi_ite, new_, adv, doS, doN, List.getD_cons_zero, List.getD_cons_succ, f1.2.2.2.2, beq_self_eq_true]; done) | (exfalso; simp only [vd1, vd2, vd3, vd4, vd5, vd6, vd7, reduceCtorEq, Option.some.injEq, vb_ite, vi_ite, new_, adv, doS, doN, List.getD_cons_zero, List.getD_cons_succ] at *; grind)
end Go.Proofs.YtfiggilfgjpodaaK
