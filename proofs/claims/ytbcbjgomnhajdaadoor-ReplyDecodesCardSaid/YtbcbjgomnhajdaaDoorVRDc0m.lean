/- Digits at the door: what a text is read as. -/
import Derived.Test.YtbcbjgomnhajdaaDoorVRDB1m
import Derived.Test.YtbcbjgomnhajdaaDoorVRDA2
import Derived.Test.YtbcbjgomnhajdaaDoorVRDp
set_option linter.unusedSimpArgs false
set_option linter.unusedVariables false
section
set_option linter.unusedSimpArgs false
set_option linter.unusedVariables false
namespace Go.Proofs.YtbcbjgomnhajdaaDoorK
open Go Go.Proofs.YtbcbjgomnhajdaaDoorV Go.Proofs Go.Proofs.YtbcbjgomnhajdaaDoorK Go.Proofs.YtbcbjgomnhajdaaDoorK
/-! ### The chapter's parse -/
def body (l : List UInt8) (i : Nat) : List UInt8 := if l.head? = some 45 then (l.take i).drop 1 else l.take i
theorem body_zero (l : List UInt8) : body l 0 = [] := by unfold body; split <;> simp
theorem body_one {l : List UInt8} (h : l[0]? = some 45) : body l 1 = [] := by
  unfold body; rw [if_pos (by rw [List.head?_eq_getElem?]; exact h)]; cases l <;> simp
theorem body_succ {l : List UInt8} {i : Nat} {c : UInt8} (h : l[i]? = some c) (h2 : ¬(i = 0 ∧ c = 45)) : body l (i + 1) = body l i ++ [c] := by
  have e : l.take (i + 1) = l.take i ++ [c] := by rw [List.take_add_one, h]; rfl
  have hi : i < l.length := by
    rcases Nat.lt_or_ge i l.length with h3 | h3
    · exact h3
    · rw [List.getElem?_eq_none h3] at h; cases h
  unfold body
  split
  · rename_i hd
    rw [e]
    rw [List.head?_eq_getElem?] at hd
    have hi0 : i ≠ 0 := fun h0 => by subst h0; rw [hd] at h; injection h with h; exact h2 ⟨rfl, h.symm⟩
    rw [List.drop_append_of_le_length (by rw [List.length_take]; omega)]
  · exact e
def sgn (l : List UInt8) : Int := if l.head? = some 45 then -(vl (body l l.length) : Int) else vl (body l l.length)
theorem sgn_val (l : List UInt8) : sgn l = val l := by
  unfold sgn body
  rw [List.take_of_length_le (Nat.le_refl _)]
  cases l with
  | nil => simp [val, vl, vl0]
  | cons c r =>
    simp only [List.head?_cons, Option.some.injEq, List.drop_succ_cons, List.drop_zero, val]
    split <;> rfl
theorem wrap_in64 (x : Int) : in64 (IntKind.i64.wrap x) := by unfold in64; rw [IntKind.wrap_i64]; omega
theorem wrap_step (a : Nat) {c : UInt8} (h : dig c) : IntKind.i64.wrap (IntKind.i64.wrap (IntKind.i64.wrap (10 * IntKind.i64.wrap (a : Int)) + IntKind.i64.wrap (c.toNat : Int)) - 48) = IntKind.i64.wrap ((10 * a + (c.toNat - 48) : Nat) : Int) := by
  unfold dig at h
  simp only [IntKind.wrap_i64]; omega
theorem wrap_neg (x : Int) : IntKind.i64.wrap (0 - IntKind.i64.wrap x) = IntKind.i64.wrap (-x) := by simp only [IntKind.wrap_i64]; omega
theorem wrap_in {x : Int} (h : in64 x) : IntKind.i64.wrap x = x := wrap_id _ h.1 h.2
def parR (s : ByteArray) (y : Int × Bool) : Prop := y.2 = decide (can s) ∧ (y.2 = true → y.1 = val (ls s))
theorem par_no {s : ByteArray} {n : Int} (h : ¬can s) : parR s (n, false) := ⟨(decide_eq_false h).symm, fun h => Bool.noConfusion h⟩
theorem par_yes {s : ByteArray} {n : Int} (hn : in64 n) (h : can s → n = val (ls s)) : parR s (n, decide (prt n = s)) := by
  refine ⟨decide_eq_decide.2 ⟨fun e => (can_of hn e).1, fun hc => ?_⟩, fun e => ?_⟩
  · rw [h hc]; exact can_prt hc
  · exact (can_of hn (of_decide_eq_true e)).2.symm
theorem can_dig {s : ByteArray} {i : Nat} {c : UInt8} (h : can s) (hc : (ls s)[i]? = some c) : dig c ∨ i = 0 ∧ c = 45 := by
  have := h.2
  rw [← this] at hc
  exact pr_dig hc
theorem no_zero {s : ByteArray} {c : UInt8} {r : List UInt8} (h : ls s = 48 :: c :: r) : ¬can s := by
  intro hc
  have e := hc.2
  rw [h] at e
  unfold pr at e
  split at e
  · injection e with e _; exact absurd e (by decide)
  · rename_i hn
    rcases Nat.eq_zero_or_pos (val (48 :: c :: r)).toNat with h0 | h0
    · rw [h0, dg_lt (by omega)] at e; simp at e
    · obtain ⟨c', r', e', h1, _⟩ := dg_head _ h0
      rw [e'] at e
      injection e with e _
      exact h1 e
theorem no_tail {s : ByteArray} {l : List UInt8} {c : UInt8} (h : ls s = l ++ [c]) (hl : l ≠ []) (hc : ¬dig c) : ¬can s := by
  intro hs
  have h1 : (ls s)[l.length]? = some c := by rw [h]; simp
  rcases can_dig hs h1 with h2 | ⟨h2, _⟩
  · exact hc h2
  · exact hl (List.length_eq_zero_iff.1 h2)
def rd (s : ByteArray) : Int := if can s then val (ls s) else 0
def upt (s : ByteArray) (a b : Int) : Prop := can s ∧ a ≤ val (ls s) ∧ val (ls s) ≤ b
instance (s : ByteArray) (a b : Int) : Decidable (upt s a b) := by unfold upt; exact inferInstance
theorem rd_yes {s : ByteArray} (h : can s) : rd s = val (ls s) := by unfold rd; rw [if_pos h]
theorem rd_no {s : ByteArray} (h : ¬can s) : rd s = 0 := by unfold rd; rw [if_neg h]
theorem rd_in (s : ByteArray) : in64 (rd s) := by
  unfold rd; split
  · rename_i h; exact h.1
  · unfold in64; omega
theorem upt_L (s : ByteArray) (a b : Int) : uptL (ls s) a b ↔ upt s a b := Iff.rfl
theorem rd_L {s : ByteArray} (h : can s) : rd s = val (ls s) := rd_yes h
theorem ls_em (s : ByteArray) : s = (⟨#[]⟩ : ByteArray) ↔ ls s = [] := ⟨fun h => by subst h; rfl, fun h => ls_inj (by rw [h]; rfl)⟩
theorem ls_45 (s : ByteArray) : s = (⟨#[45]⟩ : ByteArray) ↔ ls s = [45] := ⟨fun h => by subst h; rfl, fun h => ls_inj (by rw [h]; rfl)⟩
theorem can_ne {l : List UInt8} (h : canL l) : l ≠ [] ∧ l ≠ [45] := by
  refine ⟨fun e => ?_, fun e => ?_⟩
  · subst e; exact absurd h (by decide +kernel)
  · subst e; exact absurd h (by decide +kernel)
theorem beg_can {s : ByteArray} {a : Int} (h : can s) : begL (ls s) a ↔ rd s ≤ 1099511627776 ∧ (rd s ≥ 0 ∨ rd s ≥ a) := by
  have hn := can_ne (l := ls s) h
  rw [rd_yes h]
  refine ⟨fun hb => ?_, fun hb => .inr (.inr ⟨h, hb⟩)⟩
  rcases hb with h1 | ⟨h1, _⟩ | ⟨_, h2⟩
  · exact absurd h1 hn.1
  · exact absurd h1 hn.2
  · exact h2
theorem beg_nc {s : ByteArray} {a : Int} (h : ¬can s) (h1 : ¬s = (⟨#[]⟩ : ByteArray)) (h2 : ¬(s = (⟨#[45]⟩ : ByteArray) ∧ a < 0)) : ¬begL (ls s) a := fun hb => by
  rcases hb with h3 | ⟨h3, h4⟩ | ⟨h3, _⟩
  · exact h1 ((ls_em s).2 h3)
  · exact h2 ⟨(ls_45 s).2 h3, h4⟩
  · exact h h3
end Go.Proofs.YtbcbjgomnhajdaaDoorK
end

section
set_option linter.unusedSimpArgs false
set_option linter.unusedVariables false
set_option linter.unnecessarySimpa false
namespace Go.Proofs.YtbcbjgomnhajdaaDoorK
open Go Go.Proofs.YtbcbjgomnhajdaaDoorV Go.Proofs Go.Proofs.YtbcbjgomnhajdaaDoorK Go.Proofs.YtbcbjgomnhajdaaDoorK
def kParse (sg : Sig) : Sig × Con := (sg, mkFun (fun x : ByteArray × Gh => ([aS x.1, Rw.atom eF x.2.a, Rw.atom eF x.2.b] : List Atom)) (fun x => x.1.size ≤ 281474976710656 ∧ pG x.2) (fun x => [aI (rd x.1), aB (decide (can x.1))]))
set_option maxHeartbeats 1000000 in
theorem h60 : holds Tryd.prog (kParse sg60) := by
 refine fn_holdsH (inl := []) (l := [kAtoi sg67, kPrint sg42]) ⟨h67, h42, trivial⟩ trivial hP gh60 rs60 (inj_of (fun l : List Atom => ((vs (l.getD 0 atom0).1, (⟨Rw.un unF (l.getD 1 atom0), Rw.un unF (l.getD 2 atom0)⟩ : Gh)) : ByteArray × Gh)) (fun _ => by simp [List.getD_cons_zero, List.getD_cons_succ, unA_atom, unF_at])) Tryd.func60 (by kernel_rfl) (c := code Tryd.f60) (by kernel_rfl) (an := an60) (by kernel_rfl) (pk := pk60g) rfl (t := t60) (by kernel_rfl) ?_
 rintro ⟨s, q⟩ hnil hp
 refine ⟨by simp [pk60g, pk60, KindsOk, RK.ok, Rw.atom, Sl.atom], ?_⟩
 unfold t60
 refine call_rel ((s, q)) rfl (by first | (simp only [vd, reduceCtorEq, ve, updD]; done) | (simp only [vd, reduceCtorEq, ve, updD]; rfl)) hp ?_
 rintro ⟨n1, f1⟩ ⟨ei1, hf1⟩
 try dsimp only at ei1 hf1
 refine need_wp (by simp only [vd, reduceCtorEq, ve, updD]; rcases hf1 with ⟨h, _⟩ | ⟨⟨t, p, h⟩, _⟩; exact .inl (by rw [h]); exact .inr ⟨t, p, by rw [h]⟩) ?_
 refine br_wp (fun c1 => ?_) (fun c1 => ?_)
 ·replace c1 : isNilI f1.1 = true := by first | simpa only [vd, reduceCtorEq, ve, updD] using c1 | (simp only [vd, reduceCtorEq, ve, updD] at c1; grind)
  have ha : Lib.atoiAll (ls s) = .ok n1 := by rcases hf1 with ⟨_, h⟩ | ⟨⟨t, p, h⟩, _⟩; exact h; rw [h] at c1; exact absurd c1 (by simp [isNilI])
  have hc := fun h : can s => Lib.NumEnd.ok.inj ((atoi_can h).symm.trans ha)
  refine call_fun (n1) rfl (by first | (simp only [vd, reduceCtorEq, ve, updD]; done) | (simp only [vd, reduceCtorEq, ve, updD]; rfl)) ei1 ?_
  refine br_wp (fun c2 => ?_) (fun c2 => ?_)
  ·replace c2 : (prt n1) = s := by first | simpa only [vd, reduceCtorEq, ve, updD] using c2 | (simp only [vd, reduceCtorEq, ve, updD] at c2; grind)
   refine ret_wp ?_
   try dsimp only
   simp only [vd, reduceCtorEq, ve, updD]; have h := can_of ei1 c2; rw [rd_yes h.1, h.2, decide_eq_true h.1]; exact ⟨rfl, rfl⟩
  ·replace c2 : ¬((prt n1) = s) := by first | simpa only [vd, reduceCtorEq, ve, updD] using c2 | (simp only [vd, reduceCtorEq, ve, updD] at c2; grind)
   refine ret_wp ?_
   try dsimp only
   simp only [vd, reduceCtorEq, ve, updD]; have h : ¬can s := (fun h => c2 (by rw [← hc h]; exact can_prt h)); rw [rd_no h, decide_eq_false h]; exact ⟨rfl, rfl⟩
 ·replace c1 : ¬(isNilI f1.1 = true) := by first | simpa only [vd, reduceCtorEq, ve, updD] using c1 | (simp only [vd, reduceCtorEq, ve, updD] at c1; grind)
  have hc : ¬can s := fun h => by rcases hf1 with ⟨h2, _⟩ | ⟨_, h2⟩; rw [h2] at c1; exact c1 rfl; exact h2 _ (atoi_can h)
  refine ret_wp ?_
  try dsimp only
  simp only [vd, reduceCtorEq, ve, updD]; rw [rd_no hc, decide_eq_false hc]; exact ⟨rfl, rfl⟩
def kUpto (sg : Sig) : Sig × Con := (sg, mkFun (fun x : ByteArray × Int × Int × Gh => ([aS x.1, aI x.2.1, aI x.2.2.1, Rw.atom eF x.2.2.2.a, Rw.atom eF x.2.2.2.b] : List Atom)) (fun x => x.1.size ≤ 281474976710656 ∧ pG x.2.2.2) (fun x => [aI (if upt x.1 x.2.1 x.2.2.1 then val (ls x.1) else 0), aB (decide (upt x.1 x.2.1 x.2.2.1))]))
set_option maxHeartbeats 1000000 in
theorem h49 : holds Tryd.prog (kUpto sg49) := by
 refine fn_holdsH (inl := []) (l := [kParse sg60]) ⟨h60, trivial⟩ trivial hP gh49 rs49 (inj_of (fun l : List Atom => ((vs (l.getD 0 atom0).1, vi (l.getD 1 atom0).1, vi (l.getD 2 atom0).1, (⟨Rw.un unF (l.getD 3 atom0), Rw.un unF (l.getD 4 atom0)⟩ : Gh)) : ByteArray × Int × Int × Gh)) (fun _ => by simp [List.getD_cons_zero, List.getD_cons_succ, unA_atom, unF_at])) Tryd.func49 (by kernel_rfl) (c := code Tryd.f49) (by kernel_rfl) (an := an49) (by kernel_rfl) (pk := pk49g) rfl (t := t49) (by kernel_rfl) ?_
 rintro ⟨s, a, b, q⟩ hnil hp
 refine ⟨by simp [pk49g, pk49, KindsOk, RK.ok, Rw.atom, Sl.atom], ?_⟩
 unfold t49
 refine call_fun ((s, q)) rfl (by first | (simp only [vd, reduceCtorEq, ve, updD]; done) | (simp only [vd, reduceCtorEq, ve, updD]; rfl)) hp ?_
 refine br_wp (fun c1 => ?_) (fun c1 => ?_)
 ·replace c1 : can s := by first | simpa only [vd, reduceCtorEq, ve, updD] using c1 | (simp only [vd, reduceCtorEq, ve, updD] at c1; grind)
  have hc := c1
  have hv := rd_yes hc
  refine br_wp (fun c2 => ?_) (fun c2 => ?_)
  ·replace c2 : (rd s) < a := by first | simpa only [vd, reduceCtorEq, ve, updD] using c2 | (simp only [vd, reduceCtorEq, ve, updD] at c2; grind)
   refine ret_wp ?_
   try dsimp only
   simp only [vd, reduceCtorEq, ve, updD]; rw [if_neg (fun h => by have := h.2; omega), decide_eq_false (fun h => by have := h.2; omega)]; exact ⟨rfl, rfl⟩
  ·replace c2 : ¬((rd s) < a) := by first | simpa only [vd, reduceCtorEq, ve, updD] using c2 | (simp only [vd, reduceCtorEq, ve, updD] at c2; grind)
   refine br_wp (fun c3 => ?_) (fun c3 => ?_)
   ·replace c3 : (rd s) > b := by first | simpa only [vd, reduceCtorEq, ve, updD] using c3 | (simp only [vd, reduceCtorEq, ve, updD] at c3; grind)
    refine ret_wp ?_
    try dsimp only
    simp only [vd, reduceCtorEq, ve, updD]; rw [if_neg (fun h => by have := h.2; omega), decide_eq_false (fun h => by have := h.2; omega)]; exact ⟨rfl, rfl⟩
   ·replace c3 : ¬((rd s) > b) := by first | simpa only [vd, reduceCtorEq, ve, updD] using c3 | (simp only [vd, reduceCtorEq, ve, updD] at c3; grind)
    refine ret_wp ?_
    try dsimp only
    simp only [vd, reduceCtorEq, ve, updD]; have h : upt s a b := ⟨hc, by omega, by omega⟩; rw [if_pos h, decide_eq_true h, hv]; exact ⟨rfl, rfl⟩
 ·replace c1 : ¬(can s) := by first | simpa only [vd, reduceCtorEq, ve, updD] using c1 | (simp only [vd, reduceCtorEq, ve, updD] at c1; grind)
  have hc : ¬can s := c1
  refine ret_wp ?_
  try dsimp only
  simp only [vd, reduceCtorEq, ve, updD]; rw [if_neg (fun h => hc h.1), decide_eq_false (fun h => hc h.1)]; exact ⟨rfl, rfl⟩
end Go.Proofs.YtbcbjgomnhajdaaDoorK
end

section
set_option linter.unusedSimpArgs false
set_option linter.unusedVariables false
set_option linter.unnecessarySimpa false
namespace Go.Proofs.YtbcbjgomnhajdaaDoorK
open Go Go.Proofs.YtbcbjgomnhajdaaDoorV Go.Proofs Go.Proofs.YtbcbjgomnhajdaaDoorK Go.Proofs.YtbcbjgomnhajdaaDoorK
def kBegins (sg : Sig) : Sig × Con := (sg, mkFun (fun x : ByteArray × Int × Gh => ([aS x.1, aI x.2.1, Rw.atom eF x.2.2.a, Rw.atom eF x.2.2.b] : List Atom)) (fun x => x.1.size ≤ 281474976710656 ∧ pG x.2.2) (fun x => [aB (decide (begL (ls x.1) x.2.1))]))
set_option maxHeartbeats 1000000 in
theorem h50 : holds Tryd.prog (kBegins sg50) := by
 refine fn_holdsH (inl := []) (l := [kParse sg60]) ⟨h60, trivial⟩ trivial hP gh50 rs50 (inj_of (fun l : List Atom => ((vs (l.getD 0 atom0).1, vi (l.getD 1 atom0).1, (⟨Rw.un unF (l.getD 2 atom0), Rw.un unF (l.getD 3 atom0)⟩ : Gh)) : ByteArray × Int × Gh)) (fun _ => by simp [List.getD_cons_zero, List.getD_cons_succ, unA_atom, unF_at])) Tryd.func50 (by kernel_rfl) (c := code Tryd.f50) (by kernel_rfl) (an := an50) (by kernel_rfl) (pk := pk50g) rfl (t := t50) (by kernel_rfl) ?_
 rintro ⟨s, a, q⟩ hnil hp
 refine ⟨by simp [pk50g, pk50, KindsOk, RK.ok, Rw.atom, Sl.atom], ?_⟩
 unfold t50
 refine br_wp (fun c1 => ?_) (fun c1 => ?_)
 ·replace c1 : s = (⟨#[]⟩ : ByteArray) := by first | simpa only [vd, reduceCtorEq, ve, updD] using c1 | (simp only [vd, reduceCtorEq, ve, updD] at c1; grind)
  refine ret_wp ?_
  try dsimp only
  simp only [vd, reduceCtorEq, ve, updD]; exact (decide_eq_true (.inl ((ls_em s).1 c1))).symm
 ·replace c1 : ¬(s = (⟨#[]⟩ : ByteArray)) := by first | simpa only [vd, reduceCtorEq, ve, updD] using c1 | (simp only [vd, reduceCtorEq, ve, updD] at c1; grind)
  refine br_wp (fun c2 => ?_) (fun c2 => ?_)
  ·replace c2 : s = (⟨#[45]⟩ : ByteArray) := by first | simpa only [vd, reduceCtorEq, ve, updD] using c2 | (simp only [vd, reduceCtorEq, ve, updD] at c2; grind)
   refine br_wp (fun c3 => ?_) (fun c3 => ?_)
   ·replace c3 : a < 0 := by first | simpa only [vd, reduceCtorEq, ve, updD] using c3 | (simp only [vd, reduceCtorEq, ve, updD] at c3; grind)
    refine ret_wp ?_
    try dsimp only
    simp only [vd, reduceCtorEq, ve, updD]; exact (decide_eq_true (.inr (.inl ⟨(ls_45 s).1 c2, c3⟩))).symm
   ·replace c3 : ¬(a < 0) := by first | simpa only [vd, reduceCtorEq, ve, updD] using c3 | (simp only [vd, reduceCtorEq, ve, updD] at c3; grind)
    refine call_fun ((s, q)) rfl (by first | (simp only [vd, reduceCtorEq, ve, updD]; done) | (simp only [vd, reduceCtorEq, ve, updD]; rfl)) hp ?_
    refine br_wp (fun c4 => ?_) (fun c4 => ?_)
    ·replace c4 : can s := by first | simpa only [vd, reduceCtorEq, ve, updD] using c4 | (simp only [vd, reduceCtorEq, ve, updD] at c4; grind)
     refine br_wp (fun c5 => ?_) (fun c5 => ?_)
     ·replace c5 : (rd s) ≤ 1099511627776 := by first | simpa only [vd, reduceCtorEq, ve, updD] using c5 | (simp only [vd, reduceCtorEq, ve, updD] at c5; grind)
      refine br_wp (fun c6 => ?_) (fun c6 => ?_)
      ·replace c6 : (rd s) ≥ 0 := by first | simpa only [vd, reduceCtorEq, ve, updD] using c6 | (simp only [vd, reduceCtorEq, ve, updD] at c6; grind)
       refine ret_wp ?_
       try dsimp only
       simp only [vd, reduceCtorEq, ve, updD]; exact (decide_eq_true ((beg_can c4).2 ⟨c5, .inl c6⟩)).symm
      ·replace c6 : ¬((rd s) ≥ 0) := by first | simpa only [vd, reduceCtorEq, ve, updD] using c6 | (simp only [vd, reduceCtorEq, ve, updD] at c6; grind)
       refine ret_wp ?_
       try dsimp only
       simp only [vd, reduceCtorEq, ve, updD]; exact decide_eq_decide.2 (⟨fun h => (beg_can c4).2 ⟨c5, .inr h⟩, fun h => ((beg_can c4).1 h).2.resolve_left c6⟩)
     ·replace c5 : ¬((rd s) ≤ 1099511627776) := by first | simpa only [vd, reduceCtorEq, ve, updD] using c5 | (simp only [vd, reduceCtorEq, ve, updD] at c5; grind)
      refine ret_wp ?_
      try dsimp only
      simp only [vd, reduceCtorEq, ve, updD]; exact (decide_eq_false (fun h => c5 ((beg_can c4).1 h).1)).symm
    ·replace c4 : ¬(can s) := by first | simpa only [vd, reduceCtorEq, ve, updD] using c4 | (simp only [vd, reduceCtorEq, ve, updD] at c4; grind)
     refine ret_wp ?_
     try dsimp only
     simp only [vd, reduceCtorEq, ve, updD]; exact (decide_eq_false (beg_nc c4 c1 (fun h => c3 h.2))).symm
  ·replace c2 : ¬(s = (⟨#[45]⟩ : ByteArray)) := by first | simpa only [vd, reduceCtorEq, ve, updD] using c2 | (simp only [vd, reduceCtorEq, ve, updD] at c2; grind)
   refine call_fun ((s, q)) rfl (by first | (simp only [vd, reduceCtorEq, ve, updD]; done) | (simp only [vd, reduceCtorEq, ve, updD]; rfl)) hp ?_
   refine br_wp (fun c7 => ?_) (fun c7 => ?_)
   ·replace c7 : can s := by first | simpa only [vd, reduceCtorEq, ve, updD] using c7 | (simp only [vd, reduceCtorEq, ve, updD] at c7; grind)
    refine br_wp (fun c8 => ?_) (fun c8 => ?_)
    ·replace c8 : (rd s) ≤ 1099511627776 := by first | simpa only [vd, reduceCtorEq, ve, updD] using c8 | (simp only [vd, reduceCtorEq, ve, updD] at c8; grind)
     refine br_wp (fun c9 => ?_) (fun c9 => ?_)
     ·replace c9 : (rd s) ≥ 0 := by first | simpa only [vd, reduceCtorEq, ve, updD] using c9 | (simp only [vd, reduceCtorEq, ve, updD] at c9; grind)
      refine ret_wp ?_
      try dsimp only
      simp only [vd, reduceCtorEq, ve, updD]; exact (decide_eq_true ((beg_can c7).2 ⟨c8, .inl c9⟩)).symm
     ·replace c9 : ¬((rd s) ≥ 0) := by first | simpa only [vd, reduceCtorEq, ve, updD] using c9 | (simp only [vd, reduceCtorEq, ve, updD] at c9; grind)
      refine ret_wp ?_
      try dsimp only
      simp only [vd, reduceCtorEq, ve, updD]; exact decide_eq_decide.2 (⟨fun h => (beg_can c7).2 ⟨c8, .inr h⟩, fun h => ((beg_can c7).1 h).2.resolve_left c9⟩)
    ·replace c8 : ¬((rd s) ≤ 1099511627776) := by first | simpa only [vd, reduceCtorEq, ve, updD] using c8 | (simp only [vd, reduceCtorEq, ve, updD] at c8; grind)
     refine ret_wp ?_
     try dsimp only
     simp only [vd, reduceCtorEq, ve, updD]; exact (decide_eq_false (fun h => c8 ((beg_can c7).1 h).1)).symm
   ·replace c7 : ¬(can s) := by first | simpa only [vd, reduceCtorEq, ve, updD] using c7 | (simp only [vd, reduceCtorEq, ve, updD] at c7; grind)
    refine ret_wp ?_
    try dsimp only
    simp only [vd, reduceCtorEq, ve, updD]; exact (decide_eq_false (beg_nc c7 c1 (fun h => c2 h.1))).symm
def kNumeric (sg : Sig) : Sig × Con := (sg, mkFun (fun x : ByteArray × Gh => ([aS x.1, Rw.atom eF x.2.a, Rw.atom eF x.2.b] : List Atom)) (fun x => x.1.size ≤ 281474976710656 ∧ pG x.2) (fun x => [aB (decide (nmrL (ls x.1)))]))
set_option maxHeartbeats 1000000 in
theorem h51 : holds Tryd.prog (kNumeric sg51) := by
 refine fn_holdsH (inl := []) (l := [kParse sg60]) ⟨h60, trivial⟩ trivial hP gh51 rs51 (inj_of (fun l : List Atom => ((vs (l.getD 0 atom0).1, (⟨Rw.un unF (l.getD 1 atom0), Rw.un unF (l.getD 2 atom0)⟩ : Gh)) : ByteArray × Gh)) (fun _ => by simp [List.getD_cons_zero, List.getD_cons_succ, unA_atom, unF_at])) Tryd.func51 (by kernel_rfl) (c := code Tryd.f51) (by kernel_rfl) (an := an51) (by kernel_rfl) (pk := pk51g) rfl (t := t51) (by kernel_rfl) ?_
 rintro ⟨s, q⟩ hnil hp
 refine ⟨by simp [pk51g, pk51, KindsOk, RK.ok, Rw.atom, Sl.atom], ?_⟩
 unfold t51
 refine call_fun ((s, q)) rfl (by first | (simp only [vd, reduceCtorEq, ve, updD]; done) | (simp only [vd, reduceCtorEq, ve, updD]; rfl)) hp ?_
 refine br_wp (fun c1 => ?_) (fun c1 => ?_)
 ·replace c1 : can s := by first | simpa only [vd, reduceCtorEq, ve, updD] using c1 | (simp only [vd, reduceCtorEq, ve, updD] at c1; grind)
  refine ret_wp ?_
  try dsimp only
  simp only [vd, reduceCtorEq, ve, updD]; exact (decide_eq_true (.inl c1)).symm
 ·replace c1 : ¬(can s) := by first | simpa only [vd, reduceCtorEq, ve, updD] using c1 | (simp only [vd, reduceCtorEq, ve, updD] at c1; grind)
  refine br_wp (fun c2 => ?_) (fun c2 => ?_)
  ·replace c2 : s = (⟨#[]⟩ : ByteArray) := by first | simpa only [vd, reduceCtorEq, ve, updD] using c2 | (simp only [vd, reduceCtorEq, ve, updD] at c2; grind)
   refine ret_wp ?_
   try dsimp only
   simp only [vd, reduceCtorEq, ve, updD]; exact (decide_eq_true (.inr (.inl ((ls_em s).1 c2)))).symm
  ·replace c2 : ¬(s = (⟨#[]⟩ : ByteArray)) := by first | simpa only [vd, reduceCtorEq, ve, updD] using c2 | (simp only [vd, reduceCtorEq, ve, updD] at c2; grind)
   refine ret_wp ?_
   try dsimp only
   simp only [vd, reduceCtorEq, ve, updD]; exact decide_eq_decide.2 ⟨fun h => .inr (.inr ((ls_45 s).1 h)), fun h => (ls_45 s).2 ((h.resolve_left c1).resolve_left (fun h => c2 ((ls_em s).2 h)))⟩
end Go.Proofs.YtbcbjgomnhajdaaDoorK
end
