/- The log of a window: what it tells, what acts make of it: on lists. Along a log: what the loops know. What the contracts' leaves use. What the contracts' leaves use, second part: acts, waits. -/
import Derived.Test.YtnpbhlojkjbabaaVC
set_option linter.unusedSimpArgs false
set_option linter.unusedVariables false
namespace Go.Proofs.YtnpbhlojkjbabaaK
open Go Go.Proofs.YtnpbhlojkjbabaaV
def tot (l : List (Int × Int)) : Int := (l.map (·.2)).sum
structure Wst where
  t : Int
  v : Int
  h : Int
  l : List (Int × Int)
def w (s : Est) : Wst := ⟨s.t, s.v, s.h, s.g.l⟩
def okW (p : Pol) : Prop := p.k = 3 ∧ 1 ≤ p.l ∧ p.l ≤ 1048576 ∧ 1 ≤ p.p ∧ p.p ≤ 1099511627776 ∧ 1 ≤ p.c ∧ p.c ≤ 100 ∧ p.b = 0
instance (p : Pol) : Decidable (okW p) := by unfold okW; exact inferInstance
def chkW (p : Pol) : Int := if okW p then 0 else 2
def clamp (n : Int) : Int := max 0 (min n 9007199254740992)
def elOk (p : Pol) (t : Int) (e : Int × Int) : Prop := 0 ≤ e.1 ∧ e.1 ≤ t ∧ 1 ≤ e.2 ∧ e.2 ≤ p.l
instance (p : Pol) (t : Int) (e : Int × Int) : Decidable (elOk p t e) := by unfold elOk; exact inferInstance
def sorted (l : List (Int × Int)) : Prop := l.Pairwise fun a b => a.1 ≤ b.1
instance (l : List (Int × Int)) : Decidable (sorted l) := by unfold sorted; exact inferInstance
def logOk (p : Pol) (s : Wst) : Prop := (∀ e ∈ s.l, elOk p s.t e) ∧ sorted s.l ∧ (s.l.length : Int) ≤ p.c ∧ s.h + tot s.l ≤ p.l
instance (p : Pol) (s : Wst) : Decidable (logOk p s) := by unfold logOk; exact inferInstance
def rightW (p : Pol) (s : Wst) : Prop := okW p ∧ 0 ≤ s.t ∧ s.t ≤ 9007199254740992 ∧ 0 ≤ s.h ∧ s.h ≤ p.l ∧ s.v = 0 ∧ logOk p s
instance (p : Pol) (s : Wst) : Decidable (rightW p s) := by unfold rightW; exact inferInstance
def zeroW : Wst := ⟨0, 0, 0, []⟩
def newW (p : Pol) (n : Int) : Wst := if okW p then ⟨clamp n, 0, 0, []⟩ else zeroW
def ltr (s : Wst) (n : Int) : Int := max s.t (clamp n)
/-- What lives at a time. -/
def live (p : Pol) (t : Int) (l : List (Int × Int)) : List (Int × Int) := l.filter fun e => decide (t - e.1 < p.p)
def advW (p : Pol) (s : Wst) (n : Int) : Wst := if rightW p s then ⟨ltr s n, 0, s.h, live p (ltr s n) s.l⟩ else zeroW
def roomW (p : Pol) (s : Wst) (n : Int) : Int := if rightW p s then p.l - s.h - tot (live p (ltr s n) s.l) else 0
/-- Some cost, now. -/
def note (p : Pol) (t : Int) (l : List (Int × Int)) (c : Int) : List (Int × Int) :=
  match l.getLast? with
  | some e => if e.1 = t ∨ (l.length : Int) = p.c then l.dropLast ++ [(t, e.2 + c)] else l ++ [(t, c)]
  | none => [(t, c)]
def didW (p : Pol) (s : Wst) (a : Ac) : Prop := rightW p s ∧ 1 ≤ a.c ∧ ((a.k = 1 ∨ a.k = 2) ∧ a.c ≤ roomW p s a.t ∨ (a.k = 3 ∨ a.k = 4) ∧ a.c ≤ s.h)
instance (p : Pol) (s : Wst) (a : Ac) : Decidable (didW p s a) := by unfold didW; exact inferInstance
def doH (s : Wst) (a : Ac) : Int := if a.k = 1 then s.h else if a.k = 2 then s.h + a.c else s.h - a.c
def doL (p : Pol) (s : Wst) (a : Ac) : List (Int × Int) := if a.k = 1 ∨ a.k = 4 then note p (ltr s a.t) (live p (ltr s a.t) s.l) a.c else live p (ltr s a.t) s.l
def doW (p : Pol) (s : Wst) (a : Ac) : Wst := if didW p s a then ⟨ltr s a.t, 0, doH s a, doL p s a⟩ else if rightW p s then s else zeroW
def untilW (p : Pol) (s : Wst) (n : Int) : Int := if rightW p s ∧ s.h ≤ 0 then (match (live p (ltr s n) s.l).getLast? with
  | some e => e.1 + p.p - ltr s n
  | none => 0) else -1
def mayC (p : Pol) (s : Wst) (c : Int) : Prop := rightW p s ∧ 1 ≤ c ∧ c ≤ p.l - s.h
instance (p : Pol) (s : Wst) (c : Int) : Decidable (mayC p s c) := by unfold mayC; exact inferInstance
/-- When so much of a list is gone. -/
def gone (p : Pol) (t : Int) : Int → List (Int × Int) → Int
  | _, [] => 0
  | o, e :: l => if o ≤ 0 then 0 else if o - e.2 ≤ 0 then e.1 + p.p - t else gone p t (o - e.2) l
def retryW (p : Pol) (s : Wst) (n c : Int) : Int := if mayC p s c then gone p (ltr s n) (s.h + tot (live p (ltr s n) s.l) + c - p.l) (live p (ltr s n) s.l) else 0
/-! ### Sums -/
theorem tot_nil : tot [] = 0 := rfl
theorem tot_cons (e : Int × Int) (l : List (Int × Int)) : tot (e :: l) = e.2 + tot l := by simp [tot]
theorem tot_app (l m : List (Int × Int)) : tot (l ++ m) = tot l + tot m := by simp [tot]
theorem tot_one (l : List (Int × Int)) (e : Int × Int) : tot (l ++ [e]) = tot l + e.2 := by simp [tot]
theorem tot_sub {w l : List (Int × Int)} (h : w.Sublist l) (hn : ∀ e ∈ l, 0 ≤ e.2) : tot w ≤ tot l := by
  induction h with
  | slnil => exact Int.le_refl _
  | cons a _ ih =>
    have := ih fun e he => hn e (List.mem_cons_of_mem _ he)
    have := hn a List.mem_cons_self
    simp only [tot, List.map_cons, List.sum_cons] at *; omega
  | cons_cons a _ ih =>
    have := ih fun e he => hn e (List.mem_cons_of_mem _ he)
    simp only [tot, List.map_cons, List.sum_cons] at *; omega
theorem tot_nn {l : List (Int × Int)} (hn : ∀ e ∈ l, 0 ≤ e.2) : 0 ≤ tot l := tot_sub (List.nil_sublist l) hn
theorem tot_take {l : List (Int × Int)} {k : Nat} (hk : k < l.length) : tot (l.take (k + 1)) = tot (l.take k) + (l[k]).2 := by
  rw [List.take_succ_eq_append_getElem hk, tot_one]
/-! ### What lives -/
theorem live_sub (p : Pol) (t : Int) (l : List (Int × Int)) : (live p t l).Sublist l := List.filter_sublist
theorem live_drop {p : Pol} {t : Int} : ∀ {l : List (Int × Int)} {k : Nat}, sorted l → (∀ i (h : i < l.length), i < k → ¬ t - (l[i]).1 < p.p) → (∀ (h : k < l.length), t - (l[k]).1 < p.p) → k ≤ l.length → live p t l = l.drop k
  | [], k, _, _, _, hk => by simp at hk; subst hk; rfl
  | e :: l, 0, hs, _, h2, _ => by
    have h0 := h2 (by simp)
    simp only [List.getElem_cons_zero] at h0
    simp only [live, List.drop_zero, List.filter_eq_self, decide_eq_true_eq]
    intro x hx
    rcases List.mem_cons.1 hx with rfl | hx
    · exact h0
    · have := (List.pairwise_cons.1 hs).1 x hx; omega
  | e :: l, k + 1, hs, h1, h2, hk => by
    have h0 := h1 0 (by simp) (by omega)
    simp only [List.getElem_cons_zero] at h0
    have ih := live_drop (p := p) (t := t) (l := l) (k := k) (List.pairwise_cons.1 hs).2 (fun i h hi => h1 (i + 1) (Nat.succ_lt_succ h) (by omega)) (fun h => h2 (Nat.succ_lt_succ h)) (by simpa using hk)
    simp only [live, List.filter_cons, h0, decide_false, Bool.false_eq_true, if_false, List.drop_succ_cons] at ih ⊢
    exact ih
theorem live_length (p : Pol) (t : Int) (l : List (Int × Int)) : (live p t l).length ≤ l.length := (live_sub p t l).length_le
theorem clamp_bd (n : Int) : 0 ≤ clamp n ∧ clamp n ≤ 9007199254740992 := by unfold clamp; omega
theorem clamp_id {n : Int} (h : 0 ≤ n) (h2 : n ≤ 9007199254740992) : clamp n = n := by unfold clamp; omega
theorem right_ltr {p : Pol} {s : Wst} (n : Int) (h : rightW p s) : s.t ≤ ltr s n ∧ 0 ≤ ltr s n ∧ ltr s n ≤ 9007199254740992 := by
  have := clamp_bd n; have := h.2.1; have := h.2.2.1; unfold ltr; omega
theorem live_ok {p : Pol} {s : Wst} (n : Int) (h : rightW p s) : (∀ e ∈ live p (ltr s n) s.l, elOk p (ltr s n) e ∧ ltr s n - e.1 < p.p) ∧ sorted (live p (ltr s n) s.l) ∧ ((live p (ltr s n) s.l).length : Int) ≤ p.c ∧ 0 ≤ tot (live p (ltr s n) s.l) ∧ s.h + tot (live p (ltr s n) s.l) ≤ p.l := by
  obtain ⟨h1, h2, h3, h4, h5, h6, h7, h8, h9, h10⟩ := h
  have hl := right_ltr n ⟨h1, h2, h3, h4, h5, h6, h7, h8, h9, h10⟩
  have hnn : ∀ e ∈ s.l, 0 ≤ e.2 := fun e he => by have := h7 e he; unfold elOk at this; omega
  refine ⟨fun e he => ?_, h8.sublist (live_sub _ _ _), by have := live_length p (ltr s n) s.l; omega, ?_, ?_⟩
  · obtain ⟨he, hd⟩ := List.mem_filter.1 he
    have := h7 e he
    unfold elOk at this ⊢
    simp only [decide_eq_true_eq] at hd
    omega
  · exact tot_nn fun e he => hnn e ((live_sub _ _ _).subset he)
  · have := tot_sub (live_sub p (ltr s n) s.l) hnn; omega
theorem note_last {p : Pol} {t c : Int} {l : List (Int × Int)} (hl : l ≠ []) : note p t l c = if (l.getLast hl).1 = t ∨ (l.length : Int) = p.c then l.dropLast ++ [(t, (l.getLast hl).2 + c)] else l ++ [(t, c)] := by
  unfold note
  rw [List.getLast?_eq_some_getLast hl]
theorem note_tot (p : Pol) (t c : Int) (l : List (Int × Int)) : tot (note p t l c) = tot l + c := by
  by_cases hl : l = []
  · subst hl; simp [note, tot]
  · rw [note_last hl]
    have h1 : tot l = tot l.dropLast + (l.getLast hl).2 := by
      conv => lhs; rw [← List.dropLast_concat_getLast hl]
      rw [tot_one]
    split
    · rw [tot_one]; simp only; omega
    · rw [tot_one]
theorem note_ok {p : Pol} {t c : Int} {l : List (Int × Int)} (hp : okW p) (h0 : 0 ≤ t) (h1 : ∀ e ∈ l, elOk p t e) (h2 : sorted l) (h3 : (l.length : Int) ≤ p.c) (hc : 1 ≤ c) (ht : tot l + c ≤ p.l) :
    (∀ e ∈ note p t l c, elOk p t e) ∧ sorted (note p t l c) ∧ ((note p t l c).length : Int) ≤ p.c := by
  have hnn : ∀ e ∈ l, 0 ≤ e.2 := fun e he => by have := h1 e he; unfold elOk at this; omega
  have hn := tot_nn hnn
  unfold okW at hp
  by_cases hl : l = []
  · subst hl
    simp only [note, List.getLast?_nil, List.mem_singleton, forall_eq, List.length_singleton]
    refine ⟨?_, by simp [sorted], by omega⟩
    unfold elOk; simp only [tot_nil] at ht; omega
  · rw [note_last hl]
    have hmem := List.getLast_mem hl
    have hle := tot_sub (List.singleton_sublist.2 hmem) hnn
    simp only [tot_cons, tot_nil] at hle
    have hlast := h1 _ hmem
    unfold elOk at hlast
    split
    · refine ⟨fun e he => ?_, ?_, by rw [List.length_append, List.length_dropLast, List.length_singleton]; have := List.length_pos_iff.2 hl; omega⟩
      · rcases List.mem_append.1 he with he | he
        · exact h1 e (List.mem_of_mem_take (List.dropLast_eq_take ▸ he))
        · simp only [List.mem_singleton] at he
          subst he
          unfold elOk
          simp only
          omega
      · rw [sorted, List.pairwise_append]
        refine ⟨h2.sublist (List.dropLast_sublist l), by simp, fun a ha b hb => ?_⟩
        simp only [List.mem_singleton] at hb
        subst hb
        have := h1 a (List.mem_of_mem_take (List.dropLast_eq_take ▸ ha))
        unfold elOk at this
        simp only; omega
    · rename_i hno
      refine ⟨fun e he => ?_, ?_, by rw [List.length_append, List.length_singleton]; omega⟩
      · rcases List.mem_append.1 he with he | he
        · exact h1 e he
        · simp only [List.mem_singleton] at he
          subst he
          unfold elOk
          simp only
          omega
      · rw [sorted, List.pairwise_append]
        refine ⟨h2, by simp, fun a ha b hb => ?_⟩
        simp only [List.mem_singleton] at hb
        subst hb
        have := h1 a ha
        unfold elOk at this
        simp only; omega
theorem right_new {p : Pol} (n : Int) (h : okW p) : rightW p (newW p n) := by
  unfold newW; rw [if_pos h]
  have := clamp_bd n
  have h' := h
  unfold okW at h'
  refine ⟨h, this.1, this.2, Int.le_refl _, ?_, rfl, ?_⟩
  · simp only; omega
  · refine ⟨by simp, List.Pairwise.nil, ?_, ?_⟩ <;> simp [tot] <;> omega
theorem right_adv {p : Pol} {s : Wst} (n : Int) (h : rightW p s) : rightW p (advW p s n) := by
  unfold advW; rw [if_pos h]
  have hl := right_ltr n h
  obtain ⟨q1, q2, q3, q4, q5⟩ := live_ok n h
  exact ⟨h.1, hl.2.1, hl.2.2, h.2.2.2.1, h.2.2.2.2.1, rfl, fun e he => (q1 e he).1, q2, q3, q5⟩
theorem right_do {p : Pol} {s : Wst} (a : Ac) (h : rightW p s) : rightW p (doW p s a) := by
  unfold doW
  split
  · rename_i hd
    have hl := right_ltr a.t h
    obtain ⟨q1, q2, q3, q4, q5⟩ := live_ok a.t h
    have h1 := h.2.2.2.1
    have hd' := hd
    unfold didW roomW at hd'
    rw [if_pos h] at hd'
    obtain ⟨_, hc, hd'⟩ := hd'
    have hH : 0 ≤ doH s a ∧ doH s a + (if a.k = 1 ∨ a.k = 4 then a.c else 0) + tot (live p (ltr s a.t) s.l) ≤ p.l ∧ doH s a ≤ p.l := by
      unfold doH
      split
      · rename_i hk
        rw [if_pos (.inl hk)]; omega
      · split
        · rename_i hk1 hk2
          rw [if_neg (by omega)]; omega
        · rename_i hk1 hk2
          split <;> omega
    refine ⟨h.1, hl.2.1, hl.2.2, hH.1, hH.2.2, rfl, ?_⟩
    unfold doL
    by_cases hk : a.k = 1 ∨ a.k = 4
    · have hn := note_ok (c := a.c) h.1 hl.2.1 (fun e he => (q1 e he).1) q2 q3 hc (by rw [if_pos hk] at hH; omega)
      unfold logOk
      simp only [if_pos hk]
      refine ⟨hn.1, hn.2.1, hn.2.2, ?_⟩
      rw [note_tot]
      rw [if_pos hk] at hH
      omega
    · unfold logOk
      simp only [if_neg hk]
      rw [if_neg hk] at hH
      exact ⟨fun e he => (q1 e he).1, q2, q3, by omega⟩
  · first | exact h | (rw [if_pos h]; exact h)
end Go.Proofs.YtnpbhlojkjbabaaK

namespace Go.Proofs.YtnpbhlojkjbabaaK
open Go Go.Proofs.YtnpbhlojkjbabaaV
theorem nil_l {α : Type} {e : α → List Atom} {r : Rw α} (h : NilOk (r.atom e)) (ha : r.a = none) : r.l = [] := by
  have := h r.l.length r.c r.z (r.l.map e) (by rw [← ha]; rfl)
  simpa using this
theorem chk_yes {p : Pol} (h : okW p) : chkW p = 0 := by unfold chkW; rw [if_pos h]
theorem chk_no {p : Pol} (h : ¬okW p) : chkW p = 2 := by unfold chkW; rw [if_neg h]
theorem chk_iff (p : Pol) : chkW p = 0 ↔ okW p := by unfold chkW; split <;> simp_all
def gok (s : Est) : Prop := s.g.ok 2 ∧ (s.g.l.length : Int) ≤ 9223372036854775807
def kok (r : Rw (Int × Int)) : Prop := r.ok 2 ∧ (r.l.length : Int) ≤ 9223372036854775807
theorem hget {r : Rw (Int × Int)} {i : Int} (h0 : 0 ≤ i) (h : i < r.l.length) : ∃ hl : i.toNat < r.l.length, r.get i = r.l[i.toNat] := get_lt h0 h
/-- What is known of the first ones. -/
def along (p : Pol) (t : Int) (l : List (Int × Int)) (i : Nat) (was : Int) : Prop :=
  (∀ e ∈ l.take i, elOk p t e ∧ e.1 ≤ was) ∧ sorted (l.take i) ∧ 0 ≤ was ∧ (was = 0 ∨ ∃ e ∈ l.take i, e.1 = was)
theorem along0 (p : Pol) (t : Int) (l : List (Int × Int)) : along p t l 0 0 := ⟨by simp, by simp [sorted], Int.le_refl _, .inl rfl⟩
theorem along_step {p : Pol} {t : Int} {l : List (Int × Int)} {i : Nat} {was : Int} (h : along p t l i was) (hi : i < l.length) (he : elOk p t l[i]) (hw : was ≤ (l[i]).1) : along p t l (i + 1) (l[i]).1 := by
  obtain ⟨h1, h2, h3, h4⟩ := h
  unfold along
  rw [List.take_succ_eq_append_getElem hi]
  refine ⟨fun e hm => ?_, ?_, by have := he; unfold elOk at this; omega, .inr ⟨l[i], List.mem_append_right _ List.mem_cons_self, rfl⟩⟩
  · rcases List.mem_append.1 hm with hm | hm
    · have := h1 e hm; exact ⟨this.1, by omega⟩
    · simp only [List.mem_singleton] at hm; subst hm; exact ⟨he, Int.le_refl _⟩
  · rw [sorted, List.pairwise_append]
    refine ⟨h2, by simp, fun a ha b hb => ?_⟩
    simp only [List.mem_singleton] at hb
    subst hb
    have := (h1 a ha).2; omega
theorem along_bad {p : Pol} {t : Int} {l : List (Int × Int)} {i : Nat} {was : Int} (h : along p t l i was) (hi : i < l.length) (hw : (l[i]).1 < was ∨ ¬elOk p t l[i]) : ¬((∀ e ∈ l, elOk p t e) ∧ sorted l) := by
  rintro ⟨g1, g2⟩
  obtain ⟨h1, h2, h3, h4⟩ := h
  have he := g1 _ (List.getElem_mem hi)
  rcases hw with hw | hw
  · rcases h4 with rfl | ⟨e, hm, rfl⟩
    · unfold elOk at he; omega
    · obtain ⟨j, hj, rfl⟩ := List.getElem_of_mem hm
      simp only [List.length_take] at hj
      simp only [List.getElem_take] at hw
      rw [sorted, List.pairwise_iff_getElem] at g2
      have := g2 j i (by omega) hi (by omega)
      omega
  · exact hw he
theorem along_end {p : Pol} {t : Int} {l : List (Int × Int)} {i : Nat} {was : Int} (h : along p t l i was) (hi : l.length ≤ i) : (∀ e ∈ l, elOk p t e) ∧ sorted l := by
  obtain ⟨h1, h2, _⟩ := h
  rw [List.take_of_length_le hi] at h1 h2
  exact ⟨fun e he => (h1 e he).1, h2⟩
theorem tot_bd {p : Pol} {t : Int} {l : List (Int × Int)} (h : ∀ e ∈ l, elOk p t e) (hp : p.l ≤ 1048576) : 0 ≤ tot l ∧ tot l ≤ l.length * 1048576 := by
  induction l with
  | nil => simp [tot]
  | cons e l ih =>
    have ih := ih fun x hx => h x (List.mem_cons_of_mem _ hx)
    have := h e List.mem_cons_self
    unfold elOk at this
    rw [tot_cons, List.length_cons]
    omega
theorem wrap_add (a b : Int) : IntKind.i64.wrap (IntKind.i64.wrap a + b) = IntKind.i64.wrap (a + b) := by
  rw [IntKind.wrap_i64, IntKind.wrap_i64, IntKind.wrap_i64]; omega
def usedW (p : Pol) (l : List (Int × Int)) (t : Int) : Int := tot (l.filter fun e => decide (e.1 > t - p.p))
theorem used_take {p : Pol} {l : List (Int × Int)} {t : Int} {i : Nat} (hi : i < l.length) : usedW p (l.take (i + 1)) t = usedW p (l.take i) t + (if (l[i]).1 > t - p.p then (l[i]).2 else 0) := by
  unfold usedW
  rw [List.take_succ_eq_append_getElem hi, List.filter_append, tot_app]
  by_cases h : (l[i]).1 > t - p.p <;> simp [h, tot]
theorem used_live (p : Pol) (l : List (Int × Int)) (t : Int) : usedW p l t = tot (live p t l) := by
  unfold usedW live
  congr 1
  apply List.filter_congr
  intro e _
  simp only [decide_eq_decide]; omega
theorem used_bd {p : Pol} {t0 t : Int} {l : List (Int × Int)} (h : ∀ e ∈ l, elOk p t0 e) (hp : p.l ≤ 1048576) : 0 ≤ usedW p l t ∧ usedW p l t ≤ l.length * 1048576 := by
  have h1 := tot_bd h hp
  have hnn : ∀ e ∈ l, 0 ≤ e.2 := fun e he => by have := h e he; unfold elOk at this; omega
  have h2 : (l.filter fun e => decide (e.1 > t - p.p)).Sublist l := List.filter_sublist
  exact ⟨tot_nn fun e he => hnn e (h2.subset he), Int.le_trans (tot_sub h2 hnn) h1.2⟩
theorem live_take {p : Pol} {l : List (Int × Int)} {t : Int} {i : Nat} (hi : i < l.length) : live p t (l.take (i + 1)) = live p t (l.take i) ++ (if t - (l[i]).1 < p.p then [l[i]] else []) := by
  unfold live
  rw [List.take_succ_eq_append_getElem hi, List.filter_append]
  by_cases h : t - (l[i]).1 < p.p <;> simp [h]
end Go.Proofs.YtnpbhlojkjbabaaK

namespace Go.Proofs.YtnpbhlojkjbabaaK
open Go Go.Proofs.YtnpbhlojkjbabaaV
theorem log_no {p : Pol} {s : Est} (h : ¬((∀ e ∈ s.g.l, elOk p s.t e) ∧ sorted s.g.l)) : [aB false] = [aB (decide (logOk p (w s)))] := by
  have : ¬logOk p (w s) := fun k => h ⟨k.1, k.2.1⟩
  rw [decide_eq_false this]
theorem log_len {p : Pol} {s : Est} (h : ¬(s.g.l.length : Int) ≤ p.c) : [aB false] = [aB (decide (logOk p (w s)))] := by
  have : ¬logOk p (w s) := fun k => h k.2.2.1
  rw [decide_eq_false this]
theorem log_yes {p : Pol} {s : Est} (hp : okW p) (h0 : 0 ≤ s.h) (h1 : s.h ≤ p.l) (hl : (∀ e ∈ s.g.l, elOk p s.t e) ∧ sorted s.g.l) (hc : (s.g.l.length : Int) ≤ p.c) :
    [aB (decide (IntKind.i64.wrap (s.h + IntKind.i64.wrap (tot s.g.l)) ≤ p.l))] = [aB (decide (logOk p (w s)))] := by
  have hp' := hp
  unfold okW at hp'
  have := tot_bd hl.1 hp'.2.2.1
  rw [wrap_id (tot s.g.l) (by omega) (by omega), wrap_id (s.h + tot s.g.l) (by omega) (by omega)]
  have : logOk p (w s) ↔ s.h + tot s.g.l ≤ p.l := ⟨fun h => h.2.2.2, fun h => ⟨hl.1, hl.2, hc, h⟩⟩
  simp only [this]
theorem right_no {p : Pol} {s : Est} (h : ¬rightW p (w s)) : [aB false] = [aB (decide (rightW p (w s)))] := by rw [decide_eq_false h]
theorem right_yes {p : Pol} {s : Est} (h : rightW p (w s)) : [aB true] = [aB (decide (rightW p (w s)))] := by rw [decide_eq_true h]
theorem right_iff {p : Pol} {s : Est} {b : Prop} [Decidable b] (h : rightW p (w s) ↔ b) : [aB (decide b)] = [aB (decide (rightW p (w s)))] := by simp only [h]
theorem right_log {p : Pol} {s : Est} (hp : okW p) (ht : clamp s.t = s.t) (h0 : 0 ≤ s.h) (h1 : s.h ≤ p.l) (hv : s.v = 0) : [aB (decide (logOk p (w s)))] = [aB (decide (rightW p (w s)))] := by
  have hc := clamp_bd s.t
  exact right_iff ⟨fun h => h.2.2.2.2.2.2, fun h => ⟨hp, by simp only [w]; omega, by simp only [w]; omega, h0, h1, hv, h⟩⟩
theorem mk_right {p : Pol} {s : Est} (hp : okW p) (ht : 0 ≤ s.t) (ht2 : s.t ≤ 9007199254740992) (h0 : 0 ≤ s.h) (h1 : s.h ≤ p.l) (hv : s.v = 0) (hl : (∀ e ∈ s.g.l, elOk p s.t e) ∧ sorted s.g.l) (hc : (s.g.l.length : Int) ≤ p.c) : rightW p (w s) ↔ s.h + tot s.g.l ≤ p.l :=
  ⟨fun h => h.2.2.2.2.2.2.2.2.2, fun h => ⟨hp, ht, ht2, h0, h1, hv, hl.1, hl.2, hc, h⟩⟩
/-- What a right state's numbers are. -/
theorem right_nums {p : Pol} {s : Est} (h : rightW p (w s)) : okW p ∧ 0 ≤ s.t ∧ s.t ≤ 9007199254740992 ∧ 0 ≤ s.h ∧ s.h ≤ p.l ∧ s.v = 0 ∧ (s.g.l.length : Int) ≤ p.c := ⟨h.1, h.2.1, h.2.2.1, h.2.2.2.1, h.2.2.2.2.1, h.2.2.2.2.2.1, h.2.2.2.2.2.2.2.2.1⟩
theorem ok_nums {p : Pol} (h : okW p) : p.k = 3 ∧ 1 ≤ p.l ∧ p.l ≤ 1048576 ∧ 1 ≤ p.p ∧ p.p ≤ 1099511627776 ∧ 1 ≤ p.c ∧ p.c ≤ 100 ∧ p.b = 0 := h
theorem right_el {p : Pol} {s : Est} (h : rightW p (w s)) : ∀ e ∈ s.g.l, elOk p s.t e := h.2.2.2.2.2.2.1
theorem right_sorted {p : Pol} {s : Est} (h : rightW p (w s)) : sorted s.g.l := h.2.2.2.2.2.2.2.1
theorem adv_no {p : Pol} {s : Wst} {n : Int} (h : ¬rightW p s) : zeroW = advW p s n := by unfold advW; rw [if_neg h]
theorem adv_yes {p : Pol} {s : Wst} {n : Int} (h : rightW p s) : advW p s n = ⟨ltr s n, 0, s.h, live p (ltr s n) s.l⟩ := by unfold advW; rw [if_pos h]
theorem w_nums {s : Est} {x : Wst} (h : w s = x) : s.t = x.t ∧ s.v = x.v ∧ s.h = x.h ∧ s.g.l = x.l := by subst h; exact ⟨rfl, rfl, rfl, rfl⟩
theorem room_no {p : Pol} {s : Wst} {n : Int} (h : ¬rightW p s) : roomW p s n = 0 := by unfold roomW; rw [if_neg h]
theorem room_yes {p : Pol} {s : Wst} {n : Int} (h : rightW p s) : roomW p s n = p.l - s.h - tot (live p (ltr s n) s.l) := by unfold roomW; rw [if_pos h]
theorem set_last {α : Type} {l : List α} (hl : l ≠ []) (x : α) : l.set (l.length - 1) x = l.dropLast ++ [x] := by
  obtain ⟨m, a, rfl⟩ : ∃ m a, l = m ++ [a] := ⟨_, _, (List.dropLast_concat_getLast hl).symm⟩
  simp
theorem note_new {p : Pol} {t c : Int} {l : List (Int × Int)} (h : ¬(l.length : Int) > 0) : l ++ [(t, c)] = note p t l c := by
  have : l = [] := List.eq_nil_of_length_eq_zero (by omega)
  subst this; rfl
theorem note_add {p : Pol} {t c : Int} {r : Rw (Int × Int)} (h : (r.l.length : Int) > 0) (h1 : ¬(r.get (r.l.length - 1)).1 = t) (h2 : ¬(r.l.length : Int) = p.c) : r.l ++ [(t, c)] = note p t r.l c := by
  have hl : r.l ≠ [] := fun e => by rw [e] at h; simp at h
  obtain ⟨hn, hg⟩ := hget (r := r) (i := r.l.length - 1) (by omega) (by omega)
  have he : r.l.getLast hl = r.l[((r.l.length : Int) - 1).toNat] := by
    rw [List.getLast_eq_getElem]; congr 1; omega
  rw [note_last hl, he, ← hg, if_neg (by omega)]
theorem note_set {p : Pol} {t c d : Int} {r : Rw (Int × Int)} (h : (r.l.length : Int) > 0) (h1 : (r.get (r.l.length - 1)).1 = t ∨ (r.l.length : Int) = p.c) (hd : d = (r.get (r.l.length - 1)).2 + c) : r.l.set ((r.l.length : Int) - 1).toNat (t, d) = note p t r.l c := by
  have hl : r.l ≠ [] := fun e => by rw [e] at h; simp at h
  obtain ⟨hn, hg⟩ := hget (r := r) (i := r.l.length - 1) (by omega) (by omega)
  have he : r.l.getLast hl = r.l[((r.l.length : Int) - 1).toNat] := by
    rw [List.getLast_eq_getElem]; congr 1; omega
  rw [note_last hl, he, ← hg, if_pos h1, hd]
  have e2 : ((r.l.length : Int) - 1).toNat = r.l.length - 1 := by omega
  rw [e2, set_last hl]
theorem live_all {p : Pol} {t : Int} {l : List (Int × Int)} {i : Nat} (hs : sorted l) (h : ∀ j (h : j < l.length), j < i → ¬t - (l[j]).1 < p.p) (h2 : ∀ (h : i < l.length), t - (l[i]).1 < p.p) (hi : i ≤ l.length) : (l.take l.length).drop i = live p t l := by
  rw [List.take_length, live_drop hs h h2 hi]
theorem gok_mk {t v h : Int} {g : Rw (Int × Int)} (h1 : g.ok 2) (h2 : (g.l.length : Int) ≤ 9223372036854775807) : gok ⟨t, v, h, g⟩ := ⟨h1, h2⟩
end Go.Proofs.YtnpbhlojkjbabaaK

namespace Go.Proofs.YtnpbhlojkjbabaaK
open Go Go.Proofs.YtnpbhlojkjbabaaV
theorem did_iff {p : Pol} {s : Wst} {a : Ac} (h : rightW p s) : didW p s a ↔ 1 ≤ a.c ∧ ((a.k = 1 ∨ a.k = 2) ∧ a.c ≤ p.l - s.h - tot (live p (ltr s a.t) s.l) ∨ (a.k = 3 ∨ a.k = 4) ∧ a.c ≤ s.h) := by
  unfold didW; rw [room_yes h]; exact ⟨fun h => h.2, fun k => ⟨h, k⟩⟩
theorem did_not {p : Pol} {s : Wst} {a : Ac} (h : ¬rightW p s) : ¬didW p s a := fun k => h k.1
theorem ret_no {p : Pol} {s : Est} {a : Ac} {z : Rw (Int × Int)} (hr : rightW p (w s)) (hn : ¬didW p (w s) a) (hz : z.l = s.g.l) (gz : z.ok 2) (gs : gok s) :
    w ⟨s.t, s.v, s.h, z⟩ = doW p (w s) a ∧ false = decide (didW p (w s) a) ∧ gok ⟨s.t, s.v, s.h, z⟩ := by
  refine ⟨?_, by rw [decide_eq_false hn], gz, by simp only; rw [hz]; exact gs.2⟩
  unfold doW
  rw [if_neg hn, if_pos hr]
  simp only [w, hz]
theorem ret_zero {p : Pol} {s : Est} {a : Ac} (hr : ¬rightW p (w s)) : w ⟨0, 0, 0, Rw.nil⟩ = doW p (w s) a ∧ false = decide (didW p (w s) a) ∧ gok ⟨0, 0, 0, Rw.nil⟩ := by
  refine ⟨?_, by rw [decide_eq_false (did_not hr)], .inl rfl, by simp [Rw.nil]⟩
  unfold doW
  rw [if_neg (did_not hr), if_neg hr]; rfl
theorem ret_yes {p : Pol} {s : Est} {a : Ac} {t v h : Int} {g : Rw (Int × Int)} (hd : didW p (w s) a) (ht : t = ltr (w s) a.t) (hv : v = 0) (hh : h = doH (w s) a) (hg : g.l = doL p (w s) a) (gg : g.ok 2) (gl : (g.l.length : Int) ≤ 9223372036854775807) :
    w ⟨t, v, h, g⟩ = doW p (w s) a ∧ true = decide (didW p (w s) a) ∧ gok ⟨t, v, h, g⟩ := by
  refine ⟨?_, by rw [decide_eq_true hd], gg, gl⟩
  unfold doW
  rw [if_pos hd]
  simp only [w] at hg ⊢
  rw [ht, hv, hh, hg]; rfl
theorem doH1 {s : Wst} {a : Ac} (h : a.k = 1) : doH s a = s.h := by unfold doH; rw [if_pos h]
theorem doH2 {s : Wst} {a : Ac} (h : a.k = 2) : doH s a = s.h + a.c := by unfold doH; rw [if_neg (by omega), if_pos h]
theorem doH3 {s : Wst} {a : Ac} (h : a.k = 3 ∨ a.k = 4) : doH s a = s.h - a.c := by unfold doH; rw [if_neg (by omega), if_neg (by omega)]
theorem doLn {p : Pol} {s : Wst} {a : Ac} (h : a.k = 1 ∨ a.k = 4) : doL p s a = note p (ltr s a.t) (live p (ltr s a.t) s.l) a.c := by unfold doL; rw [if_pos h]
theorem doLm {p : Pol} {s : Wst} {a : Ac} (h : a.k = 2 ∨ a.k = 3) : doL p s a = live p (ltr s a.t) s.l := by unfold doL; rw [if_neg (by omega)]
theorem note_len (p : Pol) (t c : Int) (l : List (Int × Int)) : (note p t l c).length ≤ l.length + 1 := by
  by_cases hl : l = []
  · subst hl; simp [note]
  · rw [note_last hl]; split
    · simp
    · simp
theorem note_two {p : Pol} {t c : Int} {g x1 x2 x3 : Rw (Int × Int)} (e1 : x1.l = g.l) (h : (g.l.length : Int) > 0) (e2 : x2.l = x1.l.set ((g.l.length : Int) - 1).toNat (t, (x1.get (g.l.length - 1)).2))
    (e3 : x3.l = x2.l.set ((g.l.length : Int) - 1).toNat ((x2.get (g.l.length - 1)).1, IntKind.i64.wrap ((x2.get (g.l.length - 1)).2 + c))) (hc : (g.get (g.l.length - 1)).1 = t ∨ (g.l.length : Int) = p.c)
    (hb : 0 ≤ (g.get (g.l.length - 1)).2 + c ∧ (g.get (g.l.length - 1)).2 + c ≤ 9007199254740992) : x3.l = note p t g.l c := by
  have gx : x1.get (g.l.length - 1) = g.get (g.l.length - 1) := by simp only [Rw.get, e1]
  obtain ⟨hl2, hg2⟩ := hget (r := x2) (i := g.l.length - 1) (by omega) (by rw [e2, e1, List.length_set]; omega)
  have gz : x2.get (g.l.length - 1) = (t, (g.get (g.l.length - 1)).2) := by rw [hg2]; simp only [e2, List.getElem_set_self, gx]
  rw [e3, gz, e2, List.set_set, e1]
  simp only
  rw [wrap_id _ (by omega) (by omega)]
  exact note_set h hc rfl
theorem note_fin {p : Pol} {t h c : Int} {g x : Rw (Int × Int)} (e : x.l = note p t g.l c) (hx : x.ok 2) (hn : (g.l.length : Int) ≤ 9223372036854775) : w ⟨t, 0, h, x⟩ = ⟨t, 0, h, note p t g.l c⟩ ∧ gok ⟨t, 0, h, x⟩ := by
  have := note_len p t c g.l
  exact ⟨by simp only [w, e], hx, by simp only [e]; omega⟩
/-! ### Until -/
theorem until_no {p : Pol} {s : Wst} {n : Int} (h : ¬(rightW p s ∧ s.h ≤ 0)) : untilW p s n = -1 := by unfold untilW; rw [if_neg h]
theorem until_some {p : Pol} {s : Wst} {n : Int} {r : Rw (Int × Int)} (h : rightW p s ∧ s.h ≤ 0) (e : r.l = live p (ltr s n) s.l) (hl : 0 < (r.l.length : Int)) : untilW p s n = (r.get (r.l.length - 1)).1 + p.p - ltr s n := by
  have hl : r.l ≠ [] := fun e => by rw [e] at hl; simp at hl
  obtain ⟨hn, hg⟩ := hget (r := r) (i := r.l.length - 1) (by omega) (by omega)
  unfold untilW
  rw [if_pos h, ← e, List.getLast?_eq_some_getLast hl, hg, List.getLast_eq_getElem]
  have : ((r.l.length : Int) - 1).toNat = r.l.length - 1 := by omega
  simp only [this]
theorem until_none {p : Pol} {s : Wst} {n : Int} {r : Rw (Int × Int)} (h : rightW p s ∧ s.h ≤ 0) (e : r.l = live p (ltr s n) s.l) (hl : ¬0 < (r.l.length : Int)) : untilW p s n = 0 := by
  have hl : r.l = [] := List.eq_nil_of_length_eq_zero (by omega)
  unfold untilW
  rw [if_pos h, ← e, hl]; rfl
/-! ### Retry -/
theorem retry_no {p : Pol} {s : Wst} {n c : Int} (h : ¬mayC p s c) : retryW p s n c = 0 := by unfold retryW; rw [if_neg h]
theorem retry_yes {p : Pol} {s : Wst} {n c : Int} (h : mayC p s c) : retryW p s n c = gone p (ltr s n) (s.h + tot (live p (ltr s n) s.l) + c - p.l) (live p (ltr s n) s.l) := by unfold retryW; rw [if_pos h]
theorem gone_le {p : Pol} {t o : Int} {l : List (Int × Int)} (h : o ≤ 0) : gone p t o l = 0 := by cases l with
  | nil => rfl
  | cons e l => simp [gone, h]
theorem gone_hit {p : Pol} {t o : Int} {l : List (Int × Int)} {i : Nat} (hi : i < l.length) (h : ¬o ≤ 0) (h2 : o - (l[i]).2 ≤ 0) : gone p t o (l.drop i) = (l[i]).1 + p.p - t := by
  rw [List.drop_eq_getElem_cons hi, gone, if_neg h, if_pos h2]
theorem gone_miss {p : Pol} {t o : Int} {l : List (Int × Int)} {i : Nat} (hi : i < l.length) (h : ¬o ≤ 0) (h2 : ¬o - (l[i]).2 ≤ 0) : gone p t o (l.drop i) = gone p t (o - (l[i]).2) (l.drop (i + 1)) := by
  rw [List.drop_eq_getElem_cons hi, gone, if_neg h, if_neg h2]
theorem gone_end {p : Pol} {t o : Int} {l : List (Int × Int)} {i : Nat} (hi : l.length ≤ i) : gone p t o (l.drop i) = 0 := by
  rw [List.drop_eq_nil_of_le hi]; rfl
/-- Those no later than a time. -/
def upto (l : List (Int × Int)) (x : Int) : Int := tot (l.filter fun e => decide (e.1 ≤ x))
theorem upto_cons (e : Int × Int) (l : List (Int × Int)) (x : Int) : upto (e :: l) x = (if e.1 ≤ x then e.2 else 0) + upto l x := by
  unfold upto
  by_cases h : e.1 ≤ x <;> simp [h, tot]
theorem upto_nn {l : List (Int × Int)} (h : ∀ e ∈ l, 1 ≤ e.2) (x : Int) : 0 ≤ upto l x :=
  tot_nn fun e he => by have := h e (List.filter_sublist.subset he); omega
theorem upto_none {l : List (Int × Int)} {x : Int} (h : ∀ e ∈ l, ¬e.1 ≤ x) : upto l x = 0 := by
  unfold upto
  rw [List.filter_eq_nil_iff.2 (fun e he => by simpa using h e he)]; rfl
theorem upto_all {l : List (Int × Int)} {x : Int} (h : ∀ e ∈ l, e.1 ≤ x) : upto l x = tot l := by
  unfold upto
  rw [List.filter_eq_self.2 (fun e he => by simpa using h e he)]
theorem used_upto (p : Pol) (l : List (Int × Int)) (x : Int) : usedW p l (x + p.p) = tot l - upto l x := by
  unfold usedW upto
  induction l with
  | nil => rfl
  | cons e l ih =>
    by_cases h : e.1 ≤ x
    · have h2 : ¬e.1 > x + p.p - p.p := by omega
      simp only [List.filter_cons, h, h2, decide_true, decide_false, if_true, Bool.false_eq_true, if_false, tot_cons] at ih ⊢; omega
    · have h2 : e.1 > x + p.p - p.p := by omega
      simp only [List.filter_cons, h, h2, decide_true, decide_false, if_true, Bool.false_eq_true, if_false, tot_cons] at ih ⊢; omega
theorem gone_first {p : Pol} {t : Int} : ∀ {l : List (Int × Int)} {o : Int} {j : Nat}, 0 < o → sorted l → (∀ e ∈ l, 1 ≤ e.2) → (hj : j < l.length) → o ≤ upto l (l[j]).1 → (∀ k (hk : k < j), ¬o ≤ upto l (l[k]).1) → gone p t o l = (l[j]).1 + p.p - t
  | [], _, j, _, _, _, hj, _, _ => by simp at hj
  | e :: l, o, j, ho, hs, hn, hj, hc, hf => by
    obtain ⟨s1, s2⟩ := List.pairwise_cons.1 hs
    have hn' : ∀ x ∈ l, 1 ≤ x.2 := fun x hx => hn x (List.mem_cons_of_mem _ hx)
    have he := hn e List.mem_cons_self
    rw [gone, if_neg (by omega)]
    split
    · rename_i h
      have h0 : o ≤ upto (e :: l) e.1 := by
        rw [upto_cons, if_pos (Int.le_refl _)]; have := upto_nn hn' e.1; omega
      cases j with
      | zero => rfl
      | succ j => exact absurd h0 (hf 0 (by omega))
    · rename_i h
      cases j with
      | zero =>
        simp only [List.getElem_cons_zero] at hc ⊢
        rw [upto_cons, if_pos (Int.le_refl _)] at hc
        cases l with
        | nil => simp [upto, tot] at hc; omega
        | cons f l =>
          have hf1 : f.1 ≤ e.1 := by
            refine Classical.byContradiction fun hno => ?_
            have : upto (f :: l) e.1 = 0 := upto_none fun x hx => by
              rcases List.mem_cons.1 hx with rfl | hx
              · exact hno
              · have := (List.pairwise_cons.1 s2).1 x hx; omega
            omega
          have hf2 := s1 f List.mem_cons_self
          have hfe : f.1 = e.1 := by omega
          have := gone_first (p := p) (t := t) (l := f :: l) (o := o - e.2) (j := 0) (by omega) s2 hn' (by simp) (by simp only [List.getElem_cons_zero]; rw [hfe]; omega) (fun k hk => by omega)
          rw [this]; simp only [List.getElem_cons_zero, hfe]
      | succ j =>
        simp only [List.getElem_cons_succ] at hc ⊢
        have hj' : j < l.length := by simpa using hj
        rw [upto_cons, if_pos (s1 _ (List.getElem_mem hj'))] at hc
        refine gone_first (by omega) s2 hn' hj' (by omega) fun k hk => ?_
        have := hf (k + 1) (by omega)
        simp only [List.getElem_cons_succ] at this
        rw [upto_cons, if_pos (s1 _ (List.getElem_mem (by omega)))] at this
        omega
/-- What the reference has found so far. -/
def found (p : Pol) (t o : Int) (l : List (Int × Int)) (i : Nat) (b : Int) : Prop :=
  (b = -1 ∧ ∀ j (h : j < l.length), j < i → ¬o ≤ upto l (l[j]).1) ∨ ∃ j, ∃ h : j < l.length, j < i ∧ o ≤ upto l (l[j]).1 ∧ (∀ k (hk : k < j), ¬o ≤ upto l (l[k]).1) ∧ b = (l[j]).1 + p.p - t
theorem found_end {p : Pol} {t o : Int} {l : List (Int × Int)} {b : Int} (ho : 0 < o) (hs : sorted l) (hn : ∀ e ∈ l, 1 ≤ e.2) (hT : o ≤ tot l) (h : found p t o l l.length b) : b = gone p t o l := by
  rcases h with ⟨_, h⟩ | ⟨j, hj, _, h1, h2, rfl⟩
  · exfalso
    have hl : 0 < l.length := by cases l with
      | nil => simp [tot] at hT; omega
      | cons _ _ => simp
    refine h (l.length - 1) (by omega) (by omega) ?_
    rw [upto_all]
    · exact hT
    · intro e he
      obtain ⟨k, hk, rfl⟩ := List.getElem_of_mem he
      rcases Nat.lt_or_ge k (l.length - 1) with hlt | hge
      · exact (List.pairwise_iff_getElem.1 hs) k (l.length - 1) hk (by omega) hlt
      · have : k = l.length - 1 := by omega
        subst this; exact Int.le_refl _
  · exact (gone_first ho hs hn hj h1 h2).symm
theorem found_no {p : Pol} {t o : Int} {l : List (Int × Int)} {i : Nat} {b : Int} (h : found p t o l i b) (hi : i < l.length) (hc : ¬o ≤ upto l (l[i]).1) : found p t o l (i + 1) b := by
  rcases h with ⟨h1, h2⟩ | ⟨j, hj, h1, h2⟩
  · refine .inl ⟨h1, fun j hj hji => ?_⟩
    by_cases e : j = i
    · subst e; exact hc
    · exact h2 j hj (by omega)
  · exact .inr ⟨j, hj, by omega, h2⟩
theorem found_yes {p : Pol} {t o : Int} {l : List (Int × Int)} {i : Nat} {b : Int} (h : found p t o l i b) (hb : b < 0) (hl : ∀ e ∈ l, t - e.1 < p.p) (hi : i < l.length) (hc : o ≤ upto l (l[i]).1) : found p t o l (i + 1) ((l[i]).1 + p.p - t) := by
  rcases h with ⟨h1, h2⟩ | ⟨j, hj, h1, h2, h3, h4⟩
  · exact .inr ⟨i, hi, by omega, hc, fun k hk => h2 k (by omega) hk, rfl⟩
  · have := hl _ (List.getElem_mem hj); omega
theorem found_same {p : Pol} {t o : Int} {l : List (Int × Int)} {i : Nat} {b : Int} (h : found p t o l i b) (hb : ¬b < 0) : found p t o l (i + 1) b := by
  rcases h with ⟨h1, h2⟩ | ⟨j, hj, h1, h2⟩
  · omega
  · exact .inr ⟨j, hj, by omega, h2⟩
theorem found_dead {p : Pol} {t o : Int} {l : List (Int × Int)} {i : Nat} {b : Int} (h : found p t o l i b) (hb : ¬b < 0) (hs : sorted l) (hi : i < l.length) : ¬(l[i]).1 + p.p - t < b := by
  rcases h with ⟨h1, h2⟩ | ⟨j, hj, h1, _, _, rfl⟩
  · omega
  · have := (List.pairwise_iff_getElem.1 hs) j i hj hi h1; omega
end Go.Proofs.YtnpbhlojkjbabaaK
