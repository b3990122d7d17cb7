/- What is taken in a time: lists of times and costs. -/
import Derived.Test.YtfiggilfgjpodaaVK11
import Derived.Test.YtfiggilfgjpodaaVC
set_option linter.unusedSimpArgs false
set_option linter.unusedVariables false
namespace Go.Proofs.YtfiggilfgjpodaaK
open Go Go.Proofs.YtfiggilfgjpodaaV
def wq (P q : Int) (l : List (Int × Int)) : Int := ((l.filter (fun e => decide (dv e.1 P = q))).map (·.2)).sum
def tot (l : List (Int × Int)) : Int := (l.map (·.2)).sum
theorem wq_one (P q : Int) (l : List (Int × Int)) (e : Int × Int) : wq P q (l ++ [e]) = wq P q l + (if dv e.1 P = q then e.2 else 0) := by
  unfold wq
  rw [List.filter_append, List.map_append, List.sum_append]
  by_cases h : dv e.1 P = q <;> simp [h]
theorem tot_one (l : List (Int × Int)) (e : Int × Int) : tot (l ++ [e]) = tot l + e.2 := by simp [tot]
theorem tot_sub {w l : List (Int × Int)} (h : w.Sublist l) (hn : ∀ e ∈ l, 0 ≤ e.2) : tot w ≤ tot l := by
  induction h with
  | slnil => exact Int.le_refl _
  | cons a _ ih =>
    have := ih fun e he => hn e (List.mem_cons_of_mem _ he)
    have := hn a List.mem_cons_self
    simp only [tot, List.map_cons, List.sum_cons] at *; omega
  | cons_cons a _ ih =>
    have := ih fun e he => hn e (List.mem_cons_of_mem _ he)
    simp only [tot, List.map_cons, List.sum_cons] at *; omega
theorem tot_nn {l : List (Int × Int)} (hn : ∀ e ∈ l, 0 ≤ e.2) : 0 ≤ tot l := tot_sub (List.nil_sublist l) hn
theorem wq_sub {P q : Int} {w l : List (Int × Int)} (h : w.Sublist l) (hn : ∀ e ∈ l, 0 ≤ e.2) : wq P q w ≤ wq P q l :=
  tot_sub (h.filter _) fun e he => hn e (List.mem_filter.1 he).1
theorem wq_none {P q : Int} {l : List (Int × Int)} (h : ∀ e ∈ l, dv e.1 P ≠ q) : wq P q l = 0 := by
  unfold wq
  rw [List.filter_eq_nil_iff.2 (fun e he => by simpa using h e he)]; rfl
theorem tot_two {P q : Int} : ∀ {w : List (Int × Int)}, (∀ e ∈ w, dv e.1 P = q ∨ dv e.1 P = q + 1) → tot w = wq P q w + wq P (q + 1) w
  | [], _ => rfl
  | e :: w, h => by
    have ih := tot_two fun x hx => h x (List.mem_cons_of_mem _ hx)
    have := h e List.mem_cons_self
    simp only [tot, wq, List.map_cons, List.sum_cons, List.filter_cons] at ih ⊢
    rcases this with h1 | h1
    · have h2 : ¬ dv e.1 P = q + 1 := by omega
      simp only [h1, h2, decide_true, decide_false, if_true, Bool.false_eq_true, if_false, List.map_cons, List.sum_cons]; 
      have h3 : ¬ (q = q + 1) := by omega
      simp only [h3, decide_false, Bool.false_eq_true, if_false]; omega
    · have h2 : ¬ dv e.1 P = q := by omega
      have h3 : ¬ (q + 1 = q) := by omega
      simp only [h1, h3, decide_true, decide_false, if_true, Bool.false_eq_true, if_false, List.map_cons, List.sum_cons]; omega
theorem tot_same {P q : Int} : ∀ {w : List (Int × Int)}, (∀ e ∈ w, dv e.1 P = q) → tot w = wq P q w
  | [], _ => rfl
  | e :: w, h => by
    have ih := tot_same fun x hx => h x (List.mem_cons_of_mem _ hx)
    have h1 := h e List.mem_cons_self
    simp only [tot, wq, List.map_cons, List.sum_cons, List.filter_cons, h1, decide_true, if_true] at ih ⊢
    omega
/-- A window of the list. -/
def win (l : List (Int × Int)) (i k : Nat) : List (Int × Int) := (l.take k).drop i
theorem win_sub (l : List (Int × Int)) (i k : Nat) : (win l i k).Sublist l := (List.drop_sublist i _).trans (List.take_sublist k l)
theorem win_succ {l : List (Int × Int)} {i k : Nat} (hi : i ≤ k) (hk : k < l.length) : tot (win l i (k + 1)) = tot (win l i k) + (l[k]).2 := by
  unfold win
  rw [List.take_succ_eq_append_getElem hk, List.drop_append_of_le_length (by simp; omega), tot_one]
theorem win_mem {l : List (Int × Int)} (hs : l.Pairwise fun a b => a.1 ≤ b.1) {i k : Nat} (hk : k < l.length) (hi : i ≤ k) {e : Int × Int} (he : e ∈ win l i (k + 1)) : (l[i]).1 ≤ e.1 ∧ e.1 ≤ (l[k]).1 := by
  obtain ⟨j, hj⟩ := List.getElem?_of_mem he
  unfold win at hj
  rw [List.getElem?_drop, List.getElem?_take] at hj
  split at hj
  · rename_i hlt
    have hjl : i + j < l.length := by omega
    rw [List.getElem?_eq_getElem hjl] at hj
    injection hj with hj
    subst hj
    rw [List.pairwise_iff_getElem] at hs
    refine ⟨?_, ?_⟩
    · by_cases h0 : j = 0
      · subst h0; exact Int.le_refl _
      · exact hs i (i + j) (by omega) hjl (by omega)
    · by_cases h0 : i + j = k
      · subst h0; exact Int.le_refl _
      · exact hs (i + j) k hjl hk (by omega)
  · cases hj
theorem dvm {a b P : Int} (hP : 1 ≤ P) (h : a ≤ b) : dv a P ≤ dv b P := Int.ediv_le_ediv (by omega) h
theorem dv_near {a b P : Int} (hP : 1 ≤ P) (h : b - a < P) : dv b P ≤ dv a P + 1 := by
  have h1 : b ≤ a + P := by omega
  have h2 : dv b P ≤ dv (a + P) P := dvm hP h1
  have h3 : dv (a + P) P = dv a P + 1 := Int.add_ediv_of_dvd_right (Int.dvd_refl P) |>.trans (by rw [Int.ediv_self (by omega)]; rfl)
  omega
/-- What holds along the takings. -/
structure EnvI (p : Pol) (l : List (Int × Int)) (s : Stt) : Prop where
  r : right p s
  h : s.h = 0
  el : ∀ e ∈ l, 0 ≤ e.1 ∧ e.1 ≤ s.t ∧ 1 ≤ e.2 ∧ e.2 ≤ p.l
  so : l.Pairwise fun a b => a.1 ≤ b.1
  wl : ∀ q, wq p.p q l ≤ p.l
  wv : wq p.p (dv s.t p.p) l ≤ s.v
theorem EnvI.nil {p : Pol} {s : Stt} (h : right p s) (h0 : s.h = 0) : EnvI p [] s :=
  ⟨h, h0, by simp, List.Pairwise.nil, fun q => by have := h.1.2.1; simp [wq]; omega, by have := h.2.2.2.2.1; simpa [wq] using this⟩
theorem EnvI.no {p : Pol} {l : List (Int × Int)} {s : Stt} (h : EnvI p l s) (a : Ac) (hd : ¬did p s a) : EnvI p l (doN p s a) := by
  have e : doN p s a = s := by
    have := h.r
    unfold doN doS doT doV doH doG
    simp only [hd, this, if_false, if_true]
  rw [e]; exact h
theorem EnvI.yes {p : Pol} {l : List (Int × Int)} {s : Stt} (h : EnvI p l s) (t c : Int) (hd : did p s ⟨1, t, c⟩) : EnvI p (l ++ [(doT p s ⟨1, t, c⟩, c)]) (doN p s ⟨1, t, c⟩) := by
  have hr := right_do (a := ⟨1, t, c⟩) h.r
  have hR := h.r
  unfold right okP at hR
  have e1 : doT p s ⟨1, t, c⟩ = ltr s t := by unfold doT; rw [if_pos hd]
  have e2 : (doN p s ⟨1, t, c⟩).t = ltr s t := e1
  have e3 : (doN p s ⟨1, t, c⟩).v = av p s t + c := by show doV p s ⟨1, t, c⟩ = _; unfold doV; rw [if_pos hd]; simp
  have e4 : (doN p s ⟨1, t, c⟩).h = 0 := by show doH p s ⟨1, t, c⟩ = _; unfold doH; rw [if_pos hd]; simp [h.h]
  have hge := ltr_ge s t
  have hc : 1 ≤ c ∧ c ≤ p.l - av p s t := by
    have h0 := hd
    unfold did at h0
    have := h.h
    simp only at h0
    omega
  have hmono : dv s.t p.p ≤ dv (ltr s t) p.p := dvm (by omega) hge
  -- what stands in the new time
  have hw : wq p.p (dv (ltr s t) p.p) l ≤ av p s t ∧ 0 ≤ av p s t := by
    unfold av
    by_cases hq : dv (ltr s t) p.p = dv s.t p.p
    · rw [if_pos hq, hq]; exact ⟨h.wv, by omega⟩
    · rw [if_neg hq, wq_none fun e he => ?_]
      · exact ⟨Int.le_refl _, Int.le_refl _⟩
      · have := (h.el e he).2.1
        have : dv e.1 p.p ≤ dv s.t p.p := dvm (by omega) this
        omega
  rw [e1]
  refine ⟨hr, e4, ?_, ?_, fun q => ?_, ?_⟩
  · intro e he
    rw [e2]
    rcases List.mem_append.1 he with he | he
    · have := h.el e he; omega
    · simp only [List.mem_singleton] at he
      subst he
      simp only
      omega
  · rw [List.pairwise_append]
    refine ⟨h.so, by simp, fun a ha b hb => ?_⟩
    simp only [List.mem_singleton] at hb
    subst hb
    have := (h.el a ha).2.1
    simp only; omega
  · rw [wq_one]
    simp only
    split
    · rename_i hq
      rw [← hq]; omega
    · have := h.wl q; omega
  · rw [e2, e3, wq_one]
    simp only [if_true]
    omega
theorem EnvI.win_ok {p : Pol} {l : List (Int × Int)} {s : Stt} (h : EnvI p l s) {i k : Nat} (hi : i ≤ k) (hk : k < l.length) :
    (dv (l[k]).1 p.p = dv (l[i]).1 p.p → tot (win l i (k + 1)) ≤ p.l) ∧ ((l[k]).1 - (l[i]).1 < p.p → tot (win l i (k + 1)) ≤ 2 * p.l) := by
  have hR := h.r
  unfold right okP at hR
  have hnn : ∀ e ∈ l, 0 ≤ e.2 := fun e he => by have := h.el e he; omega
  have hsub := win_sub l i (k + 1)
  constructor
  · intro hq
    rw [tot_same (P := p.p) (q := dv (l[i]).1 p.p) fun e he => ?_]
    · exact Int.le_trans (wq_sub hsub hnn) (h.wl _)
    · obtain ⟨h1, h2⟩ := win_mem h.so hk hi he
      have := dvm (P := p.p) (by omega) h1
      have := dvm (P := p.p) (by omega) h2
      omega
  · intro hq
    rw [tot_two (P := p.p) (q := dv (l[i]).1 p.p) fun e he => ?_]
    · have h1 := wq_sub (P := p.p) (q := dv (l[i]).1 p.p) hsub hnn
      have h2 := wq_sub (P := p.p) (q := dv (l[i]).1 p.p + 1) hsub hnn
      have h3 := h.wl (dv (l[i]).1 p.p)
      have h4 := h.wl (dv (l[i]).1 p.p + 1)
      omega
    · obtain ⟨h1, h2⟩ := win_mem h.so hk hi he
      have := dvm (P := p.p) (by omega) h1
      have := dvm (P := p.p) (by omega) h2
      have := dv_near (P := p.p) (by omega) hq
      omega
theorem EnvI.tot_le {p : Pol} {l : List (Int × Int)} {s : Stt} (h : EnvI p l s) (i k : Nat) : 0 ≤ tot (win l i k) ∧ tot (win l i k) ≤ tot l := by
  have hnn : ∀ e ∈ l, 0 ≤ e.2 := fun e he => by have := h.el e he; omega
  exact ⟨tot_nn fun e he => hnn e ((win_sub l i k).subset he), tot_sub (win_sub l i k) hnn⟩
end Go.Proofs.YtfiggilfgjpodaaK
