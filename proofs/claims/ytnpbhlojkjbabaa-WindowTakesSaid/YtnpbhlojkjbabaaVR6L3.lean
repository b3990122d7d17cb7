/- What is taken in a period: on lists. -/
import Derived.Test.YtnpbhlojkjbabaaVR6L1m
set_option linter.unusedSimpArgs false
set_option linter.unusedVariables false
namespace Go.Proofs.YtnpbhlojkjbabaaK
open Go Go.Proofs.YtnpbhlojkjbabaaV
theorem live_app (p : Pol) (u : Int) (l m : List (Int × Int)) : tot (live p u (l ++ m)) = tot (live p u l) + tot (live p u m) := by
  unfold live; rw [List.filter_append, tot_app]
theorem live_one (p : Pol) (u : Int) (e : Int × Int) : tot (live p u [e]) = if u - e.1 < p.p then e.2 else 0 := by
  unfold live
  by_cases h : u - e.1 < p.p <;> simp [h, tot]
/-- A note never tells less than was taken. -/
theorem live_note {p : Pol} {t u c : Int} {l : List (Int × Int)} (hu : t ≤ u) (h : ∀ e ∈ l, e.1 ≤ t ∧ 0 ≤ e.2) :
    tot (live p u l) + (if u - t < p.p then c else 0) ≤ tot (live p u (note p t l c)) ∧ ((l.length : Int) ≠ p.c → tot (live p u (note p t l c)) = tot (live p u l) + (if u - t < p.p then c else 0)) := by
  by_cases hl : l = []
  · subst hl
    have e : note p t [] c = [(t, c)] := rfl
    rw [e, live_one]
    have : tot (live p u []) = 0 := rfl
    rw [this]; simp only; omega
  · have hd : l = l.dropLast ++ [l.getLast hl] := (List.dropLast_concat_getLast hl).symm
    have hm := h _ (List.getLast_mem hl)
    have hL : tot (live p u l) = tot (live p u l.dropLast) + (if u - (l.getLast hl).1 < p.p then (l.getLast hl).2 else 0) := by
      conv => lhs; rw [hd]
      rw [live_app, live_one]
    rw [note_last hl]
    by_cases hc : (l.getLast hl).1 = t ∨ (l.length : Int) = p.c
    · rw [if_pos hc, live_app, live_one, hL]
      simp only
      refine ⟨?_, fun hne => ?_⟩
      · split <;> split <;> omega
      · have : (l.getLast hl).1 = t := by omega
        rw [this]; split <;> omega
    · rw [if_neg hc, live_app, live_one]
      simp only
      exact ⟨Int.le_refl _, fun _ => by first | rfl | trivial⟩
/-- What holds along the takings. -/
structure EnvI (p : Pol) (T : List (Int × Int)) (s : Wst) : Prop where
  r : rightW p s
  h : s.h = 0
  el : ∀ e ∈ T, 0 ≤ e.1 ∧ e.1 ≤ s.t ∧ 1 ≤ e.2 ∧ e.2 ≤ p.l
  so : sorted T
  j : ∀ u, s.t ≤ u → tot (live p u T) ≤ tot (live p u s.l)
  e : ∀ k (hk : k < T.length), tot (live p (T[k]).1 (T.take (k + 1))) ≤ p.l
theorem EnvI.nil {p : Pol} {s : Wst} (h : rightW p s) (h0 : s.h = 0) (hl : s.l = []) : EnvI p [] s :=
  ⟨h, h0, by simp, List.Pairwise.nil, fun u _ => by rw [hl]; exact Int.le_refl _, fun k hk => by simp at hk⟩
theorem EnvI.no {p : Pol} {T : List (Int × Int)} {s : Wst} (h : EnvI p T s) (a : Ac) (hd : ¬didW p s a) : EnvI p T (doW p s a) := by rw [do_no h.r hd]; exact h
theorem right_past {p : Pol} {s : Wst} (n : Int) (h : rightW p s) : ∀ e ∈ live p (ltr s n) s.l, e.1 ≤ ltr s n ∧ 0 ≤ e.2 := fun e he => by
  have := ((live_ok n h).1 e he).1; unfold elOk at this; omega
theorem take_st {p : Pol} {s : Wst} {t c : Int} (hd : didW p s ⟨1, t, c⟩) : doW p s ⟨1, t, c⟩ = ⟨ltr s t, 0, s.h, note p (ltr s t) (live p (ltr s t) s.l) c⟩ := by rw [do_yes hd, doH1 rfl, doLn (.inl rfl)]
theorem EnvI.yes {p : Pol} {T : List (Int × Int)} {s : Wst} (h : EnvI p T s) (t c : Int) (hd : didW p s ⟨1, t, c⟩) : EnvI p (T ++ [(ltr s t, c)]) (doW p s ⟨1, t, c⟩) := by
  have hr := h.r
  have hs := right_do ⟨1, t, c⟩ hr
  have lt := right_ltr t hr
  have hc : 1 ≤ c := hd.2.1
  have hm := (did_take hr hc).1 hd
  rw [room_yes hr, h.h] at hm
  have lo := (live_ok t hr).2.2.2.1
  rw [take_st hd] at hs ⊢
  have hnn : ∀ e ∈ T, 0 ≤ e.2 := fun e he => by have := h.el e he; omega
  refine ⟨hs, h.h, ?_, ?_, fun u hu => ?_, fun k hk => ?_⟩
  · intro e he
    simp only
    rcases List.mem_append.1 he with he | he
    · have := h.el e he; omega
    · simp only [List.mem_singleton] at he; subst he; simp only; omega
  · rw [sorted, List.pairwise_append]
    refine ⟨h.so, by simp, fun a ha b hb => ?_⟩
    simp only [List.mem_singleton] at hb
    subst hb
    have := (h.el a ha).2.1; simp only; omega
  · simp only at hu ⊢
    have h1 := (live_note (p := p) (c := c) hu (right_past t hr)).1
    rw [live_live hu] at h1
    have h2 := h.j u (by omega)
    rw [live_app, live_one]; simp only; omega
  · rcases Nat.lt_or_ge k T.length with hlt | hge
    · rw [List.getElem_append_left hlt, List.take_append_of_le_length (by omega)]
      exact h.e k hlt
    · have hkl : k = T.length := by simp at hk; omega
      subst hkl
      rw [List.getElem_append_right (Nat.le_refl _), List.take_of_length_le (by simp)]
      simp only [Nat.sub_self, List.getElem_cons_zero]
      have h2 := h.j (ltr s t) lt.1
      have on := ok_nums hr.1
      rw [live_app, live_one]
      simp only [Int.sub_self]
      rw [if_pos (by omega)]
      omega
/-- A window of the list. -/
def win (l : List (Int × Int)) (i k : Nat) : List (Int × Int) := (l.take k).drop i
theorem win_succ {l : List (Int × Int)} {i k : Nat} (hi : i ≤ k) (hk : k < l.length) : tot (win l i (k + 1)) = tot (win l i k) + (l[k]).2 := by
  unfold win
  rw [List.take_succ_eq_append_getElem hk, List.drop_append_of_le_length (by simp; omega), tot_one]
theorem win_sub (l : List (Int × Int)) (i k : Nat) : (win l i k).Sublist l := (List.drop_sublist i _).trans (List.take_sublist k l)
theorem EnvI.tot_le {p : Pol} {T : List (Int × Int)} {s : Wst} (h : EnvI p T s) (i k : Nat) : 0 ≤ tot (win T i k) ∧ tot (win T i k) ≤ tot T := by
  have hnn : ∀ e ∈ T, 0 ≤ e.2 := fun e he => by have := h.el e he; omega
  exact ⟨tot_nn fun e he => hnn e ((win_sub T i k).subset he), tot_sub (win_sub T i k) hnn⟩
theorem EnvI.win_ok {p : Pol} {T : List (Int × Int)} {s : Wst} (h : EnvI p T s) {i k : Nat} (hi : i ≤ k) (hk : k < T.length) (hn : (T[k]).1 - (T[i]).1 < p.p) : tot (win T i (k + 1)) ≤ p.l := by
  have hnn : ∀ e ∈ T, 0 ≤ e.2 := fun e he => by have := h.el e he; omega
  have e1 : live p (T[k]).1 (win T i (k + 1)) = win T i (k + 1) := live_same fun e he => by
    obtain ⟨j, hj, rfl⟩ := List.getElem_of_mem he
    simp only [win, List.length_drop, List.length_take] at hj
    simp only [win, List.getElem_drop, List.getElem_take]
    have hs := List.pairwise_iff_getElem.1 h.so
    rcases Nat.eq_zero_or_pos j with h0 | h0
    · subst h0; simpa using hn
    · have := hs i (i + j) (by omega) (by omega) (by omega); omega
  rw [← e1]
  refine Int.le_trans (tot_sub ?_ fun e he => hnn e (List.mem_of_mem_take ((live_sub _ _ _).subset he))) (h.e k hk)
  unfold live win
  exact (List.drop_sublist i _).filter _
/-- What holds along the takings, as long as there are entries enough. -/
structure TakI (p : Pol) (T : List (Int × Int)) (s : Wst) : Prop where
  r : rightW p s
  h : s.h = 0
  el : ∀ e ∈ T, 0 ≤ e.1 ∧ e.1 ≤ s.t ∧ 1 ≤ e.2 ∧ e.2 ≤ p.l
  j : ∀ u, s.t ≤ u → tot (live p u T) = tot (live p u s.l)
  n : s.l.length ≤ T.length
theorem TakI.nil {p : Pol} {s : Wst} (h : rightW p s) (h0 : s.h = 0) (hl : s.l = []) : TakI p [] s :=
  ⟨h, h0, by simp, fun u _ => by rw [hl], by simp [hl]⟩
theorem TakI.no {p : Pol} {T : List (Int × Int)} {s : Wst} (h : TakI p T s) (a : Ac) (hd : ¬didW p s a) : TakI p T (doW p s a) := by rw [do_no h.r hd]; exact h
theorem TakI.yes {p : Pol} {T : List (Int × Int)} {s : Wst} (h : TakI p T s) (t c : Int) (hd : didW p s ⟨1, t, c⟩) (hT : (T.length : Int) < p.c) : TakI p (T ++ [(ltr s t, c)]) (doW p s ⟨1, t, c⟩) := by
  have hr := h.r
  have hs := right_do ⟨1, t, c⟩ hr
  have lt := right_ltr t hr
  have hc : 1 ≤ c := hd.2.1
  have hm := (did_take hr hc).1 hd
  rw [room_yes hr, h.h] at hm
  have lo := (live_ok t hr).2.2.2.1
  have hn := h.n
  have hln := live_length p (ltr s t) s.l
  rw [take_st hd] at hs ⊢
  refine ⟨hs, h.h, ?_, fun u hu => ?_, ?_⟩
  · intro e he
    simp only
    rcases List.mem_append.1 he with he | he
    · have := h.el e he; omega
    · simp only [List.mem_singleton] at he; subst he; simp only; omega
  · simp only at hu ⊢
    have h1 := (live_note (p := p) (c := c) hu (right_past t hr)).2 (by omega)
    rw [live_live hu] at h1
    rw [h1, ← h.j u (by omega), live_app, live_one]
  · have := note_len p (ltr s t) c (live p (ltr s t) s.l)
    simp only [List.length_append, List.length_singleton]; omega
theorem TakI.is {p : Pol} {T : List (Int × Int)} {s : Wst} (h : TakI p T s) {t c : Int} (hc : 1 ≤ c) : didW p s ⟨1, t, c⟩ ↔ c ≤ p.l - tot (live p (ltr s t) T) := by
  rw [did_take h.r hc, room_yes h.r, h.h, h.j _ (right_ltr t h.r).1]; omega
end Go.Proofs.YtnpbhlojkjbabaaK
