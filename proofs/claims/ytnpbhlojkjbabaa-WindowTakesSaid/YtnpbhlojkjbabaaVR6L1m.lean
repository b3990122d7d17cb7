/- The laws of a window, on lists. What waits for room: on lists. -/
import Derived.Test.YtnpbhlojkjbabaaVR6pm
set_option linter.unusedSimpArgs false
set_option linter.unusedVariables false
namespace Go.Proofs.YtnpbhlojkjbabaaK
open Go Go.Proofs.YtnpbhlojkjbabaaV
theorem live_live {p : Pol} {t u : Int} (h : t ≤ u) (l : List (Int × Int)) : live p u (live p t l) = live p u l := by
  unfold live
  rw [List.filter_filter]
  apply List.filter_congr
  intro e _
  by_cases h1 : u - e.1 < p.p
  · have : t - e.1 < p.p := by omega
    simp [h1, this]
  · simp [h1]
theorem live_same {p : Pol} {t : Int} {l : List (Int × Int)} (h : ∀ e ∈ l, t - e.1 < p.p) : live p t l = l := by
  unfold live
  exact List.filter_eq_self.2 fun e he => by simpa using h e he
theorem do_yes {p : Pol} {s : Wst} {a : Ac} (h : didW p s a) : doW p s a = ⟨ltr s a.t, 0, doH s a, doL p s a⟩ := by unfold doW; rw [if_pos h]
theorem do_no {p : Pol} {s : Wst} {a : Ac} (hr : rightW p s) (h : ¬didW p s a) : doW p s a = s := by unfold doW; rw [if_neg h, if_pos hr]
theorem ltr_ltr (s : Wst) (n : Int) (v h : Int) (l : List (Int × Int)) : ltr ⟨ltr s n, v, h, l⟩ n = ltr s n := by unfold ltr; simp only; omega
theorem note_live {p : Pol} {t c : Int} {l : List (Int × Int)} (hp : 1 ≤ p.p) (h : ∀ e ∈ l, t - e.1 < p.p) : live p t (note p t l c) = note p t l c := by
  refine live_same fun e he => ?_
  by_cases hl : l = []
  · subst hl; simp only [note, List.getLast?_nil, List.mem_singleton] at he; subst he; simp only; omega
  · rw [note_last hl] at he
    split at he
    · rcases List.mem_append.1 he with he | he
      · exact h e (List.dropLast_subset l he)
      · simp only [List.mem_singleton] at he; subst he; simp only; omega
    · rcases List.mem_append.1 he with he | he
      · exact h e he
      · simp only [List.mem_singleton] at he; subst he; simp only; omega
theorem note_ne (p : Pol) (t c : Int) (l : List (Int × Int)) : ∃ m d, note p t l c = m ++ [(t, d)] := by
  by_cases hl : l = []
  · subst hl; exact ⟨[], c, rfl⟩
  · rw [note_last hl]; split
    · exact ⟨_, _, rfl⟩
    · exact ⟨_, _, rfl⟩
theorem note_note (p : Pol) (t c d : Int) (l : List (Int × Int)) : note p t (note p t l c) d = note p t l (c + d) := by
  have key : ∀ (m : List (Int × Int)) (x : Int), note p t (m ++ [(t, x)]) d = m ++ [(t, x + d)] := fun m x => by
    rw [note_last (by simp)]; simp
  by_cases hl : l = []
  · subst hl; exact key [] c
  · rw [note_last hl, note_last hl]; split
    · rw [key]; simp only [Int.add_assoc]
    · rw [key]
/-- Held and given back. -/
theorem backs {p : Pol} {s : Wst} {n c : Int} (hr : rightW p s) (hc : 1 ≤ c) (hd : c ≤ roomW p s n) :
    didW p (doW p s ⟨2, n, c⟩) ⟨3, n, c⟩ ∧ didW p (doW p s ⟨2, n, c⟩) ⟨4, n, c⟩ ∧ doW p (doW p s ⟨2, n, c⟩) ⟨3, n, c⟩ = advW p s n ∧ doW p (doW p s ⟨2, n, c⟩) ⟨4, n, c⟩ = doW p s ⟨1, n, c⟩ := by
  have h1 : didW p s ⟨1, n, c⟩ := ⟨hr, hc, .inl ⟨.inl rfl, hd⟩⟩
  have h2 : didW p s ⟨2, n, c⟩ := ⟨hr, hc, .inl ⟨.inr rfl, hd⟩⟩
  have r2 := right_do ⟨2, n, c⟩ hr
  have n0 := hr.2.2.2.1
  have e2 : doW p s ⟨2, n, c⟩ = ⟨ltr s n, 0, s.h + c, live p (ltr s n) s.l⟩ := by rw [do_yes h2, doH2 rfl, doLm (.inl rfl)]
  rw [e2] at r2 ⊢
  have h3 : didW p ⟨ltr s n, 0, s.h + c, live p (ltr s n) s.l⟩ ⟨3, n, c⟩ := ⟨r2, hc, .inr ⟨.inl rfl, by simp only; omega⟩⟩
  have h4 : didW p ⟨ltr s n, 0, s.h + c, live p (ltr s n) s.l⟩ ⟨4, n, c⟩ := ⟨r2, hc, .inr ⟨.inr rfl, by simp only; omega⟩⟩
  refine ⟨h3, h4, ?_, ?_⟩
  · rw [do_yes h3, adv_yes hr, doH3 (.inl rfl), doLm (.inr rfl)]
    simp only [ltr_ltr, live_live (Int.le_refl _)]
    congr 1; omega
  · rw [do_yes h4, do_yes h1, doH3 (.inr rfl), doH1 rfl, doLn (.inr rfl), doLn (.inl rfl)]
    simp only [ltr_ltr, live_live (Int.le_refl _)]
    congr 1; omega
theorem did_take {p : Pol} {s : Wst} {n c : Int} (hr : rightW p s) (hc : 1 ≤ c) : didW p s ⟨1, n, c⟩ ↔ c ≤ roomW p s n :=
  ⟨fun h => by rcases h.2.2 with h | h; exact h.2; (obtain ⟨h, _⟩ := h; simp only at h; omega), fun h => ⟨hr, hc, .inl ⟨.inl rfl, h⟩⟩⟩
theorem did_hold {p : Pol} {s : Wst} {n c : Int} (hr : rightW p s) (hc : 1 ≤ c) : didW p s ⟨2, n, c⟩ ↔ c ≤ roomW p s n :=
  ⟨fun h => by rcases h.2.2 with h | h; exact h.2; (obtain ⟨h, _⟩ := h; simp only at h; omega), fun h => ⟨hr, hc, .inl ⟨.inr rfl, h⟩⟩⟩
/-- Taken in two. -/
theorem halves {p : Pol} {s : Wst} {x y : Int} (hr : rightW p s) (hx : 1 ≤ x) (hy : 1 ≤ y) :
    (didW p s ⟨1, s.t, x + y⟩ ↔ didW p s ⟨1, s.t, x⟩ ∧ didW p (doW p s ⟨1, s.t, x⟩) ⟨1, s.t, y⟩) ∧ (didW p s ⟨1, s.t, x + y⟩ → doW p s ⟨1, s.t, x + y⟩ = doW p (doW p s ⟨1, s.t, x⟩) ⟨1, s.t, y⟩ ∧
      didW p s ⟨2, s.t, x + y⟩ ∧ didW p (doW p s ⟨2, s.t, x + y⟩) ⟨4, s.t, x⟩ ∧ didW p (doW p (doW p s ⟨2, s.t, x + y⟩) ⟨4, s.t, x⟩) ⟨3, s.t, y⟩ ∧ doW p (doW p (doW p s ⟨2, s.t, x + y⟩) ⟨4, s.t, x⟩) ⟨3, s.t, y⟩ = doW p s ⟨1, s.t, x⟩) := by
  have on := ok_nums hr.1
  have lt : ltr s s.t = s.t := by have := hr.2.1; have := hr.2.2.1; unfold ltr clamp; omega
  have hlv := live_ok s.t hr
  rw [lt] at hlv
  have rx := right_do ⟨1, s.t, x⟩ hr
  have hn := hr.2.2.2.1
  have hA : didW p s ⟨1, s.t, x⟩ → doW p s ⟨1, s.t, x⟩ = ⟨s.t, 0, s.h, note p s.t (live p s.t s.l) x⟩ := fun h => by rw [do_yes h, doH1 rfl, doLn (.inl rfl)]; simp only [lt]
  have hl1 : ∀ (h : Int) (c : Int), ltr ⟨s.t, 0, h, note p s.t (live p s.t s.l) c⟩ s.t = s.t := fun h c => by have := hr.2.1; have := hr.2.2.1; unfold ltr clamp; simp only; omega
  have hl2 : ∀ (h : Int), ltr ⟨s.t, 0, h, live p s.t s.l⟩ s.t = s.t := fun h => by have := hr.2.1; have := hr.2.2.1; unfold ltr clamp; simp only; omega
  have nl : ∀ c : Int, live p s.t (note p s.t (live p s.t s.l) c) = note p s.t (live p s.t s.l) c := fun c => note_live (by omega) fun e he => (hlv.1 e he).2
  have r1 : roomW p s s.t = p.l - s.h - tot (live p s.t s.l) := by rw [room_yes hr, lt]
  have dxy := did_take (n := s.t) (c := x + y) hr (by omega)
  have dx := did_take (n := s.t) (c := x) hr hx
  have dy : didW p s ⟨1, s.t, x⟩ → (didW p (doW p s ⟨1, s.t, x⟩) ⟨1, s.t, y⟩ ↔ x + y ≤ roomW p s s.t) := fun h => by
    rw [did_take rx hy, room_yes rx, hA h]
    simp only [hl1, nl, note_tot, r1]; omega
  refine ⟨⟨fun h => ?_, fun h => dxy.2 ((dy h.1).1 h.2)⟩, fun h => ?_⟩
  · have h1 := dxy.1 h
    have h2 := dx.2 (by omega)
    exact ⟨h2, (dy h2).2 h1⟩
  · have h1 := dxy.1 h
    have h2 := dx.2 (by omega)
    have h3 := (dy h2).2 h1
    have h4 : didW p s ⟨2, s.t, x + y⟩ := (did_hold hr (by omega)).2 h1
    have r4 := right_do ⟨2, s.t, x + y⟩ hr
    have e4 : doW p s ⟨2, s.t, x + y⟩ = ⟨s.t, 0, s.h + (x + y), live p s.t s.l⟩ := by rw [do_yes h4, doH2 rfl, doLm (.inl rfl)]; simp only [lt]
    rw [e4] at r4 ⊢
    have h5 : didW p ⟨s.t, 0, s.h + (x + y), live p s.t s.l⟩ ⟨4, s.t, x⟩ := ⟨r4, hx, .inr ⟨.inr rfl, by simp only; omega⟩⟩
    have r5 := right_do ⟨4, s.t, x⟩ r4
    have e5 : doW p ⟨s.t, 0, s.h + (x + y), live p s.t s.l⟩ ⟨4, s.t, x⟩ = ⟨s.t, 0, s.h + y, note p s.t (live p s.t s.l) x⟩ := by
      rw [do_yes h5, doH3 (.inr rfl), doLn (.inr rfl)]; simp only [hl2, live_live (Int.le_refl _)]; congr 1; omega
    rw [e5] at r5 ⊢
    have h6 : didW p ⟨s.t, 0, s.h + y, note p s.t (live p s.t s.l) x⟩ ⟨3, s.t, y⟩ := ⟨r5, hy, .inr ⟨.inl rfl, by simp only; omega⟩⟩
    refine ⟨?_, h4, h5, h6, ?_⟩
    · rw [do_yes h, do_yes h3, hA h2, doH1 rfl, doH1 rfl, doLn (.inl rfl), doLn (.inl rfl)]
      simp only [lt, hl1, nl, note_note]
    · rw [do_yes h6, hA h2, doH3 (.inl rfl), doLm (.inr rfl)]
      simp only [hl1, nl]; congr 1; omega
/-- As time goes by. -/
theorem waits {p : Pol} {s : Wst} {x y : Int} (hr : rightW p s) (hx : s.t ≤ x) (hy : x ≤ y) (hb : y ≤ 9007199254740992) :
    advW p (advW p s x) y = advW p s y ∧ advW p (advW p s y) x = advW p s y ∧ (advW p s x).t = x ∧ (advW p s y).t = y ∧ roomW p s x ≤ roomW p s y ∧ roomW p (advW p s x) y = roomW p s y := by
  have h0 := hr.2.1
  have hn : ∀ e ∈ s.l, 0 ≤ e.2 := fun e he => by have := hr.2.2.2.2.2.2.1 e he; unfold elOk at this; omega
  have lx : ltr s x = x := by unfold ltr clamp; omega
  have ly : ltr s y = y := by unfold ltr clamp; omega
  have rx := right_adv x hr
  have ry := right_adv y hr
  have ex := adv_yes (n := x) hr
  have ey := adv_yes (n := y) hr
  rw [lx] at ex; rw [ly] at ey
  have exy := adv_yes (n := y) rx
  have eyx := adv_yes (n := x) ry
  have rm := room_yes (n := y) rx
  rw [ex] at exy rm; rw [ey] at eyx
  have l1 : ltr ⟨x, 0, s.h, live p x s.l⟩ y = y := by unfold ltr clamp; simp only; omega
  have l2 : ltr ⟨y, 0, s.h, live p y s.l⟩ x = y := by unfold ltr clamp; simp only; omega
  rw [l1] at exy rm; rw [l2] at eyx
  simp only [live_live hy] at exy rm
  simp only [live_live (Int.le_refl y)] at eyx
  have sb := tot_sub (live_sub p y (live p x s.l)) (fun e he => hn e ((live_sub p x s.l).subset he))
  rw [live_live hy] at sb
  refine ⟨by rw [ex, exy, ey], by rw [ey, eyx], by rw [ex], by rw [ey], ?_, ?_⟩
  · rw [room_yes hr, room_yes hr, lx, ly]; omega
  · rw [ex, rm, room_yes hr, ly]
end Go.Proofs.YtnpbhlojkjbabaaK

namespace Go.Proofs.YtnpbhlojkjbabaaK
open Go Go.Proofs.YtnpbhlojkjbabaaV
/-- Where so much is gone: just then, not before. -/
theorem gone_at {p : Pol} {t : Int} : ∀ {l : List (Int × Int)} {o : Int}, 0 < o → o ≤ tot l → sorted l → (∀ e ∈ l, 1 ≤ e.2) → ∃ x, gone p t o l = x + p.p - t ∧ (∃ e ∈ l, e.1 = x) ∧ o ≤ upto l x ∧ upto l (x - 1) < o
  | [], o, h0, h1, _, _ => by simp [tot] at h1; omega
  | e :: l, o, h0, h1, hs, hn => by
    obtain ⟨s1, s2⟩ := List.pairwise_cons.1 hs
    have hn' : ∀ x ∈ l, 1 ≤ x.2 := fun x hx => hn x (List.mem_cons_of_mem _ hx)
    rw [gone, if_neg (by omega)]
    split
    · refine ⟨e.1, rfl, ⟨e, List.mem_cons_self, rfl⟩, ?_, ?_⟩
      · rw [upto_cons, if_pos (Int.le_refl _)]; have := upto_nn hn' e.1; omega
      · rw [upto_cons, if_neg (by omega), upto_none fun x hx => by have := s1 x hx; omega]; omega
    · rw [tot_cons] at h1
      obtain ⟨x, g1, ⟨f, hf, g2⟩, g3, g4⟩ := gone_at (p := p) (t := t) (l := l) (o := o - e.2) (by omega) (by omega) s2 hn'
      have hef := s1 f hf
      have he := hn e List.mem_cons_self
      refine ⟨x, g1, ⟨f, List.mem_cons_of_mem _ hf, g2⟩, ?_, ?_⟩
      · rw [upto_cons, if_pos (by omega)]; omega
      · rw [upto_cons]; split <;> omega
theorem ltr_id {s : Wst} {n : Int} (h0 : 0 ≤ s.t) (h : s.t ≤ n) (h2 : n ≤ 9007199254740992) : ltr s n = n := by unfold ltr clamp; omega
/-- What is told to have room later has it then, and not before. -/
theorem retries {p : Pol} {s : Wst} {c : Int} (hr : rightW p s) (h2 : s.t ≤ 4503599627370496) (hm : mayC p s c) :
    0 ≤ retryW p s 0 c ∧ retryW p s 0 c ≤ 1099511627776 ∧ didW p s ⟨1, s.t + retryW p s 0 c, c⟩ ∧ (0 < retryW p s 0 c → ¬didW p s ⟨1, s.t + retryW p s 0 c - 1, c⟩) := by
  have on := ok_nums hr.1
  have h0 := hr.2.1
  obtain ⟨_, hc, hc2⟩ := hm
  have lo := live_ok 0 hr
  have l0 : ltr s 0 = s.t := by unfold ltr clamp; omega
  rw [l0] at lo
  have e := retry_yes (n := 0) ⟨hr, hc, hc2⟩
  rw [l0] at e
  have n1 : ∀ x ∈ live p s.t s.l, 1 ≤ x.2 := fun x hx => ((lo.1 x hx).1).2.2.1
  by_cases ho : s.h + tot (live p s.t s.l) + c - p.l ≤ 0
  · rw [gone_le ho] at e
    rw [e]
    refine ⟨Int.le_refl _, by omega, ?_, fun h => absurd h (by omega)⟩
    rw [did_take hr hc, room_yes hr, ltr_id h0 (by omega) (by omega)]
    simp only [Int.add_zero]; omega
  · obtain ⟨x, g1, ⟨f, hf, g2⟩, g3, g4⟩ := gone_at (p := p) (t := s.t) (l := live p s.t s.l) (o := s.h + tot (live p s.t s.l) + c - p.l) (by omega) (by omega) lo.2.1 n1
    rw [g1] at e
    have hf2 := lo.1 f hf
    have hf3 := hf2.1
    unfold elOk at hf3
    have eT : s.t + (x + p.p - s.t) = x + p.p := by omega
    rw [e, eT]
    have key : ∀ y : Int, s.t ≤ y + p.p → tot (live p (y + p.p) s.l) = tot (live p s.t s.l) - upto (live p s.t s.l) y := fun y hy => by
      rw [← live_live hy, ← used_live, used_upto]
    refine ⟨by omega, by omega, ?_, fun hpos => ?_⟩
    · rw [did_take hr hc, room_yes hr, ltr_id h0 (by omega) (by omega), key x (by omega)]; omega
    · have e1 : x + p.p - 1 = (x - 1) + p.p := by omega
      rw [did_take hr hc, room_yes hr, e1, ltr_id h0 (by omega) (by omega), key (x - 1) (by omega)]; omega
theorem last_live {p : Pol} {t : Int} {l : List (Int × Int)} (h : l ≠ []) (hs : sorted l) : ∀ e ∈ l, e.1 ≤ (l.getLast h).1 := by
  intro e he
  obtain ⟨k, hk, rfl⟩ := List.getElem_of_mem he
  rw [List.getLast_eq_getElem]
  rcases Nat.lt_or_ge k (l.length - 1) with hlt | hge
  · exact (List.pairwise_iff_getElem.1 hs) k (l.length - 1) hk (by omega) hlt
  · have : k = l.length - 1 := by omega
    subst this; exact Int.le_refl _
/-- What is as new some time later is so then, and not before. -/
theorem untils {p : Pol} {s : Wst} (hr : rightW p s) (h2 : s.t ≤ 4503599627370496) (hh : ¬0 < s.h) :
    0 ≤ untilW p s 0 ∧ untilW p s 0 ≤ 1099511627776 ∧ untilW p s (s.t + untilW p s 0) = 0 ∧ (untilW p s 0 ≠ 0 → 0 < untilW p s (s.t + untilW p s 0 - 1)) := by
  have on := ok_nums hr.1
  have h0 := hr.2.1
  have lo := live_ok 0 hr
  have l0 : ltr s 0 = s.t := by unfold ltr clamp; omega
  rw [l0] at lo
  have hu : rightW p s ∧ s.h ≤ 0 := ⟨hr, by omega⟩
  have un : ∀ n, untilW p s n = match (live p (ltr s n) s.l).getLast? with
    | some e => e.1 + p.p - ltr s n
    | none => 0 := fun n => by unfold untilW; rw [if_pos hu]; cases (live p (ltr s n) s.l).getLast? <;> rfl
  by_cases hl : live p s.t s.l = []
  · have e : untilW p s 0 = 0 := by rw [un, l0, hl]; rfl
    rw [e]
    refine ⟨Int.le_refl _, by omega, ?_, fun h => absurd rfl h⟩
    rw [un, ltr_id h0 (by omega) (by omega), Int.add_zero, hl]; rfl
  · have e : untilW p s 0 = ((live p s.t s.l).getLast hl).1 + p.p - s.t := by rw [un, l0, List.getLast?_eq_some_getLast hl]
    have hm := lo.1 _ (List.getLast_mem hl)
    have hm2 := hm.1
    unfold elOk at hm2
    have hall := last_live (p := p) (t := s.t) hl lo.2.1
    generalize hx : ((live p s.t s.l).getLast hl).1 = x at *
    have eT : s.t + (x + p.p - s.t) = x + p.p := by omega
    rw [e, eT]
    refine ⟨by omega, by omega, ?_, fun _ => ?_⟩
    · rw [un, ltr_id h0 (by omega) (by omega)]
      have : live p (x + p.p) s.l = [] := by
        rw [← live_live (show s.t ≤ x + p.p by omega)]
        unfold live
        exact List.filter_eq_nil_iff.2 fun e he => by have := hall e he; simp; omega
      rw [this]; rfl
    · rw [un, ltr_id h0 (by omega) (by omega)]
      have hne : live p (x + p.p - 1) s.l ≠ [] := fun h => by
        have hin : (live p s.t s.l).getLast hl ∈ live p (x + p.p - 1) s.l := by
          refine List.mem_filter.2 ⟨(live_sub _ _ _).subset (List.getLast_mem hl), ?_⟩
          simp only [hx, decide_eq_true_eq]; omega
        rw [h] at hin; simp at hin
      rw [List.getLast?_eq_some_getLast hne]
      have := (List.mem_filter.1 (List.getLast_mem hne)).2
      simp only [decide_eq_true_eq] at this
      simp only; omega
theorem until_neg {p : Pol} {s : Wst} (hh : 0 < s.h) (n : Int) : untilW p s n = -1 := until_no fun h => by omega
theorem until_sign {p : Pol} {s : Wst} (hr : rightW p s) (h2 : s.t ≤ 4503599627370496) : untilW p s 0 < 0 ↔ s.h > 0 := by
  by_cases h : 0 < s.h
  · rw [until_neg h]; exact ⟨fun _ => h, fun _ => by omega⟩
  · have := (untils hr h2 h).1; exact ⟨fun k => by omega, fun k => absurd k h⟩
end Go.Proofs.YtnpbhlojkjbabaaK
