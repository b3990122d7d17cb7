import Derived.Test.YtjmenmnjkfnhgaaVB0
set_option linter.unusedSimpArgs false
set_option linter.unusedVariables false
namespace Go.Proofs.YtjmenmnjkfnhgaaK
open Go Go.Proofs.YtjmenmnjkfnhgaaV Go.Proofs
theorem clamp_id {n : Int} (h : 0 ≤ n) (h2 : n ≤ 9007199254740992) : clamp n = n := by unfold clamp; grind
theorem ltr_now {p : Pol} {s : Stt} (h : rightG p s) : ltr s s.t = s.t := by unfold rightG at h; unfold ltr; rw [clamp_id h.2.1 h.2.2.1]; omega
theorem ltr_zero {p : Pol} {s : Stt} (h : rightG p s) : ltr s 0 = s.t := by unfold rightG at h; unfold ltr; rw [clamp_id (by omega) (by omega)]; omega
theorem ml_zero (y : Int) : ml 0 y = 0 := Int.zero_mul y
theorem av_now {p : Pol} {s : Stt} (h : rightG p s) : avG p s s.t = s.v := by unfold avG; rw [ltr_now h, Int.sub_self, ml_zero]; have := h.2.2.2.2.2.1; omega
theorem av_zero {p : Pol} {s : Stt} (h : rightG p s) : avG p s 0 = s.v := by unfold avG; rw [ltr_zero h, Int.sub_self, ml_zero]; have := h.2.2.2.2.2.1; omega
theorem ltr_mm {p : Pol} {s : Stt} (n : Int) (h : rightG p s) : s.t ≤ ltr s n ∧ ltr s n ≤ 9007199254740992 := ⟨ltr_ge s n, ltr_le n h.2.2.1⟩
theorem ml_le_of {x y p : Int} (hp : 1 ≤ p) (h : ml x p ≤ ml y p) : x ≤ y := Int.le_of_mul_le_mul_right h (by omega)
theorem do_in {p : Pol} {s : Stt} {a : Ac} (h : didG p s a) : doN p s a = ⟨ltr s a.t, avG p s a.t + (if a.k = 1 ∨ a.k = 2 then ml a.c p.p else if a.k = 3 then - ml a.c p.p else 0), s.h + (if a.k = 2 then a.c else if a.k = 1 then 0 else -a.c), Sl.nil⟩ := by
  simp only [doN, doT, doV, doH, doG, if_pos h]
theorem do_take {p : Pol} {s : Stt} {t c : Int} (h : didG p s ⟨1, t, c⟩) : doN p s ⟨1, t, c⟩ = ⟨ltr s t, avG p s t + ml c p.p, s.h, Sl.nil⟩ := by rw [do_in h]; simp
theorem do_hold {p : Pol} {s : Stt} {t c : Int} (h : didG p s ⟨2, t, c⟩) : doN p s ⟨2, t, c⟩ = ⟨ltr s t, avG p s t + ml c p.p, s.h + c, Sl.nil⟩ := by rw [do_in h]; simp
theorem do_free {p : Pol} {s : Stt} {t c : Int} (h : didG p s ⟨3, t, c⟩) : doN p s ⟨3, t, c⟩ = ⟨ltr s t, avG p s t - ml c p.p, s.h - c, Sl.nil⟩ := by rw [do_in h]; simp [Int.sub_eq_add_neg]
theorem do_keep {p : Pol} {s : Stt} {t c : Int} (h : didG p s ⟨4, t, c⟩) : doN p s ⟨4, t, c⟩ = ⟨ltr s t, avG p s t, s.h - c, Sl.nil⟩ := by rw [do_in h]; simp [Int.sub_eq_add_neg]
theorem do_out {p : Pol} {s : Stt} {a : Ac} (h : ¬didG p s a) (hr : rightG p s) : doN p s a = ⟨s.t, s.v, s.h, s.g⟩ := by
  simp only [doN, doT, doV, doH, doG, if_neg h, if_pos hr]
theorem right_do {p : Pol} {s : Stt} (a : Ac) (h : rightG p s) : rightG p (doN p s a) := by
  by_cases hd : didG p s a
  · have h1 := avG_bd a.t h
    have h2 := ltr_mm a.t h
    have hp : 1 ≤ p.p := h.1.2.2.2.2.2.2.1
    obtain ⟨k, t, c⟩ := a
    have hd' := hd
    obtain ⟨_, c1, c2, c3⟩ := hd'
    simp only at c1 c2 c3 h1 h2
    have hc := ml_pos c1 hp
    have e1 := ml_add s.h c p.p
    have e2 := ml_sub s.h c p.p
    rcases c3 with ⟨hk | hk, c3⟩ | ⟨hk | hk, c3⟩
    · subst hk
      rw [do_take hd]
      exact ⟨h.1, by simp only; have := h.2.1; omega, h2.2, h.2.2.2.1, h.2.2.2.2.1, by simp only; omega, c3, rfl⟩
    · subst hk
      rw [do_hold hd]
      refine ⟨h.1, by simp only; have := h.2.1; omega, h2.2, by simp only; have := h.2.2.2.1; omega, ?_, by simp only; omega, c3, rfl⟩
      exact ml_le_of (x := s.h + c) (y := p.b) hp (by omega)
    · subst hk
      rw [do_free hd]
      exact ⟨h.1, by simp only; have := h.2.1; omega, h2.2, by simp only; omega, by simp only; have := h.2.2.2.2.1; omega, by simp only; omega, by simp only; omega, rfl⟩
    · subst hk
      rw [do_keep hd]
      exact ⟨h.1, by simp only; have := h.2.1; omega, h2.2, by simp only; omega, by simp only; have := h.2.2.2.2.1; omega, by simp only; omega, by simp only; omega, rfl⟩
  · rw [do_out hd h]; exact h
theorem right_new {p : Pol} (h : okG p) : rightG p (newG p 0) := by
  have h5 : 0 ≤ ml p.b p.p := Int.mul_nonneg (by have := h.2.2.2.2.1; omega) (by have := h.2.2.2.2.2.2.1; omega)
  refine ⟨h, ?_, ?_, ?_, ?_, ?_, ?_, rfl⟩
  · simp [newG, h, clamp]
  · simp [newG, h, clamp]
  · simp [newG]
  · have := h.2.2.2.2.1; simp only [newG]; omega
  · simp only [newG, ml_zero]; omega
  · simp only [newG]; exact h5
theorem adv_in {p : Pol} {s : Stt} (n : Int) (h : rightG p s) : advG p s n = ⟨ltr s n, avG p s n, s.h, Sl.nil⟩ := by
  simp only [advG, advT, advV, advH, if_pos h]
theorem right_adv {p : Pol} {s : Stt} (n : Int) (h : rightG p s) : rightG p (advG p s n) := by
  have h1 := avG_bd n h
  have h2 := ltr_mm n h
  rw [adv_in n h]
  exact ⟨h.1, by simp only; have := h.2.1; omega, h2.2, h.2.2.2.1, h.2.2.2.2.1, h1.1, h1.2.2, rfl⟩
theorem rg {p : Pol} {s : Stt} (h : rightG p s) : s.g.n = 0 := h.2.2.2.2.2.2.2
theorem same_out {p : Pol} {s : Stt} {a : Ac} (h : rightG p s) (hd : ¬didG p s a) : same (doN p s a) s = true := by
  rw [do_out hd h]; exact same_yes ⟨rfl, rfl, rfl⟩ (lgE_refl _)
/-! ### In halves -/
theorem halves1 {p : Pol} {s : Stt} {x y : Int} (h : rightG p s) (hx : 1 ≤ x) (hy : 1 ≤ y) :
    didG p s ⟨1, s.t, x + y⟩ ↔ didG p s ⟨1, s.t, x⟩ ∧ didG p (doN p s ⟨1, s.t, x⟩) ⟨1, s.t, y⟩ := by
  have hp : 1 ≤ p.p := h.1.2.2.2.2.2.2.1
  have e0 := ml_add x y p.p
  have hx' := ml_pos hx hp
  have hy' := ml_pos hy hp
  have e2 := av_now h
  have hv : ml s.h p.p ≤ s.v := h.2.2.2.2.2.1
  have hh : 0 ≤ ml s.h p.p := (rightG_bd h).1
  by_cases hd : didG p s ⟨1, s.t, x⟩
  · have h2 := right_do ⟨1, s.t, x⟩ h
    rw [do_take hd] at h2 ⊢
    rw [ltr_now h] at h2 ⊢
    have e := av_now h2
    simp only at e
    rw [e2] at e h2 ⊢
    constructor
    · rintro ⟨_, _, d2, ⟨_, d3⟩ | ⟨d3, _⟩⟩
      · simp only at d2 d3
        rw [e2] at d3
        exact ⟨hd, h2, hy, by simp only; omega, Or.inl ⟨Or.inl rfl, by simp only; rw [e]; omega⟩⟩
      · simp at d3
    · rintro ⟨_, _, _, _, ⟨_, d3⟩ | ⟨d3, _⟩⟩
      · simp only at d3
        rw [e] at d3
        refine ⟨h, by simp only; omega, ?_, Or.inl ⟨Or.inl rfl, by simp only; rw [e2]; omega⟩⟩
        simp only
        exact ml_le_of hp (by omega)
      · simp at d3
  · refine ⟨fun hh2 => absurd ?_ hd, fun hh2 => absurd hh2.1 hd⟩
    obtain ⟨_, _, d2, ⟨_, d3⟩ | ⟨d3, _⟩⟩ := hh2
    · simp only at d2 d3
      rw [e2] at d3
      exact ⟨h, hx, by simp only; omega, Or.inl ⟨Or.inl rfl, by simp only; rw [e2]; omega⟩⟩
    · simp at d3
theorem halves2 {p : Pol} {s : Stt} {x y : Int} (h : rightG p s) (hx : 1 ≤ x) (hy : 1 ≤ y) (hd : didG p s ⟨1, s.t, x + y⟩) :
    same (doN p s ⟨1, s.t, x + y⟩) (doN p (doN p s ⟨1, s.t, x⟩) ⟨1, s.t, y⟩) = true := by
  obtain ⟨h1, h2⟩ := (halves1 h hx hy).1 hd
  have hr := right_do ⟨1, s.t, x⟩ h
  have e0 := ml_add x y p.p
  rw [do_take hd]
  rw [do_take h1] at h2 hr ⊢
  rw [do_take h2]
  rw [ltr_now h, av_now h] at *
  have e := av_now hr
  have e2 := ltr_now hr
  simp only at e e2
  rw [e, e2]
  exact same_of ⟨rfl, by simp only; omega, rfl⟩ rfl rfl
theorem halves3 {p : Pol} {s : Stt} {c : Int} : didG p s ⟨2, s.t, c⟩ ↔ didG p s ⟨1, s.t, c⟩ := by
  unfold didG; simp
theorem halves4 {p : Pol} {s : Stt} {x y : Int} (h : rightG p s) (hx : 1 ≤ x) (hy : 1 ≤ y) (hd : didG p s ⟨2, s.t, x + y⟩) :
    didG p (doN p s ⟨2, s.t, x + y⟩) ⟨4, s.t, x⟩ ∧ didG p (doN p (doN p s ⟨2, s.t, x + y⟩) ⟨4, s.t, x⟩) ⟨3, s.t, y⟩ ∧
    same (doN p (doN p (doN p s ⟨2, s.t, x + y⟩) ⟨4, s.t, x⟩) ⟨3, s.t, y⟩) (doN p s ⟨1, s.t, x⟩) = true := by
  have h1 := ((halves1 h hx hy).1 (halves3.1 hd)).1
  have hr := right_do ⟨2, s.t, x + y⟩ h
  have hb := hd.2.2.1
  simp only at hb
  have h0 : 0 ≤ s.h := h.2.2.2.1
  have e0 := ml_add x y p.p
  rw [do_take h1]
  rw [do_hold hd] at hr ⊢
  rw [av_now h, ltr_now h] at *
  have a1 := av_now hr
  have l1 := ltr_now hr
  simp only at a1 l1
  have hd2 : didG p ⟨s.t, s.v + ml (x + y) p.p, s.h + (x + y), Sl.nil⟩ ⟨4, s.t, x⟩ := ⟨hr, hx, by simp only; omega, Or.inr ⟨Or.inr rfl, by simp only; omega⟩⟩
  have hr2 := right_do ⟨4, s.t, x⟩ hr
  rw [do_keep hd2] at hr2 ⊢
  rw [a1, l1] at *
  have a2 := av_now hr2
  have l2 := ltr_now hr2
  simp only at a2 l2
  have hd3 : didG p ⟨s.t, s.v + ml (x + y) p.p, s.h + (x + y) - x, Sl.nil⟩ ⟨3, s.t, y⟩ := ⟨hr2, hy, by simp only; omega, Or.inr ⟨Or.inl rfl, by simp only; omega⟩⟩
  refine ⟨hd2, hd3, ?_⟩
  rw [do_free hd3, a2, l2]
  exact same_of ⟨rfl, by simp only; omega, by simp only; omega⟩ rfl rfl
/-! ### What was held, and given back -/
theorem ltr_two (s : Stt) (n v h : Int) (g : Sl) : ltr ⟨ltr s n, v, h, g⟩ n = ltr s n := by unfold ltr; simp only; omega
theorem av_two {p : Pol} {s : Stt} {n v h : Int} {g : Sl} (hr : ml h p.p ≤ v) : avG p ⟨ltr s n, v, h, g⟩ n = v := by
  unfold avG; rw [ltr_two]; simp only [Int.sub_self, ml_zero]; omega
theorem backs1 {p : Pol} {s : Stt} {n c : Int} (h : rightG p s) (hc : 1 ≤ c) : didG p s ⟨2, n, c⟩ ↔ c ≤ roomG p s n := by
  have hp : 1 ≤ p.p := h.1.2.2.2.2.2.2.1
  have hb := avG_bd n h
  have h0 := rightG_bd h
  unfold roomG
  rw [if_pos h]
  have e : c ≤ dv (ml p.b p.p - avG p s n) p.p ↔ ml c p.p ≤ ml p.b p.p - avG p s n := Int.le_ediv_iff_mul_le (by omega)
  rw [e]
  constructor
  · rintro ⟨_, _, _, ⟨_, d3⟩ | ⟨d3, _⟩⟩
    · simp only at d3; omega
    · simp at d3
  · intro h2
    refine ⟨h, hc, ?_, Or.inl ⟨Or.inr rfl, by simp only; omega⟩⟩
    simp only
    exact ml_le_of hp (by omega)
theorem backs2 {p : Pol} {s : Stt} {n c : Int} : didG p s ⟨2, n, c⟩ ↔ didG p s ⟨1, n, c⟩ := by unfold didG; simp
theorem backs3 {p : Pol} {s : Stt} {n c : Int} (h : rightG p s) (hd : didG p s ⟨2, n, c⟩) :
    didG p (doN p s ⟨2, n, c⟩) ⟨3, n, c⟩ ∧ didG p (doN p s ⟨2, n, c⟩) ⟨4, n, c⟩ ∧ same (doN p (doN p s ⟨2, n, c⟩) ⟨3, n, c⟩) (advG p s n) = true ∧ same (doN p (doN p s ⟨2, n, c⟩) ⟨4, n, c⟩) (doN p s ⟨1, n, c⟩) = true := by
  have hc := hd.2.1
  have hcb := hd.2.2.1
  have hr := right_do ⟨2, n, c⟩ h
  have h0 : 0 ≤ s.h := h.2.2.2.1
  simp only at hc hcb
  rw [do_take (backs2.1 hd), adv_in n h]
  rw [do_hold hd] at hr ⊢
  have hv : ml (s.h + c) p.p ≤ avG p s n + ml c p.p := hr.2.2.2.2.2.1
  have d3 : didG p ⟨ltr s n, avG p s n + ml c p.p, s.h + c, Sl.nil⟩ ⟨3, n, c⟩ := ⟨hr, hc, hcb, Or.inr ⟨Or.inl rfl, by simp only; omega⟩⟩
  have d4 : didG p ⟨ltr s n, avG p s n + ml c p.p, s.h + c, Sl.nil⟩ ⟨4, n, c⟩ := ⟨hr, hc, hcb, Or.inr ⟨Or.inr rfl, by simp only; omega⟩⟩
  refine ⟨d3, d4, ?_, ?_⟩
  · rw [do_free d3, ltr_two, av_two hv]
    exact same_of ⟨rfl, by simp only; omega, by simp only; omega⟩ rfl rfl
  · rw [do_keep d4, ltr_two, av_two hv]
    exact same_of ⟨rfl, rfl, by simp only; omega⟩ rfl rfl
theorem ltr_at {p : Pol} {s : Stt} {x : Int} (h : rightG p s) (hx : s.t ≤ x) (h2 : x ≤ 9007199254740992) : ltr s x = x := by
  have h3 := h.2.1
  unfold ltr; rw [clamp_id (by omega) h2]; omega
theorem av_at {p : Pol} {s : Stt} {x : Int} (h : rightG p s) (hx : s.t ≤ x) (h2 : x ≤ 9007199254740992) : avG p s x = max (ml s.h p.p) (s.v - ml (x - s.t) p.l) := by
  unfold avG; rw [ltr_at h hx h2]
theorem waits {p : Pol} {s : Stt} {x y : Int} (h : rightG p s) (hx : s.t ≤ x) (hy : x ≤ y) (h2 : y ≤ 9007199254740992) :
    same (advG p (advG p s x) y) (advG p s y) = true ∧ same (advG p (advG p s y) x) (advG p s y) = true ∧ (advG p s x).t = x ∧ (advG p s y).t = y ∧
    roomG p s x ≤ roomG p s y ∧ roomG p (advG p s x) y = roomG p s y ∧ rightG p (advG p s x) := by
  have hl : 1 ≤ p.l := h.1.2.2.1
  have hp : 1 ≤ p.p := h.1.2.2.2.2.2.2.1
  have rx := right_adv x h
  have ry := right_adv y h
  have bx := avG_bd x h
  have by_ := avG_bd y h
  have m1 : ml (x - s.t) p.l ≤ ml (y - s.t) p.l := ml_mono (by omega) (by omega)
  have m2 : ml (y - s.t) p.l = ml (x - s.t) p.l + ml (y - x) p.l := by
    have := ml_add (x - s.t) (y - x) p.l
    rw [show x - s.t + (y - x) = y - s.t by omega] at this; exact this
  have m3 : 0 ≤ ml (y - x) p.l := Int.mul_nonneg (by omega) (by omega)
  have ex := av_at h hx (by omega)
  have ey := av_at h (show s.t ≤ y by omega) h2
  rw [adv_in x h, ltr_at h hx (by omega)] at *
  rw [adv_in y h, ltr_at h (by omega) h2] at *
  have e1 : avG p ⟨x, avG p s x, s.h, Sl.nil⟩ y = avG p s y := by
    rw [av_at rx hy h2, ex, ey]
    simp only; omega
  have c0 : 0 ≤ x := by have := h.2.1; omega
  have lx : ltr ⟨y, avG p s y, s.h, Sl.nil⟩ x = y := by
    unfold ltr; rw [clamp_id c0 (by omega)]; simp only; omega
  refine ⟨?_, ?_, rfl, rfl, ?_, ?_, rx⟩
  · rw [adv_in y rx, ltr_at rx hy h2, e1]
    exact same_of ⟨rfl, rfl, rfl⟩ rfl rfl
  · rw [adv_in x ry, lx]
    refine same_of ⟨rfl, ?_, rfl⟩ rfl rfl
    have e2 : avG p ⟨y, avG p s y, s.h, Sl.nil⟩ x = max (ml s.h p.p) (avG p s y - ml (ltr ⟨y, avG p s y, s.h, Sl.nil⟩ x - y) p.l) := rfl
    rw [lx, Int.sub_self, ml_zero] at e2
    show avG p ⟨y, avG p s y, s.h, Sl.nil⟩ x = avG p s y
    rw [e2]; omega
  · unfold roomG
    rw [if_pos h, if_pos h]
    exact Int.ediv_le_ediv (by omega) (by omega)
  · unfold roomG
    rw [if_pos rx, if_pos h, e1]
/-! ### Some time later -/
theorem cdv_spec {n l : Int} (hn : 0 < n) (hl : 1 ≤ l) : 1 ≤ cdv n l ∧ n ≤ ml (cdv n l) l ∧ ml (cdv n l - 1) l < n ∧ cdv n l ≤ n := by
  have e := Int.emod_add_mul_ediv n l
  have e1 := Int.emod_nonneg n (show l ≠ 0 by omega)
  have e2 := Int.emod_lt_of_pos n (show 0 < l by omega)
  have e3 : 0 ≤ n / l := Int.ediv_nonneg (by omega) (by omega)
  have e4 : n / l ≤ n := Int.ediv_le_self l (by omega)
  have c : l * (n / l) = ml (n / l) l := Int.mul_comm _ _
  rw [c] at e
  unfold cdv dv md
  by_cases h : 0 < n % l
  · rw [if_pos h]
    have a1 := ml_add (n / l) 1 l
    have a2 : ml 1 l = l := Int.one_mul l
    have a3 : n / l + 1 - 1 = n / l := by omega
    rw [a3]
    refine ⟨by omega, by omega, by omega, ?_⟩
    by_cases h5 : n / l = n
    · rw [h5] at e
      have : n * 1 ≤ n * l := Int.mul_le_mul_of_nonneg_left hl (by omega)
      unfold ml at e; omega
    · omega
  · rw [if_neg h, Int.add_zero]
    have a1 := ml_sub (n / l) 1 l
    have a2 : ml 1 l = l := Int.one_mul l
    refine ⟨?_, by omega, by omega, e4⟩
    by_cases h5 : n / l = 0
    · rw [h5, ml_zero] at e; omega
    · omega
theorem lst_bd {p : Pol} {n : Int} (h : okG p) (hn : n ≤ 1152921504606846976) : 0 ≤ lst p n ∧ lst p n ≤ 1152921504606846976 := by
  unfold lst
  split
  · omega
  · have := cdv_spec (n := n) (l := p.l) (by omega) h.2.2.1
    omega
theorem lst_spec {p : Pol} {n : Int} (h : okG p) : 0 ≤ lst p n ∧ n ≤ ml (lst p n) p.l ∧ (0 < lst p n → ml (lst p n - 1) p.l < n) ∧ lst p n ≤ max n 0 ∧ (0 < n → 0 < lst p n) ∧ (n ≤ 0 → lst p n = 0) := by
  unfold lst
  by_cases hn : n ≤ 0
  · rw [if_pos hn, ml_zero]; omega
  · rw [if_neg hn]
    have := cdv_spec (n := n) (l := p.l) (by omega) h.2.2.1
    omega
theorem take_iff {p : Pol} {s : Stt} {c t : Int} (h : rightG p s) (hc : mayC p s c) (hx : s.t ≤ t) (h2 : t ≤ 9007199254740992) :
    didG p s ⟨1, t, c⟩ ↔ s.v - ml (p.b - c) p.p ≤ ml (t - s.t) p.l := by
  have hp : 1 ≤ p.p := h.1.2.2.2.2.2.2.1
  have hh : 0 ≤ s.h := h.2.2.2.1
  have e := av_at h hx h2
  have m1 := ml_sub p.b c p.p
  have m2 : ml s.h p.p ≤ ml (p.b - c) p.p := ml_mono (by have := hc.2.2; omega) (by omega)
  unfold didG
  rw [e]
  have c1 := hc.2.1
  have c2 := hc.2.2
  constructor
  · rintro ⟨_, _, _, ⟨_, h3⟩ | ⟨h3, _⟩⟩
    · simp only at h3; omega
    · simp at h3
  · intro h3
    exact ⟨h, c1, by simp only; omega, Or.inl ⟨by simp, by simp only; omega⟩⟩
theorem retries {p : Pol} {s : Stt} {c : Int} (h : rightG p s) (ht : s.t ≤ 4503599627370496) (hb : ml p.b p.p ≤ 4294967296) (hc : mayC p s c) :
    didG p s ⟨1, s.t + retG p s 0 c, c⟩ ∧ (0 < retG p s 0 c → ¬didG p s ⟨1, s.t + retG p s 0 c - 1, c⟩) := by
  have hp : 1 ≤ p.p := h.1.2.2.2.2.2.2.1
  have h7 := h.2.2.2.2.2.2.1
  have m0 : 0 ≤ ml (p.b - c) p.p := Int.mul_nonneg (by have := hc.2.2; have := h.2.2.2.1; omega) (by omega)
  unfold retG
  rw [if_pos hc, av_zero h]
  obtain ⟨l1, l2, l3, l4, _, _⟩ := lst_spec (p := p) (n := s.v - ml (p.b - c) p.p) h.1
  refine ⟨(take_iff h hc (by omega) (by omega)).2 (by rw [show s.t + lst p (s.v - ml (p.b - c) p.p) - s.t = lst p (s.v - ml (p.b - c) p.p) by omega]; exact l2), fun h0 hd => ?_⟩
  have := (take_iff h hc (by omega) (by omega)).1 hd
  rw [show s.t + lst p (s.v - ml (p.b - c) p.p) - 1 - s.t = lst p (s.v - ml (p.b - c) p.p) - 1 by omega] at this
  have := l3 h0
  omega
theorem retry_bd {p : Pol} {s : Stt} {c : Int} (h : rightG p s) (hb : ml p.b p.p ≤ 4294967296) : 0 ≤ retG p s 0 c ∧ retG p s 0 c ≤ 4294967296 := by
  unfold retG
  by_cases hc : mayC p s c
  · rw [if_pos hc, av_zero h]
    have hp : 1 ≤ p.p := h.1.2.2.2.2.2.2.1
    have h7 := h.2.2.2.2.2.2.1
    have m0 : 0 ≤ ml (p.b - c) p.p := Int.mul_nonneg (by have := hc.2.2; have := h.2.2.2.1; omega) (by omega)
    have := lst_spec (p := p) (n := s.v - ml (p.b - c) p.p) h.1
    omega
  · rw [if_neg hc]; omega
theorem until_bd {p : Pol} {s : Stt} (h : rightG p s) (hb : ml p.b p.p ≤ 4294967296) : -1 ≤ untG p s 0 ∧ untG p s 0 ≤ 4294967296 := by
  have h7 := h.2.2.2.2.2.2.1
  unfold untG
  split
  · rw [av_zero h]
    have := lst_spec (p := p) (n := s.v) h.1
    omega
  · omega
theorem untils {p : Pol} {s : Stt} (h : rightG p s) (ht : s.t ≤ 4503599627370496) (hb : ml p.b p.p ≤ 4294967296) :
    (untG p s 0 < 0 ↔ 0 < s.h) ∧ (0 ≤ untG p s 0 → untG p s (s.t + untG p s 0) = 0 ∧ (untG p s 0 ≠ 0 → 0 < untG p s (s.t + untG p s 0 - 1))) := by
  have h7 := h.2.2.2.2.2.2.1
  have h8 := h.2.2.2.1
  have h9 := h.2.2.2.2.2.1
  by_cases hh : s.h ≤ 0
  · have e : ∀ t, untG p s t = lst p (avG p s t) := fun t => by unfold untG; rw [if_pos ⟨h, hh⟩]
    have h0 : s.h = 0 := by omega
    obtain ⟨l1, l2, l3, l4, l5, l6⟩ := lst_spec (p := p) (n := s.v) h.1
    rw [e 0, av_zero h]
    refine ⟨by omega, fun _ => ⟨?_, fun hne => ?_⟩⟩
    · rw [e, av_at h (by omega) (by omega), h0, ml_zero]
      rw [show s.t + lst p s.v - s.t = lst p s.v by omega]
      exact (lst_spec h.1).2.2.2.2.2 (by omega)
    · rw [e, av_at h (by omega) (by omega), h0, ml_zero]
      rw [show s.t + lst p s.v - 1 - s.t = lst p s.v - 1 by omega]
      have := l3 (by omega)
      exact (lst_spec h.1).2.2.2.2.1 (by omega)
  · have e : untG p s 0 = -1 := by unfold untG; rw [if_neg (fun h0 => hh h0.2)]
    rw [e]
    exact ⟨by omega, fun h0 => by omega⟩
def dual (p q : Pol) (s t : Stt) : Prop := p.l = q.l ∧ p.p = q.p ∧ p.b = q.b ∧ rightG p s ∧ rightB q t ∧ s.t = t.t ∧ s.h = t.h ∧ s.v + t.v = ml p.b p.p
theorem dual_av {p q : Pol} {s t : Stt} (n : Int) (h : dual p q s t) : ltr s n = ltr t n ∧ avG p s n + avB q t n = ml p.b p.p ∧ ml (q.b - t.h) q.p = ml p.b p.p - ml s.h p.p := by
  obtain ⟨h1, h2, h3, hr, hb, h4, h5, h6⟩ := h
  have e1 : ltr s n = ltr t n := by unfold ltr; rw [h4]
  have e2 : ml (q.b - t.h) q.p = ml p.b p.p - ml s.h p.p := by rw [← h3, ← h5, ← h2]; exact ml_sub _ _ _
  refine ⟨e1, ?_, e2⟩
  unfold avG avB
  rw [e2, ← e1, ← h4, ← h1]
  omega
theorem dual_did {p q : Pol} {s t : Stt} (a : Ac) (h : dual p q s t) : didG p s a ↔ didB q t a := by
  obtain ⟨e1, e2, e3⟩ := dual_av a.t h
  obtain ⟨h1, h2, h3, hr, hb, h4, h5, h6⟩ := h
  have hp : 1 ≤ p.p := hr.1.2.2.2.2.2.2.1
  have b1 := avG_bd a.t hr
  have b2 := rightG_bd hr
  have hh := hr.2.2.2.1
  have hh2 := hr.2.2.2.2.1
  unfold didG didB
  rw [← h2, ← h5]
  constructor
  · rintro ⟨_, c1, c2, c3 | c3⟩
    · exact ⟨hb, c1, Or.inl ⟨c3.1, by omega⟩⟩
    · exact ⟨hb, c1, Or.inr c3⟩
  · rintro ⟨_, c1, c3 | c3⟩
    · refine ⟨hr, c1, ml_leq hp (by omega), Or.inl ⟨c3.1, by omega⟩⟩
    · exact ⟨hr, c1, by omega, Or.inr c3⟩
theorem dual_do {p q : Pol} {s t : Stt} (a : Ac) (h : dual p q s t) : dual p q (doN p s a) (doBR q t a) := by
  have hd := dual_did a h
  obtain ⟨e1, e2, e3⟩ := dual_av a.t h
  have h0 := h
  obtain ⟨h1, h2, h3, hr, hb, h4, h5, h6⟩ := h
  have hp : 1 ≤ p.p := hr.1.2.2.2.2.2.2.1
  have rr := right_do a hr
  have b1 := avG_bd a.t hr
  by_cases hc : didG p s a
  · have hc2 := hd.1 hc
    have t1 : (doN p s a).t = (doBR q t a).t := by simp only [doN, doBR, doT, doBT, if_pos hc, if_pos hc2, e1]
    have t2 : (doN p s a).h = (doBR q t a).h := by simp only [doN, doBR, doH, doBH, if_pos hc, if_pos hc2, h5]
    have t3 : (doN p s a).v + (doBR q t a).v = ml p.b p.p := by
      simp only [doN, doBR, doV, doBV, if_pos hc, if_pos hc2, ← h2]
      split <;> (try split) <;> omega
    have g0 : (doBR q t a).g.n = 0 := by simp only [doBR, doBL, if_pos hb]; exact hb.2.2.2.2.2.2.2
    refine ⟨h1, h2, h3, rr, ?_, t1, t2, t3⟩
    obtain ⟨_, r1, r2, r3, r4, r5, r6, _⟩ := rr
    refine ⟨hb.1, by omega, by omega, by omega, by omega, by omega, ?_, g0⟩
    have := ml_sub q.b (doBR q t a).h q.p
    rw [← h2, ← h3, ← t2] at this ⊢
    omega
  · have hc2 : ¬didB q t a := fun h => hc (hd.2 h)
    have t1 : doN p s a = ⟨s.t, s.v, s.h, s.g⟩ := do_out hc hr
    have t2 : doBR q t a = ⟨t.t, t.v, t.h, t.g⟩ := by simp only [doBR, doBT, doBV, doBH, doBL, if_neg hc2, if_pos hb]
    rw [t1, t2]
    exact h0
theorem dual_told {p q : Pol} {s t : Stt} (n c : Int) (h : dual p q s t) : retG p s n c = retB q t n c ∧ (mayC p s c ↔ mayB q t c) ∧ roomG p s n = roomB q t n ∧ untG p s n = untB q t n := by
  obtain ⟨e1, e2, e3⟩ := dual_av n h
  obtain ⟨h1, h2, h3, hr, hb, h4, h5, h6⟩ := h
  have hm : mayC p s c ↔ mayB q t c := by unfold mayC mayB; rw [h3, h5]; exact ⟨fun h => ⟨hb, h.2⟩, fun h => ⟨hr, h.2⟩⟩
  have el : ∀ x, lst p x = lst q x := fun x => by unfold lst; rw [h1]
  refine ⟨?_, hm, ?_, ?_⟩
  · unfold retG retB
    by_cases hc : mayC p s c
    · rw [if_pos hc, if_pos (hm.1 hc), el]
      congr 1
      have := ml_sub p.b c p.p
      rw [← h2]; omega
    · rw [if_neg hc, if_neg (fun h => hc (hm.2 h))]
  · unfold roomG roomB
    rw [if_pos hr, if_pos hb, ← h2]
    congr 1; omega
  · unfold untG untB
    rw [← h5]
    by_cases hc : s.h ≤ 0
    · rw [if_pos ⟨hr, hc⟩, if_pos ⟨hb, hc⟩, el]
      congr 1; rw [← h3, ← h2]; omega
    · rw [if_neg (fun h => hc h.2), if_neg (fun h => hc h.2)]
theorem dual_new {p q : Pol} (h1 : p.l = q.l) (h2 : p.p = q.p) (h3 : p.b = q.b) (hp : okG p) (hq : okB q) : dual p q (newG p 0) (newB q 0) := by
  have rg := right_new hp
  have hb := rightG_bd rg
  have m0 : ml 0 p.p = 0 := Int.zero_mul _
  refine ⟨h1, h2, h3, rg, ?_, ?_, rfl, ?_⟩
  · refine ⟨hq, ?_, ?_, ?_, ?_, ?_, ?_, rfl⟩ <;> simp only [newB, if_pos hq, ← h2, ← h3]
    · unfold clamp; decide
    · unfold clamp; decide
    · omega
    · have := hp.2.2.2.2.1; omega
    · exact hb.2.2.1
    · rw [Int.sub_zero]; exact Int.le_refl _
  · simp only [newG, newB, if_pos hp, if_pos hq]
  · simp only [newG, newB, if_pos hq, ← h2, ← h3, Int.zero_add]
def advB (p : Pol) (s : Stt) (n : Int) : Stt := ⟨advBT p s n, advBV p s n, advBH p s, Sl.nil⟩
def doBG (p : Pol) (s : Stt) (a : Ac) : Sl := if didB p s a then Sl.nil else if rightB p s then s.g else Sl.nil
def doB (p : Pol) (s : Stt) (a : Ac) : Stt := ⟨doBT p s a, doBV p s a, doBH p s a, doBG p s a⟩
def pD (q : Pol) : Pol := ⟨2, q.l, q.p, q.b, q.c, q.o⟩
def sD (q : Pol) (t : Stt) : Stt := ⟨t.t, ml q.b q.p - t.v, t.h, Sl.nil⟩
theorem rgB {p : Pol} {s : Stt} (h : rightB p s) : s.g.n = 0 := h.2.2.2.2.2.2.2
theorem okD {q : Pol} (h : okB q) : okG (pD q) := by
  obtain ⟨h1, h2, h3, h4, h5, h6, h7, h8⟩ := h
  exact ⟨rfl, h8, h2, h3, h4, h5, h6, h7⟩
theorem dual_of {q : Pol} {t : Stt} (h : rightB q t) : dual (pD q) q (sD q t) t := by
  have e := ml_sub q.b t.h q.p
  obtain ⟨h1, h2, h3, h4, h5, h6, h7, h8⟩ := id h
  refine ⟨rfl, rfl, rfl, ⟨okD h1, h2, h3, h4, h5, ?_, ?_, rfl⟩, h, rfl, rfl, ?_⟩
  · show ml t.h q.p ≤ ml q.b q.p - t.v; omega
  · show ml q.b q.p - t.v ≤ ml q.b q.p; omega
  · show ml q.b q.p - t.v + t.v = ml q.b q.p; omega
theorem dual_g {p q : Pol} {s t t' : Stt} (h : dual p q s t) (e : t'.t = t.t ∧ t'.v = t.v ∧ t'.h = t.h) (hg : t'.g.n = 0) : dual p q s t' := by
  obtain ⟨h1, h2, h3, hr, hb, h4, h5, h6⟩ := h
  obtain ⟨e1, e2, e3⟩ := e
  obtain ⟨b1, b2, b3, b4, b5, b6, b7, _⟩ := hb
  refine ⟨h1, h2, h3, hr, ⟨b1, ?_, ?_, ?_, ?_, ?_, ?_, hg⟩, ?_, ?_, ?_⟩ <;> simp only [e1, e2, e3] <;> assumption
theorem doBG_n {p : Pol} {s : Stt} (a : Ac) : (doBG p s a).n = 0 := by
  unfold doBG; split
  · rfl
  · split
    · rename_i h; exact rgB h
    · rfl
theorem dual_doB {p q : Pol} {s t : Stt} (a : Ac) (h : dual p q s t) : dual p q (doN p s a) (doB q t a) := dual_g (dual_do a h) ⟨rfl, rfl, rfl⟩ (doBG_n a)
theorem dual_adv {p q : Pol} {s t : Stt} (n : Int) (h : dual p q s t) : dual p q (advG p s n) (advB q t n) := by
  obtain ⟨e1, e2, e3⟩ := dual_av n h
  obtain ⟨h1, h2, h3, hr, hb, h4, h5, h6⟩ := h
  have rr := right_adv n hr
  have bd := avB_bd n hb
  rw [adv_in n hr] at rr ⊢
  have eb : advB q t n = ⟨ltr t n, avB q t n, t.h, Sl.nil⟩ := by simp only [advB, advBT, advBV, advBH, if_pos hb]
  rw [eb]
  obtain ⟨_, r1, r2, _⟩ := rr
  exact ⟨h1, h2, h3, ⟨hr.1, r1, r2, by assumption⟩, ⟨hb.1, by rw [← e1]; exact r1, by rw [← e1]; exact r2, hb.2.2.2.1, hb.2.2.2.2.1, bd.2.2, bd.2.1, rfl⟩, e1, h5, e2⟩
theorem same_dual {p q : Pol} {s s' t t' : Stt} (h : dual p q s t) (h' : dual p q s' t') (e : same s s' = true) : same t t' = true := by
  obtain ⟨e1, e2, e3, _⟩ := sim_of e
  obtain ⟨_, _, _, _, hb, a1, a2, a3⟩ := h
  obtain ⟨_, _, _, _, hb', c1, c2, c3⟩ := h'
  exact same_of ⟨by omega, by omega, by omega⟩ (rgB hb) (rgB hb')
theorem right_newB {p : Pol} (h : okB p) : rightB p (newB p 0) := (dual_new (p := pD p) (q := p) rfl rfl rfl (okD h) h).2.2.2.2.1
theorem right_doB {p : Pol} {s : Stt} (a : Ac) (h : rightB p s) : rightB p (doB p s a) := (dual_doB a (dual_of h)).2.2.2.2.1
theorem right_advB {p : Pol} {s : Stt} (n : Int) (h : rightB p s) : rightB p (advB p s n) := (dual_adv n (dual_of h)).2.2.2.2.1
theorem same_outB {p : Pol} {s : Stt} {a : Ac} (h : rightB p s) (hd : ¬didB p s a) : same (doB p s a) s = true := by
  simp only [doB, doBT, doBV, doBH, doBG, if_neg hd, if_pos h]; exact same_yes ⟨rfl, rfl, rfl⟩ (lgE_refl _)
theorem halves1B {p : Pol} {s : Stt} {x y : Int} (h : rightB p s) (hx : 1 ≤ x) (hy : 1 ≤ y) :
    didB p s ⟨1, s.t, x + y⟩ ↔ didB p s ⟨1, s.t, x⟩ ∧ didB p (doB p s ⟨1, s.t, x⟩) ⟨1, s.t, y⟩ := by
  have d := dual_of h
  have d1 := dual_doB ⟨1, s.t, x⟩ d
  rw [← dual_did _ d, ← dual_did _ d, ← dual_did _ d1]
  exact halves1 d.2.2.2.1 hx hy
theorem halves2B {p : Pol} {s : Stt} {x y : Int} (h : rightB p s) (hx : 1 ≤ x) (hy : 1 ≤ y) (hd : didB p s ⟨1, s.t, x + y⟩) :
    same (doB p s ⟨1, s.t, x + y⟩) (doB p (doB p s ⟨1, s.t, x⟩) ⟨1, s.t, y⟩) = true := by
  have d := dual_of h
  exact same_dual (dual_doB _ d) (dual_doB _ (dual_doB _ d)) (halves2 d.2.2.2.1 hx hy ((dual_did _ d).2 hd))
theorem halves3B {p : Pol} {s : Stt} {c : Int} : didB p s ⟨2, s.t, c⟩ ↔ didB p s ⟨1, s.t, c⟩ := by unfold didB; simp
theorem halves4B {p : Pol} {s : Stt} {x y : Int} (h : rightB p s) (hx : 1 ≤ x) (hy : 1 ≤ y) (hd : didB p s ⟨2, s.t, x + y⟩) :
    didB p (doB p s ⟨2, s.t, x + y⟩) ⟨4, s.t, x⟩ ∧ didB p (doB p (doB p s ⟨2, s.t, x + y⟩) ⟨4, s.t, x⟩) ⟨3, s.t, y⟩ ∧
    same (doB p (doB p (doB p s ⟨2, s.t, x + y⟩) ⟨4, s.t, x⟩) ⟨3, s.t, y⟩) (doB p s ⟨1, s.t, x⟩) = true := by
  have d := dual_of h
  have d1 := dual_doB ⟨2, s.t, x + y⟩ d
  have d2 := dual_doB ⟨4, s.t, x⟩ d1
  obtain ⟨q1, q2, q3⟩ := halves4 d.2.2.2.1 hx hy ((dual_did ⟨2, s.t, x + y⟩ d).2 hd)
  exact ⟨(dual_did _ d1).1 q1, (dual_did _ d2).1 q2, same_dual (dual_doB _ d2) (dual_doB _ d) q3⟩
theorem backs1B {p : Pol} {s : Stt} {n c : Int} (h : rightB p s) (hc : 1 ≤ c) : didB p s ⟨2, n, c⟩ ↔ c ≤ roomB p s n := by
  have d := dual_of h
  rw [← dual_did _ d, ← (dual_told n c d).2.2.1]
  exact backs1 d.2.2.2.1 hc
theorem backs2B {p : Pol} {s : Stt} {n c : Int} : didB p s ⟨2, n, c⟩ ↔ didB p s ⟨1, n, c⟩ := by unfold didB; simp
theorem backs3B {p : Pol} {s : Stt} {n c : Int} (h : rightB p s) (hd : didB p s ⟨2, n, c⟩) :
    didB p (doB p s ⟨2, n, c⟩) ⟨3, n, c⟩ ∧ didB p (doB p s ⟨2, n, c⟩) ⟨4, n, c⟩ ∧ same (doB p (doB p s ⟨2, n, c⟩) ⟨3, n, c⟩) (advB p s n) = true ∧ same (doB p (doB p s ⟨2, n, c⟩) ⟨4, n, c⟩) (doB p s ⟨1, n, c⟩) = true := by
  have d := dual_of h
  have d1 := dual_doB ⟨2, n, c⟩ d
  obtain ⟨q1, q2, q3, q4⟩ := backs3 d.2.2.2.1 ((dual_did ⟨2, n, c⟩ d).2 hd)
  exact ⟨(dual_did _ d1).1 q1, (dual_did _ d1).1 q2, same_dual (dual_doB _ d1) (dual_adv n d) q3, same_dual (dual_doB _ d1) (dual_doB _ d) q4⟩
theorem waitsB {p : Pol} {s : Stt} {x y : Int} (h : rightB p s) (hx : s.t ≤ x) (hy : x ≤ y) (h2 : y ≤ 9007199254740992) :
    same (advB p (advB p s x) y) (advB p s y) = true ∧ same (advB p (advB p s y) x) (advB p s y) = true ∧ (advB p s x).t = x ∧ (advB p s y).t = y ∧
    roomB p s x ≤ roomB p s y ∧ roomB p (advB p s x) y = roomB p s y ∧ rightB p (advB p s x) := by
  have d := dual_of h
  have dx := dual_adv x d
  have dy := dual_adv y d
  obtain ⟨q1, q2, q3, q4, q5, q6, _⟩ := waits d.2.2.2.1 hx hy h2
  rw [(dual_told x 0 d).2.2.1, (dual_told y 0 d).2.2.1] at q5
  rw [(dual_told y 0 d).2.2.1, (dual_told y 0 dx).2.2.1] at q6
  exact ⟨same_dual (dual_adv y dx) dy q1, same_dual (dual_adv x dy) dy q2, dx.2.2.2.2.2.1.symm.trans q3, dy.2.2.2.2.2.1.symm.trans q4, q5, q6, dx.2.2.2.2.1⟩
theorem retriesB {p : Pol} {s : Stt} {c : Int} (h : rightB p s) (ht : s.t ≤ 4503599627370496) (hb : ml p.b p.p ≤ 4294967296) (hc : mayB p s c) :
    didB p s ⟨1, s.t + retB p s 0 c, c⟩ ∧ (0 < retB p s 0 c → ¬didB p s ⟨1, s.t + retB p s 0 c - 1, c⟩) := by
  have d := dual_of h
  obtain ⟨t1, t2, _⟩ := dual_told 0 c d
  rw [← t1, ← dual_did _ d, ← dual_did _ d]
  exact retries d.2.2.2.1 ht hb (t2.2 hc)
theorem retry_bdB {p : Pol} {s : Stt} {c : Int} (h : rightB p s) (hb : ml p.b p.p ≤ 4294967296) : 0 ≤ retB p s 0 c ∧ retB p s 0 c ≤ 4294967296 := by
  have d := dual_of h
  rw [← (dual_told 0 c d).1]; exact retry_bd d.2.2.2.1 hb
theorem until_bdB {p : Pol} {s : Stt} (h : rightB p s) (hb : ml p.b p.p ≤ 4294967296) : -1 ≤ untB p s 0 ∧ untB p s 0 ≤ 4294967296 := by
  have d := dual_of h
  rw [← (dual_told 0 0 d).2.2.2]; exact until_bd d.2.2.2.1 hb
theorem untilsB {p : Pol} {s : Stt} (h : rightB p s) (ht : s.t ≤ 4503599627370496) (hb : ml p.b p.p ≤ 4294967296) :
    (untB p s 0 < 0 ↔ 0 < s.h) ∧ (0 ≤ untB p s 0 → untB p s (s.t + untB p s 0) = 0 ∧ (untB p s 0 ≠ 0 → 0 < untB p s (s.t + untB p s 0 - 1))) := by
  have d := dual_of h
  have t := fun n => (dual_told n 0 d).2.2.2
  rw [← t 0, ← t, ← t]
  exact untils d.2.2.2.1 ht hb
end Go.Proofs.YtjmenmnjkfnhgaaK
