/- Gcra: what follows of its specification, in plain arithmetic. Gcra: as time goes by; some time later. -/
import Derived.Test.YtjmenmnjkfnhgaaVN7
section
set_option linter.unusedSimpArgs false
set_option linter.unusedVariables false
namespace Go.Proofs.YtjmenmnjkfnhgaaK
open Go Go.Proofs.YtjmenmnjkfnhgaaV Go.Proofs
theorem clamp_id {n : Int} (h : 0 ≤ n) (h2 : n ≤ 9007199254740992) : clamp n = n := by unfold clamp; grind
theorem ltr_now {p : Pol} {s : Stt} (h : rightG p s) : ltr s s.t = s.t := by unfold rightG at h; unfold ltr; rw [clamp_id h.2.1 h.2.2.1]; omega
theorem ltr_zero {p : Pol} {s : Stt} (h : rightG p s) : ltr s 0 = s.t := by unfold rightG at h; unfold ltr; rw [clamp_id (by omega) (by omega)]; omega
theorem ml_zero (y : Int) : ml 0 y = 0 := Int.zero_mul y
theorem av_now {p : Pol} {s : Stt} (h : rightG p s) : avG p s s.t = s.v := by unfold avG; rw [ltr_now h, Int.sub_self, ml_zero]; have := h.2.2.2.2.2.1; omega
theorem av_zero {p : Pol} {s : Stt} (h : rightG p s) : avG p s 0 = s.v := by unfold avG; rw [ltr_zero h, Int.sub_self, ml_zero]; have := h.2.2.2.2.2.1; omega
theorem ltr_mm {p : Pol} {s : Stt} (n : Int) (h : rightG p s) : s.t ≤ ltr s n ∧ ltr s n ≤ 9007199254740992 := ⟨ltr_ge s n, ltr_le n h.2.2.1⟩
theorem ml_le_of {x y p : Int} (hp : 1 ≤ p) (h : ml x p ≤ ml y p) : x ≤ y := Int.le_of_mul_le_mul_right h (by omega)
theorem do_in {p : Pol} {s : Stt} {a : Ac} (h : didG p s a) : doN p s a = ⟨ltr s a.t, avG p s a.t + (if a.k = 1 ∨ a.k = 2 then ml a.c p.p else if a.k = 3 then - ml a.c p.p else 0), s.h + (if a.k = 2 then a.c else if a.k = 1 then 0 else -a.c), Sl.nil⟩ := by
  simp only [doN, doT, doV, doH, doG, if_pos h]
theorem do_take {p : Pol} {s : Stt} {t c : Int} (h : didG p s ⟨1, t, c⟩) : doN p s ⟨1, t, c⟩ = ⟨ltr s t, avG p s t + ml c p.p, s.h, Sl.nil⟩ := by rw [do_in h]; simp
theorem do_hold {p : Pol} {s : Stt} {t c : Int} (h : didG p s ⟨2, t, c⟩) : doN p s ⟨2, t, c⟩ = ⟨ltr s t, avG p s t + ml c p.p, s.h + c, Sl.nil⟩ := by rw [do_in h]; simp
theorem do_free {p : Pol} {s : Stt} {t c : Int} (h : didG p s ⟨3, t, c⟩) : doN p s ⟨3, t, c⟩ = ⟨ltr s t, avG p s t - ml c p.p, s.h - c, Sl.nil⟩ := by rw [do_in h]; simp [Int.sub_eq_add_neg]
theorem do_keep {p : Pol} {s : Stt} {t c : Int} (h : didG p s ⟨4, t, c⟩) : doN p s ⟨4, t, c⟩ = ⟨ltr s t, avG p s t, s.h - c, Sl.nil⟩ := by rw [do_in h]; simp [Int.sub_eq_add_neg]
theorem do_out {p : Pol} {s : Stt} {a : Ac} (h : ¬didG p s a) (hr : rightG p s) : doN p s a = ⟨s.t, s.v, s.h, s.g⟩ := by
  simp only [doN, doT, doV, doH, doG, if_neg h, if_pos hr]
theorem right_do {p : Pol} {s : Stt} (a : Ac) (h : rightG p s) : rightG p (doN p s a) := by
  by_cases hd : didG p s a
  · have h1 := avG_bd a.t h
    have h2 := ltr_mm a.t h
    have hp : 1 ≤ p.p := h.1.2.2.2.2.2.2.1
    obtain ⟨k, t, c⟩ := a
    have hd' := hd
    obtain ⟨_, c1, c2, c3⟩ := hd'
    simp only at c1 c2 c3 h1 h2
    have hc := ml_pos c1 hp
    have e1 := ml_add s.h c p.p
    have e2 := ml_sub s.h c p.p
    rcases c3 with ⟨hk | hk, c3⟩ | ⟨hk | hk, c3⟩
    · subst hk
      rw [do_take hd]
      exact ⟨h.1, by simp only; have := h.2.1; omega, h2.2, h.2.2.2.1, h.2.2.2.2.1, by simp only; omega, c3, rfl⟩
    · subst hk
      rw [do_hold hd]
      refine ⟨h.1, by simp only; have := h.2.1; omega, h2.2, by simp only; have := h.2.2.2.1; omega, ?_, by simp only; omega, c3, rfl⟩
      exact ml_le_of (x := s.h + c) (y := p.b) hp (by omega)
    · subst hk
      rw [do_free hd]
      exact ⟨h.1, by simp only; have := h.2.1; omega, h2.2, by simp only; omega, by simp only; have := h.2.2.2.2.1; omega, by simp only; omega, by simp only; omega, rfl⟩
    · subst hk
      rw [do_keep hd]
      exact ⟨h.1, by simp only; have := h.2.1; omega, h2.2, by simp only; omega, by simp only; have := h.2.2.2.2.1; omega, by simp only; omega, by simp only; omega, rfl⟩
  · rw [do_out hd h]; exact h
theorem right_new {p : Pol} (h : okG p) : rightG p (newG p 0) := by
  have h5 : 0 ≤ ml p.b p.p := Int.mul_nonneg (by have := h.2.2.2.2.1; omega) (by have := h.2.2.2.2.2.2.1; omega)
  refine ⟨h, ?_, ?_, ?_, ?_, ?_, ?_, rfl⟩
  · simp [newG, h, clamp]
  · simp [newG, h, clamp]
  · simp [newG]
  · have := h.2.2.2.2.1; simp only [newG]; omega
  · simp only [newG, ml_zero]; omega
  · simp only [newG]; exact h5
theorem adv_in {p : Pol} {s : Stt} (n : Int) (h : rightG p s) : advG p s n = ⟨ltr s n, avG p s n, s.h, Sl.nil⟩ := by
  simp only [advG, advT, advV, advH, if_pos h]
theorem right_adv {p : Pol} {s : Stt} (n : Int) (h : rightG p s) : rightG p (advG p s n) := by
  have h1 := avG_bd n h
  have h2 := ltr_mm n h
  rw [adv_in n h]
  exact ⟨h.1, by simp only; have := h.2.1; omega, h2.2, h.2.2.2.1, h.2.2.2.2.1, h1.1, h1.2.2, rfl⟩
theorem rg {p : Pol} {s : Stt} (h : rightG p s) : s.g.n = 0 := h.2.2.2.2.2.2.2
theorem same_out {p : Pol} {s : Stt} {a : Ac} (h : rightG p s) (hd : ¬didG p s a) : same (doN p s a) s = true := by
  rw [do_out hd h]; exact same_yes ⟨rfl, rfl, rfl⟩ (lgE_refl _)
/-! ### In halves -/
theorem halves1 {p : Pol} {s : Stt} {x y : Int} (h : rightG p s) (hx : 1 ≤ x) (hy : 1 ≤ y) :
    didG p s ⟨1, s.t, x + y⟩ ↔ didG p s ⟨1, s.t, x⟩ ∧ didG p (doN p s ⟨1, s.t, x⟩) ⟨1, s.t, y⟩ := by
  have hp : 1 ≤ p.p := h.1.2.2.2.2.2.2.1
  have e0 := ml_add x y p.p
  have hx' := ml_pos hx hp
  have hy' := ml_pos hy hp
  have e2 := av_now h
  have hv : ml s.h p.p ≤ s.v := h.2.2.2.2.2.1
  have hh : 0 ≤ ml s.h p.p := (rightG_bd h).1
  by_cases hd : didG p s ⟨1, s.t, x⟩
  · have h2 := right_do ⟨1, s.t, x⟩ h
    rw [do_take hd] at h2 ⊢
    rw [ltr_now h] at h2 ⊢
    have e := av_now h2
    simp only at e
    rw [e2] at e h2 ⊢
    constructor
    · rintro ⟨_, _, d2, ⟨_, d3⟩ | ⟨d3, _⟩⟩
      · simp only at d2 d3
        rw [e2] at d3
        exact ⟨hd, h2, hy, by simp only; omega, Or.inl ⟨Or.inl rfl, by simp only; rw [e]; omega⟩⟩
      · simp at d3
    · rintro ⟨_, _, _, _, ⟨_, d3⟩ | ⟨d3, _⟩⟩
      · simp only at d3
        rw [e] at d3
        refine ⟨h, by simp only; omega, ?_, Or.inl ⟨Or.inl rfl, by simp only; rw [e2]; omega⟩⟩
        simp only
        exact ml_le_of hp (by omega)
      · simp at d3
  · refine ⟨fun hh2 => absurd ?_ hd, fun hh2 => absurd hh2.1 hd⟩
    obtain ⟨_, _, d2, ⟨_, d3⟩ | ⟨d3, _⟩⟩ := hh2
    · simp only at d2 d3
      rw [e2] at d3
      exact ⟨h, hx, by simp only; omega, Or.inl ⟨Or.inl rfl, by simp only; rw [e2]; omega⟩⟩
    · simp at d3
theorem halves2 {p : Pol} {s : Stt} {x y : Int} (h : rightG p s) (hx : 1 ≤ x) (hy : 1 ≤ y) (hd : didG p s ⟨1, s.t, x + y⟩) :
    same (doN p s ⟨1, s.t, x + y⟩) (doN p (doN p s ⟨1, s.t, x⟩) ⟨1, s.t, y⟩) = true := by
  obtain ⟨h1, h2⟩ := (halves1 h hx hy).1 hd
  have hr := right_do ⟨1, s.t, x⟩ h
  have e0 := ml_add x y p.p
  rw [do_take hd]
  rw [do_take h1] at h2 hr ⊢
  rw [do_take h2]
  rw [ltr_now h, av_now h] at *
  have e := av_now hr
  have e2 := ltr_now hr
  simp only at e e2
  rw [e, e2]
  exact same_of ⟨rfl, by simp only; omega, rfl⟩ rfl rfl
theorem halves3 {p : Pol} {s : Stt} {c : Int} : didG p s ⟨2, s.t, c⟩ ↔ didG p s ⟨1, s.t, c⟩ := by
  unfold didG; simp
theorem halves4 {p : Pol} {s : Stt} {x y : Int} (h : rightG p s) (hx : 1 ≤ x) (hy : 1 ≤ y) (hd : didG p s ⟨2, s.t, x + y⟩) :
    didG p (doN p s ⟨2, s.t, x + y⟩) ⟨4, s.t, x⟩ ∧ didG p (doN p (doN p s ⟨2, s.t, x + y⟩) ⟨4, s.t, x⟩) ⟨3, s.t, y⟩ ∧
    same (doN p (doN p (doN p s ⟨2, s.t, x + y⟩) ⟨4, s.t, x⟩) ⟨3, s.t, y⟩) (doN p s ⟨1, s.t, x⟩) = true := by
  have h1 := ((halves1 h hx hy).1 (halves3.1 hd)).1
  have hr := right_do ⟨2, s.t, x + y⟩ h
  have hb := hd.2.2.1
  simp only at hb
  have h0 : 0 ≤ s.h := h.2.2.2.1
  have e0 := ml_add x y p.p
  rw [do_take h1]
  rw [do_hold hd] at hr ⊢
  rw [av_now h, ltr_now h] at *
  have a1 := av_now hr
  have l1 := ltr_now hr
  simp only at a1 l1
  have hd2 : didG p ⟨s.t, s.v + ml (x + y) p.p, s.h + (x + y), Sl.nil⟩ ⟨4, s.t, x⟩ := ⟨hr, hx, by simp only; omega, Or.inr ⟨Or.inr rfl, by simp only; omega⟩⟩
  have hr2 := right_do ⟨4, s.t, x⟩ hr
  rw [do_keep hd2] at hr2 ⊢
  rw [a1, l1] at *
  have a2 := av_now hr2
  have l2 := ltr_now hr2
  simp only at a2 l2
  have hd3 : didG p ⟨s.t, s.v + ml (x + y) p.p, s.h + (x + y) - x, Sl.nil⟩ ⟨3, s.t, y⟩ := ⟨hr2, hy, by simp only; omega, Or.inr ⟨Or.inl rfl, by simp only; omega⟩⟩
  refine ⟨hd2, hd3, ?_⟩
  rw [do_free hd3, a2, l2]
  exact same_of ⟨rfl, by simp only; omega, by simp only; omega⟩ rfl rfl
/-! ### What was held, and given back -/
theorem ltr_two (s : Stt) (n v h : Int) (g : Sl) : ltr ⟨ltr s n, v, h, g⟩ n = ltr s n := by unfold ltr; simp only; omega
theorem av_two {p : Pol} {s : Stt} {n v h : Int} {g : Sl} (hr : ml h p.p ≤ v) : avG p ⟨ltr s n, v, h, g⟩ n = v := by
  unfold avG; rw [ltr_two]; simp only [Int.sub_self, ml_zero]; omega
theorem backs1 {p : Pol} {s : Stt} {n c : Int} (h : rightG p s) (hc : 1 ≤ c) : didG p s ⟨2, n, c⟩ ↔ c ≤ roomG p s n := by
  have hp : 1 ≤ p.p := h.1.2.2.2.2.2.2.1
  have hb := avG_bd n h
  have h0 := rightG_bd h
  unfold roomG
  rw [if_pos h]
  have e : c ≤ dv (ml p.b p.p - avG p s n) p.p ↔ ml c p.p ≤ ml p.b p.p - avG p s n := Int.le_ediv_iff_mul_le (by omega)
  rw [e]
  constructor
  · rintro ⟨_, _, _, ⟨_, d3⟩ | ⟨d3, _⟩⟩
    · simp only at d3; omega
    · simp at d3
  · intro h2
    refine ⟨h, hc, ?_, Or.inl ⟨Or.inr rfl, by simp only; omega⟩⟩
    simp only
    exact ml_le_of hp (by omega)
theorem backs2 {p : Pol} {s : Stt} {n c : Int} : didG p s ⟨2, n, c⟩ ↔ didG p s ⟨1, n, c⟩ := by unfold didG; simp
theorem backs3 {p : Pol} {s : Stt} {n c : Int} (h : rightG p s) (hd : didG p s ⟨2, n, c⟩) :
    didG p (doN p s ⟨2, n, c⟩) ⟨3, n, c⟩ ∧ didG p (doN p s ⟨2, n, c⟩) ⟨4, n, c⟩ ∧ same (doN p (doN p s ⟨2, n, c⟩) ⟨3, n, c⟩) (advG p s n) = true ∧ same (doN p (doN p s ⟨2, n, c⟩) ⟨4, n, c⟩) (doN p s ⟨1, n, c⟩) = true := by
  have hc := hd.2.1
  have hcb := hd.2.2.1
  have hr := right_do ⟨2, n, c⟩ h
  have h0 : 0 ≤ s.h := h.2.2.2.1
  simp only at hc hcb
  rw [do_take (backs2.1 hd), adv_in n h]
  rw [do_hold hd] at hr ⊢
  have hv : ml (s.h + c) p.p ≤ avG p s n + ml c p.p := hr.2.2.2.2.2.1
  have d3 : didG p ⟨ltr s n, avG p s n + ml c p.p, s.h + c, Sl.nil⟩ ⟨3, n, c⟩ := ⟨hr, hc, hcb, Or.inr ⟨Or.inl rfl, by simp only; omega⟩⟩
  have d4 : didG p ⟨ltr s n, avG p s n + ml c p.p, s.h + c, Sl.nil⟩ ⟨4, n, c⟩ := ⟨hr, hc, hcb, Or.inr ⟨Or.inr rfl, by simp only; omega⟩⟩
  refine ⟨d3, d4, ?_, ?_⟩
  · rw [do_free d3, ltr_two, av_two hv]
    exact same_of ⟨rfl, by simp only; omega, by simp only; omega⟩ rfl rfl
  · rw [do_keep d4, ltr_two, av_two hv]
    exact same_of ⟨rfl, rfl, by simp only; omega⟩ rfl rfl
end Go.Proofs.YtjmenmnjkfnhgaaK
end

section
set_option linter.unusedSimpArgs false
set_option linter.unusedVariables false
namespace Go.Proofs.YtjmenmnjkfnhgaaK
open Go Go.Proofs.YtjmenmnjkfnhgaaV Go.Proofs
theorem ltr_at {p : Pol} {s : Stt} {x : Int} (h : rightG p s) (hx : s.t ≤ x) (h2 : x ≤ 9007199254740992) : ltr s x = x := by
  have h3 := h.2.1
  unfold ltr; rw [clamp_id (by omega) h2]; omega
theorem av_at {p : Pol} {s : Stt} {x : Int} (h : rightG p s) (hx : s.t ≤ x) (h2 : x ≤ 9007199254740992) : avG p s x = max (ml s.h p.p) (s.v - ml (x - s.t) p.l) := by
  unfold avG; rw [ltr_at h hx h2]
theorem waits {p : Pol} {s : Stt} {x y : Int} (h : rightG p s) (hx : s.t ≤ x) (hy : x ≤ y) (h2 : y ≤ 9007199254740992) :
    same (advG p (advG p s x) y) (advG p s y) = true ∧ same (advG p (advG p s y) x) (advG p s y) = true ∧ (advG p s x).t = x ∧ (advG p s y).t = y ∧
    roomG p s x ≤ roomG p s y ∧ roomG p (advG p s x) y = roomG p s y ∧ rightG p (advG p s x) := by
  have hl : 1 ≤ p.l := h.1.2.2.1
  have hp : 1 ≤ p.p := h.1.2.2.2.2.2.2.1
  have rx := right_adv x h
  have ry := right_adv y h
  have bx := avG_bd x h
  have by_ := avG_bd y h
  have m1 : ml (x - s.t) p.l ≤ ml (y - s.t) p.l := ml_mono (by omega) (by omega)
  have m2 : ml (y - s.t) p.l = ml (x - s.t) p.l + ml (y - x) p.l := by
    have := ml_add (x - s.t) (y - x) p.l
    rw [show x - s.t + (y - x) = y - s.t by omega] at this; exact this
  have m3 : 0 ≤ ml (y - x) p.l := Int.mul_nonneg (by omega) (by omega)
  have ex := av_at h hx (by omega)
  have ey := av_at h (show s.t ≤ y by omega) h2
  rw [adv_in x h, ltr_at h hx (by omega)] at *
  rw [adv_in y h, ltr_at h (by omega) h2] at *
  have e1 : avG p ⟨x, avG p s x, s.h, Sl.nil⟩ y = avG p s y := by
    rw [av_at rx hy h2, ex, ey]
    simp only; omega
  have c0 : 0 ≤ x := by have := h.2.1; omega
  have lx : ltr ⟨y, avG p s y, s.h, Sl.nil⟩ x = y := by
    unfold ltr; rw [clamp_id c0 (by omega)]; simp only; omega
  refine ⟨?_, ?_, rfl, rfl, ?_, ?_, rx⟩
  · rw [adv_in y rx, ltr_at rx hy h2, e1]
    exact same_of ⟨rfl, rfl, rfl⟩ rfl rfl
  · rw [adv_in x ry, lx]
    refine same_of ⟨rfl, ?_, rfl⟩ rfl rfl
    have e2 : avG p ⟨y, avG p s y, s.h, Sl.nil⟩ x = max (ml s.h p.p) (avG p s y - ml (ltr ⟨y, avG p s y, s.h, Sl.nil⟩ x - y) p.l) := rfl
    rw [lx, Int.sub_self, ml_zero] at e2
    show avG p ⟨y, avG p s y, s.h, Sl.nil⟩ x = avG p s y
    rw [e2]; omega
  · unfold roomG
    rw [if_pos h, if_pos h]
    exact Int.ediv_le_ediv (by omega) (by omega)
  · unfold roomG
    rw [if_pos rx, if_pos h, e1]
/-! ### Some time later -/
theorem cdv_spec {n l : Int} (hn : 0 < n) (hl : 1 ≤ l) : 1 ≤ cdv n l ∧ n ≤ ml (cdv n l) l ∧ ml (cdv n l - 1) l < n ∧ cdv n l ≤ n := by
  have e := Int.emod_add_mul_ediv n l
  have e1 := Int.emod_nonneg n (show l ≠ 0 by omega)
  have e2 := Int.emod_lt_of_pos n (show 0 < l by omega)
  have e3 : 0 ≤ n / l := Int.ediv_nonneg (by omega) (by omega)
  have e4 : n / l ≤ n := Int.ediv_le_self l (by omega)
  have c : l * (n / l) = ml (n / l) l := Int.mul_comm _ _
  rw [c] at e
  unfold cdv dv md
  by_cases h : 0 < n % l
  · rw [if_pos h]
    have a1 := ml_add (n / l) 1 l
    have a2 : ml 1 l = l := Int.one_mul l
    have a3 : n / l + 1 - 1 = n / l := by omega
    rw [a3]
    refine ⟨by omega, by omega, by omega, ?_⟩
    by_cases h5 : n / l = n
    · rw [h5] at e
      have : n * 1 ≤ n * l := Int.mul_le_mul_of_nonneg_left hl (by omega)
      unfold ml at e; omega
    · omega
  · rw [if_neg h, Int.add_zero]
    have a1 := ml_sub (n / l) 1 l
    have a2 : ml 1 l = l := Int.one_mul l
    refine ⟨?_, by omega, by omega, e4⟩
    by_cases h5 : n / l = 0
    · rw [h5, ml_zero] at e; omega
    · omega
theorem lst_bd {p : Pol} {n : Int} (h : okG p) (hn : n ≤ 1152921504606846976) : 0 ≤ lst p n ∧ lst p n ≤ 1152921504606846976 := by
  unfold lst
  split
  · omega
  · have := cdv_spec (n := n) (l := p.l) (by omega) h.2.2.1
    omega
end Go.Proofs.YtjmenmnjkfnhgaaK
end
