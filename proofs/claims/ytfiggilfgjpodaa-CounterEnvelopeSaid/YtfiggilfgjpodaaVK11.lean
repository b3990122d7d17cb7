/- The counter: what follows of its specification, in plain arithmetic. -/
import Derived.Test.YtfiggilfgjpodaaVK9
set_option linter.unusedSimpArgs false
set_option linter.unusedVariables false
namespace Go.Proofs.YtfiggilfgjpodaaK
open Go Go.Proofs.YtfiggilfgjpodaaV Go.Proofs

theorem clamp_id {n : Int} (h : 0 ≤ n) (h2 : n ≤ 9007199254740992) : clamp n = n := by unfold clamp; grind
theorem ltr_now {p : Pol} {s : Stt} (h : right p s) : ltr s s.t = s.t := by unfold right at h; unfold ltr; rw [clamp_id h.2.1 h.2.2.1]; omega
theorem ltr_zero {p : Pol} {s : Stt} (h : right p s) : ltr s 0 = s.t := by unfold right at h; unfold ltr; rw [clamp_id (by omega) (by omega)]; omega
theorem av_now {p : Pol} {s : Stt} (h : right p s) : av p s s.t = s.v := by unfold av; rw [ltr_now h]; simp
theorem av_zero {p : Pol} {s : Stt} (h : right p s) : av p s 0 = s.v := by unfold av; rw [ltr_zero h]; simp
theorem av_le {p : Pol} {s : Stt} (n : Int) (h : right p s) : 0 ≤ av p s n ∧ av p s n ≤ s.v := by unfold right at h; unfold av; grind
theorem ltr_mm {p : Pol} {s : Stt} (n : Int) (h : right p s) : s.t ≤ ltr s n ∧ ltr s n ≤ 9007199254740992 := by
  unfold right at h; unfold ltr clamp; grind
/-- What is done, in each part. -/
theorem do_in {p : Pol} {s : Stt} {a : Ac} (h : did p s a) : doN p s a = ⟨ltr s a.t, av p s a.t + (if a.k = 1 ∨ a.k = 4 then a.c else 0), s.h + (if a.k = 2 then a.c else if a.k = 1 then 0 else -a.c), Sl.nil⟩ := by
  simp only [doN, doS, doT, doV, doH, doG, if_pos h]
theorem do_take {p : Pol} {s : Stt} {t c : Int} (h : did p s ⟨1, t, c⟩) : doN p s ⟨1, t, c⟩ = ⟨ltr s t, av p s t + c, s.h, Sl.nil⟩ := by rw [do_in h]; simp
theorem do_hold {p : Pol} {s : Stt} {t c : Int} (h : did p s ⟨2, t, c⟩) : doN p s ⟨2, t, c⟩ = ⟨ltr s t, av p s t, s.h + c, Sl.nil⟩ := by rw [do_in h]; simp
theorem do_free {p : Pol} {s : Stt} {t c : Int} (h : did p s ⟨3, t, c⟩) : doN p s ⟨3, t, c⟩ = ⟨ltr s t, av p s t, s.h - c, Sl.nil⟩ := by rw [do_in h]; simp [Int.sub_eq_add_neg]
theorem do_keep {p : Pol} {s : Stt} {t c : Int} (h : did p s ⟨4, t, c⟩) : doN p s ⟨4, t, c⟩ = ⟨ltr s t, av p s t + c, s.h - c, Sl.nil⟩ := by rw [do_in h]; simp [Int.sub_eq_add_neg]
theorem do_out {p : Pol} {s : Stt} {a : Ac} (h : ¬did p s a) (hr : right p s) : doN p s a = ⟨s.t, s.v, s.h, s.g⟩ := by
  simp only [doN, doS, doT, doV, doH, doG, if_neg h, if_pos hr]
theorem right_do {p : Pol} {s : Stt} (a : Ac) (h : right p s) : right p (doN p s a) := by
  by_cases hd : did p s a
  · have h1 := av_le a.t h
    have h2 := ltr_mm a.t h
    rw [do_in hd]
    unfold did at hd
    unfold right at h ⊢
    refine ⟨h.1, ?_, h2.2, ?_, ?_, ?_, rfl⟩ <;> simp only <;> grind
  · rw [do_out hd h]; exact h
theorem right_new {p : Pol} (h : okP p) : right p (new_ p 0) := by
  have h' := h
  unfold okP at h'
  refine ⟨h, ?_, ?_, ?_, ?_, ?_, rfl⟩ <;> simp [new_, h, clamp] <;> omega
theorem adv_in {p : Pol} {s : Stt} (n : Int) (h : right p s) : adv p s n Sl.nil = ⟨ltr s n, av p s n, s.h, Sl.nil⟩ := by
  simp only [adv, advT, advV, advH, advG, if_pos h]
theorem right_adv {p : Pol} {s : Stt} (n : Int) (h : right p s) : right p (adv p s n Sl.nil) := by
  have h1 := av_le n h
  have h2 := ltr_mm n h
  rw [adv_in n h]
  unfold right at h ⊢
  refine ⟨h.1, ?_, h2.2, ?_, ?_, ?_, rfl⟩ <;> simp only <;> omega
theorem same_of {s t : Stt} (h : s.t = t.t ∧ s.v = t.v ∧ s.h = t.h) (h1 : s.g.n = 0) (h2 : t.g.n = 0) : same s t = true := same_yes h (lgE_nil h1 h2)
theorem same_out {p : Pol} {s : Stt} {a : Ac} (h : right p s) (hd : ¬did p s a) : same (doN p s a) s = true := by
  rw [do_out hd h]; exact same_yes ⟨rfl, rfl, rfl⟩ (lgE_refl _)
/-! ### In halves -/
theorem halves1 {p : Pol} {s : Stt} {x y : Int} (h : right p s) (hx : 1 ≤ x) (hy : 1 ≤ y) :
    did p s ⟨1, s.t, x + y⟩ ↔ did p s ⟨1, s.t, x⟩ ∧ did p (doN p s ⟨1, s.t, x⟩) ⟨1, s.t, y⟩ := by
  by_cases hd : did p s ⟨1, s.t, x⟩
  · have h2 := right_do ⟨1, s.t, x⟩ h
    rw [do_in hd] at h2 ⊢
    have e := av_now h2
    simp only at e
    rw [ltr_now h] at e h2 ⊢
    have e2 := av_now h
    simp only [did, h, h2, e, e2, true_and, and_true] at *
    grind
  · have e2 := av_now h
    simp only [did, h, e2, true_and] at *
    grind
theorem halves2 {p : Pol} {s : Stt} {x y : Int} (h : right p s) (hx : 1 ≤ x) (hy : 1 ≤ y) (hd : did p s ⟨1, s.t, x + y⟩) :
    same (doN p s ⟨1, s.t, x + y⟩) (doN p (doN p s ⟨1, s.t, x⟩) ⟨1, s.t, y⟩) = true := by
  obtain ⟨h1, h2⟩ := (halves1 h hx hy).1 hd
  have hr := right_do ⟨1, s.t, x⟩ h
  rw [do_in hd]
  rw [do_in h1] at h2 hr ⊢
  rw [do_in h2]
  simp only at h2 hr ⊢
  rw [ltr_now h, av_now h] at *
  have e := av_now hr
  have e2 := ltr_now hr
  simp only at e e2
  refine same_of ⟨?_, ?_, ?_⟩ rfl rfl <;> simp only [e, e2] <;> simp <;> omega
theorem halves3 {p : Pol} {s : Stt} {c : Int} : did p s ⟨2, s.t, c⟩ ↔ did p s ⟨1, s.t, c⟩ := by
  unfold did; simp
theorem halves4 {p : Pol} {s : Stt} {x y : Int} (h : right p s) (hx : 1 ≤ x) (hy : 1 ≤ y) (hd : did p s ⟨2, s.t, x + y⟩) :
    did p (doN p s ⟨2, s.t, x + y⟩) ⟨4, s.t, x⟩ ∧ did p (doN p (doN p s ⟨2, s.t, x + y⟩) ⟨4, s.t, x⟩) ⟨3, s.t, y⟩ ∧
    same (doN p (doN p (doN p s ⟨2, s.t, x + y⟩) ⟨4, s.t, x⟩) ⟨3, s.t, y⟩) (doN p s ⟨1, s.t, x⟩) = true := by
  have h1 := ((halves1 h hx hy).1 (halves3.1 hd)).1
  have hr := right_do ⟨2, s.t, x + y⟩ h
  rw [do_take h1]
  rw [do_hold hd] at hr ⊢
  rw [av_now h, ltr_now h] at *
  have a1 := av_now hr
  have l1 := ltr_now hr
  simp only at a1 l1
  have hd2 : did p ⟨s.t, s.v, s.h + (x + y), Sl.nil⟩ ⟨4, s.t, x⟩ := by
    refine ⟨hr, hx, Or.inr ⟨Or.inr rfl, ?_⟩⟩
    unfold right at h
    simp only; omega
  have hr2 := right_do ⟨4, s.t, x⟩ hr
  rw [do_keep hd2] at hr2 ⊢
  rw [a1, l1] at *
  have a2 := av_now hr2
  have l2 := ltr_now hr2
  simp only at a2 l2
  have hd3 : did p ⟨s.t, s.v + x, s.h + (x + y) - x, Sl.nil⟩ ⟨3, s.t, y⟩ := by
    refine ⟨hr2, hy, Or.inr ⟨Or.inl rfl, ?_⟩⟩
    unfold right at h
    simp only; omega
  refine ⟨hd2, hd3, ?_⟩
  rw [do_free hd3, a2, l2]
  refine same_of ⟨rfl, rfl, ?_⟩ rfl rfl
  simp only; omega
/-! ### What was held, and given back -/
theorem backs1 {p : Pol} {s : Stt} {n c : Int} (h : right p s) (hc : 1 ≤ c) : did p s ⟨2, n, c⟩ ↔ c ≤ room p s n := by
  have := av_le n h
  unfold room
  rw [if_pos h]
  simp only [did, h, true_and]
  constructor
  · rintro ⟨_, h2 | h2⟩
    · exact h2.2
    · omega
  · intro h2
    exact ⟨hc, Or.inl ⟨by simp, h2⟩⟩
theorem backs2 {p : Pol} {s : Stt} {n c : Int} : did p s ⟨2, n, c⟩ ↔ did p s ⟨1, n, c⟩ := by unfold did; simp
theorem ltr_two (s : Stt) (n v h : Int) (g : Sl) : ltr ⟨ltr s n, v, h, g⟩ n = ltr s n := by unfold ltr; simp only; omega
theorem av_two (p : Pol) (s : Stt) (n v h : Int) (g : Sl) : av p ⟨ltr s n, v, h, g⟩ n = v := by unfold av; rw [ltr_two]; simp
theorem backs3 {p : Pol} {s : Stt} {n c : Int} (h : right p s) (hd : did p s ⟨2, n, c⟩) :
    did p (doN p s ⟨2, n, c⟩) ⟨3, n, c⟩ ∧ did p (doN p s ⟨2, n, c⟩) ⟨4, n, c⟩ ∧ same (doN p (doN p s ⟨2, n, c⟩) ⟨3, n, c⟩) (adv p s n Sl.nil) = true ∧ same (doN p (doN p s ⟨2, n, c⟩) ⟨4, n, c⟩) (doN p s ⟨1, n, c⟩) = true := by
  have hc := hd.2.1
  have hr := right_do ⟨2, n, c⟩ h
  rw [do_take (backs2.1 hd), adv_in n h]
  rw [do_hold hd] at hr ⊢
  have h' := h
  unfold right at h'
  have d3 : did p ⟨ltr s n, av p s n, s.h + c, Sl.nil⟩ ⟨3, n, c⟩ := ⟨hr, hc, Or.inr ⟨Or.inl rfl, by simp only; omega⟩⟩
  have d4 : did p ⟨ltr s n, av p s n, s.h + c, Sl.nil⟩ ⟨4, n, c⟩ := ⟨hr, hc, Or.inr ⟨Or.inr rfl, by simp only; omega⟩⟩
  refine ⟨d3, d4, ?_, ?_⟩
  · rw [do_free d3, ltr_two, av_two]
    refine same_of ⟨rfl, rfl, ?_⟩ rfl rfl
    simp only; omega
  · rw [do_keep d4, ltr_two, av_two]
    refine same_of ⟨rfl, rfl, ?_⟩ rfl rfl
    simp only; omega
/-! ### As time goes by -/
theorem ltr_at {p : Pol} {s : Stt} {x : Int} (h : right p s) (hx : s.t ≤ x) (h2 : x ≤ 9007199254740992) : ltr s x = x := by
  unfold right at h; unfold ltr; rw [clamp_id (by omega) h2]; omega
theorem dv_mono {a b p : Int} (h : a ≤ b) (hp : 1 ≤ p) : dv a p ≤ dv b p := Int.ediv_le_ediv (by omega) h
theorem av_at {p : Pol} {s : Stt} {x : Int} (h : right p s) (hx : s.t ≤ x) (h2 : x ≤ 9007199254740992) : av p s x = if dv x p.p = dv s.t p.p then s.v else 0 := by
  unfold av; rw [ltr_at h hx h2]
theorem waits {p : Pol} {s : Stt} {x y : Int} (h : right p s) (hx : s.t ≤ x) (hy : x ≤ y) (h2 : y ≤ 9007199254740992) :
    same (adv p (adv p s x Sl.nil) y Sl.nil) (adv p s y Sl.nil) = true ∧ same (adv p (adv p s y Sl.nil) x Sl.nil) (adv p s y Sl.nil) = true ∧ (adv p s x Sl.nil).t = x ∧ (adv p s y Sl.nil).t = y ∧
    room p s x ≤ room p s y ∧ room p (adv p s x Sl.nil) y = room p s y ∧ right p (adv p s x Sl.nil) := by
  have hp : 1 ≤ p.p := h.1.2.2.2.1
  have rx := right_adv x h
  have ry := right_adv y h
  rw [adv_in x h, ltr_at h hx (by omega), av_at h hx (by omega)] at *
  rw [adv_in y h, ltr_at h (by omega) h2, av_at h (by omega) h2] at *
  have d1 := dv_mono hx hp
  have d2 := dv_mono hy hp
  have v0 : 0 ≤ s.v := h.2.2.2.2.1
  refine ⟨?_, ?_, rfl, rfl, ?_, ?_, rx⟩
  · rw [adv_in y rx, ltr_at rx hy h2, av_at rx hy h2]
    refine same_of ⟨rfl, ?_, rfl⟩ rfl rfl
    simp only; grind
  · have e : ltr ⟨y, if dv y p.p = dv s.t p.p then s.v else 0, s.h, Sl.nil⟩ x = y := by
      unfold ltr
      rw [clamp_id (by unfold right at h; omega) (by omega)]
      simp only; omega
    rw [adv_in x ry, e]
    refine same_of ⟨rfl, ?_, rfl⟩ rfl rfl
    simp only [av, e]; simp
  · unfold room
    rw [if_pos h, if_pos h, av_at h hx (by omega), av_at h (by omega) h2]
    grind
  · unfold room
    rw [if_pos h, if_pos rx, av_at rx hy h2, av_at h (by omega) h2]
    simp only; grind
/-! ### Some time later -/
theorem dv_next {n p : Int} (hp : 1 ≤ p) : dv (n + (p - md n p)) p = dv n p + 1 ∧ dv (n + (p - md n p) - 1) p = dv n p ∧ 1 ≤ p - md n p ∧ p - md n p ≤ p := by
  have e := Int.emod_add_mul_ediv n p
  have e1 := Int.emod_nonneg n (show p ≠ 0 by omega)
  have e2 := Int.emod_lt_of_pos n (show 0 < p by omega)
  unfold dv md
  refine ⟨?_, ?_, by omega, by omega⟩
  · have : n + (p - n % p) = p * (n / p + 1) := by rw [Int.mul_add]; omega
    rw [this, Int.mul_ediv_cancel_left _ (by omega)]
  · have : n + (p - n % p) - 1 = (p - 1) + p * (n / p) := by omega
    rw [this, Int.add_mul_ediv_left _ _ (by omega), Int.ediv_eq_zero_of_lt (by omega) (by omega)]
    omega
theorem retries {p : Pol} {s : Stt} {c : Int} (h : right p s) (ht : s.t ≤ 4503599627370496) (hc : mayC p s c) :
    0 ≤ retry p s 0 c ∧ retry p s 0 c ≤ 1099511627776 ∧ did p s ⟨1, s.t + retry p s 0 c, c⟩ ∧ (0 < retry p s 0 c → ¬did p s ⟨1, s.t + retry p s 0 c - 1, c⟩) := by
  have hp : 1 ≤ p.p := h.1.2.2.2.1
  have hp2 : p.p ≤ 1099511627776 := h.1.2.2.2.2.1
  obtain ⟨n1, n2, n3, n4⟩ := dv_next (n := s.t) hp
  have h' := h
  unfold right at h'
  obtain ⟨_, c1, c2⟩ := hc
  have hm : mayC p s c := ⟨h, c1, c2⟩
  unfold retry
  rw [ltr_zero h, av_zero h]
  by_cases hw : mayC p s c ∧ p.l - s.h - s.v < c
  · rw [if_pos hw]
    unfold next_
    refine ⟨by omega, by omega, ⟨h, c1, Or.inl ⟨Or.inl rfl, ?_⟩⟩, fun _ hd => ?_⟩
    · simp only
      rw [av_at h (by omega) (by omega), n1]
      grind
    · obtain ⟨_, _, hd | hd⟩ := hd
      · have := hd.2
        simp only at this
        rw [av_at h (by omega) (by omega), n2] at this
        simp at this; omega
      · simp at hd
  · rw [if_neg hw]
    refine ⟨by omega, by omega, ⟨h, c1, Or.inl ⟨Or.inl rfl, ?_⟩⟩, fun h0 => by omega⟩
    simp only [Int.add_zero]
    rw [av_now h]
    have : ¬(p.l - s.h - s.v < c) := fun h0 => hw ⟨hm, h0⟩
    omega
theorem untils {p : Pol} {s : Stt} (h : right p s) (ht : s.t ≤ 4503599627370496) :
    (until_ p s 0 < 0 ↔ 0 < s.h) ∧ until_ p s 0 ≤ 1099511627776 ∧ (0 ≤ until_ p s 0 → until_ p s (s.t + until_ p s 0) = 0 ∧ (until_ p s 0 ≠ 0 → 0 < until_ p s (s.t + until_ p s 0 - 1))) := by
  have hp : 1 ≤ p.p := h.1.2.2.2.1
  have hp2 : p.p ≤ 1099511627776 := h.1.2.2.2.2.1
  obtain ⟨n1, n2, n3, n4⟩ := dv_next (n := s.t) hp
  have h' := h
  unfold right at h'
  by_cases hh : s.h ≤ 0
  · have e : until_ p s 0 = if 0 < s.v then next_ p s.t else 0 := by
      unfold until_; rw [if_pos ⟨h, hh⟩, av_zero h, ltr_zero h]
    rw [e]
    by_cases hv : 0 < s.v
    · rw [if_pos hv]
      unfold next_
      refine ⟨by omega, by omega, fun _ => ⟨?_, fun _ => ?_⟩⟩
      · unfold until_
        rw [if_pos ⟨h, hh⟩, av_at h (by omega) (by omega), n1, if_neg (show ¬(dv s.t p.p + 1 = dv s.t p.p) by omega)]; simp
      · unfold until_
        rw [if_pos ⟨h, hh⟩, av_at h (by omega) (by omega), n2, if_pos rfl, if_pos hv, ltr_at h (by omega) (by omega)]
        unfold next_
        have := (dv_next (n := s.t + (p.p - md s.t p.p) - 1) hp).2.2.1
        omega
    · rw [if_neg hv]
      refine ⟨by omega, by omega, fun _ => ⟨?_, fun h0 => absurd rfl h0⟩⟩
      unfold until_
      rw [if_pos ⟨h, hh⟩, Int.add_zero, av_now h, if_neg hv]
  · have e : until_ p s 0 = -1 := by unfold until_; rw [if_neg (fun h0 => hh h0.2)]
    rw [e]
    exact ⟨by omega, by omega, fun h0 => by omega⟩
theorem until_ge {p : Pol} {s : Stt} (h : right p s) : -1 ≤ until_ p s 0 := by
  have hp : 1 ≤ p.p := h.1.2.2.2.1
  have := (dv_next (n := ltr s 0) hp).2.2.1
  unfold until_ next_
  split
  · split <;> omega
  · omega
theorem retry_bd {p : Pol} {s : Stt} {c : Int} (h : right p s) : 0 ≤ retry p s 0 c ∧ retry p s 0 c ≤ 1099511627776 := by
  have hp : 1 ≤ p.p := h.1.2.2.2.1
  have hp2 : p.p ≤ 1099511627776 := h.1.2.2.2.2.1
  have := (dv_next (n := ltr s 0) hp).2.2
  unfold retry next_
  split <;> omega
end Go.Proofs.YtfiggilfgjpodaaK
