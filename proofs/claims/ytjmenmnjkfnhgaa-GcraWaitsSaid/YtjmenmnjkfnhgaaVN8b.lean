/- Gcra: as time goes by; some time later. -/
import Derived.Test.YtjmenmnjkfnhgaaVN8
set_option linter.unusedSimpArgs false
set_option linter.unusedVariables false
namespace Go.Proofs.YtjmenmnjkfnhgaaK
open Go Go.Proofs.YtjmenmnjkfnhgaaV Go.Proofs
theorem ltr_at {p : Pol} {s : Stt} {x : Int} (h : rightG p s) (hx : s.t ≤ x) (h2 : x ≤ 9007199254740992) : ltr s x = x := by
  have h3 := h.2.1
  unfold ltr; rw [clamp_id (by omega) h2]; omega
theorem av_at {p : Pol} {s : Stt} {x : Int} (h : rightG p s) (hx : s.t ≤ x) (h2 : x ≤ 9007199254740992) : avG p s x = max (ml s.h p.p) (s.v - ml (x - s.t) p.l) := by
  unfold avG; rw [ltr_at h hx h2]
theorem waits {p : Pol} {s : Stt} {x y : Int} (h : rightG p s) (hx : s.t ≤ x) (hy : x ≤ y) (h2 : y ≤ 9007199254740992) :
    same (advG p (advG p s x) y) (advG p s y) = true ∧ same (advG p (advG p s y) x) (advG p s y) = true ∧ (advG p s x).t = x ∧ (advG p s y).t = y ∧
    roomG p s x ≤ roomG p s y ∧ roomG p (advG p s x) y = roomG p s y ∧ rightG p (advG p s x) := by
  have hl : 1 ≤ p.l := h.1.2.2.1
  have hp : 1 ≤ p.p := h.1.2.2.2.2.2.2.1
  have rx := right_adv x h
  have ry := right_adv y h
  have bx := avG_bd x h
  have by_ := avG_bd y h
  have m1 : ml (x - s.t) p.l ≤ ml (y - s.t) p.l := ml_mono (by omega) (by omega)
  have m2 : ml (y - s.t) p.l = ml (x - s.t) p.l + ml (y - x) p.l := by
    have := ml_add (x - s.t) (y - x) p.l
    rw [show x - s.t + (y - x) = y - s.t by omega] at this; exact this
  have m3 : 0 ≤ ml (y - x) p.l := Int.mul_nonneg (by omega) (by omega)
  have ex := av_at h hx (by omega)
  have ey := av_at h (show s.t ≤ y by omega) h2
  rw [adv_in x h, ltr_at h hx (by omega)] at *
  rw [adv_in y h, ltr_at h (by omega) h2] at *
  have e1 : avG p ⟨x, avG p s x, s.h, Sl.nil⟩ y = avG p s y := by
    rw [av_at rx hy h2, ex, ey]
    simp only; omega
  have c0 : 0 ≤ x := by have := h.2.1; omega
  have lx : ltr ⟨y, avG p s y, s.h, Sl.nil⟩ x = y := by
    unfold ltr; rw [clamp_id c0 (by omega)]; simp only; omega
  refine ⟨?_, ?_, rfl, rfl, ?_, ?_, rx⟩
  · rw [adv_in y rx, ltr_at rx hy h2, e1]
    exact same_of ⟨rfl, rfl, rfl⟩ rfl rfl
  · rw [adv_in x ry, lx]
    refine same_of ⟨rfl, ?_, rfl⟩ rfl rfl
    have e2 : avG p ⟨y, avG p s y, s.h, Sl.nil⟩ x = max (ml s.h p.p) (avG p s y - ml (ltr ⟨y, avG p s y, s.h, Sl.nil⟩ x - y) p.l) := rfl
    rw [lx, Int.sub_self, ml_zero] at e2
    show avG p ⟨y, avG p s y, s.h, Sl.nil⟩ x = avG p s y
    rw [e2]; omega
  · unfold roomG
    rw [if_pos h, if_pos h]
    exact Int.ediv_le_ediv (by omega) (by omega)
  · unfold roomG
    rw [if_pos rx, if_pos h, e1]
/-! ### Some time later -/
theorem cdv_spec {n l : Int} (hn : 0 < n) (hl : 1 ≤ l) : 1 ≤ cdv n l ∧ n ≤ ml (cdv n l) l ∧ ml (cdv n l - 1) l < n ∧ cdv n l ≤ n := by
  have e := Int.emod_add_mul_ediv n l
  have e1 := Int.emod_nonneg n (show l ≠ 0 by omega)
  have e2 := Int.emod_lt_of_pos n (show 0 < l by omega)
  have e3 : 0 ≤ n / l := Int.ediv_nonneg (by omega) (by omega)
  have e4 : n / l ≤ n := Int.ediv_le_self l (by omega)
  have c : l * (n / l) = ml (n / l) l := Int.mul_comm _ _
  rw [c] at e
  unfold cdv dv md
  by_cases h : 0 < n % l
  · rw [if_pos h]
    have a1 := ml_add (n / l) 1 l
    have a2 : ml 1 l = l := Int.one_mul l
    have a3 : n / l + 1 - 1 = n / l := by omega
    rw [a3]
    refine ⟨by omega, by omega, by omega, ?_⟩
    by_cases h5 : n / l = n
    · rw [h5] at e
      have : n * 1 ≤ n * l := Int.mul_le_mul_of_nonneg_left hl (by omega)
      unfold ml at e; omega
    · omega
  · rw [if_neg h, Int.add_zero]
    have a1 := ml_sub (n / l) 1 l
    have a2 : ml 1 l = l := Int.one_mul l
    refine ⟨?_, by omega, by omega, e4⟩
    by_cases h5 : n / l = 0
    · rw [h5, ml_zero] at e; omega
    · omega
theorem lst_bd {p : Pol} {n : Int} (h : okG p) (hn : n ≤ 1152921504606846976) : 0 ≤ lst p n ∧ lst p n ≤ 1152921504606846976 := by
  unfold lst
  split
  · omega
  · have := cdv_spec (n := n) (l := p.l) (by omega) h.2.2.1
    omega
end Go.Proofs.YtjmenmnjkfnhgaaK
