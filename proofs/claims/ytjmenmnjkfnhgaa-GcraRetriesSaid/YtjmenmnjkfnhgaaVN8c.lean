/- Gcra: what is told to have room some time later. -/
import Derived.Test.YtjmenmnjkfnhgaaVN8b
set_option linter.unusedSimpArgs false
set_option linter.unusedVariables false
namespace Go.Proofs.YtjmenmnjkfnhgaaK
open Go Go.Proofs.YtjmenmnjkfnhgaaV Go.Proofs
theorem lst_spec {p : Pol} {n : Int} (h : okG p) : 0 ≤ lst p n ∧ n ≤ ml (lst p n) p.l ∧ (0 < lst p n → ml (lst p n - 1) p.l < n) ∧ lst p n ≤ max n 0 ∧ (0 < n → 0 < lst p n) ∧ (n ≤ 0 → lst p n = 0) := by
  unfold lst
  by_cases hn : n ≤ 0
  · rw [if_pos hn, ml_zero]; omega
  · rw [if_neg hn]
    have := cdv_spec (n := n) (l := p.l) (by omega) h.2.2.1
    omega
theorem take_iff {p : Pol} {s : Stt} {c t : Int} (h : rightG p s) (hc : mayC p s c) (hx : s.t ≤ t) (h2 : t ≤ 9007199254740992) :
    didG p s ⟨1, t, c⟩ ↔ s.v - ml (p.b - c) p.p ≤ ml (t - s.t) p.l := by
  have hp : 1 ≤ p.p := h.1.2.2.2.2.2.2.1
  have hh : 0 ≤ s.h := h.2.2.2.1
  have e := av_at h hx h2
  have m1 := ml_sub p.b c p.p
  have m2 : ml s.h p.p ≤ ml (p.b - c) p.p := ml_mono (by have := hc.2.2; omega) (by omega)
  unfold didG
  rw [e]
  have c1 := hc.2.1
  have c2 := hc.2.2
  constructor
  · rintro ⟨_, _, _, ⟨_, h3⟩ | ⟨h3, _⟩⟩
    · simp only at h3; omega
    · simp at h3
  · intro h3
    exact ⟨h, c1, by simp only; omega, Or.inl ⟨by simp, by simp only; omega⟩⟩
theorem retries {p : Pol} {s : Stt} {c : Int} (h : rightG p s) (ht : s.t ≤ 4503599627370496) (hb : ml p.b p.p ≤ 4294967296) (hc : mayC p s c) :
    didG p s ⟨1, s.t + retG p s 0 c, c⟩ ∧ (0 < retG p s 0 c → ¬didG p s ⟨1, s.t + retG p s 0 c - 1, c⟩) := by
  have hp : 1 ≤ p.p := h.1.2.2.2.2.2.2.1
  have h7 := h.2.2.2.2.2.2.1
  have m0 : 0 ≤ ml (p.b - c) p.p := Int.mul_nonneg (by have := hc.2.2; have := h.2.2.2.1; omega) (by omega)
  unfold retG
  rw [if_pos hc, av_zero h]
  obtain ⟨l1, l2, l3, l4, _, _⟩ := lst_spec (p := p) (n := s.v - ml (p.b - c) p.p) h.1
  refine ⟨(take_iff h hc (by omega) (by omega)).2 (by rw [show s.t + lst p (s.v - ml (p.b - c) p.p) - s.t = lst p (s.v - ml (p.b - c) p.p) by omega]; exact l2), fun h0 hd => ?_⟩
  have := (take_iff h hc (by omega) (by omega)).1 hd
  rw [show s.t + lst p (s.v - ml (p.b - c) p.p) - 1 - s.t = lst p (s.v - ml (p.b - c) p.p) - 1 by omega] at this
  have := l3 h0
  omega
theorem retry_bd {p : Pol} {s : Stt} {c : Int} (h : rightG p s) (hb : ml p.b p.p ≤ 4294967296) : 0 ≤ retG p s 0 c ∧ retG p s 0 c ≤ 4294967296 := by
  unfold retG
  by_cases hc : mayC p s c
  · rw [if_pos hc, av_zero h]
    have hp : 1 ≤ p.p := h.1.2.2.2.2.2.2.1
    have h7 := h.2.2.2.2.2.2.1
    have m0 : 0 ≤ ml (p.b - c) p.p := Int.mul_nonneg (by have := hc.2.2; have := h.2.2.2.1; omega) (by omega)
    have := lst_spec (p := p) (n := s.v - ml (p.b - c) p.p) h.1
    omega
  · rw [if_neg hc]; omega
theorem until_bd {p : Pol} {s : Stt} (h : rightG p s) (hb : ml p.b p.p ≤ 4294967296) : -1 ≤ untG p s 0 ∧ untG p s 0 ≤ 4294967296 := by
  have h7 := h.2.2.2.2.2.2.1
  unfold untG
  split
  · rw [av_zero h]
    have := lst_spec (p := p) (n := s.v) h.1
    omega
  · omega
theorem untils {p : Pol} {s : Stt} (h : rightG p s) (ht : s.t ≤ 4503599627370496) (hb : ml p.b p.p ≤ 4294967296) :
    (untG p s 0 < 0 ↔ 0 < s.h) ∧ (0 ≤ untG p s 0 → untG p s (s.t + untG p s 0) = 0 ∧ (untG p s 0 ≠ 0 → 0 < untG p s (s.t + untG p s 0 - 1))) := by
  have h7 := h.2.2.2.2.2.2.1
  have h8 := h.2.2.2.1
  have h9 := h.2.2.2.2.2.1
  by_cases hh : s.h ≤ 0
  · have e : ∀ t, untG p s t = lst p (avG p s t) := fun t => by unfold untG; rw [if_pos ⟨h, hh⟩]
    have h0 : s.h = 0 := by omega
    obtain ⟨l1, l2, l3, l4, l5, l6⟩ := lst_spec (p := p) (n := s.v) h.1
    rw [e 0, av_zero h]
    refine ⟨by omega, fun _ => ⟨?_, fun hne => ?_⟩⟩
    · rw [e, av_at h (by omega) (by omega), h0, ml_zero]
      rw [show s.t + lst p s.v - s.t = lst p s.v by omega]
      exact (lst_spec h.1).2.2.2.2.2 (by omega)
    · rw [e, av_at h (by omega) (by omega), h0, ml_zero]
      rw [show s.t + lst p s.v - 1 - s.t = lst p s.v - 1 by omega]
      have := l3 (by omega)
      exact (lst_spec h.1).2.2.2.2.1 (by omega)
  · have e : untG p s 0 = -1 := by unfold untG; rw [if_neg (fun h0 => hh h0.2)]
    rw [e]
    exact ⟨by omega, fun h0 => by omega⟩
end Go.Proofs.YtjmenmnjkfnhgaaK
