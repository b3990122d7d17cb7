/- A debt is what a bucket lacks. -/
import Derived.Test.YtjmenmnjkfnhgaaVR4v
import Derived.Test.YtjmenmnjkfnhgaaVN8m
set_option linter.unusedSimpArgs false
set_option linter.unusedVariables false
namespace Go.Proofs.YtjmenmnjkfnhgaaK
open Go Go.Proofs.YtjmenmnjkfnhgaaV Go.Proofs
def dual (p q : Pol) (s t : Stt) : Prop := p.l = q.l ∧ p.p = q.p ∧ p.b = q.b ∧ rightG p s ∧ rightB q t ∧ s.t = t.t ∧ s.h = t.h ∧ s.v + t.v = ml p.b p.p
theorem dual_av {p q : Pol} {s t : Stt} (n : Int) (h : dual p q s t) : ltr s n = ltr t n ∧ avG p s n + avB q t n = ml p.b p.p ∧ ml (q.b - t.h) q.p = ml p.b p.p - ml s.h p.p := by
  obtain ⟨h1, h2, h3, hr, hb, h4, h5, h6⟩ := h
  have e1 : ltr s n = ltr t n := by unfold ltr; rw [h4]
  have e2 : ml (q.b - t.h) q.p = ml p.b p.p - ml s.h p.p := by rw [← h3, ← h5, ← h2]; exact ml_sub _ _ _
  refine ⟨e1, ?_, e2⟩
  unfold avG avB
  rw [e2, ← e1, ← h4, ← h1]
  omega
theorem dual_did {p q : Pol} {s t : Stt} (a : Ac) (h : dual p q s t) : didG p s a ↔ didB q t a := by
  obtain ⟨e1, e2, e3⟩ := dual_av a.t h
  obtain ⟨h1, h2, h3, hr, hb, h4, h5, h6⟩ := h
  have hp : 1 ≤ p.p := hr.1.2.2.2.2.2.2.1
  have b1 := avG_bd a.t hr
  have b2 := rightG_bd hr
  have hh := hr.2.2.2.1
  have hh2 := hr.2.2.2.2.1
  unfold didG didB
  rw [← h2, ← h5]
  constructor
  · rintro ⟨_, c1, c2, c3 | c3⟩
    · exact ⟨hb, c1, Or.inl ⟨c3.1, by omega⟩⟩
    · exact ⟨hb, c1, Or.inr c3⟩
  · rintro ⟨_, c1, c3 | c3⟩
    · refine ⟨hr, c1, ml_leq hp (by omega), Or.inl ⟨c3.1, by omega⟩⟩
    · exact ⟨hr, c1, by omega, Or.inr c3⟩
theorem dual_do {p q : Pol} {s t : Stt} (a : Ac) (h : dual p q s t) : dual p q (doN p s a) (doBR q t a) := by
  have hd := dual_did a h
  obtain ⟨e1, e2, e3⟩ := dual_av a.t h
  have h0 := h
  obtain ⟨h1, h2, h3, hr, hb, h4, h5, h6⟩ := h
  have hp : 1 ≤ p.p := hr.1.2.2.2.2.2.2.1
  have rr := right_do a hr
  have b1 := avG_bd a.t hr
  by_cases hc : didG p s a
  · have hc2 := hd.1 hc
    have t1 : (doN p s a).t = (doBR q t a).t := by simp only [doN, doBR, doT, doBT, if_pos hc, if_pos hc2, e1]
    have t2 : (doN p s a).h = (doBR q t a).h := by simp only [doN, doBR, doH, doBH, if_pos hc, if_pos hc2, h5]
    have t3 : (doN p s a).v + (doBR q t a).v = ml p.b p.p := by
      simp only [doN, doBR, doV, doBV, if_pos hc, if_pos hc2, ← h2]
      split <;> (try split) <;> omega
    have g0 : (doBR q t a).g.n = 0 := by simp only [doBR, doBL, if_pos hb]; exact hb.2.2.2.2.2.2.2
    refine ⟨h1, h2, h3, rr, ?_, t1, t2, t3⟩
    obtain ⟨_, r1, r2, r3, r4, r5, r6, _⟩ := rr
    refine ⟨hb.1, by omega, by omega, by omega, by omega, by omega, ?_, g0⟩
    have := ml_sub q.b (doBR q t a).h q.p
    rw [← h2, ← h3, ← t2] at this ⊢
    omega
  · have hc2 : ¬didB q t a := fun h => hc (hd.2 h)
    have t1 : doN p s a = ⟨s.t, s.v, s.h, s.g⟩ := do_out hc hr
    have t2 : doBR q t a = ⟨t.t, t.v, t.h, t.g⟩ := by simp only [doBR, doBT, doBV, doBH, doBL, if_neg hc2, if_pos hb]
    rw [t1, t2]
    exact h0
theorem dual_told {p q : Pol} {s t : Stt} (n c : Int) (h : dual p q s t) : retG p s n c = retB q t n c ∧ (mayC p s c ↔ mayB q t c) ∧ roomG p s n = roomB q t n ∧ untG p s n = untB q t n := by
  obtain ⟨e1, e2, e3⟩ := dual_av n h
  obtain ⟨h1, h2, h3, hr, hb, h4, h5, h6⟩ := h
  have hm : mayC p s c ↔ mayB q t c := by unfold mayC mayB; rw [h3, h5]; exact ⟨fun h => ⟨hb, h.2⟩, fun h => ⟨hr, h.2⟩⟩
  have el : ∀ x, lst p x = lst q x := fun x => by unfold lst; rw [h1]
  refine ⟨?_, hm, ?_, ?_⟩
  · unfold retG retB
    by_cases hc : mayC p s c
    · rw [if_pos hc, if_pos (hm.1 hc), el]
      congr 1
      have := ml_sub p.b c p.p
      rw [← h2]; omega
    · rw [if_neg hc, if_neg (fun h => hc (hm.2 h))]
  · unfold roomG roomB
    rw [if_pos hr, if_pos hb, ← h2]
    congr 1; omega
  · unfold untG untB
    rw [← h5]
    by_cases hc : s.h ≤ 0
    · rw [if_pos ⟨hr, hc⟩, if_pos ⟨hb, hc⟩, el]
      congr 1; rw [← h3, ← h2]; omega
    · rw [if_neg (fun h => hc h.2), if_neg (fun h => hc h.2)]
theorem dual_new {p q : Pol} (h1 : p.l = q.l) (h2 : p.p = q.p) (h3 : p.b = q.b) (hp : okG p) (hq : okB q) : dual p q (newG p 0) (newB q 0) := by
  have rg := right_new hp
  have hb := rightG_bd rg
  have m0 : ml 0 p.p = 0 := Int.zero_mul _
  refine ⟨h1, h2, h3, rg, ?_, ?_, rfl, ?_⟩
  · refine ⟨hq, ?_, ?_, ?_, ?_, ?_, ?_, rfl⟩ <;> simp only [newB, if_pos hq, ← h2, ← h3]
    · unfold clamp; decide
    · unfold clamp; decide
    · omega
    · have := hp.2.2.2.2.1; omega
    · exact hb.2.2.1
    · rw [Int.sub_zero]; exact Int.le_refl _
  · simp only [newG, newB, if_pos hp, if_pos hq]
  · simp only [newG, newB, if_pos hq, ← h2, ← h3, Int.zero_add]
end Go.Proofs.YtjmenmnjkfnhgaaK
