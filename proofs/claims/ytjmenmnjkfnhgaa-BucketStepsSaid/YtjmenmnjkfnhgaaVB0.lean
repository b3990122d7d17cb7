import Derived.Test.YtjmenmnjkfnhgaaVN5
import Derived.Test.YtjmenmnjkfnhgaaVC0
set_option linter.unusedSimpArgs false
set_option linter.unusedVariables false
namespace Go.Proofs.YtjmenmnjkfnhgaaK
open Go Go.Proofs.YtjmenmnjkfnhgaaV Go.Proofs
theorem mul_fit {x y : Int} (h : 0 ≤ x) (h2 : x ≤ 1048576) (h3 : 0 ≤ y) (h4 : y ≤ 1099511627776) : IntKind.i64.wrap (x * y) = ml x y ∧ 0 ≤ ml x y ∧ ml x y ≤ 1152921504606846976 := by
  have h5 : 0 ≤ x * y := Int.mul_nonneg h h3
  have h6 : x * y ≤ 1048576 * 1099511627776 := Int.mul_le_mul h2 h4 h3 (by omega)
  exact ⟨wrap_id _ (by omega) (by omega), h5, by show x * y ≤ _; omega⟩
theorem ml_mono {x z y : Int} (h : x ≤ z) (hy : 0 ≤ y) : ml x y ≤ ml z y := Int.mul_le_mul_of_nonneg_right h hy
theorem ml_add (x z y : Int) : ml (x + z) y = ml x y + ml z y := Int.add_mul x z y
theorem ml_sub (x z y : Int) : ml (x - z) y = ml x y - ml z y := Int.sub_mul x z y
theorem ml_pos {x y : Int} (h : 1 ≤ x) (hy : 1 ≤ y) : 1 ≤ ml x y := by
  have := Int.mul_le_mul h hy (by omega) (by omega)
  unfold ml; omega
def okG (p : Pol) : Prop := p.k = 2 ∧ p.c = 0 ∧ 1 ≤ p.l ∧ p.l ≤ 1048576 ∧ 1 ≤ p.b ∧ p.b ≤ 1048576 ∧ 1 ≤ p.p ∧ p.p ≤ 1099511627776
instance (p : Pol) : Decidable (okG p) := by unfold okG; exact inferInstance
def chkG (p : Pol) : Int := if okG p then 0 else 2
def newG (p : Pol) (n : Int) : Stt := ⟨if okG p then clamp n else 0, 0, 0, Sl.nil⟩
def rightG (p : Pol) (s : Stt) : Prop := okG p ∧ 0 ≤ s.t ∧ s.t ≤ 9007199254740992 ∧ 0 ≤ s.h ∧ s.h ≤ p.b ∧ ml s.h p.p ≤ s.v ∧ s.v ≤ ml p.b p.p ∧ s.g.n = 0
instance (p : Pol) (s : Stt) : Decidable (rightG p s) := by unfold rightG; exact inferInstance
def ltr (s : Stt) (n : Int) : Int := max s.t (clamp n)
def avG (p : Pol) (s : Stt) (n : Int) : Int := max (ml s.h p.p) (s.v - ml (ltr s n - s.t) p.l)
def advT (p : Pol) (s : Stt) (n : Int) : Int := if rightG p s then ltr s n else 0
def advV (p : Pol) (s : Stt) (n : Int) : Int := if rightG p s then avG p s n else 0
def advH (p : Pol) (s : Stt) : Int := if rightG p s then s.h else 0
def advG (p : Pol) (s : Stt) (n : Int) : Stt := ⟨advT p s n, advV p s n, advH p s, Sl.nil⟩
def roomG (p : Pol) (s : Stt) (n : Int) : Int := if rightG p s then dv (ml p.b p.p - avG p s n) p.p else 0
def lst (p : Pol) (n : Int) : Int := if n ≤ 0 then 0 else cdv n p.l
def untG (p : Pol) (s : Stt) (n : Int) : Int := if rightG p s ∧ s.h ≤ 0 then lst p (avG p s n) else -1
def mayC (p : Pol) (s : Stt) (c : Int) : Prop := rightG p s ∧ 1 ≤ c ∧ c ≤ p.b - s.h
instance (p : Pol) (s : Stt) (c : Int) : Decidable (mayC p s c) := by unfold mayC; exact inferInstance
def retG (p : Pol) (s : Stt) (n c : Int) : Int := if mayC p s c then lst p (avG p s n - ml (p.b - c) p.p) else 0
def didG (p : Pol) (s : Stt) (a : Ac) : Prop := rightG p s ∧ 1 ≤ a.c ∧ a.c ≤ p.b ∧ ((a.k = 1 ∨ a.k = 2) ∧ avG p s a.t + ml a.c p.p ≤ ml p.b p.p ∨ (a.k = 3 ∨ a.k = 4) ∧ a.c ≤ s.h)
instance (p : Pol) (s : Stt) (a : Ac) : Decidable (didG p s a) := by unfold didG; exact inferInstance
def doT (p : Pol) (s : Stt) (a : Ac) : Int := if didG p s a then ltr s a.t else if rightG p s then s.t else 0
def doV (p : Pol) (s : Stt) (a : Ac) : Int := if didG p s a then avG p s a.t + (if a.k = 1 ∨ a.k = 2 then ml a.c p.p else if a.k = 3 then - ml a.c p.p else 0) else if rightG p s then s.v else 0
def doH (p : Pol) (s : Stt) (a : Ac) : Int := if didG p s a then s.h + (if a.k = 2 then a.c else if a.k = 1 then 0 else -a.c) else if rightG p s then s.h else 0
def doG (p : Pol) (s : Stt) (a : Ac) : Sl := if didG p s a then Sl.nil else if rightG p s then s.g else Sl.nil
def doN (p : Pol) (s : Stt) (a : Ac) : Stt := ⟨doT p s a, doV p s a, doH p s a, doG p s a⟩
theorem ltr_ge (s : Stt) (n : Int) : s.t ≤ ltr s n := by unfold ltr; omega
theorem ltr_le {s : Stt} (n : Int) (h : s.t ≤ 9007199254740992) : ltr s n ≤ 9007199254740992 := by unfold ltr clamp; split <;> (try split) <;> omega
/-- What the numbers of a right state lie between. -/
theorem rightG_bd {p : Pol} {s : Stt} (h : rightG p s) : 0 ≤ ml s.h p.p ∧ ml s.h p.p ≤ 1152921504606846976 ∧ 0 ≤ ml p.b p.p ∧ ml p.b p.p ≤ 1152921504606846976 ∧ IntKind.i64.wrap (s.h * p.p) = ml s.h p.p ∧ IntKind.i64.wrap (p.b * p.p) = ml p.b p.p := by
  obtain ⟨⟨_, _, _, _, h1, h2, h3, h4⟩, _, _, h5, h6, _⟩ := h
  obtain ⟨a1, a2, a3⟩ := mul_fit h5 (by omega) (by omega) h4
  obtain ⟨b1, b2, b3⟩ := mul_fit (x := p.b) (by omega) h2 (by omega) h4
  exact ⟨a2, a3, b2, b3, a1, b1⟩
theorem avG_bd {p : Pol} {s : Stt} (n : Int) (h : rightG p s) : ml s.h p.p ≤ avG p s n ∧ avG p s n ≤ s.v ∧ avG p s n ≤ ml p.b p.p := by
  have h1 := ltr_ge s n
  have h2 : 0 ≤ ml (ltr s n - s.t) p.l := Int.mul_nonneg (by omega) (by have := h.1.2.2.1; omega)
  have h3 := h.2.2.2.2.2.1
  have h4 := h.2.2.2.2.2.2.1
  unfold avG; omega
theorem lst_is {p : Pol} {n : Int} (h : okG p) : (if dvO 1 (max n 0) p.l then cdv (ml 1 (max n 0)) p.l else 0) = lst p n := by
  have hl : 1 ≤ p.l := h.2.2.1
  have hd : dvO 1 (max n 0) p.l := ⟨by omega, by omega, by omega⟩
  rw [if_pos hd]
  have e : ml 1 (max n 0) = max n 0 := by unfold ml; omega
  rw [e]
  unfold lst
  split
  · rename_i h0
    have e2 : max n 0 = 0 := by omega
    rw [e2]
    simp [cdv, dv, md]
  · rename_i h0
    have e2 : max n 0 = n := by omega
    rw [e2]
def of4 (n m b : Int) : Pol := ⟨1, n + 1, m + 1, b + 1, 0, false⟩
def ofP (n m b : Int) : Pol := ⟨2, n + 1, m + 1, b + 1, 0, false⟩
def pre16 (x : Int × Int × Int) : Prop := (0 ≤ x.1 ∧ x.1 < 65536) ∧ (0 ≤ x.2.1 ∧ x.2.1 < 65536) ∧ 0 ≤ x.2.2 ∧ x.2.2 < 65536
theorem w16 {n : Int} (h : 0 ≤ n) (h2 : n < 65536) : IntKind.i64.wrap n = n ∧ IntKind.i64.wrap (1 + n) = n + 1 := ⟨wrap_id _ (by omega) (by omega), by rw [wrap_id _ (by omega) (by omega)]; omega⟩
def kSmall (sg : Sig) : Sig × Con := (sg, mkFun (fun l : Sl => [l.atom]) (fun _ => True) (fun l => [aB (decide ((l.n : Int) ≤ 60))]))
def okB (p : Pol) : Prop := p.k = 1 ∧ 1 ≤ p.l ∧ p.l ≤ 1048576 ∧ 1 ≤ p.b ∧ p.b ≤ 1048576 ∧ 1 ≤ p.p ∧ p.p ≤ 1099511627776 ∧ p.c = 0
instance (p : Pol) : Decidable (okB p) := by unfold okB; exact inferInstance
def chk4 (p : Pol) : Int := if okB p then 0 else 2
theorem dvl_spec {n l : Int} (h : 0 ≤ n) (hl : 1 ≤ l) : n = ml (dv n l) l + md n l ∧ 0 ≤ md n l ∧ md n l < l ∧ 0 ≤ dv n l ∧ dv n l ≤ n := by
  have e := Int.emod_add_mul_ediv n l
  refine ⟨?_, Int.emod_nonneg n (by omega), Int.emod_lt_of_pos n (by omega), (dv_ok n l h hl).1, (dv_ok n l h hl).2⟩
  unfold ml dv md
  rw [Int.mul_comm]; omega
theorem clamp_bd (n : Int) : 0 ≤ clamp n ∧ clamp n ≤ 9007199254740992 := by unfold clamp; split <;> (try split) <;> omega
theorem mulV_cases (a b : Int) : (mulO a b ∧ mulV a b = ml a b) ∨ (¬mulO a b ∧ mulV a b = 0) := by
  unfold mulV; by_cases h : mulO a b
  · exact Or.inl ⟨h, by rw [if_pos h]⟩
  · exact Or.inr ⟨h, by rw [if_neg h]⟩
instance (a : Int) : Decidable (in64 a) := by unfold in64; exact inferInstance
def okv (n : Int) : Int := if in64 n then n else 0
def newB (p : Pol) (n : Int) : Stt := ⟨if okB p then clamp n else 0, if okB p then ml p.b p.p else 0, 0, Sl.nil⟩
def rightB (p : Pol) (s : Stt) : Prop := okB p ∧ 0 ≤ s.t ∧ s.t ≤ 9007199254740992 ∧ 0 ≤ s.h ∧ s.h ≤ p.b ∧ 0 ≤ s.v ∧ s.v ≤ ml (p.b - s.h) p.p ∧ s.g.n = 0
instance (p : Pol) (s : Stt) : Decidable (rightB p s) := by unfold rightB; exact inferInstance
def avB (p : Pol) (s : Stt) (n : Int) : Int := min (ml (p.b - s.h) p.p) (s.v + ml (ltr s n - s.t) p.l)
def advBT (p : Pol) (s : Stt) (n : Int) : Int := if rightB p s then ltr s n else 0
def advBV (p : Pol) (s : Stt) (n : Int) : Int := if rightB p s then avB p s n else 0
def advBH (p : Pol) (s : Stt) : Int := if rightB p s then s.h else 0
def advBL (p : Pol) (s : Stt) : Sl := if rightB p s then s.g else Sl.nil
def advBR (p : Pol) (s : Stt) (n : Int) : Stt := ⟨advBT p s n, advBV p s n, advBH p s, advBL p s⟩
def roomB (p : Pol) (s : Stt) (n : Int) : Int := if rightB p s then dv (avB p s n) p.p else 0
def untB (p : Pol) (s : Stt) (n : Int) : Int := if rightB p s ∧ s.h ≤ 0 then lst p (ml p.b p.p - avB p s n) else -1
def mayB (p : Pol) (s : Stt) (c : Int) : Prop := rightB p s ∧ 1 ≤ c ∧ c ≤ p.b - s.h
instance (p : Pol) (s : Stt) (c : Int) : Decidable (mayB p s c) := by unfold mayB; exact inferInstance
def retB (p : Pol) (s : Stt) (n c : Int) : Int := if mayB p s c then lst p (ml c p.p - avB p s n) else 0
def didB (p : Pol) (s : Stt) (a : Ac) : Prop := rightB p s ∧ 1 ≤ a.c ∧ ((a.k = 1 ∨ a.k = 2) ∧ ml a.c p.p ≤ avB p s a.t ∨ (a.k = 3 ∨ a.k = 4) ∧ a.c ≤ s.h)
instance (p : Pol) (s : Stt) (a : Ac) : Decidable (didB p s a) := by unfold didB; exact inferInstance
def doBT (p : Pol) (s : Stt) (a : Ac) : Int := if didB p s a then ltr s a.t else if rightB p s then s.t else 0
def doBV (p : Pol) (s : Stt) (a : Ac) : Int := if didB p s a then avB p s a.t + (if a.k = 1 ∨ a.k = 2 then -ml a.c p.p else if a.k = 3 then ml a.c p.p else 0) else if rightB p s then s.v else 0
def doBH (p : Pol) (s : Stt) (a : Ac) : Int := if didB p s a then s.h + (if a.k = 2 then a.c else if a.k = 1 then 0 else -a.c) else if rightB p s then s.h else 0
def doBL (p : Pol) (s : Stt) (a : Ac) : Sl := if rightB p s then s.g else Sl.nil
def doBR (p : Pol) (s : Stt) (a : Ac) : Stt := ⟨doBT p s a, doBV p s a, doBH p s a, doBL p s a⟩
theorem rightB_bd {p : Pol} {s : Stt} (h : rightB p s) : 0 ≤ ml (p.b - s.h) p.p ∧ ml (p.b - s.h) p.p ≤ 1152921504606846976 ∧ 0 ≤ ml p.b p.p ∧ ml p.b p.p ≤ 1152921504606846976 ∧ IntKind.i64.wrap (p.b - s.h) = p.b - s.h ∧ IntKind.i64.wrap ((p.b - s.h) * p.p) = ml (p.b - s.h) p.p ∧ IntKind.i64.wrap (p.b * p.p) = ml p.b p.p ∧ ml (p.b - s.h) p.p ≤ ml p.b p.p := by
  obtain ⟨⟨_, _, _, h1, h2, h3, h4, _⟩, _, _, h5, h6, _⟩ := h
  obtain ⟨a1, a2, a3⟩ := mul_fit (x := p.b - s.h) (y := p.p) (by omega) (by omega) (by omega) h4
  obtain ⟨b1, b2, b3⟩ := mul_fit (x := p.b) (by omega) h2 (by omega) h4
  exact ⟨a2, a3, b2, b3, wrap_id _ (by omega) (by omega), a1, b1, ml_mono (by omega) (by omega)⟩
theorem avB_bd {p : Pol} {s : Stt} (n : Int) (h : rightB p s) : s.v ≤ avB p s n ∧ avB p s n ≤ ml (p.b - s.h) p.p ∧ 0 ≤ avB p s n := by
  have h1 := ltr_ge s n
  have h2 : 0 ≤ ml (ltr s n - s.t) p.l := Int.mul_nonneg (by omega) (by have := h.1.2.1; omega)
  have h3 := h.2.2.2.2.2.1
  have h4 := h.2.2.2.2.2.2.1
  unfold avB; omega
theorem roomB_iff {p : Pol} {s : Stt} (n c : Int) (h : rightB p s) : c ≤ roomB p s n ↔ ml c p.p ≤ avB p s n := by
  have hp : 1 ≤ p.p := h.1.2.2.2.2.2.1
  unfold roomB dv
  rw [if_pos h, Int.le_ediv_iff_mul_le (by omega)]
  unfold ml; exact Iff.rfl
theorem ml_leq {x y p : Int} (hp : 1 ≤ p) (h : ml x p ≤ ml y p) : x ≤ y := Int.le_of_mul_le_mul_right h (by omega)
theorem lst_up {n l : Int} (hn : 0 < n) (hl : 1 ≤ l) : (n + l - 1) / l = cdv n l := by
  have e := Int.emod_add_mul_ediv n l
  have e1 := Int.emod_nonneg n (show l ≠ 0 by omega)
  have e2 := Int.emod_lt_of_pos n (show 0 < l by omega)
  unfold cdv dv md
  by_cases h : 0 < n % l
  · rw [if_pos h, show n + l - 1 = (n % l - 1) + l * (n / l + 1) by rw [Int.mul_add]; omega, Int.add_mul_ediv_left _ _ (by omega), Int.ediv_eq_zero_of_lt (by omega) (by omega)]; omega
  · rw [if_neg h, show n + l - 1 = (l - 1) + l * (n / l) by omega, Int.add_mul_ediv_left _ _ (by omega), Int.ediv_eq_zero_of_lt (by omega) (by omega)]; omega
theorem dv_floor (a p : Int) (hp : 1 ≤ p) : dv (a - md a p) p = dv a p := by
  have e := Int.emod_add_mul_ediv a p
  unfold dv md
  rw [show a - a % p = p * (a / p) by omega, Int.mul_ediv_cancel_left _ (by omega)]
end Go.Proofs.YtjmenmnjkfnhgaaK
