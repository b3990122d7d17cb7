/- The digits of numbers, base 65536: quotients. -/
import Derived.Test.YtmhfooalcohpgaaVR1q2
set_option linter.unusedSimpArgs false
set_option linter.unusedVariables false
namespace Go.Proofs.YtmhfooalcohpgaaV
open Go Go.RowKit Go.Proofs.YtmhfooalcohpgaaW.PrintWords Go.Proofs.YtmhfooalcohpgaaW.PrintMore Go.Proofs.Ytmhfooalcohpgaa.PNumParts
def val : List Int → Int
  | [] => 0
  | d :: l => d + 65536 * val l
def dig (l : List Int) : Prop := ∀ d ∈ l, 0 ≤ d ∧ d < 65536
def pw : Nat → Int
  | 0 => 1
  | n + 1 => 65536 * pw n
theorem pw_pos (n : Nat) : 1 ≤ pw n := by induction n with
  | zero => decide
  | succ n ih => unfold pw; omega
theorem dig_cons {d : Int} {l : List Int} : dig (d :: l) ↔ (0 ≤ d ∧ d < 65536) ∧ dig l := by simp [dig]
theorem dig_nil : dig [] := by simp [dig]
theorem dig_app {l m : List Int} (h : dig l) (h2 : dig m) : dig (l ++ m) := by
  intro d hd; rcases List.mem_append.1 hd with h3 | h3
  · exact h d h3
  · exact h2 d h3
theorem dig_drop {l : List Int} (h : dig l) (i : Nat) : dig (l.drop i) := fun d hd => h d (List.mem_of_mem_drop hd)
theorem val_bd {l : List Int} (h : dig l) : 0 ≤ val l ∧ val l < pw l.length := by
  induction l with
  | nil => simp [val, pw]
  | cons d l ih =>
    obtain ⟨h1, h2⟩ := dig_cons.1 h
    have := ih h2
    simp only [val, pw, List.length_cons]; omega
def gd (l : List Int) (i : Nat) : Int := l.getD i 0
theorem val_drop (l : List Int) (i : Nat) : val (l.drop i) = gd l i + 65536 * val (l.drop (i + 1)) := by
  unfold gd
  by_cases h : i < l.length
  · rw [List.drop_eq_getElem_cons h]; simp [val, List.getD_eq_getElem?_getD, h]
  · rw [List.drop_eq_nil_of_le (by omega), List.drop_eq_nil_of_le (by omega)]
    simp [val, List.getD_eq_getElem?_getD, show l.length ≤ i by omega]
theorem val_over {l : List Int} {i : Nat} (h : l.length ≤ i) : val (l.drop i) = 0 := by rw [List.drop_eq_nil_of_le h]; rfl
theorem gd_bd {l : List Int} (h : dig l) (i : Nat) : 0 ≤ gd l i ∧ gd l i < 65536 := by
  unfold gd
  by_cases hi : i < l.length
  · simp only [List.getD_eq_getElem?_getD, List.getElem?_eq_getElem hi, Option.getD_some]; exact h _ (List.getElem_mem hi)
  · simp [List.getD_eq_getElem?_getD, show l.length ≤ i by omega]
theorem gd_over {l : List Int} {i : Nat} (h : l.length ≤ i) : gd l i = 0 := by unfold gd; simp [List.getD_eq_getElem?_getD, h]
theorem rd_gd (l : List Int) (i : Nat) : rd l (i : Int) = gd l i := by simp [rd, gd]
theorem w64 {n : Int} (h : -9223372036854775808 ≤ n) (h2 : n < 9223372036854775808) : wrap64 n = n := by unfold wrap64; omega
theorem tq (n : Int) : (0 ≤ n ∧ Int.tdiv n 65536 = n / 65536 ∧ Int.tmod n 65536 = n % 65536) ∨ (n < 0 ∧ Int.tdiv n 65536 = -(-n / 65536) ∧ Int.tmod n 65536 = -((-n) % 65536)) := by
  by_cases h : 0 ≤ n
  · exact Or.inl ⟨h, Int.tdiv_eq_ediv_of_nonneg h, Int.tmod_eq_emod_of_nonneg h⟩
  · refine Or.inr ⟨by omega, ?_, ?_⟩
    · have := Int.tdiv_eq_ediv_of_nonneg (a := -n) (b := 65536) (by omega)
      rw [Int.neg_tdiv] at this; omega
    · have := Int.tmod_eq_emod_of_nonneg (a := -n) (b := 65536) (by omega)
      rw [Int.neg_tmod] at this; omega
/-! Of -/
theorem of_step {k : Nat} {n s : Int} {acc : List Int} {i : Nat} (hi : i < 4) (hl : acc.length < 10) (hn : -9223372036854775808 ≤ n) (hn2 : n ≤ 9223372036854775807) :
    ∃ d m, tapsterref01_Of.l0 (k + 1) n (i : Int) acc s = tapsterref01_Of.l0 k m ((i + 1 : Nat) : Int) (acc ++ [d]) s ∧ 0 ≤ d ∧ d < 65536 ∧ -9223372036854775808 ≤ m ∧ m ≤ 9223372036854775807 ∧
      ((0 ≤ n ∧ 0 ≤ m ∧ n = d + 65536 * m) ∨ (n < 0 ∧ m ≤ 0 ∧ -n = d + 65536 * (-m))) := by
  simp only [tapsterref01_Of.l0]
  rw [if_pos (by omega), w64 (n := (i : Int) + 1) (by omega) (by omega)]
  have hc : acc.length < 17592186044416 := by omega
  rcases tq n with ⟨h0, h1, h2⟩ | ⟨h0, h1, h2⟩
  · rw [if_neg (by omega), if_pos hc, h1, h2, w64 (by omega) (by omega)]
    exact ⟨_, _, rfl, by omega, by omega, by omega, by omega, by omega⟩
  · by_cases h3 : Int.tmod n 65536 < 0
    · rw [if_pos h3, if_pos hc, h1, h2, w64 (by omega) (by omega), w64 (by omega) (by omega)]
      exact ⟨_, _, rfl, by omega, by omega, by omega, by omega, by omega⟩
    · rw [if_neg h3, if_pos hc, h1, h2, w64 (by omega) (by omega)]
      exact ⟨_, _, rfl, by omega, by omega, by omega, by omega, by omega⟩
/-- A number's digits. -/
theorem of_is {k : Nat} (hk : 6 ≤ k) {n : Int} (hn : -9223372036854775808 ≤ n) (hn2 : n ≤ 9223372036854775807) :
    ∃ l s, tapsterref01_Of.f k n = some (l, s) ∧ dig l ∧ l.length = 4 ∧ ((s = 0 ∧ 0 ≤ n ∧ val l = n) ∨ (s = 1 ∧ n < 0 ∧ val l = -n)) := by
  obtain ⟨k, rfl⟩ : ∃ m, k = m + 6 := ⟨k - 6, by omega⟩
  have main : ∀ s : Int, ∃ l, tapsterref01_Of.j0 (k + 6) n s = some (l, s) ∧ dig l ∧ l.length = 4 ∧ ((0 ≤ n ∧ val l = n) ∨ (n < 0 ∧ val l = -n)) := by
    intro s
    simp only [tapsterref01_Of.j0]
    obtain ⟨d0, m0, e0, a0, b0, c0, g0, f0⟩ := of_step (k := k + 4) (n := n) (s := s) (acc := []) (i := 0) (by omega) (by simp) hn hn2
    obtain ⟨d1, m1, e1, a1, b1, c1, g1, f1⟩ := of_step (k := k + 3) (n := m0) (s := s) (acc := [] ++ [d0]) (i := 1) (by omega) (by simp) c0 g0
    obtain ⟨d2, m2, e2, a2, b2, c2, g2, f2⟩ := of_step (k := k + 2) (n := m1) (s := s) (acc := [] ++ [d0] ++ [d1]) (i := 2) (by omega) (by simp) c1 g1
    obtain ⟨d3, m3, e3, a3, b3, c3, g3, f3⟩ := of_step (k := k + 1) (n := m2) (s := s) (acc := [] ++ [d0] ++ [d1] ++ [d2]) (i := 3) (by omega) (by simp) c2 g2
    have e : tapsterref01_Of.l0 (k + 5) n 0 [] s = some ([d0, d1, d2, d3], s) := by
      rw [show (0 : Int) = ((0 : Nat) : Int) from rfl, show k + 5 = k + 4 + 1 from rfl, e0, e1, e2, e3]
      simp [tapsterref01_Of.l0]
    refine ⟨[d0, d1, d2, d3], e, ?_, rfl, ?_⟩
    · simp only [dig_cons]; exact ⟨⟨a0, b0⟩, ⟨a1, b1⟩, ⟨a2, b2⟩, ⟨a3, b3⟩, dig_nil⟩
    · simp only [val]; omega
  unfold tapsterref01_Of.f
  by_cases h : n < 0
  · rw [if_pos h]
    obtain ⟨l, e, h1, h2, h3⟩ := main 1
    exact ⟨l, 1, e, h1, h2, Or.inr ⟨rfl, h, by omega⟩⟩
  · rw [if_neg h]
    obtain ⟨l, e, h1, h2, h3⟩ := main 0
    exact ⟨l, 0, e, h1, h2, Or.inl ⟨rfl, by omega, by omega⟩⟩
/-! cmp -/
theorem cmp_lt {a b : List Int} (ha : dig a) (hb : dig b) : ∀ i : Nat, val (a.drop i) < val (b.drop i) → val a < val b
  | 0, h => by simpa using h
  | i + 1, h => by
    refine cmp_lt ha hb i ?_
    have := gd_bd ha i; have := gd_bd hb i
    rw [val_drop a i, val_drop b i]; omega
theorem cmp_loop {a b : List Int} (ha : dig a) (hb : dig b) : ∀ (i : Nat) (k : Nat), i ≤ 1000 → 2 * i + 1 ≤ k → val (a.drop i) = val (b.drop i) →
    ∃ c, tapsterref01_cmp.l0 k a b ((i : Int) - 1) = some c ∧ (0 < c ↔ val b < val a) ∧ (c < 0 ↔ val a < val b)
  | 0, k, _, hk, h => by
    obtain ⟨k, rfl⟩ : ∃ m, k = m + 1 := ⟨k - 1, by omega⟩
    simp only [List.drop_zero] at h
    exact ⟨0, by simp [tapsterref01_cmp.l0], by omega, by omega⟩
  | i + 1, k, hi, hk, h => by
    obtain ⟨k, rfl⟩ : ∃ m, k = m + 2 := ⟨k - 2, by omega⟩
    have e0 : ((i + 1 : Nat) : Int) - 1 = (i : Int) := by omega
    rw [e0]
    have ga := gd_bd ha i; have gb := gd_bd hb i
    have h1 : tapsterref01_cmp.l0 (k + 2) a b i = tapsterref01_cmp.j1 (k + 1) a b i (gd a i) 0 := by
      simp only [tapsterref01_cmp.l0]
      rw [if_pos (by omega)]
      by_cases hl : (i : Int) < (a.length : Int)
      · rw [if_pos hl, if_pos (by omega), rd_gd]
      · rw [if_neg hl, gd_over (by omega)]
    have h2 : tapsterref01_cmp.j1 (k + 1) a b i (gd a i) 0 = if gd a i = gd b i then tapsterref01_cmp.l0 k a b ((i : Int) - 1) else some (gd a i - gd b i) := by
      simp only [tapsterref01_cmp.j1]
      rw [w64 (n := (i : Int) - 1) (by omega) (by omega)]
      by_cases hl : (i : Int) < (b.length : Int)
      · rw [if_pos hl, if_pos (by omega), rd_gd, w64 (n := gd a i - gd b i) (by omega) (by omega)]
      · rw [if_neg hl, gd_over (l := b) (i := i) (by omega), w64 (n := gd a i - 0) (by omega) (by omega)]
    rw [h1, h2]
    by_cases he : gd a i = gd b i
    · rw [if_pos he]
      exact cmp_loop ha hb i k (by omega) (by omega) (by rw [val_drop a i, val_drop b i, he, h])
    · rw [if_neg he]
      have k1 := val_drop a i; have k2 := val_drop b i
      have c1 := cmp_lt ha hb i
      have c2 := cmp_lt hb ha i
      refine ⟨_, rfl, ?_, ?_⟩ <;> constructor <;> intro h3 <;> omega
theorem mx_eq (a b : Int) : mx a b = max a b := by unfold mx; omega
theorem cmp_is {a b : List Int} (ha : dig a) (hb : dig b) (la : a.length ≤ 500) (lb : b.length ≤ 500) {k : Nat} (hk : 2000 ≤ k) :
    ∃ c, tapsterref01_cmp.f k a b = some c ∧ (0 < c ↔ val b < val a) ∧ (c < 0 ↔ val a < val b) := by
  unfold tapsterref01_cmp.f
  have e : wrap64 (mx (a.length : Int) (b.length : Int) - 1) = ((max a.length b.length : Nat) : Int) - 1 := by rw [mx_eq, w64 (by omega) (by omega)]; omega
  rw [e]
  exact cmp_loop ha hb _ k (by omega) (by omega) (by rw [val_over (by omega), val_over (by omega)])
/-! plus -/
theorem app_len {out : List Int} {d : Int} {n : Nat} (h : out.length < n) : (out ++ [d]).length < n + 1 := by simp; omega
theorem plus_loop {a b : List Int} (ha : dig a) (hb : dig b) (la : a.length ≤ 500) (lb : b.length ≤ 500) : ∀ (n : Nat) (i k : Nat) (out : List Int) (c : Int), max a.length b.length + 1 - i ≤ n → i ≤ 501 → 2 * n + 3 ≤ k → out.length ≤ i → 0 ≤ c → c ≤ 1 → (max a.length b.length < i → c = 0) →
    ∃ r, tapsterref01_plus.l0 k a b out c (i : Int) = some (out ++ r) ∧ dig r ∧ val r = c + val (a.drop i) + val (b.drop i) ∧ r.length + i ≤ max i (max a.length b.length + 1) := by
  intro n
  induction n with
  | zero =>
    intro i k out c hn hi hk ho hc hc2 h0
    obtain ⟨k, rfl⟩ : ∃ m, k = m + 2 := ⟨k - 2, by omega⟩
    have hc0 := h0 (by omega)
    subst hc0
    refine ⟨[], ?_, dig_nil, ?_, by simp; omega⟩
    · simp only [tapsterref01_plus.l0]
      rw [if_neg (by omega), if_neg (by omega)]
      simp [tapsterref01_plus.j1]
    · rw [val_over (by omega), val_over (by omega)]; rfl
  | succ n ih =>
    intro i k out c hn hi hk ho hc hc2 h0
    obtain ⟨k, rfl⟩ : ∃ m, k = m + 2 := ⟨k - 2, by omega⟩
    have ga := gd_bd ha i; have gb := gd_bd hb i
    have va := val_drop a i; have vb := val_drop b i
    by_cases hend : ¬((i : Int) < a.length) ∧ ¬((i : Int) < b.length) ∧ c = 0
    · obtain ⟨h1, h2, rfl⟩ := hend
      refine ⟨[], ?_, dig_nil, ?_, by simp; omega⟩
      · simp only [tapsterref01_plus.l0]
        rw [if_neg h1, if_neg h2]
        simp [tapsterref01_plus.j1]
      · rw [val_over (by omega), val_over (by omega)]; rfl
    · have h1 : tapsterref01_plus.l0 (k + 2) a b out c i = tapsterref01_plus.j1 (k + 1) a b out c i true := by
        simp only [tapsterref01_plus.l0]
        by_cases h1 : (i : Int) < a.length
        · rw [if_pos h1]
        · rw [if_neg h1]
          by_cases h2 : (i : Int) < b.length
          · rw [if_pos h2]
          · rw [if_neg h2, decide_eq_true (by omega : c > 0)]
      have hw1 := w64 (n := c + gd a i + gd b i) (by omega) (by omega)
      have h2 : tapsterref01_plus.j1 (k + 1) a b out c i true = tapsterref01_plus.l0 k a b (out ++ [(c + gd a i + gd b i) % 65536]) ((c + gd a i + gd b i) / 65536) ((i + 1 : Nat) : Int) := by
        have hga : ¬((i : Int) < a.length) → gd a i = 0 := fun h => gd_over (by omega)
        have hgb : ¬((i : Int) < b.length) → gd b i = 0 := fun h => gd_over (by omega)
        simp only [tapsterref01_plus.j1]
        have hc : out.length < 17592186044416 := by omega
        have h3 : 0 ≤ (i : Int) := by omega
        have hw2 : wrap64 ((i : Int) + 1) = ((i + 1 : Nat) : Int) := by rw [w64 (by omega) (by omega)]; omega
        rw [if_true, rd_gd, rd_gd, w64 (n := c + gd a i) (by omega) (by omega), w64 (n := c + gd a i + gd b i) (by omega) (by omega), w64 (n := c + gd b i) (by omega) (by omega), hw2]
        have t1 : ∀ x : Int, 0 ≤ x → x ≤ 200000 → wrap64 (Int.tdiv x 65536) = x / 65536 ∧ Int.tmod x 65536 = x % 65536 := fun x hx hx2 => by
          rw [Int.tdiv_eq_ediv_of_nonneg hx, Int.tmod_eq_emod_of_nonneg hx, w64 (by omega) (by omega)]; exact ⟨rfl, rfl⟩
        obtain ⟨u1, u2⟩ := t1 (c + gd a i + gd b i) (by omega) (by omega)
        obtain ⟨u3, u4⟩ := t1 (c + gd a i) (by omega) (by omega)
        obtain ⟨u5, u6⟩ := t1 (c + gd b i) (by omega) (by omega)
        obtain ⟨u7, u8⟩ := t1 c (by omega) (by omega)
        rw [u1, u2, u3, u4, u5, u6, u7, u8]
        by_cases ha1 : (i : Int) < a.length
        · rw [if_pos ha1, if_pos h3]
          by_cases hb1 : (i : Int) < b.length
          · rw [if_pos hb1, if_pos hc]
          · rw [if_neg hb1, if_pos hc, hgb hb1, Int.add_zero]
        · rw [if_neg ha1, hga ha1, Int.add_zero]
          by_cases hb1 : (i : Int) < b.length
          · rw [if_pos hb1, if_pos h3, if_pos hc]
          · rw [if_neg hb1, if_pos hc, hgb hb1, Int.add_zero]
      rw [h1, h2]
      have hle : i ≤ max a.length b.length := by
        by_cases h3 : max a.length b.length < i
        · exact absurd ⟨by omega, by omega, h0 h3⟩ hend
        · omega
      obtain ⟨r, e, d1, d2, d3⟩ := ih (i + 1) k (out ++ [(c + gd a i + gd b i) % 65536]) ((c + gd a i + gd b i) / 65536) (by omega) (by omega) (by omega) (by simp; omega) (by omega) (by omega) (fun h3 => by
        rw [gd_over (l := a) (i := i) (by omega), gd_over (l := b) (i := i) (by omega)]; omega)
      refine ⟨(c + gd a i + gd b i) % 65536 :: r, by rw [e]; simp, dig_cons.2 ⟨by omega, d1⟩, ?_, by simp; omega⟩
      simp only [val]; omega
theorem plus_is {a b : List Int} (ha : dig a) (hb : dig b) (la : a.length ≤ 400) (lb : b.length ≤ 400) {k : Nat} (hk : 2000 ≤ k) :
    ∃ r, tapsterref01_plus.f k a b = some r ∧ dig r ∧ val r = val a + val b ∧ r.length ≤ max a.length b.length + 1 := by
  unfold tapsterref01_plus.f
  obtain ⟨r, e, h1, h2, h3⟩ := plus_loop ha hb (by omega) (by omega) 500 0 k [] 0 (by omega) (by omega) (by omega) (by simp) (by omega) (by omega) (fun _ => rfl)
  simp only [List.drop_zero] at h2
  exact ⟨r, by simpa using e, h1, by omega, by omega⟩
/-! minus -/
theorem minus_loop {a b : List Int} (ha : dig a) (hb : dig b) (la : a.length ≤ 500) : ∀ (n : Nat) (i k : Nat) (out : List Int) (c : Int), a.length - i ≤ n → i ≤ a.length → n + 1 ≤ k → out.length ≤ i → 0 ≤ c → c ≤ 1 → 0 ≤ val (a.drop i) - c - val (b.drop i) →
    ∃ r, tapsterref01_minus.l0 k a b out c (i : Int) = some (out ++ r) ∧ dig r ∧ val r = val (a.drop i) - c - val (b.drop i) ∧ r.length + i = a.length := by
  intro n
  induction n with
  | zero =>
    intro i k out c hn hi hk ho hc hc2 h0
    obtain ⟨k, rfl⟩ : ∃ m, k = m + 1 := ⟨k - 1, by omega⟩
    have hv := (val_bd (dig_drop hb i)).1
    have ha0 := val_over (l := a) (i := i) (by omega)
    refine ⟨[], ?_, dig_nil, ?_, by simp; omega⟩
    · simp only [tapsterref01_minus.l0]
      rw [if_neg (by omega)]; simp
    · simp only [val]; omega
  | succ n ih =>
    intro i k out c hn hi hk ho hc hc2 h0
    obtain ⟨k, rfl⟩ : ∃ m, k = m + 1 := ⟨k - 1, by omega⟩
    by_cases hlt : (i : Int) < a.length
    · have ga := gd_bd ha i; have gb := gd_bd hb i
      have va := val_drop a i; have vb := val_drop b i
      have bb := (val_bd (dig_drop hb (i + 1))).1
      have h2 : tapsterref01_minus.l0 (k + 1) a b out c i = if gd a i - c - gd b i < 0 then tapsterref01_minus.l0 k a b (out ++ [gd a i - c - gd b i + 65536]) 1 ((i + 1 : Nat) : Int) else tapsterref01_minus.l0 k a b (out ++ [gd a i - c - gd b i]) 0 ((i + 1 : Nat) : Int) := by
        have hgb : ¬((i : Int) < b.length) → gd b i = 0 := fun h => gd_over (by omega)
        have h3 : 0 ≤ (i : Int) := by omega
        have hc : out.length < 17592186044416 := by omega
        have hwe : wrap64 ((i : Int) + 1) = ((i + 1 : Nat) : Int) := by rw [w64 (by omega) (by omega)]; omega
        have hwa := w64 (n := gd a i - c) (by omega) (by omega)
        have hwb := w64 (n := gd a i - c - gd b i) (by omega) (by omega)
        have hwc := w64 (n := gd a i - c - gd b i + 65536) (by omega) (by omega)
        have hwd := w64 (n := gd a i - c + 65536) (by omega) (by omega)
        simp only [tapsterref01_minus.l0]
        simp only [if_pos hlt, if_pos h3]
        simp only [rd_gd, hwa, hwb, hwc, hwd, hwe]
        by_cases hb1 : (i : Int) < b.length
        · rw [if_pos hb1]; simp only [eq_true hc, if_true]
        · rw [if_neg hb1, hgb hb1, Int.sub_zero]; simp only [eq_true hc, if_true]
      rw [h2]
      by_cases hneg : gd a i - c - gd b i < 0
      · rw [if_pos hneg]
        obtain ⟨r, e, d1, d2, d3⟩ := ih (i + 1) k (out ++ [gd a i - c - gd b i + 65536]) 1 (by omega) (by omega) (by omega) (by simp; omega) (by omega) (by omega) (by omega)
        refine ⟨(gd a i - c - gd b i + 65536) :: r, by rw [e]; simp, dig_cons.2 ⟨by omega, d1⟩, ?_, by simp; omega⟩
        simp only [val]; omega
      · rw [if_neg hneg]
        obtain ⟨r, e, d1, d2, d3⟩ := ih (i + 1) k (out ++ [gd a i - c - gd b i]) 0 (by omega) (by omega) (by omega) (by simp; omega) (by omega) (by omega) (by omega)
        refine ⟨(gd a i - c - gd b i) :: r, by rw [e]; simp, dig_cons.2 ⟨by omega, d1⟩, ?_, by simp; omega⟩
        simp only [val]; omega
    · have hv := (val_bd (dig_drop hb i)).1
      have ha0 := val_over (l := a) (i := i) (by omega)
      refine ⟨[], ?_, dig_nil, ?_, by simp; omega⟩
      · simp only [tapsterref01_minus.l0]
        rw [if_neg hlt]; simp
      · simp only [val]; omega
theorem minus_is {a b : List Int} (ha : dig a) (hb : dig b) (la : a.length ≤ 400) (h : val b ≤ val a) {k : Nat} (hk : 2000 ≤ k) :
    ∃ r, tapsterref01_minus.f k a b = some r ∧ dig r ∧ val r = val a - val b ∧ r.length = a.length := by
  unfold tapsterref01_minus.f
  obtain ⟨r, e, h1, h2, h3⟩ := minus_loop ha hb (by omega) 500 0 k [] 0 (by omega) (by omega) (by omega) (by simp) (by omega) (by omega) (by simp only [List.drop_zero]; omega)
  simp only [List.drop_zero] at h2
  exact ⟨r, by simpa using e, h1, by omega, by omega⟩
/-! times -/
theorem gd_set {l : List Int} {p j : Nat} {x : Int} (hp : p < l.length) : gd (l.set p x) j = if j = p then x else gd l j := by
  unfold gd
  simp only [List.getD_eq_getElem?_getD, List.getElem?_set]
  by_cases h : p = j
  · subst h; simp [hp]
  · rw [if_neg h, if_neg (fun e => h e.symm)]
theorem dig_set {l : List Int} {p : Nat} {x : Int} (h : dig l) (h0 : 0 ≤ x) (h1 : x < 65536) : dig (l.set p x) := by
  intro d hd
  rcases List.mem_or_eq_of_mem_set hd with h2 | h2
  · exact h d h2
  · subst h2; exact ⟨h0, h1⟩
theorem drop_set {l : List Int} {p q : Nat} {x : Int} (h : p < q) : (l.set p x).drop q = l.drop q := by
  rw [List.drop_set_of_lt h]
theorem prod_dg {x y : Int} (h : 0 ≤ x) (h2 : x < 65536) (h3 : 0 ≤ y) (h4 : y < 65536) : 0 ≤ x * y ∧ x * y ≤ 4294836225 := by
  refine ⟨Int.mul_nonneg h h3, ?_⟩
  have := Int.mul_le_mul (show x ≤ 65535 by omega) (show y ≤ 65535 by omega) h3 (by omega)
  omega
theorem wi {i : Nat} (h : i < 1000000) : wrap64 ((i : Int) + 1) = ((i + 1 : Nat) : Int) := by rw [w64 (by omega) (by omega)]; omega
theorem tdq {t : Int} (h : 0 ≤ t) (h2 : t < 9223372036854775808) : wrap64 (Int.tdiv t 65536) = t / 65536 ∧ Int.tmod t 65536 = t % 65536 := by
  rw [Int.tdiv_eq_ediv_of_nonneg h, Int.tmod_eq_emod_of_nonneg h, w64 (by omega) (by omega)]; exact ⟨rfl, rfl⟩
theorem mul_split (A g W : Int) : A * (g + 65536 * W) = A * g + 65536 * (A * W) := by rw [Int.mul_add]; congr 1; rw [← Int.mul_assoc, ← Int.mul_assoc, Int.mul_comm A 65536]
theorem times_step {a b out : List Int} {i j k : Nat} {c : Int} (ha : dig a) (hb : dig b) (hd : dig out) (hi : i < a.length) (hp : i + j < out.length) (ho : out.length ≤ 2000) (hc : 0 ≤ c) (hc2 : c < 65536) (hgo : j < b.length ∨ 0 < c) :
    tapsterref01_times.l1 (k + 2) a b out (i : Int) c (j : Int) = tapsterref01_times.l1 k a b (out.set (i + j) ((c + gd out (i + j) + gd a i * gd b j) % 65536)) (i : Int) ((c + gd out (i + j) + gd a i * gd b j) / 65536) ((j + 1 : Nat) : Int) := by
  have ga := gd_bd ha i; have gb := gd_bd hb j; have go := gd_bd hd (i + j)
  have pr := prod_dg ga.1 ga.2 gb.1 gb.2
  have h0 : 0 ≤ (i : Int) := by omega
  have h0j : 0 ≤ (j : Int) := by omega
  have h0p : 0 ≤ ((i + j : Nat) : Int) := by omega
  have h1 : (i : Int) < (a.length : Int) := by omega
  have h2 : ((i + j : Nat) : Int) < (out.length : Int) := by omega
  have h3 : 0 < c → decide (c > 0) = true := fun h => decide_eq_true h
  have hgb : ¬((j : Int) < b.length) → gd b j = 0 ∧ 0 < c := fun h => ⟨gd_over (by omega), by omega⟩
  have hwj : wrap64 ((j : Int) + 1) = ((j + 1 : Nat) : Int) := by rw [w64 (by omega) (by omega)]; omega
  have hwp : wrap64 ((i : Int) + (j : Int)) = ((i + j : Nat) : Int) := by rw [w64 (by omega) (by omega)]; omega
  obtain ⟨x, hx⟩ : ∃ x, x = gd a i * gd b j := ⟨_, rfl⟩
  rw [← hx] at pr ⊢
  obtain ⟨o, hoo⟩ : ∃ o, o = gd out (i + j) := ⟨_, rfl⟩
  rw [← hoo] at go ⊢
  have w1 := w64 (n := c + o) (by omega) (by omega)
  have w2 := w64 (n := x) (by omega) (by omega)
  have w3 := w64 (n := c + o + x) (by omega) (by omega)
  have t1 := tdq (t := c + o + x) (by omega) (by omega)
  have t2 := tdq (t := c + o) (by omega) (by omega)
  have e1 : tapsterref01_times.l1 (k + 2) a b out (i : Int) c (j : Int) = tapsterref01_times.j2 (k + 1) a b out (i : Int) c (j : Int) true := by
    simp only [tapsterref01_times.l1]
    by_cases hj : (j : Int) < b.length
    · rw [if_pos hj]
    · rw [if_neg hj, h3 (hgb hj).2]
  rw [e1]
  simp only [tapsterref01_times.j2, if_true, hwp, hwj, if_pos h0p, if_pos h2, if_pos h0, if_pos h1, if_pos h0j, rd_gd, Int.toNat_natCast, ← hx, ← hoo, w1, w2, w3, t1.1, t1.2, t2.1, t2.2]
  by_cases hj : (j : Int) < b.length
  · rw [if_pos hj]
  · rw [if_neg hj]
    have : x = 0 := by rw [hx, (hgb hj).1, Int.mul_zero]
    rw [this, Int.add_zero]
theorem times_inner {a b : List Int} (ha : dig a) (hb : dig b) (lb : b.length ≤ 500) (i : Nat) (hi : i < a.length) (la : a.length ≤ 500) : ∀ (n : Nat) (j k : Nat) (out : List Int) (c : Int), out.length - (i + j) ≤ n → out.length ≤ 2000 → i + b.length < out.length → 2 * n + 3 ≤ k → dig out → 0 ≤ c → c < 65536 → j ≤ 2001 → i + j ≤ out.length →
    val (out.drop (i + j)) + c + gd a i * val (b.drop j) < pw (out.length - (i + j)) →
    ∃ (r : List Int) (k' : Nat), tapsterref01_times.l1 k a b out (i : Int) c (j : Int) = tapsterref01_times.l0 k' a b r ((i + 1 : Nat) : Int) ∧ k ≤ k' + 2 * n + 2 ∧ dig r ∧ r.length = out.length ∧ val (r.drop (i + j)) = val (out.drop (i + j)) + c + gd a i * val (b.drop j) ∧ ∀ q, q < i + j → gd r q = gd out q := by
  intro n
  induction n with
  | zero =>
    intro j k out c hn ho hf hk hd hc hc2 hj hij hb0
    obtain ⟨k, rfl⟩ : ∃ m, k = m + 2 := ⟨k - 2, by omega⟩
    have e0 : out.length - (i + j) = 0 := by omega
    have hi6 : i < 1000000 := by omega
    have hp1 := Int.mul_nonneg (gd_bd ha i).1 (val_bd (dig_drop hb j)).1
    have hbj := val_over (l := b) (i := j) (by omega)
    have hoj := val_over (l := out) (i := i + j) (by omega)
    have hjb : ¬((j : Int) < b.length) := by omega
    rw [e0, hoj] at hb0
    have hp0 : pw 0 = 1 := rfl
    have hc0 : c = 0 := by omega
    subst hc0
    refine ⟨out, k, ?_, by omega, hd, rfl, ?_, fun _ _ => rfl⟩
    · simp only [tapsterref01_times.l1, tapsterref01_times.j2, if_neg hjb, wi hi6]; simp
    · rw [hbj, Int.mul_zero]; omega
  | succ n ih =>
    intro j k out c hn ho hf hk hd hc hc2 hj hij hb0
    obtain ⟨k, rfl⟩ : ∃ m, k = m + 2 := ⟨k - 2, by omega⟩
    by_cases hend : b.length ≤ j ∧ c = 0
    · obtain ⟨hjb, rfl⟩ := hend
      have hi6 : i < 1000000 := by omega
      have hbj := val_over (l := b) (i := j) hjb
      have hjb' : ¬((j : Int) < b.length) := by omega
      refine ⟨out, k, ?_, by omega, hd, rfl, ?_, fun _ _ => rfl⟩
      · simp only [tapsterref01_times.l1, tapsterref01_times.j2, if_neg hjb', wi hi6]; simp
      · rw [hbj, Int.mul_zero]; omega
    · have hp1 := Int.mul_nonneg (gd_bd ha i).1 (val_bd (dig_drop hb j)).1
      have hlt : i + j < out.length := by
        by_cases h : i + j < out.length
        · exact h
        · exfalso
          have e0 : out.length - (i + j) = 0 := by omega
          rw [e0, val_over (l := out) (i := i + j) (by omega)] at hb0
          have hp0 : pw 0 = 1 := rfl
          exact hend ⟨by omega, by omega⟩
      have ga := gd_bd ha i; have gb := gd_bd hb j; have go := gd_bd hd (i + j)
      have pr := prod_dg ga.1 ga.2 gb.1 gb.2
      have hstep := times_step (k := k) ha hb hd hi hlt ho hc hc2 (by omega)
      have vo := val_drop out (i + j); have vb := val_drop b j
      have hms := mul_split (gd a i) (gd b j) (val (b.drop (j + 1)))
      rw [← vb] at hms
      have epw : pw (out.length - (i + j)) = 65536 * pw (out.length - (i + (j + 1))) := by
        have : out.length - (i + j) = (out.length - (i + (j + 1))) + 1 := by omega
        rw [this]; rfl
      obtain ⟨x, hx⟩ : ∃ x, x = gd a i * gd b j := ⟨_, rfl⟩
      obtain ⟨y, hy⟩ : ∃ y, y = gd a i * val (b.drop (j + 1)) := ⟨_, rfl⟩
      rw [← hx] at pr hms hstep
      rw [← hy] at hms
      rw [hms, epw, vo] at hb0
      have hset : (out.set (i + j) ((c + gd out (i + j) + x) % 65536)).drop (i + (j + 1)) = out.drop (i + j + 1) := drop_set (by omega)
      obtain ⟨r, k', e, hk', d1, d2, d3, d4⟩ := ih (j + 1) k (out.set (i + j) ((c + gd out (i + j) + x) % 65536)) ((c + gd out (i + j) + x) / 65536) (by simp; omega) (by simpa using ho) (by simpa using hf) (by omega) (dig_set hd (by omega) (by omega)) (by omega) (by omega) (by omega) (by simp; omega)
        (by rw [hset, ← hy, List.length_set]; omega)
      refine ⟨r, k', by rw [hstep, e], by omega, d1, by rw [d2, List.length_set], ?_, fun q hq => ?_⟩
      · have hr := val_drop r (i + j)
        have hg := d4 (i + j) (by omega)
        rw [gd_set hlt, if_pos rfl] at hg
        rw [hset, ← hy] at d3
        rw [hr, hg, show i + j + 1 = i + (j + 1) from rfl, d3, hms, vo]
        omega
      · rw [d4 q (by omega), gd_set hlt, if_neg (by omega)]
def fu : Nat → Nat
  | 0 => 1
  | n + 1 => fu n + 5000
theorem fu_le (n : Nat) : fu n ≤ 5000 * n + 1 := by induction n with
  | zero => decide
  | succ n ih => simp only [fu]; omega
theorem times_outer {a b : List Int} (ha : dig a) (hb : dig b) (la : a.length ≤ 500) (lb : b.length ≤ 500) : ∀ (n i k : Nat) (out : List Int), a.length - i ≤ n → i ≤ a.length → out.length = a.length + b.length + 1 → fu n ≤ k → dig out → val (out.drop i) + val (a.drop i) * val b < pw (out.length - i) →
    ∃ r, tapsterref01_times.l0 k a b out (i : Int) = some r ∧ dig r ∧ r.length = out.length ∧ val (r.drop i) = val (out.drop i) + val (a.drop i) * val b ∧ ∀ q, q < i → gd r q = gd out q := by
  intro n
  induction n with
  | zero =>
    intro i k out hn hi ho hk hd hb0
    obtain ⟨k, rfl⟩ : ∃ m, k = m + 1 := ⟨k - 1, by simp only [fu] at hk; omega⟩
    have h1 : ¬((i : Int) < a.length) := by omega
    refine ⟨out, by simp only [tapsterref01_times.l0, if_neg h1], hd, rfl, ?_, fun _ _ => rfl⟩
    rw [val_over (l := a) (i := i) (by omega), Int.zero_mul, Int.add_zero]
  | succ n ih =>
    intro i k out hn hi ho hk hd hb0
    have hk1 : 1 ≤ k := by simp only [fu] at hk; omega
    by_cases hlt : i < a.length
    · obtain ⟨k, rfl⟩ : ∃ m, k = m + 1 := ⟨k - 1, by omega⟩
      have h1 : (i : Int) < a.length := by omega
      have e1 : tapsterref01_times.l0 (k + 1) a b out (i : Int) = tapsterref01_times.l1 k a b out (i : Int) 0 ((0 : Nat) : Int) := by simp only [tapsterref01_times.l0, if_pos h1]; rfl
      have va := val_drop a i; have vo := val_drop out i
      have go := gd_bd hd i
      have vb := (val_bd hb).1
      have va1 := (val_bd (dig_drop ha (i + 1))).1
      have hpos := Int.mul_nonneg va1 vb
      have hms : val (a.drop i) * val b = gd a i * val b + 65536 * (val (a.drop (i + 1)) * val b) := by rw [va, Int.add_mul, Int.mul_assoc]
      obtain ⟨x, hx⟩ : ∃ x, x = gd a i * val b := ⟨_, rfl⟩
      obtain ⟨y, hy⟩ : ∃ y, y = val (a.drop (i + 1)) * val b := ⟨_, rfl⟩
      rw [← hx, ← hy] at hms
      rw [← hy] at hpos
      rw [hms] at hb0
      have hk2 : fu n + 5000 ≤ k + 1 := by simpa only [fu] using hk
      obtain ⟨r1, k', e, hk', d1, d2, d3, d4⟩ := times_inner ha hb lb i hlt la (out.length - i) 0 k out 0 (by omega) (by omega) (by omega) (by omega) hd (by omega) (by omega) (by omega) (by omega)
        (by simp only [Nat.add_zero, List.drop_zero]; rw [← hx]; omega)
      simp only [Nat.add_zero, List.drop_zero] at d3 d4
      rw [← hx] at d3
      have v1 := val_drop r1 i
      have g1 := gd_bd d1 i
      have epw : pw (out.length - i) = 65536 * pw (out.length - (i + 1)) := by
        have : out.length - i = (out.length - (i + 1)) + 1 := by omega
        rw [this]; rfl
      rw [epw] at hb0
      have q1 : fu n ≤ k' := by clear hb0 epw v1 d3 hms hpos g1 go vo va; omega
      have q2 : val (r1.drop (i + 1)) + y < pw (out.length - (i + 1)) := by omega
      obtain ⟨r, e2, f1, f2, f3, f4⟩ := ih (i + 1) k' r1 (by omega) (by omega) (by omega) q1 d1 (by rw [← hy, d2]; exact q2)
      rw [← hy] at f3
      refine ⟨r, by rw [e1, e, e2], f1, by omega, ?_, fun q hq => by rw [f4 q (by omega), d4 q hq]⟩
      rw [val_drop r i, f4 i (by omega), f3, hms]; omega
    · obtain ⟨k, rfl⟩ : ∃ m, k = m + 1 := ⟨k - 1, by omega⟩
      have h1 : ¬((i : Int) < a.length) := by omega
      refine ⟨out, by simp only [tapsterref01_times.l0, if_neg h1], hd, rfl, ?_, fun _ _ => rfl⟩
      rw [val_over (l := a) (i := i) (by omega), Int.zero_mul, Int.add_zero]
theorem pw_add (m n : Nat) : pw (m + n) = pw m * pw n := by
  induction m with
  | zero => rw [Nat.zero_add, show pw 0 = 1 from rfl, Int.one_mul]
  | succ m ih => rw [Nat.succ_add]; show 65536 * pw (m + n) = 65536 * pw m * pw n; rw [ih, Int.mul_assoc]
theorem val_rep (n : Nat) : val (List.replicate n 0) = 0 := by induction n with
  | zero => rfl
  | succ n ih => rw [List.replicate_succ]; simp only [val, ih]; rfl
theorem dig_rep (n : Nat) : dig (List.replicate n 0) := by intro d hd; have := (List.mem_replicate.1 hd).2; omega
theorem times_is {a b : List Int} (ha : dig a) (hb : dig b) (la : a.length ≤ 100) (lb : b.length ≤ 100) {k : Nat} (hk : 1000000 ≤ k) :
    ∃ r, tapsterref01_times.f k a b = some r ∧ dig r ∧ val r = val a * val b ∧ r.length = a.length + b.length + 1 := by
  have h2 : (a.length + b.length + 1) ≤ 35184372088832 := by omega
  have h1 : 0 ≤ ((a.length + b.length + 1 : Nat) : Int) := by omega
  have hw1 : wrap64 ((a.length : Int) + (b.length : Int)) = (a.length : Int) + (b.length : Int) := w64 (by omega) (by omega)
  have hw2 : wrap64 ((a.length : Int) + (b.length : Int) + 1) = ((a.length + b.length + 1 : Nat) : Int) := by rw [w64 (by omega) (by omega)]; omega
  have va := val_bd ha; have vb := val_bd hb
  have hlt : val a * val b < pw (a.length + b.length + 1) := by
    have h3 : val a * val b ≤ pw a.length * pw b.length := Int.mul_le_mul (by omega) (by omega) vb.1 (by omega)
    rw [← pw_add] at h3
    have h4 := pw_pos (a.length + b.length)
    show _ < 65536 * pw (a.length + b.length)
    omega
  obtain ⟨r, e, d1, d2, d3, _⟩ := times_outer ha hb (by omega) (by omega) a.length 0 k (List.replicate (a.length + b.length + 1) 0) (by omega) (by omega) (by simp) (by have := fu_le a.length; omega) (dig_rep _) (by simp only [List.drop_zero, val_rep, List.length_replicate, Nat.sub_zero]; omega)
  simp only [List.drop_zero, val_rep, Int.zero_add] at d3
  refine ⟨r, ?_, d1, d3, by rw [d2]; simp⟩
  unfold tapsterref01_times.f
  simp only [hw1, hw2, if_pos h1, Int.toNat_natCast, if_pos h2]
  exact e
/-! number -/
theorem val_drop_le {l : List Int} (h : dig l) : ∀ i, val (l.drop i) ≤ val l
  | 0 => by simp
  | i + 1 => by
    have := val_drop_le h i
    rw [val_drop l i] at this
    have := gd_bd h i
    have := (val_bd (dig_drop h (i + 1))).1
    omega
theorem num_pos {l : List Int} (h : dig l) (ll : l.length ≤ 500) (hv : val l ≤ 9223372036854775807) : ∀ (i k : Nat), i ≤ l.length → i + 1 ≤ k → tapsterref01_number.l0 k (val (l.drop i)) ((i : Int) - 1) l 0 = some (val l, true)
  | 0, k, hi, hk => by
    obtain ⟨k, rfl⟩ : ∃ m, k = m + 1 := ⟨k - 1, by omega⟩
    have h0 : ¬(((0 : Nat) : Int) - 1 ≥ 0) := by omega
    simp only [tapsterref01_number.l0, if_neg h0, List.drop_zero]
  | i + 1, k, hi, hk => by
    obtain ⟨k, rfl⟩ : ∃ m, k = m + 1 := ⟨k - 1, by omega⟩
    have ih := num_pos h ll hv i k (by omega) (by omega)
    have vd := val_drop l i
    have g := gd_bd h i
    have l1 := val_drop_le h i
    have l2 := (val_bd (dig_drop h (i + 1))).1
    have e0 : ((i + 1 : Nat) : Int) - 1 = (i : Int) := by omega
    have h0 : (i : Int) ≥ 0 := by omega
    have h0' : 0 ≤ (i : Int) := by omega
    have h1 : (i : Int) < (l.length : Int) := by omega
    have h2 : ¬((0 : Int) = 1) := by omega
    have w0 : wrap64 ((i : Int) - 1) = (i : Int) - 1 := w64 (by omega) (by omega)
    have w1 := w64 (n := 65536 * val (l.drop (i + 1))) (by omega) (by omega)
    have w2 := w64 (n := 65536 * val (l.drop (i + 1)) + gd l i) (by omega) (by omega)
    rw [e0]
    simp only [tapsterref01_number.l0, if_pos h0, if_pos h0', if_pos h1, if_neg h2, rd_gd, w0, w1, w2]
    rw [show 65536 * val (l.drop (i + 1)) + gd l i = val (l.drop i) by rw [vd, Int.add_comm]]
    exact ih
theorem num_neg {l : List Int} (h : dig l) (ll : l.length ≤ 500) (hv : val l ≤ 9223372036854775808) : ∀ (i k : Nat), i ≤ l.length → i + 1 ≤ k → tapsterref01_number.l0 k (-val (l.drop i)) ((i : Int) - 1) l 1 = some (-val l, true)
  | 0, k, hi, hk => by
    obtain ⟨k, rfl⟩ : ∃ m, k = m + 1 := ⟨k - 1, by omega⟩
    have h0 : ¬(((0 : Nat) : Int) - 1 ≥ 0) := by omega
    simp only [tapsterref01_number.l0, if_neg h0, List.drop_zero]
  | i + 1, k, hi, hk => by
    obtain ⟨k, rfl⟩ : ∃ m, k = m + 1 := ⟨k - 1, by omega⟩
    have ih := num_neg h ll hv i k (by omega) (by omega)
    have vd := val_drop l i
    have g := gd_bd h i
    have l1 := val_drop_le h i
    have l2 := (val_bd (dig_drop h (i + 1))).1
    have e0 : ((i + 1 : Nat) : Int) - 1 = (i : Int) := by omega
    have h0 : (i : Int) ≥ 0 := by omega
    have h0' : 0 ≤ (i : Int) := by omega
    have h1 : (i : Int) < (l.length : Int) := by omega
    have w0 : wrap64 ((i : Int) - 1) = (i : Int) - 1 := w64 (by omega) (by omega)
    have w1 := w64 (n := 65536 * -val (l.drop (i + 1))) (by omega) (by omega)
    have w2 := w64 (n := 65536 * -val (l.drop (i + 1)) - gd l i) (by omega) (by omega)
    rw [e0]
    simp only [tapsterref01_number.l0, if_pos h0, if_pos h0', if_pos h1, if_true, rd_gd, w0, w1, w2]
    rw [show 65536 * -val (l.drop (i + 1)) - gd l i = -val (l.drop i) by rw [vd]; omega]
    exact ih
def sv (l : List Int) (s : Int) : Int := if s = 1 then -val l else val l
def fitsB (n : Int) : Bool := decide (-9223372036854775808 ≤ n ∧ n ≤ 9223372036854775807)
theorem number_is {l : List Int} {s : Int} (h : dig l) (ll : l.length ≤ 400) (hs : s = 0 ∨ s = 1) {k : Nat} (hk : 2000 ≤ k) :
    tapsterref01_number.f k l s = some (if fitsB (sv l s) then sv l s else 0, fitsB (sv l s)) := by
  have v0 := (val_bd h).1
  have hw : wrap64 ((l.length : Int) - 1) = ((l.length : Nat) : Int) - 1 := w64 (by omega) (by omega)
  have hov := val_over (l := l) (i := l.length) (Nat.le_refl _)
  obtain ⟨k, rfl⟩ : ∃ m, k = m + 1 := ⟨k - 1, by omega⟩
  unfold tapsterref01_number.f
  simp only [Option.bind_some]
  rcases hs with rfl | rfl
  · have m1 : dig [65535, 65535, 65535, 32767] := by simp [dig]
    obtain ⟨c, e, c1, c2⟩ := cmp_is h m1 (by omega) (by simp) (k := k + 1) (by omega)
    have mv : val [65535, 65535, 65535, 32767] = 9223372036854775807 := by simp [val]
    rw [mv] at c1 c2
    have es : sv l 0 = val l := by simp [sv]
    rw [es]
    simp only [if_true, e, Option.bind_some]
    by_cases hc : c > 0
    · have hf : fitsB (val l) = false := by unfold fitsB; rw [decide_eq_false]; omega
      simp [if_pos hc, tapsterref01_number.j0, hf]
    · have hf : fitsB (val l) = true := by unfold fitsB; rw [decide_eq_true]; omega
      have := num_pos h (by omega) (by omega) l.length k (Nat.le_refl _) (by omega)
      rw [hov] at this
      simp [if_neg hc, tapsterref01_number.j0, hf, hw, this]
  · have m1 : dig [0, 0, 0, 32768] := by simp [dig]
    obtain ⟨c, e, c1, c2⟩ := cmp_is h m1 (by omega) (by simp) (k := k + 1) (by omega)
    have mv : val [0, 0, 0, 32768] = 9223372036854775808 := by simp [val]
    rw [mv] at c1 c2
    have es : sv l 1 = -val l := by simp [sv]
    rw [es]
    have h10 : ¬((1 : Int) = 0) := by omega
    simp only [if_neg h10, if_true, e, Option.bind_some]
    by_cases hc : c > 0
    · have hf : fitsB (-val l) = false := by unfold fitsB; rw [decide_eq_false]; omega
      simp [hc, tapsterref01_number.j0, hf]
    · have hf : fitsB (-val l) = true := by unfold fitsB; rw [decide_eq_true]; omega
      have := num_neg h (by omega) (by omega) l.length k (Nat.le_refl _) (by omega)
      rw [hov] at this
      simp [hc, tapsterref01_number.j0, hf, hw] 
      simpa using this
theorem of_sv {k : Nat} (hk : 6 ≤ k) {n : Int} (hn : -9223372036854775808 ≤ n) (hn2 : n ≤ 9223372036854775807) :
    ∃ l s, tapsterref01_Of.f k n = some (l, s) ∧ dig l ∧ l.length = 4 ∧ (s = 0 ∨ s = 1) ∧ sv l s = n ∧ ((s = 0 ∧ 0 ≤ n ∧ val l = n) ∨ (s = 1 ∧ n < 0 ∧ val l = -n)) := by
  obtain ⟨l, s, e, h1, h2, h3⟩ := of_is hk hn hn2
  refine ⟨l, s, e, h1, h2, ?_, ?_, h3⟩
  · rcases h3 with h | h
    · exact Or.inl h.1
    · exact Or.inr h.1
  · rcases h3 with ⟨rfl, _, h⟩ | ⟨rfl, _, h⟩ <;> simp [sv, h]
theorem tdq2 {t : Int} (h : 0 ≤ t) (h2 : t < 9223372036854775808) : wrap64 (Int.tdiv t 2) = t / 2 ∧ Int.tmod t 2 = t % 2 := by
  rw [Int.tdiv_eq_ediv_of_nonneg h, Int.tmod_eq_emod_of_nonneg h, w64 (by omega) (by omega)]; exact ⟨rfl, rfl⟩
theorem half_loop {a : List Int} (ha : dig a) (la : a.length ≤ 500) : ∀ (n k : Nat) (o : List Int) (c : Int), n ≤ a.length → n + 1 ≤ k → o.length = a.length → dig o → val (o.drop n) = val (a.drop n) / 2 → c = val (a.drop n) % 2 →
    ∃ r, tapsterref01_half.l0 k a o c ((n : Int) - 1) = some r ∧ dig r ∧ r.length = a.length ∧ val r = val a / 2
  | 0, k, o, c, hn, hk, ho, hd, hv, hc => by
    obtain ⟨k, rfl⟩ : ∃ m, k = m + 1 := ⟨k - 1, by omega⟩
    have h0 : ¬(((0 : Nat) : Int) - 1 ≥ 0) := by omega
    refine ⟨o, by simp only [tapsterref01_half.l0, if_neg h0], hd, ho, by simpa using hv⟩
  | n + 1, k, o, c, hn, hk, ho, hd, hv, hc => by
    obtain ⟨k, rfl⟩ : ∃ m, k = m + 1 := ⟨k - 1, by omega⟩
    have ga := gd_bd ha n
    have va := val_drop a n
    have e0 : ((n + 1 : Nat) : Int) - 1 = (n : Int) := by omega
    have h1 : (n : Int) ≥ 0 := by omega
    have h2 : 0 ≤ (n : Int) := by omega
    have h3 : (n : Int) < (a.length : Int) := by omega
    have h4 : (n : Int) < (o.length : Int) := by omega
    obtain ⟨x, hx⟩ : ∃ x, x = c * 65536 + gd a n := ⟨_, rfl⟩
    have cb : 0 ≤ c ∧ c ≤ 1 := by omega
    have hl : n < o.length := by omega
    have q1 : 0 ≤ x / 2 ∧ x / 2 < 65536 := by omega
    have ih := half_loop ha la n k (o.set n (x / 2)) (x % 2) (by omega) (by omega) (by simpa using ho) (dig_set hd q1.1 q1.2)
      (by rw [val_drop _ n, gd_set hl, if_pos rfl, drop_set (by omega), hv]; omega) (by omega)
    have w0 : wrap64 ((n : Int) - 1) = (n : Int) - 1 := w64 (by omega) (by omega)
    have w1 := w64 (n := c * 65536) (by clear w0; omega) (by clear w0; omega)
    have w2 : wrap64 (c * 65536 + gd a n) = x := by rw [hx]; exact w64 (by clear w0 w1; omega) (by clear w0 w1; omega)
    have t1 := tdq2 (t := x) (by clear w0 w1 w2; omega) (by clear w0 w1 w2; omega)
    rw [e0]
    simp only [tapsterref01_half.l0, if_pos h1, if_pos h2, if_pos h3, if_pos h4, rd_gd, w0, w1, w2, t1.1, t1.2, Int.toNat_natCast]
    exact ih
theorem half_is {a : List Int} (ha : dig a) (la : a.length ≤ 400) {k : Nat} (hk : 2000 ≤ k) : ∃ r, tapsterref01_half.f k a = some r ∧ dig r ∧ r.length = a.length ∧ val r = val a / 2 := by
  have h1 : 0 ≤ (a.length : Int) := by omega
  have h2 : a.length ≤ 35184372088832 := by omega
  have hov := val_over (l := a) (i := a.length) (Nat.le_refl _)
  have hov2 := val_over (l := List.replicate a.length (0 : Int)) (i := a.length) (by simp)
  obtain ⟨r, e, d1, d2, d3⟩ := half_loop ha (by omega) a.length k (List.replicate a.length 0) 0 (Nat.le_refl _) (by omega) (by simp) (dig_rep _) (by rw [hov, hov2]; rfl) (by rw [hov]; rfl)
  have hw : wrap64 ((a.length : Int) - 1) = (a.length : Int) - 1 := w64 (by omega) (by omega)
  refine ⟨r, ?_, d1, d2, d3⟩
  unfold tapsterref01_half.f
  simp only [if_pos h1, Int.toNat_natCast, if_pos h2, hw]
  exact e
def p2 : Nat → Int
  | 0 => 1
  | n + 1 => 2 * p2 n
theorem p2_pos (n : Nat) : 1 ≤ p2 n := by induction n with
  | zero => decide
  | succ n ih => unfold p2; omega
theorem p2_add (m n : Nat) : p2 (m + n) = p2 m * p2 n := by
  induction m with
  | zero => rw [Nat.zero_add, show p2 0 = 1 from rfl, Int.one_mul]
  | succ m ih => rw [Nat.succ_add]; show 2 * p2 (m + n) = 2 * p2 m * p2 n; rw [ih, Int.mul_assoc]
theorem pw_p2 (n : Nat) : pw n = p2 (16 * n) := by
  induction n with
  | zero => rfl
  | succ n ih => rw [Nat.mul_succ, p2_add, ← ih, Int.mul_comm]; show 65536 * pw n = p2 16 * pw n; rfl
theorem shl_p2 : ∀ s : Fin 16, shl .i64 1 (s.val : Int) = p2 s.val := by decide +kernel
theorem up_loop {a : List Int} (q : List Int) (N : Nat) (hN : N ≤ 200) : ∀ (d i k : Nat) (up : List Int), i + d = N → 2500 + d ≤ k → dig up → up.length + d ≤ 390 →
    ∃ up' k', tapsterref01_by.l0 k a (N : Int) q up (i : Int) = tapsterref01_by.l1 k' q up' a (N : Int) ∧ k ≤ k' + d + 1 ∧ dig up' ∧ val up' = val up * p2 d ∧ up'.length ≤ up.length + d
  | 0, i, k, up, hi, hk, hd, hl => by
    obtain ⟨k, rfl⟩ : ∃ m, k = m + 1 := ⟨k - 1, by omega⟩
    have h1 : ¬((i : Int) < (N : Int)) := by omega
    exact ⟨up, k, by simp only [tapsterref01_by.l0, if_neg h1], by omega, hd, by simp [p2], by omega⟩
  | d + 1, i, k, up, hi, hk, hd, hl => by
    obtain ⟨k, rfl⟩ : ∃ m, k = m + 1 := ⟨k - 1, by omega⟩
    have h1 : (i : Int) < (N : Int) := by omega
    obtain ⟨u, e, d1, d2, d3⟩ := plus_is hd hd (by omega) (by omega) (k := k) (by omega)
    obtain ⟨u', k', e2, h2, f1, f2, f3⟩ := up_loop (a := a) q N hN d (i + 1) k u (by omega) (by omega) d1 (by omega)
    refine ⟨u', k', ?_, by omega, f1, ?_, by omega⟩
    · simp only [tapsterref01_by.l0, if_pos h1, e, Option.bind_some, wi (i := i) (by omega)]
      exact e2
    · rw [f2, d2]; show (val up + val up) * p2 d = val up * (2 * p2 d)
      rw [show val up + val up = val up * 2 by omega, Int.mul_assoc]
theorem val_set {l : List Int} : ∀ {j : Nat} {x : Int}, j < l.length → val (l.set j x) = val l + (x - gd l j) * pw j := by
  induction l with
  | nil => intro j x h; simp at h
  | cons d l ih =>
    intro j x h
    cases j with
    | zero => simp [val, gd, pw]; omega
    | succ j =>
      have := ih (j := j) (x := x) (by simpa using h)
      simp only [List.set_cons_succ, val, this]
      have e : gd (d :: l) (j + 1) = gd l j := by simp [gd]
      rw [e]
      show d + 65536 * (val l + (x - gd l j) * pw j) = d + 65536 * val l + (x - gd l j) * (65536 * pw j)
      rw [Int.mul_add, ← Int.mul_assoc, ← Int.mul_assoc, Int.mul_comm (x - gd l j) 65536]; omega
def low (q : List Int) (n : Nat) : Prop := ∀ j, p2 (min 16 (n - 16 * j)) ∣ gd q j
theorem p2_dvd {m n : Nat} (h : m ≤ n) : p2 m ∣ p2 n := by
  obtain ⟨d, rfl⟩ : ∃ d, n = m + d := ⟨n - m, by omega⟩
  rw [p2_add]; exact Int.dvd_mul_right _ _
theorem low_less {q : List Int} {n : Nat} (h : low q (n + 1)) : low q n := fun j => Int.dvd_trans (p2_dvd (by omega)) (h j)
theorem low_set {q : List Int} {n : Nat} (hd : dig q) (h : low q (n + 1)) (hn : n / 16 < q.length) :
    0 ≤ gd q (n / 16) + p2 (n % 16) ∧ gd q (n / 16) + p2 (n % 16) < 65536 ∧ low (q.set (n / 16) (gd q (n / 16) + p2 (n % 16))) n := by
  have g := gd_bd hd (n / 16)
  have h1 := h (n / 16)
  have e : min 16 (n + 1 - 16 * (n / 16)) = n % 16 + 1 := by omega
  rw [e] at h1
  obtain ⟨y, hy⟩ := h1
  have hP := p2_pos (n % 16)
  have hQ := p2_pos (15 - n % 16)
  have hPQ : p2 (n % 16 + 1) * p2 (15 - n % 16) = 65536 := by
    rw [← p2_add, show n % 16 + 1 + (15 - n % 16) = 16 by omega]; rfl
  have hP1 : p2 (n % 16 + 1) = 2 * p2 (n % 16) := rfl
  have hlt : y < p2 (15 - n % 16) := by
    refine Int.lt_of_mul_lt_mul_left (a := p2 (n % 16 + 1)) ?_ (by omega)
    rw [← hy, hPQ]; exact g.2
  have hle : p2 (n % 16 + 1) * y ≤ p2 (n % 16 + 1) * (p2 (15 - n % 16) - 1) := Int.mul_le_mul_of_nonneg_left (by omega) (by omega)
  rw [Int.mul_sub, hPQ, ← hy, Int.mul_one] at hle
  refine ⟨by omega, by omega, fun j => ?_⟩
  rw [gd_set hn]
  by_cases hj : j = n / 16
  · rw [if_pos hj, hj]
    have e2 : min 16 (n - 16 * (n / 16)) = n % 16 := by omega
    rw [e2, hy, hP1]
    exact ⟨2 * y + 1, by rw [Int.mul_add, Int.mul_one, ← Int.mul_assoc, Int.mul_comm (p2 (n % 16)) 2]⟩
  · rw [if_neg hj]; exact low_less h j
theorem wdiv {n : Nat} (h : n ≤ 1000) : wrap64 (Int.tdiv (n : Int) 16) = ((n / 16 : Nat) : Int) ∧ IntKind.u64.wrap (Int.tmod (n : Int) 16) = ((n % 16 : Nat) : Int) := by
  rw [Int.tdiv_eq_ediv_of_nonneg (by omega), Int.tmod_eq_emod_of_nonneg (by omega), w64 (by omega) (by omega), IntKind.wrap_u64]
  omega
theorem down_loop {b0 A : Int} (hb : 1 ≤ b0) : ∀ (n k : Nat) (q up rest : List Int), n ≤ 200 → 2500 + n ≤ k → dig q → dig up → dig rest → up.length ≤ 390 → rest.length ≤ 300 → n ≤ 16 * q.length → low q n → (1 ≤ n → val up = b0 * p2 (n - 1)) → val rest < b0 * p2 n → A = val rest + b0 * val q →
    ∃ q' r', tapsterref01_by.l1 k q up rest ((n : Int) - 1) = some (q', r') ∧ dig q' ∧ dig r' ∧ q'.length = q.length ∧ r'.length = rest.length ∧ A = val r' + b0 * val q' ∧ val r' < b0
  | 0, k, q, up, rest, hn, hk, hq, hu, hr, lu, lr, hlq, hl, hv, hlt, hA => by
    obtain ⟨k, rfl⟩ : ∃ m, k = m + 1 := ⟨k - 1, by omega⟩
    have h0 : ¬(((0 : Nat) : Int) - 1 ≥ 0) := by omega
    exact ⟨q, rest, by simp only [tapsterref01_by.l1, if_neg h0], hq, hr, rfl, rfl, hA, by simpa [p2] using hlt⟩
  | n + 1, k, q, up, rest, hn, hk, hq, hu, hr, lu, lr, hlq, hl, hv, hlt, hA => by
    obtain ⟨k, rfl⟩ : ∃ m, k = m + 1 := ⟨k - 1, by omega⟩
    have hv := hv (by omega)
    simp only [Nat.add_sub_cancel] at hv
    have h2n : b0 * p2 (n + 1) = 2 * (b0 * p2 n) := by show b0 * (2 * p2 n) = _; rw [← Int.mul_assoc, Int.mul_comm b0 2, Int.mul_assoc]
    have h0 : ((n + 1 : Nat) : Int) - 1 ≥ 0 := by omega
    have e0 : ((n + 1 : Nat) : Int) - 1 = (n : Int) := by omega
    have h00 : (n : Int) ≥ 0 := by omega
    obtain ⟨t, et, t1, t2⟩ := cmp_is hr hu (by omega) (by omega) (k := k) (by omega)
    obtain ⟨u, eu, u1, u2, u3⟩ := half_is hu (by omega) (k := k) (by omega)
    have hup : 1 ≤ n → val u = b0 * p2 (n - 1) := by
      intro h1
      have e : p2 n = 2 * p2 (n - 1) := by
        obtain ⟨m, rfl⟩ : ∃ m, n = m + 1 := ⟨n - 1, by omega⟩
        rfl
      rw [u3, hv, e, ← Int.mul_assoc, Int.mul_comm b0 2, Int.mul_assoc, Int.mul_ediv_cancel_left _ (by omega)]
    have hlow := low_less hl
    have hidx : n / 16 < q.length := by omega
    have w0 : wrap64 ((n : Int) - 1) = (n : Int) - 1 := w64 (by omega) (by omega)
    rw [e0]
    by_cases ht : t ≥ 0
    · have hle : val up ≤ val rest := by clear w0; omega
      obtain ⟨r, er, r1, r2, r3⟩ := minus_is hr hu (by clear w0; omega) hle (k := k) (by clear w0; omega)
      obtain ⟨d1, d2, d3⟩ := low_set hq hl hidx
      obtain ⟨wd1, wd2⟩ := wdiv (n := n) (by clear w0; omega)
      have hs := shl_p2 ⟨n % 16, by clear w0 wd1 wd2; omega⟩
      simp only at hs
      have w1 := w64 (n := gd q (n / 16) + p2 (n % 16)) (by clear w0 wd1 wd2 hs; omega) (by clear w0 wd1 wd2 hs; omega)
      have i1 : 0 ≤ ((n / 16 : Nat) : Int) := Int.natCast_nonneg _
      have i2 : ((n / 16 : Nat) : Int) < (q.length : Int) := Int.ofNat_lt.2 hidx
      have i3 : 0 ≤ ((n % 16 : Nat) : Int) := Int.natCast_nonneg _
      have hp : p2 (n % 16) * pw (n / 16) = p2 n := by rw [pw_p2, ← p2_add, show n % 16 + 16 * (n / 16) = n from Nat.mod_add_div n 16]
      have hvs := val_set (l := q) (j := n / 16) (x := gd q (n / 16) + p2 (n % 16)) hidx
      rw [show gd q (n / 16) + p2 (n % 16) - gd q (n / 16) = p2 (n % 16) by omega, hp] at hvs
      have hA2 : A = val r + b0 * val (q.set (n / 16) (gd q (n / 16) + p2 (n % 16))) := by
        rw [hvs, Int.mul_add, r2, hv, hA]
        clear w0 w1 wd1 wd2 hs; omega
      obtain ⟨q', r', e, f1, f2, f3, f4, f5, f6⟩ := down_loop hb n k (q.set (n / 16) (gd q (n / 16) + p2 (n % 16))) u r (by clear w0 w1 wd1 wd2 hs; omega) (by clear w0 w1 wd1 wd2 hs; omega) (dig_set hq d1 d2) u1 r1 (by rw [u2]; exact lu) (by rw [r3]; exact lr) (by rw [List.length_set]; clear w0 w1 wd1 wd2 hs; omega) d3 hup (by rw [r2, hv]; clear w0 w1 wd1 wd2 hs; omega) hA2
      refine ⟨q', r', ?_, f1, f2, by rw [f3, List.length_set], by rw [f4, r3], f5, f6⟩
      simp only [tapsterref01_by.l1, if_pos h00, et, Option.bind_some, if_pos ht, er, wd1, wd2, if_pos i1, if_pos i2, if_pos i3, eu, rd_gd, hs, w1, w0, Int.toNat_natCast]
      exact e
    · have hlt2 : val rest < b0 * p2 n := by rw [← hv]; clear w0; omega
      obtain ⟨q', r', e, f1, f2, f3, f4, f5, f6⟩ := down_loop hb n k q u rest (by clear w0; omega) (by clear w0; omega) hq u1 hr (by rw [u2]; exact lu) lr (by clear w0; omega) hlow hup hlt2 hA
      refine ⟨q', r', ?_, f1, f2, f3, f4, f5, f6⟩
      simp only [tapsterref01_by.l1, if_pos h00, et, Option.bind_some, if_neg ht, eu, w0]
      exact e
theorem by_is {a b : List Int} (ha : dig a) (hb : dig b) (la : a.length ≤ 12) (lb : b.length ≤ 100) (hb1 : 1 ≤ val b) {k : Nat} (hk : 5000 ≤ k) :
    ∃ q r, tapsterref01_by.f k a b = some (q, r) ∧ dig q ∧ dig r ∧ q.length = a.length ∧ r.length = a.length ∧ val a = val r + val b * val q ∧ val r < val b := by
  have h1 : 0 ≤ (a.length : Int) := by omega
  have h2 : a.length ≤ 35184372088832 := by omega
  have va := val_bd ha
  have hP : val a < p2 (16 * a.length) := by rw [← pw_p2]; exact va.2
  have hle : p2 (16 * a.length) ≤ val b * p2 (16 * a.length) := by
    have := Int.mul_le_mul_of_nonneg_right hb1 (show 0 ≤ p2 (16 * a.length) by have := p2_pos (16 * a.length); omega)
    rwa [Int.one_mul] at this
  obtain ⟨u, k1, e1, hk1, u1, u2, u3⟩ := up_loop (a := a) (List.replicate a.length 0) (16 * a.length) (by omega) (16 * a.length) 0 k b (by omega) (by omega) hb (by omega)
  obtain ⟨k1, rfl⟩ : ∃ m, k1 = m + 1 := ⟨k1 - 1, by omega⟩
  have hN : ((16 * a.length : Nat) : Int) ≥ 0 := by omega
  obtain ⟨t, et, t1, t2⟩ := cmp_is ha u1 (by omega) (by omega) (k := k1) (by omega)
  have ht : ¬t ≥ 0 := by
    have : val a < val u := by rw [u2]; omega
    omega
  obtain ⟨v, ev, v1, v2, v3⟩ := half_is u1 (by omega) (k := k1) (by omega)
  have hlow : low (List.replicate a.length 0) (16 * a.length) := fun j => by
    have : gd (List.replicate a.length 0) j = 0 := by
      unfold gd; simp [List.getD_eq_getElem?_getD, List.getElem?_replicate]; split <;> rfl
    rw [this]; exact Int.dvd_zero _
  have hvv : 1 ≤ 16 * a.length → val v = val b * p2 (16 * a.length - 1) := by
    intro h
    have e : p2 (16 * a.length) = 2 * p2 (16 * a.length - 1) := by
      obtain ⟨m, hm⟩ : ∃ m, 16 * a.length = m + 1 := ⟨16 * a.length - 1, by omega⟩
      rw [hm]; rfl
    rw [v3, u2, e, ← Int.mul_assoc, Int.mul_comm (val b) 2, Int.mul_assoc, Int.mul_ediv_cancel_left _ (by omega)]
  obtain ⟨q, r, e, f1, f2, f3, f4, f5, f6⟩ := down_loop (b0 := val b) (A := val a) hb1 (16 * a.length) k1 (List.replicate a.length 0) v a (by omega) (by omega) (dig_rep _) v1 ha (by omega) (by omega) (by simp) hlow hvv (by omega) (by rw [val_rep, Int.mul_zero, Int.add_zero])
  have hw : wrap64 (16 * (a.length : Int)) = ((16 * a.length : Nat) : Int) := by rw [w64 (by omega) (by omega)]; omega
  have hw2 : wrap64 (((16 * a.length : Nat) : Int) - 1) = ((16 * a.length : Nat) : Int) - 1 := w64 (by clear hw; omega) (by clear hw; omega)
  refine ⟨q, r, ?_, f1, f2, by rw [f3]; simp, f4, f5, f6⟩
  unfold tapsterref01_by.f
  simp only [if_pos h1, Int.toNat_natCast, if_pos h2, hw]
  refine e1.trans ?_
  simp only [tapsterref01_by.l1, if_pos hN, et, Option.bind_some, if_neg ht, ev, hw2]
  exact e
end Go.Proofs.YtmhfooalcohpgaaV
