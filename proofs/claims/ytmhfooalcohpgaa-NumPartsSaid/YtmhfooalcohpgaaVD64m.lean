/- Division of 128 bits by 64: one half of it. Division of 128 bits by 64: how it is set up. -/
import Derived.Test.YtmhfooalcohpgaaVN0
import Derived.Test.YtmhfooalcohpgaaVC
import Derived.Laws.Bits64b
import Derived.Test.YtmhfooalcohpgaaVL64
set_option linter.unusedSimpArgs false
set_option linter.unusedVariables false
section
set_option linter.unusedVariables false
namespace Go.Proofs.YtmhfooalcohpgaaV
open Go
/-- One half's quotient: what the estimate keeps, and where it ends. -/
def q1 (U C Y : Int) : Int := (U * 4294967296 + C) / Y
structure HalfOk (A B U C Y : Int) : Prop where
  y : Y = A * 4294967296 + B
  a : 2147483648 ≤ A
  a2 : A < 4294967296
  b : 0 ≤ B
  b2 : B < 4294967296
  u : 0 ≤ U
  u2 : U < Y
  c : 0 ≤ C
  c2 : C < 4294967296
theorem q1_spec {A B U C Y : Int} (h : HalfOk A B U C Y) : q1 U C Y * Y ≤ U * 4294967296 + C ∧ U * 4294967296 + C < q1 U C Y * Y + Y ∧ 0 ≤ q1 U C Y ∧ q1 U C Y < 4294967296 := by
  obtain ⟨hy, a, a2, b, b2, u, u2, c, c2⟩ := h
  have hY : 0 < Y := by omega
  have e := Int.emod_add_mul_ediv (U * 4294967296 + C) Y
  have e1 := Int.emod_nonneg (U * 4294967296 + C) (show Y ≠ 0 by omega)
  have e2 := Int.emod_lt_of_pos (U * 4294967296 + C) hY
  have hq : q1 U C Y * Y = Y * ((U * 4294967296 + C) / Y) := by unfold q1; rw [Int.mul_comm]
  refine ⟨by omega, by omega, Int.ediv_nonneg (by omega) (by omega), ?_⟩
  unfold q1
  rw [Int.ediv_lt_iff_lt_mul hY]
  omega
theorem q1_le {A B U C Y q : Int} (h : HalfOk A B U C Y) (hq : q * Y ≤ U * 4294967296 + C) : q ≤ q1 U C Y := by
  have hY : 0 < Y := by have := h.y; have := h.a; have := h.b; omega
  unfold q1
  rw [Int.le_ediv_iff_mul_le hY]; exact hq
theorem q1_lt {A B U C Y q : Int} (h : HalfOk A B U C Y) (hq : U * 4294967296 + C < q * Y) : q1 U C Y < q := by
  have hY : 0 < Y := by have := h.y; have := h.a; have := h.b; omega
  unfold q1
  rw [Int.ediv_lt_iff_lt_mul hY]; exact hq
theorem qY {A B U C Y q r : Int} (h : HalfOk A B U C Y) (hr : q * A + r = U) : q * Y = (U - r) * 4294967296 + q * B := by
  rw [h.y, Int.mul_add, ← Int.mul_assoc, show q * A = U - r by omega]
/-- At first. -/
theorem half_init {A B U C Y : Int} (h : HalfOk A B U C Y) : ∃ q r, U / A = q ∧ U - q * A = r ∧ 0 ≤ r ∧ r < 4294967296 ∧ q * A + r = U ∧ q1 U C Y ≤ q ∧ 0 ≤ q ∧ q ≤ 4294967297 ∧ 0 ≤ q * A ∧ q * A ≤ U := by
  obtain ⟨hy, a, a2, b, b2, u, u2, c, c2⟩ := h
  have e := Int.emod_add_mul_ediv U A
  have e1 := Int.emod_nonneg U (show A ≠ 0 by omega)
  have e2 := Int.emod_lt_of_pos U (show 0 < A by omega)
  have e3 : U / A * A = A * (U / A) := Int.mul_comm _ _
  have q0 : 0 ≤ U / A := Int.ediv_nonneg u (by omega)
  have e4 : 0 ≤ U / A * A := Int.mul_nonneg q0 (by omega)
  have hq : U / A ≤ 4294967297 := by
    have : U / A < 4294967298 := by rw [Int.ediv_lt_iff_lt_mul (by omega)]; omega
    omega
  have h' : HalfOk A B U C Y := ⟨hy, a, a2, b, b2, u, u2, c, c2⟩
  have hb : 0 ≤ U / A * B := Int.mul_nonneg q0 b
  refine ⟨U / A, U - U / A * A, rfl, rfl, by omega, by omega, by omega, ?_, q0, hq, by omega, by omega⟩
  have h1 : U * 4294967296 + C < (U / A + 1) * Y := by
    rw [Int.add_mul, Int.one_mul, qY h' (r := U - U / A * A) (by omega), hy]
    omega
  have := q1_lt h' h1
  omega
/-- The estimate is too great: one less. -/
theorem half_less {A B U C Y q r : Int} (h : HalfOk A B U C Y) (hr : q * A + r = U) (hq : q1 U C Y ≤ q) (hc : 4294967296 ≤ q ∨ 4294967296 * r + C < q * B) : q1 U C Y ≤ q - 1 ∧ (q - 1) * A + (r + A) = U := by
  refine ⟨?_, by rw [Int.sub_mul, Int.one_mul]; omega⟩
  rcases hc with hc | hc
  · have := (q1_spec h).2.2.2; omega
  · have h1 : U * 4294967296 + C < q * Y := by rw [qY h hr]; omega
    have := q1_lt h h1; omega
/-- The estimate is right. -/
theorem half_done {A B U C Y q r : Int} (h : HalfOk A B U C Y) (hr : q * A + r = U) (hq : q1 U C Y ≤ q) (hc : q * B ≤ 4294967296 * r + C) : q = q1 U C Y := by
  have h1 : q * Y ≤ U * 4294967296 + C := by rw [qY h hr]; omega
  have := q1_le h h1; omega
theorem half_break {A B U C Y q r : Int} (h : HalfOk A B U C Y) (hr : q * A + r = U) (hq : q1 U C Y ≤ q) (h2 : q ≤ 4294967296) (h0 : 0 ≤ q) (hc : 4294967296 ≤ r) : q = q1 U C Y := by
  refine half_done h hr hq ?_
  have h3 : q * B ≤ 4294967296 * B := Int.mul_le_mul_of_nonneg_right h2 h.b
  have := h.b2; have := h.c
  omega
end Go.Proofs.YtmhfooalcohpgaaV
namespace Go.Proofs.YtmhfooalcohpgaaV
open Go
theorem wrap_u (n : Int) (h : 0 ≤ n) (h2 : n < 18446744073709551616) : IntKind.u64.wrap n = n := by rw [IntKind.wrap_u64]; omega
theorem rest_fact {A B U C Y : Int} (h : HalfOk A B U C Y) (hY : Y < 18446744073709551616) :
    IntKind.u64.wrap (IntKind.u64.wrap (IntKind.u64.wrap (U * 4294967296) + C) - IntKind.u64.wrap (q1 U C Y * Y)) = U * 4294967296 + C - q1 U C Y * Y := by
  obtain ⟨s1, s2, _, _⟩ := q1_spec h
  obtain ⟨x, hx⟩ : ∃ x, x = q1 U C Y * Y := ⟨_, rfl⟩
  rw [← hx] at s1 s2 ⊢
  simp only [IntKind.wrap_u64]
  omega
theorem and_mask {a : Int} (h : 0 ≤ a) (h2 : a < 18446744073709551616) : bitsD .u64 (· &&& ·) a 4294967295 = a % 4294967296 := by
  obtain ⟨n, rfl⟩ : ∃ n : Nat, a = n := ⟨a.toNat, by omega⟩
  have := bits_and_u64_nat n 4294967295 (by omega) (by decide)
  have e : n &&& 4294967295 = n % 4294967296 := Nat.and_two_pow_sub_one_eq_mod n 32
  rw [e] at this
  exact this.trans (by omega)
theorem or_fact {h l : Nat} {k : Nat} (hl : l < 2 ^ k) (hb : h * 2 ^ k + l < 18446744073709551616) : bitsD .u64 (· ||| ·) ((h * 2 ^ k : Nat) : Int) (l : Int) = ((h * 2 ^ k + l : Nat) : Int) := by
  have := bits_or_u64_nat (h * 2 ^ k) l (by omega) (by omega)
  have e : h * 2 ^ k ||| l = h * 2 ^ k + l := by rw [Nat.mul_comm]; exact (Nat.two_pow_add_eq_or_of_lt hl h).symm
  rw [e] at this
  exact this
theorem div_final {N y P Q R : Int} (hP : 1 ≤ P) (hy : 1 ≤ y) (h : N * P = Q * (y * P) + R) (h0 : 0 ≤ R) (h1 : R < y * P) : dv N y = Q ∧ md N y = R / P := by
  have e : N * P - Q * y * P = R := by rw [Int.mul_assoc]; omega
  rw [← Int.sub_mul] at e
  have a1 : 0 ≤ N - Q * y := by
    by_cases h2 : 0 ≤ N - Q * y
    · exact h2
    · have : (N - Q * y) * P < 0 := Int.mul_neg_of_neg_of_pos (by omega) (by omega)
      omega
  have a2 : N - Q * y < y := Int.lt_of_mul_lt_mul_right (show (N - Q * y) * P < y * P by omega) (by omega)
  have d1 : dv N y = Q := by
    unfold dv
    have e2 : N = (N - Q * y) + y * Q := by rw [Int.mul_comm y Q]; omega
    rw [e2, Int.add_mul_ediv_left _ _ (by omega), Int.ediv_eq_zero_of_lt a1 a2]; omega
  refine ⟨d1, ?_⟩
  have e3 := Int.emod_add_mul_ediv N y
  have e4 : y * (N / y) = Q * y := by rw [show N / y = Q from d1, Int.mul_comm]
  rw [← e, Int.mul_ediv_cancel _ (by omega)]
  unfold md; omega
/-- Both halves. -/
theorem div_both {A B U C D T Y V N y P : Int} (hP : 1 ≤ P) (hy : 1 ≤ y) (hYP : Y = y * P) (h1 : HalfOk A B U C Y) (hT : T = U * 4294967296 + C - q1 U C Y * Y) (hD : 0 ≤ D) (hD2 : D < 4294967296) (hV : V = C * 4294967296 + D) (hN : U * 18446744073709551616 + V = N * P) :
    HalfOk A B T D Y ∧ dv N y = q1 U C Y * 4294967296 + q1 T D Y ∧ md N y = (T * 4294967296 + D - q1 T D Y * Y) / P := by
  obtain ⟨s1, s2, s3, s4⟩ := q1_spec h1
  have h2 : HalfOk A B T D Y := ⟨h1.y, h1.a, h1.a2, h1.b, h1.b2, by omega, by omega, hD, hD2⟩
  obtain ⟨t1, t2, t3, t4⟩ := q1_spec h2
  have e : N * P = (q1 U C Y * 4294967296 + q1 T D Y) * (y * P) + (T * 4294967296 + D - q1 T D Y * Y) := by
    rw [← hN, ← hYP, Int.add_mul, Int.mul_assoc, Int.mul_comm 4294967296 Y, ← Int.mul_assoc]
    omega
  exact ⟨h2, div_final hP hy e (by omega) (by rw [← hYP]; omega)⟩
end Go.Proofs.YtmhfooalcohpgaaV
end

section
set_option linter.unusedVariables false
namespace Go.Proofs.YtmhfooalcohpgaaV
open Go
theorem pw_cast {k : Nat} (hk : k ≤ 64) : (2 : Int) ^ (min (Int.toNat (k : Int)) IntKind.u64.bits) = ((2 ^ k : Nat) : Int) := by
  have : min (Int.toNat (k : Int)) IntKind.u64.bits = k := by
    rw [Int.toNat_natCast]; exact Nat.min_eq_left hk
  rw [this]; simp
theorem split_low {z k : Nat} (hk : k < 64) (hz : z < 18446744073709551616) : z / 2 ^ (64 - k) < 2 ^ k ∧ z * 2 ^ k = z / 2 ^ (64 - k) * 18446744073709551616 + z * 2 ^ k % 18446744073709551616 := by
  have e : 2 ^ (64 - k) * 2 ^ k = 18446744073709551616 := by
    rw [← Nat.pow_add, show 64 - k + k = 64 by omega]
  have hp : 0 < 2 ^ (64 - k) := Nat.two_pow_pos _
  refine ⟨?_, ?_⟩
  · rw [Nat.div_lt_iff_lt_mul hp, Nat.mul_comm, e]; exact hz
  · have h1 := Nat.div_add_mod z (2 ^ (64 - k))
    have h2 := Nat.mod_lt z hp
    have h3 : z % 2 ^ (64 - k) * 2 ^ k < 18446744073709551616 := by
      rw [← e]; exact Nat.mul_lt_mul_of_pos_right h2 (Nat.two_pow_pos _)
    have h4 : z * 2 ^ k = z / 2 ^ (64 - k) * 18446744073709551616 + z % 2 ^ (64 - k) * 2 ^ k := by
      have : z * 2 ^ k = (2 ^ (64 - k) * (z / 2 ^ (64 - k)) + z % 2 ^ (64 - k)) * 2 ^ k := by rw [h1]
      rw [this, Nat.add_mul]
      congr 1
      rw [← e, Nat.mul_comm (2 ^ (64 - k)) (z / 2 ^ (64 - k)), Nat.mul_assoc]
    omega
theorem div_setup {x z y : Int} (hx : 0 ≤ x) (hxy : x < y) (hz : 0 ≤ z) (hz2 : z < 18446744073709551616) (hy : y < 18446744073709551616) : ∃ (k j : Nat) (P J Y A B H K U V C D : Int),
    IntKind.u64.wrap (lz y) = k ∧ IntKind.u64.wrap (64 - (k : Int)) = j ∧ (∀ a : Int, a * 2 ^ (min (Int.toNat (k : Int)) IntKind.u64.bits) = a * P) ∧ (∀ a : Int, a.fdiv (2 ^ (min (Int.toNat (k : Int)) IntKind.u64.bits)) = a / P) ∧ (∀ a : Int, a.fdiv (2 ^ (min (Int.toNat (j : Int)) IntKind.u64.bits)) = a / J) ∧
    IntKind.u64.wrap (y * P) = Y ∧ Y / 4294967296 = A ∧ bitsD .u64 (· &&& ·) Y 4294967295 = B ∧ IntKind.u64.wrap (x * P) = H ∧ z / J = K ∧ bitsD .u64 (· ||| ·) H K = U ∧ IntKind.u64.wrap (z * P) = V ∧ V / 4294967296 = C ∧ bitsD .u64 (· &&& ·) V 4294967295 = D ∧
    HalfOk A B U C Y ∧ Y < 18446744073709551616 ∧ 1 ≤ P ∧ Y = y * P ∧ 0 ≤ D ∧ D < 4294967296 ∧ V = C * 4294967296 + D ∧ U * 18446744073709551616 + V = (x * 18446744073709551616 + z) * P := by
  obtain ⟨k, hk, hk2, n1, n2⟩ := lz_spec (x := y) (by omega) hy
  obtain ⟨a, rfl⟩ : ∃ n : Nat, x = n := ⟨x.toNat, by omega⟩
  obtain ⟨c, rfl⟩ : ∃ n : Nat, z = n := ⟨z.toNat, by omega⟩
  obtain ⟨b, rfl⟩ : ∃ n : Nat, y = n := ⟨y.toNat, by omega⟩
  obtain ⟨l1, l2⟩ := split_low (z := c) hk2 (by omega)
  have hY : IntKind.u64.wrap ((b : Int) * ((2 ^ k : Nat) : Int)) = (b : Int) * ((2 ^ k : Nat) : Int) := wrap_u _ (by omega) n2
  have hP : 0 < 2 ^ k := Nat.two_pow_pos k
  have hab : a * 2 ^ k + 2 ^ k ≤ b * 2 ^ k := by
    rw [← Nat.succ_mul]; exact Nat.mul_le_mul_right _ (by omega)
  have n1' : 9223372036854775808 ≤ b * 2 ^ k := by rw [← Int.natCast_mul] at n1; omega
  have n2' : b * 2 ^ k < 18446744073709551616 := by rw [← Int.natCast_mul] at n2; omega
  have hH : IntKind.u64.wrap ((a : Int) * ((2 ^ k : Nat) : Int)) = ((a * 2 ^ k : Nat) : Int) := by rw [← Int.natCast_mul]; exact wrap_u _ (by omega) (by omega)
  have hU := or_fact (h := a) l1 (by omega)
  have hV : IntKind.u64.wrap ((c : Int) * ((2 ^ k : Nat) : Int)) = ((c * 2 ^ k % 18446744073709551616 : Nat) : Int) := by rw [← Int.natCast_mul, IntKind.wrap_u64]; omega
  have hm1 := and_mask (a := ((b * 2 ^ k : Nat) : Int)) (by omega) (by omega)
  have hm2 := and_mask (a := ((c * 2 ^ k % 18446744073709551616 : Nat) : Int)) (by omega) (by omega)
  rw [← Int.natCast_mul] at hY
  have hKc : (c : Int) / ((2 ^ (64 - k) : Nat) : Int) = ((c / 2 ^ (64 - k) : Nat) : Int) := (Int.natCast_ediv _ _).symm
  obtain ⟨q, hq⟩ : ∃ q, q = c / 2 ^ (64 - k) := ⟨_, rfl⟩
  rw [← hq] at l1 l2 hU hKc
  refine ⟨k, 64 - k, ((2 ^ k : Nat) : Int), ((2 ^ (64 - k) : Nat) : Int), ((b * 2 ^ k : Nat) : Int), _, ((b * 2 ^ k : Nat) : Int) % 4294967296, ((a * 2 ^ k : Nat) : Int), (q : Int), ((a * 2 ^ k + q : Nat) : Int), ((c * 2 ^ k % 18446744073709551616 : Nat) : Int), _, ((c * 2 ^ k % 18446744073709551616 : Nat) : Int) % 4294967296, ?_, ?_, fun n => by rw [pw_cast (by omega)], fun n => ?_, fun n => ?_, by rw [← Int.natCast_mul]; exact hY, rfl, hm1, hH, hKc, hU, hV, rfl, hm2, ?_, by omega, by omega, by rw [Int.natCast_mul], ?_⟩
  · rw [hk]; exact wrap_u _ (by omega) (by omega)
  · rw [wrap_u _ (by omega) (by omega)]; omega
  · rw [pw_cast (by omega), Int.fdiv_eq_ediv_of_nonneg _ (Int.natCast_nonneg _)]
  · rw [pw_cast (by omega), Int.fdiv_eq_ediv_of_nonneg _ (Int.natCast_nonneg _)]
  · exact ⟨by omega, by omega, by omega, by omega, by omega, by omega, by omega, by omega, by omega⟩
  · refine ⟨by omega, by omega, by omega, ?_⟩
    rw [Int.add_mul, Int.mul_assoc, Int.mul_comm 18446744073709551616, ← Int.mul_assoc, ← Int.natCast_mul, ← Int.natCast_mul]
    omega
end Go.Proofs.YtmhfooalcohpgaaV
end
