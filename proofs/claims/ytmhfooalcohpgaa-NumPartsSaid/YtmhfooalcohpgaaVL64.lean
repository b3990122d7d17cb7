/- The length of 64 bits; leading noughts. -/
import Derived.Test.YtmhfooalcohpgaaVN0
import Derived.Laws.Bits64b
set_option linter.unusedSimpArgs false
set_option linter.unusedVariables false
set_option linter.unusedVariables false
set_option maxRecDepth 20000
namespace Go.Proofs.YtmhfooalcohpgaaV
open Go
def len64 (x : Int) : Int := (Nat.log2 x.toNat + 1 : Nat)
def lz (x : Int) : Int := 63 - (Nat.log2 x.toNat : Int)
def tabL : List UInt8 := [0, 1, 2, 2, 3, 3, 3, 3, 4, 4, 4, 4, 4, 4, 4, 4, 5, 5, 5, 5, 5, 5, 5, 5, 5, 5, 5, 5, 5, 5, 5, 5, 6, 6, 6, 6, 6, 6, 6, 6, 6, 6, 6, 6, 6, 6, 6, 6, 6, 6, 6, 6, 6, 6, 6, 6, 6, 6, 6, 6, 6, 6, 6, 6, 7, 7, 7, 7, 7, 7, 7, 7, 7, 7, 7, 7, 7, 7, 7, 7, 7, 7, 7, 7, 7, 7, 7, 7, 7, 7, 7, 7, 7, 7, 7, 7, 7, 7, 7, 7, 7, 7, 7, 7, 7, 7, 7, 7, 7, 7, 7, 7, 7, 7, 7, 7, 7, 7, 7, 7, 7, 7, 7, 7, 7, 7, 7, 7, 8, 8, 8, 8, 8, 8, 8, 8, 8, 8, 8, 8, 8, 8, 8, 8, 8, 8, 8, 8, 8, 8, 8, 8, 8, 8, 8, 8, 8, 8, 8, 8, 8, 8, 8, 8, 8, 8, 8, 8, 8, 8, 8, 8, 8, 8, 8, 8, 8, 8, 8, 8, 8, 8, 8, 8, 8, 8, 8, 8, 8, 8, 8, 8, 8, 8, 8, 8, 8, 8, 8, 8, 8, 8, 8, 8, 8, 8, 8, 8, 8, 8, 8, 8, 8, 8, 8, 8, 8, 8, 8, 8, 8, 8, 8, 8, 8, 8, 8, 8, 8, 8, 8, 8, 8, 8, 8, 8, 8, 8, 8, 8, 8, 8, 8, 8, 8, 8, 8, 8, 8, 8, 8, 8, 8, 8, 8, 8]
def tabV (i : Int) : Int := ((((⟨tabL.toArray⟩ : ByteArray)[i.toNat]?.map (·.toNat)).getD 0 : Nat) : Int)
theorem tab_all : ∀ v : Fin 256, 1 ≤ v.val → tabV (v.val : Int) = (Nat.log2 v.val + 1 : Nat) := by decide +kernel
theorem tab_is {e : Int} (h1 : 1 ≤ e) (h2 : e < 256) : tabV e = (Nat.log2 e.toNat : Int) + 1 := by
  have := tab_all ⟨e.toNat, by omega⟩ (by simp only; omega)
  simp only at this
  rwa [Int.toNat_of_nonneg (by omega)] at this
theorem log2_div (x k : Nat) (h : 1 ≤ x / 2 ^ k) : Nat.log2 x = Nat.log2 (x / 2 ^ k) + k := by
  have hx : x ≠ 0 := by rintro rfl; simp at h
  have hd : x / 2 ^ k ≠ 0 := by omega
  have h2 : 2 ^ k * 2 ^ Nat.log2 (x / 2 ^ k) ≤ x := by
    have := Nat.log2_self_le hd
    exact Nat.le_trans (Nat.mul_le_mul_left _ this) (Nat.mul_div_le x (2 ^ k))
  have h3 : x < 2 ^ k * 2 ^ (Nat.log2 (x / 2 ^ k) + 1) := by
    have := @Nat.lt_log2_self (x / 2 ^ k)
    have h4 := Nat.lt_mul_div_succ x (Nat.two_pow_pos k)
    exact Nat.lt_of_lt_of_le h4 (Nat.mul_le_mul_left _ this)
  rw [← Nat.pow_add] at h2 h3
  have h5 := (Nat.le_log2 hx).2 h2
  have h6 := (Nat.log2_lt hx).2 h3
  omega
theorem len_of {x e : Int} (k : Nat) (h0 : 0 ≤ x) (he : e = x / (2 ^ k : Nat)) (h1 : 1 ≤ e) (h2 : e < 256) (hk : k ≤ 56) : IntKind.i64.wrap ((k : Int) + IntKind.i64.wrap (tabV (IntKind.u8.wrap e))) = len64 x := by
  have hw : IntKind.u8.wrap e = e := by rw [IntKind.wrap_u8]; omega
  have e2 : e.toNat = x.toNat / 2 ^ k := by
    obtain ⟨n, rfl⟩ : ∃ n : Nat, x = n := ⟨x.toNat, by omega⟩
    rw [he, ← Int.natCast_ediv]; rfl
  have h3 := log2_div x.toNat k (by rw [← e2]; omega)
  rw [← e2] at h3
  have h4 : Nat.log2 e.toNat < 8 := (Nat.log2_lt (by omega)).2 (by omega)
  rw [hw, tab_is h1 h2]
  have w1 := wrap_id ((Nat.log2 e.toNat : Int) + 1) (by omega) (by omega)
  have w2 := wrap_id ((k : Int) + ((Nat.log2 e.toNat : Int) + 1)) (by omega) (by omega)
  rw [w1, w2]
  unfold len64
  rw [h3]; omega
theorem lz_spec {x : Int} (h1 : 1 ≤ x) (h2 : x < 18446744073709551616) : ∃ k : Nat, lz x = k ∧ k < 64 ∧ 9223372036854775808 ≤ x * (2 ^ k : Nat) ∧ x * (2 ^ k : Nat) < 18446744073709551616 := by
  obtain ⟨n, rfl⟩ : ∃ n : Nat, x = n := ⟨x.toNat, by omega⟩
  have hn : n ≠ 0 := by omega
  have hl : Nat.log2 n < 64 := (Nat.log2_lt hn).2 (by omega)
  have a1 := Nat.log2_self_le hn
  have a2 := @Nat.lt_log2_self n
  refine ⟨63 - Nat.log2 n, by unfold lz; simp; omega, by omega, ?_, ?_⟩
  · have h3 : 2 ^ Nat.log2 n * 2 ^ (63 - Nat.log2 n) ≤ n * 2 ^ (63 - Nat.log2 n) := Nat.mul_le_mul_right _ a1
    rw [← Nat.pow_add, show Nat.log2 n + (63 - Nat.log2 n) = 63 by omega] at h3
    have h5 : 2 ^ 63 = 9223372036854775808 := by decide
    rw [h5] at h3
    have h4 := Int.ofNat_le.2 h3
    rw [Int.natCast_mul] at h4
    exact h4
  · have h3 : n * 2 ^ (63 - Nat.log2 n) < 2 ^ (Nat.log2 n + 1) * 2 ^ (63 - Nat.log2 n) := Nat.mul_lt_mul_of_pos_right a2 (Nat.two_pow_pos _)
    rw [← Nat.pow_add, show Nat.log2 n + 1 + (63 - Nat.log2 n) = 64 by omega] at h3
    have h5 : 2 ^ 64 = 18446744073709551616 := by decide
    rw [h5] at h3
    have h4 := Int.ofNat_lt.2 h3
    rw [Int.natCast_mul] at h4
    exact h4
end Go.Proofs.YtmhfooalcohpgaaV
