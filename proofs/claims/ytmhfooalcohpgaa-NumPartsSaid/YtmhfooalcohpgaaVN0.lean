/- Numbers of 64 bits: products, shares; words of a walk. -/
import Derived.Test.YtmhfooalcohpgaaVC
import Derived.Lib.Mul64
import Derived.Laws.Bits64b
set_option linter.unusedSimpArgs false
set_option linter.unusedVariables false
namespace Go.Proofs.YtmhfooalcohpgaaV
open Go
theorem inj_of {α : Type} {enc : α → List Atom} (dec : List Atom → α) (h : ∀ x, dec (enc x) = x) (x y : α) (e : enc x = enc y) : x = y := by rw [← h x, ← h y, e]
theorem vb_ite (c : Prop) [Decidable c] (a b : Atom) : vb (if c then a else b).1 = if c then vb a.1 else vb b.1 := by split <;> rfl
theorem vi_ite (c : Prop) [Decidable c] (a b : Atom) : vi (if c then a else b).1 = if c then vi a.1 else vi b.1 := by split <;> rfl
theorem pop_wp {cs : Nat → Sig × Con} {Post : List Atom → Prop} {env : List Atom} {L : List (List Atom → Prop)} {n : Nat} {t : T} (h : t.wp cs Post env (L.take n)) : (T.pop n t).wp cs Post env L := h
theorem again_wp {cs : Nat → Sig × Con} {Post : List Atom → Prop} {env : List Atom} {L : List (List Atom → Prop)} {j : Nat} {l : List S} {I : List Atom → Prop} {μ : List Atom → Nat} {bs0 : List Atom}
    (hL : L.getD j (fun _ => False) = fun bs => I bs ∧ μ bs < μ bs0) (h1 : I (l.map (S.atom env))) (h2 : μ (l.map (S.atom env)) < μ bs0) : (T.again j l).wp cs Post env L := by
  show (L.getD j (fun _ => False)) _
  rw [hL]
  exact ⟨h1, h2⟩
/-- A product, as a letter of its own. -/
def ml (a b : Int) : Int := a * b
def U : Int := 18446744073709551616
theorem and32 {a : Nat} (ha : a < 18446744073709551616) : arD .and .u64 (a : Int) 4294967295 = ((a % 4294967296 : Nat) : Int) := by
  have h := bits_and_u64_nat a 4294967295 ha (by omega)
  have e : a &&& 4294967295 = a % 4294967296 := Nat.and_two_pow_sub_one_eq_mod a 32
  rw [e] at h
  exact h
theorem shr32 (a : Nat) : arD .shr .u64 (a : Int) 32 = ((a / 4294967296 : Nat) : Int) := by
  show Int.fdiv (a : Int) (2 ^ (min (Int.toNat 32) IntKind.u64.bits)) = _
  have e : (2 : Int) ^ (min (Int.toNat 32) IntKind.u64.bits) = 4294967296 := by decide
  rw [e, Int.fdiv_eq_ediv_of_nonneg _ (by omega)]
  omega
theorem shr63 (a : Int) : arD .shr .u64 a 63 = a / 9223372036854775808 := by
  show Int.fdiv a (2 ^ (min (Int.toNat 63) IntKind.u64.bits)) = _
  have e : (2 : Int) ^ (min (Int.toNat 63) IntKind.u64.bits) = 9223372036854775808 := by decide
  rw [e, Int.fdiv_eq_ediv_of_nonneg _ (by omega)]
theorem wrapN (a : Nat) (ha : a < 18446744073709551616) : IntKind.u64.wrap (a : Int) = (a : Int) := by rw [IntKind.wrap_u64]; omega
theorem mulN (a b : Nat) (h : a * b < 18446744073709551616) : arD .mul .u64 (a : Int) (b : Int) = ((a * b : Nat) : Int) := by
  show IntKind.u64.wrap _ = _
  rw [← Int.natCast_mul]; exact wrapN _ h
theorem addN (a b : Nat) (h : a + b < 18446744073709551616) : arD .add .u64 (a : Int) (b : Int) = ((a + b : Nat) : Int) := by
  show IntKind.u64.wrap _ = _
  rw [← Int.natCast_add]; exact wrapN _ h
/-- The upper half, as the library reckons it. -/
theorem mul64_hi_is {x y : Int} (hx : 0 ≤ x) (hx2 : x < 18446744073709551616) (hy : 0 ≤ y) (hy2 : y < 18446744073709551616) :
    arD .add .u64 (arD .add .u64 (arD .mul .u64 (arD .shr .u64 x 32) (arD .shr .u64 y 32)) (arD .shr .u64 (arD .add .u64 (arD .mul .u64 (arD .shr .u64 x 32) (arD .and .u64 y 4294967295)) (arD .shr .u64 (arD .mul .u64 (arD .and .u64 x 4294967295) (arD .and .u64 y 4294967295)) 32)) 32))
      (arD .shr .u64 (arD .add .u64 (arD .and .u64 (arD .add .u64 (arD .mul .u64 (arD .shr .u64 x 32) (arD .and .u64 y 4294967295)) (arD .shr .u64 (arD .mul .u64 (arD .and .u64 x 4294967295) (arD .and .u64 y 4294967295)) 32)) 4294967295) (arD .mul .u64 (arD .and .u64 x 4294967295) (arD .shr .u64 y 32))) 32)
    = ml x y / 18446744073709551616 := by
  obtain ⟨a, rfl⟩ := Int.eq_ofNat_of_zero_le hx
  obtain ⟨b, rfl⟩ := Int.eq_ofNat_of_zero_le hy
  have ha : a < 18446744073709551616 := by omega
  have hb : b < 18446744073709551616 := by omega
  obtain ⟨bd, bt, bw, hhi⟩ := Lib.mul64_hi a b ha hb
  have ba := Lib.half_mul_le (a := a / 4294967296) (b := b / 4294967296) (by omega) (by omega)
  have bb := Lib.half_mul_le (a := a / 4294967296) (b := b % 4294967296) (by omega) (by omega)
  have bc := Lib.half_mul_le (a := a % 4294967296) (b := b / 4294967296) (by omega) (by omega)
  rw [and32 ha, and32 hb, shr32, shr32, mulN _ _ (by omega), mulN _ _ (by omega), mulN _ _ bd, mulN _ _ (by omega), shr32, addN _ _ bt, shr32, and32 bt, addN _ _ (by omega), addN _ _ bw, shr32, addN _ _ (by omega), hhi]
  unfold ml
  rw [← Int.natCast_mul]
  omega
end Go.Proofs.YtmhfooalcohpgaaV
