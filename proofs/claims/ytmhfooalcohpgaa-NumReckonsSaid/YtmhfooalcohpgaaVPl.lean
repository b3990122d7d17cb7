/- Policies, states, acts as data; their leaves. -/
import Derived.Test.YtmhfooalcohpgaaVS14
namespace Go.Proofs.YtmhfooalcohpgaaV
open Go

structure Sl where
  a : Option Addr
  n : Nat
  c : Nat
  d : D
def Sl.atom (s : Sl) : Atom := (.slice s.a s.n s.c, s.d)
def Sl.nil : Sl := ⟨none, 0, 0, .rows 0 []⟩
structure Pol where
  k : Int
  l : Int
  p : Int
  b : Int
  c : Int
  o : Bool
def Pol.enc (x : Pol) : List Atom := [aI x.k, aI x.l, aI x.p, aI x.b, aI x.c, aB x.o]
structure Stt where
  t : Int
  v : Int
  h : Int
  g : Sl
def Stt.enc (x : Stt) : List Atom := [aI x.t, aI x.v, aI x.h, x.g.atom]
def Stt.zero : Stt := ⟨0, 0, 0, Sl.nil⟩
structure Ac where
  k : Int
  t : Int
  c : Int
def Ac.enc (x : Ac) : List Atom := [aI x.k, aI x.t, aI x.c]
theorem Pol.inj {x y : Pol} (h : x.enc = y.enc) : x = y := by
  cases x; cases y
  simp only [Pol.enc, aI, aB, List.cons.injEq, Prod.mk.injEq, Value.int.injEq, Value.bool.injEq, true_and, and_true] at h
  obtain ⟨rfl, rfl, rfl, rfl, rfl, rfl⟩ := h; rfl
theorem Sl.inj {x y : Sl} (h : x.atom = y.atom) : x = y := by
  cases x; cases y
  simp only [Sl.atom, Prod.mk.injEq, Value.slice.injEq] at h
  obtain ⟨⟨rfl, rfl, rfl⟩, rfl⟩ := h; rfl
theorem Stt.inj {x y : Stt} (h : x.enc = y.enc) : x = y := by
  cases x; cases y
  simp only [Stt.enc, aI, List.cons.injEq, Prod.mk.injEq, Value.int.injEq, true_and, and_true] at h
  obtain ⟨rfl, rfl, rfl, h⟩ := h
  rw [Sl.inj h]
theorem Ac.inj {x y : Ac} (h : x.enc = y.enc) : x = y := by
  cases x; cases y
  simp only [Ac.enc, aI, List.cons.injEq, Prod.mk.injEq, Value.int.injEq, true_and, and_true] at h
  obtain ⟨rfl, rfl, rfl⟩ := h; rfl
theorem pol_len (x : Pol) : x.enc.length = 6 := rfl
theorem stt_len (x : Stt) : x.enc.length = 4 := rfl
/-- A policy, a state; a state alone; .. as one row of leaves. -/
def encPS (x : Pol × Stt) : List Atom := x.1.enc ++ x.2.enc
def encPSn (x : Pol × Stt × Int) : List Atom := x.1.enc ++ (x.2.1.enc ++ [aI x.2.2])
def encPSnc (x : Pol × Stt × Int × Int) : List Atom := x.1.enc ++ (x.2.1.enc ++ [aI x.2.2.1, aI x.2.2.2])
def encPSA (x : Pol × Stt × Ac) : List Atom := x.1.enc ++ (x.2.1.enc ++ x.2.2.enc)
def encPn (x : Pol × Int) : List Atom := x.1.enc ++ [aI x.2]
def encSS (x : Stt × Stt) : List Atom := x.1.enc ++ x.2.enc
def encI (x : Int) : List Atom := [aI x]
theorem encI_inj (x y : Int) (h : encI x = encI y) : x = y := by simpa [encI] using h
theorem encPS_inj (x y : Pol × Stt) (h : encPS x = encPS y) : x = y := by
  obtain ⟨h1, h2⟩ := List.append_inj h rfl
  exact Prod.ext (Pol.inj h1) (Stt.inj h2)
theorem encPn_inj (x y : Pol × Int) (h : encPn x = encPn y) : x = y := by
  obtain ⟨h1, h2⟩ := List.append_inj h rfl
  exact Prod.ext (Pol.inj h1) (by simpa using h2)
theorem encSS_inj (x y : Stt × Stt) (h : encSS x = encSS y) : x = y := by
  obtain ⟨h1, h2⟩ := List.append_inj h rfl
  exact Prod.ext (Stt.inj h1) (Stt.inj h2)
theorem encPSn_inj (x y : Pol × Stt × Int) (h : encPSn x = encPSn y) : x = y := by
  obtain ⟨h1, h2⟩ := List.append_inj h rfl
  obtain ⟨h2, h3⟩ := List.append_inj h2 rfl
  exact Prod.ext (Pol.inj h1) (Prod.ext (Stt.inj h2) (by simpa using h3))
theorem encPSnc_inj (x y : Pol × Stt × Int × Int) (h : encPSnc x = encPSnc y) : x = y := by
  obtain ⟨h1, h2⟩ := List.append_inj h rfl
  obtain ⟨h2, h3⟩ := List.append_inj h2 rfl
  exact Prod.ext (Pol.inj h1) (Prod.ext (Stt.inj h2) (by simp at h3; exact Prod.ext h3.1 h3.2))
theorem encPSA_inj (x y : Pol × Stt × Ac) (h : encPSA x = encPSA y) : x = y := by
  obtain ⟨h1, h2⟩ := List.append_inj h rfl
  obtain ⟨h2, h3⟩ := List.append_inj h2 rfl
  exact Prod.ext (Pol.inj h1) (Prod.ext (Stt.inj h2) (Ac.inj h3))
theorem Pol.eta (p : Pol) : (⟨p.k, p.l, p.p, p.b, p.c, p.o⟩ : Pol) = p := rfl
theorem Sl.eta (s : Sl) : (⟨s.a, s.n, s.c, s.d⟩ : Sl) = s := rfl
theorem Stt.eta (s : Stt) : (⟨s.t, s.v, s.h, s.g⟩ : Stt) = s := rfl
theorem Ac.eta (s : Ac) : (⟨s.k, s.t, s.c⟩ : Ac) = s := rfl
theorem Sl.nil_eq : (⟨none, 0, 0, .rows 0 []⟩ : Sl) = Sl.nil := rfl
def code (fn : Func) : Code := fn.body.getD .skip
theorem wrap64_in {n : Int} (h : -9223372036854775808 ≤ n) (h2 : n ≤ 9223372036854775807) : IntKind.i64.wrap n = n := by
  rw [IntKind.wrap_i64]; omega
/-- Quotients and rests, of what is not below nothing: as letters of their own. -/
def dv (a p : Int) : Int := a / p
def md (a p : Int) : Int := a % p
theorem wrap_id (n : Int) (h : -9223372036854775808 ≤ n) (h2 : n ≤ 9223372036854775807) : IntKind.i64.wrap n = n := by rw [IntKind.wrap_i64]; omega
theorem dv_ok (a p : Int) (h : 0 ≤ a) (hp : 1 ≤ p) : 0 ≤ dv a p ∧ dv a p ≤ a := ⟨Int.ediv_nonneg h (by omega), Int.ediv_le_self p h⟩
def dv2 (a p : Int) : Int := a / p
def md2 (a p : Int) : Int := a % p
theorem dv_eq (a p : Int) (h : 0 ≤ a) (hp : 1 ≤ p) : dv a p = dv2 a p ∧ 0 ≤ dv2 a p ∧ dv2 a p ≤ a := ⟨rfl, dv_ok a p h hp⟩
theorem quo_id (a p : Int) (h : 0 ≤ a) (h2 : a ≤ 9223372036854775807) (hp : 1 ≤ p) : quoD .i64 a p = dv a p := by
  have := dv_ok a p h hp
  unfold quoD
  rw [Int.tdiv_eq_ediv_of_nonneg h]
  exact wrap_id _ (by unfold dv at this; omega) (by unfold dv at this; omega)
theorem rem_id (a p : Int) (h : 0 ≤ a) : remD a p = md a p := Int.tmod_eq_emod_of_nonneg h
theorem md_ok (a p : Int) (h : 0 ≤ a) (hp : 1 ≤ p) : 0 ≤ md a p ∧ md a p < p ∧ md a p ≤ a := by
  unfold md
  refine ⟨Int.emod_nonneg a (by omega), Int.emod_lt_of_pos a (by omega), ?_⟩
  have := Int.emod_add_mul_ediv a p
  have h2 : 0 ≤ p * (a / p) := Int.mul_nonneg (by omega) (Int.ediv_nonneg h (by omega))
  omega
theorem md_eq (a p : Int) (h : 0 ≤ a) (hp : 1 ≤ p) : md a p = md2 a p ∧ 0 ≤ md2 a p ∧ md2 a p < p ∧ md2 a p ≤ a := ⟨rfl, md_ok a p h hp⟩
theorem begin_iff (n s p : Int) (h0 : 0 ≤ s) (h : s ≤ n) (hp : 1 ≤ p) : n - md n p ≤ s ↔ dv n p = dv s p := by
  unfold md dv
  have h1 := Int.emod_add_mul_ediv n p
  have h2 := Int.emod_add_mul_ediv s p
  have h3 := Int.emod_nonneg s (show p ≠ 0 by omega)
  have h4 := Int.emod_lt_of_pos s (show 0 < p by omega)
  have h5 := Int.emod_nonneg n (show p ≠ 0 by omega)
  have h6 := Int.emod_lt_of_pos n (show 0 < p by omega)
  constructor
  · intro hle
    have h7 : s / p ≤ n / p := Int.ediv_le_ediv (by omega) h
    have h8 : n / p ≤ s / p := by
      rw [Int.le_ediv_iff_mul_le (by omega), Int.mul_comm]; omega
    omega
  · intro he
    rw [he] at h1
    omega
end Go.Proofs.YtmhfooalcohpgaaV
