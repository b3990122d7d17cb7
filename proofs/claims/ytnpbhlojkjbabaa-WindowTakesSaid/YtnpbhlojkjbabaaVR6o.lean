/- What a row's inputs read as. -/
import Derived.Test.YtnpbhlojkjbabaaVD
import Derived.Test.YtnpbhlojkjbabaaVR6w9
set_option linter.unusedSimpArgs false
set_option linter.unusedVariables false
namespace Go.Proofs.YtnpbhlojkjbabaaK
open Go Go.Proofs.YtnpbhlojkjbabaaV
theorem maps_of {α : Type} (e : α → List Atom) : ∀ (els : List (List Atom)), (∀ row ∈ els, ∃ a, row = e a) → ∃ l : List α, els = l.map e
  | [], _ => ⟨[], rfl⟩
  | r :: els, h => by
    obtain ⟨l, rfl⟩ := maps_of e els fun row hr => h row (List.mem_cons_of_mem _ hr)
    obtain ⟨a, rfl⟩ := h r List.mem_cons_self
    exact ⟨a :: l, rfl⟩
theorem rw_of {α : Type} {e : α → List Atom} {ks : List LK} (hf : ∀ row, FitsAll ks row → ∃ a, row = e a) {s : Sl} (h : slOk ks s) : ∃ r : Rw α, s.atom = Rw.atom e r ∧ r.ok ks.length ∧ (r.l.length : Int) ≤ 9223372036854775807 := by
  obtain ⟨h1, els, h2, h3, h4⟩ := h
  obtain ⟨l, rfl⟩ := maps_of e els fun row hr => by
    obtain ⟨i, hi, rfl⟩ := List.getElem_of_mem hr
    exact hf _ (h4 i _ (List.getElem?_eq_getElem hi))
  rw [List.length_map] at h3
  refine ⟨⟨s.a, s.c, ks.length, l⟩, ?_, .inr rfl, ?_⟩
  · simp only [Sl.atom, Rw.atom, h2, h3]
  · have : s.n ≤ maxLen := h1
    have e : maxLen = 9223372036854775807 := by decide
    simp only; omega
theorem fits_E {row : List Atom} (h : FitsAll [.int .i64, .int .i64] row) : ∃ a : Int × Int, row = eE a := by
  obtain ⟨_, _, rfl, f0, g0⟩ := fits_cons h
  obtain ⟨x, rfl, _⟩ := fits_int f0
  obtain ⟨_, _, rfl, f1, g1⟩ := fits_cons g0
  obtain ⟨y, rfl, _⟩ := fits_int f1
  obtain rfl := fits_nil g1
  exact ⟨(x, y), rfl⟩
theorem fits_A {row : List Atom} (h : FitsAll [.int .i64, .int .i64, .int .i64] row) : ∃ a : Ac, row = a.enc := by
  obtain ⟨_, _, rfl, f0, g0⟩ := fits_cons h
  obtain ⟨x, rfl, _⟩ := fits_int f0
  obtain ⟨_, _, rfl, f1, g1⟩ := fits_cons g0
  obtain ⟨y, rfl, _⟩ := fits_int f1
  obtain ⟨_, _, rfl, f2, g2⟩ := fits_cons g1
  obtain ⟨z, rfl, _⟩ := fits_int f2
  obtain rfl := fits_nil g2
  exact ⟨⟨x, y, z⟩, rfl⟩
theorem log_in {a : Atom} (h : Fits (.slc [.int .i64, .int .i64]) a) : ∃ r : Rw (Int × Int), a = Rw.atom eE r ∧ rokE r := by
  obtain ⟨s, rfl, h2⟩ := fits_slc h
  exact rw_of (fun _ => fits_E) h2
theorem acts_in {a : Atom} (h : Fits (.slc [.int .i64, .int .i64, .int .i64]) a) : ∃ r : Rw Ac, a = Rw.atom Ac.enc r ∧ rokA r := by
  obtain ⟨s, rfl, h2⟩ := fits_slc h
  exact rw_of (fun _ => fits_A) h2
theorem u16_of {n : Int} (h : IntKind.u16.min ≤ n ∧ n ≤ IntKind.u16.max) : 0 ≤ n ∧ n < 65536 := by
  have e1 : IntKind.u16.min = 0 := rfl
  have e2 : IntKind.u16.max = 65535 := rfl
  omega
theorem u8_of {n : Int} (h : IntKind.u8.min ≤ n ∧ n ≤ IntKind.u8.max) : 0 ≤ n ∧ n < 256 := by
  have e1 : IntKind.u8.min = 0 := rfl
  have e2 : IntKind.u8.max = 255 := rfl
  omega
theorem u32_of {n : Int} (h : IntKind.u32.min ≤ n ∧ n ≤ IntKind.u32.max) : 0 ≤ n ∧ n < 4294967296 := by
  have e1 : IntKind.u32.min = 0 := rfl
  have e2 : IntKind.u32.max = 4294967295 := rfl
  omega
theorem i64_of {n : Int} (h : IntKind.i64.min ≤ n ∧ n ≤ IntKind.i64.max) : -9223372036854775808 ≤ n ∧ n ≤ 9223372036854775807 := by
  have e1 : IntKind.i64.min = -9223372036854775808 := rfl
  have e2 : IntKind.i64.max = 9223372036854775807 := rfl
  omega
end Go.Proofs.YtnpbhlojkjbabaaK
