/- What a slice of acts, a log, reads as. -/
import Derived.Test.YtfiggilfgjpodaaVK9
import Derived.Test.YtfiggilfgjpodaaVD
set_option linter.unusedSimpArgs false
set_option linter.unusedVariables false
namespace Go.Proofs.YtfiggilfgjpodaaK
open Go Go.Proofs.YtfiggilfgjpodaaV
theorem acts_of {s : Sl} (h : slOk [.int .i64, .int .i64, .int .i64] s) : actsOk s := by
  have h' := h
  obtain ⟨h0, els, h1, h2, h3⟩ := h
  refine ⟨h0, els.map (fun row => ⟨vi (row.getD 0 atom0).1, vi (row.getD 1 atom0).1, vi (row.getD 2 atom0).1⟩), ?_, by simpa using h2⟩
  rw [h1]
  simp only [List.length_cons, List.length_nil, List.map_map, D.rows.injEq, true_and]
  symm
  refine List.ext_getElem? fun i => ?_
  simp only [List.getElem?_map]
  cases hr : els[i]? with
  | none => rfl
  | some row =>
    have hf := h3 i row hr
    obtain ⟨_, _, rfl, f0, hf⟩ := fits_cons hf
    obtain ⟨_, _, rfl, f1, hf⟩ := fits_cons hf
    obtain ⟨_, _, rfl, f2, hf⟩ := fits_cons hf
    obtain rfl := fits_nil hf
    obtain ⟨_, rfl, _⟩ := fits_int f0
    obtain ⟨_, rfl, _⟩ := fits_int f1
    obtain ⟨_, rfl, _⟩ := fits_int f2
    rfl
theorem log_of {s : Sl} (h : slOk [.int .i64, .int .i64] s) : lgOk9 s := by
  refine Or.inr ⟨⟨_, h.2.choose_spec.1⟩, fun i h0 hi => ?_⟩
  obtain ⟨a, e1, _⟩ := fits_int (slOk_cell h h0 hi (j := 0) rfl)
  obtain ⟨b, e2, _⟩ := fits_int (slOk_cell h h0 hi (j := 1) rfl)
  exact ⟨⟨a, by rw [e1]⟩, ⟨b, by rw [e2]⟩⟩
theorem u16_of {n : Int} (h : IntKind.u16.min ≤ n ∧ n ≤ IntKind.u16.max) : 0 ≤ n ∧ n < 65536 := by
  have e1 : IntKind.u16.min = 0 := rfl
  have e2 : IntKind.u16.max = 65535 := rfl
  omega
theorem u8_of {n : Int} (h : IntKind.u8.min ≤ n ∧ n ≤ IntKind.u8.max) : 0 ≤ n ∧ n < 256 := by
  have e1 : IntKind.u8.min = 0 := rfl
  have e2 : IntKind.u8.max = 255 := rfl
  omega
theorem u32_of {n : Int} (h : IntKind.u32.min ≤ n ∧ n ≤ IntKind.u32.max) : 0 ≤ n ∧ n < 4294967296 := by
  have e1 : IntKind.u32.min = 0 := rfl
  have e2 : IntKind.u32.max = 4294967295 := rfl
  omega
theorem i64_of {n : Int} (h : IntKind.i64.min ≤ n ∧ n ≤ IntKind.i64.max) : -9223372036854775808 ≤ n ∧ n ≤ 9223372036854775807 := by
  have e1 : IntKind.i64.min = -9223372036854775808 := rfl
  have e2 : IntKind.i64.max = 9223372036854775807 := rfl
  omega
end Go.Proofs.YtfiggilfgjpodaaK
