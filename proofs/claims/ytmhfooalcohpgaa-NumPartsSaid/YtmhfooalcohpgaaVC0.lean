/- Logs, acts: what a slice of them reads as; the same state. -/
import Derived.Test.YtmhfooalcohpgaaVN0
import Derived.Test.YtmhfooalcohpgaaVD
set_option linter.unusedSimpArgs false
set_option linter.unusedVariables false
namespace Go.Proofs.YtmhfooalcohpgaaV
open Go
def lgE (g h : Sl) : Bool := g.n == h.n && (List.range g.n).all fun i => vi (cellD g.atom i 0).1 == vi (cellD h.atom i 0).1 && vi (cellD g.atom i 1).1 == vi (cellD h.atom i 1).1
def lgOk (g : Sl) : Prop := g.n = 0 ∨ ((g.n ≤ 4611686018427387903 ∧ ∃ e, g.d = .rows 2 e)) ∧ ∀ i : Int, 0 ≤ i → i < g.n → RK.ok (.int .i64) (cellD g.atom i 0).1 ∧ RK.ok (.int .i64) (cellD g.atom i 1).1
def same (s t : Stt) : Bool := decide (s.t = t.t ∧ s.v = t.v ∧ s.h = t.h) && lgE s.g t.g
theorem lgE_refl (g : Sl) : lgE g g = true := by simp [lgE]
theorem lgE_nil {g h : Sl} (h1 : g.n = 0) (h2 : h.n = 0) : lgE g h = true := by simp [lgE, h1, h2]
theorem lgOk_nil {g : Sl} (h1 : g.n = 0) : lgOk g := Or.inl h1
theorem lg_step {g h : Sl} {i : Int} (h0 : 0 ≤ i) (hi : i < g.n) (hn : g.n = h.n) (a : ∀ j : Int, 0 ≤ j → j < i → vi (cellD g.atom j 0).1 = vi (cellD h.atom j 0).1 ∧ vi (cellD g.atom j 1).1 = vi (cellD h.atom j 1).1)
    (b : vi (cellD g.atom i 0).1 = vi (cellD h.atom i 0).1 ∧ vi (cellD g.atom i 1).1 = vi (cellD h.atom i 1).1) : ∀ j : Int, 0 ≤ j → j < i + 1 → vi (cellD g.atom j 0).1 = vi (cellD h.atom j 0).1 ∧ vi (cellD g.atom j 1).1 = vi (cellD h.atom j 1).1 := by
  intro j hj hj2
  by_cases hc : j = i
  · subst hc; exact b
  · exact a j hj (by omega)
theorem lgE_all {g h : Sl} (hn : g.n = h.n) (a : ∀ j : Int, 0 ≤ j → j < g.n → vi (cellD g.atom j 0).1 = vi (cellD h.atom j 0).1 ∧ vi (cellD g.atom j 1).1 = vi (cellD h.atom j 1).1) : lgE g h = true := by
  simp only [lgE, hn, beq_self_eq_true, Bool.true_and, List.all_eq_true, List.mem_range, Bool.and_eq_true, beq_iff_eq]
  intro i hi
  exact a i (by omega) (by omega)
theorem lgE_n {g h : Sl} (e : lgE g h = true) : g.n = h.n := by
  simp only [lgE, Bool.and_eq_true, beq_iff_eq] at e; exact e.1
theorem lgE_at {g h : Sl} (e : lgE g h = true) {i : Int} (h0 : 0 ≤ i) (hi : i < g.n) : vi (cellD g.atom i 0).1 = vi (cellD h.atom i 0).1 ∧ vi (cellD g.atom i 1).1 = vi (cellD h.atom i 1).1 := by
  simp only [lgE, Bool.and_eq_true, beq_iff_eq, List.all_eq_true, List.mem_range] at e
  have := e.2 i.toNat (by omega)
  rwa [Int.toNat_of_nonneg h0] at this
theorem same_ne {s t : Stt} (h : ¬(s.t = t.t ∧ s.v = t.v ∧ s.h = t.h)) : same s t = false := by simp [same, h]
theorem same_nn {s t : Stt} (h : s.g.n ≠ t.g.n) : same s t = false := by simp [same, lgE, h]
theorem same_no {s t : Stt} {i : Int} (h0 : 0 ≤ i) (hi : i < s.g.n) (h : ¬(vi (cellD s.g.atom i 0).1 = vi (cellD t.g.atom i 0).1 ∧ vi (cellD s.g.atom i 1).1 = vi (cellD t.g.atom i 1).1)) : same s t = false := by
  cases hc : lgE s.g t.g
  · simp [same, hc]
  · exact absurd (lgE_at hc h0 hi) h
theorem same_yes {s t : Stt} (h : s.t = t.t ∧ s.v = t.v ∧ s.h = t.h) (e : lgE s.g t.g = true) : same s t = true := by simp [same, h, e]
def sim (s t : Stt) : Prop := s.t = t.t ∧ s.v = t.v ∧ s.h = t.h ∧ s.g.n = t.g.n
theorem sim_of {s t : Stt} (h : same s t = true) : sim s t := by
  simp only [same, Bool.and_eq_true, decide_eq_true_eq] at h
  exact ⟨h.1.1, h.1.2.1, h.1.2.2, lgE_n h.2⟩
theorem same_of {s t : Stt} (h : s.t = t.t ∧ s.v = t.v ∧ s.h = t.h) (h1 : s.g.n = 0) (h2 : t.g.n = 0) : same s t = true := same_yes h (lgE_nil h1 h2)
def actsOk (l : Sl) : Prop := l.n ≤ 9223372036854775807 ∧ ∃ acts : List Ac, l.d = .rows 3 (acts.map Ac.enc) ∧ acts.length = l.n
theorem acts_at {l : Sl} (h : actsOk l) {i : Int} (h0 : 0 ≤ i) (hi : i < l.n) : ∃ a : Ac, cellD (.slice l.a l.n l.c, l.d) i 0 = (.int .i64 a.k, .leaf) ∧ cellD (.slice l.a l.n l.c, l.d) i 1 = (.int .i64 a.t, .leaf) ∧ cellD (.slice l.a l.n l.c, l.d) i 2 = (.int .i64 a.c, .leaf) := by
  obtain ⟨_, acts, h1, h2⟩ := h
  have hlt : i.toNat < acts.length := by omega
  refine ⟨acts[i.toNat], ?_, ?_, ?_⟩ <;>
    simp [cellD, h1, D.els, List.getD_eq_getElem?_getD, List.getElem?_map, hlt, Ac.enc]
def lgOk9 (g : Sl) : Prop := g.n = 0 ∨ (∃ e, g.d = .rows 2 e) ∧ ∀ i : Int, 0 ≤ i → i < g.n → RK.ok (.int .i64) (cellD g.atom i 0).1 ∧ RK.ok (.int .i64) (cellD g.atom i 1).1
theorem lgOk_of {g : Sl} (h : lgOk9 g) (hn : g.n ≤ 150) : lgOk g := by
  rcases h with h | ⟨h1, h2⟩
  · exact Or.inl h
  · exact Or.inr ⟨⟨by omega, h1⟩, h2⟩
theorem acts_row {l : Sl} (h : actsOk l) : ∃ z e, l.d = .rows z e := ⟨_, _, h.2.choose_spec.1⟩
theorem acts_sz {l : Sl} (h : actsOk l) : ∃ e, l.d = .rows 3 e := ⟨_, h.2.choose_spec.1⟩
theorem acts_of {s : Sl} (h : slOk [.int .i64, .int .i64, .int .i64] s) : actsOk s := by
  have h' := h
  obtain ⟨h0, els, h1, h2, h3⟩ := h
  refine ⟨h0, els.map (fun row => ⟨vi (row.getD 0 atom0).1, vi (row.getD 1 atom0).1, vi (row.getD 2 atom0).1⟩), ?_, by simpa using h2⟩
  rw [h1]
  simp only [List.length_cons, List.length_nil, List.map_map, D.rows.injEq, true_and]
  symm
  refine List.ext_getElem? fun i => ?_
  simp only [List.getElem?_map]
  cases hr : els[i]? with
  | none => rfl
  | some row =>
    have hf := h3 i row hr
    obtain ⟨_, _, rfl, f0, hf⟩ := fits_cons hf
    obtain ⟨_, _, rfl, f1, hf⟩ := fits_cons hf
    obtain ⟨_, _, rfl, f2, hf⟩ := fits_cons hf
    obtain rfl := fits_nil hf
    obtain ⟨_, rfl, _⟩ := fits_int f0
    obtain ⟨_, rfl, _⟩ := fits_int f1
    obtain ⟨_, rfl, _⟩ := fits_int f2
    rfl
theorem log_of {s : Sl} (h : slOk [.int .i64, .int .i64] s) : lgOk9 s := by
  refine Or.inr ⟨⟨_, h.2.choose_spec.1⟩, fun i h0 hi => ?_⟩
  obtain ⟨a, e1, _⟩ := fits_int (slOk_cell h h0 hi (j := 0) rfl)
  obtain ⟨b, e2, _⟩ := fits_int (slOk_cell h h0 hi (j := 1) rfl)
  exact ⟨⟨a, by rw [e1]⟩, ⟨b, by rw [e2]⟩⟩
theorem u16_of {n : Int} (h : IntKind.u16.min ≤ n ∧ n ≤ IntKind.u16.max) : 0 ≤ n ∧ n < 65536 := by
  have e1 : IntKind.u16.min = 0 := rfl
  have e2 : IntKind.u16.max = 65535 := rfl
  omega
theorem u8_of {n : Int} (h : IntKind.u8.min ≤ n ∧ n ≤ IntKind.u8.max) : 0 ≤ n ∧ n < 256 := by
  have e1 : IntKind.u8.min = 0 := rfl
  have e2 : IntKind.u8.max = 255 := rfl
  omega
theorem u32_of {n : Int} (h : IntKind.u32.min ≤ n ∧ n ≤ IntKind.u32.max) : 0 ≤ n ∧ n < 4294967296 := by
  have e1 : IntKind.u32.min = 0 := rfl
  have e2 : IntKind.u32.max = 4294967295 := rfl
  omega
theorem i64_of {n : Int} (h : IntKind.i64.min ≤ n ∧ n ≤ IntKind.i64.max) : -9223372036854775808 ≤ n ∧ n ≤ 9223372036854775807 := by
  have e1 : IntKind.i64.min = -9223372036854775808 := rfl
  have e2 : IntKind.i64.max = 9223372036854775807 := rfl
  omega
end Go.Proofs.YtmhfooalcohpgaaV
