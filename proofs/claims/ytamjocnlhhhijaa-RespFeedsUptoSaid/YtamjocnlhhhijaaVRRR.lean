/- The reader's laws: what inputs read as. -/
import Derived.Test.YtamjocnlhhhijaaVRRp1
import Derived.Test.YtamjocnlhhhijaaVD
set_option linter.unusedSimpArgs false
set_option linter.unusedVariables false
namespace Go.Proofs.YtamjocnlhhhijaaK
open Go Go.Proofs.YtamjocnlhhhijaaV Go.Proofs.YtamjocnlhhhijaaK Go.Proofs.YtamjocnlhhhijaaK
theorem rw_of {α : Type} {e : α → List Atom} {l : List LK} {Q : α → Prop} (hf : ∀ row, FitsAll l row → ∃ x, row = e x ∧ Q x) {s : Sl} (h : slOk l s) : ∃ r : Rw α, s.atom = Rw.atom e r ∧ r.z = l.length ∧ ∀ x ∈ r.l, Q x := by
  obtain ⟨_, els, h1, h2, h3⟩ := h
  have key : ∀ (L : List (List Atom)), (∀ (i : Nat) row, L[i]? = some row → FitsAll l row) → ∃ xs : List α, L = xs.map e ∧ ∀ x ∈ xs, Q x := by
    intro L
    induction L with
    | nil => exact fun _ => ⟨[], rfl, by simp⟩
    | cons row L ih =>
      intro hL
      obtain ⟨x, rfl, hx⟩ := hf row (hL 0 row rfl)
      obtain ⟨xs, rfl, hxs⟩ := ih (fun i row h => hL (i + 1) row (by simpa using h))
      exact ⟨x :: xs, rfl, fun y hy => by rcases List.mem_cons.1 hy with rfl | hy; exact hx; exact hxs y hy⟩
  obtain ⟨xs, rfl, hxs⟩ := key els h3
  refine ⟨⟨s.a, s.c, l.length, xs⟩, ?_, rfl, hxs⟩
  cases s
  simp only [Sl.atom, Rw.atom] at h1 h2 ⊢
  subst h1
  rw [← h2, List.length_map]
theorem str_in {a : Atom} (h : Fits (.slc [.str]) a) : ∃ r : Rw ByteArray, a = Rw.atom eS r ∧ r.ok 1 := by
  obtain ⟨s, rfl, h2⟩ := fits_slc h
  obtain ⟨r, h3, h4, _⟩ := rw_of (e := eS) (Q := fun _ => True) (fun row hr => by
    obtain ⟨_, _, rfl, f0, g0⟩ := fits_cons hr
    obtain ⟨s, rfl, _⟩ := fits_str f0
    obtain rfl := fits_nil g0
    exact ⟨s, rfl, trivial⟩) h2
  exact ⟨r, h3, .inr h4⟩
theorem bytes_in {a : Atom} (h : Fits (.slc [.int .u8]) a) : ∃ r : Rw Int, a = Rw.atom eB r ∧ r.ok 1 ∧ isB r.l := by
  obtain ⟨s, rfl, h2⟩ := fits_slc h
  obtain ⟨r, h3, h4, h5⟩ := rw_of (e := eB) (Q := fun x => 0 ≤ x ∧ x < 256) (fun row hr => by
    obtain ⟨_, _, rfl, f0, g0⟩ := fits_cons hr
    obtain ⟨n, rfl, hn⟩ := fits_int f0
    obtain rfl := fits_nil g0
    have e1 : IntKind.u8.min = 0 := rfl
    have e2 : IntKind.u8.max = 255 := rfl
    exact ⟨n, rfl, by omega⟩) h2
  exact ⟨r, h3, .inr h4, h5⟩
theorem u16_of {n : Int} (h : IntKind.u16.min ≤ n ∧ n ≤ IntKind.u16.max) : 0 ≤ n ∧ n < 65536 := by
  have e1 : IntKind.u16.min = 0 := rfl
  have e2 : IntKind.u16.max = 65535 := rfl
  omega
theorem u8_of {n : Int} (h : IntKind.u8.min ≤ n ∧ n ≤ IntKind.u8.max) : 0 ≤ n ∧ n < 256 := by
  have e1 : IntKind.u8.min = 0 := rfl
  have e2 : IntKind.u8.max = 255 := rfl
  omega
end Go.Proofs.YtamjocnlhhhijaaK
