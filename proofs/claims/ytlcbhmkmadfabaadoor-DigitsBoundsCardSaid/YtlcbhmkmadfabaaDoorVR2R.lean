/- What the rows of Digits share: the two variables, laid. -/
import Derived.Test.YtlcbhmkmadfabaaDoorVR2A
import Derived.Test.YtlcbhmkmadfabaaDoorVD
import Derived.Test.YtlcbhmkmadfabaaDoorRows
import Derived.Test.YtlcbhmkmadfabaaDoorCards
import Derived.Test.YtlcbhmkmadfabaaDoorTie
import Derived.WalkKit
import Derived.ProofKit
import Derived.OpenShut
import Derived.ShutString
import Derived.ChangeOld
import Derived.Below
import Derived.SizedLaws
import Derived.LaidMore
import Derived.LaidHandle
import Derived.MakeChecks
import Derived.Stop.LaidErr
import Derived.SevenTiedAt
import Derived.Stop.Joined
set_option linter.unusedVariables false
set_option linter.unusedSimpArgs false
namespace Go.Proofs.YtlcbhmkmadfabaaDoor
open Go.ChangeShapes Go.WideShapes Go.ChangeAt Go.RowKit Go.Proofs.YtlcbhmkmadfabaaDoorV Go.Proofs.YtlcbhmkmadfabaaDoorK
theorem u16_of {n : Int} (h : IntKind.u16.min ≤ n ∧ n ≤ IntKind.u16.max) : 0 ≤ n ∧ n < 65536 := by
  have e1 : IntKind.u16.min = 0 := rfl
  have e2 : IntKind.u16.max = 65535 := rfl
  omega
theorem u8_of {n : Int} (h : IntKind.u8.min ≤ n ∧ n ≤ IntKind.u8.max) : 0 ≤ n ∧ n < 256 := by
  have e1 : IntKind.u8.min = 0 := rfl
  have e2 : IntKind.u8.max = 255 := rfl
  omega
theorem u32_of {n : Int} (h : IntKind.u32.min ≤ n ∧ n ≤ IntKind.u32.max) : 0 ≤ n ∧ n < 4294967296 := by
  have e1 : IntKind.u32.min = 0 := rfl
  have e2 : IntKind.u32.max = 4294967295 := rfl
  omega
theorem own : ownKnob Tryd.prog.godebug = none := by kernel_rfl
theorem iface_laid {P : Program} {n nm : String} {d : DataW Unit} {r : List (String × DataW Unit)} {W : World} {g : Nat} {ti : TypeId} {ms : Array (String × TypeId)}
    (h : laidMet P ((n, .iface nm d) :: r) W) (hg : P.globalNamed n = some g) (ht : (P.globals[g]?).map (·.type) = some ti) (hi : P.underlying ti = some (.interface ms)) : ∃ u v, W.cell? ⟨g, 0, none⟩ = some (.iface u v) := by
  obtain ⟨ps, ⟨g0, t0, cs0, f0, p0, q0, hg0, ht0, hv0, hd0, _, e0⟩, _, hrows⟩ := h
  obtain rfl := Option.some.inj (hg.symm.trans hg0)
  obtain rfl := Option.some.inj (ht.symm.trans ht0)
  obtain ⟨l0⟩ := cs0
  obtain ⟨f1, u, v, e, _⟩ := iface_of_trod hi hd0
  simp only at e
  subst e
  exact ⟨u, v, by simpa using World.var?_cell hg0 hv0 0⟩
theorem two_laid {W : World} (h : laidMetH Tryd.prog Rows.digitsOneRow.laid W) : ∃ q : Gh, pG q ∧ ∀ a ∈ [Rw.atom eF q.a, Rw.atom eF q.b], Go.Proofs.YtlcbhmkmadfabaaDoorV.Good W.cell? a := by
  rw [MakeChecks.laidMetH_plain _ _ _ (by kernel_rfl)] at h
  have h' : laidMet Tryd.prog [("math/bits.deBruijn32tab", Rows.laid_math_bits_deBruijn32tab), ("math/bits.deBruijn64tab", Rows.laid_math_bits_deBruijn64tab), ("internal/strconv.uint64pow10", Rows.laid_internal_strconv_uint64pow10), ("strconv.ErrRange", Rows.laid_strconv_ErrRange), ("strconv.ErrSyntax", Rows.laid_strconv_ErrSyntax)] W := h
  obtain ⟨u1, v1, c1⟩ := iface_laid h'.tail.tail.tail (g := 1) (by kernel_rfl) (by kernel_rfl) Tryd.underlying38
  obtain ⟨u0, v0, c0⟩ := iface_laid h'.tail.tail.tail.tail (g := 0) (by kernel_rfl) (by kernel_rfl) Tryd.underlying38
  have good : ∀ (k : Nat) (u : TypeId) (v : Value), W.cell? ⟨k, 0, none⟩ = some (.iface u v) → Go.Proofs.YtlcbhmkmadfabaaDoorV.Good W.cell? (Rw.atom eF ⟨some ⟨k, 0, none⟩, 1, 1, [.iface u v]⟩) := by
    intro k u v h
    refine ⟨Rd.rows ⟨k, 0, none⟩ 1 1 [eF (.iface u v)] ?_ ?_ ?_ ?_ (Nat.le_refl _), rfl⟩
    · intro i row hi
      cases i with
      | zero => simp at hi; subst hi; rfl
      | succ i => simp at hi
    · intro i j row x hi hj
      cases i with
      | succ i => simp at hi
      | zero =>
        simp at hi; subst hi
        cases j with
        | succ j => simp [eF] at hj
        | zero => simp [eF] at hj; subst hj; simpa [Addr.add] using h
    · intro i j row x hi hj
      cases i with
      | succ i => simp at hi
      | zero =>
        simp at hi; subst hi
        cases j with
        | succ j => simp [eF] at hj
        | zero => simp [eF] at hj; subst hj; rfl
    · intro i j row x d hi hj
      cases i with
      | succ i => simp at hi
      | zero =>
        simp at hi; subst hi
        cases j with
        | succ j => simp [eF] at hj
        | zero => simp [eF] at hj; obtain ⟨rfl, rfl⟩ := hj; exact .leaf _
  refine ⟨⟨⟨some ⟨0, 0, none⟩, 1, 1, [.iface u0 v0]⟩, ⟨some ⟨1, 0, none⟩, 1, 1, [.iface u1 v1]⟩⟩, ⟨⟨_, rfl, .inr ⟨_, _, rfl⟩⟩, ⟨_, rfl, .inr ⟨_, _, rfl⟩⟩⟩, ?_⟩
  intro a ha
  simp only [List.mem_cons, List.not_mem_nil, or_false] at ha
  rcases ha with rfl | rfl
  · exact good 0 u0 v0 c0
  · exact good 1 u1 v1 c1
/-- The door's own heap meets the condition. -/
theorem door_met (os : Os) (args : Array Value) : laidMetH Tryd.prog Rows.digitsOneRow.laid ((World.doorLaid Tryd.prog 4000 os).forCall (fun _ _ => 0) ⟨#[], args, []⟩).memory :=
  laidMetH_of_parts3 (fuel := 8) (laidMet_of_run' 8 (by kernel_rfl) (by kernel_rfl)) (by kernel_rfl) (by kernel_rfl)
end Go.Proofs.YtlcbhmkmadfabaaDoor
