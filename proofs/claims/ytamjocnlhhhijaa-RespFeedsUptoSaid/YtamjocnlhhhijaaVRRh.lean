/- Rows of rows of bytes: pieces. -/
import Derived.Test.YtamjocnlhhhijaaVRRg
import Derived.Test.YtamjocnlhhhijaaVRRz
set_option linter.unusedSimpArgs false
set_option linter.unusedVariables false
namespace Go.Proofs.YtamjocnlhhhijaaK
open Go Go.Proofs.YtamjocnlhhhijaaV Go.Proofs.YtamjocnlhhhijaaK Go.Proofs.YtamjocnlhhhijaaK Go.Proofs.YtamjocnlhhhijaaS
instance : Inhabited (Rw Int) := ⟨Rw.nil⟩
def eQ (x : Rw Int) : List Atom := [Rw.atom eB x]
def unQ (r : List Atom) : Rw Int := Rw.un unI (r.getD 0 atom0)
theorem unQ_e (x : Rw Int) : unQ (eQ x) = x := by
  unfold unQ eQ
  simp only [List.getD_cons_zero]
  exact Rw.un_atom (fun _ => rfl) x
theorem unQ_atom (r : Rw (Rw Int)) : Rw.un unQ (r.atom eQ) = r := Rw.un_atom unQ_e r
theorem cell_Q (r : Rw (Rw Int)) {i : Int} (h0 : 0 ≤ i) (h : i < r.l.length) : cellD (r.atom eQ) i 0 = Rw.atom eB (r.get i) := by
  have hi : i.toNat < r.l.length := by omega
  unfold cellD Rw.atom Rw.get
  simp [hi, eQ, D.els, Rw.atom, List.getD_eq_getElem?_getD]
theorem kind_Rq {r : Rw (Rw Int)} {i : Int} (h0 : 0 ≤ i) (h : i < r.l.length) : ∃ a n c, (cellD (r.atom eQ) i 0).1 = .slice a n c := by rw [cell_Q r h0 h]; exact ⟨_, _, _, rfl⟩
/-- Pieces, one behind the other. -/
def catQ (l : List (Rw Int)) : List Int := (l.map (·.l)).flatten
def okQ (r : Rw (Rw Int)) : Prop := r.ok 1 ∧ ∀ x ∈ r.l, x.ok 1 ∧ isB x.l
theorem catQ_take {r : Rw (Rw Int)} {i : Int} (h0 : 0 ≤ i) (h1 : i < r.l.length) : catQ (r.l.take (i + 1).toNat) = catQ (r.l.take i.toNat) ++ (r.get i).l := by
  unfold catQ
  rw [take_g h0 h1, List.map_append, List.flatten_append]; simp
theorem catQ_le (l : List (Rw Int)) (k : Nat) : (catQ (l.take k)).length ≤ (catQ l).length := by
  have h := List.take_append_drop k l
  have e : catQ l = catQ (l.take k) ++ catQ (l.drop k) := by
    unfold catQ
    rw [← List.flatten_append, ← List.map_append, h]
  rw [e, List.length_append]; omega
theorem catQ_B {r : Rw (Rw Int)} (h : okQ r) (k : Nat) : isB (catQ (r.l.take k)) := by
  intro x hx
  obtain ⟨l, hl, hx⟩ := List.mem_flatten.1 hx
  obtain ⟨y, hy, rfl⟩ := List.mem_map.1 hl
  exact (h.2 y (List.mem_of_mem_take hy)).2 x hx
theorem catQ_all {r : Rw (Rw Int)} {i : Int} (h : (r.l.length : Int) ≤ i) : catQ (r.l.take i.toNat) = catQ r.l := by rw [List.take_of_length_le (by omega)]
end Go.Proofs.YtamjocnlhhhijaaK
