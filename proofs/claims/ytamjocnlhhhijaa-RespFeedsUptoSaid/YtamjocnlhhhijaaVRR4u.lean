/- The reader fed piece by piece: what inputs read as, and how much they hold. -/
import Derived.Test.YtamjocnlhhhijaaVRRU
import Derived.Test.YtamjocnlhhhijaaVRRh
set_option linter.unusedSimpArgs false
set_option linter.unusedVariables false
namespace Go.Proofs.YtamjocnlhhhijaaK
open Go Go.Proofs.YtamjocnlhhhijaaV Go.Proofs.YtamjocnlhhhijaaK Go.Proofs.YtamjocnlhhhijaaK Go.Proofs.YtamjocnlhhhijaaS
theorem rows_B : ∀ {l : List Int} {n : Nat}, BkRows (l.map eB) n → l.length ≤ n
  | [], _, _ => by simp
  | x :: l, n, h => by
    rw [List.map_cons] at h
    generalize e : eB x = row at h
    cases h with
    | cons _ _ a b h1 h2 =>
      rw [← e] at h1
      obtain ⟨m, k, rfl, h3, _⟩ := bkAll_cons h1
      have h4 : 1 ≤ m := by
        cases h3 with
        | leaf v n h1 h2 => exact h1
      have := rows_B h2
      simp only [List.length_cons]; omega
theorem bk_B {r : Rw Int} {n : Nat} (h : Bk (r.atom eB) n) : r.l.length + 1 ≤ n := by
  unfold Rw.atom at h
  cases h with
  | rows _ _ _ n h => have := rows_B h; omega
theorem rows_Q : ∀ {l : List (Rw Int)} {n : Nat}, BkRows (l.map eQ) n → (catQ l).length + l.length ≤ n
  | [], _, _ => by simp [catQ]
  | x :: l, n, h => by
    rw [List.map_cons] at h
    generalize e : eQ x = row at h
    cases h with
    | cons _ _ a b h1 h2 =>
      rw [← e] at h1
      obtain ⟨m, k, rfl, h3, _⟩ := bkAll_cons h1
      have h4 := bk_B h3
      have := rows_Q h2
      simp only [catQ, List.map_cons, List.flatten_cons, List.length_append, List.length_cons] at this ⊢; omega
theorem bk_Q {r : Rw (Rw Int)} {n : Nat} (h : Bk (r.atom eQ) n) : (catQ r.l).length + r.l.length + 1 ≤ n := by
  unfold Rw.atom at h
  cases h with
  | rows _ _ _ n h => have := rows_Q h; omega
theorem rows_in {a : Atom} (h : Fits (.slc [.slc [.int .u8]]) a) : ∃ r : Rw (Rw Int), a = Rw.atom eQ r ∧ okQ r := by
  obtain ⟨s, rfl, h2⟩ := fits_slc h
  obtain ⟨r, h3, h4, h5⟩ := rw_of (e := eQ) (Q := fun x => x.ok 1 ∧ isB x.l) (fun row hr => by
    obtain ⟨_, _, rfl, f0, g0⟩ := fits_cons hr
    obtain ⟨b, rfl, hb⟩ := bytes_in f0
    obtain rfl := fits_nil g0
    exact ⟨b, rfl, hb⟩) h2
  exact ⟨r, h3, .inr h4, h5⟩
theorem in4 (r : List Atom) (n : Nat) (h : FitsAll [.slc [.slc [.int .u8]]] r) (hb : BkAll r n) (hn : n ≤ 1048576) :
    ∃ x, r = (fun x : Rw (Rw Int) => ([Rw.atom eQ x] : List Atom)) x ∧ (okQ x ∧ (catQ x.l).length ≤ 1048576 ∧ x.l.length ≤ 1048576) := by
  obtain ⟨_, _, rfl, f0, g0⟩ := fits_cons h
  obtain ⟨q, rfl, hq⟩ := rows_in f0
  obtain rfl := fits_nil g0
  obtain ⟨n1, m1, rfl, h1, hb⟩ := bkAll_cons hb
  have := bk_Q h1
  exact ⟨q, rfl, hq, by omega, by omega⟩
end Go.Proofs.YtamjocnlhhhijaaK
