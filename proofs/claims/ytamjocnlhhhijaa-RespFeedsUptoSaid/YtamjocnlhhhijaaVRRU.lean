/- The reader's laws: what inputs read as, and how much they hold. -/
import Derived.Test.YtamjocnlhhhijaaVRRR
import Derived.Test.YtamjocnlhhhijaaVRRx
set_option linter.unusedSimpArgs false
set_option linter.unusedVariables false
namespace Go.Proofs.YtamjocnlhhhijaaK
open Go Go.Proofs.YtamjocnlhhhijaaV Go.Proofs.YtamjocnlhhhijaaK Go.Proofs.YtamjocnlhhhijaaK Go.Proofs.YtamjocnlhhhijaaS
theorem bk_str {s : ByteArray} {n : Nat} (h : Bk (aS s) n) : s.size + 1 ≤ n := by
  generalize e : aS s = a at h
  cases h with
  | leaf v n h1 h2 => injection e with e _; exact h2 s e.symm
  | rows => cases e
theorem bk_int {x : Int} {n : Nat} (h : Bk (aI x) n) : 1 ≤ n := by
  generalize e : aI x = a at h
  cases h with
  | leaf v n h1 h2 => exact h1
  | rows => cases e
theorem bkAll_cons {a : Atom} {r : List Atom} {n : Nat} (h : BkAll (a :: r) n) : ∃ m k, n = m + k ∧ Bk a m ∧ BkAll r k := by
  cases h with
  | cons _ _ m k h1 h2 => exact ⟨m, k, rfl, h1, h2⟩
theorem rows_S : ∀ {l : List ByteArray} {n : Nat}, BkRows (l.map eS) n → lenS l ≤ n
  | [], _, _ => by simp [lenS]
  | s :: l, n, h => by
    rw [List.map_cons] at h
    generalize e : eS s = row at h
    cases h with
    | cons _ _ a b h1 h2 =>
      rw [← e] at h1
      obtain ⟨m, k, rfl, h3, _⟩ := bkAll_cons h1
      have := bk_str h3
      have := rows_S h2
      simp only [lenS, List.map_cons, List.sum_cons] at this ⊢; omega
theorem bk_S {r : Rw ByteArray} {n : Nat} (h : Bk (r.atom eS) n) : lenS r.l + 1 ≤ n := by
  unfold Rw.atom at h
  cases h with
  | rows _ _ _ n h => have := rows_S h; omega
def enc7 (x : Rw Int × Rw ByteArray) : List Atom := [Rw.atom eB x.1, Rw.atom eS x.2]
theorem in7 (r : List Atom) (n : Nat) (h : FitsAll [.slc [.int .u8], .slc [.str]] r) (hb : BkAll r n) (hn : n ≤ 1048576) :
    ∃ x, r = enc7 x ∧ ((x.1.ok 1 ∧ isB x.1.l) ∧ x.2.ok 1 ∧ lenS x.2.l ≤ 1048576) := by
  obtain ⟨_, _, rfl, f0, g0⟩ := fits_cons h
  obtain ⟨b, rfl, b1⟩ := bytes_in f0
  obtain ⟨_, _, rfl, f1, g1⟩ := fits_cons g0
  obtain ⟨l, rfl, l1⟩ := str_in f1
  obtain rfl := fits_nil g1
  obtain ⟨n1, m1, rfl, h1, hb⟩ := bkAll_cons hb
  obtain ⟨n2, m2, rfl, h2, hb⟩ := bkAll_cons hb
  have := bk_S h2
  exact ⟨(b, l), rfl, b1, l1, by dsimp only; omega⟩
end Go.Proofs.YtamjocnlhhhijaaK
