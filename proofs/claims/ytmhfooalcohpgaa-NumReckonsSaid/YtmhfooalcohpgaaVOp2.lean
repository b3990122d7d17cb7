/- Vcg, part 18: a row's leaves, taken apart. -/
import Derived.Test.YtmhfooalcohpgaaVOp
import Derived.Test.YtmhfooalcohpgaaVPl
namespace Go.Proofs.YtmhfooalcohpgaaV
open Go

theorem fits_cons {k : LK} {ks : List LK} {r : List Atom} (h : FitsAll (k :: ks) r) : ∃ a r', r = a :: r' ∧ Fits k a ∧ FitsAll ks r' := by
  cases r with
  | nil => cases h
  | cons a r' => exact ⟨a, r', rfl, h.1, h.2⟩
theorem fits_nil {r : List Atom} (h : FitsAll [] r) : r = [] := by
  cases r with
  | nil => rfl
  | cons _ _ => cases h
theorem fits_int {k : IntKind} {a : Atom} (h : Fits (.int k) a) : ∃ n, a = (.int k n, .leaf) ∧ k.min ≤ n ∧ n ≤ k.max := by
  cases h with
  | int k n hw =>
    have hw2 : (decide (k.min ≤ n) && decide (n ≤ k.max)) = true := hw
    simp only [Bool.and_eq_true, decide_eq_true_eq] at hw2
    exact ⟨n, rfl, hw2⟩
theorem fits_bool {a : Atom} (h : Fits .bool a) : ∃ b, a = (.bool b, .leaf) := by
  cases h with
  | bool b => exact ⟨b, rfl⟩
theorem fits_str {a : Atom} (h : Fits .str a) : ∃ s, a = (.string s, .leaf) ∧ s.size ≤ maxLen := by
  cases h with
  | str s hs => exact ⟨s, rfl, hs⟩
/-- A slice whose elements are leaves in rows. -/
def slOk (l : List LK) (s : Sl) : Prop := s.n ≤ maxLen ∧ ∃ els, s.d = .rows l.length els ∧ els.length = s.n ∧ ∀ (i : Nat) (row : List Atom), els[i]? = some row → FitsAll l row
theorem fitsAll_of : ∀ {l : List LK} {row : List Atom}, row.length = l.length → (∀ (j : Nat) (k : LK) (x : Atom), l[j]? = some k → row[j]? = some x → Fits k x) → FitsAll l row
  | [], [], _, _ => trivial
  | k :: l, a :: row, hl, h => ⟨h 0 k a rfl rfl, fitsAll_of (by simpa using hl) fun j k' x h1 h2 => h (j + 1) k' x (by simpa using h1) (by simpa using h2)⟩
  | [], _ :: _, hl, _ => by simp at hl
  | _ :: _, [], hl, _ => by simp at hl
theorem fits_slc {l : List LK} {a : Atom} (h : Fits (.slc l) a) : ∃ s : Sl, a = s.atom ∧ slOk l s := by
  cases h with
  | nil => exact ⟨⟨none, 0, 0, .rows l.length []⟩, rfl, Nat.zero_le _, [], rfl, rfl, by simp⟩
  | rows _ a c els hc hm hz h => exact ⟨⟨some a, els.length, c, .rows l.length els⟩, rfl, by show els.length ≤ maxLen; omega, els, rfl, rfl, fun i row hi => fitsAll_of (hz i row hi) fun j k x h1 h2 => h i j row k x.1 x.2 hi h1 h2⟩
/-- One cell of such a slice. -/
theorem slOk_cell {l : List LK} {s : Sl} (h : slOk l s) {i : Int} (h0 : 0 ≤ i) (hi : i < s.n) {j : Nat} {k : LK} (hj : l[j]? = some k) : Fits k (cellD s.atom i j) := by
  obtain ⟨_, els, h1, h2, h3⟩ := h
  have hlt : i.toNat < els.length := by omega
  have hf := h3 i.toNat els[i.toNat] (List.getElem?_eq_getElem hlt)
  have hj2 : j < els[i.toNat].length := by rw [hf.len]; exact (List.getElem?_eq_some_iff.1 hj).1
  have e : cellD s.atom i j = els[i.toNat][j] := by
    simp [cellD, Sl.atom, h1, D.els, List.getD_eq_getElem?_getD, hlt, hj2]
  rw [e]
  exact hf.get j k _ hj (List.getElem?_eq_getElem hj2)
end Go.Proofs.YtmhfooalcohpgaaV
