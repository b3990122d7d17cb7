/- Replies: what inputs read as. -/
import Derived.Test.YtbcbjgomnhajdaaVD
import Derived.Test.YtbcbjgomnhajdaaVRPp
set_option linter.unusedSimpArgs false
set_option linter.unusedVariables false
namespace Go.Proofs.YtbcbjgomnhajdaaK
open Go Go.Proofs.YtbcbjgomnhajdaaV Go.Proofs.YtbcbjgomnhajdaaK
theorem rw_of {α : Type} {e : α → List Atom} {l : List LK} {Q : α → Prop} (hf : ∀ row, FitsAll l row → ∃ x, row = e x ∧ Q x) {s : Sl} (h : slOk l s) : ∃ r : Rw α, s.atom = Rw.atom e r ∧ r.z = l.length ∧ ∀ x ∈ r.l, Q x := by
  obtain ⟨_, els, h1, h2, h3⟩ := h
  have key : ∀ (L : List (List Atom)), (∀ (i : Nat) row, L[i]? = some row → FitsAll l row) → ∃ xs : List α, L = xs.map e ∧ ∀ x ∈ xs, Q x := by
    intro L
    induction L with
    | nil => exact fun _ => ⟨[], rfl, by simp⟩
    | cons row L ih =>
      intro hL
      obtain ⟨x, rfl, hx⟩ := hf row (hL 0 row rfl)
      obtain ⟨xs, rfl, hxs⟩ := ih (fun i row h => hL (i + 1) row (by simpa using h))
      exact ⟨x :: xs, rfl, fun y hy => by rcases List.mem_cons.1 hy with rfl | hy; exact hx; exact hxs y hy⟩
  obtain ⟨xs, rfl, hxs⟩ := key els h3
  refine ⟨⟨s.a, s.c, l.length, xs⟩, ?_, rfl, hxs⟩
  cases s
  simp only [Sl.atom, Rw.atom] at h1 h2 ⊢
  subst h1
  rw [← h2, List.length_map]
theorem str_in {a : Atom} (h : Fits (.slc [.str]) a) : ∃ r : Rw ByteArray, a = Rw.atom eS r ∧ r.ok 1 := by
  obtain ⟨s, rfl, h2⟩ := fits_slc h
  obtain ⟨r, h3, h4, _⟩ := rw_of (e := eS) (Q := fun _ => True) (fun row hr => by
    obtain ⟨_, _, rfl, f0, g0⟩ := fits_cons hr
    obtain ⟨s, rfl, _⟩ := fits_str f0
    obtain rfl := fits_nil g0
    exact ⟨s, rfl, trivial⟩) h2
  exact ⟨r, h3, .inr h4⟩
theorem i64_of {n : Int} (h : IntKind.i64.min ≤ n ∧ n ≤ IntKind.i64.max) : in64 n := by
  have e1 : IntKind.i64.min = -9223372036854775808 := rfl
  have e2 : IntKind.i64.max = 9223372036854775807 := rfl
  unfold in64; omega
def kP : List LK := [.int .i64, .str, .int .i64, .slc [.str]]
theorem rep_in {row : List Atom} (h : FitsAll kP row) : ∃ x : Rep, row = eP x ∧ x.l.ok 1 ∧ in64 x.n := by
  obtain ⟨_, _, rfl, f0, g0⟩ := fits_cons h
  obtain ⟨k, rfl, _⟩ := fits_int f0
  obtain ⟨_, _, rfl, f1, g1⟩ := fits_cons g0
  obtain ⟨t, rfl, _⟩ := fits_str f1
  obtain ⟨_, _, rfl, f2, g2⟩ := fits_cons g1
  obtain ⟨n, rfl, hn⟩ := fits_int f2
  obtain ⟨_, _, rfl, f3, g3⟩ := fits_cons g2
  obtain ⟨l, rfl, hl⟩ := str_in f3
  obtain rfl := fits_nil g3
  exact ⟨⟨k, t, n, l⟩, rfl, hl, i64_of hn⟩
theorem reps_in {a : Atom} (h : Fits (.slc kP) a) : ∃ r : Rw Rep, a = Rw.atom eP r ∧ r.ok 4 ∧ ∀ x ∈ r.l, x.l.ok 1 ∧ in64 x.n := by
  obtain ⟨s, rfl, h2⟩ := fits_slc h
  obtain ⟨r, h3, h4, h5⟩ := rw_of (e := eP) (Q := fun x => x.l.ok 1 ∧ in64 x.n) (fun row hr => rep_in hr) h2
  exact ⟨r, h3, .inr h4, h5⟩
/-! ### How much they hold -/
theorem bk_str {s : ByteArray} {n : Nat} (h : Bk (aS s) n) : s.size + 1 ≤ n := by
  generalize e : aS s = a at h
  cases h with
  | leaf v n h1 h2 => injection e with e _; exact h2 s e.symm
  | rows => cases e
theorem bk_int {x : Int} {n : Nat} (h : Bk (aI x) n) : 1 ≤ n := by
  generalize e : aI x = a at h
  cases h with
  | leaf v n h1 h2 => exact h1
  | rows => cases e
theorem bkAll_cons {a : Atom} {r : List Atom} {n : Nat} (h : BkAll (a :: r) n) : ∃ m k, n = m + k ∧ Bk a m ∧ BkAll r k := by
  cases h with
  | cons _ _ m k h1 h2 => exact ⟨m, k, rfl, h1, h2⟩
theorem rows_S : ∀ {l : List ByteArray} {n : Nat}, BkRows (l.map eS) n → lenS l ≤ n
  | [], _, _ => by simp [lenS]
  | s :: l, n, h => by
    rw [List.map_cons] at h
    generalize e : eS s = row at h
    cases h with
    | cons _ _ a b h1 h2 =>
      rw [← e] at h1
      obtain ⟨m, k, rfl, h3, _⟩ := bkAll_cons h1
      have := bk_str h3
      have := rows_S h2
      simp only [lenS, List.map_cons, List.sum_cons] at this ⊢; omega
theorem bk_S {r : Rw ByteArray} {n : Nat} (h : Bk (r.atom eS) n) : lenS r.l + 1 ≤ n := by
  unfold Rw.atom at h
  cases h with
  | rows _ _ _ n h => have := rows_S h; omega
theorem bk_rep {x : Rep} {n : Nat} {r : List Atom} (h : BkAll (aI x.k :: aS x.t :: aI x.n :: Rw.atom eS x.l :: r) n) : ∃ m k, n = m + k ∧ lenV x.v ≤ m ∧ BkAll r k := by
  obtain ⟨n1, m1, rfl, h1, h⟩ := bkAll_cons h
  obtain ⟨n2, m2, rfl, h2, h⟩ := bkAll_cons h
  obtain ⟨n3, m3, rfl, h3, h⟩ := bkAll_cons h
  obtain ⟨n4, m4, rfl, h4, h⟩ := bkAll_cons h
  have q1 := bk_int h1
  have q2 := bk_str h2
  have q4 := bk_S h4
  refine ⟨n1 + n2 + n3 + n4, m4, by omega, ?_, h⟩
  show 1 + x.t.size + lenS x.l.l ≤ _
  omega
theorem rows_P : ∀ {l : List Rep} {n : Nat}, BkRows (l.map eP) n → lenL (l.map Rep.v) ≤ n
  | [], _, _ => by simp [lenL]
  | x :: l, n, h => by
    rw [List.map_cons] at h
    generalize e : eP x = row at h
    cases h with
    | cons _ _ a b h1 h2 =>
      rw [← e] at h1
      obtain ⟨m, k, rfl, h3, _⟩ := bk_rep h1
      have := rows_P h2
      simp only [lenL, List.map_cons, List.sum_cons] at this ⊢; omega
theorem bk_P {r : Rw Rep} {n : Nat} (h : Bk (r.atom eP) n) : lenL (r.l.map Rep.v) + 1 ≤ n := by
  unfold Rw.atom at h
  cases h with
  | rows _ _ _ n h => have := rows_P h; omega
/-! ### The laws' inputs -/
def encA (x : Rw Rep × Rep × Rep) : List Atom := [Rw.atom eP x.1, aI x.2.1.k, aS x.2.1.t, aI x.2.1.n, Rw.atom eS x.2.1.l, aI x.2.2.k, aS x.2.2.t, aI x.2.2.n, Rw.atom eS x.2.2.l]
def encB (x : Rep × Rep) : List Atom := [aI x.1.k, aS x.1.t, aI x.1.n, Rw.atom eS x.1.l, aI x.2.k, aS x.2.t, aI x.2.n, Rw.atom eS x.2.l]
theorem one_in {ks : List LK} {r : List Atom} (h : FitsAll (.int .i64 :: .str :: .int .i64 :: .slc [.str] :: ks) r) : ∃ (x : Rep) (r' : List Atom), r = aI x.k :: aS x.t :: aI x.n :: Rw.atom eS x.l :: r' ∧ x.l.ok 1 ∧ in64 x.n ∧ FitsAll ks r' := by
  obtain ⟨_, _, rfl, f0, g0⟩ := fits_cons h
  obtain ⟨k, rfl, _⟩ := fits_int f0
  obtain ⟨_, _, rfl, f1, g1⟩ := fits_cons g0
  obtain ⟨t, rfl, _⟩ := fits_str f1
  obtain ⟨_, _, rfl, f2, g2⟩ := fits_cons g1
  obtain ⟨n, rfl, hn⟩ := fits_int f2
  obtain ⟨_, r', rfl, f3, g3⟩ := fits_cons g2
  obtain ⟨l, rfl, hl⟩ := str_in f3
  exact ⟨⟨k, t, n, l⟩, r', rfl, hl, i64_of hn, g3⟩
theorem inA (r : List Atom) (n : Nat) (h : FitsAll [.slc [.int .i64, .str, .int .i64, .slc [.str]], .int .i64, .str, .int .i64, .slc [.str], .int .i64, .str, .int .i64, .slc [.str]] r) (hb : BkAll r n) (hn : n ≤ 1048576) :
    ∃ x, r = encA x ∧ (okR 2000000 x.1 ∧ (x.2.1.l.ok 1 ∧ in64 x.2.1.n) ∧ (x.2.2.l.ok 1 ∧ in64 x.2.2.n) ∧ lenV x.2.1.v + lenV x.2.2.v ≤ 2000000) := by
  obtain ⟨_, _, rfl, f0, g0⟩ := fits_cons h
  obtain ⟨l, rfl, l1, l2⟩ := reps_in f0
  obtain ⟨a, _, rfl, a1, a2, g1⟩ := one_in g0
  obtain ⟨b, _, rfl, b1, b2, g2⟩ := one_in g1
  obtain rfl := fits_nil g2
  obtain ⟨n0, m0, rfl, h0, hb⟩ := bkAll_cons hb
  obtain ⟨n1, m1, rfl, h1, hb⟩ := bk_rep hb
  obtain ⟨n2, m2, rfl, h2, hb⟩ := bk_rep hb
  have := bk_P h0
  exact ⟨(l, a, b), rfl, ⟨l1, l2, by show lenL (l.l.map Rep.v) ≤ 2000000; omega⟩, ⟨a1, a2⟩, ⟨b1, b2⟩, by show lenV a.v + lenV b.v ≤ _; omega⟩
theorem inB (r : List Atom) (n : Nat) (h : FitsAll [.int .i64, .str, .int .i64, .slc [.str], .int .i64, .str, .int .i64, .slc [.str]] r) (hb : BkAll r n) (hn : n ≤ 1048576) :
    ∃ x, r = encB x ∧ ((x.1.l.ok 1 ∧ in64 x.1.n) ∧ (x.2.l.ok 1 ∧ in64 x.2.n) ∧ lenV x.1.v + lenV x.2.v ≤ 2000000) := by
  obtain ⟨a, _, rfl, a1, a2, g1⟩ := one_in h
  obtain ⟨b, _, rfl, b1, b2, g2⟩ := one_in g1
  obtain rfl := fits_nil g2
  obtain ⟨n1, m1, rfl, h1, hb⟩ := bk_rep hb
  obtain ⟨n2, m2, rfl, h2, hb⟩ := bk_rep hb
  exact ⟨(a, b), rfl, ⟨a1, a2⟩, ⟨b1, b2⟩, by show lenV a.v + lenV b.v ≤ _; omega⟩
end Go.Proofs.YtbcbjgomnhajdaaK
