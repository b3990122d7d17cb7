/- Vcg, part 3: what a symbolic state says of a frame and a world; values. -/
import Derived.Test.YtmhfooalcohpgaaVRun
namespace Go.Proofs.YtmhfooalcohpgaaV
open Go Go.RowKit

inductive Rd (m : Addr → Option Value) : Value → D → Prop
  | leaf (v : Value) : Rd m v .leaf
  | nil (sz : Nat) : Rd m (.slice none 0 0) (.rows sz [])
  | rows (a : Addr) (c sz : Nat) (els : List (List Atom))
      (hz : ∀ (i : Nat) (row : List Atom), els[i]? = some row → row.length = sz)
      (hc : ∀ (i j : Nat) (row : List Atom) (x : Atom), els[i]? = some row → row[j]? = some x → m (a.add (i * sz + j)) = some x.1)
      (h1 : ∀ (i j : Nat) (row : List Atom) (x : Atom), els[i]? = some row → row[j]? = some x → x.1.oneCell' = true)
      (hd : ∀ (i j : Nat) (row : List Atom) (x : Value) (d : D), els[i]? = some row → row[j]? = some (x, d) → Rd m x d) :
      Rd m (.slice (some a) els.length c) (.rows sz els)
theorem Rd.mono {m m' : Addr → Option Value} (h : ∀ a v, m a = some v → m' a = some v) {v : Value} {d : D} (r : Rd m v d) : Rd m' v d := by
  induction r with
  | leaf v => exact .leaf v
  | nil sz => exact .nil sz
  | rows a c sz els hz hc h1 _ ih => exact .rows a c sz els hz (fun i j row x hi hj => h _ _ (hc i j row x hi hj)) h1 ih
def Good (m : Addr → Option Value) (x : Atom) : Prop := Rd m x.1 x.2 ∧ x.1.oneCell' = true
theorem Good.mono {m m' : Addr → Option Value} (h : ∀ a v, m a = some v → m' a = some v) {x : Atom} (g : Good m x) : Good m' x := ⟨g.1.mono h, g.2⟩
theorem good0 (m : Addr → Option Value) : Good m atom0 := ⟨.leaf _, rfl⟩
theorem good_cell {m : Addr → Option Value} {a : Atom} (h : Good m a) (i : Int) (j : Nat) : Good m (cellD a i j) := by
  obtain ⟨h, _⟩ := h
  unfold cellD
  obtain ⟨v, d⟩ := a
  cases h with
  | leaf => simpa [D.els] using good0 m
  | nil => simpa [D.els] using good0 m
  | rows a c sz els hz hc h1 hd =>
    simp only [D.els]
    cases h2 : els[i.toNat]? with
    | none => simpa [List.getD_eq_getElem?_getD, h2] using good0 m
    | some row =>
      cases h3 : row[j]? with
      | none => simpa [List.getD_eq_getElem?_getD, h2, h3] using good0 m
      | some x => simp only [List.getD_eq_getElem?_getD, h2, h3, Option.getD_some]; exact ⟨hd _ _ _ _ _ h2 h3, h1 _ _ _ _ h2 h3⟩
theorem X.good {m : Addr → Option Value} {env : List Atom} (hg : ∀ x ∈ env, Good m x) (x : X) : Good m (x.den env) := by
  induction x with
  | «at» i =>
    simp only [X.den, List.getD_eq_getElem?_getD]
    cases h : env[i]? with
    | none => exact good0 m
    | some y => exact hg y (List.mem_of_getElem? h)
  | nil sz => exact ⟨.nil sz, rfl⟩
  | ite c x y _ ihx ihy => simp only [X.den]; split <;> assumption
  | cell s i j ihs _ => exact good_cell ihs _ _
  | _ => exact ⟨.leaf _, rfl⟩

/-- Where the call began: the world, what is read of it. -/
structure Base where
  w : World
  m : Addr → Option Value
structure Rel (w0 : Base) (st : St) (env : List Atom) (η : List Nat) (m : Addr → Option Value) (a : Act) (w : World) : Prop where
  hn : env.length = st.n
  hs : a.tmps.size = st.tmps.length
  ht : ∀ (i : Nat) v, st.tmps[i]? = some v → v = junkV ∨ a.tmps[i]? = some (v.den env η)
  hd : a.defers = []
  he : η.length = st.blks.length
  hnd : η.Nodup
  hb : ∀ (i : Nat) bl, st.blks[i]? = some bl → w.heap[η.getD i 0]? = some (.cells (bl.cells.map (S.den env η)).toArray bl.ty (0, 0))
  hge : ∀ g ∈ η, w0.w.heap.size ≤ g
  hB : Below w0.w.heap.size w0.w w
  hm : ∀ ad v, m ad = some v → w.cell? ad = some v ∧ ad.block ∉ η
  hm0 : ∀ ad v, m ad = some v → ad.block < w0.w.heap.size → w0.m ad = some v
  hg : ∀ x ∈ env, Good m x
  hk : ∀ p ∈ st.known, vb (p.1.den env).1 = p.2

section
variable {w0 : Base} {w : World} {st : St} {env : List Atom} {η : List Nat} {m : Addr → Option Value} {a : Act}
theorem cstV_den {v : Value} {s : SV} (h : cstV v = some s) : s.den env η = v := by
  unfold cstV at h
  split at h <;> first
    | (injection h with h; subst h; simp [SV.den, TV.den, S.den, X.den, vi, vb, vs]; done)
    | (cases h; done)
theorem Rel.ev (hr : Rel w0 st env η m a w) {x : Operand} {v : SV} (h : st.ev x = some v) : a.eval x = v.den env η := by
  cases x with
  | tmp t =>
    simp only [St.ev] at h
    have h' : st.tmps[t]? = some v ∧ v ≠ junkV := by
      split at h
      · cases h
      · rename_i hne; exact ⟨h, fun e => hne (by rw [h, e]; rfl)⟩
    rcases hr.ht t v h'.1 with e | e
    · exact absurd e h'.2
    · simp [Act.eval, Array.getD_eq_getD_getElem?, e]
  | const v' => exact (cstV_den h).symm
  | global g => simp [St.ev] at h
  | func f => simp only [St.ev, Option.some.injEq] at h; subst h; simp [Act.eval, SV.den, TV.den, S.den]
theorem look_sound (hk : ∀ p ∈ st.known, vb (p.1.den env).1 = p.2) (hq : ∀ x y : X, x.eq y = true → x = y) {x : X} {b : Bool} (h : st.look x = some b) : vb (x.den env).1 = b := by
  unfold St.look at h
  cases hf : st.known.find? (fun p => p.1.eq x) with
  | none => rw [hf] at h; cases h
  | some p =>
    rw [hf] at h
    simp only [Option.map_some, Option.some.injEq] at h
    have h1 := hq _ _ (by simpa using List.find?_some hf)
    have h2 := hk p (List.mem_of_find?_eq_some hf)
    rw [← h1, h2, h]
end
end Go.Proofs.YtmhfooalcohpgaaV
