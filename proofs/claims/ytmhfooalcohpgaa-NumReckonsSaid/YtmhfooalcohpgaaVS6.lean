/- Vcg, part 8: any operation. -/
import Derived.Test.YtmhfooalcohpgaaVS5
import Derived.Test.YtmhfooalcohpgaaWLast
namespace Go.Proofs.YtmhfooalcohpgaaV
open Go Go.RowKit Go.Proofs.YtmhfooalcohpgaaW.PrintLast

section
variable {w0 : Base} {w : World} {st : St} {env : List Atom} {η : List Nat} {m : Addr → Option Value} {a : Act} {P : Program}
theorem nodup_inj {l : List Nat} (h : l.Nodup) {i j : Nat} (hi : i < l.length) (hj : j < l.length) (e : l[i] = l[j]) : i = j := by
  have h := List.pairwise_iff_getElem.1 h
  rcases Nat.lt_trichotomy i j with h1 | h1 | h1
  · exact absurd e (h i j hi hj h1)
  · exact h1
  · exact absurd e.symm (h j i hj hi h1)
theorem Rel.put (hr : Rel w0 st env η m a w) (d : Option Tmp) (v : SV) : Rel w0 (st.put d v) env η m (a.put d (v.den env η)) w := by
  cases d with
  | none => exact hr
  | some d =>
    refine ⟨hr.hn, by simp [Act.put, St.put, hr.hs], ?_, hr.hd, hr.he, hr.hnd, hr.hb, hr.hge, hr.hB, hr.hm, hr.hm0, hr.hg, hr.hk⟩
    intro i u hu
    simp only [St.put, List.getElem?_set] at hu
    by_cases hi : d = i
    · subst hi
      simp only [if_true] at hu
      split at hu
      · rename_i hlt
        injection hu with hu
        subst hu
        right
        simp only [Act.put, Array.getElem?_setIfInBounds, if_true]
        rw [hr.hs, if_pos hlt]
      · cases hu
    · rw [if_neg hi] at hu
      rcases hr.ht i u hu with h | h
      · exact .inl h
      · right
        simp only [Act.put, Array.getElem?_setIfInBounds]
        rw [if_neg hi]; exact h
theorem Rel.put_undef (hr : Rel w0 st env η m a w) (d : Option Tmp) : Rel w0 (st.put d undefV) env η m (a.put d Go.undef) w := hr.put d undefV
theorem Rel.same {st' : St} (hr : Rel w0 st env η m a w) (h1 : st'.n = st.n) (h2 : st'.tmps = st.tmps) (h3 : st'.blks = st.blks) (h4 : ∀ p ∈ st'.known, vb (p.1.den env).1 = p.2) : Rel w0 st' env η m a w :=
  ⟨by rw [h1]; exact hr.hn, by rw [h2]; exact hr.hs, by rw [h2]; exact hr.ht, hr.hd, by rw [h3]; exact hr.he, hr.hnd, by rw [h3]; exact hr.hb, hr.hge, hr.hB, hr.hm, hr.hm0, hr.hg, h4⟩
theorem S.den_pb {s : S} (h : s.pb η.length = true) (g : Nat) : s.den env (η ++ [g]) = s.den env η := by
  cases s with
  | ptr b off =>
    have h : b < η.length := by simpa [S.pb] using h
    simp [S.den, List.getD_eq_getElem?_getD, List.getElem?_append_left h]
  | fn f l =>
    simp only [S.den]
    congr 1
    apply Array.ext'
    simp only
    refine List.map_congr_left fun b hb => ?_
    have h : b < η.length := by have := List.all_eq_true.1 h b hb; simpa using this
    simp [List.getD_eq_getElem?_getD, List.getElem?_append_left h]
  | _ => rfl
theorem map_pb {l : List S} (h : l.all (S.pb η.length) = true) (g : Nat) : l.map (S.den env (η ++ [g])) = l.map (S.den env η) :=
  List.map_congr_left fun _ hs => S.den_pb (List.all_eq_true.1 h _ hs) g
theorem TV.den_pb {t : TV} (h : t.pb η.length = true) (g : Nat) : t.den env (η ++ [g]) = t.den env η := by
  cases t with
  | s x => exact S.den_pb h g
  | agg l => simp only [TV.den, map_pb h g]
theorem SV.den_pb {v : SV} (h : v.pb η.length = true) (g : Nat) : v.den env (η ++ [g]) = v.den env η := by
  cases v with
  | one t => exact TV.den_pb h g
  | tup l =>
    simp only [SV.den]
    congr 2
    exact List.map_congr_left fun _ hs => TV.den_pb (List.all_eq_true.1 h _ hs) g
theorem below_push (w : World) (o : Obj) : Below w.heap.size w { w with heap := w.heap.push o } :=
  ⟨rfl, rfl, rfl, by simp, fun k hk => by simp only [Array.getElem?_push]; rw [if_neg (by omega)]⟩
theorem Below.cell_some {B : Nat} {w w' : World} (h : Below B w w') {p : Addr} (hp : p.block < B) : w'.cell? p = w.cell? p := h.cell hp
theorem cell_lt {w : World} {p : Addr} {v : Value} (h : w.cell? p = some v) : p.block < w.heap.size := by
  unfold World.cell? at h
  cases hh : w.heap[p.block]? with
  | none => rw [hh] at h; cases h
  | some o => exact (Array.getElem?_eq_some_iff.1 hh).1
theorem eta_lt (hr : Rel w0 st env η m a w) {g : Nat} (hg : g ∈ η) : g < w.heap.size := by
  obtain ⟨i, hi⟩ := List.getElem?_of_mem hg
  have hlt : i < st.blks.length := by rw [← hr.he]; exact (List.getElem?_eq_some_iff.1 hi).1
  have := hr.hb i _ (List.getElem?_eq_getElem hlt)
  simp only [List.getD_eq_getElem?_getD, hi, Option.getD_some] at this
  exact (Array.getElem?_eq_some_iff.1 this).1
/-- A new block. -/
theorem Rel.newBlk (hr : Rel w0 st env η m a w) (hp : st.pbnd = true) {z : List S} (hz : z.all (S.pb st.blks.length) = true) (t : TypeId) :
    Rel w0 { st with blks := st.blks ++ [⟨z, t⟩] } env (η ++ [w.heap.size]) m a { w with heap := w.heap.push (.cells (z.map (S.den env η)).toArray t) } := by
  simp only [St.pbnd, Bool.and_eq_true] at hp
  obtain ⟨hp1, hp2⟩ := hp
  rw [← hr.he] at hp1 hp2 hz
  have hfresh : w.heap.size ∉ η := fun h => Nat.lt_irrefl _ (eta_lt hr h)
  refine ⟨hr.hn, hr.hs, ?_, hr.hd, by simp [hr.he], ?_, ?_, ?_, ?_, ?_, hr.hm0, hr.hg, hr.hk⟩
  · intro i v hv
    rcases hr.ht i v hv with h | h
    · exact .inl h
    · right; rw [SV.den_pb (List.all_eq_true.1 hp1 _ (List.mem_of_getElem? hv))]; exact h
  · rw [List.nodup_append]
    refine ⟨hr.hnd, by simp, ?_⟩
    intro x hx y hy e
    simp at hy
    subst hy; subst e
    exact hfresh hx
  · intro i bl hbl
    simp only [List.getElem?_append] at hbl
    split at hbl
    · rename_i hlt
      have h1 := hr.hb i bl hbl
      have h2 : i < η.length := by rw [hr.he]; exact hlt
      simp only [List.getD_eq_getElem?_getD, List.getElem?_append_left h2] at h1 ⊢
      rw [map_pb (by have := List.all_eq_true.1 hp2 bl (List.mem_of_getElem? hbl); exact this)]
      have h3 := (Array.getElem?_eq_some_iff.1 h1).1
      simp only [Array.getElem?_push]
      rw [if_neg (by omega)]
      exact h1
    · rename_i hlt
      have hi : i = st.blks.length := by
        cases hq : i - st.blks.length with
        | zero => omega
        | succ n => rw [hq] at hbl; simp at hbl
      subst hi
      simp only [Nat.sub_self, List.getElem?_cons_zero, Option.some.injEq] at hbl
      subst hbl
      rw [map_pb hz]
      have : (η ++ [w.heap.size]).getD st.blks.length 0 = w.heap.size := by
        rw [List.getD_eq_getElem?_getD, List.getElem?_append_right (by rw [hr.he]; exact Nat.le_refl _)]
        simp [hr.he]
      rw [this]
      simp
  · intro g hg
    rcases List.mem_append.1 hg with h | h
    · exact hr.hge g h
    · simp at h; subst h; exact hr.hB.size
  · exact hr.hB.trans ((below_push w _).mono hr.hB.size)
  · intro ad v had
    obtain ⟨h1, h2⟩ := hr.hm ad v had
    have h3 := cell_lt h1
    refine ⟨?_, ?_⟩
    · rw [(below_push w _).cell h3]; exact h1
    · simp only [List.mem_append, List.mem_singleton, not_or]
      exact ⟨h2, by omega⟩
/-- A store into a block of our own. -/
theorem Rel.setBlk (hr : Rel w0 st env η m a w) {b : Nat} {bl : Blk} (hb : st.blks[b]? = some bl) {z : List S} :
    Rel w0 { st with blks := st.blks.set b ⟨z, bl.ty⟩ } env η m a (w.setRow (η.getD b 0) (z.map (S.den env η)).toArray) := by
  have hlt : b < st.blks.length := (List.getElem?_eq_some_iff.1 hb).1
  have hη : b < η.length := by rw [hr.he]; exact hlt
  have hg : η.getD b 0 ∈ η := by
    rw [List.getD_eq_getElem?_getD, List.getElem?_eq_getElem hη]; exact List.getElem_mem hη
  have hrow : ∀ k, k ≠ η.getD b 0 → (w.setRow (η.getD b 0) (z.map (S.den env η)).toArray).heap[k]? = w.heap[k]? := by
    intro k hk
    simp only [World.setRow, Array.getElem?_modify]
    rw [if_neg (fun e => hk e.symm)]
  have hself : (w.setRow (η.getD b 0) (z.map (S.den env η)).toArray).heap[η.getD b 0]? = some (.cells (z.map (S.den env η)).toArray bl.ty (0, 0)) := setRow_heap w _ _ _ _ _ (hr.hb b bl hb)
  have hge : w0.w.heap.size ≤ η.getD b 0 := hr.hge _ hg
  refine ⟨hr.hn, hr.hs, hr.ht, hr.hd, by simp [hr.he], hr.hnd, ?_, hr.hge, ?_, ?_, hr.hm0, hr.hg, hr.hk⟩
  · intro i bl' hbl'
    simp only [List.getElem?_set] at hbl'
    by_cases hi : b = i
    · subst hi
      simp only [if_true, hlt] at hbl'
      injection hbl' with hbl'
      subst hbl'
      exact hself
    · rw [if_neg hi] at hbl'
      have h1 := hr.hb i bl' hbl'
      have hi2 : i < η.length := by rw [hr.he]; exact (List.getElem?_eq_some_iff.1 hbl').1
      rw [hrow _ ?_]
      · exact h1
      · intro e
        rw [List.getD_eq_getElem?_getD, List.getD_eq_getElem?_getD, List.getElem?_eq_getElem hη, List.getElem?_eq_getElem hi2] at e
        simp only [Option.getD_some] at e
        exact hi (nodup_inj hr.hnd hi2 hη e).symm
  · refine hr.hB.trans ⟨rfl, rfl, rfl, by simp [World.setRow], fun k hk => hrow k (by omega)⟩
  · intro ad v had
    obtain ⟨h1, h2⟩ := hr.hm ad v had
    refine ⟨?_, h2⟩
    rw [World.cell?_of_block (w := w) (hrow _ (fun e => h2 (e ▸ hg)))]
    exact h1
end
end Go.Proofs.YtmhfooalcohpgaaV
