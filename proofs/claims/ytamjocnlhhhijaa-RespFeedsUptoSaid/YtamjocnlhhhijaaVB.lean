/- Vcg, part 8: any operation. Vcg, part 9: calls by contract; any operation. Vcg, part 9, more: appends and stores at a slice of the call's own. Vcg, part 9, more: the executor's append and store. Vcg, part 10: any operation. Vcg, part 11: regions in the text's order; what follows is uniform. -/
import Derived.Test.YtamjocnlhhhijaaVA
import Derived.Test.YtamjocnlhhhijaaWLast
import Derived.Lib.AppendStr
import Derived.Lib.ConvBytes
import Derived.TacticsIn
import Derived.RangeFuncRecord
set_option linter.unusedSimpArgs false
set_option linter.unusedVariables false
namespace Go.Proofs.YtamjocnlhhhijaaV
open Go Go.RowKit Go.Proofs.YtamjocnlhhhijaaW.PrintLast

section
variable {w0 : Base} {w : World} {st : St} {env : List Atom} {η : List Nat} {m : Addr → Option Value} {a : Act} {P : Program}
theorem nodup_inj {l : List Nat} (h : l.Nodup) {i j : Nat} (hi : i < l.length) (hj : j < l.length) (e : l[i] = l[j]) : i = j := by
  have h := List.pairwise_iff_getElem.1 h
  rcases Nat.lt_trichotomy i j with h1 | h1 | h1
  · exact absurd e (h i j hi hj h1)
  · exact h1
  · exact absurd e.symm (h j i hj hi h1)
theorem Rel.put (hr : Rel w0 st env η m a w) (d : Option Tmp) (v : SV) : Rel w0 (st.put d v) env η m (a.put d (v.den env η)) w := by
  cases d with
  | none => exact hr
  | some d =>
    refine ⟨hr.hn, by simp [Act.put, St.put, hr.hs], ?_, hr.hd, hr.he, hr.hnd, hr.hb, hr.hge, hr.hB, hr.hm, hr.hm0, hr.hg, hr.ho, hr.hod, hr.hom, hr.hk⟩
    intro i u hu
    simp only [St.put, List.getElem?_set] at hu
    by_cases hi : d = i
    · subst hi
      simp only [if_true] at hu
      split at hu
      · rename_i hlt
        injection hu with hu
        subst hu
        right
        simp only [Act.put, Array.getElem?_setIfInBounds, if_true]
        rw [hr.hs, if_pos hlt]
      · cases hu
    · rw [if_neg hi] at hu
      rcases hr.ht i u hu with h | h
      · exact .inl h
      · right
        simp only [Act.put, Array.getElem?_setIfInBounds]
        rw [if_neg hi]; exact h
theorem Rel.put_undef (hr : Rel w0 st env η m a w) (d : Option Tmp) : Rel w0 (st.put d undefV) env η m (a.put d Go.undef) w := hr.put d undefV
theorem Rel.same {st' : St} (hr : Rel w0 st env η m a w) (h : Same st' st) (h4 : ∀ p ∈ st'.known, vb (p.1.den env).1 = p.2) : Rel w0 st' env η m a w :=
  ⟨by rw [h.n]; exact hr.hn, by rw [h.tmps]; exact hr.hs, by rw [h.tmps]; exact hr.ht, hr.hd, by rw [h.blks]; exact hr.he, hr.hnd, by rw [h.blks]; exact hr.hb, hr.hge, hr.hB, hr.hm, hr.hm0, by rw [h.own, h.dead]; exact hr.hg,
    by rw [h.own]; exact hr.ho, by rw [h.own]; exact hr.hod, by rw [h.own]; exact hr.hom, h4⟩
theorem OwnAt.kept {w w' : World} {row : Option Nat} {base : Nat} {x : Atom} {e : TypeId} {sz : Nat} (h : OwnAt m w base x e sz) (hg : w.grownBy w' row) (hne : ownB x = none ∨ ownB x ≠ row) : OwnAt m w' base x e sz := by
  rcases h with h | ⟨z, els, q1, q2, q3, q4, q5⟩
  · exact .inl h
  · rw [ownB_of q1] at hne
    exact .inr ⟨z, els, q1, q2, q3, q4, q5.kept hg hne⟩
theorem OwnAt.mono {m' : Addr → Option Value} (hm : ∀ a v, m a = some v → m' a = some v) {w : World} {base : Nat} {x : Atom} {e : TypeId} {sz : Nat} (h : OwnAt m w base x e sz) : OwnAt m' w base x e sz := by
  rcases h with h | ⟨z, els, q1, q2, q3, q4, q5⟩
  · exact .inl h
  · exact .inr ⟨z, els, q1, q2, q3, fun r hr y hy => (q4 r hr y hy).mono hm, q5⟩
theorem below_grown {w w' : World} (h : Below w.heap.size w w') : w.grownBy w' none := ⟨h.os, h.tape, h.output, h.size, fun k hk _ => h.block k hk⟩
theorem own_blk {x : Atom} {o : Nat × TypeId × Nat} (hx : env[o.1]? = some x) : blkOf env o = ownB x := by
  unfold blkOf; rw [getD_get hx]
theorem S.den_pb {s : S} (h : s.pb η.length = true) (g : Nat) : s.den env (η ++ [g]) = s.den env η := by
  cases s with
  | ptr b off =>
    have h : b < η.length := by simpa [S.pb] using h
    simp [S.den, List.getD_eq_getElem?_getD, List.getElem?_append_left h]
  | mp b =>
    have h : b < η.length := by simpa [S.pb] using h
    simp [S.den, List.getD_eq_getElem?_getD, List.getElem?_append_left h]
  | bsl b off l c =>
    have h : b < η.length := by simpa [S.pb] using h
    simp [S.den, List.getD_eq_getElem?_getD, List.getElem?_append_left h]
  | fn f l =>
    simp only [S.den]
    congr 1
    apply Array.ext'
    simp only
    refine List.map_congr_left fun b hb => ?_
    have h : b < η.length := by have := List.all_eq_true.1 h b hb; simpa using this
    simp [List.getD_eq_getElem?_getD, List.getElem?_append_left h]
  | _ => rfl
theorem map_pb {l : List S} (h : l.all (S.pb η.length) = true) (g : Nat) : l.map (S.den env (η ++ [g])) = l.map (S.den env η) :=
  List.map_congr_left fun _ hs => S.den_pb (List.all_eq_true.1 h _ hs) g
theorem TV.den_pb {t : TV} (h : t.pb η.length = true) (g : Nat) : t.den env (η ++ [g]) = t.den env η := by
  cases t with
  | s x => exact S.den_pb h g
  | agg l => simp only [TV.den, map_pb h g]
theorem SV.den_pb {v : SV} (h : v.pb η.length = true) (g : Nat) : v.den env (η ++ [g]) = v.den env η := by
  cases v with
  | one t => exact TV.den_pb h g
  | tup l =>
    simp only [SV.den]
    congr 2
    exact List.map_congr_left fun _ hs => TV.den_pb (List.all_eq_true.1 h _ hs) g
theorem SV.pb_mono {v : SV} {n k : Nat} (h : v.pb n = true) (hle : n ≤ k) : v.pb k = true := by
  have hS : ∀ s : S, s.pb n = true → s.pb k = true := by
    intro s h
    cases s with
    | ptr b o => simp only [S.pb, decide_eq_true_eq] at h ⊢; omega
    | mp b => simp only [S.pb, decide_eq_true_eq] at h ⊢; omega
    | bsl b o l c => simp only [S.pb, decide_eq_true_eq] at h ⊢; omega
    | fn f l =>
      simp only [S.pb, List.all_eq_true, decide_eq_true_eq] at h ⊢
      exact fun x hx => by have := h x hx; omega
    | _ => rfl
  have hT : ∀ t : TV, t.pb n = true → t.pb k = true := by
    intro t h
    cases t with
    | s x => exact hS x h
    | agg l => exact List.all_eq_true.2 fun x hx => hS x (List.all_eq_true.1 h x hx)
  cases v with
  | one t => exact hT t h
  | tup l => exact List.all_eq_true.2 fun x hx => hT x (List.all_eq_true.1 h x hx)
theorem Books.turn {dl : List Deferred} {w' : World} {row : Option Nat} (h : Books w0 env η dl w) (hg : w.grownBy w' row) (hr : ∀ g, row = some g → ∃ o, w.heap[g]? = some o ∧ bookB o = false) : Books w0 env η dl w' := by
  have key : ∀ (D : Nat) (o : Obj), w.heap[D]? = some o → bookB o = true → w'.heap[D]? = some o := by
    intro D o hD hb
    rw [hg.block D (Array.getElem?_eq_some_iff.1 hD).1 fun e => ?_]
    · exact hD
    · obtain ⟨o', h1, h2⟩ := hr D e.symm
      rw [hD] at h1
      injection h1 with h1
      subst h1
      rw [hb] at h2; cases h2
  obtain ⟨ds, h1, h3, h2⟩ := h.md
  exact ⟨⟨ds, h1, h3, fun D hD => key D _ (h2 D hD) rfl⟩, fun g o hgo => ⟨(h.kp g o hgo).1, key g o (h.kp g o hgo).2 (h.kp g o hgo).1⟩, h.ys⟩
theorem Books.turnB {dl : List Deferred} {w' : World} (h : Books w0 env η dl w) (hg : w.grownBy w' none) : Books w0 env η dl w' := h.turn hg (fun g e => by cases e)
theorem Books.same {dl : List Deferred} {w' : World} (h : Books w0 env η dl w) (hw : w'.heap = w.heap) : Books w0 env η dl w' := by
  obtain ⟨ds, h1, h3, h2⟩ := h.md
  exact ⟨⟨ds, h1, h3, by rw [hw]; exact h2⟩, by rw [hw]; exact h.kp, h.ys⟩
theorem Books.eta {dl : List Deferred} (h : Books w0 env η dl w) (g : Nat) : Books w0 env (η ++ [g]) dl w :=
  ⟨h.md, h.kp, fun p hp => by
    obtain ⟨h1, h2, h3⟩ := h.ys p hp
    exact ⟨by rw [SV.den_pb h3]; exact h1, h2, SV.pb_mono h3 (by simp)⟩⟩
theorem cells_notBook {w : World} {g : Nat} {cur : Array Value} {e : TypeId} (h : okRow w g cur e) : ∃ o, w.heap[g]? = some o ∧ bookB o = false := by
  obtain ⟨fz, h, _⟩ := h
  exact ⟨_, h, rfl⟩
theorem Blk.obj_notBook (b : Blk) : bookB (b.obj env η) = false := by
  unfold Blk.obj; split <;> rfl
theorem Blk.obj_pb {b : Blk} (h : b.cells.all (S.pb η.length) = true) (g : Nat) : b.obj env (η ++ [g]) = b.obj env η := by
  unfold Blk.obj
  split
  · rw [map_pb h g]
  · congr 2
    refine List.map_congr_left fun p hp => ?_
    have h1 := List.mem_of_getElem? (List.mem_zipIdx_iff_getElem?.1 hp)
    have h2 := (List.of_mem_zip h1).2
    rw [S.den_pb (List.all_eq_true.1 h _ h2) g]
theorem below_push (w : World) (o : Obj) : Below w.heap.size w { w with heap := w.heap.push o } :=
  ⟨rfl, rfl, rfl, by simp, fun k hk => by simp only [Array.getElem?_push]; rw [if_neg (by omega)]⟩
theorem Below.cell_some {B : Nat} {w w' : World} (h : Below B w w') {p : Addr} (hp : p.block < B) : w'.cell? p = w.cell? p := h.cell hp
theorem cell_lt {w : World} {p : Addr} {v : Value} (h : w.cell? p = some v) : p.block < w.heap.size := by
  unfold World.cell? at h
  cases hh : w.heap[p.block]? with
  | none => rw [hh] at h; cases h
  | some o => exact (Array.getElem?_eq_some_iff.1 hh).1
theorem eta_lt (hr : Rel w0 st env η m a w) {g : Nat} (hg : g ∈ η) : g < w.heap.size := by
  obtain ⟨i, hi⟩ := List.getElem?_of_mem hg
  have hlt : i < st.blks.length := by rw [← hr.he]; exact (List.getElem?_eq_some_iff.1 hi).1
  have := hr.hb i _ (List.getElem?_eq_getElem hlt)
  simp only [List.getD_eq_getElem?_getD, hi, Option.getD_some] at this
  exact (Array.getElem?_eq_some_iff.1 this).1
/-- A new block. -/
theorem Rel.newBlk (hr : Rel w0 st env η m a w) (hp : st.pbnd = true) {z : List S} (hz : z.all (S.pb st.blks.length) = true) (t : TypeId) (q : Option (IntKind × List Int)) :
    Rel w0 { st with blks := st.blks ++ [⟨z, t, q⟩] } env (η ++ [w.heap.size]) m a { w with heap := w.heap.push (Blk.obj env η ⟨z, t, q⟩) } := by
  simp only [St.pbnd, Bool.and_eq_true] at hp
  obtain ⟨hp1, hp2⟩ := hp
  rw [← hr.he] at hp1 hp2 hz
  have hfresh : w.heap.size ∉ η := fun h => Nat.lt_irrefl _ (eta_lt hr h)
  have hgr : w.grownBy { w with heap := w.heap.push (Blk.obj env η ⟨z, t, q⟩) } none := below_grown (below_push w _)
  refine ⟨hr.hn, hr.hs, ?_, (hr.hd.eta _).turnB hgr, by simp [hr.he], ?_, ?_, ?_, ?_, ?_, hr.hm0, hr.hg, ?_, hr.hod, ?_, hr.hk⟩
  · intro i v hv
    rcases hr.ht i v hv with h | h
    · exact .inl h
    · right; rw [SV.den_pb (List.all_eq_true.1 hp1 _ (List.mem_of_getElem? hv))]; exact h
  · rw [List.nodup_append]
    refine ⟨hr.hnd, by simp, ?_⟩
    intro x hx y hy e
    simp at hy
    subst hy; subst e
    exact hfresh hx
  · intro i bl hbl
    simp only [List.getElem?_append] at hbl
    split at hbl
    · rename_i hlt
      have h1 := hr.hb i bl hbl
      have h2 : i < η.length := by rw [hr.he]; exact hlt
      simp only [List.getD_eq_getElem?_getD, List.getElem?_append_left h2] at h1 ⊢
      rw [Blk.obj_pb (by have := List.all_eq_true.1 hp2 bl (List.mem_of_getElem? hbl); exact this)]
      have h3 := (Array.getElem?_eq_some_iff.1 h1).1
      simp only [Array.getElem?_push]
      rw [if_neg (by omega)]
      exact h1
    · rename_i hlt
      have hi : i = st.blks.length := by
        cases hq : i - st.blks.length with
        | zero => omega
        | succ n => rw [hq] at hbl; simp at hbl
      subst hi
      simp only [Nat.sub_self, List.getElem?_cons_zero, Option.some.injEq] at hbl
      subst hbl
      rw [Blk.obj_pb hz]
      have : (η ++ [w.heap.size]).getD st.blks.length 0 = w.heap.size := by
        rw [List.getD_eq_getElem?_getD, List.getElem?_append_right (by rw [hr.he]; exact Nat.le_refl _)]
        simp [hr.he]
      rw [this]
      simp
  · intro g hg
    rcases List.mem_append.1 hg with h | h
    · exact hr.hge g h
    · simp at h; subst h; exact hr.hB.size
  · exact hr.hB.trans ((below_push w _).mono hr.hB.size)
  · intro ad v had
    obtain ⟨h1, h2⟩ := hr.hm ad v had
    have h3 := cell_lt h1
    refine ⟨?_, ?_⟩
    · rw [(below_push w _).cell h3]; exact h1
    · simp only [List.mem_append, List.mem_singleton, not_or]
      exact ⟨h2, by omega⟩
  · intro o ho
    obtain ⟨x, hx, h⟩ := hr.ho o ho
    exact ⟨x, hx, h.kept hgr (by cases ownB x <;> simp)⟩
  · intro o ho g hg
    obtain ⟨h1, h2⟩ := hr.hom o ho g hg
    obtain ⟨x, hx, h⟩ := hr.ho o ho
    have hlt := (h.lt g (by rw [← own_blk hx]; exact hg)).2
    refine ⟨?_, h2⟩
    simp only [List.mem_append, List.mem_singleton, not_or]
    exact ⟨h1, by omega⟩
/-- A block of our own turns. -/
theorem Rel.setObj (hr : Rel w0 st env η m a w) {b : Nat} (hb : b < st.blks.length) (bl : Blk) {w' : World} (hself : w'.heap[η.getD b 0]? = some (bl.obj env η)) (hgr : w.grownBy w' (some (η.getD b 0))) :
    Rel w0 { st with blks := st.blks.set b bl } env η m a w' := by
  have hlt := hb
  have hη : b < η.length := by rw [hr.he]; exact hlt
  have hg : η.getD b 0 ∈ η := by
    rw [List.getD_eq_getElem?_getD, List.getElem?_eq_getElem hη]; exact List.getElem_mem hη
  have hge : w0.w.heap.size ≤ η.getD b 0 := hr.hge _ hg
  have hnb : ∀ g', some (η.getD b 0) = some g' → ∃ o, w.heap[g']? = some o ∧ bookB o = false := by
    intro g' e
    injection e with e
    subst e
    exact ⟨_, hr.hb b _ (List.getElem?_eq_getElem hb), Blk.obj_notBook _⟩
  refine ⟨hr.hn, hr.hs, hr.ht, hr.hd.turn hgr hnb, by simp [hr.he], hr.hnd, ?_, hr.hge, ?_, ?_, hr.hm0, hr.hg, ?_, hr.hod, hr.hom, hr.hk⟩
  · intro i bl' hbl'
    simp only [List.getElem?_set] at hbl'
    by_cases hi : b = i
    · subst hi
      simp only [if_true, hlt] at hbl'
      injection hbl' with hbl'
      subst hbl'
      exact hself
    · rw [if_neg hi] at hbl'
      have h1 := hr.hb i bl' hbl'
      have hi2 : i < η.length := by rw [hr.he]; exact (List.getElem?_eq_some_iff.1 hbl').1
      rw [hgr.block _ (Array.getElem?_eq_some_iff.1 h1).1 ?_]
      · exact h1
      · intro e
        injection e with e
        rw [List.getD_eq_getElem?_getD, List.getD_eq_getElem?_getD, List.getElem?_eq_getElem hη, List.getElem?_eq_getElem hi2] at e
        simp only [Option.getD_some] at e
        exact hi (nodup_inj hr.hnd hi2 hη e).symm
  · refine hr.hB.trans ⟨hgr.os, hgr.tape, hgr.output, hgr.size, fun k hk => hgr.block k (Nat.lt_of_lt_of_le hk hr.hB.size) (fun e => by injection e with e; omega)⟩
  · intro ad v had
    obtain ⟨h1, h2⟩ := hr.hm ad v had
    refine ⟨?_, h2⟩
    rw [World.cell?_of_block (w := w) (hgr.block _ (cell_lt h1) (fun e => by injection e with e; exact h2 (e ▸ hg)))]
    exact h1
  · intro o ho
    obtain ⟨x, hx, h⟩ := hr.ho o ho
    refine ⟨x, hx, h.kept hgr (.inr fun e => ?_)⟩
    rw [← own_blk hx] at e
    exact (hr.hom o ho _ e).1 hg
/-- A store into a block of our own. -/
theorem Rel.setBlk (hr : Rel w0 st env η m a w) {b : Nat} {bl : Blk} (hb : st.blks[b]? = some bl) (hmp : bl.mp = none) {z : List S} :
    Rel w0 { st with blks := st.blks.set b ⟨z, bl.ty, none⟩ } env η m a (w.setRow (η.getD b 0) (z.map (S.den env η)).toArray) := by
  have hrow : ∀ k, k ≠ η.getD b 0 → (w.setRow (η.getD b 0) (z.map (S.den env η)).toArray).heap[k]? = w.heap[k]? := by
    intro k hk
    simp only [World.setRow, Array.getElem?_modify]
    rw [if_neg (fun e => hk e.symm)]
  have h0 := hr.hb b bl hb
  simp only [Blk.obj, hmp] at h0
  refine hr.setObj (List.getElem?_eq_some_iff.1 hb).1 ⟨z, bl.ty, none⟩ (setRow_heap w _ _ _ _ _ h0) ⟨rfl, rfl, rfl, by simp [World.setRow], fun k _ hk => hrow k (fun e => hk (by rw [e]))⟩
end
end Go.Proofs.YtamjocnlhhhijaaV

namespace Go.Proofs.YtamjocnlhhhijaaV
open Go Go.RowKit Go.Proofs.YtamjocnlhhhijaaW.PrintLast

/-- Values of the shapes, out of leaves. -/
def mkVals : List (Option Nat) → List Value → List Value
  | [], _ => []
  | none :: ss, v :: vs => v :: mkVals ss vs
  | none :: _, [] => []
  | some n :: ss, vs => .agg (vs.take n).toArray :: mkVals ss (vs.drop n)
def mkRes (tup : Bool) (rsh : List (Option Nat)) (vs : List Value) : Value := if tup then .tuple (mkVals rsh vs).toArray else (mkVals rsh vs).headD Go.undef
/-- What is read, behind a call: new memory, too, but what the caller owns. -/
def ext (m : Addr → Option Value) (w w' : World) (gs : List Nat) : Addr → Option Value := fun ad => if w.heap.size ≤ ad.block then (if ad.block ∈ gs then none else w'.cell? ad) else m ad
def outBlk (outs : List Atom) (p : Nat × TypeId × Nat) : Option Nat := ownB (outs.getD p.1 atom0)
def outBlks (outs : List Atom) (ol : List (Nat × TypeId × Nat)) : List Nat := ol.filterMap (outBlk outs)
/-- What a call hands back: good atoms, and slices that are the caller's. -/
structure OutsOk (m : Addr → Option Value) (w w' : World) (ol : List (Nat × TypeId × Nat)) (outs : List Atom) : Prop where
  good : ∀ i x, outs[i]? = some x → Elt (ext m w w' (outBlks outs ol)) x ∧ (i ∉ ol.map (·.1) → Good (ext m w w' (outBlks outs ol)) x)
  own : ∀ p ∈ ol, ∃ x, outs[p.1]? = some x ∧ OwnAt (ext m w w' (outBlks outs ol)) w' w.heap.size x p.2.1 p.2.2
  apart : ol.Pairwise fun p q => ∀ g, outBlk outs p = some g → outBlk outs q ≠ some g
/-- The contract holds. -/
def holds (P : Program) (c : Sig × Con) : Prop :=
  (∃ fn, P.funcs[c.1.f]? = some fn ∧ (fn.name == "runtime.NumGoroutine") = false ∧ fn.body.isSome = true) ∧
  ∀ (args : List Atom) (m : Addr → Option Value) (w : World), (∀ ad v, m ad = some v → w.cell? ad = some v) → (∀ x ∈ args, Good m x) → c.2.pre args →
    Calls P c.1.f (mkVals c.1.ash (args.map (·.1))).toArray w fun e w' => ∃ outs, e = .returned (mkRes c.1.tup c.1.rsh (outs.map (·.1))) ∧ KindsOk c.1.res outs ∧ c.2.post args outs ∧ OutsOk m w w' c.1.own outs ∧ Below w.heap.size w w'

section
variable {w0 : Base} {w : World} {st : St} {env : List Atom} {η : List Nat} {m : Addr → Option Value} {a : Act} {P : Program}
theorem X.den_bnd {x : X} (h : x.bnd env.length = true) (l : List Atom) : x.den (env ++ l) = x.den env := by
  induction x with
  | «at» i =>
    have h : i < env.length := by simpa [X.bnd] using h
    simp [X.den, List.getD_eq_getElem?_getD, List.getElem?_append_left h]
  | int _ => rfl
  | bool _ => rfl
  | str _ => rfl
  | nil _ => rfl
  | neg _ _ ih => simp only [X.den, ih h]
  | wrap _ _ ih => simp only [X.den, ih h]
  | not _ ih => simp only [X.den, ih h]
  | len _ ih => simp only [X.den, ih h]
  | size _ ih => simp only [X.den, ih h]
  | nilp _ ih => simp only [X.den, ih h]
  | cap _ ih => simp only [X.den, ih h]
  | ifn _ ih => simp only [X.den, ih h]
  | chr _ ih => simp only [X.den, ih h]
  | sob _ ih => simp only [X.den, ih h]
  | clo _ _ _ ih => simp only [X.den, ih h]
  | raw _ ih => simp only [X.den, ih h]
  | rsub _ _ _ _ ih1 ih2 ih3 => simp only [X.bnd, Bool.and_eq_true] at h; simp only [X.den, ih1 h.1.1, ih2 h.1.2, ih3 h.2]
  | ite _ _ _ ih1 ih2 ih3 => simp only [X.bnd, Bool.and_eq_true] at h; simp only [X.den, ih1 h.1.1, ih2 h.1.2, ih3 h.2]
  | sub _ _ _ ih1 ih2 ih3 => simp only [X.bnd, Bool.and_eq_true] at h; simp only [X.den, ih1 h.1.1, ih2 h.1.2, ih3 h.2]
  | _ => rename_i ih1 ih2; simp only [X.bnd, Bool.and_eq_true] at h; simp only [X.den, ih1 h.1, ih2 h.2]
theorem S.den_bnd {s : S} (h : s.bnd env.length = true) (l : List Atom) : s.den (env ++ l) η = s.den env η := by
  cases s with
  | int k x => simp only [S.den, X.den_bnd (show x.bnd _ = true from h)]
  | bool x => simp only [S.den, X.den_bnd (show x.bnd _ = true from h)]
  | str x => simp only [S.den, X.den_bnd (show x.bnd _ = true from h)]
  | slc x => simp only [S.den, X.den_bnd (show x.bnd _ = true from h)]
  | any x => simp only [S.den, X.den_bnd (show x.bnd _ = true from h)]
  | eptr s i z o => simp only [S.bnd, Bool.and_eq_true] at h; simp only [S.den, X.den_bnd h.1, X.den_bnd h.2]
  | cptr f cs x j => simp only [S.den, X.den_bnd (show x.bnd _ = true from h)]
  | _ => rfl
theorem map_bnd {l : List S} (h : l.all (S.bnd env.length) = true) (e : List Atom) : l.map (S.den (env ++ e) η) = l.map (S.den env η) :=
  List.map_congr_left fun _ hs => S.den_bnd (List.all_eq_true.1 h _ hs) e
theorem TV.den_bnd {t : TV} (h : t.bnd env.length = true) (e : List Atom) : t.den (env ++ e) η = t.den env η := by
  cases t with
  | s x => exact S.den_bnd h e
  | agg l => simp only [TV.den, map_bnd h e]
theorem SV.den_bnd {v : SV} (h : v.bnd env.length = true) (e : List Atom) : v.den (env ++ e) η = v.den env η := by
  cases v with
  | one t => exact TV.den_bnd h e
  | tup l =>
    simp only [SV.den]
    congr 2
    exact List.map_congr_left fun _ hs => TV.den_bnd (List.all_eq_true.1 h _ hs) e
theorem X.bnd_mono {x : X} {n k : Nat} (h : x.bnd n = true) (hle : n ≤ k) : x.bnd k = true := by
  induction x with
  | «at» i => simp only [X.bnd, decide_eq_true_eq] at h ⊢; omega
  | int _ => rfl
  | bool _ => rfl
  | str _ => rfl
  | nil _ => rfl
  | neg _ _ ih => exact ih h
  | wrap _ _ ih => exact ih h
  | not _ ih => exact ih h
  | len _ ih => exact ih h
  | size _ ih => exact ih h
  | nilp _ ih => exact ih h
  | cap _ ih => exact ih h
  | ifn _ ih => exact ih h
  | chr _ ih => exact ih h
  | sob _ ih => exact ih h
  | clo _ _ _ ih => exact ih h
  | raw _ ih => exact ih h
  | ite _ _ _ ih1 ih2 ih3 => simp only [X.bnd, Bool.and_eq_true] at h ⊢; exact ⟨⟨ih1 h.1.1, ih2 h.1.2⟩, ih3 h.2⟩
  | sub _ _ _ ih1 ih2 ih3 => simp only [X.bnd, Bool.and_eq_true] at h ⊢; exact ⟨⟨ih1 h.1.1, ih2 h.1.2⟩, ih3 h.2⟩
  | rsub _ _ _ _ ih1 ih2 ih3 => simp only [X.bnd, Bool.and_eq_true] at h ⊢; exact ⟨⟨ih1 h.1.1, ih2 h.1.2⟩, ih3 h.2⟩
  | _ => rename_i ih1 ih2; simp only [X.bnd, Bool.and_eq_true] at h ⊢; exact ⟨ih1 h.1, ih2 h.2⟩
theorem S.bnd_mono {s : S} {n k : Nat} (h : s.bnd n = true) (hle : n ≤ k) : s.bnd k = true := by
  cases s with
  | eptr s i z o => simp only [S.bnd, Bool.and_eq_true] at h ⊢; exact ⟨X.bnd_mono h.1 hle, X.bnd_mono h.2 hle⟩
  | int _ x => exact X.bnd_mono (x := x) h hle
  | bool x => exact X.bnd_mono (x := x) h hle
  | str x => exact X.bnd_mono (x := x) h hle
  | slc x => exact X.bnd_mono (x := x) h hle
  | any x => exact X.bnd_mono (x := x) h hle
  | cptr _ _ x _ => exact X.bnd_mono (x := x) h hle
  | _ => rfl
theorem TV.bnd_mono {t : TV} {n k : Nat} (h : t.bnd n = true) (hle : n ≤ k) : t.bnd k = true := by
  cases t with
  | s x => exact S.bnd_mono (s := x) h hle
  | agg l => exact List.all_eq_true.2 fun x hx => S.bnd_mono (List.all_eq_true.1 h x hx) hle
theorem SV.bnd_mono {v : SV} {n k : Nat} (h : v.bnd n = true) (hle : n ≤ k) : v.bnd k = true := by
  cases v with
  | one t => exact TV.bnd_mono (t := t) h hle
  | tup l => exact List.all_eq_true.2 fun x hx => TV.bnd_mono (List.all_eq_true.1 h x hx) hle
theorem Books.grow {dl : List Deferred} (h : Books w0 env η dl w) (l : List Atom) : Books w0 (env ++ l) η dl w :=
  ⟨h.md, h.kp, fun p hp => by
    obtain ⟨h1, h2, h3⟩ := h.ys p hp
    exact ⟨by rw [SV.den_bnd h2]; exact h1, SV.bnd_mono h2 (by simp), h3⟩⟩
theorem Blk.obj_bnd {b : Blk} (h : b.cells.all (S.bnd env.length) = true) (l : List Atom) : b.obj (env ++ l) η = b.obj env η := by
  unfold Blk.obj
  split
  · rw [map_bnd h l]
  · congr 2
    refine List.map_congr_left fun p hp => ?_
    have h1 := List.mem_of_getElem? (List.mem_zipIdx_iff_getElem?.1 hp)
    have h2 := (List.of_mem_zip h1).2
    rw [S.den_bnd (List.all_eq_true.1 h _ h2) l]
theorem getD_app {env l : List Atom} {i : Nat} (h : i < env.length) : (env ++ l).getD i atom0 = env.getD i atom0 := by
  simp [List.getD_eq_getElem?_getD, List.getElem?_append_left h]
theorem blkOf_app {l : List Atom} {o : Nat × TypeId × Nat} (h : o.1 < env.length) : blkOf (env ++ l) o = blkOf env o := by
  unfold blkOf; rw [getD_app h]
theorem S.atom_good (hg : ∀ i x, env[i]? = some x → Elt m x ∧ (i ∉ st.dead → i ∉ st.own.map (·.1) → Good m x)) {s : S} (h : s.pureB = true) (h1 : s.avoid st.dead = true) (h2 : s.avoid (st.own.map (·.1)) = true) : Good m (s.atom env) := by
  cases s with
  | slc x => exact X.good hg x h1 h2
  | any x => exact X.good hg x h1 h2
  | cst v =>
    refine ⟨.leaf _, ?_⟩
    simp only [S.pureB] at h
    split at h <;> first | rfl | cases h
  | int _ _ => exact ⟨.leaf _, rfl⟩
  | bool _ => exact ⟨.leaf _, rfl⟩
  | str _ => exact ⟨.leaf _, rfl⟩
  | _ => simp [S.pureB] at h
theorem S.atom_val {s : S} (h : s.pureB = true) : (s.atom env).1 = s.den env η := by
  cases s <;> first | rfl | (simp [S.pureB] at h; done)
theorem X.avoid_all {x : X} {l : List Nat} (h : ∀ i ∈ l, x.avoid [i] = true) : x.avoid l = true := by
  induction x with
  | «at» j => simp only [X.avoid, List.all_eq_true, bne_iff_ne, ne_eq] at h ⊢; exact fun i hi => by simpa using h i hi
  | int _ => rfl
  | bool _ => rfl
  | str _ => rfl
  | nil _ => rfl
  | neg _ _ ih => exact ih h
  | wrap _ _ ih => exact ih h
  | not _ ih => exact ih h
  | len _ ih => exact ih h
  | size _ ih => exact ih h
  | nilp _ ih => exact ih h
  | cap _ ih => exact ih h
  | ifn _ ih => exact ih h
  | chr _ ih => exact ih h
  | sob _ ih => exact ih h
  | clo _ _ _ ih => exact ih h
  | raw _ _ => rfl
  | ite _ _ _ ih1 ih2 ih3 => simp only [X.avoid, Bool.and_eq_true] at h ⊢; exact ⟨⟨ih1 fun i hi => (h i hi).1.1, ih2 fun i hi => (h i hi).1.2⟩, ih3 fun i hi => (h i hi).2⟩
  | sub _ _ _ ih1 ih2 ih3 => simp only [X.avoid, Bool.and_eq_true] at h ⊢; exact ⟨⟨ih1 fun i hi => (h i hi).1.1, ih2 fun i hi => (h i hi).1.2⟩, ih3 fun i hi => (h i hi).2⟩
  | rsub _ _ _ _ ih1 ih2 ih3 => simp only [X.avoid, Bool.and_eq_true] at h ⊢; exact ⟨⟨ih1 fun i hi => (h i hi).1.1, ih2 fun i hi => (h i hi).1.2⟩, ih3 fun i hi => (h i hi).2⟩
  | _ => rename_i ih1 ih2; simp only [X.avoid, Bool.and_eq_true] at h ⊢; exact ⟨ih1 fun i hi => (h i hi).1, ih2 fun i hi => (h i hi).2⟩
theorem S.avoid_all {s : S} {l : List Nat} (h : ∀ i ∈ l, s.avoid [i] = true) : s.avoid l = true := by
  cases s <;> first | exact X.avoid_all h | rfl
/-! ### What is ours, what no more -/
theorem Rel.perm (hr : Rel w0 st env η m a w) {own : List (Nat × TypeId × Nat)} (h : st.own.Perm own) : Rel w0 { st with own := own } env η m a w := by
  refine ⟨hr.hn, hr.hs, hr.ht, hr.hd, hr.he, hr.hnd, hr.hb, hr.hge, hr.hB, hr.hm, hr.hm0, fun i x hi => ⟨(hr.hg i x hi).1, fun h1 h2 => (hr.hg i x hi).2 h1 fun h3 => h2 (((h.map _).mem_iff).1 h3)⟩, fun o ho => hr.ho o (h.mem_iff.2 ho), ?_, fun o ho => hr.hom o (h.mem_iff.2 ho), hr.hk⟩
  exact (h.pairwise_iff (fun {x y} h1 g hy hx => h1 g hx hy)).1 hr.hod
/-- One of ours is nobody's. -/
theorem Rel.frz1 (hr : Rel w0 st env η m a w) {o : Nat × TypeId × Nat} {rest : List (Nat × TypeId × Nat)} (h : st.own = o :: rest) :
    ∃ m' : Addr → Option Value, (∀ ad v, m ad = some v → m' ad = some v) ∧ Rel w0 { st with own := rest } env η m' a w := by
  obtain ⟨x, hx, hleaf | ⟨z, els, q1, q2, q3, q4, q5⟩⟩ := hr.ho o (by rw [h]; exact List.mem_cons_self)
  · have hod := hr.hod
    rw [h, List.pairwise_cons] at hod
    refine ⟨m, fun _ _ h => h, hr.hn, hr.hs, hr.ht, hr.hd, hr.he, hr.hnd, hr.hb, hr.hge, hr.hB, hr.hm, hr.hm0, fun i y hi => ⟨(hr.hg i y hi).1, fun h1 h2 => ?_⟩, fun p hp => hr.ho p (by rw [h]; exact List.mem_cons_of_mem _ hp), hod.2, fun p hp => hr.hom p (by rw [h]; exact List.mem_cons_of_mem _ hp), hr.hk⟩
    by_cases hio : i = o.1
    · subst hio
      rw [hx] at hi
      injection hi with hi
      subst hi
      exact ⟨by rw [hleaf]; exact .leaf _, (hr.hg _ _ hx).1.1⟩
    · refine (hr.hg i y hi).2 h1 ?_
      rw [h]
      simp only [List.map_cons, List.mem_cons, not_or]
      exact ⟨hio, h2⟩
  have hb := own_blk hx
  rw [ownB_of q1] at hb
  have hom := hr.hom o (by rw [h]; exact List.mem_cons_self)
  have hod := hr.hod
  rw [h, List.pairwise_cons] at hod
  let m' : Addr → Option Value := fun ad => if blkOf env o = some ad.block then (if ad.spot.isSome then none else (flat els)[ad.off]?) else m ad
  have hsub : ∀ ad v, m ad = some v → m' ad = some v := by
    intro ad v hv
    show (if _ then _ else _) = _
    rw [if_neg fun e => (hom _ e).2 ad v hv rfl]; exact hv
  have hcell : ∀ g, blkOf env o = some g → ∀ j u, (flat els)[j]? = some u → w.cell? ⟨g, j, none⟩ = some u := by
    intro g hg j u hu
    have := q5.cells (by rw [← hb]; exact hg) j u hu
    rwa [show (⟨g, 0, none⟩ : Addr).add j = ⟨g, j, none⟩ by rw [add_mk, Nat.zero_add]] at this
  have hgood : Good m' x := by
    refine ⟨?_, (hr.hg _ _ hx).1.1⟩
    rw [q1]
    rcases q5.2 with ⟨e1, e2⟩ | ⟨g, cap, cur, e1, e2, e3, e4, e5, e6, e7⟩
    · obtain rfl := List.eq_nil_of_length_eq_zero e2
      rw [e1]; exact .nil z
    · have hg : blkOf env o = some g := by rw [hb, e1]; rfl
      rw [e1]
      have hz : ∀ (i : Nat) (row : List Atom), els[i]? = some row → row.length = z := by
        intro i row hi
        rw [q2 (by intro e; rw [e] at hi; simp at hi)]
        exact q3 row (List.mem_of_getElem? hi)
      refine .rows ⟨g, 0, none⟩ cap z els hz ?_ ?_ ?_ e4
      · intro i j row y hi hj
        rw [add_mk, Nat.zero_add]
        show (if _ then _ else _) = _
        rw [if_pos hg]
        exact flat_get (fun r hr' => by obtain ⟨k, hk⟩ := List.getElem?_of_mem hr'; exact hz k r hk) hi hj
      · intro i j row y hi hj
        exact (q4 row (List.mem_of_getElem? hi) y (List.mem_of_getElem? hj)).2
      · intro i j row y d hi hj
        exact (q4 row (List.mem_of_getElem? hi) _ (List.mem_of_getElem? hj)).1.mono hsub
  refine ⟨m', hsub, hr.hn, hr.hs, hr.ht, hr.hd, hr.he, hr.hnd, hr.hb, hr.hge, hr.hB, ?_, ?_, ?_, ?_, hod.2, ?_, hr.hk⟩
  · intro ad v hv
    change (if _ then _ else _) = _ at hv
    split at hv
    · rename_i hg
      split at hv
      · cases hv
      · rename_i hsp
        refine ⟨?_, (hom _ hg).1⟩
        have := hcell _ hg _ _ hv
        obtain ⟨b, off, sp⟩ := ad
        cases sp with
        | none => exact this
        | some _ => simp at hsp
    · exact hr.hm ad v hv
  · intro ad v hv hlt
    change (if _ then _ else _) = _ at hv
    split at hv
    · rename_i hg
      have := (q5.lt _ (by rw [← hb]; exact hg)).1
      omega
    · exact hr.hm0 ad v hv hlt
  · intro i y hi
    refine ⟨(hr.hg i y hi).1.mono hsub, fun h1 h2 => ?_⟩
    by_cases hio : i = o.1
    · subst hio
      rw [hx] at hi
      injection hi with hi
      subst hi
      exact hgood
    · refine ((hr.hg i y hi).2 h1 ?_).mono hsub
      rw [h]
      simp only [List.map_cons, List.mem_cons, not_or]
      exact ⟨hio, h2⟩
  · intro p hp
    obtain ⟨y, hy, hO⟩ := hr.ho p (by rw [h]; exact List.mem_cons_of_mem _ hp)
    exact ⟨y, hy, hO.mono hsub⟩
  · intro p hp g hg
    obtain ⟨h1, h2⟩ := hr.hom p (by rw [h]; exact List.mem_cons_of_mem _ hp) g hg
    refine ⟨h1, fun ad v hv => ?_⟩
    change (if _ then _ else _) = _ at hv
    split at hv
    · rename_i hg'
      intro e
      exact hod.1 p hp _ hg' (by rw [hg, e])
    · exact h2 ad v hv
theorem Rel.frz (hr : Rel w0 st env η m a w) {own' : List (Nat × TypeId × Nat)} : ∀ {dr : List (Nat × TypeId × Nat)}, st.own.Perm (dr ++ own') →
    ∃ m' : Addr → Option Value, (∀ ad v, m ad = some v → m' ad = some v) ∧ Rel w0 { st with own := own' } env η m' a w := by
  intro dr
  induction dr generalizing st m with
  | nil => intro h; exact ⟨m, fun _ _ h => h, hr.perm h⟩
  | cons o dr ih =>
    intro h
    obtain ⟨m1, h1, hr1⟩ := (hr.perm h).frz1 (o := o) (rest := dr ++ own') rfl
    obtain ⟨m2, h2, hr2⟩ := ih hr1 (List.Perm.refl _)
    exact ⟨m2, fun ad v hv => h2 _ _ (h1 _ _ hv), hr2⟩
theorem useS_own {st1 : St} {ls : List S} (h : useS st ls = some st1) : st1 = { st with own := st.own.filter (fun o => ls.all (S.avoid [o.1])) } ∧ ls.all (S.avoid st.dead) = true := by
  unfold useS at h
  split at h
  · rename_i hd
    injection h with h
    exact ⟨h.symm, hd⟩
  · cases h
theorem Rel.use (hr : Rel w0 st env η m a w) {st1 : St} {ls : List S} (h : useS st ls = some st1) :
    ∃ m' : Addr → Option Value, (∀ ad v, m ad = some v → m' ad = some v) ∧ Rel w0 st1 env η m' a w ∧ ∀ s ∈ ls, s.pureB = true → Good m' (s.atom env) := by
  obtain ⟨rfl, hd⟩ := useS_own h
  have hp := (List.filter_append_perm (fun o : Nat × TypeId × Nat => ls.all (S.avoid [o.1])) st.own).symm.trans List.perm_append_comm
  obtain ⟨m', h1, h2⟩ := hr.frz hp
  refine ⟨m', h1, h2, fun s hs hpu => S.atom_good h2.hg hpu (List.all_eq_true.1 hd s hs) (S.avoid_all fun i hi => ?_)⟩
  obtain ⟨o, ho, rfl⟩ := List.mem_map.1 hi
  have := (List.mem_filter.1 ho).2
  exact List.all_eq_true.1 this s hs
/-- A slice of ours, or nil, is taken. -/
theorem Rel.tok (hr : Rel w0 st env η m a w) {st2 : St} {e : TypeId} {z : Nat} {s : X} (h : ownTok st e z s = some st2) :
    Rel w0 st2 env η m a w ∧ OwnAt m w w0.w.heap.size (s.den env) e z ∧ ∀ g, ownB (s.den env) = some g → (w0.w.heap.size ≤ g ∧ g ∉ η ∧ (∀ ad v, m ad = some v → ad.block ≠ g) ∧ ∀ o ∈ st2.own, blkOf env o ≠ some g) ∧ ∃ ob, w.heap[g]? = some ob ∧ bookB ob = false := by
  unfold ownTok at h
  split at h
  · rename_i i
    split at h
    · rename_i hc
      injection h with h
      subst h
      have hmem : (i, e, z) ∈ st.own := by simpa using hc
      have hp := List.perm_cons_erase hmem
      have hr' := hr.perm hp
      have hod := hr'.hod
      simp only [List.pairwise_cons] at hod
      refine ⟨⟨hr.hn, hr.hs, hr.ht, hr.hd, hr.he, hr.hnd, hr.hb, hr.hge, hr.hB, hr.hm, hr.hm0, fun j x hj => ⟨(hr.hg j x hj).1, fun h1 h2 => (hr.hg j x hj).2 (fun h3 => h1 (List.mem_cons_of_mem _ h3)) fun h3 => ?_⟩, fun o ho => hr.ho o (List.mem_of_mem_erase ho), hod.2, fun o ho => hr.hom o (List.mem_of_mem_erase ho), hr.hk⟩, hr.own hmem, fun g hg => ?_⟩
      · have := ((hp.map (·.1)).mem_iff).1 h3
        simp only [List.map_cons, List.mem_cons] at this
        rcases this with e | e
        · exact h1 (e ▸ List.mem_cons_self)
        · exact h2 e
      · have hb : blkOf env (i, e, z) = some g := hg
        obtain ⟨q1, q2⟩ := hr.hom _ hmem g hb
        obtain ⟨x, hx, h5⟩ := hr.ho _ hmem
        have hbx := hb
        rw [own_blk hx] at hbx
        refine ⟨⟨(h5.lt g hbx).1, q1, q2, fun o ho => hod.1 o ho g hb⟩, ?_⟩
        rcases h5 with h5 | ⟨z1, els, r1, _, _, _, r5⟩
        · rw [ownB_leaf h5] at hbx; cases hbx
        · rw [ownB_of r1] at hbx
          rcases r5.2 with ⟨e1, _⟩ | ⟨g', cap, cur, e1, _, e3, _⟩
          · rw [e1] at hbx; cases hbx
          · rw [e1] at hbx
            injection hbx with hbx
            subst hbx
            exact cells_notBook e3
    · cases h
  · rename_i z'
    injection h with h
    subst h
    refine ⟨hr, .inr ⟨z', [], rfl, fun h => absurd rfl h, by simp, by simp, ownsX_nil w _ e z⟩, fun g hg => ?_⟩
    simp [X.den, ownB, Value.ownBlock] at hg
  · cases h
/-- A new atom that is ours. -/
theorem Rel.grow (hr : Rel w0 st env η m a w) (hb : st.bnd = true) {w' : World} {row : Option Nat} {x : Atom} {e : TypeId} {sz : Nat} (hg : w.grownBy w' row)
    (hrow : ∀ g, row = some g → w0.w.heap.size ≤ g ∧ g ∉ η ∧ (∀ ad v, m ad = some v → ad.block ≠ g) ∧ ∀ o ∈ st.own, blkOf env o ≠ some g)
    (hnb : ∀ g, row = some g → ∃ ob, w.heap[g]? = some ob ∧ bookB ob = false)
    (hx : OwnAs m w' w0.w.heap.size x e sz) (hxb : ∀ g, x.1.ownBlock = some g → row = some g ∨ w.heap.size ≤ g) (hx1 : x.1.oneCell' = true) :
    Rel w0 (ownRes st 1 [(0, e, sz)]) (env ++ [x]) η m a w' := by
  simp only [St.bnd, Bool.and_eq_true] at hb
  obtain ⟨⟨⟨⟨h1, h2⟩, h3⟩, h4⟩, h5⟩ := hb
  rw [← hr.hn] at h1 h2 h3 h4 h5
  have hlt : ∀ o ∈ st.own, o.1 < env.length := fun o ho => by simpa using List.all_eq_true.1 h4 o ho
  have hnew : blkOf (env ++ [x]) (env.length, e, sz) = x.1.ownBlock := by
    obtain ⟨z, els, q1, _⟩ := hx
    rw [← ownB_of q1]
    simp [blkOf, List.getD_eq_getElem?_getD]
  refine ⟨by simp [ownRes, hr.hn], hr.hs, ?_, (hr.hd.grow _).turn hg hnb, hr.he, hr.hnd, ?_, hr.hge, ?_, ?_, hr.hm0, ?_, ?_, ?_, ?_, ?_⟩
  · intro i v hv
    rcases hr.ht i v hv with h | h
    · exact .inl h
    · right; rw [SV.den_bnd (List.all_eq_true.1 h1 _ (List.mem_of_getElem? hv))]; exact h
  · intro i bl hbl
    have h4 := hr.hb i bl hbl
    rw [Blk.obj_bnd (List.all_eq_true.1 h2 bl (List.mem_of_getElem? hbl)), hg.block _ (Array.getElem?_eq_some_iff.1 h4).1]
    · exact h4
    · intro e
      have hi : i < η.length := by rw [hr.he]; exact (List.getElem?_eq_some_iff.1 hbl).1
      refine (hrow _ e.symm).2.1 ?_
      rw [List.getD_eq_getElem?_getD, List.getElem?_eq_getElem hi]; exact List.getElem_mem hi
  · exact hr.hB.trans ⟨hg.os, hg.tape, hg.output, hg.size, fun k hk => hg.block k (Nat.lt_of_lt_of_le hk hr.hB.size) (fun e => by have := (hrow _ e.symm).1; omega)⟩
  · intro ad v had
    obtain ⟨q1, q2⟩ := hr.hm ad v had
    refine ⟨?_, q2⟩
    rw [World.cell?_of_block (w := w) (hg.block _ (cell_lt q1) (fun e => (hrow _ e.symm).2.2.1 ad v had rfl))]
    exact q1
  · intro i y hi
    rw [List.getElem?_append] at hi
    split at hi
    · rename_i hil
      refine ⟨(hr.hg i y hi).1, fun q1 q2 => (hr.hg i y hi).2 q1 fun q3 => q2 ?_⟩
      simp only [ownRes, List.map_append, List.mem_append]
      exact .inl q3
    · rename_i hil
      have hi0 : i = env.length ∧ y = x := by
        cases hq : i - env.length with
        | zero => rw [hq] at hi; simp at hi; exact ⟨by omega, hi.symm⟩
        | succ n => rw [hq] at hi; simp at hi
      obtain ⟨rfl, rfl⟩ := hi0
      refine ⟨⟨hx1, ?_⟩, fun _ q2 => absurd ?_ q2⟩
      · obtain ⟨z, els, q1, q2, q3, q4, q5⟩ := hx
        rw [q1]; exact q4
      · simp [ownRes, hr.hn]
  · intro o ho
    simp only [ownRes, List.map_cons, List.map_nil, List.mem_append, List.mem_singleton] at ho
    rcases ho with ho | rfl
    · obtain ⟨y, hy, hO⟩ := hr.ho o ho
      refine ⟨y, by rw [List.getElem?_append_left (hlt o ho)]; exact hy, hO.kept hg ?_⟩
      cases row with
      | none => cases ownB y <;> simp
      | some g =>
        right
        intro e
        exact (hrow g rfl).2.2.2 o ho (by rw [own_blk hy]; exact e)
    · exact ⟨x, by simp [hr.hn], .inr hx⟩
  · simp only [ownRes, List.map_cons, List.map_nil]
    rw [List.pairwise_append]
    refine ⟨?_, by simp, ?_⟩
    · refine hr.hod.imp_of_mem fun {o o'} ho ho' h g hg => ?_
      rw [blkOf_app (hlt o ho)] at hg
      rw [blkOf_app (hlt o' ho')]
      exact h g hg
    · intro o ho o' ho' g hg
      simp only [List.mem_singleton] at ho'
      subst ho'
      rw [blkOf_app (hlt o ho)] at hg
      rw [← hr.hn, Nat.add_zero, hnew]
      intro e
      rcases hxb g e with h | h
      · exact (hrow g h).2.2.2 o ho hg
      · obtain ⟨y, hy, q5⟩ := hr.ho o ho
        have := (q5.lt g (by rw [← own_blk hy]; exact hg)).2
        omega
  · intro o ho g hg'
    simp only [ownRes, List.map_cons, List.map_nil, List.mem_append, List.mem_singleton] at ho
    rcases ho with ho | rfl
    · rw [blkOf_app (hlt o ho)] at hg'
      exact hr.hom o ho g hg'
    · rw [← hr.hn, Nat.add_zero, hnew] at hg'
      rcases hxb g hg' with h | h
      · exact ⟨(hrow g h).2.1, (hrow g h).2.2.1⟩
      · refine ⟨fun hin => ?_, fun ad v had e => ?_⟩
        · have := eta_lt hr hin; omega
        · have := cell_lt (hr.hm ad v had).1; omega
  · intro p hp
    rw [X.den_bnd (List.all_eq_true.1 h3 p hp)]
    exact hr.hk p hp
/-- New atoms, a new world behind a call that leaves what there is. -/
theorem Rel.call (hr : Rel w0 st env η m a w) (hb : st.bnd = true) {w' : World} (hB : Below w.heap.size w w') {ol : List (Nat × TypeId × Nat)} {outs : List Atom} (ho : OutsOk m w w' ol outs) :
    Rel w0 (ownRes st outs.length ol) (env ++ outs) η (ext m w w' (outBlks outs ol)) a w' := by
  simp only [St.bnd, Bool.and_eq_true] at hb
  obtain ⟨⟨⟨⟨h1, h2⟩, h3⟩, h4⟩, h5⟩ := hb
  rw [← hr.hn] at h1 h2 h3 h4 h5
  have hlt : ∀ o ∈ st.own, o.1 < env.length := fun o ho => by simpa using List.all_eq_true.1 h4 o ho
  have hsub : ∀ ad v, m ad = some v → ext m w w' (outBlks outs ol) ad = some v := by
    intro ad v h
    have := cell_lt (hr.hm ad v h).1
    unfold ext
    rw [if_neg (by omega)]; exact h
  have hnew : ∀ p, blkOf (env ++ outs) (st.n + p.1, p.2) = outBlk outs p := by
    intro p
    unfold blkOf outBlk
    rw [← hr.hn, List.getD_eq_getElem?_getD, List.getD_eq_getElem?_getD, List.getElem?_append_right (Nat.le_add_right _ _), Nat.add_sub_cancel_left]
  have hge : ∀ p ∈ ol, ∀ g, outBlk outs p = some g → w.heap.size ≤ g := by
    intro p hp g hg
    obtain ⟨x, hx, q5⟩ := ho.own p hp
    refine (q5.lt g ?_).1
    rw [← hg]; unfold outBlk; rw [getD_get hx]
  have hold : ∀ o ∈ st.own, ∀ g, blkOf env o = some g → g < w.heap.size := by
    intro o ho g hg
    obtain ⟨y, hy, q5⟩ := hr.ho o ho
    exact (q5.lt g (by rw [← own_blk hy]; exact hg)).2
  refine ⟨by simp [ownRes, hr.hn], hr.hs, ?_, (hr.hd.grow _).turnB (below_grown hB), hr.he, hr.hnd, ?_, hr.hge, hr.hB.trans (hB.mono hr.hB.size), ?_, ?_, ?_, ?_, ?_, ?_, ?_⟩
  · intro i v hv
    rcases hr.ht i v hv with h | h
    · exact .inl h
    · right; rw [SV.den_bnd (List.all_eq_true.1 h1 _ (List.mem_of_getElem? hv))]; exact h
  · intro i bl hbl
    have h4 := hr.hb i bl hbl
    rw [Blk.obj_bnd (List.all_eq_true.1 h2 bl (List.mem_of_getElem? hbl)), hB.block _ (Array.getElem?_eq_some_iff.1 h4).1]
    exact h4
  · intro ad v had
    unfold ext at had
    split at had
    · rename_i hge
      split at had
      · cases had
      · refine ⟨had, fun hin => ?_⟩
        have := eta_lt hr hin
        omega
    · obtain ⟨h4, h5⟩ := hr.hm ad v had
      exact ⟨by rw [hB.cell (cell_lt h4)]; exact h4, h5⟩
  · intro ad v had hlt
    unfold ext at had
    rw [if_neg (by have := hr.hB.size; omega)] at had
    exact hr.hm0 ad v had hlt
  · intro i x hx
    rw [List.getElem?_append] at hx
    split at hx
    · rename_i hil
      refine ⟨(hr.hg i x hx).1.mono hsub, fun q1 q2 => ((hr.hg i x hx).2 q1 fun q3 => q2 ?_).mono hsub⟩
      simp only [ownRes, List.map_append, List.mem_append]
      exact .inl q3
    · rename_i hil
      refine ⟨(ho.good _ x hx).1, fun _ q2 => (ho.good _ x hx).2 fun q3 => q2 ?_⟩
      simp only [ownRes, List.map_append, List.mem_append, List.map_map]
      right
      obtain ⟨p, hp, hp1⟩ := List.mem_map.1 q3
      exact List.mem_map.2 ⟨p, hp, by simp only [Function.comp]; rw [hp1, ← hr.hn]; omega⟩
  · intro o ho'
    simp only [ownRes, List.mem_append] at ho'
    rcases ho' with ho' | ho'
    · obtain ⟨y, hy, hO⟩ := hr.ho o ho'
      exact ⟨y, by rw [List.getElem?_append_left (hlt o ho')]; exact hy, (hO.kept (below_grown hB) (by cases ownB y <;> simp)).mono hsub⟩
    · obtain ⟨p, hp, rfl⟩ := List.mem_map.1 ho'
      obtain ⟨x, hx, hO⟩ := ho.own p hp
      refine ⟨x, by rw [← hr.hn, List.getElem?_append_right (Nat.le_add_right _ _), Nat.add_sub_cancel_left]; exact hx, ?_⟩
      rcases hO with hO | ⟨z, els, q1, q2, q3, q4, q5⟩
      · exact .inl hO
      refine .inr ⟨z, els, q1, q2, q3, q4, ?_⟩
      refine ⟨q5.1, ?_⟩
      rcases q5.2 with e | ⟨g, cap, cur, e1, e2, e3⟩
      · exact .inl e
      · exact .inr ⟨g, cap, cur, e1, Nat.le_trans hr.hB.size e2, e3⟩
  · simp only [ownRes]
    rw [List.pairwise_append]
    refine ⟨?_, ?_, ?_⟩
    · refine hr.hod.imp_of_mem fun {o o'} ho ho' h g hg => ?_
      rw [blkOf_app (hlt o ho)] at hg
      rw [blkOf_app (hlt o' ho')]
      exact h g hg
    · rw [List.pairwise_map]
      refine ho.apart.imp fun {p q} h g hg => ?_
      rw [hnew] at hg ⊢
      exact h g hg
    · intro o ho1 o' ho2 g hg
      obtain ⟨p, hp, rfl⟩ := List.mem_map.1 ho2
      rw [blkOf_app (hlt o ho1)] at hg
      rw [hnew]
      intro e
      have := hold o ho1 g hg
      have := hge p hp g e
      omega
  · intro o ho' g hg
    simp only [ownRes, List.mem_append] at ho'
    rcases ho' with ho' | ho'
    · rw [blkOf_app (hlt o ho')] at hg
      obtain ⟨q1, q2⟩ := hr.hom o ho' g hg
      refine ⟨q1, fun ad v had e => ?_⟩
      have := hold o ho' g hg
      unfold ext at had
      rw [if_neg (by omega)] at had
      exact q2 ad v had e
    · obtain ⟨p, hp, rfl⟩ := List.mem_map.1 ho'
      rw [hnew] at hg
      have hg1 := hge p hp g hg
      refine ⟨fun hin => by have := eta_lt hr hin; omega, fun ad v had e => ?_⟩
      unfold ext at had
      rw [if_pos (by omega), if_pos (by rw [e]; exact List.mem_filterMap.2 ⟨p, hp, hg⟩)] at had
      cases had
  · intro p hp
    rw [X.den_bnd (List.all_eq_true.1 h3 p hp)]
    exact hr.hk p hp
theorem flat_chunk {sz len : Nat} {l : List S} (hl : l.length = len * sz) : flat ((chunkS sz len l).map (List.map (S.atom env))) = (l.map (S.atom env)).map (·.1) := by
  have key : ∀ (k : Nat) (l : List S), l.length = k * sz → flat (((List.range k).map fun i => (l.drop (i * sz)).take sz).map (List.map (S.atom env))) = (l.map (S.atom env)).map (·.1) := by
    intro k
    induction k with
    | zero => intro l hl; obtain rfl := List.eq_nil_of_length_eq_zero (by simpa using hl); simp [flat]
    | succ k ih =>
      intro l hl
      rw [List.range_succ_eq_map]
      have h1 := ih (l.drop sz) (by simp [hl, Nat.succ_mul])
      simp only [List.map_cons, List.map_map, Nat.zero_mul, List.drop_zero] at h1 ⊢
      simp only [flat, List.map_cons, List.flatten_cons, List.map_map] at h1 ⊢
      have h2 : ((fun i => (l.drop (i * sz)).take sz) ∘ Nat.succ) = fun i => ((l.drop sz).drop (i * sz)).take sz := by
        funext i
        simp [List.drop_drop, Nat.succ_mul, Nat.add_comm]
      have h3 : (List.map (List.map (fun x : Atom => x.1) ∘ List.map (S.atom env) ∘ (fun i => (l.drop (i * sz)).take sz) ∘ Nat.succ) (List.range k)).flatten = ((l.drop sz).map ((fun x : Atom => x.1) ∘ S.atom env)) := by
        rw [h2]; exact h1
      rw [h3]
      conv => rhs; rw [← List.take_append_drop sz l]
      simp [List.map_take, List.map_drop]
  exact key len l hl
theorem Rel.newRow (hr : Rel w0 st env η m a w) (hb : st.bnd = true) {l : List S} {sz len : Nat} (hl : l.length = len * sz) (hsz : len ≤ maxLen) (hp : l.all S.pureB = true) (hgd : ∀ s ∈ l, Good m (s.atom env)) (e : TypeId) :
    Rel w0 (ownRes st 1 [(0, e, sz)]) (env ++ [(.slice (some ⟨w.heap.size, 0, none⟩) len len, .rows sz ((chunkS sz len l).map (List.map (S.atom env))))]) η m a { w with heap := w.heap.push (.cells (l.map (S.den env η)).toArray e) } := by
  have hrow : ∀ row ∈ (chunkS sz len l).map (List.map (S.atom env)), ∃ i < len, row = ((l.drop (i * sz)).take sz).map (S.atom env) := by
    intro row h
    unfold chunkS at h
    rw [List.map_map] at h
    obtain ⟨i, hi, rfl⟩ := List.mem_map.1 h
    exact ⟨i, List.mem_range.1 hi, rfl⟩
  refine hr.grow hb (row := none) (below_grown (below_push w _)) (fun g hg => by cases hg) (fun g hg => by cases hg) ⟨sz, _, rfl, fun _ => rfl, ?_, ?_, ?_⟩ (fun g hg => .inr (by simp only [Value.ownBlock, Option.some.injEq] at hg; omega)) rfl
  · intro row h
    obtain ⟨i, h1, rfl⟩ := hrow row h
    have : (i + 1) * sz ≤ len * sz := Nat.mul_le_mul_right _ h1
    rw [Nat.succ_mul] at this
    simp only [List.length_map, List.length_take, List.length_drop, hl]
    omega
  · intro row h x hx
    obtain ⟨i, h1, rfl⟩ := hrow row h
    obtain ⟨s, hs, rfl⟩ := List.mem_map.1 hx
    exact hgd s (List.mem_of_mem_drop (List.mem_of_mem_take hs))
  · have hlen : ((chunkS sz len l).map (List.map (S.atom env))).length = len := by simp [chunkS]
    rw [hlen, flat_chunk hl]
    refine ⟨by simp [hl], .inr ⟨w.heap.size, len, (l.map (S.den env η)).toArray, rfl, hr.hB.size, okRow.old (by simp), Nat.le_refl _, hsz, by simp [hl], ?_⟩⟩
    rw [List.take_of_length_le (by simp [hl])]
    simp only [List.map_map]
    refine List.map_congr_left fun s hs => ?_
    exact (S.atom_val (List.all_eq_true.1 hp s hs)).symm
theorem flatArgs_sound : ∀ {sh : List (Option Nat)} {vs : List SV} {l : List S} (r : List Value), flatArgs sh vs = some l → mkVals sh (l.map (S.den env η) ++ r) = vs.map (SV.den env η)
  | [], [], l, r, h => rfl
  | none :: sh, v :: vs, l, r, h => by
    cases v with
    | tup _ => simp [flatArgs] at h
    | one t =>
      cases t with
      | agg _ => simp [flatArgs] at h
      | s x =>
        simp only [flatArgs] at h
        cases hf : flatArgs sh vs with
        | none => rw [hf] at h; cases h
        | some l' =>
          rw [hf] at h
          simp only [Option.map_some, Option.some.injEq] at h
          subst h
          simp only [List.map_cons, List.cons_append, mkVals, flatArgs_sound r hf]; rfl
  | some n :: sh, v :: vs, l, r, h => by
    cases v with
    | tup _ => simp [flatArgs] at h
    | one t =>
      cases t with
      | s _ => simp [flatArgs] at h
      | agg c =>
        simp only [flatArgs] at h
        split at h
        · rename_i hlen
          have hlen : c.length = n := by simpa using hlen
          cases hf : flatArgs sh vs with
          | none => rw [hf] at h; cases h
          | some l' =>
            rw [hf] at h
            simp only [Option.map_some, Option.some.injEq] at h
            subst h
            subst hlen
            simp only [List.map_append, mkVals, List.map_cons, List.append_assoc]
            rw [List.drop_left' (by simp), List.take_left' (by simp), flatArgs_sound r hf]; rfl
        · cases h
  | [], _ :: _, l, r, h => by simp [flatArgs] at h
  | none :: _, [], l, r, h => by simp [flatArgs] at h
  | some _ :: _, [], l, r, h => by simp [flatArgs] at h
theorem shapeS_sound : ∀ {sh : List (Option Nat)} {l : List S}, (shapeS sh l).map (TV.den env η) = mkVals sh (l.map (S.den env η))
  | [], _ => rfl
  | none :: sh, [] => rfl
  | none :: sh, x :: l => by simp only [shapeS, List.map_cons, mkVals, shapeS_sound]; rfl
  | some n :: sh, l => by
    simp only [shapeS, List.map_cons, mkVals, shapeS_sound, List.map_drop, TV.den, List.map_take]
theorem atomsFrom_den : ∀ {ks : List RK} {outs e : List Atom}, KindsOk ks outs → (atomsFrom e.length ks).map (S.den (e ++ outs) η) = outs.map (·.1)
  | [], [], _, _ => rfl
  | [], _ :: _, _, h => h.elim
  | _ :: _, [], _, h => h.elim
  | k :: ks, x :: outs, e, h => by
    simp only [atomsFrom, List.map_cons]
    have h1 : ((X.at e.length).den (e ++ x :: outs)) = x := by simp [X.den, List.getD_eq_getElem?_getD]
    have h2 := atomsFrom_den (e := e ++ [x]) h.2
    simp only [List.length_append, List.length_singleton, List.append_assoc, List.singleton_append] at h2
    rw [h2, RK.S_den (by rw [h1]; exact h.1), h1]
theorem resSV_sound {sg : Sig} {v : SV} {l : List S} (h : resSV sg l = some v) : v.den env η = mkRes sg.tup sg.rsh (l.map (S.den env η)) := by
  unfold resSV at h
  split at h
  · rename_i vs ht
    injection h with h
    subst h
    simp only [mkRes, ht, if_true, SV.den, shapeS_sound]
  · rename_i v' ht hv
    injection h with h
    subst h
    have := shapeS_sound (env := env) (η := η) (sh := sg.rsh) (l := l)
    rw [hv] at this
    simp only [mkRes, ht, ← this]
    rfl
  · cases h
theorem KindsOk.length : ∀ {ks : List RK} {outs : List Atom}, KindsOk ks outs → outs.length = ks.length
  | [], [], _ => rfl
  | [], _ :: _, h => h.elim
  | _ :: _, [], h => h.elim
  | _ :: _, _ :: _, h => by simp [KindsOk.length h.2]
theorem findSig_sound {f : FuncId} : ∀ {l : List Sig} {n i : Nat} {sg : Sig}, findSig f l n = some (i, sg) → ∃ j, i = n + j ∧ l[j]? = some sg ∧ sg.f = f
  | [], _, _, _, h => by simp [findSig] at h
  | s :: l, n, i, sg, h => by
    simp only [findSig] at h
    split at h
    · rename_i hf
      simp only [Option.some.injEq, Prod.mk.injEq] at h
      obtain ⟨rfl, rfl⟩ := h
      exact ⟨0, rfl, rfl, by simpa using hf⟩
    · obtain ⟨j, h1, h2, h3⟩ := findSig_sound h
      exact ⟨j + 1, by omega, h2, h3⟩
end
end Go.Proofs.YtamjocnlhhhijaaV

namespace Go.Proofs.YtamjocnlhhhijaaV
open Go Go.RowKit Go.Proofs.YtamjocnlhhhijaaW.PrintLast

section
variable {w0 : Base} {w : World} {st : St} {env : List Atom} {η : List Nat} {m : Addr → Option Value} {a : Act} {P : Program}
theorem good_leaf_of {m m' : Addr → Option Value} {x : Atom} {k : RK} (h : Good m x) (hk : k.ok x.1) (hl : plainK k = true) : Good m' x := by
  obtain ⟨v, d⟩ := x
  obtain ⟨h, h1⟩ := h
  refine ⟨?_, h1⟩
  cases h with
  | leaf => exact .leaf _
  | nil => cases k <;> simp [plainK] at hl <;> obtain ⟨_, hk⟩ := hk <;> cases hk
  | rows => cases k <;> simp [plainK] at hl <;> obtain ⟨_, hk⟩ := hk <;> cases hk
  | clo => cases k <;> simp [plainK] at hl <;> obtain ⟨_, hk⟩ := hk <;> cases hk
theorem kinds_get : ∀ {ks : List RK} {outs : List Atom}, KindsOk ks outs → ∀ {i : Nat} {x : Atom}, outs[i]? = some x → ∃ k, ks[i]? = some k ∧ k.ok x.1
  | [], [], _, i, x, h => by simp at h
  | [], _ :: _, h, _, _, _ => h.elim
  | _ :: _, [], h, _, _, _ => h.elim
  | k :: ks, y :: outs, h, 0, x, hx => by simp only [List.getElem?_cons_zero, Option.some.injEq] at hx; subst hx; exact ⟨k, rfl, h.1⟩
  | k :: ks, y :: outs, h, i + 1, x, hx => kinds_get h.2 (by simpa using hx)
theorem passS_own {st1 : St} {sg : Sig} {ls : List S} (h : passS st sg ls = some st1) : (∀ p ∈ st1.own, p ∈ st.own) ∧ st1.n = st.n ∧ st1.dead = st.dead := by
  unfold passS at h
  split at h
  · rename_i st2 huse
    injection h with h
    split at h
    · subst h; exact ⟨fun _ h => h, rfl, rfl⟩
    · subst h
      obtain ⟨rfl, _⟩ := useS_own huse
      exact ⟨fun p hp => (List.mem_filter.1 hp).1, rfl, rfl⟩
  · cases h
/-- What a call is handed. -/
theorem Rel.pass (hr : Rel w0 st env η m a w) {st1 : St} {sg : Sig} {ls : List S} (h : passS st sg ls = some st1) :
    ∃ m1 m2 : Addr → Option Value, Rel w0 st1 env η m2 a w ∧ (∀ ad v, m1 ad = some v → w.cell? ad = some v) ∧ (∀ s ∈ ls, s.pureB = true → Good m1 (s.atom env)) ∧
      ∀ w' outs, KindsOk sg.res outs → OutsOk m1 w w' sg.own outs → OutsOk m2 w w' sg.own outs := by
  unfold passS at h
  split at h
  · rename_i st2 huse
    injection h with h
    obtain ⟨m1, _, hr1, hg⟩ := hr.use huse
    split at h
    · rename_i hl
      subst h
      simp only [lend, Bool.and_eq_true, List.isEmpty_iff] at hl
      refine ⟨m1, m, hr, fun ad v hv => (hr1.hm ad v hv).1, hg, fun w' outs hk ho => ?_⟩
      refine ⟨fun i x hx => ?_, by rw [hl.1]; simp, by rw [hl.1]; exact List.Pairwise.nil⟩
      obtain ⟨k, hk1, hk2⟩ := kinds_get hk hx
      have hg := (ho.good i x hx).2 (by rw [hl.1]; simp)
      have := good_leaf_of (m' := ext m w w' (outBlks outs sg.own)) hg hk2 (List.all_eq_true.1 hl.2 k (List.mem_of_getElem? hk1))
      exact ⟨this.elt, fun _ => this⟩
    · subst h
      exact ⟨m1, m1, hr1, fun ad v hv => (hr1.hm ad v hv).1, hg, fun _ _ _ h => h⟩
  · cases h
theorem flat_inv {sz : Nat} : ∀ {els : List (List Atom)}, (∀ row ∈ els, row.length = sz) → ∀ {k : Nat} {u : Value}, (flat els)[k]? = some u → ∃ i j row x, els[i]? = some row ∧ row[j]? = some x ∧ k = i * sz + j ∧ u = x.1
  | [], _, k, u, h => by simp [flat] at h
  | r :: els, hz, k, u, h => by
    have hr := hz r List.mem_cons_self
    simp only [flat, List.map_cons, List.flatten_cons] at h
    by_cases hk : k < sz
    · rw [List.getElem?_append_left (by simpa [hr] using hk), List.getElem?_map] at h
      cases hx : r[k]? with
      | none => rw [hx] at h; cases h
      | some x =>
        rw [hx] at h
        simp only [Option.map_some, Option.some.injEq] at h
        exact ⟨0, k, r, x, rfl, hx, by simp, h.symm⟩
    · rw [List.getElem?_append_right (by simp [hr]; omega)] at h
      obtain ⟨i, j, row, x, h1, h2, h3, h4⟩ := flat_inv (fun q hq => hz q (List.mem_cons_of_mem _ hq)) (els := els) (k := k - sz) (u := u) (by simpa [flat, hr] using h)
      exact ⟨i + 1, j, row, x, by simpa using h1, h2, by rw [Nat.succ_mul]; omega, h4⟩
theorem ownsRow_grown {base : Nat} {e : TypeId} {size n k cap : Nat} {xs news : List Value} {z : Value} (hzs : z.cells.size = size) (hx : xs.length = n * size) (hn : news.length = k * size) (hbase : base ≤ w.heap.size) (hcap : n + k ≤ cap) (hm : cap ≤ maxLen) :
    ownsX (w.drew.alloc (.cells (xs.toArray ++ news.toArray ++ Builtin.zeroCells z.cells (cap - (n + k))) e)) base e size (.slice (some ⟨w.heap.size, 0, none⟩) (n + k) cap) (n + k) (xs ++ news) ∧
    w.grownBy (w.drew.alloc (.cells (xs.toArray ++ news.toArray ++ Builtin.zeroCells z.cells (cap - (n + k))) e)) none := by
  have hlen : (xs ++ news).length = (n + k) * size := by rw [List.length_append, hx, hn, Nat.add_mul]
  refine ⟨⟨hlen, .inr ⟨w.heap.size, cap, _, rfl, hbase, okRow.old (heap_alloc_new w.drew _), hcap, hm, ?_, ?_⟩⟩, ⟨rfl, rfl, rfl, by simp, fun j hj _ => heap_alloc_old w.drew _ hj⟩⟩
  · simp only [Array.size_append, List.size_toArray, size_zeroCells, hzs, hx, hn, ← Nat.add_mul]
    congr 1
    omega
  · simp only [Array.toList_append, List.append_assoc]
    rw [← List.append_assoc, ← hlen]
    exact List.take_left
theorem ownsRow_room {base : Nat} {e : TypeId} {size n k cap g : Nat} {cur : Array Value} {xs news : List Value} (hg : okRow w g cur e) (hx : xs.length = n * size) (hn : news.length = k * size) (hbg : base ≤ g) (hroom : n + k ≤ cap) (hcm : cap ≤ maxLen) (hcs : cur.size = cap * size) (htake : cur.toList.take (n * size) = xs) :
    ownsX (w.setRow g (cur.toList.take (n * size) ++ news ++ cur.toList.drop (n * size + news.length)).toArray) base e size (.slice (some ⟨g, 0, none⟩) (n + k) cap) (n + k) (xs ++ news) ∧
    w.grownBy (w.setRow g (cur.toList.take (n * size) ++ news ++ cur.toList.drop (n * size + news.length)).toArray) (some g) := by
  have hlen : (xs ++ news).length = (n + k) * size := by rw [List.length_append, hx, hn, Nat.add_mul]
  have hfit : n * size + news.length ≤ cur.size := by rw [hn, hcs, ← Nat.add_mul]; exact Nat.mul_le_mul_right _ hroom
  refine ⟨⟨hlen, .inr ⟨g, cap, _, rfl, hbg, hg.set (by simp only [List.size_toArray, List.length_append, List.length_take, List.length_drop, Array.length_toList]; omega), hroom, hcm, ?_, ?_⟩⟩, ⟨rfl, rfl, rfl, by simp, fun j _ hj => setRow_other w g j _ (fun e => hj (by simp [e]))⟩⟩
  · simp only [List.size_toArray, List.length_append, List.length_take, List.length_drop, Array.length_toList]
    omega
  · rw [htake, ← hlen]
    exact List.take_left
/-- An append onto a slice of the call's own: what comes, and where it lies. -/
theorem run_own_append (base : Nat) (t ty e : TypeId) (i : TypeInfo) (z : Value) (ht : P.underlying t = some (.slice e)) (hi : P.info? e = some i) (hz : i.zero = some z) (hzs : z.cells.size = i.size) (_hsz : 0 < i.size) (hby0 : 0 < i.bytes)
    (v : Value) (n : Nat) (xs : List Value) (hown : ownsX w base e i.size v n xs) (ad : Option Addr) (k c : Nat) (news : List Value) (hnil : ad = none → k = 0 ∧ c = 0) (hl : news.length = k * i.size)
    (hnews : ∀ p, ad = some p → ∀ j u, news[j]? = some u → w.cell? (p.add j) = some u) (h1 : ∀ u ∈ news, u.oneCell' = true) (hbytes : (n + k) * i.bytes ≤ 140737488355328) (hbase : base ≤ w.heap.size) :
    ∃ b cap w' row, (Builtin.append_ #[t, t] ty #[v, .slice ad k c]).run P w = .ok (.slice b (n + k) cap) w' ∧ ownsX w' base e i.size (.slice b (n + k) cap) (n + k) (xs ++ news) ∧ w.grownBy w' row ∧ (∀ g, row = some g → v.ownBlock = some g) ∧
      ∀ g, (Value.slice b (n + k) cap).ownBlock = some g → row = some g ∨ w.heap.size ≤ g := by
  have hnm : n + k ≤ 140737488355328 := Nat.le_trans (Nat.le_mul_of_pos_right _ hby0) hbytes
  have hmx : n + k ≤ maxLen := by simp only [maxLen]; omega
  cases ad with
  | none =>
    obtain ⟨rfl, rfl⟩ := hnil rfl
    obtain rfl := List.eq_nil_of_length_eq_zero (show news.length = 0 by simpa using hl)
    have hr := run_append_owned_noneX (P := P) (w := w) base t ty e i i.size ht hi v n xs hown
    have hv : ∃ b cap, v = .slice b n cap := by
      rcases hown.2 with ⟨rfl, rfl⟩ | ⟨g, cap, cur, rfl, _⟩
      · exact ⟨none, 0, rfl⟩
      · exact ⟨_, cap, rfl⟩
    obtain ⟨b, cap, rfl⟩ := hv
    exact ⟨b, cap, w, (Value.slice b n cap).ownBlock, by simpa using hr, by simpa using hown, ⟨rfl, rfl, rfl, Nat.le_refl _, fun _ _ _ => rfl⟩, (fun g h => h), fun g hg => .inl (by simpa [Value.ownBlock] using hg)⟩
  | some p =>
    have hnews := hnews p rfl
    rcases hown.2 with ⟨rfl, rfl⟩ | ⟨g, cap, cur, rfl, hbg, hg, hnc, hcm, hcs, htake⟩
    · have hx : xs = [] := List.eq_nil_of_length_eq_zero (by simpa using hown.1)
      subst hx
      by_cases hk : k = 0
      · subst hk
        obtain rfl := List.eq_nil_of_length_eq_zero (show news.length = 0 by simpa using hl)
        refine ⟨none, 0, w, none, ?_, by simpa using ownsX_nil w base e i.size, ⟨rfl, rfl, rfl, Nat.le_refl _, fun _ _ _ => rfl⟩, (fun g h => by cases h), fun g hg => by simp [Value.ownBlock] at hg⟩
        simp [Builtin.append_, run_underlying ht, sizeOf, typeInfo, hi, Builtin.lenOf, Builtin.firstCells, loadCells, loadCellsFrom]
      · have hr := run_append_nil (P := P) w t ty e i z ht hi hz p k c news hl hnews (by omega) (by omega) (by have hb := hbytes; simp only [Nat.zero_add] at hb; omega)
        have hgr := ownsRow_grown (w := w) (base := base) (e := e) (n := 0) (k := k) (xs := []) (news := news) (cap := grownCap w k 0 e) hzs (by simp) hl hbase (by simpa using grownCap_ge w k 0 e) (grownCap_le_maxLen w k 0 e (by simpa using hmx))
        simp only [Nat.zero_add, List.nil_append, Array.empty_append] at hgr ⊢
        exact ⟨_, _, _, none, hr, hgr.1, hgr.2, (fun g h => by cases h), fun g hg => by simp only [Value.ownBlock, Option.some.injEq] at hg; exact .inr (by omega)⟩
    · by_cases hroom : n + k ≤ cap
      · have hfit : n * i.size + news.length ≤ cur.size := by rw [hl, hcs, ← Nat.add_mul]; exact Nat.mul_le_mul_right _ hroom
        have hr := run_append_roomX (P := P) (w := w) t ty e i ht hi g n cap cur hg p k c news hl hnews h1 hroom hfit
        have ho := ownsRow_room (base := base) hg hown.1 hl hbg hroom hcm hcs htake
        exact ⟨_, _, _, some g, hr, ho.1, ho.2, fun q h => by simpa [Value.ownBlock] using h, fun q h => .inl (by simpa [Value.ownBlock] using h)⟩
      · have holds : ∀ j u, xs[j]? = some u → w.cell? ((⟨g, 0, none⟩ : Addr).add j) = some u := hown.cells (g := g) rfl
        have hr := run_append_grow (P := P) w t ty e i z ht hi hz ⟨g, 0, none⟩ n cap xs hown.1 holds p k c news hl hnews (by omega) (by omega) (growslice_fits (by omega) hbytes)
        have hgr := ownsRow_grown (w := w) (base := base) (e := e) (n := n) (k := k) (xs := xs) (news := news) (cap := grownCap w (n + k) cap e) hzs hown.1 hl hbase (grownCap_ge w (n + k) cap e) (grownCap_le_maxLen w (n + k) cap e hmx)
        exact ⟨_, _, _, none, hr, hgr.1, hgr.2, (fun g h => by cases h), fun q h => by simp only [Value.ownBlock, Option.some.injEq] at h; exact .inr (by omega)⟩
/-- .. of a string's bytes. -/
theorem run_own_apps (base : Nat) (t u ty e : TypeId) (i : TypeInfo) (ht : P.underlying t = some (.slice e)) (hu : P.underlying u = some .string) (hi : P.info? e = some i) (hz : i.zero = some (.int .u8 0)) (hsize : i.size = 1) (hby : i.bytes = 1)
    (v : Value) (n : Nat) (xs : List Value) (hown : ownsX w base e 1 v n xs) (s : ByteArray) (hbytes : n + s.size ≤ 140737488355328) (hbase : base ≤ w.heap.size) :
    ∃ b cap w' row, (Builtin.append_ #[t, u] ty #[v, .string s]).run P w = .ok (.slice b (n + s.size) cap) w' ∧ ownsX w' base e 1 (.slice b (n + s.size) cap) (n + s.size) (xs ++ Go.Lib.strCells s) ∧ w.grownBy w' row ∧ (∀ g, row = some g → v.ownBlock = some g) ∧
      ∀ g, (Value.slice b (n + s.size) cap).ownBlock = some g → row = some g ∨ w.heap.size ≤ g := by
  have hmx : n + s.size ≤ maxLen := by simp only [maxLen]; omega
  have hzs : (Value.int .u8 0).cells.size = 1 := rfl
  have hl : (Go.Lib.strCells s).length = s.size * 1 := by rw [Go.Lib.strCells_length]; omega
  rcases hown.2 with ⟨rfl, rfl⟩ | ⟨g, cap, cur, rfl, hbg, hg, hnc, hcm, hcs, htake⟩
  · have hx : xs = [] := List.eq_nil_of_length_eq_zero (by simpa using hown.1)
    subst hx
    by_cases hk : s.size = 0
    · refine ⟨none, 0, w, none, ?_, ?_, ⟨rfl, rfl, rfl, Nat.le_refl _, fun _ _ _ => rfl⟩, (fun g h => by cases h), fun g hg => by simp [Value.ownBlock] at hg⟩
      · have hf := Go.Lib.run_firstCells_string (P := P) w 1 s
        rw [hk] at hf
        simp [Builtin.append_, run_underlying ht, run_underlying hu, sizeOf, typeInfo, hi, hsize, Builtin.lenOf, hk, hf]
      · have : Go.Lib.strCells s = [] := List.eq_nil_of_length_eq_zero (by rw [Go.Lib.strCells_length]; exact hk)
        rw [this, hk]
        simpa using ownsX_nil w base e 1
    · have hr := run_append_nil_string (P := P) w t u ty e i (.int .u8 0) ht hu hi hz s (by omega) (by omega) (by rw [hby]; omega)
      have hgr := ownsRow_grown (w := w) (base := base) (e := e) (size := 1) (z := .int .u8 0) (n := 0) (k := s.size) (xs := []) (news := Go.Lib.strCells s) (cap := grownCap w s.size 0 e) hzs (by simp) hl hbase (by simpa using grownCap_ge w s.size 0 e) (grownCap_le_maxLen w s.size 0 e (by simpa using hmx))
      have hsc : (Go.Lib.strCells s).toArray = s.data.map (fun b => Value.int .u8 b.toNat) := by apply Array.ext'; simp [Go.Lib.strCells]
      simp only [Nat.zero_add, List.nil_append, Array.empty_append, hsc] at hgr ⊢
      exact ⟨_, _, _, none, hr, hgr.1, hgr.2, (fun g h => by cases h), fun g hg => by simp only [Value.ownBlock, Option.some.injEq] at hg; exact .inr (by omega)⟩
  · by_cases hroom : n + s.size ≤ cap
    · have hr := run_append_room_stringX (P := P) (w := w) t u ty e i ht hu hi hsize g n cap cur hg s hroom (by omega)
      have ho := ownsRow_room (base := base) (size := 1) (k := s.size) hg hown.1 hl hbg hroom hcm hcs htake
      simp only [Nat.mul_one, Go.Lib.strCells_length] at ho
      exact ⟨_, _, _, some g, hr, ho.1, ho.2, fun q h => by simpa [Value.ownBlock] using h, fun q h => .inl (by simpa [Value.ownBlock] using h)⟩
    · have holds : ∀ j u, xs[j]? = some u → w.cell? ((⟨g, 0, none⟩ : Addr).add j) = some u := hown.cells (g := g) rfl
      have hr := Go.Lib.run_append_grow_string (P := P) w t u ty e i (.int .u8 0) ht hu hi hz ⟨g, 0, none⟩ n cap xs (by rw [hsize]; exact hown.1) holds s (by omega) (by omega) (by rw [hby]; exact growslice_fits (by omega) (by omega))
      have hgr := ownsRow_grown (w := w) (base := base) (e := e) (size := 1) (z := .int .u8 0) (n := n) (k := s.size) (xs := xs) (news := Go.Lib.strCells s) (cap := grownCap w (n + s.size) cap e) hzs hown.1 hl hbase (grownCap_ge w (n + s.size) cap e) (grownCap_le_maxLen w (n + s.size) cap e hmx)
      exact ⟨_, _, _, none, hr, hgr.1, hgr.2, (fun g h => by cases h), fun q h => by simp only [Value.ownBlock, Option.some.injEq] at h; exact .inr (by omega)⟩
end
end Go.Proofs.YtamjocnlhhhijaaV

namespace Go.Proofs.YtamjocnlhhhijaaV
open Go Go.RowKit Go.Proofs.YtamjocnlhhhijaaW.PrintLast

/-- What stands behind an operation, beside the new state. -/
structure Fwd (o : Oper) (al : Bool) (st st' : St) (env env' : List Atom) (η η' : List Nat) (w w' : World) : Prop where
  env : ∃ l, env' = env ++ l
  eta : ∃ l, η' = η ++ l
  below : al = false → isStore o.op = false → Below w.heap.size w w'
  own : al = false → isStore o.op = false → ∀ p ∈ st'.own, p.1 < st.n → p ∈ st.own
  dead : al = false → isStore o.op = false → st'.dead = st.dead
section
variable {w0 : Base} {w : World} {st : St} {env : List Atom} {η : List Nat} {m : Addr → Option Value} {a : Act} {P : Program}
theorem wp_value {o : Oper} {w w1 : World} {v : Value} {K : Act → World → Prop} {Q : Exit → Act → World → Prop} (h : (execOp a.eval o).run P w = .ok (.value v) w1) (hK : K (a.put o.dst v) w1) : o.wp P a w K Q := by
  unfold Oper.wp; rw [h]; exact hK
theorem wp_skip' {o : Oper} {w w1 : World} {K : Act → World → Prop} {Q : Exit → Act → World → Prop} (h : (execOp a.eval o).run P w = .ok .skip w1) (hK : K (a.put o.dst Go.undef) w1) : o.wp P a w K Q := by
  unfold Oper.wp; rw [h]; exact hK
theorem bytes_info {t : TypeId} {n : Nat} (h : bytesO P t = some n) : ∃ i, P.info? t = some i ∧ i.bytes = n := by
  unfold bytesO at h
  cases hi : P.info? t with
  | none => rw [hi] at h; cases h
  | some i => rw [hi] at h; simp only [Option.map_some, Option.some.injEq] at h; exact ⟨i, rfl, h⟩
theorem ownAt_vn {x : Atom} {base : Nat} {e : TypeId} {sz : Nat} (h : OwnAs m w base x e sz) : vn x.1 = x.2.els.length := by
  obtain ⟨z, els, q1, q2, q3, q4, q5⟩ := h
  rw [q1]
  rcases q5.2 with ⟨e1, e2⟩ | ⟨g, cap, cur, e1, _⟩
  · rw [e1]; exact e2.symm
  · rw [e1]; rfl
theorem ofB_length (s : ByteArray) : (ofB s).length = s.size := by unfold ofB; rw [List.length_map, Array.length_toList]; rfl
theorem flat_ofB (s : ByteArray) : flat (ofB s) = Go.Lib.strCells s := by
  unfold flat ofB Go.Lib.strCells
  induction s.data.toList with
  | nil => rfl
  | cons b l ih => simp only [List.map_cons, List.flatten_cons, ih]; rfl
theorem ofB_row {s : ByteArray} : ∀ row ∈ ofB s, row.length = 1 := by
  intro row h
  obtain ⟨b, _, rfl⟩ := List.mem_map.1 h
  rfl
theorem ofB_good {s : ByteArray} : ∀ row ∈ ofB s, ∀ x ∈ row, Good m x := by
  intro row h x hx
  obtain ⟨b, _, rfl⟩ := List.mem_map.1 h
  simp only [List.mem_singleton] at hx
  subst hx
  exact good_leaf m rfl
theorem ownRes_put {st : St} {k : Nat} {l : List (Nat × TypeId × Nat)} {p : Nat × TypeId × Nat} (h : p ∈ (ownRes st k l).own) (hp : p.1 < st.n) : p ∈ st.own := by
  simp only [ownRes, List.mem_append] at h
  rcases h with h | h
  · exact h
  · obtain ⟨q, _, rfl⟩ := List.mem_map.1 h
    simp only at hp
    omega
theorem put_own {st : St} {d : Option Tmp} {v : SV} : (st.put d v).own = st.own := by cases d <;> rfl
theorem put_dead {st : St} {d : Option Tmp} {v : SV} : (st.put d v).dead = st.dead := by cases d <;> rfl
theorem put_n {st : St} {d : Option Tmp} {v : SV} : (st.put d v).n = st.n := by cases d <;> rfl
theorem at_end {x : Atom} (hn : env.length = st.n) : SV.den (env ++ [x]) η (.one (.s (.slc (.at st.n)))) = x.1 := by
  simp [SV.den, TV.den, S.den, X.den, ← hn]
theorem seAppend_sound {cs : Nat → Sig × Con} {Post : List Atom → Prop} {L : List (List Atom → Prop)} (hr : Rel w0 st env η m a w) {o : Oper} {k : St → T} {c : Call} (ho : o.op = .call c) (hc : c.callee = .builtin .append) {vs : List SV} (hvs : allSome (c.args.toList.map st.ev) = some vs)
    (h : (seAppend P st o.dst c.argTypes.toList vs k).wp cs Post env L) {al : Bool} {K : Act → World → Prop} {Q : Exit → Act → World → Prop}
    (hK : ∀ st' env' η' m' a' w', Rel w0 st' env' η' m' a' w' → Fwd o al st st' env env' η η' w w' → (k st').wp cs Post env' L → K a' w') : o.wp P a w K Q := by
  have hcall := call_builtin (a := a) ho hc
  have hst : isStore o.op = true := by rw [ho]; simp [isStore, hc]
  have hargs : c.args.map a.eval = (vs.map (SV.den env η)).toArray := by
    apply Array.ext'
    rw [Array.toList_map, hr.evs hvs]
  unfold seAppend at h
  split at h
  case h_2 => exact h.elim
  rename_i t tx s x htys
  have htys : c.argTypes = #[t, tx] := by apply Array.ext'; simpa using htys
  have hargs : c.args.map a.eval = #[(s.den env).1, x.den env η] := by rw [hargs]; rfl
  split at h
  case h_2 => exact h.elim
  rename_i e hu
  split at h
  case h_2 => exact h.elim
  rename_i z by' zs hsz hby hz
  split at h
  case isFalse => exact h.elim
  rename_i hcond
  simp only [Bool.and_eq_true, decide_eq_true_eq, beq_iff_eq] at hcond
  obtain ⟨⟨c1, c2⟩, c3⟩ := hcond
  split at h
  case h_2 => exact h.elim
  rename_i st1 huse
  obtain ⟨m1, hm1, hr1, hgd⟩ := hr.use huse
  obtain ⟨i, hi, hisz⟩ := info_of_size hsz
  obtain ⟨i', hi', hib⟩ := bytes_info hby
  obtain rfl : i = i' := by rw [hi] at hi'; exact Option.some.inj hi'
  obtain ⟨i', zv, hi', hzv, hzc⟩ := zero_info (env := env) (η := η) hz
  obtain rfl : i = i' := by rw [hi] at hi'; exact Option.some.inj hi'
  have hzs : zv.cells.size = i.size := by rw [hzc]; simp [c3, hisz]
  split at h
  · -- a slice behind it
    rename_i st2 x' htok hargs0
    clear hargs0
    have hargs : c.args.map a.eval = #[(s.den env).1, _] := hargs
    split at h
    case isFalse => exact h.elim
    rename_i hcd
    obtain rfl : t = tx := by simpa using hcd
    obtain ⟨hr2, hown, hrow⟩ := hr1.tok htok
    obtain ⟨hds, st3, hsame, hkn, h⟩ := needs_sound hr2.hk h
    split at h
    case isFalse => exact h.elim
    rename_i hb3
    have hr3 := hr2.same hsame hkn
    have hown := hown.as (show Nd.ok env (.row s) from hds _ (by simp))
    have d1 : Nd.ok env (.kind .slc x') := hds _ (by simp)
    have d2 : Nd.ok env (.szz x' z) := hds _ (by simp)
    have d3 : Nd.ok env (.tru (.cmp .leq (.len s) (.int (70368744177664 / by')))) := hds _ (by simp)
    have d4 : Nd.ok env (.tru (.cmp .leq (.len x') (.int (70368744177664 / by')))) := hds _ (by simp)
    obtain ⟨ax, nx, cx, d1⟩ := d1
    obtain ⟨zx, ex, d2, d2z⟩ := d2
    simp only [Nd.ok, X.den, vi_int, cmpD, vb_bool] at d3 d4
    replace d3 := of_decide_eq_true d3
    replace d4 := of_decide_eq_true d4
    rw [ownAt_vn hown] at d3
    have hgx : Good m1 (x'.den env) := hgd (.slc x') (by simp) rfl
    have hrd := hgx.1
    rw [d1, d2] at hrd
    have hnx : nx = ex.length ∧ (ax = none → nx = 0 ∧ cx = 0) ∧ (∀ row ∈ ex, row.length = z) ∧ ∀ p, ax = some p → ∀ j u, (flat ex)[j]? = some u → w.cell? (p.add j) = some u := by
      cases hrd with
      | nil => exact ⟨rfl, (fun _ => ⟨rfl, rfl⟩), by simp, (fun p hp => by simp at hp)⟩
      | rows p c' sz' els' hz' hcell h1' hd' hcap =>
        have hz1 : ∀ row ∈ ex, row.length = zx := fun row hrow => by obtain ⟨k, hk⟩ := List.getElem?_of_mem hrow; exact hz' k row hk
        have hz2 : ∀ row ∈ ex, row.length = z := by
          rcases d2z with e | e
          · rw [e]; simp
          · rw [← e]; exact hz1
        refine ⟨rfl, (fun hp => by simp at hp), hz2, fun p' hp j u hu => ?_⟩
        obtain rfl := Option.some.inj hp
        obtain ⟨i1, j1, row, y, q1, q2, q3, q4⟩ := flat_inv hz1 hu
        rw [q3, q4]
        exact (hr1.hm _ _ (hcell _ _ _ _ q1 q2)).1
    obtain ⟨hn1, hnil, hrows, hcells⟩ := hnx
    obtain ⟨zz, els, q1, q2, q3, q4, q5⟩ := hown
    have helt := (hgx.elt).2
    rw [d2] at helt
    simp only [D.els] at helt
    rw [q1] at d3
    simp only [D.els] at d3
    rw [d1, vn_slice, hn1] at d4
    have hby0 : 0 < i.bytes := by rw [hib]; exact c2
    have hbound : (els.length + ex.length) * i.bytes ≤ 140737488355328 := by
      rw [hib]
      have e1 : els.length ≤ 70368744177664 / by' := by
        have : ((70368744177664 / by' : Int)) = ((70368744177664 / by' : Nat) : Int) := by simp
        omega
      have e2 : ex.length ≤ 70368744177664 / by' := by
        have : ((70368744177664 / by' : Int)) = ((70368744177664 / by' : Nat) : Int) := by simp
        omega
      have e3 : (els.length + ex.length) * by' ≤ (2 * (70368744177664 / by')) * by' := Nat.mul_le_mul_right _ (by omega)
      have e4 : 70368744177664 / by' * by' ≤ 70368744177664 := Nat.div_mul_le_self _ _
      have e5 : (2 * (70368744177664 / by')) * by' = 2 * (70368744177664 / by' * by') := Nat.mul_assoc _ _ _
      omega
    subst hisz
    obtain ⟨b, cap, w', row, hrun, hown', hgrow, hrow', hblk⟩ := run_own_append (P := P) (w := w) w0.w.heap.size t o.type e i zv hu hi hzv hzs c1 hby0 (s.den env).1 els.length (flat els) q5 ax ex.length cx (flat ex)
      (fun hp => by have := hnil hp; omega) (flat_length hrows) (fun p hp => hcells p hp) (fun u hu' => by
        obtain ⟨k, hk⟩ := List.getElem?_of_mem hu'
        obtain ⟨i1, j1, row, y, p1, p2, p3, p4⟩ := flat_inv hrows hk
        rw [p4]; exact (helt row (List.mem_of_getElem? p1) y (List.mem_of_getElem? p2)).2) hbound hr.hB.size
    have hrun2 : (execOp a.eval o).run P w = .ok (.value (.slice b (els.length + ex.length) cap)) w' := by
      rw [hcall, hargs, htys]
      simp only [S.den, d1, hn1]
      simp only [builtin, Sem.run_bind]
      rw [hrun]; rfl
    refine wp_value hrun2 ?_
    have hx : OwnAs m1 w' w0.w.heap.size (.slice b (els.length + ex.length) cap, .rows i.size (els ++ ex)) e i.size := by
      refine ⟨i.size, els ++ ex, rfl, fun _ => rfl, fun row h => ?_, fun row h y hy => ?_, ?_⟩
      · rcases List.mem_append.1 h with h | h
        · exact q3 row h
        · exact hrows row h
      · rcases List.mem_append.1 h with h | h
        · exact q4 row h y hy
        · exact helt row h y hy
      · rw [List.length_append, flat_append]; exact hown'
    have hg := hr3.grow hb3 hgrow (fun g hg => by
      obtain ⟨⟨r1, r2, r3, r4⟩, _⟩ := hrow g (by rw [ownB_of q1]; exact hrow' g hg)
      exact ⟨r1, r2, r3, by rw [hsame.own]; exact r4⟩) (fun g hg => (hrow g (by rw [ownB_of q1]; exact hrow' g hg)).2) hx hblk rfl
    have hg2 := hg.put o.dst (.one (.s (.slc (.at st3.n))))
    rw [at_end hr3.hn] at hg2
    refine hK _ _ _ _ _ _ hg2 ⟨⟨_, rfl⟩, ⟨[], by simp⟩, (fun _ h => by rw [hst] at h; cases h), (fun _ h => by rw [hst] at h; cases h), (fun _ h => by rw [hst] at h; cases h)⟩ ?_
    have hw := h b cap
    rw [q1, d2] at hw
    exact hw
  · -- a string behind it
    rename_i st2 x' htok hargs0
    clear hargs0
    have hargs : c.args.map a.eval = #[(s.den env).1, _] := hargs
    split at h
    case h_2 => exact h.elim
    rename_i htx hte
    split at h
    case isFalse => exact h.elim
    rename_i hcd
    simp only [Bool.and_eq_true, beq_iff_eq] at hcd
    obtain ⟨⟨rfl, rfl⟩, h8⟩ := hcd
    obtain ⟨hr2, hown, hrow⟩ := hr1.tok htok
    obtain ⟨hds, st3, hsame, hkn, h⟩ := needs_sound hr2.hk h
    split at h
    case isFalse => exact h.elim
    rename_i hb3
    have hr3 := hr2.same hsame hkn
    have hown := hown.as (show Nd.ok env (.row s) from hds _ (by simp))
    have d3 : Nd.ok env (.tru (.cmp .leq (.len s) (.int 70368744177664))) := hds _ (by simp)
    have d4 : Nd.ok env (.tru (.cmp .leq (.size x') (.int 70368744177664))) := hds _ (by simp)
    simp only [Nd.ok, X.den, vi_int, cmpD, vb_bool] at d3 d4
    replace d3 := of_decide_eq_true d3
    replace d4 := of_decide_eq_true d4
    rw [ownAt_vn hown] at d3
    obtain ⟨zz, els, q1, q2, q3, q4, q5⟩ := hown
    rw [q1] at d3
    simp only [D.els] at d3
    have hz8 : i.zero = some (.int .u8 0) := by
      unfold zero8 at h8
      rw [hi] at h8
      simp only [Option.bind_some] at h8
      split at h8
      · assumption
      · cases h8
    obtain ⟨b, cap, w', row, hrun, hown', hgrow, hrow', hblk⟩ := run_own_apps (P := P) (w := w) w0.w.heap.size t tx o.type e i hu htx hi hz8 hisz hib (s.den env).1 els.length (flat els) q5 (vs (x'.den env).1) (by omega) hr.hB.size
    have hrun2 : (execOp a.eval o).run P w = .ok (.value (.slice b (els.length + (vs (x'.den env).1).size) cap)) w' := by
      rw [hcall, hargs, htys]
      simp only [S.den]
      simp only [builtin, Sem.run_bind]
      rw [hrun]; rfl
    refine wp_value hrun2 ?_
    have hx : OwnAs m1 w' w0.w.heap.size (.slice b (els.length + (vs (x'.den env).1).size) cap, .rows 1 (els ++ ofB (vs (x'.den env).1))) e 1 := by
      refine ⟨1, els ++ ofB (vs (x'.den env).1), rfl, fun _ => rfl, fun row h => ?_, fun row h y hy => ?_, ?_⟩
      · rcases List.mem_append.1 h with h | h
        · exact q3 row h
        · exact ofB_row row h
      · rcases List.mem_append.1 h with h | h
        · exact q4 row h y hy
        · exact ofB_good row h y hy
      · rw [List.length_append, flat_append, ofB_length, flat_ofB]; exact hown'
    have hg := hr3.grow hb3 hgrow (fun g hg => by
      obtain ⟨⟨r1, r2, r3, r4⟩, _⟩ := hrow g (by rw [ownB_of q1]; exact hrow' g hg)
      exact ⟨r1, r2, r3, by rw [hsame.own]; exact r4⟩) (fun g hg => (hrow g (by rw [ownB_of q1]; exact hrow' g hg)).2) hx hblk rfl
    have hg2 := hg.put o.dst (.one (.s (.slc (.at st3.n))))
    rw [at_end hr3.hn] at hg2
    refine hK _ _ _ _ _ _ hg2 ⟨⟨_, rfl⟩, ⟨[], by simp⟩, (fun _ h => by rw [hst] at h; cases h), (fun _ h => by rw [hst] at h; cases h), (fun _ h => by rw [hst] at h; cases h)⟩ ?_
    have hw := h b cap
    rw [q1] at hw
    exact hw
  · exact h.elim
theorem flat_modify {z off : Nat} {row : List Atom} (hl : off + row.length ≤ z) : ∀ {els : List (List Atom)} {i : Nat}, (∀ r ∈ els, r.length = z) → i < els.length →
    flat (els.modify i fun r => r.take off ++ row ++ r.drop (off + row.length)) = (flat els).take (i * z + off) ++ row.map (·.1) ++ (flat els).drop (i * z + off + row.length)
  | [], i, _, hi => by simp at hi
  | r :: els, 0, hz, _ => by
    have hr := hz r List.mem_cons_self
    simp only [List.modify_zero_cons, flat, List.map_cons, List.flatten_cons, Nat.zero_mul, Nat.zero_add, List.map_append]
    rw [List.take_append_of_le_length (by simp [hr]; omega), List.drop_append_of_le_length (by simp [hr]; omega)]
    simp [List.map_take, List.map_drop]
  | r :: els, i + 1, hz, hi => by
    have hr := hz r List.mem_cons_self
    have ih := flat_modify hl (fun q hq => hz q (List.mem_cons_of_mem _ hq)) (i := i) (by simpa using hi)
    simp only [List.modify_succ_cons, flat, List.map_cons, List.flatten_cons] at ih ⊢
    rw [ih]
    have hrl : (r.map (fun x : Atom => x.1)).length = z := by simp [hr]
    rw [List.take_append, List.drop_append, hrl]
    have e1 : (i + 1) * z + off - z = i * z + off := by rw [Nat.succ_mul]; omega
    have e2 : (i + 1) * z + off + row.length - z = i * z + off + row.length := by rw [Nat.succ_mul]; omega
    rw [e1, e2, List.take_of_length_le (l := r.map _) (by rw [hrl, Nat.succ_mul]; omega), List.drop_eq_nil_of_le (as := r.map _) (by rw [hrl, Nat.succ_mul]; omega)]
    simp
theorem S.den_sub1 {j n : Nat} (h : ((X.at j).den env).1 = ((X.at n).den env).1) (s : S) : (s.sub1 j n).den env η = s.den env η := by
  unfold S.sub1
  split
  · split
    · rename_i i hi
      have hi : i = j := by simpa using hi
      subst hi
      simp only [S.den, h]
    · rfl
  · split
    · rename_i i x z o hi
      have hi : i = j := by simpa using hi
      subst hi
      simp only [S.den, h]
    · rfl
  · rfl
theorem TV.den_sub1 {j n : Nat} (h : ((X.at j).den env).1 = ((X.at n).den env).1) (t : TV) : (t.sub1 j n).den env η = t.den env η := by
  cases t with
  | s x => exact S.den_sub1 h x
  | agg l => simp only [TV.sub1, TV.den, List.map_map]; congr 2; exact List.map_congr_left fun s _ => S.den_sub1 h s
theorem SV.den_sub1 {j n : Nat} (h : ((X.at j).den env).1 = ((X.at n).den env).1) (v : SV) : (v.sub1 j n).den env η = v.den env η := by
  cases v with
  | one t => exact TV.den_sub1 h t
  | tup l => simp only [SV.sub1, SV.den, List.map_map]; congr 2; exact List.map_congr_left fun s _ => TV.den_sub1 h s
theorem Rel.sub1 (hr : Rel w0 st env η m a w) {j n : Nat} (h : ((X.at j).den env).1 = ((X.at n).den env).1) : Rel w0 (st.sub1 j n) env η m a w := by
  refine ⟨hr.hn, by simp [St.sub1, hr.hs], ?_, hr.hd, by simp [St.sub1, hr.he], hr.hnd, ?_, hr.hge, hr.hB, hr.hm, hr.hm0, hr.hg, hr.ho, hr.hod, hr.hom, hr.hk⟩
  · intro i v hv
    simp only [St.sub1, List.getElem?_map, Option.map_eq_some_iff] at hv
    obtain ⟨u, hu, rfl⟩ := hv
    rcases hr.ht i u hu with rfl | e
    · exact .inl rfl
    · right; rw [SV.den_sub1 h]; exact e
  · intro i bl hbl
    simp only [St.sub1, List.getElem?_map, Option.map_eq_some_iff] at hbl
    obtain ⟨u, hu, rfl⟩ := hbl
    rw [hr.hb i u hu]
    congr 1
    unfold Blk.obj
    simp only
    split
    · simp only [List.map_map]; congr 2; exact List.map_congr_left fun s _ => (S.den_sub1 h s).symm
    · congr 2
      rw [List.zip_map_right, List.zipIdx_map, List.map_map]
      refine List.map_congr_left fun p _ => ?_
      simp only [Function.comp, Prod.map, id, S.den_sub1 h]
theorem seSto_sound {cs : Nat → Sig × Con} {Post : List Atom → Prop} {L : List (List Atom → Prop)} (hr : Rel w0 st env η m a w) {o : Oper} {k : St → T} {t : TypeId} {pa px : Operand} (ho : o.op = .store t pa px) {s i : X} {z off : Nat} {vv : TV}
    (hp : st.ev pa = some (.one (.s (.eptr s i z off)))) (hx : st.ev px = some (.one vv)) (hdst : o.dst = none)
    (h : (seSto P st t s i z off vv.cells k).wp cs Post env L) {al : Bool} {K : Act → World → Prop} {Q : Exit → Act → World → Prop}
    (hK : ∀ st' env' η' m' a' w', Rel w0 st' env' η' m' a' w' → Fwd o al st st' env env' η η' w w' → (k st').wp cs Post env' L → K a' w') : o.wp P a w K Q := by
  have hst : isStore o.op = true := by rw [ho]; rfl
  unfold seSto at h
  split at h
  case h_2 => exact h.elim
  rename_i j
  split at h
  case h_2 => exact h.elim
  rename_i j' e z' st1 hfind huse
  split at h
  case isFalse => exact h.elim
  rename_i hc
  simp only [Bool.and_eq_true, beq_iff_eq, decide_eq_true_eq] at hc
  obtain ⟨⟨⟨⟨⟨⟨rfl, hrowok⟩, hcont⟩, hsize⟩, hfit⟩, hpure⟩, hok⟩ := hc
  obtain ⟨m1, hm1, hr1, hgd⟩ := hr.use huse
  obtain ⟨hds, st3, hsame, hkn, h⟩ := needs_sound hr1.hk h
  split at h
  case isFalse => exact h.elim
  rename_i hb3
  have hr3 := hr1.same hsame hkn
  have htok : ownTok st3 e z (.at j) = some { st3 with own := st3.own.erase (j, e, z), dead := j :: st3.dead } := by
    simp only [ownTok, hsame.own, hcont, if_true]
  obtain ⟨hr4, hown, hrow⟩ := hr3.tok htok
  have hrowok3 : rowOk st3 (.at j) = true := by simpa only [rowOk, hsame.own, hsame.dead] using hrowok
  obtain ⟨p, n, c, sz, els, e1, e2, e3, e4⟩ := inRow_ok hr3 hrowok3 (fun d hd => hds d (List.mem_append_left _ hd))
  obtain ⟨zz, els', q1, q2, q3, q4, q5⟩ := hown.as ⟨_, _, by rw [e1]⟩
  have q1' : D.rows sz els = D.rows zz els' := by rw [← q1, e1]
  rw [e1] at q5
  injection q1' with q0 q1'
  subst q0; subst q1'
  have hne : els ≠ [] := by intro e; subst e; simp at e2; omega
  obtain rfl := q2 hne
  have hidx : (vi (i.den env).1).toNat < els.length := by omega
  rcases q5.2 with ⟨e5, _⟩ | ⟨g, cap, cur, e5, hbg, hg, hnc, hcm, hcs, htake⟩
  · cases e5
  injection e5 with e5 e6 e7
  injection e5 with e5
  subst e5; subst e6; subst e7
  have ep := hr.ev hp
  have ex := hr.ev hx
  simp only [SV.den, TV.den, S.den, e1, va_slice, Option.map_some, add_mk, Nat.zero_add] at ep
  rw [show SV.den env η (.one vv) = vv.den env η from rfl] at ex
  have hcells := TV.cells_den (η := η) hr.elt hok
  have hmul : (vi (i.den env).1).toNat * sz + sz ≤ els.length * sz := by
    have := Nat.mul_le_mul_right sz (show (vi (i.den env).1).toNat + 1 ≤ els.length by omega)
    rwa [Nat.succ_mul] at this
  have hcap : els.length * sz ≤ cur.size := by rw [hcs]; exact Nat.mul_le_mul_right _ hnc
  have hst2 := store_row P g ((vi (i.den env).1).toNat * sz + off) e (vv.cells.map (S.den env η)) 0 cur w hg (by simp; omega) (by
    intro u hu
    obtain ⟨s, hs, rfl⟩ := List.mem_map.1 hu
    exact S.den_one hr.elt (List.all_eq_true.1 hok s hs))
  simp only [Nat.add_zero, List.length_map] at hst2
  have hrun : (execOp a.eval o).run P w = .ok .skip (w.setRow g (cur.toList.take ((vi (i.den env).1).toNat * sz + off) ++ vv.cells.map (S.den env η) ++ cur.toList.drop ((vi (i.den env).1).toNat * sz + off + vv.cells.length)).toArray) := by
    simp only [execOp, ho, ep, ex, Instr.storeAt, Instr.sureAddr, storeVar, Sem.run_bind, Sem.run_pure, Result.andThen_ok, run_sizeOf_some hsize, hcells, List.size_toArray, List.length_map, ne_eq, not_true_eq_false, if_false, hst2]
  refine wp_skip' hrun ?_
  rw [hdst]
  have hvals : (vv.cells.map (S.atom env)).map (·.1) = vv.cells.map (S.den env η) := by
    rw [List.map_map]; exact List.map_congr_left fun s hs => S.atom_val (List.all_eq_true.1 hpure s hs)
  have hfm := flat_modify (z := sz) (off := off) (row := vv.cells.map (S.atom env)) (by simpa using hfit) q3 hidx
  rw [hvals] at hfm
  have hx2 : OwnAs m1 (w.setRow g (cur.toList.take ((vi (i.den env).1).toNat * sz + off) ++ vv.cells.map (S.den env η) ++ cur.toList.drop ((vi (i.den env).1).toNat * sz + off + vv.cells.length)).toArray) w0.w.heap.size
      (((X.at j).den env).1, updD ((X.at j).den env).2 (vi (i.den env).1).toNat off (vv.cells.map (S.atom env))) e sz := by
    rw [e1]
    refine ⟨sz, _, rfl, fun _ => rfl, ?_, ?_, ?_⟩
    · intro r hr'
      obtain ⟨k, hk⟩ := List.getElem?_of_mem hr'
      rw [List.getElem?_modify] at hk
      cases hek : els[k]? with
      | none => rw [hek] at hk; simp at hk
      | some r0 =>
        have hl := q3 r0 (List.mem_of_getElem? hek)
        rw [hek] at hk
        simp only [Option.map_eq_map, Option.map_some, Option.some.injEq] at hk
        split at hk
        · subst hk; simp [hl]; omega
        · subst hk; exact hl
    · intro r hr' y hy
      obtain ⟨k, hk⟩ := List.getElem?_of_mem hr'
      rw [List.getElem?_modify] at hk
      cases hek : els[k]? with
      | none => rw [hek] at hk; simp at hk
      | some r0 =>
        have hl := q4 r0 (List.mem_of_getElem? hek)
        rw [hek] at hk
        simp only [Option.map_eq_map, Option.map_some, Option.some.injEq] at hk
        split at hk
        · subst hk
          simp only [List.mem_append] at hy
          rcases hy with (hy | hy) | hy
          · exact hl y (List.mem_of_mem_take hy)
          · obtain ⟨s, hs, rfl⟩ := List.mem_map.1 hy
            exact hgd s hs (List.all_eq_true.1 hpure s hs)
          · exact hl y (List.mem_of_mem_drop hy)
        · subst hk; exact hl y hy
    · rw [hfm, List.length_modify]
      simp only [List.length_map]
      have hfl := flat_length q3
      refine ⟨by simp [hfl]; omega, .inr ⟨g, c, _, rfl, hbg, hg.set (by simp; omega), hnc, hcm, by simp; omega, ?_⟩⟩
      rw [← htake, List.take_append, List.take_append]
      simp only [List.length_append, List.length_take, List.length_map, Array.length_toList, List.take_take, List.drop_take]
      have m1 : min ((vi (i.den env).1).toNat * sz + off) cur.size = (vi (i.den env).1).toNat * sz + off := by omega
      rw [m1, show min (els.length * sz) ((vi (i.den env).1).toNat * sz + off) = (vi (i.den env).1).toNat * sz + off by omega, show min ((vi (i.den env).1).toNat * sz + off) (els.length * sz) = (vi (i.den env).1).toNat * sz + off by omega]
      rw [List.take_of_length_le (l := vv.cells.map _) (by simp; omega)]
  have hgrow : ∀ l, w.grownBy (w.setRow g l) (some g) := fun l => ⟨rfl, rfl, rfl, by simp, fun q _ hq => setRow_other w g q l (fun e => hq (by simp [e]))⟩
  have hxb : ∀ q, ((X.at j).den env).1.ownBlock = some q → some g = some q ∨ w.heap.size ≤ q := fun q hq => .inl (by rw [e1] at hq; simpa [Value.ownBlock] using hq)
  have hb4 : St.bnd { st3 with own := st3.own.erase (j, e, sz), dead := j :: st3.dead } = true := by
    simp only [St.bnd, Bool.and_eq_true] at hb3 ⊢
    refine ⟨⟨hb3.1.1, List.all_eq_true.2 fun q hq => List.all_eq_true.1 hb3.1.2 q (List.mem_of_mem_erase hq)⟩, List.all_eq_true.2 fun q hq => ?_⟩
    rcases List.mem_cons.1 hq with rfl | hq
    · have : (q, e, sz) ∈ st3.own := by rw [hsame.own]; simpa using hcont
      simpa using List.all_eq_true.1 hb3.1.2 _ this
    · exact List.all_eq_true.1 hb3.2 q hq
  have hg4 := hr4.grow hb4 (hgrow _) (fun q hq => by obtain rfl := Option.some.inj hq; exact (hrow g (by rw [e1]; rfl)).1) (fun q hq => by obtain rfl := Option.some.inj hq; exact (hrow g (by rw [e1]; rfl)).2) hx2 hxb (by rw [e1]; rfl)
  have hsub := hg4.sub1 (j := j) (n := st3.n) (by
    have h1 : (X.at j).den (env ++ [(((X.at j).den env).1, updD ((X.at j).den env).2 (vi (i.den env).1).toNat off (vv.cells.map (S.atom env)))]) = (X.at j).den env := by
      have hlt : j < env.length := by
        have : (j, e, sz) ∈ st3.own := by rw [hsame.own]; simpa using hcont
        simp only [St.bnd, Bool.and_eq_true] at hb3
        rw [hr3.hn]
        simpa using List.all_eq_true.1 hb3.1.2 _ this
      exact getD_app hlt
    have h2 : (X.at st3.n).den (env ++ [(((X.at j).den env).1, updD ((X.at j).den env).2 (vi (i.den env).1).toNat off (vv.cells.map (S.atom env)))]) = (((X.at j).den env).1, updD ((X.at j).den env).2 (vi (i.den env).1).toNat off (vv.cells.map (S.atom env))) := by
      simp [X.den, ← hr3.hn, List.getD_eq_getElem?_getD]
    rw [h1, h2])
  exact hK _ _ _ _ _ _ hsub ⟨⟨_, rfl⟩, ⟨[], by simp⟩, (fun _ h => by rw [hst] at h; cases h), (fun _ h => by rw [hst] at h; cases h), (fun _ h => by rw [hst] at h; cases h)⟩ h
end
end Go.Proofs.YtamjocnlhhhijaaV

namespace Go.Proofs.YtamjocnlhhhijaaV
open Go Go.RowKit Go.Proofs.YtamjocnlhhhijaaW.PrintLast

/-- The contracts that a run may lean on. -/
def ptrs (η : List Nat) (caps : List Nat) : List Value := caps.map fun b => Value.pointer (some ⟨η.getD b 0, 0, none⟩)
/-- A call within a call is run right. -/
def HRun (P : Program) (cs : Nat → Sig × Con) (w0 : Base) (H : Nat → Hnd) : Prop := ∀ (Post : List Atom → Prop) (L : List (List Atom → Prop)) (st : St) (env : List Atom) (η : List Nat) (m : Addr → Option Value) (a : Act) (w : World) (g : FuncId) (caps : List S) (vs : List SV) (k : St → SV → T),
    Rel w0 st env η m a w → (H L.length st g caps vs k).wp cs Post env L → (∃ fn, P.funcs[g]? = some fn ∧ (fn.name == "runtime.NumGoroutine") = false ∧ fn.body.isSome = true) ∧
    ∀ R : Ending → World → Prop, (∀ st' v env' η' m' w', Rel w0 st' env' η' m' a w' → (∃ l, env' = env ++ l) → (∃ l, η' = η ++ l) → (k st' v).wp cs Post env' L → R (.returned (v.den env' η')) w') →
      Calls P g (vs.map (SV.den env η) ++ caps.map (S.den env η)).toArray w R
def HB (H : Nat → Hnd) : Prop := ∀ (lv : Nat) (st : St) (g : FuncId) (caps : List S) (vs : List SV) (k : St → SV → T) (f : St → T), (H lv st g caps vs k).bind f = H lv st g caps vs (fun s v => (k s v).bind f)
/-- Calls within a call are run right. -/
structure HOk (P : Program) (cs : Nat → Sig × Con) (H : Nat → Hnd) : Prop where
  bind : HB H
  run : ∀ w0 : Base, HRun P cs w0 H
/-- What is known of the loop over a function that is run: its record; the values of yield, of the frame. -/
structure YFacts (y L : Nat) (rec : Loop) (tv : List (SV × Value)) (w0 : Base) : Prop where
  pr : w0.pr L = some (.loop rec)
  ge : w0.w.heap.size ≤ L
  ys : ∀ p ∈ (SV.one (.s (.any (.at y))), Value.func (.yield L) #[] #[]) :: tv, p ∈ w0.ys
def YB : Yh → Prop
  | none => True
  | some (_, h) => ∀ (lv : Nat) (st : St) (vs : List SV) (k : St → SV → T) (f : St → T), (h lv st vs k).bind f = h lv st vs (fun s v => (k s v).bind f)
/-- A round is run right. -/
def YRun (P : Program) (cs : Nat → Sig × Con) (w0 : Base) : Yh → Prop
  | none => True
  | some (y, h) => ∃ (L : Nat) (rec : Loop) (tv : List (SV × Value)), rec.state = .ready ∧ YFacts y L rec tv w0 ∧ ∀ w1, YFacts y L rec tv w1 →
      ∀ (Post : List Atom → Prop) (Lv : List (List Atom → Prop)) (st : St) (env : List Atom) (η : List Nat) (m : Addr → Option Value) (a : Act) (w : World) (vs : List SV) (k : St → SV → T),
        Rel w1 st env η m a w → (h Lv.length st vs k).wp cs Post env Lv → vs.length = rec.params.size ∧
        ∀ R : Ending → World → Prop, (∀ st' v env' η' m' w', Rel w1 st' env' η' m' a w' → (∃ l, env' = env ++ l) → (∃ l, η' = η ++ l) → (k st' v).wp cs Post env' Lv → R (.returned (v.den env' η')) w') →
          RoundIn Fence.wide 0 P L rec.fn ((rec.params.zip (vs.map (SV.den env η)).toArray).foldl (fun t (p, v) => t.setIfInBounds p v) rec.tmps) rec.assign rec.body w R
/-- Iterators are run right. -/
def HYOk (P : Program) (cs : Nat → Sig × Con) (HY : Yh → Nat → Hnd) : Prop := ∀ y, YB y → HB (HY y) ∧ ∀ w0, YRun P cs w0 y → HRun P cs w0 (HY y)
structure Table (P : Program) (sigs : Sg) (cs : Nat → Sig × Con) (w0 : Base) : Prop where
  con : ∀ (i : Nat) sg, sigs.l[i]? = some sg → (cs i).1 = sg ∧ holds P (cs i)
  H : HOk P cs sigs.H
  yb : YB sigs.Y
  yr : YRun P cs w0 sigs.Y
  hy : HYOk P cs sigs.HY
theorem noH_ok {P : Program} {cs : Nat → Sig × Con} : HOk P cs noH := ⟨fun _ _ _ _ _ _ _ => rfl, fun _ _ _ _ _ _ _ _ _ _ _ _ _ _ h => h.elim⟩
theorem noHY_ok {P : Program} {cs : Nat → Sig × Con} : HYOk P cs noHY := fun _ _ => ⟨noH_ok (P := P) (cs := cs) |>.bind, fun w0 _ => noH_ok.run w0⟩
theorem YFacts.up {y L : Nat} {rec : Loop} {tv : List (SV × Value)} {w0 w1 : Base} (h : YFacts y L rec tv w0) (hw : w1.w = w0.w) (h1 : ∀ g o, w0.pr g = some o → w1.pr g = some o) (h2 : ∀ p ∈ w0.ys, p ∈ w1.ys) : YFacts y L rec tv w1 := ⟨h1 _ _ h.pr, by rw [hw]; exact h.ge, fun p hp => h2 p (h.ys p hp)⟩
theorem YRun.up {P : Program} {cs : Nat → Sig × Con} {Y : Yh} {w0 w1 : Base} (h : YRun P cs w0 Y) (hw : w1.w = w0.w) (h1 : ∀ g o, w0.pr g = some o → w1.pr g = some o) (h2 : ∀ p ∈ w0.ys, p ∈ w1.ys) : YRun P cs w1 Y := by
  cases Y with
  | none => trivial
  | some yh =>
    obtain ⟨L, rec, tv, e1, e2, e3⟩ := h
    exact ⟨L, rec, tv, e1, e2.up hw h1 h2, e3⟩
theorem Table.up {P : Program} {sigs : Sg} {cs : Nat → Sig × Con} {w0 w1 : Base} (h : Table P sigs cs w0) (hw : w1.w = w0.w) (h1 : ∀ g o, w0.pr g = some o → w1.pr g = some o) (h2 : ∀ p ∈ w0.ys, p ∈ w1.ys) : Table P sigs cs w1 := ⟨h.con, h.H, h.yb, h.yr.up hw h1 h2, h.hy⟩
/-- Without yield, whatever the base. -/
theorem Table.noY {P : Program} {sigs : Sg} {cs : Nat → Sig × Con} {w0 : Base} (h : Table P sigs cs w0) (w1 : Base) : Table P { sigs with Y := Go.Proofs.YtamjocnlhhhijaaV.noY } cs w1 := ⟨h.con, h.H, trivial, trivial, h.hy⟩
section
variable {w0 : Base} {w : World} {st : St} {env : List Atom} {η : List Nat} {m : Addr → Option Value} {a : Act} {P : Program}
theorem Fwd.same {st' : St} (h : Same st' st) (o : Oper) (al : Bool) (w : World) {d : Option Tmp} {v : SV} : Fwd o al st (st'.put d v) env env η η w w :=
  ⟨⟨[], by simp⟩, ⟨[], by simp⟩, (fun _ _ => Below.refl _ _), (fun _ _ p hp _ => by rw [put_own, h.own] at hp; exact hp), fun _ _ => by rw [put_dead, h.dead]⟩
theorem foldl_push : ∀ (l : List Int) (r : ByteArray), l.foldl (fun r n => r.push (UInt8.ofNat n.toNat)) r = ⟨r.data ++ (l.map fun n => UInt8.ofNat n.toNat).toArray⟩
  | [], r => by apply ByteArray.ext; simp
  | n :: l, r => by
    simp only [List.foldl_cons]
    rw [foldl_push l]
    apply ByteArray.ext
    simp [ByteArray.push]
theorem chrs_sound : ∀ {l : List S} {x : X}, chrs l = some x → ∃ ns : List Int, l.map (S.den env η) = ns.map (Value.int .u8) ∧ vs (x.den env).1 = ns.foldl (fun r n => r.push (UInt8.ofNat n.toNat)) ByteArray.empty
  | [], x, h => by
    simp only [chrs, Option.some.injEq] at h
    subst h
    exact ⟨[], rfl, rfl⟩
  | s :: l, x, h => by
    unfold chrs at h
    split at h
    · rename_i hl; cases hl
    · rename_i y r hl
      obtain ⟨rfl, rfl⟩ := List.cons.inj hl
      cases hc : chrs l with
      | none => rw [hc] at h; cases h
      | some z =>
        rw [hc] at h
        simp only [Option.map_some, Option.some.injEq] at h
        subst h
        obtain ⟨ns, h1, h2⟩ := chrs_sound hc
        refine ⟨vi (y.den env).1 :: ns, by simp only [List.map_cons, h1]; rfl, ?_⟩
        simp only [X.den, vs_string, h2]
        rw [foldl_push, foldl_push]
        apply ByteArray.ext
        simp [ByteArray.data_append]
    · cases h
theorem load_row_live {t : TypeId} {x : Operand} {ds : List Nd} {v : SV} {s i : X} (h : seLoad P st t x = some (ds, v, .row s i)) : live st s = true := by
  have : ∀ {src : Src}, seLoad P st t x = some (ds, v, src) → src = .row s i → live st s = true := by
    intro src hl e
    subst e
    unfold seLoad at hl
    split at hl
    · have h1 := seCap_src hl
      have h2 := h1.1
      injection h2 with q1 q2
      subst q1
      exact h1.2
    · split at hl
      · split at hl
        · cases hl
        · split at hl
          · split at hl
            · simp at hl
            · cases hl
          · split at hl
            · cases hl
            · simp at hl
            · cases hl
          · cases hl
      · cases hl
    · split at hl
      · split at hl
        · rename_i src' hsrc
          have fin : src' = .row s i → live st s = true := by
            intro e
            rcases (srcOf_rowOk hsrc).2 with ⟨e1, e2⟩ | ⟨_, _, _, e1⟩
            · rw [e1] at e
              injection e with q1 q2
              subst q1; exact e2
            · rw [e1] at e; cases e
          split at hl
          · simp only at hl
            split at hl
            · simp only [Option.some.injEq, Prod.mk.injEq] at hl; exact fin hl.2.2
            · split at hl
              · simp only [Option.some.injEq, Prod.mk.injEq] at hl; exact fin hl.2.2
              · cases hl
            · cases hl
          · cases hl
        · cases hl
      · cases hl
    · cases hl
  exact this h rfl
/-- A map of constant keys is asked. -/
theorem lookS_sound {cs : Nat → Sig × Con} {Post : List Atom → Prop} {L : List (List Atom → Prop)} {x : X} {k : St → Option S → T} : ∀ {es : List (Int × S)} {st : St}, Rel w0 st env η m a w → (lookS st x k es).wp cs Post env L →
    ∃ st', Same st' st ∧ Rel w0 st' env η m a w ∧ ((∃ c s, (c, s) ∈ es ∧ vi (x.den env).1 = c ∧ (∀ c' s', (c', s') ∈ es → True) ∧ (k st' (some s)).wp cs Post env L ∧ es.find? (fun p => vi (x.den env).1 == p.1) = some (c, s)) ∨ ((k st' none).wp cs Post env L ∧ es.find? (fun p => vi (x.den env).1 == p.1) = none))
  | [], st, hr, h => ⟨st, .refl st, hr, .inr ⟨h, rfl⟩⟩
  | (c, s) :: r, st, hr, h => by
    simp only [lookS] at h
    refine seBr_sound (C := _) hr.hk h (fun st' e hk hx h => ?_) (fun st' e hk hx h => ?_)
    · rw [cmpX_den] at hx
      simp only [X.den, vi_int, cmpD] at hx
      exact ⟨st', e, hr.same e hk, .inl ⟨c, s, List.mem_cons_self, by simpa using hx, fun _ _ _ => trivial, h, by simp only [List.find?_cons]; rw [hx]⟩⟩
    · rw [cmpX_den] at hx
      simp only [X.den, vi_int, cmpD] at hx
      obtain ⟨st2, e2, hr2, h2⟩ := lookS_sound (hr.same e hk) h
      refine ⟨st2, ⟨e2.n.trans e.n, e2.tmps.trans e.tmps, e2.blks.trans e.blks, e2.own.trans e.own, e2.dead.trans e.dead⟩, hr2, ?_⟩
      rcases h2 with ⟨c', s', h3, h4, h5, h6, h7⟩ | ⟨h6, h7⟩
      · exact .inl ⟨c', s', List.mem_cons_of_mem _ h3, h4, fun _ _ _ => trivial, h6, by simp only [List.find?_cons]; rw [hx]; exact h7⟩
      · exact .inr ⟨h6, by simp only [List.find?_cons]; rw [hx]; exact h7⟩
theorem ptrS_den (caps : List Nat) : (ptrS caps).map (S.den env η) = ptrs η caps := by
  simp only [ptrS, ptrs, List.map_map]; rfl
/-- A call of a function value. -/
theorem seClo_sound {sigs : Sg} {cs : Nat → Sig × Con} {Post : List Atom → Prop} {L : List (List Atom → Prop)} (hr : Rel w0 st env η m a w) {lv : Nat} {x : X} {vs : List SV} {k : St → SV → T} {C : Prop} (h : (seClo sigs lv st x vs k).wp cs Post env L)
    (hC : ∀ st' g cl bs, Same st' st → Rel w0 st' env η m a w → (x.den env).1 = .func (.func g) #[] (boxP bs) → (cptrs g cl x).map (S.den env η) = (boxP bs).toList → (sigs.H lv st' g (cptrs g cl x) vs k).wp cs Post env L → C) : C := by
  unfold seClo at h
  split at h
  case isFalse => exact h.elim
  rename_i hlb
  simp only [Bool.and_eq_true] at hlb
  have hgood := (hr.live hlb.1).1
  have key : ∀ st' g cl, Same st' st → Rel w0 st' env η m a w → cloB (some g) cl (x.den env) = true → (sigs.H lv st' g (cptrs g cl x) vs k).wp cs Post env L → C := by
    intro st' g cl hs hr' hc hw
    obtain ⟨fi, ca, e⟩ := cloB_some hc
    rw [e] at hgood
    cases hgood with
    | clo _ bs _ hl hcc =>
      refine hC st' g cl bs hs hr' (by rw [e]) ?_ hw
      apply List.ext_getElem?
      intro j
      simp only [cptrs, List.map_map, List.getElem?_map, boxP]
      by_cases hj : j < cl.length
      · have hb : j < bs.length := by omega
        simp [hj, hb, S.den, e, capAt, boxP]
      · rw [List.getElem?_eq_none_iff.2 (by simp; omega), List.getElem?_eq_none_iff.2 (by omega)]; rfl
  split at h
  · rename_i g cl hk
    exact key st g cl (.refl st) hr (cloK_sound hr.hk hk) h
  · have go : ∀ (l : List (FuncId × List Cc)) (st' : St), Same st' st → Rel w0 st' env η m a w → (seCloL sigs lv x vs k l st').wp cs Post env L → C := by
      intro l
      induction l with
      | nil => intro st' _ _ h; exact h.elim
      | cons p r ih =>
        intro st' hs hr' h
        obtain ⟨g, cl⟩ := p
        simp only [seCloL] at h
        refine seBr_sound hr'.hk h (fun st2 e1 e4 e5 e6 => ?_) (fun st2 e1 e4 e5 e6 => ?_)
        · exact key st2 g cl ⟨e1.n.trans hs.n, e1.tmps.trans hs.tmps, e1.blks.trans hs.blks, e1.own.trans hs.own, e1.dead.trans hs.dead⟩ (hr'.same e1 e4) e5 e6
        · exact ih st2 ⟨e1.n.trans hs.n, e1.tmps.trans hs.tmps, e1.blks.trans hs.blks, e1.own.trans hs.own, e1.dead.trans hs.dead⟩ (hr'.same e1 e4) e6
    exact go _ st (.refl st) hr h
/-- A row of ours is marked behind its cells. -/
theorem Rel.markRow (hr : Rel w0 st env η m a w) {o : Nat × TypeId × Nat} (ho : o ∈ st.own) {g : Nat} (hg : blkOf env o = some g) {w' : World} (hgr : w.grownBy w' (some g)) (hrow : ∀ cur e, okRow w g cur e → okRow w' g cur e) : Rel w0 st env η m a w' := by
  obtain ⟨x, hx, hO⟩ := hr.ho o ho
  have hgx := hg
  rw [own_blk hx] at hgx
  obtain ⟨hge, _⟩ := hO.lt g hgx
  obtain ⟨q1, q2⟩ := hr.hom o ho g hg
  have hOs : OwnAs m w w0.w.heap.size x o.2.1 o.2.2 := by
    rcases hO with h | h
    · rw [ownB_leaf h] at hgx; cases hgx
    · exact h
  have hok : ∃ cur e, okRow w g cur e := by
    obtain ⟨z, els, r1, _, _, _, r5⟩ := hOs
    rw [ownB_of r1] at hgx
    rcases r5.2 with ⟨e1, _⟩ | ⟨g', cap, cur, e1, _, e3, _⟩
    · rw [e1] at hgx; cases hgx
    · rw [e1] at hgx
      injection hgx with hgx
      subst hgx
      exact ⟨cur, _, e3⟩
  refine ⟨hr.hn, hr.hs, hr.ht, hr.hd.turn hgr (fun g' e => by injection e with e; subst e; obtain ⟨cur, e, h⟩ := hok; exact cells_notBook h), hr.he, hr.hnd, fun i bl hi => ?_, hr.hge, ?_, fun ad v h => ?_, hr.hm0, hr.hg, fun p hp => ?_, hr.hod, hr.hom, hr.hk⟩
  · have h1 := hr.hb i bl hi
    have hi2 : i < η.length := by rw [hr.he]; exact (List.getElem?_eq_some_iff.1 hi).1
    rw [hgr.block _ (Array.getElem?_eq_some_iff.1 h1).1 ?_]
    · exact h1
    · intro e
      injection e with e
      refine q1 (e ▸ ?_)
      rw [List.getD_eq_getElem?_getD, List.getElem?_eq_getElem hi2]; exact List.getElem_mem hi2
  · exact hr.hB.trans ⟨hgr.os, hgr.tape, hgr.output, hgr.size, fun k hk => hgr.block k (Nat.lt_of_lt_of_le hk hr.hB.size) (fun e => by injection e with e; omega)⟩
  · obtain ⟨h1, h2⟩ := hr.hm ad v h
    refine ⟨?_, h2⟩
    rw [World.cell?_of_block (w := w) (hgr.block _ (cell_lt h1) (fun e => by injection e with e; exact q2 ad v h e))]
    exact h1
  · obtain ⟨y, hy, h⟩ := hr.ho p hp
    by_cases hpo : ownB y = some g
    · refine ⟨y, hy, ?_⟩
      rcases h with h | ⟨z, els, r1, r2, r3, r4, r5⟩
      · exact .inl h
      · refine .inr ⟨z, els, r1, r2, r3, r4, r5.1, ?_⟩
        rcases r5.2 with h5 | ⟨g', cap, cur, e1, e2, e3, e4⟩
        · exact .inl h5
        · rw [ownB_of r1, e1] at hpo
          injection hpo with hpo
          subst hpo
          exact .inr ⟨g', cap, cur, e1, e2, hrow _ _ e3, e4⟩
    · exact ⟨y, hy, h.kept hgr (.inr hpo)⟩
theorem run_checkKey_int {kt : TypeId} {q : IntKind} (hk : P.underlying kt = some (.int q)) (b : Bool) (v : Value) (w : World) : (Instr.checkKey b 10000 kt v).run P w = .ok () w := by
  show (Instr.checkKey b (9999 + 1) kt v).run P w = .ok () w
  unfold Instr.checkKey
  simp only [Sem.run_bind, run_underlying_some hk, Result.andThen_ok]
  cases v <;> rfl
theorem getObj_ents {r : Nat} {es : Array MapEntry} {n : Nat} (h : w.heap[r]? = some (.map es n)) : (getObj r).run P w = .ok (.map es n) w := by simp [getObj, Sem.run, h]
theorem setObj_ents {r : Nat} {es : Array MapEntry} {n : Nat} {o : Obj} (h : w.heap[r]? = some (.map es n)) : (setObj r o).run P w = .ok () { w with heap := w.heap.setIfInBounds r o } := by simp [setObj, Sem.run, h]
/-- Entries of constant keys. -/
def entsOf (env : List Atom) (η : List Nat) (q : IntKind) (l : List (Int × S)) (n : Nat) : List MapEntry := (l.zipIdx n).map fun p => ⟨.int q p.1.1, p.1.2.den env η, p.2⟩
theorem findNow_ents {q q0 : IntKind} (x : Int) : ∀ (l : List (Int × S)) (n i : Nat), Instr.findNow (.int q0) (.int q x) (entsOf env η q l n) i = some (match l.find? (fun p => x == p.1) with
    | some p => some (i + l.findIdx (fun p => x == p.1), p.2.den env η)
    | none => none)
  | [], n, i => rfl
  | (c, s) :: l, n, i => by
    simp only [entsOf, List.zipIdx_cons, List.map_cons, Instr.findNow, Instr.sameNow, if_true, List.find?_cons, List.findIdx_cons]
    cases hx : (x == c) with
    | true => simp
    | false =>
      simp only [cond_false]
      have := findNow_ents (q := q) (q0 := q0) x l (n + 1) (i + 1)
      simp only [entsOf] at this
      rw [this]
      split <;> simp; omega
theorem run_findKey_ents {kt : TypeId} {q q0 : IntKind} (hk : P.underlying kt = some (.int q0)) (x : Int) (l : List (Int × S)) (w : World) : (Instr.findKey kt (.int q x) (entsOf env η q l 0)).run P w = .ok (match l.find? (fun p => x == p.1) with
    | some p => some (l.findIdx (fun p => x == p.1), p.2.den env η)
    | none => none) w := by
  unfold Instr.findKey
  simp only [Sem.run_bind, run_underlying_some hk, Result.andThen_ok, findNow_ents]
  simp
theorem seOp_sound {sigs : Sg} {cs : Nat → Sig × Con} (hT : Table P sigs cs w0) {Post : List Atom → Prop} {L : List (List Atom → Prop)} (hr : Rel w0 st env η m a w) {o : Oper} {al : Bool} {k : St → T}
    (h : (seOp P sigs al L.length st o k).wp cs Post env L) {K : Act → World → Prop} {Q : Exit → Act → World → Prop}
    (hK : ∀ st' env' η' m' a' w', Rel w0 st' env' η' m' a' w' → Fwd o al st st' env env' η η' w w' → (k st').wp cs Post env' L → K a' w') : o.wp P a w K Q := by
  have upd : ∀ {t : TypeId} {pm key px : Operand}, (o.op = .mapUpdate t pm key px ∨ o.op = .insert t pm key px) →
      (match P.underlying t, st.ev pm, st.ev key, st.ev px with
      | some (.map kt _), some (.one (.s (.mp b))), some (.one (.s (.int q (.int c)))), some (.one (.s x)) => match P.underlying kt, st.blks[b]? with
        | some (.int _), some bl => match bl.mp with
          | some (q', keys) => if q == q' && !(keys.contains c) && okCell x && o.dst.isNone && keys.length == bl.cells.length && st.pbnd && x.pb st.blks.length then k { st with blks := st.blks.set b ⟨bl.cells ++ [x], bl.ty, some (q, keys ++ [c])⟩ } else .bad 64
          | none => .bad 64
        | _, _ => .bad 64
      | _, _, _, _ => .bad 64).wp cs Post env L → o.wp P a w K Q := by
    intro t pm key px ho h
    split at h
    case h_2 => exact h.elim
    rename_i kt et b q c x hu hm hk hx
    split at h
    case h_2 => exact h.elim
    rename_i q0 bl hkt hbl
    split at h
    case h_2 => exact h.elim
    rename_i q' keys hmp
    split at h
    case isFalse => exact h.elim
    rename_i hc
    simp only [Bool.and_eq_true, beq_iff_eq, Bool.not_eq_true', Option.isNone_iff_eq_none] at hc
    obtain ⟨⟨⟨⟨⟨⟨rfl, hnot⟩, hok⟩, hdst⟩, hlen⟩, _⟩, _⟩ := hc
    have em := hr.ev hm
    have ek := hr.ev hk
    have ex : a.eval px = x.den env η := hr.ev hx
    simp only [SV.den, TV.den, S.den, X.den, vi_int] at em ek
    have hg := hr.hb b bl hbl
    simp only [Blk.obj, hmp] at hg
    have hfind : (keys.zip bl.cells).find? (fun p => c == p.1) = none := by
      rw [List.find?_eq_none]
      intro p hp
      have := (List.of_mem_zip (a := p.1) (b := p.2) hp).1
      simp only [beq_iff_eq]
      intro e
      rw [← e] at this
      simp [this] at hnot
    have hfk := run_findKey_ents (env := env) (η := η) (q := q) hkt c (keys.zip bl.cells) w
    rw [hfind] at hfk
    have hsome : w.heap[η.getD b 0]? = some (.map (entsOf env η q (keys.zip bl.cells) 0).toArray keys.length) := hg
    have hrunM : (Instr.mapUpdate t (.map (some (η.getD b 0))) (.int q c) (x.den env η)).run P w = .ok () { w with heap := w.heap.setIfInBounds (η.getD b 0) (.map ((entsOf env η q (keys.zip bl.cells) 0).toArray.push ⟨.int q c, x.den env η, keys.length⟩) (keys.length + 1)) } := by
      unfold Instr.mapUpdate
      simp only [Sem.run_bind, run_underlying_some hu, Result.andThen_ok]
      simp only [getObj_ents hsome, Sem.run_bind, Result.andThen_ok, run_checkKey_int hkt, hfk, setObj_ents hsome]
    have hrun : (execOp a.eval o).run P w = .ok .skip { w with heap := w.heap.setIfInBounds (η.getD b 0) (.map ((entsOf env η q (keys.zip bl.cells) 0).toArray.push ⟨.int q c, x.den env η, keys.length⟩) (keys.length + 1)) } := by
      rcases ho with ho | ho <;> simp only [execOp, ho, em, ek, ex, Sem.run_bind, hrunM, Result.andThen_ok, Sem.run_pure]
    have hlt := (Array.getElem?_eq_some_iff.1 hsome).1
    have hst : isStore o.op = true := by rcases ho with ho | ho <;> rw [ho] <;> rfl
    refine wp_skip' hrun ?_
    rw [hdst]
    refine hK _ _ _ _ _ _ (hr.setObj (List.getElem?_eq_some_iff.1 hbl).1 ⟨bl.cells ++ [x], bl.ty, some (q, keys ++ [c])⟩ ?_ ⟨rfl, rfl, rfl, by simp, fun j hj hne => ?_⟩) ⟨⟨[], by simp⟩, ⟨[], by simp⟩, (fun _ hh => by rw [hst] at hh; cases hh), (fun _ hh => by rw [hst] at hh; cases hh), fun _ _ => rfl⟩ h
    · simp only [Array.getElem?_setIfInBounds_self, hlt, if_true, Blk.obj, Option.some.injEq]
      congr 1
      · rw [List.zip_append hlen, List.zipIdx_append, List.map_append]
        simp [entsOf, List.length_zip, hlen]
      · simp
    · simp only [Array.getElem?_setIfInBounds]
      rw [if_neg (fun e => hne (by rw [e]))]
  unfold seOp at h
  split at h
  · rename_i ds v hv
    obtain ⟨hds, st', h1, h4, h5⟩ := needs_sound hr.hk h
    refine wp_value (seVal_sound hr hv hds w) ?_
    exact hK _ _ _ _ _ _ ((hr.same h1 h4).put o.dst v) (Fwd.same h1 o al w) h5
  · split at h
    · rename_i t x ho
      split at h
      · rename_i ds v src hl
        obtain ⟨hds, st', h1, h4, h5⟩ := needs_sound hr.hk h
        have hrun : (execOp a.eval o).run P w = .ok (.value (v.den env η)) w := by
          cases src with
          | blk b => exact load_blk hr ho hl rfl
          | row s i =>
            have hlive := load_row_live hl
            exact load_row hr ho hl hds (hr.live hlive) (fun ad u hu => (hr.hm ad u hu).1)
          | own j => exact load_own hr ho hl hds (fun _ _ _ _ _ => rfl)
        exact wp_value hrun (hK _ _ _ _ _ _ ((hr.same h1 h4).put o.dst v) (Fwd.same h1 o al w) h5)
      · exact h.elim
    · rename_i t ho
      split at h
      · rename_i z hz
        split at h
        · rename_i hp
          simp only [Bool.and_eq_true] at hp
          obtain ⟨it, zv, h1, h2, h3⟩ := zero_info (env := env) (η := η) hz
          have hrun : (execOp a.eval o).run P w = .ok (.value (.pointer (some ⟨w.heap.size, 0, none⟩))) { w with heap := w.heap.push (.cells (z.map (S.den env η)).toArray t) } := by
            simp [execOp, ho, Instr.alloc, zero_run h1 h2, newVar, newRow, h3]
          refine wp_value hrun ?_
          have hn := hr.newBlk hp.1 hp.2 t none
          have hd : SV.den env (η ++ [w.heap.size]) (.one (.s (.ptr st.blks.length 0))) = .pointer (some ⟨w.heap.size, 0, none⟩) := by
            simp [SV.den, TV.den, S.den, List.getD_eq_getElem?_getD, ← hr.he]
          have := hn.put o.dst (.one (.s (.ptr st.blks.length 0)))
          rw [hd] at this
          exact hK _ _ _ _ _ _ this ⟨⟨[], by simp⟩, ⟨_, rfl⟩, (fun _ _ => below_push w _), (fun _ _ p hp _ => by rw [put_own] at hp; exact hp), fun _ _ => put_dead⟩ h
        · exact h.elim
      · exact h.elim
    · rename_i t x ho
      split at h
      · rename_i v hx
        split at h
        · rename_i hp
          simp only [Bool.and_eq_true] at hp
          have hrun : (execOp a.eval o).run P w = .ok (.value (.pointer (some ⟨w.heap.size, 0, none⟩))) { w with heap := w.heap.push (.cells (v.cells.map (S.den env η)).toArray t) } := by
            have := TV.cells_den (η := η) hr.elt hp.1.1
            simp only [execOp, ho, hr.ev hx, Instr.box, newVar, newRow, SV.den, this]
            simp
          refine wp_value hrun ?_
          have hn := hr.newBlk hp.1.2 hp.2 t none
          have hd : SV.den env (η ++ [w.heap.size]) (.one (.s (.ptr st.blks.length 0))) = .pointer (some ⟨w.heap.size, 0, none⟩) := by
            simp [SV.den, TV.den, S.den, List.getD_eq_getElem?_getD, ← hr.he]
          have := hn.put o.dst (.one (.s (.ptr st.blks.length 0)))
          rw [hd] at this
          exact hK _ _ _ _ _ _ this ⟨⟨[], by simp⟩, ⟨_, rfl⟩, (fun _ _ => below_push w _), (fun _ _ p hp _ => by rw [put_own] at hp; exact hp), fun _ _ => put_dead⟩ h
        · exact h.elim
      · exact h.elim
    · rename_i t p x ho
      split at h
      · rename_i b off v hp hx
        split at h
        · rename_i bl hbl
          split at h
          · rename_i hc
            simp only [Bool.and_eq_true, decide_eq_true_eq, beq_iff_eq, Option.isNone_iff_eq_none] at hc
            obtain ⟨⟨⟨⟨hsz, hfit⟩, hok⟩, hdst⟩, hmp⟩ := hc
            have ep := hr.ev hp
            have ex := hr.ev hx
            simp only [SV.den, TV.den, S.den] at ep
            rw [show SV.den env η (.one v) = v.den env η from rfl] at ex
            have hcells := TV.cells_den (η := η) hr.elt hok
            have hg := hr.hb b bl hbl
            simp only [Blk.obj, hmp] at hg
            have hst := run_storeCells_at P (η.getD b 0) off bl.ty (v.cells.map (S.den env η)) 0 _ w hg (by simp; omega) (by
              intro u hu
              obtain ⟨s, hs, rfl⟩ := List.mem_map.1 hu
              exact S.den_one hr.elt (List.all_eq_true.1 hok s hs))
            have e2 : ((bl.cells.map (S.den env η)).toArray.toList.take (off + 0) ++ v.cells.map (S.den env η) ++ (bl.cells.map (S.den env η)).toArray.toList.drop (off + 0 + (v.cells.map (S.den env η)).length)) = (bl.cells.take off ++ v.cells ++ bl.cells.drop (off + v.cells.length)).map (S.den env η) := by
              simp [List.map_take, List.map_drop]
            rw [e2] at hst
            have hrun : (execOp a.eval o).run P w = .ok .skip (w.setRow (η.getD b 0) ((bl.cells.take off ++ v.cells ++ bl.cells.drop (off + v.cells.length)).map (S.den env η)).toArray) := by
              simp only [execOp, ho, ep, ex, Instr.storeAt, Instr.sureAddr, storeVar, Sem.run_bind, Sem.run_pure, Result.andThen_ok, run_sizeOf_some hsz, hcells, List.size_toArray, List.length_map, ne_eq, not_true_eq_false, if_false, hst]
            refine wp_skip' hrun ?_
            rw [hdst]
            exact hK _ _ _ _ _ _ (hr.setBlk hbl hmp) ⟨⟨[], by simp⟩, ⟨[], by simp⟩, (fun _ hh => by rw [ho] at hh; cases hh), (fun _ hh => by rw [ho] at hh; cases hh), fun _ _ => rfl⟩ h
          · exact h.elim
        · exact h.elim
      · rename_i s i z off v hp hx
        split at h
        · rename_i hdst
          exact seSto_sound hr ho hp hx (by simpa using hdst) h hK
        · exact h.elim
      · exact h.elim
    · rename_i c ho
      split at h
      · rename_i f hc
        split at h
        · rename_i g caps vs hf hvs
          split at h
          · rename_i i sg hsg
            split at h
            · rename_i l v hl hv
              split at h
              · rename_i st1 huse
                obtain ⟨m1, m2, hr1, hmem, hgd, hOO⟩ := hr.pass huse
                obtain ⟨hsub1, hn1, hd1⟩ := passS_own huse
                split at h
                · rename_i hp
                  simp only [Bool.and_eq_true] at hp
                  obtain ⟨hpre, hrest⟩ := h
                  obtain ⟨j, e1, e2, e3⟩ := findSig_sound hsg
                  obtain rfl : i = j := by omega
                  obtain ⟨hcs, ⟨fn, hfn, hname, hbody⟩, hcall⟩ := hT.con i sg e2
                  have hgood : ∀ x ∈ l.map (S.atom env), Good m1 x := by
                    intro x hx
                    obtain ⟨s, hs, rfl⟩ := List.mem_map.1 hx
                    exact hgd s hs (List.all_eq_true.1 hp.1.1 s hs)
                  have hC := hcall _ m1 w hmem hgood hpre
                  have hvals : (l.map (S.atom env)).map (·.1) = l.map (S.den env η) := by
                    rw [List.map_map]
                    exact List.map_congr_left fun s hs => S.atom_val (List.all_eq_true.1 hp.1.1 s hs)
                  obtain ⟨l0, hl0, hl1⟩ := Option.map_eq_some_iff.1 hl
                  have hfl := flatArgs_sound (env := env) (η := η) ((ghOf sigs.gh g).map (S.den env η)) hl0
                  rw [← List.map_append, hl1] at hfl
                  have ef := hr.ev hf
                  simp only [SV.den, TV.den, S.den] at ef
                  have eargs : c.args.map a.eval = (vs.map (SV.den env η)).toArray := by
                    apply Array.ext'
                    rw [Array.toList_map, hr.evs hvs]
                  have hrun : (execOp a.eval o).run P w = .ok (.enter g (vs.map (SV.den env η)).toArray) w := by
                    rw [hcs, e3] at hfn
                    have he := enters_ hfn hname hbody (vs.map (SV.den env η)).toArray w
                    unfold execOp
                    simp [ho, resolve, hc, ef, Deferred.ofValue, invoke, eargs, he]
                  unfold Oper.wp
                  rw [hrun, Oper.upon_enter]
                  rw [hvals, hcs, hfl, e3] at hC
                  refine hC.mono fun e w' he => ?_
                  obtain ⟨outs, rfl, hk, hpost, hg, hB⟩ := he
                  rw [← hcs] at hk
                  have hr' := hr1.call hp.1.2 hB (hOO w' outs (by rw [hcs] at hk; exact hk) (by first | exact hg | (rw [hcs] at hg; exact hg)))
                  rw [hcs] at hk
                  have hlen := KindsOk.length hk
                  rw [hlen] at hr'
                  have hden : v.den (env ++ outs) η = mkRes sg.tup sg.rsh (outs.map (·.1)) := by
                    rw [resSV_sound hv]
                    have := atomsFrom_den (η := η) (e := env) hk
                    rw [hr.hn] at this
                    rw [this]
                  have := hr'.put o.dst v
                  rw [hden] at this
                  exact hK _ _ _ _ _ _ this ⟨⟨outs, rfl⟩, ⟨[], by simp⟩, (fun _ _ => hB), (fun _ _ p hp hlt => by rw [put_own] at hp; exact hsub1 p (ownRes_put hp (by rw [hn1]; exact hlt))), fun _ _ => by rw [put_dead]; exact hd1⟩ (hrest outs (by rw [hcs]; exact hk) hpost)
                · exact h.elim
              · exact h.elim
            · exact h.elim
          · rename_i caps _ _ _
            have inside : (sigs.H L.length st g (ptrS caps) vs (fun st v => k (st.put o.dst v))).wp cs Post env L → (al = false → isStore o.op = false → False) → o.wp P a w K Q := by
              intro h hs
              obtain ⟨⟨fn, hfn, hname, hbody⟩, hrun2⟩ := hT.H.run w0 Post L st env η m a w g (ptrS caps) vs _ hr h
              rw [ptrS_den] at hrun2
              have ef := hr.ev hf
              simp only [SV.den, TV.den, S.den] at ef
              have eargs : c.args.map a.eval = (vs.map (SV.den env η)).toArray := by
                apply Array.ext'
                rw [Array.toList_map, hr.evs hvs]
              have hrun : (execOp a.eval o).run P w = .ok (.enter g (vs.map (SV.den env η) ++ ptrs η caps).toArray) w := by
                have he := enters_ hfn hname hbody (vs.map (SV.den env η) ++ ptrs η caps).toArray w
                unfold ptrs at he
                unfold execOp
                simp [ho, resolve, hc, ef, Deferred.ofValue, invoke, eargs, ptrs]
                simpa using he
              unfold Oper.wp
              rw [hrun, Oper.upon_enter]
              refine (hrun2 (fun e w' => ∃ v, e = .returned v ∧ K (a.put o.dst v) w') fun st' v env' η' m' w' hr' he hη hk => ⟨_, rfl, hK _ _ _ _ _ _ (hr'.put o.dst v) ⟨he, hη, (fun h1 h2 => (hs h1 h2).elim), (fun h1 h2 => (hs h1 h2).elim), fun h1 h2 => (hs h1 h2).elim⟩ hk⟩).mono fun e w' he => ?_
              obtain ⟨v, rfl, hK'⟩ := he
              exact hK'
            split at h
            · exact inside h (fun _ hs => by rw [ho] at hs; simp [isStore, hc] at hs)
            · split at h
              · rename_i hal
                exact inside h (fun h1 _ => by rw [h1] at hal; cases hal)
              · exact h.elim
        · rename_i x vs hf hvs
          split at h
          · rename_i t
            refine seClo_sound hr h fun st1 g cl bs hs hr1 ex ecap h => ?_
            obtain ⟨⟨fn, hfn, hname, hbody⟩, hrun2⟩ := hT.H.run w0 Post L st1 env η m a w g (cptrs g cl x) vs _ hr1 h
            rw [ecap] at hrun2
            have ef := hr.ev hf
            simp only [SV.den, TV.den, S.den] at ef
            rw [ex] at ef
            have eargs : c.args.map a.eval = (vs.map (SV.den env η)).toArray := by
              apply Array.ext'
              rw [Array.toList_map, hr.evs hvs]
            have hst : isStore o.op = true := by rw [ho]; simp [isStore, hc]
            have hrun : (execOp a.eval o).run P w = .ok (.enter g (vs.map (SV.den env η) ++ (boxP bs).toList).toArray) w := by
              have he := enters_ hfn hname hbody (vs.map (SV.den env η) ++ (boxP bs).toList).toArray w
              have e9 : (vs.map (SV.den env η) ++ (boxP bs).toList).toArray = (vs.map (SV.den env η)).toArray ++ boxP bs := by apply Array.ext'; simp
              rw [e9] at he ⊢
              unfold execOp
              simp [ho, resolve, hc, ef, Deferred.ofValue, invoke, eargs]
              exact he
            unfold Oper.wp
            rw [hrun, Oper.upon_enter]
            refine (hrun2 (fun e w' => ∃ v, e = .returned v ∧ K (a.put o.dst v) w') fun st' v env' η' m' w' hr' he hη hk => ⟨_, rfl, hK _ _ _ _ _ _ (hr'.put o.dst v) ⟨he, hη, (fun _ h2 => by rw [hst] at h2; cases h2), (fun _ h2 => by rw [hst] at h2; cases h2), fun _ h2 => by rw [hst] at h2; cases h2⟩ hk⟩).mono fun e w' he => ?_
            obtain ⟨v, rfl, hK'⟩ := he
            exact hK'
          · exact h.elim
        · exact h.elim
      · rename_i hc
        split at h
        · rename_i vs hvs
          exact seAppend_sound hr ho hc hvs h hK
        · exact h.elim
      · exact h.elim
    · rename_i t len parts ho
      split at h
      · rename_i e hu
        split at h
        · rename_i sz z ps hsz hz hps
          split at h
          · rename_i l hl
            split at h
            case h_2 => exact h.elim
            rename_i st1 huse
            obtain ⟨m1, hm1, hr1, hgd⟩ := hr.use huse
            have hsub1 : ∀ p ∈ st1.own, p ∈ st.own := by
              obtain ⟨rfl, _⟩ := useS_own huse
              exact fun p hp => (List.mem_filter.1 hp).1
            have hn1 : st1.n = st.n := by obtain ⟨rfl, _⟩ := useS_own huse; rfl
            have hd1 : st1.dead = st.dead := by obtain ⟨rfl, _⟩ := useS_own huse; rfl
            split at h
            · rename_i hc
              simp only [Bool.and_eq_true, decide_eq_true_eq, beq_iff_eq] at hc
              obtain ⟨⟨⟨⟨⟨c1, c3⟩, c4⟩, c5⟩, c6⟩, c7⟩ := hc
              obtain ⟨it, zv, h1, h2, h3⟩ := zero_info (env := env) (η := η) hz
              have hcyc : ((Array.range (len * sz)).map (zv.cells[· % zv.cells.size]!)) = ((cycS z (len * sz)).map (S.den env η)).toArray := by
                rw [h3]
                apply Array.ext'
                simp only [cycS, Array.toList_map, Array.toList_range, List.map_map]
                refine List.map_congr_left fun i _ => ?_
                have hlt : i % z.length < z.length := Nat.mod_lt _ (by omega)
                simp [hlt, List.getD_eq_getElem?_getD]
              have hfill : Instr.fill (fun i => some (i * sz, sz)) ((cycS z (len * sz)).map (S.den env η)).toArray (parts.map fun (i, x) => (i, a.eval x)).toList = some (l.map (S.den env η)).toArray := by
                refine fill_sound hl ?_ ?_
                · rw [(allSome_map hps).1]; simp
                · intro i p q hp hq
                  simp only [Array.toList_map, List.getElem?_map] at hq
                  cases hx : parts.toList[i]? with
                  | none => rw [hx] at hq; cases hq
                  | some px =>
                    rw [hx] at hq
                    simp only [Option.map_some, Option.some.injEq] at hq
                    obtain ⟨y, hy, hy2⟩ := (allSome_map hps).2 i px hx
                    rw [hp] at hy2
                    obtain rfl := Option.some.inj hy2
                    cases hv : st.ev px.2 with
                    | none => rw [hv] at hy; cases hy
                    | some v' =>
                      rw [hv] at hy
                      simp only [Option.bind_some] at hy
                      cases v' with
                      | tup l => cases hy
                      | one t =>
                        simp only [partOf] at hy
                        split at hy
                        · rename_i hok
                          injection hy with hy
                          subst hy
                          subst hq
                          exact ⟨rfl, by rw [hr.ev hv]; exact TV.cells_den hr.elt hok⟩
                        · cases hy
              have hrun : (execOp a.eval o).run P w = .ok (.value (.slice (some ⟨w.heap.size, 0, none⟩) len len)) { w with heap := w.heap.push (.cells (l.map (S.den env η)).toArray e) } := by
                simp only [execOp, ho, Instr.buildSlice, Sem.run_bind, run_underlying_some hu, Result.andThen_ok, run_sizeOf_some hsz]
                rw [if_neg (by omega)]
                rw [Array.toList_map] at hfill
                by_cases h0 : len * sz = 0
                · have hl0 : cycS z (len * sz) = [] := by rw [h0]; rfl
                  rw [hl0] at hfill
                  simp only [List.map_nil] at hfill
                  simp [h0, (show Array.range 0 = #[] from rfl), hfill, newRow]
                · simp [h0, zero_run h1 h2, hcyc, hfill, newRow]
              have hmx : len ≤ maxLen := by
                have : len ≤ len * sz := Nat.le_mul_of_pos_right _ c1
                simp only [maxLen]; omega
              have hn := (hr1.newRow c7 c5 hmx c6 (fun s hs => hgd s hs (List.all_eq_true.1 c6 s hs)) e).put o.dst (.one (.s (.slc (.at st.n))))
              have hd : SV.den (env ++ [(.slice (some ⟨w.heap.size, 0, none⟩) len len, .rows sz ((chunkS sz len l).map (List.map (S.atom env))))]) η (.one (.s (.slc (.at st.n)))) = .slice (some ⟨w.heap.size, 0, none⟩) len len := by
                simp [SV.den, TV.den, S.den, X.den, ← hr.hn]
              rw [hd] at hn
              refine wp_value hrun ?_
              have hw := h w.heap.size
              rw [show (chunkS sz len l).length = len by simp [chunkS]] at hw
              exact hK _ _ _ _ _ _ hn ⟨⟨_, rfl⟩, ⟨[], by simp⟩, (fun _ _ => below_push w _), (fun _ _ p hp hlt => by rw [put_own] at hp; exact hsub1 p (ownRes_put hp (by rw [hn1]; exact hlt))), fun _ _ => by rw [put_dead]; exact hd1⟩ hw
            · exact h.elim
          · exact h.elim
        · exact h.elim
      · exact h.elim
    · -- part of a slice of ours
      rename_i ho
      split at h
      · rename_i s hx
        split at h
        · rename_i st1 huse
          obtain ⟨m1, hm1, hr1, hgd⟩ := hr.use huse
          have hsub1 : ∀ p ∈ st1.own, p ∈ st.own := by
            obtain ⟨rfl, _⟩ := useS_own huse
            exact fun p hp => (List.mem_filter.1 hp).1
          have hd1 : st1.dead = st.dead := by obtain ⟨rfl, _⟩ := useS_own huse; rfl
          split at h
          · rename_i ds v hv
            obtain ⟨hds, st', h1, h4, h5⟩ := needs_sound hr1.hk h
            refine wp_value (seVal_sound hr1 hv hds w) ?_
            exact hK _ _ _ _ _ _ ((hr1.same h1 h4).put o.dst v) ⟨⟨[], by simp⟩, ⟨[], by simp⟩, (fun _ _ => Below.refl _ _), (fun _ _ p hp _ => by rw [put_own, h1.own] at hp; exact hsub1 p hp), fun _ _ => by rw [put_dead, h1.dead]; exact hd1⟩ h5
          · exact h.elim
        · exact h.elim
      · exact h.elim
    · -- conversions
      rename_i s d x ho
      split at h
      · rename_i hsd
        obtain rfl : s = d := by simpa using hsd
        split at h
        case h_2 => exact h.elim
        rename_i e i hu hx
        split at h
        case h_2 => exact h.elim
        rename_i he
        split at h
        case isFalse => exact h.elim
        rename_i hc
        simp only [Bool.and_eq_true] at hc
        obtain ⟨hal, hown⟩ := hc
        have hmem : (i, e, 1) ∈ st.own := by simpa using hown
        obtain ⟨hds, st', h1, h4, h5⟩ := needs_sound hr.hk h
        have d1 : Nd.ok env (.row (.at i)) := hds _ (by simp)
        have d2 : Nd.ok env (.kind .slc (.at i)) := hds _ (by simp)
        have d3 : Nd.ok env (.tru (.not (.nilp (.at i)))) := hds _ (by simp)
        have ex := hr.ev hx
        simp only [SV.den, TV.den, S.den] at ex
        obtain ⟨z, els, r1, _, _, _, r5⟩ := (hr.own hmem).as d1
        simp only [Nd.ok, X.den] at d3
        rcases r5.2 with ⟨e1, _⟩ | ⟨g, cap, cur, e1, _, e3, _⟩
        · simp only [X.den] at e1
          rw [e1] at d3
          simp [va] at d3
        have e1' : ((X.at i).den env).1 = .slice (some ⟨g, 0, none⟩) els.length cap := e1
        rw [e1'] at ex
        obtain ⟨fz, e4, hfz⟩ := e3
        have hfr : w.freeze ⟨g, cur.size, none⟩ 1 = { w with heap := w.heap.modify g fun
            | .cells c elem (lo, hi) => .cells c elem (if lo == hi then (cur.size, cur.size + 1) else (min lo cur.size, max hi (cur.size + 1)))
            | o => o } := by
          unfold World.freeze
          rw [if_neg (by decide)]
          rfl
        have hsh : w.shape? g = some (e, cur.size) := by simp [World.shape?, e4]
        have hrun : (execOp a.eval o).run P w = .ok (.value (.slice (some ⟨g, 0, none⟩) els.length cap)) (w.freeze ⟨g, cur.size, none⟩ 1) := by
          simp [execOp, ho, ex, convert, run_underlying_some hu, run_underlying_some he, markStringish, hsh]
        have hgr : w.grownBy (w.freeze ⟨g, cur.size, none⟩ 1) (some g) := by
          rw [hfr]
          refine ⟨rfl, rfl, rfl, by simp, fun j _ hj => ?_⟩
          simp only [Array.getElem?_modify]
          rw [if_neg (fun q => hj (by rw [q]))]
        have hbo : blkOf env (i, e, 1) = some g := by
          have : ownB ((X.at i).den env) = some g := by rw [ownB_of r1, e1']; rfl
          exact this
        have hrow : ∀ cur' e', okRow w g cur' e' → okRow (w.freeze ⟨g, cur.size, none⟩ 1) g cur' e' := by
          rintro cur' e' ⟨fz', q1, q2⟩
          rw [e4] at q1
          injection q1 with q1
          injection q1 with q1 q3 q4
          subst q1; subst q3; subst q4
          obtain ⟨lo, hi⟩ := fz
          refine ⟨if lo == hi then (cur.size, cur.size + 1) else (min lo cur.size, max hi (cur.size + 1)), ?_, ?_⟩
          · rw [hfr]
            simp only [Array.getElem?_modify, if_true, e4]
            rfl
          · by_cases hlh : lo = hi
            · simp [hlh]
            · simp only at q2
              have : (lo == hi) = false := by simpa using hlh
              simp only [this, Bool.false_eq_true, if_false]
              right
              rcases q2 with q2 | q2
              · exact absurd q2 hlh
              · omega
        refine wp_value hrun ?_
        have hr2 := ((hr.markRow hmem hbo hgr hrow).same h1 h4).put o.dst (.one (.s (.slc (.at i))))
        have hd : SV.den env η (.one (.s (.slc (.at i)))) = .slice (some ⟨g, 0, none⟩) els.length cap := e1'
        rw [hd] at hr2
        exact hK _ _ _ _ _ _ hr2 ⟨⟨[], by simp⟩, ⟨[], by simp⟩, (fun q _ => by rw [hal] at q; cases q), (fun q _ => by rw [hal] at q; cases q), (fun q _ => by rw [hal] at q; cases q)⟩ h5
      split at h
      · rename_i e x' hs hd hx
        split at h
        · rename_i he hz
          obtain ⟨hds, st3, hsame, hkn, h⟩ := needs_sound hr.hk h
          split at h
          · rename_i hb
            have hr3 := hr.same hsame hkn
            have d4 : Nd.ok env (.tru (.cmp .leq (.size x') (.int 70368744177664))) := hds _ (by simp)
            simp only [Nd.ok, X.den, vi_int, cmpD, vb_bool] at d4
            replace d4 := of_decide_eq_true d4
            have ex := hr.ev hx
            simp only [SV.den, TV.den, S.den] at ex
            have hrun : (execOp a.eval o).run P w = .ok (.value (.slice (some ⟨w.heap.size, 0, none⟩) (vs (x'.den env).1).size (grownCap w (vs (x'.den env).1).size 0 e))) (Go.Lib.bytesWorld w e (vs (x'.den env).1)) := by
              simp only [execOp, ho, ex, Sem.run_bind]
              rw [Go.Lib.run_convert_string_bytes w s d e _ hs hd he]; rfl
            refine wp_value hrun ?_
            have hB : Below w.heap.size w (Go.Lib.bytesWorld w e (vs (x'.den env).1)) := ⟨rfl, rfl, rfl, by rw [Go.Lib.bytesWorld_size]; omega, fun k hk => Go.Lib.bytesWorld_at_old w e _ k hk⟩
            have hge := grownCap_ge w (vs (x'.den env).1).size 0 e
            have hx2 : OwnAs m (Go.Lib.bytesWorld w e (vs (x'.den env).1)) w0.w.heap.size (.slice (some ⟨w.heap.size, 0, none⟩) (vs (x'.den env).1).size (grownCap w (vs (x'.den env).1).size 0 e), .rows 1 (ofB (vs (x'.den env).1))) e 1 := by
              refine ⟨1, ofB (vs (x'.den env).1), rfl, fun _ => rfl, fun row h => ofB_row row h, fun row h y hy => ofB_good row h y hy, ?_⟩
              rw [ofB_length, flat_ofB]
              refine ⟨by rw [Go.Lib.strCells_length]; omega, .inr ⟨w.heap.size, _, Go.Lib.bytesCells w e (vs (x'.den env).1), rfl, hr.hB.size, ⟨_, Go.Lib.bytesWorld_at_new w e _, .inr (Nat.le_refl _)⟩, hge, grownCap_le_maxLen w _ 0 e (by simp only [maxLen]; omega), ?_, ?_⟩⟩
              · have : (vs (x'.den env).1).data.size = (vs (x'.den env).1).size := rfl
                simp only [Go.Lib.bytesCells, Array.size_append, Array.size_map, Array.size_replicate]; omega
              · have hl : (Go.Lib.strCells (vs (x'.den env).1)).length = (vs (x'.den env).1).size := Go.Lib.strCells_length _
                have hsc : (vs (x'.den env).1).data.toList.map (fun b => Value.int .u8 b.toNat) = Go.Lib.strCells (vs (x'.den env).1) := by simp [Go.Lib.strCells]
                simp only [Go.Lib.bytesCells, Array.toList_append, Array.toList_map, hsc]
                rw [Nat.mul_one, ← hl, List.take_left]
            have hr' := (hr3.grow hb (below_grown hB) (fun g hg => by cases hg) (fun g hg => by cases hg) hx2 (fun g hg => .inr (by simp only [Value.ownBlock, Option.some.injEq] at hg; omega)) rfl).put o.dst (.one (.s (.slc (.at st3.n))))
            rw [at_end hr3.hn] at hr'
            refine hK _ _ _ _ _ _ hr' ⟨⟨_, rfl⟩, ⟨[], by simp⟩, (fun _ _ => hB), (fun _ _ p hp hlt => by rw [put_own] at hp; have := ownRes_put hp (by rw [hsame.n]; exact hlt); rw [hsame.own] at this; exact this), fun _ _ => by rw [put_dead]; exact hsame.dead⟩ ?_
            have hw := h (some ⟨w.heap.size, 0, none⟩) (grownCap w (vs (x'.den env).1).size 0 e)
            simpa [X.den, D.els] using hw
          · exact h.elim
        · exact h.elim
      · rename_i e x' hs hd hx
        split at h
        · rename_i he
          split at h
          · rename_i hrow
            obtain ⟨hds, st', h1, h4, h5⟩ := needs_sound hr.hk h
            have d1 : Nd.ok env (.kind .slc x') := hds _ (by simp)
            have d2 : Nd.ok env (.bytes x') := hds _ (by simp)
            obtain ⟨ax, nx, cx, d1⟩ := d1
            obtain ⟨z1, bs, d2, hz1⟩ := d2
            have ex := hr.ev hx
            simp only [SV.den, TV.den, S.den, d1] at ex
            have hcells : ∀ p, ax = some p → nx = bs.size ∧ ∀ (j : Nat) u, (Go.Lib.strCells bs)[j]? = some u → w.cell? (p.add j) = some u := by
              intro p hp
              subst hp
              rcases hz1 with h0 | rfl
              · have hs0 : bs.size = 0 := by rw [← ofB_length, h0]; rfl
                refine ⟨?_, fun j u hu => ?_⟩
                · rcases rowOk_cases hrow with hl | ⟨q, hq, rfl⟩
                  · have hg := (hr.live hl).1
                    rw [d1, d2] at hg
                    generalize hE : ofB bs = E at hg
                    cases hg with
                    | rows => rw [← hE]; exact ofB_length bs
                  · obtain ⟨z', els', q1, q2, q3, q4, q5⟩ := (hr.own hq).as ⟨_, _, d2⟩
                    have q1' : D.rows z1 (ofB bs) = D.rows z' els' := by rw [← q1, d2]
                    injection q1' with q0 q1'
                    subst q0; subst q1'
                    rw [d1] at q5
                    rcases q5.2 with ⟨e5, _⟩ | ⟨g, cap, cur, e5, _⟩
                    · cases e5
                    · injection e5 with e5 e6 e7
                      rw [e6, ofB_length]
                · have hl0 : (Go.Lib.strCells bs).length = 0 := by rw [Go.Lib.strCells_length]; exact hs0
                  rw [List.getElem?_eq_none (by omega)] at hu; cases hu
              rcases rowOk_cases hrow with hl | ⟨q, hq, rfl⟩
              · have hg := (hr.live hl).1
                rw [d1, d2] at hg
                cases hg with
                | rows _ _ _ _ hz' hcell _ _ _ =>
                  refine ⟨ofB_length bs, fun j u hu => ?_⟩
                  rw [← flat_ofB] at hu
                  obtain ⟨i1, j1, row, y, q1, q2, q3, q4⟩ := flat_inv ofB_row hu
                  rw [q3, q4]
                  exact (hr.hm _ _ (hcell _ _ _ _ q1 q2)).1
              · obtain ⟨z', els', q1, q2, q3, q4, q5⟩ := (hr.own hq).as ⟨_, _, d2⟩
                have q1' : D.rows 1 (ofB bs) = D.rows z' els' := by rw [← q1, d2]
                injection q1' with q0 q1'
                subst q0; subst q1'
                rw [d1] at q5
                rcases q5.2 with ⟨e5, _⟩ | ⟨g, cap, cur, e5, _⟩
                · cases e5
                · injection e5 with e5 e6 e7
                  injection e5 with e5
                  subst e5
                  refine ⟨by rw [e6, ofB_length], fun j u hu => q5.cells rfl j u (by rw [flat_ofB]; exact hu)⟩
            have hnil : ax = none → bs.size = 0 := by
              intro hp
              subst hp
              rcases rowOk_cases hrow with hl | ⟨q, hq, rfl⟩
              · have hg := (hr.live hl).1
                rw [d1, d2] at hg
                generalize hE : ofB bs = E at hg
                cases hg with
                | nil => rw [← ofB_length, hE]; rfl
              · obtain ⟨z', els', q1, q2, q3, q4, q5⟩ := (hr.own hq).as ⟨_, _, d2⟩
                have q1' : D.rows z1 (ofB bs) = D.rows z' els' := by rw [← q1, d2]
                injection q1' with q0 q1'
                subst q0; subst q1'
                rw [d1] at q5
                rcases q5.2 with ⟨e5, e6⟩ | ⟨g, cap, cur, e5, _⟩
                · rw [← ofB_length]; exact e6
                · cases e5
            have hsob : byD (X.den env x').2 = bs := by
              rw [d2]
              unfold byD ofB
              simp only [D.els, List.map_map]
              apply ByteArray.ext
              apply Array.ext'
              simp only
              conv => rhs; rw [← List.map_id bs.data.toList]
              refine List.map_congr_left fun b _ => ?_
              simp [List.getD_eq_getElem?_getD]
            have hrun : (execOp a.eval o).run P w = .ok (.value (.string bs)) w := by
              simp only [execOp, ho, ex, convert, Sem.run_bind, run_underlying_some hs, run_underlying_some hd, run_underlying_some he, Result.andThen_ok]
              cases ax with
              | none =>
                have : bs = ByteArray.empty := by
                  apply ByteArray.ext; apply Array.ext'; exact List.eq_nil_of_length_eq_zero (by rw [Array.length_toList]; exact hnil rfl)
                simp [Conv.bytesToString, this]
              | some p =>
                obtain ⟨rfl, hc⟩ := hcells p rfl
                have hld : (loadCells p bs.size).run P w = .ok ((bs.data.toList.map fun b => (b.toNat : Int)).map (Value.int .u8)).toArray w := by
                  have := run_loadCells_list (P := P) w p (Go.Lib.strCells bs) hc
                  rw [Go.Lib.strCells_length] at this
                  rw [this]
                  simp [Go.Lib.strCells]
                rw [run_bytesToString w p bs.size cx _ hld]
                simp only [Result.andThen_ok, Sem.run_pure]
                congr 3
                rw [foldl_push]
                apply ByteArray.ext
                apply Array.ext'
                simp
                conv => rhs; rw [← List.map_id bs.data.toList]
                refine List.map_congr_left fun b _ => ?_
                simp
            refine wp_value hrun ?_
            have := (hr.same h1 h4).put o.dst (.one (.s (.str (.sob x'))))
            have hd2 : SV.den env η (.one (.s (.str (.sob x')))) = .string bs := by simp only [SV.den, TV.den, S.den, X.den, vs_string, hsob]
            rw [hd2] at this
            exact hK _ _ _ _ _ _ this (Fwd.same h1 o al w) h5
          · exact h.elim
        · exact h.elim
      · rename_i e b off len cap hs hd hx
        split at h
        · rename_i bl he hbl
          split at h
          · rename_i x' hch
            split at h
            · rename_i hc
              simp only [Bool.and_eq_true, decide_eq_true_eq, Option.isNone_iff_eq_none] at hc
              obtain ⟨hc1, hmp⟩ := hc
              have hg := hr.hb b bl hbl
              simp only [Blk.obj, hmp] at hg
              have ex := hr.ev hx
              simp only [SV.den, TV.den, S.den] at ex
              obtain ⟨ns, hns, hv⟩ := chrs_sound (env := env) (η := η) hch
              have hld : (loadCells ⟨η.getD b 0, off, none⟩ len).run P w = .ok (ns.map (Value.int .u8)).toArray w := by
                have := run_loadCells_list (P := P) w ⟨η.getD b 0, off, none⟩ (((bl.cells.drop off).take len).map (S.den env η)) (fun j u hu => by
                  rw [add_mk, cells_cell hg]
                  simp only [List.getElem?_map, List.getElem?_take, List.getElem?_drop] at hu
                  split at hu
                  · exact hu
                  · cases hu)
                rw [hns] at this
                rw [show (List.map (Value.int .u8) ns).length = len by rw [← hns]; simp; omega] at this
                exact this
              have hrun : (execOp a.eval o).run P w = .ok (.value (.string (vs (x'.den env).1))) w := by
                simp only [execOp, ho, ex, convert, Sem.run_bind, run_underlying_some hs, run_underlying_some hd, run_underlying_some he, Result.andThen_ok]
                rw [run_bytesToString w _ len cap _ hld, hv]; rfl
              refine wp_value hrun ?_
              exact hK _ _ _ _ _ _ (hr.put o.dst (.one (.s (.str x')))) (Fwd.same (.refl st) o al w) h
            · exact h.elim
          · exact h.elim
        · exact h.elim
      · exact h.elim
    · -- a new map
      rename_i t ho
      split at h
      · rename_i kt et hu
        split at h
        · rename_i q hq
          split at h
          · rename_i hp
            have hrun : (execOp a.eval o).run P w = .ok (.value (.map (some w.heap.size))) { w with heap := w.heap.push (Blk.obj env η ⟨[], t, some (q, [])⟩) } := by
              simp [execOp, ho, Instr.makeMap, newObj, Blk.obj]
              rfl
            refine wp_value hrun ?_
            have hn := (hr.newBlk hp (z := []) rfl t (some (q, []))).put o.dst (.one (.s (.mp st.blks.length)))
            have hd : SV.den env (η ++ [w.heap.size]) (.one (.s (.mp st.blks.length))) = .map (some w.heap.size) := by
              simp [SV.den, TV.den, S.den, List.getD_eq_getElem?_getD, ← hr.he]
            rw [hd] at hn
            exact hK _ _ _ _ _ _ hn ⟨⟨[], by simp⟩, ⟨_, rfl⟩, (fun _ _ => below_push w _), (fun _ _ p hp _ => by rw [put_own] at hp; exact hp), fun _ _ => put_dead⟩ h
          · exact h.elim
        · exact h.elim
      · exact h.elim
    · rename_i t pm key px ho
      exact upd (.inl ho) h
    · rename_i t pm key px ho
      exact upd (.inr ho) h
    · -- a look into a map
      rename_i t pm key ok ho
      split at h
      case h_2 => exact h.elim
      rename_i kt et b q x hu hm hk
      split at h
      case h_2 => exact h.elim
      rename_i q0 bl z hkt hbl hz
      split at h
      case h_2 => exact h.elim
      rename_i q' keys hmp
      split at h
      case isFalse => exact h.elim
      rename_i hc
      simp only [Bool.and_eq_true, beq_iff_eq] at hc
      obtain ⟨rfl, hlen⟩ := hc
      obtain ⟨st', hs', hr', hcase⟩ := lookS_sound hr h
      have em := hr.ev hm
      have ek := hr.ev hk
      simp only [SV.den, TV.den, S.den] at em ek
      have hg := hr.hb b bl hbl
      simp only [Blk.obj, hmp] at hg
      have hzv : ∃ zv', (zeroValue et).run P w = .ok zv' w ∧ zv' = z.den env η := by
        unfold zero1 at hz
        cases hi : P.info? et with
        | none => rw [hi] at hz; cases hz
        | some it =>
          rw [hi] at hz
          simp only [Option.bind_some] at hz
          cases hzz : it.zero with
          | none => rw [hzz] at hz; cases hz
          | some zv =>
            rw [hzz] at hz
            refine ⟨zv, zero_run hi hzz w, ?_⟩
            unfold cstS at hz
            simp only at hz
            split at hz
            · rename_i s hs
              injection hz with hz
              subst hz
              exact (cstV_den (env := env) (η := η) hs).symm
            · cases hz
      have hfk := run_findKey_ents (env := env) (η := η) (q := q) hkt (vi (x.den env).1) (keys.zip bl.cells) w
      have hrun : ∀ (r : Option S), ((keys.zip bl.cells).find? (fun p => vi (x.den env).1 == p.1)).map (·.2) = r → (execOp a.eval o).run P w = .ok (.value (if ok then .tuple #[(r.getD z).den env η, .bool r.isSome] else (r.getD z).den env η)) w := by
        intro r hr0
        have hlk : (Instr.lookup t (.map (some (η.getD b 0))) (.int q (vi (x.den env).1)) ok).run P w = .ok (if ok then .tuple #[(r.getD z).den env η, .bool r.isSome] else (r.getD z).den env η) w := by
          unfold Instr.lookup
          simp only [Sem.run_bind, run_underlying_some hu, Result.andThen_ok, getObj_ents hg, Sem.run_pure, run_checkKey_int hkt]
          have hfk2 : (Instr.findKey kt (.int q (vi (x.den env).1)) (List.map (fun p : (Int × S) × Nat => (⟨.int q p.1.1, p.1.2.den env η, p.2⟩ : MapEntry)) (keys.zip bl.cells).zipIdx)).run P w = _ := hfk
          rw [hfk2]
          cases hf : (keys.zip bl.cells).find? (fun p => vi (x.den env).1 == p.1) with
          | none =>
            rw [hf] at hr0
            simp only [Option.map_none] at hr0
            subst hr0
            obtain ⟨zv', hz1, rfl⟩ := hzv
            simp only [Result.andThen_ok, Sem.run_bind, hz1, Sem.run_pure]
            cases ok <;> rfl
          | some p =>
            rw [hf] at hr0
            simp only [Option.map_some] at hr0
            subst hr0
            simp only [Result.andThen_ok, Sem.run_pure]
            cases ok <;> rfl
        simp only [execOp, ho, em, ek, Sem.run_bind, hlk, Result.andThen_ok, Sem.run_pure]
      have fin : ∀ (r : Option S), ((keys.zip bl.cells).find? (fun p => vi (x.den env).1 == p.1)).map (·.2) = r → (k (st'.put o.dst (if ok then .tup [.s (r.getD z), .s (.bool (.bool r.isSome))] else .one (.s (r.getD z))))).wp cs Post env L → o.wp P a w K Q := by
        intro r hf hw
        refine wp_value (hrun r hf) ?_
        have h2 := hr'.put o.dst (if ok then .tup [.s (r.getD z), .s (.bool (.bool r.isSome))] else .one (.s (r.getD z)))
        have hd : SV.den env η (if ok then .tup [.s (r.getD z), .s (.bool (.bool r.isSome))] else .one (.s (r.getD z))) = (if ok then .tuple #[(r.getD z).den env η, .bool r.isSome] else (r.getD z).den env η) := by
          cases ok <;> rfl
        rw [hd] at h2
        exact hK _ _ _ _ _ _ h2 (Fwd.same hs' o al w) hw
      rcases hcase with ⟨c, s, _, _, _, hw, hf⟩ | ⟨hw, hf⟩
      · exact fin (some s) (by rw [hf]; rfl) hw
      · exact fin none (by rw [hf]; rfl) hw
    · exact h.elim
end
end Go.Proofs.YtamjocnlhhhijaaV

namespace Go.Proofs.YtamjocnlhhhijaaV
open Go Go.RowKit Go.Proofs.YtamjocnlhhhijaaW.PrintLast

section
variable {w0 : Base} {w : World} {st : St} {env : List Atom} {η : List Nat} {m : Addr → Option Value} {a : Act} {P : Program} {ops : Array Oper}
variable {cs : Nat → Sig × Con} {Post : List Atom → Prop} {L : List (List Atom → Prop)} {sigs : Sg}
theorem seGuard_sound (hr : Rel w0 st env η m a w) {o : Oper} {perform skip : St → T} {C : Prop} (h : (seGuard ops st o perform skip).wp cs Post env L)
    (h1 : ∀ st', Rel w0 st' env η m a w → Same st' st → Region.wanted o (yielded ops a.tmps) = true → (perform st').wp cs Post env L → C)
    (h2 : ∀ st', Rel w0 st' env η m a w → Same st' st → Region.wanted o (yielded ops a.tmps) = false → (skip st').wp cs Post env L → C) : C := by
  unfold seGuard at h
  cases hg : o.guard with
  | none =>
    rw [hg] at h
    exact h1 st hr (.refl st) (by simp [Region.wanted, hg]) h
  | some p =>
    obtain ⟨j, want⟩ := p
    rw [hg] at h
    simp only at h
    cases hd : (ops[j]?).bind (·.dst) with
    | none => rw [hd] at h; exact h.elim
    | some d =>
      rw [hd] at h
      simp only at h
      split at h
      · rename_i x hx
        have hv := (hr.ht d _ hx).resolve_left (by intro e; cases e)
        simp only [SV.den, TV.den, S.den] at hv
        have hw : ∀ b, Region.wanted o (yielded ops a.tmps) = (some (vb (x.den env).1) == some b) → b = want → Region.wanted o (yielded ops a.tmps) = (vb (x.den env).1 == want) := by
          intro b e1 e2; rw [e1, e2]; rfl
        have hwant : Region.wanted o (yielded ops a.tmps) = (vb (x.den env).1 == want) := by
          simp only [Region.wanted, hg, yielded, hd, Option.bind_some, hv]; rfl
        cases want with
        | true =>
          simp only [if_true] at h
          refine seBr_sound hr.hk h (fun st' e1 e4 e5 e6 => h1 st' (hr.same e1 e4) e1 (by rw [hwant, e5]; rfl) e6) (fun st' e1 e4 e5 e6 => h2 st' (hr.same e1 e4) e1 (by rw [hwant, e5]; rfl) e6)
        | false =>
          simp only [Bool.false_eq_true, if_false] at h
          refine seBr_sound hr.hk h (fun st' e1 e4 e5 e6 => h2 st' (hr.same e1 e4) e1 (by rw [hwant, e5]; rfl) e6) (fun st' e1 e4 e5 e6 => h1 st' (hr.same e1 e4) e1 (by rw [hwant, e5]; rfl) e6)
      · rename_i hx
        have hv := (hr.ht d _ hx).resolve_left (by intro e; cases e)
        simp only [SV.den, TV.den, S.den] at hv
        refine h2 st hr (.refl st) ?_ h
        simp only [Region.wanted, hg, yielded, hd, Option.bind_some, hv, Go.undef]; rfl
      · exact h.elim
/-- The wide fence, in a round or in none. -/
def wideR (r : Option Nat) : Fence := { Fence.wide with round := r }
theorem wideR_none : wideR none = Fence.wide := rfl
theorem rows_wide {r : Option Nat} {n : Nat} {row : String} {args : Array Value} {R : Value → World → Prop} (h : Rows P row args w R) : RowsIn (wideR r) n P row args w R :=
  fun c cs _ => let ⟨v, w', r, s⟩ := h c cs; ⟨v, w', r, stepsIn_wide.2 s⟩
theorem upon_wide {r : Option Nat} {o : Oper} {K : Act → World → Prop} {Q : Exit → Act → World → Prop} {res : Result Next} (h : o.upon P a K Q res) : o.uponIn (wideR r) 0 P a K Q res := by
  cases res with
  | ok nx w' =>
    cases nx with
    | value v => exact h
    | skip => exact h
    | defer d => exact h
    | enter f args => exact ⟨fun e => (by cases e), callsIn_wide.2 h⟩
    | row r' args => exact ⟨fun e => (by cases e), rows_wide h⟩
    | _ => exact h.elim
  | halt x w' => cases x <;> exact h
theorem wp_wide {r : Option Nat} {o : Oper} {K : Act → World → Prop} {Q : Exit → Act → World → Prop} (h : o.wp P a w K Q) (hd : ∀ c, o.op ≠ .defer c) : o.wpIn (wideR r) 0 P a w K Q := by
  refine ⟨fun _ _ => trivial, ?_⟩
  rw [Oper.semAt_eq _ _ _ hd]
  exact upon_wide h
theorem seOp_nodefer {al : Bool} {lv : Nat} {o : Oper} {k : St → T} (h : (seOp P sigs al lv st o k).wp cs Post env L) : ∀ c, o.op ≠ .defer c := by
  intro c e
  unfold seOp at h
  rw [e] at h
  simp only [seVal] at h
  exact h.elim
/-- An operation, or a call of yield. -/
theorem seOpY_sound (hT : Table P sigs cs w0) (hr : Rel w0 st env η m a w) {o : Oper} {k : St → T} (h : (seOpY P sigs L.length st o k).wp cs Post env L) {r : Option Nat} {K : Act → World → Prop} {Q : Exit → Act → World → Prop}
    (hK : ∀ st' env' η' m' a' w', Rel w0 st' env' η' m' a' w' → (∃ l, env' = env ++ l) → (∃ l, η' = η ++ l) → (k st').wp cs Post env' L → K a' w') : o.wpIn (wideR r) 0 P a w K Q := by
  unfold seOpY at h
  split at h
  · rename_i yh vs hy
    have hyr := hT.yr
    unfold yieldOf at hy
    split at hy
    case h_1 => cases hy
    rename_i y0 y hh e0
    rw [e0] at hyr
    split at hy
    case h_2 => cases hy
    rename_i c ho
    split at hy
    case h_2 => cases hy
    rename_i f hc
    split at hy
    case h_2 => cases hy
    rename_i i vs' hf hvs
    split at hy
    case isFalse => cases hy
    rename_i hi
    have hi : i = y := by simpa using hi
    subst hi
    simp only [Option.some.injEq, Prod.mk.injEq] at hy
    obtain ⟨rfl, rfl⟩ := hy
    obtain ⟨Lr, rec, tv, hst, hfacts, hrun⟩ := hyr
    obtain ⟨hlen, hround⟩ := hrun w0 hfacts Post L st env η m a w vs' _ hr h
    have ef := hr.ev hf
    rw [(hr.hd.ys _ (hfacts.ys _ List.mem_cons_self)).1] at ef
    have hL := (hr.hd.kp _ _ hfacts.pr).2
    have eargs : c.args.map a.eval = (vs'.map (SV.den env η)).toArray := by
      apply Array.ext'
      rw [Array.toList_map, hr.evs hvs]
    have hyl := run_yield (P := P) (args := (vs'.map (SV.den env η)).toArray) hL (by simpa using hlen)
    have hex : (execOp a.eval o).run P w = .ok (.round Lr rec.fn ((rec.params.zip (vs'.map (SV.den env η)).toArray).foldl (fun t (p, v) => t.setIfInBounds p v) rec.tmps) rec.assign rec.body) w := by
      refine Eq.trans ?_ hyl
      unfold execOp
      simp [ho, resolve, hc, ef, Deferred.ofValue, invoke, eargs]
    refine ⟨fun _ _ => trivial, ?_⟩
    rw [Oper.semAt_eq _ _ _ (fun c' e => by rw [ho] at e; cases e), hex, Oper.uponIn_round]
    refine ⟨fun e => (by cases e), ?_⟩
    have := hround (fun e w' => ∃ v, e = .returned v ∧ K (a.put o.dst v) w') fun st' v env' η' m' w' hr' he hη hk => ⟨_, rfl, hK _ _ _ _ _ _ (hr'.put o.dst v) he hη hk⟩
    refine RoundIn.mono (F := wideR r) this fun e w' he => ?_
    obtain ⟨v, rfl, hK'⟩ := he
    exact hK'
  · exact wp_wide (seOp_sound hT hr h fun st2 env2 η2 m2 a2 w2 hr2 hF h2 => hK _ _ _ _ _ _ hr2 hF.env hF.eta h2) (seOp_nodefer h)
theorem seSeq_sound (hT : Table P sigs cs w0) {r : Option Nat} {Q : Exit → Act → World → Prop} {k : St → T}
    {env0 : List Atom} {η0 : List Nat} (hK : ∀ st' env' η' m' a' w', Rel w0 st' env' η' m' a' w' → (∃ l, env' = env0 ++ l) → (∃ l, η' = η0 ++ l) → (k st').wp cs Post env' L → Q .normal a' w') :
    ∀ (l : List Oper) (st : St) (env : List Atom) (η : List Nat) (m : Addr → Option Value) (a : Act) (w : World), Rel w0 st env η m a w → (∃ l, env = env0 ++ l) → (∃ l, η = η0 ++ l) → (seSeq P sigs L.length ops l st k).wp cs Post env L → wpListIn (wideR r) 0 P ops Q l a w
  | [], st, env, η, m, a, w, hr, he, hη, h => hK _ _ _ _ _ _ hr he hη h
  | o :: l, st, env, η, m, a, w, hr, he, hη, h => by
    unfold wpListIn
    simp only [seSeq] at h
    refine seGuard_sound hr h (fun st' hr' _ hw h => ?_) (fun st' hr' _ hw h => ?_)
    · rw [if_pos hw]
      exact seOpY_sound hT hr' h fun st2 env2 η2 m2 a2 w2 hr2 hF1 hF2 h2 => seSeq_sound hT hK l _ _ _ _ _ _ hr2 (by
        obtain ⟨x, rfl⟩ := he
        obtain ⟨y, rfl⟩ := hF1
        exact ⟨x ++ y, by simp⟩) (by
        obtain ⟨x, rfl⟩ := hη
        obtain ⟨y, rfl⟩ := hF2
        exact ⟨x ++ y, by simp⟩) h2
    · rw [if_neg (by rw [hw]; simp)]
      exact ⟨fun _ _ => trivial, seSeq_sound hT hK l _ _ _ _ _ _ (hr'.put_undef o.dst) he hη h⟩
/-! ### What follows is uniform -/
theorem seBr_bind {f : St → T} {x : X} : ∀ {kt kf : St → T}, (seBr st x kt kf).bind f = seBr st x (fun s => (kt s).bind f) (fun s => (kf s).bind f) := by
  have main : ∀ (x : X) {kt kf : St → T}, (match st.tells x with
        | some true => kt st
        | some false => kf st
        | none => T.br x (kt (st.knows x true)) (kf (st.knows x false))).bind f = (match st.tells x with
        | some true => (kt st).bind f
        | some false => (kf st).bind f
        | none => T.br x ((kt (st.knows x true)).bind f) ((kf (st.knows x false)).bind f)) := by
    intro x kt kf; split <;> rfl
  induction x with
  | not y ih => intro kt kf; exact ih
  | _ => intro kt kf; exact main _
theorem needs_bind {f : St → T} {k : St → T} : ∀ {ds : List Nd} {st : St}, (needs st ds k).bind f = needs st ds (fun s => (k s).bind f)
  | [], _ => rfl
  | .tru x :: r, st => by
    simp only [needs]
    split
    · exact needs_bind
    · simp only [T.bind, needs_bind]
  | .kind _ _ :: r, st => by simp only [needs, T.bind, needs_bind]
  | .row _ :: r, st => by simp only [needs, T.bind, needs_bind]
  | .sz _ _ :: r, st => by simp only [needs, T.bind, needs_bind]
  | .bytes _ :: r, st => by simp only [needs, T.bind, needs_bind]
  | .szz _ _ :: r, st => by simp only [needs, T.bind, needs_bind]
theorem seGuard_bind {f : St → T} {o : Oper} {p s : St → T} : (seGuard ops st o p s).bind f = seGuard ops st o (fun x => (p x).bind f) (fun x => (s x).bind f) := by
  unfold seGuard
  split
  · rfl
  · split
    · rfl
    · split
      · split <;> exact seBr_bind
      · rfl
      · rfl
theorem seCloL_bind (hH : HB sigs.H) {f : St → T} {lv : Nat} {x : X} {vs : List SV} {k : St → SV → T} : ∀ {l : List (FuncId × List Cc)} {st : St}, (seCloL sigs lv x vs k l st).bind f = seCloL sigs lv x vs (fun s v => (k s v).bind f) l st
  | [], _ => rfl
  | (g, cl) :: r, st => by
    simp only [seCloL]
    rw [seBr_bind]
    congr 1
    · funext s; exact hH _ _ _ _ _ _ _
    · funext s; exact seCloL_bind hH
theorem seClo_bind (hH : HB sigs.H) {f : St → T} {lv : Nat} {x : X} {vs : List SV} {k : St → SV → T} : (seClo sigs lv st x vs k).bind f = seClo sigs lv st x vs (fun s v => (k s v).bind f) := by
  unfold seClo
  split
  · split
    · exact hH _ _ _ _ _ _ _
    · exact seCloL_bind hH
  · rfl
theorem lookS_bind {f : St → T} {x : X} {k : St → Option S → T} : ∀ {es : List (Int × S)} {st : St}, (lookS st x k es).bind f = lookS st x (fun s r => (k s r).bind f) es
  | [], _ => rfl
  | (c, s) :: r, st => by
    simp only [lookS]
    rw [seBr_bind]
    congr 1
    funext s
    exact lookS_bind
theorem seAppend_bind {f : St → T} {d : Option Tmp} {tys : List TypeId} {vs : List SV} {k : St → T} : (seAppend P st d tys vs k).bind f = seAppend P st d tys vs (fun x => (k x).bind f) := by
  unfold seAppend
  split
  · split
    · split
      · split
        · split
          · split
            · split
              · rw [needs_bind]; congr 1; funext s; split <;> rfl
              · rfl
            · split
              · split
                · rw [needs_bind]; congr 1; funext s; split <;> rfl
                · rfl
              · rfl
            · rfl
          · rfl
        · rfl
      · rfl
    · rfl
  · rfl
theorem seSto_bind {f : St → T} {t : TypeId} {s i : X} {z off : Nat} {v : List S} {k : St → T} : (seSto P st t s i z off v k).bind f = seSto P st t s i z off v (fun x => (k x).bind f) := by
  unfold seSto
  split
  · split
    · split
      · rw [needs_bind]; congr 1; funext s; split <;> rfl
      · rfl
    · rfl
  · rfl
theorem seOp_bind (hH : HB sigs.H) {f : St → T} {o : Oper} {al : Bool} {lv : Nat} {k : St → T} : (seOp P sigs al lv st o k).bind f = seOp P sigs al lv st o (fun x => (k x).bind f) := by
  unfold seOp
  split
  · exact needs_bind
  · split
    · split
      · exact needs_bind
      · rfl
    · split
      · split <;> rfl
      · rfl
    · split
      · split <;> rfl
      · rfl
    · split
      · split
        · split <;> rfl
        · rfl
      · split
        · exact seSto_bind
        · rfl
      · rfl
    · split
      · split
        · split
          · split
            · split
              · split <;> rfl
              · rfl
            · rfl
          · split
            · exact hH _ _ _ _ _ _ _
            · split
              · exact hH _ _ _ _ _ _ _
              · rfl
        · split
          · exact seClo_bind hH
          · rfl
        · rfl
      · split
        · exact seAppend_bind
        · rfl
      · rfl
    · split
      · split
        · split
          · split
            · split <;> rfl
            · rfl
          · rfl
        · rfl
      · rfl
    · split
      · split
        · split
          · exact needs_bind
          · rfl
        · rfl
      · rfl
    · rename_i s d x ho
      cases hsd : (s == d) with
      | true =>
        simp only [if_true]
        split
        · split
          · split
            · exact needs_bind
            · rfl
          · rfl
        · rfl
      | false =>
      simp only [Bool.false_eq_true, if_false]
      split
      · split
        · rw [needs_bind]
          congr 1
          funext st
          split <;> rfl
        · rfl
      · split
        · split
          · exact needs_bind
          · rfl
        · rfl
      · split
        · split
          · split <;> rfl
          · rfl
        · rfl
      · rfl
    · split
      · split
        · split <;> rfl
        · rfl
      · rfl
    · split
      · split
        · split
          · split <;> rfl
          · rfl
        · rfl
      · rfl
    · split
      · split
        · split
          · split <;> rfl
          · rfl
        · rfl
      · rfl
    · split
      · split
        · split
          · split
            · exact lookS_bind
            · rfl
          · rfl
        · rfl
      · rfl
    · rfl
theorem seOpY_bind (hH : HB sigs.H) (hY : YB sigs.Y) {f : St → T} {o : Oper} {lv : Nat} {k : St → T} : (seOpY P sigs lv st o k).bind f = seOpY P sigs lv st o (fun x => (k x).bind f) := by
  unfold seOpY
  split
  · rename_i h vs hy
    unfold yieldOf at hy
    split at hy
    · cases hy
    · rename_i y0 y hh e0
      rw [e0] at hY
      split at hy
      · split at hy
        · split at hy
          · split at hy
            · simp only [Option.some.injEq, Prod.mk.injEq] at hy
              obtain ⟨rfl, rfl⟩ := hy
              exact hY _ _ _ _ _
            · cases hy
          · cases hy
        · cases hy
      · cases hy
  · exact seOp_bind hH
theorem seSeq_bind (hH : HB sigs.H) (hY : YB sigs.Y) {f : St → T} {lv : Nat} : ∀ {l : List Oper} {st : St} {k : St → T}, (seSeq P sigs lv ops l st k).bind f = seSeq P sigs lv ops l st (fun x => (k x).bind f)
  | [], _, _ => rfl
  | o :: r, st, k => by
    simp only [seSeq]
    rw [seGuard_bind]
    congr 1
    · funext s; rw [seOpY_bind hH hY]; congr 1; funext s2; exact seSeq_bind hH hY
    · funext s; exact seSeq_bind hH hY
theorem seCodeR_bind (hH : HB sigs.H) (hY : YB sigs.Y) {f : St → T} {lv : Nat} : ∀ {c : Code} {st : St} {k : St → T}, (seCodeR P sigs lv c st k).bind f = seCodeR P sigs lv c st (fun x => (k x).bind f) := by
  intro c
  induction c with
  | skip => intro st k; rfl
  | region id ops dr => intro st k; simp only [seCodeR]; split; rfl; exact seSeq_bind hH hY
  | seq a b iha ihb => intro st k; simp only [seCodeR]; rw [iha]; congr 1; funext s; exact ihb
  | block id c ih => intro st k; simp only [seCodeR]; exact ih
  | _ => intro st k; rfl
theorem yH_bind (hH : HB sigs.H) {ps : List Tmp} {asn body : Code} {st0 : St} : YB (yH P sigs ps asn body st0) := by
  intro lv st vs k f
  simp only
  split
  · rw [seCodeR_bind (sigs := { sigs with Y := noY }) hH trivial]; congr 1; funext s; rw [seCodeR_bind (sigs := { sigs with Y := noY }) hH trivial]
  · rfl
theorem seDraw_bind (hH : HB sigs.H) {bs n0 lv : Nat} {o0 : List Nat} : ∀ {p : Plan} {cl : Bool} {st : St} {k f : St → T}, (seDraw P sigs lv ops bs n0 o0 p cl st k).bind f = seDraw P sigs lv ops bs n0 o0 p cl st (fun x => (k x).bind f)
  | .nil, cl, st, k, f => rfl
  | .lbs _ _, cl, st, k, f => rfl
  | .fork p q, cl, st, k, f => by
    simp only [seDraw]
    split
    · exact seDraw_bind hH
    · simp only [T.bind]; rw [seDraw_bind hH, seDraw_bind hH]
  | .step i m r, cl, st, k, f => by
    simp only [seDraw]
    split
    · rfl
    · split
      · rw [seGuard_bind]
        congr 1
        · funext x
          split
          · rw [needs_bind]; congr 1; funext y; exact seDraw_bind hH
          · rfl
        · funext x; exact seDraw_bind hH
      · split
        · rw [seGuard_bind]
          congr 1
          · funext x
            split
            · split
              · split
                · rw [needs_bind]; congr 1; funext y; exact seDraw_bind hH
                · rfl
              · split
                · rw [needs_bind]; congr 1; funext y; exact seDraw_bind hH
                · rfl
              · split
                · rw [needs_bind]; congr 1; funext y; exact seDraw_bind hH
                · rfl
              · rfl
            · rfl
          · funext x; exact seDraw_bind hH
        · rfl
      · rw [seGuard_bind]
        congr 1
        · funext x; rw [seOp_bind hH]; congr 1; funext y; exact seDraw_bind hH
        · funext x; exact seDraw_bind hH
theorem seDrawL_bind (hH : HB sigs.H) {lb : List Nat} {bs n0 lv : Nat} {o0 : List Nat} : ∀ {p : Plan} {cl : Bool} {st : St} {k f : St → T}, (seDrawL P sigs lv ops lb bs n0 o0 p cl st k).bind f = seDrawL P sigs lv ops lb bs n0 o0 p cl st (fun x => (k x).bind f)
  | .nil, cl, st, k, f => rfl
  | .lbs _ _, cl, st, k, f => rfl
  | .fork p q, cl, st, k, f => rfl
  | .step i m r, cl, st, k, f => by
    simp only [seDrawL]
    split
    · rfl
    · split
      · rw [seGuard_bind]
        congr 1
        · funext x
          split
          · rw [needs_bind]; congr 1; funext y; exact seDrawL_bind hH
          · rfl
        · funext x; exact seDrawL_bind hH
      · split
        · rw [seGuard_bind]
          congr 1
          · funext x
            split
            · split
              · split
                · rw [needs_bind]; congr 1; funext y; exact seDrawL_bind hH
                · rfl
              · split
                · rw [needs_bind]; congr 1; funext y; exact seDrawL_bind hH
                · rfl
              · rfl
            · rfl
          · funext x; exact seDrawL_bind hH
        · rfl
      · split
        · rw [seGuard_bind]
          congr 1
          · funext x
            split
            · rw [seOp_bind hH]; congr 1; funext y
              split
              · exact seDrawL_bind hH
              · rfl
            · rfl
          · funext x; exact seDrawL_bind hH
        · rfl
      · rw [seGuard_bind]
        congr 1
        · funext x; rw [seOp_bind hH]; congr 1; funext y; exact seDrawL_bind hH
        · funext x; exact seDrawL_bind hH
theorem seDraw_fin (hH : HB sigs.H) {bs n0 lv : Nat} {o0 : List Nat} {p : Plan} {cl : Bool} {k : St → T} : seDraw P sigs lv ops bs n0 o0 p cl st k = (seDraw P sigs lv ops bs n0 o0 p cl st .fin).bind k := by
  rw [seDraw_bind hH]; rfl
end
end Go.Proofs.YtamjocnlhhhijaaV
