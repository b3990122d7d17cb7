/- Vcg, part 8: any operation. Vcg, part 9: calls by contract; any operation. Vcg, part 10: any operation. Vcg, part 11: regions in the text's order; what follows is uniform. -/
import Derived.Test.YtmhfooalcohpgaaVA
import Derived.Test.YtmhfooalcohpgaaWLast
namespace Go.Proofs.YtmhfooalcohpgaaV
open Go Go.RowKit Go.Proofs.YtmhfooalcohpgaaW.PrintLast

section
variable {w0 : Base} {w : World} {st : St} {env : List Atom} {η : List Nat} {m : Addr → Option Value} {a : Act} {P : Program}
theorem nodup_inj {l : List Nat} (h : l.Nodup) {i j : Nat} (hi : i < l.length) (hj : j < l.length) (e : l[i] = l[j]) : i = j := by
  have h := List.pairwise_iff_getElem.1 h
  rcases Nat.lt_trichotomy i j with h1 | h1 | h1
  · exact absurd e (h i j hi hj h1)
  · exact h1
  · exact absurd e.symm (h j i hj hi h1)
theorem Rel.put (hr : Rel w0 st env η m a w) (d : Option Tmp) (v : SV) : Rel w0 (st.put d v) env η m (a.put d (v.den env η)) w := by
  cases d with
  | none => exact hr
  | some d =>
    refine ⟨hr.hn, by simp [Act.put, St.put, hr.hs], ?_, hr.hd, hr.he, hr.hnd, hr.hb, hr.hge, hr.hB, hr.hm, hr.hm0, hr.hg, hr.hk⟩
    intro i u hu
    simp only [St.put, List.getElem?_set] at hu
    by_cases hi : d = i
    · subst hi
      simp only [if_true] at hu
      split at hu
      · rename_i hlt
        injection hu with hu
        subst hu
        right
        simp only [Act.put, Array.getElem?_setIfInBounds, if_true]
        rw [hr.hs, if_pos hlt]
      · cases hu
    · rw [if_neg hi] at hu
      rcases hr.ht i u hu with h | h
      · exact .inl h
      · right
        simp only [Act.put, Array.getElem?_setIfInBounds]
        rw [if_neg hi]; exact h
theorem Rel.put_undef (hr : Rel w0 st env η m a w) (d : Option Tmp) : Rel w0 (st.put d undefV) env η m (a.put d Go.undef) w := hr.put d undefV
theorem Rel.same {st' : St} (hr : Rel w0 st env η m a w) (h1 : st'.n = st.n) (h2 : st'.tmps = st.tmps) (h3 : st'.blks = st.blks) (h4 : ∀ p ∈ st'.known, vb (p.1.den env).1 = p.2) : Rel w0 st' env η m a w :=
  ⟨by rw [h1]; exact hr.hn, by rw [h2]; exact hr.hs, by rw [h2]; exact hr.ht, hr.hd, by rw [h3]; exact hr.he, hr.hnd, by rw [h3]; exact hr.hb, hr.hge, hr.hB, hr.hm, hr.hm0, hr.hg, h4⟩
theorem S.den_pb {s : S} (h : s.pb η.length = true) (g : Nat) : s.den env (η ++ [g]) = s.den env η := by
  cases s with
  | ptr b off =>
    have h : b < η.length := by simpa [S.pb] using h
    simp [S.den, List.getD_eq_getElem?_getD, List.getElem?_append_left h]
  | fn f l =>
    simp only [S.den]
    congr 1
    apply Array.ext'
    simp only
    refine List.map_congr_left fun b hb => ?_
    have h : b < η.length := by have := List.all_eq_true.1 h b hb; simpa using this
    simp [List.getD_eq_getElem?_getD, List.getElem?_append_left h]
  | _ => rfl
theorem map_pb {l : List S} (h : l.all (S.pb η.length) = true) (g : Nat) : l.map (S.den env (η ++ [g])) = l.map (S.den env η) :=
  List.map_congr_left fun _ hs => S.den_pb (List.all_eq_true.1 h _ hs) g
theorem TV.den_pb {t : TV} (h : t.pb η.length = true) (g : Nat) : t.den env (η ++ [g]) = t.den env η := by
  cases t with
  | s x => exact S.den_pb h g
  | agg l => simp only [TV.den, map_pb h g]
theorem SV.den_pb {v : SV} (h : v.pb η.length = true) (g : Nat) : v.den env (η ++ [g]) = v.den env η := by
  cases v with
  | one t => exact TV.den_pb h g
  | tup l =>
    simp only [SV.den]
    congr 2
    exact List.map_congr_left fun _ hs => TV.den_pb (List.all_eq_true.1 h _ hs) g
theorem below_push (w : World) (o : Obj) : Below w.heap.size w { w with heap := w.heap.push o } :=
  ⟨rfl, rfl, rfl, by simp, fun k hk => by simp only [Array.getElem?_push]; rw [if_neg (by omega)]⟩
theorem Below.cell_some {B : Nat} {w w' : World} (h : Below B w w') {p : Addr} (hp : p.block < B) : w'.cell? p = w.cell? p := h.cell hp
theorem cell_lt {w : World} {p : Addr} {v : Value} (h : w.cell? p = some v) : p.block < w.heap.size := by
  unfold World.cell? at h
  cases hh : w.heap[p.block]? with
  | none => rw [hh] at h; cases h
  | some o => exact (Array.getElem?_eq_some_iff.1 hh).1
theorem eta_lt (hr : Rel w0 st env η m a w) {g : Nat} (hg : g ∈ η) : g < w.heap.size := by
  obtain ⟨i, hi⟩ := List.getElem?_of_mem hg
  have hlt : i < st.blks.length := by rw [← hr.he]; exact (List.getElem?_eq_some_iff.1 hi).1
  have := hr.hb i _ (List.getElem?_eq_getElem hlt)
  simp only [List.getD_eq_getElem?_getD, hi, Option.getD_some] at this
  exact (Array.getElem?_eq_some_iff.1 this).1
/-- A new block. -/
theorem Rel.newBlk (hr : Rel w0 st env η m a w) (hp : st.pbnd = true) {z : List S} (hz : z.all (S.pb st.blks.length) = true) (t : TypeId) :
    Rel w0 { st with blks := st.blks ++ [⟨z, t⟩] } env (η ++ [w.heap.size]) m a { w with heap := w.heap.push (.cells (z.map (S.den env η)).toArray t) } := by
  simp only [St.pbnd, Bool.and_eq_true] at hp
  obtain ⟨hp1, hp2⟩ := hp
  rw [← hr.he] at hp1 hp2 hz
  have hfresh : w.heap.size ∉ η := fun h => Nat.lt_irrefl _ (eta_lt hr h)
  refine ⟨hr.hn, hr.hs, ?_, hr.hd, by simp [hr.he], ?_, ?_, ?_, ?_, ?_, hr.hm0, hr.hg, hr.hk⟩
  · intro i v hv
    rcases hr.ht i v hv with h | h
    · exact .inl h
    · right; rw [SV.den_pb (List.all_eq_true.1 hp1 _ (List.mem_of_getElem? hv))]; exact h
  · rw [List.nodup_append]
    refine ⟨hr.hnd, by simp, ?_⟩
    intro x hx y hy e
    simp at hy
    subst hy; subst e
    exact hfresh hx
  · intro i bl hbl
    simp only [List.getElem?_append] at hbl
    split at hbl
    · rename_i hlt
      have h1 := hr.hb i bl hbl
      have h2 : i < η.length := by rw [hr.he]; exact hlt
      simp only [List.getD_eq_getElem?_getD, List.getElem?_append_left h2] at h1 ⊢
      rw [map_pb (by have := List.all_eq_true.1 hp2 bl (List.mem_of_getElem? hbl); exact this)]
      have h3 := (Array.getElem?_eq_some_iff.1 h1).1
      simp only [Array.getElem?_push]
      rw [if_neg (by omega)]
      exact h1
    · rename_i hlt
      have hi : i = st.blks.length := by
        cases hq : i - st.blks.length with
        | zero => omega
        | succ n => rw [hq] at hbl; simp at hbl
      subst hi
      simp only [Nat.sub_self, List.getElem?_cons_zero, Option.some.injEq] at hbl
      subst hbl
      rw [map_pb hz]
      have : (η ++ [w.heap.size]).getD st.blks.length 0 = w.heap.size := by
        rw [List.getD_eq_getElem?_getD, List.getElem?_append_right (by rw [hr.he]; exact Nat.le_refl _)]
        simp [hr.he]
      rw [this]
      simp
  · intro g hg
    rcases List.mem_append.1 hg with h | h
    · exact hr.hge g h
    · simp at h; subst h; exact hr.hB.size
  · exact hr.hB.trans ((below_push w _).mono hr.hB.size)
  · intro ad v had
    obtain ⟨h1, h2⟩ := hr.hm ad v had
    have h3 := cell_lt h1
    refine ⟨?_, ?_⟩
    · rw [(below_push w _).cell h3]; exact h1
    · simp only [List.mem_append, List.mem_singleton, not_or]
      exact ⟨h2, by omega⟩
/-- A store into a block of our own. -/
theorem Rel.setBlk (hr : Rel w0 st env η m a w) {b : Nat} {bl : Blk} (hb : st.blks[b]? = some bl) {z : List S} :
    Rel w0 { st with blks := st.blks.set b ⟨z, bl.ty⟩ } env η m a (w.setRow (η.getD b 0) (z.map (S.den env η)).toArray) := by
  have hlt : b < st.blks.length := (List.getElem?_eq_some_iff.1 hb).1
  have hη : b < η.length := by rw [hr.he]; exact hlt
  have hg : η.getD b 0 ∈ η := by
    rw [List.getD_eq_getElem?_getD, List.getElem?_eq_getElem hη]; exact List.getElem_mem hη
  have hrow : ∀ k, k ≠ η.getD b 0 → (w.setRow (η.getD b 0) (z.map (S.den env η)).toArray).heap[k]? = w.heap[k]? := by
    intro k hk
    simp only [World.setRow, Array.getElem?_modify]
    rw [if_neg (fun e => hk e.symm)]
  have hself : (w.setRow (η.getD b 0) (z.map (S.den env η)).toArray).heap[η.getD b 0]? = some (.cells (z.map (S.den env η)).toArray bl.ty (0, 0)) := setRow_heap w _ _ _ _ _ (hr.hb b bl hb)
  have hge : w0.w.heap.size ≤ η.getD b 0 := hr.hge _ hg
  refine ⟨hr.hn, hr.hs, hr.ht, hr.hd, by simp [hr.he], hr.hnd, ?_, hr.hge, ?_, ?_, hr.hm0, hr.hg, hr.hk⟩
  · intro i bl' hbl'
    simp only [List.getElem?_set] at hbl'
    by_cases hi : b = i
    · subst hi
      simp only [if_true, hlt] at hbl'
      injection hbl' with hbl'
      subst hbl'
      exact hself
    · rw [if_neg hi] at hbl'
      have h1 := hr.hb i bl' hbl'
      have hi2 : i < η.length := by rw [hr.he]; exact (List.getElem?_eq_some_iff.1 hbl').1
      rw [hrow _ ?_]
      · exact h1
      · intro e
        rw [List.getD_eq_getElem?_getD, List.getD_eq_getElem?_getD, List.getElem?_eq_getElem hη, List.getElem?_eq_getElem hi2] at e
        simp only [Option.getD_some] at e
        exact hi (nodup_inj hr.hnd hi2 hη e).symm
  · refine hr.hB.trans ⟨rfl, rfl, rfl, by simp [World.setRow], fun k hk => hrow k (by omega)⟩
  · intro ad v had
    obtain ⟨h1, h2⟩ := hr.hm ad v had
    refine ⟨?_, h2⟩
    rw [World.cell?_of_block (w := w) (hrow _ (fun e => h2 (e ▸ hg)))]
    exact h1
end
end Go.Proofs.YtmhfooalcohpgaaV

namespace Go.Proofs.YtmhfooalcohpgaaV
open Go Go.RowKit Go.Proofs.YtmhfooalcohpgaaW.PrintLast

/-- Values of the shapes, out of leaves. -/
def mkVals : List (Option Nat) → List Value → List Value
  | [], _ => []
  | none :: ss, v :: vs => v :: mkVals ss vs
  | none :: _, [] => []
  | some n :: ss, vs => .agg (vs.take n).toArray :: mkVals ss (vs.drop n)
def mkRes (tup : Bool) (rsh : List (Option Nat)) (vs : List Value) : Value := if tup then .tuple (mkVals rsh vs).toArray else (mkVals rsh vs).headD Go.undef
/-- What is read, behind a call: new memory, too. -/
def ext (m : Addr → Option Value) (w w' : World) : Addr → Option Value := fun ad => if w.heap.size ≤ ad.block then w'.cell? ad else m ad
/-- The contract holds. -/
def holds (P : Program) (c : Sig × Con) : Prop :=
  (∃ fn, P.funcs[c.1.f]? = some fn ∧ (fn.name == "runtime.NumGoroutine") = false ∧ fn.body.isSome = true) ∧
  ∀ (args : List Atom) (m : Addr → Option Value) (w : World), (∀ ad v, m ad = some v → w.cell? ad = some v) → (∀ x ∈ args, Good m x) → c.2.pre args →
    Calls P c.1.f (mkVals c.1.ash (args.map (·.1))).toArray w fun e w' => ∃ outs, e = .returned (mkRes c.1.tup c.1.rsh (outs.map (·.1))) ∧ KindsOk c.1.res outs ∧ c.2.post args outs ∧ (∀ x ∈ outs, Good (ext m w w') x) ∧ Below w.heap.size w w'

section
variable {w0 : Base} {w : World} {st : St} {env : List Atom} {η : List Nat} {m : Addr → Option Value} {a : Act} {P : Program}
theorem X.den_bnd {x : X} (h : x.bnd env.length = true) (l : List Atom) : x.den (env ++ l) = x.den env := by
  induction x with
  | «at» i =>
    have h : i < env.length := by simpa [X.bnd] using h
    simp [X.den, List.getD_eq_getElem?_getD, List.getElem?_append_left h]
  | int _ => rfl
  | bool _ => rfl
  | str _ => rfl
  | nil _ => rfl
  | neg _ _ ih => simp only [X.den, ih h]
  | wrap _ _ ih => simp only [X.den, ih h]
  | not _ ih => simp only [X.den, ih h]
  | len _ ih => simp only [X.den, ih h]
  | size _ ih => simp only [X.den, ih h]
  | ite _ _ _ ih1 ih2 ih3 => simp only [X.bnd, Bool.and_eq_true] at h; simp only [X.den, ih1 h.1.1, ih2 h.1.2, ih3 h.2]
  | sub _ _ _ ih1 ih2 ih3 => simp only [X.bnd, Bool.and_eq_true] at h; simp only [X.den, ih1 h.1.1, ih2 h.1.2, ih3 h.2]
  | _ => rename_i ih1 ih2; simp only [X.bnd, Bool.and_eq_true] at h; simp only [X.den, ih1 h.1, ih2 h.2]
theorem S.den_bnd {s : S} (h : s.bnd env.length = true) (l : List Atom) : s.den (env ++ l) η = s.den env η := by
  cases s with
  | int k x => simp only [S.den, X.den_bnd (show x.bnd _ = true from h)]
  | bool x => simp only [S.den, X.den_bnd (show x.bnd _ = true from h)]
  | str x => simp only [S.den, X.den_bnd (show x.bnd _ = true from h)]
  | slc x => simp only [S.den, X.den_bnd (show x.bnd _ = true from h)]
  | any x => simp only [S.den, X.den_bnd (show x.bnd _ = true from h)]
  | eptr s i z o => simp only [S.bnd, Bool.and_eq_true] at h; simp only [S.den, X.den_bnd h.1, X.den_bnd h.2]
  | _ => rfl
theorem map_bnd {l : List S} (h : l.all (S.bnd env.length) = true) (e : List Atom) : l.map (S.den (env ++ e) η) = l.map (S.den env η) :=
  List.map_congr_left fun _ hs => S.den_bnd (List.all_eq_true.1 h _ hs) e
theorem TV.den_bnd {t : TV} (h : t.bnd env.length = true) (e : List Atom) : t.den (env ++ e) η = t.den env η := by
  cases t with
  | s x => exact S.den_bnd h e
  | agg l => simp only [TV.den, map_bnd h e]
theorem SV.den_bnd {v : SV} (h : v.bnd env.length = true) (e : List Atom) : v.den (env ++ e) η = v.den env η := by
  cases v with
  | one t => exact TV.den_bnd h e
  | tup l =>
    simp only [SV.den]
    congr 2
    exact List.map_congr_left fun _ hs => TV.den_bnd (List.all_eq_true.1 h _ hs) e
/-- New atoms, a new world behind a call that leaves what there is. -/
theorem Rel.call (hr : Rel w0 st env η m a w) (hb : st.bnd = true) {w' : World} (hB : Below w.heap.size w w') {outs : List Atom} (ho : ∀ x ∈ outs, Good (ext m w w') x) :
    Rel w0 { st with n := st.n + outs.length } (env ++ outs) η (ext m w w') a w' := by
  simp only [St.bnd, Bool.and_eq_true] at hb
  obtain ⟨⟨h1, h2⟩, h3⟩ := hb
  rw [← hr.hn] at h1 h2 h3
  have hsub : ∀ ad v, m ad = some v → ext m w w' ad = some v := by
    intro ad v h
    have := cell_lt (hr.hm ad v h).1
    unfold ext
    rw [if_neg (by omega)]; exact h
  refine ⟨by simp [hr.hn], hr.hs, ?_, hr.hd, hr.he, hr.hnd, ?_, hr.hge, hr.hB.trans (hB.mono hr.hB.size), ?_, ?_, ?_, ?_⟩
  · intro i v hv
    rcases hr.ht i v hv with h | h
    · exact .inl h
    · right; rw [SV.den_bnd (List.all_eq_true.1 h1 _ (List.mem_of_getElem? hv))]; exact h
  · intro i bl hbl
    have h4 := hr.hb i bl hbl
    rw [map_bnd (List.all_eq_true.1 h2 bl (List.mem_of_getElem? hbl)), hB.block _ (Array.getElem?_eq_some_iff.1 h4).1]
    exact h4
  · intro ad v had
    unfold ext at had
    split at had
    · rename_i hge
      refine ⟨had, fun hin => ?_⟩
      have := eta_lt hr hin
      omega
    · obtain ⟨h4, h5⟩ := hr.hm ad v had
      exact ⟨by rw [hB.cell (cell_lt h4)]; exact h4, h5⟩
  · intro ad v had hlt
    unfold ext at had
    rw [if_neg (by have := hr.hB.size; omega)] at had
    exact hr.hm0 ad v had hlt
  · intro x hx
    rcases List.mem_append.1 hx with h | h
    · exact (hr.hg x h).mono hsub
    · exact ho x h
  · intro p hp
    rw [X.den_bnd (List.all_eq_true.1 h3 p hp)]
    exact hr.hk p hp
theorem S.atom_good (hg : ∀ x ∈ env, Good m x) {s : S} (h : s.pureB = true) : Good m (s.atom env) := by
  cases s with
  | slc x => exact X.good hg x
  | any x => exact X.good hg x
  | cst v =>
    refine ⟨.leaf _, ?_⟩
    simp only [S.pureB] at h
    split at h <;> first | rfl | cases h
  | int _ _ => exact ⟨.leaf _, rfl⟩
  | bool _ => exact ⟨.leaf _, rfl⟩
  | str _ => exact ⟨.leaf _, rfl⟩
  | _ => simp [S.pureB] at h
theorem S.atom_val {s : S} (h : s.pureB = true) : (s.atom env).1 = s.den env η := by
  cases s <;> first | rfl | (simp [S.pureB] at h; done)
theorem flatArgs_sound : ∀ {sh : List (Option Nat)} {vs : List SV} {l : List S} (r : List Value), flatArgs sh vs = some l → mkVals sh (l.map (S.den env η) ++ r) = vs.map (SV.den env η)
  | [], [], l, r, h => rfl
  | none :: sh, v :: vs, l, r, h => by
    cases v with
    | tup _ => simp [flatArgs] at h
    | one t =>
      cases t with
      | agg _ => simp [flatArgs] at h
      | s x =>
        simp only [flatArgs] at h
        cases hf : flatArgs sh vs with
        | none => rw [hf] at h; cases h
        | some l' =>
          rw [hf] at h
          simp only [Option.map_some, Option.some.injEq] at h
          subst h
          simp only [List.map_cons, List.cons_append, mkVals, flatArgs_sound r hf]; rfl
  | some n :: sh, v :: vs, l, r, h => by
    cases v with
    | tup _ => simp [flatArgs] at h
    | one t =>
      cases t with
      | s _ => simp [flatArgs] at h
      | agg c =>
        simp only [flatArgs] at h
        split at h
        · rename_i hlen
          have hlen : c.length = n := by simpa using hlen
          cases hf : flatArgs sh vs with
          | none => rw [hf] at h; cases h
          | some l' =>
            rw [hf] at h
            simp only [Option.map_some, Option.some.injEq] at h
            subst h
            subst hlen
            simp only [List.map_append, mkVals, List.map_cons, List.append_assoc]
            rw [List.drop_left' (by simp), List.take_left' (by simp), flatArgs_sound r hf]; rfl
        · cases h
  | [], _ :: _, l, r, h => by simp [flatArgs] at h
  | none :: _, [], l, r, h => by simp [flatArgs] at h
  | some _ :: _, [], l, r, h => by simp [flatArgs] at h
theorem shapeS_sound : ∀ {sh : List (Option Nat)} {l : List S}, (shapeS sh l).map (TV.den env η) = mkVals sh (l.map (S.den env η))
  | [], _ => rfl
  | none :: sh, [] => rfl
  | none :: sh, x :: l => by simp only [shapeS, List.map_cons, mkVals, shapeS_sound]; rfl
  | some n :: sh, l => by
    simp only [shapeS, List.map_cons, mkVals, shapeS_sound, List.map_drop, TV.den, List.map_take]
theorem atomsFrom_den : ∀ {ks : List RK} {outs e : List Atom}, KindsOk ks outs → (atomsFrom e.length ks).map (S.den (e ++ outs) η) = outs.map (·.1)
  | [], [], _, _ => rfl
  | [], _ :: _, _, h => h.elim
  | _ :: _, [], _, h => h.elim
  | k :: ks, x :: outs, e, h => by
    simp only [atomsFrom, List.map_cons]
    have h1 : ((X.at e.length).den (e ++ x :: outs)) = x := by simp [X.den, List.getD_eq_getElem?_getD]
    have h2 := atomsFrom_den (e := e ++ [x]) h.2
    simp only [List.length_append, List.length_singleton, List.append_assoc, List.singleton_append] at h2
    rw [h2, RK.S_den (by rw [h1]; exact h.1), h1]
theorem resSV_sound {sg : Sig} {v : SV} {l : List S} (h : resSV sg l = some v) : v.den env η = mkRes sg.tup sg.rsh (l.map (S.den env η)) := by
  unfold resSV at h
  split at h
  · rename_i vs ht
    injection h with h
    subst h
    simp only [mkRes, ht, if_true, SV.den, shapeS_sound]
  · rename_i v' ht hv
    injection h with h
    subst h
    have := shapeS_sound (env := env) (η := η) (sh := sg.rsh) (l := l)
    rw [hv] at this
    simp only [mkRes, ht, ← this]
    rfl
  · cases h
theorem KindsOk.length : ∀ {ks : List RK} {outs : List Atom}, KindsOk ks outs → outs.length = ks.length
  | [], [], _ => rfl
  | [], _ :: _, h => h.elim
  | _ :: _, [], h => h.elim
  | _ :: _, _ :: _, h => by simp [KindsOk.length h.2]
theorem findSig_sound {f : FuncId} : ∀ {l : List Sig} {n i : Nat} {sg : Sig}, findSig f l n = some (i, sg) → ∃ j, i = n + j ∧ l[j]? = some sg ∧ sg.f = f
  | [], _, _, _, h => by simp [findSig] at h
  | s :: l, n, i, sg, h => by
    simp only [findSig] at h
    split at h
    · rename_i hf
      simp only [Option.some.injEq, Prod.mk.injEq] at h
      obtain ⟨rfl, rfl⟩ := h
      exact ⟨0, rfl, rfl, by simpa using hf⟩
    · obtain ⟨j, h1, h2, h3⟩ := findSig_sound h
      exact ⟨j + 1, by omega, h2, h3⟩
end
end Go.Proofs.YtmhfooalcohpgaaV

namespace Go.Proofs.YtmhfooalcohpgaaV
open Go Go.RowKit Go.Proofs.YtmhfooalcohpgaaW.PrintLast

/-- The contracts that a run may lean on. -/
def ptrs (η : List Nat) (caps : List Nat) : List Value := caps.map fun b => Value.pointer (some ⟨η.getD b 0, 0, none⟩)
/-- Calls within a call are run right. -/
structure HOk (P : Program) (cs : Nat → Sig × Con) (H : Hnd) : Prop where
  bind : ∀ (st : St) (g : FuncId) (caps : List Nat) (vs : List SV) (k : St → SV → T) (f : St → T), (H st g caps vs k).bind f = H st g caps vs (fun s v => (k s v).bind f)
  run : ∀ (w0 : Base) (Post : List Atom → Prop) (L : List (List Atom → Prop)) (st : St) (env : List Atom) (η : List Nat) (m : Addr → Option Value) (a : Act) (w : World) (g : FuncId) (caps : List Nat) (vs : List SV) (k : St → SV → T),
    Rel w0 st env η m a w → (H st g caps vs k).wp cs Post env L → (∃ fn, P.funcs[g]? = some fn ∧ (fn.name == "runtime.NumGoroutine") = false ∧ fn.body.isSome = true) ∧
    ∀ R : Ending → World → Prop, (∀ st' v env' η' m' w', Rel w0 st' env' η' m' a w' → (∃ l, env' = env ++ l) → (∃ l, η' = η ++ l) → (k st' v).wp cs Post env' L → R (.returned (v.den env' η')) w') →
      Calls P g (vs.map (SV.den env η) ++ ptrs η caps).toArray w R
def Table (P : Program) (sigs : Sg) (cs : Nat → Sig × Con) : Prop := (∀ (i : Nat) sg, sigs.l[i]? = some sg → (cs i).1 = sg ∧ holds P (cs i)) ∧ HOk P cs sigs.H
theorem noH_ok {P : Program} {cs : Nat → Sig × Con} : HOk P cs noH := ⟨fun _ _ _ _ _ _ => rfl, fun _ _ _ _ _ _ _ _ _ _ _ _ _ _ h => h.elim⟩
/-- What stands behind an operation, beside the new state. -/
structure Fwd (o : Oper) (env env' : List Atom) (η η' : List Nat) (w w' : World) : Prop where
  env : ∃ l, env' = env ++ l
  eta : ∃ l, η' = η ++ l
  below : isStore o.op = false → Below w.heap.size w w'
section
variable {w0 : Base} {w : World} {st : St} {env : List Atom} {η : List Nat} {m : Addr → Option Value} {a : Act} {P : Program}
theorem wp_value {o : Oper} {w w1 : World} {v : Value} {K : Act → World → Prop} {Q : Exit → Act → World → Prop} (h : (execOp a.eval o).run P w = .ok (.value v) w1) (hK : K (a.put o.dst v) w1) : o.wp P a w K Q := by
  unfold Oper.wp; rw [h]; exact hK
theorem wp_skip' {o : Oper} {w w1 : World} {K : Act → World → Prop} {Q : Exit → Act → World → Prop} (h : (execOp a.eval o).run P w = .ok .skip w1) (hK : K (a.put o.dst Go.undef) w1) : o.wp P a w K Q := by
  unfold Oper.wp; rw [h]; exact hK
theorem Fwd.refl (o : Oper) (w : World) : Fwd o env env η η w w := ⟨⟨[], by simp⟩, ⟨[], by simp⟩, fun _ => Below.refl _ _⟩
theorem seOp_sound {sigs : Sg} {cs : Nat → Sig × Con} (hT : Table P sigs cs) {Post : List Atom → Prop} {L : List (List Atom → Prop)} (hr : Rel w0 st env η m a w) {o : Oper} {k : St → T}
    (h : (seOp P sigs st o k).wp cs Post env L) {K : Act → World → Prop} {Q : Exit → Act → World → Prop}
    (hK : ∀ st' env' η' m' a' w', Rel w0 st' env' η' m' a' w' → Fwd o env env' η η' w w' → (k st').wp cs Post env' L → K a' w') : o.wp P a w K Q := by
  unfold seOp at h
  split at h
  · rename_i ds v hv
    obtain ⟨hds, st', h1, h2, h3, h4, h5⟩ := needs_sound hr.hk h
    refine wp_value (seVal_sound hr hv hds w) ?_
    exact hK _ _ _ _ _ _ ((hr.same h1 h2 h3 h4).put o.dst v) (Fwd.refl o w) h5
  · split at h
    · rename_i t x ho
      split at h
      · rename_i ds v src hl
        obtain ⟨hds, st', h1, h2, h3, h4, h5⟩ := needs_sound hr.hk h
        have hrun : (execOp a.eval o).run P w = .ok (.value (v.den env η)) w := by
          cases src with
          | blk b => exact load_blk hr ho hl rfl
          | row s i => exact load_row hr ho hl hds (X.good hr.hg s) (fun ad u hu => (hr.hm ad u hu).1)
        exact wp_value hrun (hK _ _ _ _ _ _ ((hr.same h1 h2 h3 h4).put o.dst v) (Fwd.refl o w) h5)
      · exact h.elim
    · rename_i t ho
      split at h
      · rename_i z hz
        split at h
        · rename_i hp
          simp only [Bool.and_eq_true] at hp
          obtain ⟨it, zv, h1, h2, h3⟩ := zero_info (env := env) (η := η) hz
          have hrun : (execOp a.eval o).run P w = .ok (.value (.pointer (some ⟨w.heap.size, 0, none⟩))) { w with heap := w.heap.push (.cells (z.map (S.den env η)).toArray t) } := by
            simp [execOp, ho, Instr.alloc, zero_run h1 h2, newVar, newRow, h3]
          refine wp_value hrun ?_
          have hn := hr.newBlk hp.1 hp.2 t
          have hd : SV.den env (η ++ [w.heap.size]) (.one (.s (.ptr st.blks.length 0))) = .pointer (some ⟨w.heap.size, 0, none⟩) := by
            simp [SV.den, TV.den, S.den, List.getD_eq_getElem?_getD, ← hr.he]
          have := hn.put o.dst (.one (.s (.ptr st.blks.length 0)))
          rw [hd] at this
          exact hK _ _ _ _ _ _ this ⟨⟨[], by simp⟩, ⟨_, rfl⟩, fun _ => below_push w _⟩ h
        · exact h.elim
      · exact h.elim
    · rename_i t x ho
      split at h
      · rename_i v hx
        split at h
        · rename_i hp
          simp only [Bool.and_eq_true] at hp
          have hrun : (execOp a.eval o).run P w = .ok (.value (.pointer (some ⟨w.heap.size, 0, none⟩))) { w with heap := w.heap.push (.cells (v.cells.map (S.den env η)).toArray t) } := by
            have := TV.cells_den (η := η) hr.hg hp.1.1
            simp only [execOp, ho, hr.ev hx, Instr.box, newVar, newRow, SV.den, this]
            simp
          refine wp_value hrun ?_
          have hn := hr.newBlk hp.1.2 hp.2 t
          have hd : SV.den env (η ++ [w.heap.size]) (.one (.s (.ptr st.blks.length 0))) = .pointer (some ⟨w.heap.size, 0, none⟩) := by
            simp [SV.den, TV.den, S.den, List.getD_eq_getElem?_getD, ← hr.he]
          have := hn.put o.dst (.one (.s (.ptr st.blks.length 0)))
          rw [hd] at this
          exact hK _ _ _ _ _ _ this ⟨⟨[], by simp⟩, ⟨_, rfl⟩, fun _ => below_push w _⟩ h
        · exact h.elim
      · exact h.elim
    · rename_i t p x ho
      split at h
      · rename_i b off v hp hx
        split at h
        · rename_i bl hbl
          split at h
          · rename_i hc
            simp only [Bool.and_eq_true, decide_eq_true_eq, beq_iff_eq, Option.isNone_iff_eq_none] at hc
            obtain ⟨⟨⟨hsz, hfit⟩, hok⟩, hdst⟩ := hc
            have ep := hr.ev hp
            have ex := hr.ev hx
            simp only [SV.den, TV.den, S.den] at ep
            rw [show SV.den env η (.one v) = v.den env η from rfl] at ex
            have hcells := TV.cells_den (η := η) hr.hg hok
            have hg := hr.hb b bl hbl
            have hst := run_storeCells_at P (η.getD b 0) off bl.ty (v.cells.map (S.den env η)) 0 _ w hg (by simp; omega) (by
              intro u hu
              obtain ⟨s, hs, rfl⟩ := List.mem_map.1 hu
              exact S.den_one hr.hg (List.all_eq_true.1 hok s hs))
            have e2 : ((bl.cells.map (S.den env η)).toArray.toList.take (off + 0) ++ v.cells.map (S.den env η) ++ (bl.cells.map (S.den env η)).toArray.toList.drop (off + 0 + (v.cells.map (S.den env η)).length)) = (bl.cells.take off ++ v.cells ++ bl.cells.drop (off + v.cells.length)).map (S.den env η) := by
              simp [List.map_take, List.map_drop]
            rw [e2] at hst
            have hrun : (execOp a.eval o).run P w = .ok .skip (w.setRow (η.getD b 0) ((bl.cells.take off ++ v.cells ++ bl.cells.drop (off + v.cells.length)).map (S.den env η)).toArray) := by
              simp only [execOp, ho, ep, ex, Instr.storeAt, Instr.sureAddr, storeVar, Sem.run_bind, Sem.run_pure, Result.andThen_ok, run_sizeOf_some hsz, hcells, List.size_toArray, List.length_map, ne_eq, not_true_eq_false, if_false, hst]
            refine wp_skip' hrun ?_
            rw [hdst]
            exact hK _ _ _ _ _ _ (hr.setBlk hbl) ⟨⟨[], by simp⟩, ⟨[], by simp⟩, fun hh => by rw [ho] at hh; cases hh⟩ h
          · exact h.elim
        · exact h.elim
      · exact h.elim
    · rename_i c ho
      split at h
      · rename_i f hc
        split at h
        · rename_i g caps vs hf hvs
          split at h
          · rename_i i sg hsg
            split at h
            · rename_i l v hl hv
              split at h
              · rename_i hp
                simp only [Bool.and_eq_true] at hp
                obtain ⟨hpre, hrest⟩ := h
                obtain ⟨j, e1, e2, e3⟩ := findSig_sound hsg
                obtain rfl : i = j := by omega
                obtain ⟨hcs, ⟨fn, hfn, hname, hbody⟩, hcall⟩ := hT.1 i sg e2
                have hmem : ∀ ad u, m ad = some u → w.cell? ad = some u := fun ad u hu => (hr.hm ad u hu).1
                have hgood : ∀ x ∈ l.map (S.atom env), Good m x := by
                  intro x hx
                  obtain ⟨s, hs, rfl⟩ := List.mem_map.1 hx
                  exact S.atom_good hr.hg (List.all_eq_true.1 hp.1 s hs)
                have hC := hcall _ m w hmem hgood hpre
                have hvals : (l.map (S.atom env)).map (·.1) = l.map (S.den env η) := by
                  rw [List.map_map]
                  exact List.map_congr_left fun s hs => S.atom_val (List.all_eq_true.1 hp.1 s hs)
                have hfl := flatArgs_sound (env := env) (η := η) [] hl
                rw [List.append_nil] at hfl
                have ef := hr.ev hf
                simp only [SV.den, TV.den, S.den] at ef
                have eargs : c.args.map a.eval = (vs.map (SV.den env η)).toArray := by
                  apply Array.ext'
                  rw [Array.toList_map, hr.evs hvs]
                have hrun : (execOp a.eval o).run P w = .ok (.enter g (vs.map (SV.den env η)).toArray) w := by
                  rw [hcs, e3] at hfn
                  have he := enters_ hfn hname hbody (vs.map (SV.den env η)).toArray w
                  unfold execOp
                  simp [ho, resolve, hc, ef, Deferred.ofValue, invoke, eargs, he]
                unfold Oper.wp
                rw [hrun, Oper.upon_enter]
                rw [hvals, hcs, hfl, e3] at hC
                refine hC.mono fun e w' he => ?_
                obtain ⟨outs, rfl, hk, hpost, hg, hB⟩ := he
                rw [← hcs] at hk
                have hr' := hr.call hp.2 hB hg
                rw [hcs] at hk
                have hlen := KindsOk.length hk
                rw [hlen] at hr'
                have hden : v.den (env ++ outs) η = mkRes sg.tup sg.rsh (outs.map (·.1)) := by
                  rw [resSV_sound hv]
                  have := atomsFrom_den (η := η) (e := env) hk
                  rw [hr.hn] at this
                  rw [this]
                have := hr'.put o.dst v
                rw [hden] at this
                exact hK _ _ _ _ _ _ this ⟨⟨outs, rfl⟩, ⟨[], by simp⟩, fun _ => hB⟩ (hrest outs (by rw [hcs]; exact hk) hpost)
              · exact h.elim
            · exact h.elim
          · rename_i caps _ _ _
            split at h
            · rename_i tm
              obtain ⟨⟨fn, hfn, hname, hbody⟩, hrun2⟩ := hT.2.run w0 Post L st env η m a w g caps vs _ hr h
              have ef := hr.ev hf
              simp only [SV.den, TV.den, S.den] at ef
              have eargs : c.args.map a.eval = (vs.map (SV.den env η)).toArray := by
                apply Array.ext'
                rw [Array.toList_map, hr.evs hvs]
              have hrun : (execOp a.eval o).run P w = .ok (.enter g (vs.map (SV.den env η) ++ ptrs η caps).toArray) w := by
                have he := enters_ hfn hname hbody (vs.map (SV.den env η) ++ ptrs η caps).toArray w
                unfold ptrs at he
                unfold execOp
                simp [ho, resolve, hc, ef, Deferred.ofValue, invoke, eargs, ptrs]
                simpa using he
              unfold Oper.wp
              rw [hrun, Oper.upon_enter]
              refine (hrun2 (fun e w' => ∃ v, e = .returned v ∧ K (a.put o.dst v) w') fun st' v env' η' m' w' hr' he hη hk => ⟨_, rfl, hK _ _ _ _ _ _ (hr'.put o.dst v) ⟨he, hη, fun hs => ?_⟩ hk⟩).mono fun e w' he => ?_
              · rw [ho] at hs; simp [isStore, hc] at hs
              · obtain ⟨v, rfl, hK'⟩ := he
                exact hK'
            · exact h.elim
        · exact h.elim
      · exact h.elim
    · exact h.elim
end
end Go.Proofs.YtmhfooalcohpgaaV

namespace Go.Proofs.YtmhfooalcohpgaaV
open Go Go.RowKit Go.Proofs.YtmhfooalcohpgaaW.PrintLast

section
variable {w0 : Base} {w : World} {st : St} {env : List Atom} {η : List Nat} {m : Addr → Option Value} {a : Act} {P : Program} {ops : Array Oper}
variable {cs : Nat → Sig × Con} {Post : List Atom → Prop} {L : List (List Atom → Prop)} {sigs : Sg}
theorem seGuard_sound (hr : Rel w0 st env η m a w) {o : Oper} {perform skip : St → T} {C : Prop} (h : (seGuard ops st o perform skip).wp cs Post env L)
    (h1 : ∀ st', Rel w0 st' env η m a w → st'.blks = st.blks → Region.wanted o (yielded ops a.tmps) = true → (perform st').wp cs Post env L → C)
    (h2 : ∀ st', Rel w0 st' env η m a w → st'.blks = st.blks → Region.wanted o (yielded ops a.tmps) = false → (skip st').wp cs Post env L → C) : C := by
  unfold seGuard at h
  cases hg : o.guard with
  | none =>
    rw [hg] at h
    exact h1 st hr rfl (by simp [Region.wanted, hg]) h
  | some p =>
    obtain ⟨j, want⟩ := p
    rw [hg] at h
    simp only at h
    cases hd : (ops[j]?).bind (·.dst) with
    | none => rw [hd] at h; exact h.elim
    | some d =>
      rw [hd] at h
      simp only at h
      split at h
      · rename_i x hx
        have hv := (hr.ht d _ hx).resolve_left (by intro e; cases e)
        simp only [SV.den, TV.den, S.den] at hv
        have hw : ∀ b, Region.wanted o (yielded ops a.tmps) = (some (vb (x.den env).1) == some b) → b = want → Region.wanted o (yielded ops a.tmps) = (vb (x.den env).1 == want) := by
          intro b e1 e2; rw [e1, e2]; rfl
        have hwant : Region.wanted o (yielded ops a.tmps) = (vb (x.den env).1 == want) := by
          simp only [Region.wanted, hg, yielded, hd, Option.bind_some, hv]; rfl
        cases want with
        | true =>
          simp only [if_true] at h
          refine seBr_sound hr.hk h (fun st' e1 e2 e3 e4 e5 e6 => h1 st' (hr.same e1 e2 e3 e4) e3 (by rw [hwant, e5]; rfl) e6) (fun st' e1 e2 e3 e4 e5 e6 => h2 st' (hr.same e1 e2 e3 e4) e3 (by rw [hwant, e5]; rfl) e6)
        | false =>
          simp only [Bool.false_eq_true, if_false] at h
          refine seBr_sound hr.hk h (fun st' e1 e2 e3 e4 e5 e6 => h2 st' (hr.same e1 e2 e3 e4) e3 (by rw [hwant, e5]; rfl) e6) (fun st' e1 e2 e3 e4 e5 e6 => h1 st' (hr.same e1 e2 e3 e4) e3 (by rw [hwant, e5]; rfl) e6)
      · rename_i hx
        have hv := (hr.ht d _ hx).resolve_left (by intro e; cases e)
        simp only [SV.den, TV.den, S.den] at hv
        refine h2 st hr rfl ?_ h
        simp only [Region.wanted, hg, yielded, hd, Option.bind_some, hv, Go.undef]; rfl
      · exact h.elim
theorem seSeq_sound (hT : Table P sigs cs) {Q : Exit → Act → World → Prop} {k : St → T}
    {env0 : List Atom} {η0 : List Nat} (hK : ∀ st' env' η' m' a' w', Rel w0 st' env' η' m' a' w' → (∃ l, env' = env0 ++ l) → (∃ l, η' = η0 ++ l) → (k st').wp cs Post env' L → Q .normal a' w') :
    ∀ (l : List Oper) (st : St) (env : List Atom) (η : List Nat) (m : Addr → Option Value) (a : Act) (w : World), Rel w0 st env η m a w → (∃ l, env = env0 ++ l) → (∃ l, η = η0 ++ l) → (seSeq P sigs ops l st k).wp cs Post env L → wpList P ops Q l a w
  | [], st, env, η, m, a, w, hr, he, hη, h => hK _ _ _ _ _ _ hr he hη h
  | o :: l, st, env, η, m, a, w, hr, he, hη, h => by
    unfold wpList
    simp only [seSeq] at h
    refine seGuard_sound hr h (fun st' hr' _ hw h => ?_) (fun st' hr' _ hw h => ?_)
    · rw [if_pos hw]
      exact .inl (seOp_sound hT hr' h fun st2 env2 η2 m2 a2 w2 hr2 hF h2 => seSeq_sound hT hK l _ _ _ _ _ _ hr2 (by
        obtain ⟨x, rfl⟩ := he
        obtain ⟨y, rfl⟩ := hF.env
        exact ⟨x ++ y, by simp⟩) (by
        obtain ⟨x, rfl⟩ := hη
        obtain ⟨y, rfl⟩ := hF.eta
        exact ⟨x ++ y, by simp⟩) h2)
    · rw [if_neg (by rw [hw]; simp)]
      exact seSeq_sound hT hK l _ _ _ _ _ _ (hr'.put_undef o.dst) he hη h
/-! ### What follows is uniform -/
theorem seBr_bind {f : St → T} {x : X} : ∀ {kt kf : St → T}, (seBr st x kt kf).bind f = seBr st x (fun s => (kt s).bind f) (fun s => (kf s).bind f) := by
  have main : ∀ (x : X) {kt kf : St → T}, (match st.tells x with
        | some true => kt st
        | some false => kf st
        | none => T.br x (kt (st.knows x true)) (kf (st.knows x false))).bind f = (match st.tells x with
        | some true => (kt st).bind f
        | some false => (kf st).bind f
        | none => T.br x ((kt (st.knows x true)).bind f) ((kf (st.knows x false)).bind f)) := by
    intro x kt kf; split <;> rfl
  induction x with
  | not y ih => intro kt kf; exact ih
  | _ => intro kt kf; exact main _
theorem needs_bind {f : St → T} {k : St → T} : ∀ {ds : List Nd} {st : St}, (needs st ds k).bind f = needs st ds (fun s => (k s).bind f)
  | [], _ => rfl
  | .tru x :: r, st => by
    simp only [needs]
    split
    · exact needs_bind
    · simp only [T.bind, needs_bind]
  | .kind _ _ :: r, st => by simp only [needs, T.bind, needs_bind]
  | .row _ :: r, st => by simp only [needs, T.bind, needs_bind]
  | .sz _ _ :: r, st => by simp only [needs, T.bind, needs_bind]
theorem seGuard_bind {f : St → T} {o : Oper} {p s : St → T} : (seGuard ops st o p s).bind f = seGuard ops st o (fun x => (p x).bind f) (fun x => (s x).bind f) := by
  unfold seGuard
  split
  · rfl
  · split
    · rfl
    · split
      · split <;> exact seBr_bind
      · rfl
      · rfl
def HB (H : Hnd) : Prop := ∀ (st : St) (g : FuncId) (caps : List Nat) (vs : List SV) (k : St → SV → T) (f : St → T), (H st g caps vs k).bind f = H st g caps vs (fun s v => (k s v).bind f)
theorem seOp_bind (hH : HB sigs.H) {f : St → T} {o : Oper} {k : St → T} : (seOp P sigs st o k).bind f = seOp P sigs st o (fun x => (k x).bind f) := by
  unfold seOp
  split
  · exact needs_bind
  · split
    · split
      · exact needs_bind
      · rfl
    · split
      · split <;> rfl
      · rfl
    · split
      · split <;> rfl
      · rfl
    · split
      · split
        · split <;> rfl
        · rfl
      · rfl
    · split
      · split
        · split
          · split
            · split <;> rfl
            · rfl
          · split
            · exact hH _ _ _ _ _ _
            · rfl
        · rfl
      · rfl
    · rfl
theorem seDraw_bind (hH : HB sigs.H) {bs n0 : Nat} : ∀ {p : Plan} {cl : Bool} {st : St} {k f : St → T}, (seDraw P sigs ops bs n0 p cl st k).bind f = seDraw P sigs ops bs n0 p cl st (fun x => (k x).bind f)
  | .nil, cl, st, k, f => rfl
  | .fork p q, cl, st, k, f => by
    simp only [seDraw]
    split
    · exact seDraw_bind hH
    · rfl
  | .step i m r, cl, st, k, f => by
    simp only [seDraw]
    split
    · rfl
    · split
      · rw [seGuard_bind]
        congr 1
        · funext x
          split
          · rw [needs_bind]; congr 1; funext y; exact seDraw_bind hH
          · rfl
        · funext x; exact seDraw_bind hH
      · split
        · rw [seGuard_bind]
          congr 1
          · funext x
            split
            · split
              · split
                · rw [needs_bind]; congr 1; funext y; exact seDraw_bind hH
                · rfl
              · split
                · rw [needs_bind]; congr 1; funext y; exact seDraw_bind hH
                · rfl
              · rfl
            · rfl
          · funext x; exact seDraw_bind hH
        · rfl
      · rw [seGuard_bind]
        congr 1
        · funext x; rw [seOp_bind hH]; congr 1; funext y; exact seDraw_bind hH
        · funext x; exact seDraw_bind hH
theorem seDraw_fin (hH : HB sigs.H) {bs n0 : Nat} {p : Plan} {cl : Bool} {k : St → T} : seDraw P sigs ops bs n0 p cl st k = (seDraw P sigs ops bs n0 p cl st .fin).bind k := by
  rw [seDraw_bind hH]; rfl
end
end Go.Proofs.YtmhfooalcohpgaaV
