/- Vcg, part 9: calls by contract; any operation. -/
import Derived.Test.YtmhfooalcohpgaaVS6
namespace Go.Proofs.YtmhfooalcohpgaaV
open Go Go.RowKit Go.Proofs.YtmhfooalcohpgaaW.PrintLast

/-- Values of the shapes, out of leaves. -/
def mkVals : List (Option Nat) → List Value → List Value
  | [], _ => []
  | none :: ss, v :: vs => v :: mkVals ss vs
  | none :: _, [] => []
  | some n :: ss, vs => .agg (vs.take n).toArray :: mkVals ss (vs.drop n)
def mkRes (tup : Bool) (rsh : List (Option Nat)) (vs : List Value) : Value := if tup then .tuple (mkVals rsh vs).toArray else (mkVals rsh vs).headD Go.undef
/-- What is read, behind a call: new memory, too. -/
def ext (m : Addr → Option Value) (w w' : World) : Addr → Option Value := fun ad => if w.heap.size ≤ ad.block then w'.cell? ad else m ad
/-- The contract holds. -/
def holds (P : Program) (c : Sig × Con) : Prop :=
  (∃ fn, P.funcs[c.1.f]? = some fn ∧ (fn.name == "runtime.NumGoroutine") = false ∧ fn.body.isSome = true) ∧
  ∀ (args : List Atom) (m : Addr → Option Value) (w : World), (∀ ad v, m ad = some v → w.cell? ad = some v) → (∀ x ∈ args, Good m x) → c.2.pre args →
    Calls P c.1.f (mkVals c.1.ash (args.map (·.1))).toArray w fun e w' => ∃ outs, e = .returned (mkRes c.1.tup c.1.rsh (outs.map (·.1))) ∧ KindsOk c.1.res outs ∧ c.2.post args outs ∧ (∀ x ∈ outs, Good (ext m w w') x) ∧ Below w.heap.size w w'

section
variable {w0 : Base} {w : World} {st : St} {env : List Atom} {η : List Nat} {m : Addr → Option Value} {a : Act} {P : Program}
theorem X.den_bnd {x : X} (h : x.bnd env.length = true) (l : List Atom) : x.den (env ++ l) = x.den env := by
  induction x with
  | «at» i =>
    have h : i < env.length := by simpa [X.bnd] using h
    simp [X.den, List.getD_eq_getElem?_getD, List.getElem?_append_left h]
  | int _ => rfl
  | bool _ => rfl
  | str _ => rfl
  | nil _ => rfl
  | neg _ _ ih => simp only [X.den, ih h]
  | wrap _ _ ih => simp only [X.den, ih h]
  | not _ ih => simp only [X.den, ih h]
  | len _ ih => simp only [X.den, ih h]
  | size _ ih => simp only [X.den, ih h]
  | ite _ _ _ ih1 ih2 ih3 => simp only [X.bnd, Bool.and_eq_true] at h; simp only [X.den, ih1 h.1.1, ih2 h.1.2, ih3 h.2]
  | sub _ _ _ ih1 ih2 ih3 => simp only [X.bnd, Bool.and_eq_true] at h; simp only [X.den, ih1 h.1.1, ih2 h.1.2, ih3 h.2]
  | _ => rename_i ih1 ih2; simp only [X.bnd, Bool.and_eq_true] at h; simp only [X.den, ih1 h.1, ih2 h.2]
theorem S.den_bnd {s : S} (h : s.bnd env.length = true) (l : List Atom) : s.den (env ++ l) η = s.den env η := by
  cases s with
  | int k x => simp only [S.den, X.den_bnd (show x.bnd _ = true from h)]
  | bool x => simp only [S.den, X.den_bnd (show x.bnd _ = true from h)]
  | str x => simp only [S.den, X.den_bnd (show x.bnd _ = true from h)]
  | slc x => simp only [S.den, X.den_bnd (show x.bnd _ = true from h)]
  | any x => simp only [S.den, X.den_bnd (show x.bnd _ = true from h)]
  | eptr s i z o => simp only [S.bnd, Bool.and_eq_true] at h; simp only [S.den, X.den_bnd h.1, X.den_bnd h.2]
  | _ => rfl
theorem map_bnd {l : List S} (h : l.all (S.bnd env.length) = true) (e : List Atom) : l.map (S.den (env ++ e) η) = l.map (S.den env η) :=
  List.map_congr_left fun _ hs => S.den_bnd (List.all_eq_true.1 h _ hs) e
theorem TV.den_bnd {t : TV} (h : t.bnd env.length = true) (e : List Atom) : t.den (env ++ e) η = t.den env η := by
  cases t with
  | s x => exact S.den_bnd h e
  | agg l => simp only [TV.den, map_bnd h e]
theorem SV.den_bnd {v : SV} (h : v.bnd env.length = true) (e : List Atom) : v.den (env ++ e) η = v.den env η := by
  cases v with
  | one t => exact TV.den_bnd h e
  | tup l =>
    simp only [SV.den]
    congr 2
    exact List.map_congr_left fun _ hs => TV.den_bnd (List.all_eq_true.1 h _ hs) e
/-- New atoms, a new world behind a call that leaves what there is. -/
theorem Rel.call (hr : Rel w0 st env η m a w) (hb : st.bnd = true) {w' : World} (hB : Below w.heap.size w w') {outs : List Atom} (ho : ∀ x ∈ outs, Good (ext m w w') x) :
    Rel w0 { st with n := st.n + outs.length } (env ++ outs) η (ext m w w') a w' := by
  simp only [St.bnd, Bool.and_eq_true] at hb
  obtain ⟨⟨h1, h2⟩, h3⟩ := hb
  rw [← hr.hn] at h1 h2 h3
  have hsub : ∀ ad v, m ad = some v → ext m w w' ad = some v := by
    intro ad v h
    have := cell_lt (hr.hm ad v h).1
    unfold ext
    rw [if_neg (by omega)]; exact h
  refine ⟨by simp [hr.hn], hr.hs, ?_, hr.hd, hr.he, hr.hnd, ?_, hr.hge, hr.hB.trans (hB.mono hr.hB.size), ?_, ?_, ?_, ?_⟩
  · intro i v hv
    rcases hr.ht i v hv with h | h
    · exact .inl h
    · right; rw [SV.den_bnd (List.all_eq_true.1 h1 _ (List.mem_of_getElem? hv))]; exact h
  · intro i bl hbl
    have h4 := hr.hb i bl hbl
    rw [map_bnd (List.all_eq_true.1 h2 bl (List.mem_of_getElem? hbl)), hB.block _ (Array.getElem?_eq_some_iff.1 h4).1]
    exact h4
  · intro ad v had
    unfold ext at had
    split at had
    · rename_i hge
      refine ⟨had, fun hin => ?_⟩
      have := eta_lt hr hin
      omega
    · obtain ⟨h4, h5⟩ := hr.hm ad v had
      exact ⟨by rw [hB.cell (cell_lt h4)]; exact h4, h5⟩
  · intro ad v had hlt
    unfold ext at had
    rw [if_neg (by have := hr.hB.size; omega)] at had
    exact hr.hm0 ad v had hlt
  · intro x hx
    rcases List.mem_append.1 hx with h | h
    · exact (hr.hg x h).mono hsub
    · exact ho x h
  · intro p hp
    rw [X.den_bnd (List.all_eq_true.1 h3 p hp)]
    exact hr.hk p hp
theorem S.atom_good (hg : ∀ x ∈ env, Good m x) {s : S} (h : s.pureB = true) : Good m (s.atom env) := by
  cases s with
  | slc x => exact X.good hg x
  | any x => exact X.good hg x
  | cst v =>
    refine ⟨.leaf _, ?_⟩
    simp only [S.pureB] at h
    split at h <;> first | rfl | cases h
  | int _ _ => exact ⟨.leaf _, rfl⟩
  | bool _ => exact ⟨.leaf _, rfl⟩
  | str _ => exact ⟨.leaf _, rfl⟩
  | _ => simp [S.pureB] at h
theorem S.atom_val {s : S} (h : s.pureB = true) : (s.atom env).1 = s.den env η := by
  cases s <;> first | rfl | (simp [S.pureB] at h; done)
theorem flatArgs_sound : ∀ {sh : List (Option Nat)} {vs : List SV} {l : List S} (r : List Value), flatArgs sh vs = some l → mkVals sh (l.map (S.den env η) ++ r) = vs.map (SV.den env η)
  | [], [], l, r, h => rfl
  | none :: sh, v :: vs, l, r, h => by
    cases v with
    | tup _ => simp [flatArgs] at h
    | one t =>
      cases t with
      | agg _ => simp [flatArgs] at h
      | s x =>
        simp only [flatArgs] at h
        cases hf : flatArgs sh vs with
        | none => rw [hf] at h; cases h
        | some l' =>
          rw [hf] at h
          simp only [Option.map_some, Option.some.injEq] at h
          subst h
          simp only [List.map_cons, List.cons_append, mkVals, flatArgs_sound r hf]; rfl
  | some n :: sh, v :: vs, l, r, h => by
    cases v with
    | tup _ => simp [flatArgs] at h
    | one t =>
      cases t with
      | s _ => simp [flatArgs] at h
      | agg c =>
        simp only [flatArgs] at h
        split at h
        · rename_i hlen
          have hlen : c.length = n := by simpa using hlen
          cases hf : flatArgs sh vs with
          | none => rw [hf] at h; cases h
          | some l' =>
            rw [hf] at h
            simp only [Option.map_some, Option.some.injEq] at h
            subst h
            subst hlen
            simp only [List.map_append, mkVals, List.map_cons, List.append_assoc]
            rw [List.drop_left' (by simp), List.take_left' (by simp), flatArgs_sound r hf]; rfl
        · cases h
  | [], _ :: _, l, r, h => by simp [flatArgs] at h
  | none :: _, [], l, r, h => by simp [flatArgs] at h
  | some _ :: _, [], l, r, h => by simp [flatArgs] at h
theorem shapeS_sound : ∀ {sh : List (Option Nat)} {l : List S}, (shapeS sh l).map (TV.den env η) = mkVals sh (l.map (S.den env η))
  | [], _ => rfl
  | none :: sh, [] => rfl
  | none :: sh, x :: l => by simp only [shapeS, List.map_cons, mkVals, shapeS_sound]; rfl
  | some n :: sh, l => by
    simp only [shapeS, List.map_cons, mkVals, shapeS_sound, List.map_drop, TV.den, List.map_take]
theorem atomsFrom_den : ∀ {ks : List RK} {outs e : List Atom}, KindsOk ks outs → (atomsFrom e.length ks).map (S.den (e ++ outs) η) = outs.map (·.1)
  | [], [], _, _ => rfl
  | [], _ :: _, _, h => h.elim
  | _ :: _, [], _, h => h.elim
  | k :: ks, x :: outs, e, h => by
    simp only [atomsFrom, List.map_cons]
    have h1 : ((X.at e.length).den (e ++ x :: outs)) = x := by simp [X.den, List.getD_eq_getElem?_getD]
    have h2 := atomsFrom_den (e := e ++ [x]) h.2
    simp only [List.length_append, List.length_singleton, List.append_assoc, List.singleton_append] at h2
    rw [h2, RK.S_den (by rw [h1]; exact h.1), h1]
theorem resSV_sound {sg : Sig} {v : SV} {l : List S} (h : resSV sg l = some v) : v.den env η = mkRes sg.tup sg.rsh (l.map (S.den env η)) := by
  unfold resSV at h
  split at h
  · rename_i vs ht
    injection h with h
    subst h
    simp only [mkRes, ht, if_true, SV.den, shapeS_sound]
  · rename_i v' ht hv
    injection h with h
    subst h
    have := shapeS_sound (env := env) (η := η) (sh := sg.rsh) (l := l)
    rw [hv] at this
    simp only [mkRes, ht, ← this]
    rfl
  · cases h
theorem KindsOk.length : ∀ {ks : List RK} {outs : List Atom}, KindsOk ks outs → outs.length = ks.length
  | [], [], _ => rfl
  | [], _ :: _, h => h.elim
  | _ :: _, [], h => h.elim
  | _ :: _, _ :: _, h => by simp [KindsOk.length h.2]
theorem findSig_sound {f : FuncId} : ∀ {l : List Sig} {n i : Nat} {sg : Sig}, findSig f l n = some (i, sg) → ∃ j, i = n + j ∧ l[j]? = some sg ∧ sg.f = f
  | [], _, _, _, h => by simp [findSig] at h
  | s :: l, n, i, sg, h => by
    simp only [findSig] at h
    split at h
    · rename_i hf
      simp only [Option.some.injEq, Prod.mk.injEq] at h
      obtain ⟨rfl, rfl⟩ := h
      exact ⟨0, rfl, rfl, by simpa using hf⟩
    · obtain ⟨j, h1, h2, h3⟩ := findSig_sound h
      exact ⟨j + 1, by omega, h2, h3⟩
end
end Go.Proofs.YtmhfooalcohpgaaV
