/- Vcg, part 17: what a row's input is, as atoms with their ghosts; from a contract to a row's form. Vcg, part 18: a row's leaves, taken apart. Vcg, part 19: how much an input holds; from a contract to a row's form where that is bounded. -/
import Derived.Test.YtamjocnlhhhijaaVC
import Derived.ProofKit
import Derived.OpenShut
import Derived.ChangeOld
import Derived.Carry
import Derived.SizedLaws
import Derived.Deep.Slices
import Derived.JoinedCond
set_option linter.unusedSimpArgs false
set_option linter.unusedVariables false
namespace Go.Proofs.YtamjocnlhhhijaaV
open Go Go.RowKit Go.ChangeShapes Go.WideShapes

inductive LK where
  | int (k : IntKind)
  | bool
  | str
  | slc (l : List LK)
inductive Fits : LK → Atom → Prop
  | int (k : IntKind) (n : Int) (h : (Lit.int k n).wf = true) : Fits (.int k) (.int k n, .leaf)
  | bool (b : Bool) : Fits .bool (.bool b, .leaf)
  | str (s : ByteArray) (h : s.size ≤ maxLen) : Fits .str (.string s, .leaf)
  | nil (l : List LK) : Fits (.slc l) (.slice none 0 0, .rows l.length [])
  | rows (l : List LK) (a : Addr) (c : Nat) (els : List (List Atom)) (hc : els.length ≤ c) (hm : c ≤ maxLen) (hz : ∀ (i : Nat) (row : List Atom), els[i]? = some row → row.length = l.length)
      (h : ∀ (i j : Nat) (row : List Atom) (k : LK) (x : Value) (d : D), els[i]? = some row → l[j]? = some k → row[j]? = some (x, d) → Fits k (x, d)) : Fits (.slc l) (.slice (some a) els.length c, .rows l.length els)
def FitsAll : List LK → List Atom → Prop
  | [], [] => True
  | k :: ks, a :: r => Fits k a ∧ FitsAll ks r
  | _, _ => False
theorem FitsAll.len : ∀ {ks : List LK} {r : List Atom}, FitsAll ks r → r.length = ks.length
  | [], [], _ => rfl
  | _ :: _, _ :: _, h => by simp [FitsAll.len h.2]
  | [], _ :: _, h => by cases h
  | _ :: _, [], h => by cases h
theorem FitsAll.get : ∀ {ks : List LK} {r : List Atom}, FitsAll ks r → ∀ (j : Nat) (k : LK) (x : Atom), ks[j]? = some k → r[j]? = some x → Fits k x
  | [], [], _, _, _, _, h1, _ => by simp at h1
  | k :: ks, a :: r, h, 0, k', x, h1, h2 => by
    simp only [List.getElem?_cons_zero, Option.some.injEq] at h1 h2
    subst h1; subst h2; exact h.1
  | k :: ks, a :: r, h, j + 1, k', x, h1, h2 => by
    simp only [List.getElem?_cons_succ] at h1 h2
    exact h.2.get j k' x h1 h2
  | [], _ :: _, h, _, _, _, _, _ => by cases h
  | _ :: _, [], h, _, _, _, _, _ => by cases h
theorem FitsAll.app : ∀ {ks ks' : List LK} {r r' : List Atom}, FitsAll ks r → FitsAll ks' r' → FitsAll (ks ++ ks') (r ++ r')
  | [], _, [], _, _, h => h
  | _ :: _, _, _ :: _, _, h, h' => ⟨h.1, h.2.app h'⟩
  | [], _, _ :: _, _, h, _ => by cases h
  | _ :: _, _, [], _, h, _ => by cases h
def joinK (c : TypeId → Nat) (r : TypeId → Option (List LK)) : Nat → List Field → Option (List LK)
  | _, [] => some []
  | off, f :: fs => match r f.type, joinK c r (off + c f.type) fs with
    | some l, some m => if f.offset = off ∧ l.length = c f.type then some (l ++ m) else none
    | _, _ => none
def leafK (P : Program) : Nat → TypeId → Option (List LK)
  | 0, _ => none
  | d + 1, t => match P.underlying t with
    | some (.int k) => some [.int k]
    | some .bool => some [.bool]
    | some .string => some [.str]
    | some (.slice e) => match leafK P d e with
      | some l => if l.length = P.cellsOf e then some [.slc l] else none
      | none => none
    | some (.struct fs) => match joinK P.cellsOf (leafK P d) 0 fs.toList with
      | some l => if l.length = P.cellsOf t then some l else none
      | none => none
    | some (.array n e) => match leafK P d e with
      | some l => if l.length = P.cellsOf e ∧ n * l.length = P.cellsOf t then some (List.replicate n l).flatten else none
      | none => none
    | _ => none
def shK (P : Program) (t : TypeId) : Option Nat := match P.underlying t with
  | some (.struct _) | some (.array _ _) => some (P.cellsOf t)
  | _ => none

section
variable {H : Type} {enc : TypeId × Value → H} {P : Program} {w : World} {base : Nat} {spare : Nat → Bool} {held : Bool}
def Opens (w : World) (ks : List LK) (cs : List Value) : Prop := ∃ r : List Atom, r.map (·.1) = cs ∧ FitsAll ks r ∧ ∀ a ∈ r, Good w.cell? a
theorem opens_nil : Opens w [] [] := ⟨[], rfl, trivial, by simp⟩
theorem opens_app {ks ks' : List LK} {cs cs' : List Value} (h : Opens w ks cs) (h' : Opens w ks' cs') : Opens w (ks ++ ks') (cs ++ cs') := by
  obtain ⟨r, h1, h2, h3⟩ := h
  obtain ⟨r', h1', h2', h3'⟩ := h'
  refine ⟨r ++ r', by simp [h1, h1'], h2.app h2', fun a ha => ?_⟩
  rcases List.mem_append.1 ha with ha | ha
  · exact h3 a ha
  · exact h3' a ha
theorem opens_join {c : TypeId → Nat} {r : TypeId → Option (List LK)} {cs : List Value} (hr : ∀ (t : TypeId) (l : List LK) (cs : List Value), r t = some l → (∃ n x, DataW.trod enc P w base spare held n t cs = some x) → Opens w l cs) :
    ∀ (fs : List Field) (off : Nat) (l : List LK), joinK c r off fs = some l → (∀ f ∈ fs, ∃ n x, DataW.trod enc P w base spare held n f.type ((cs.drop f.offset).take (c f.type)) = some x) → cs.length = off + l.length → Opens w l (cs.drop off)
  | [], off, l, h, _, hl => by
    simp only [joinK, Option.some.injEq] at h
    subst h
    rw [List.drop_of_length_le (by simpa using Nat.le_of_eq hl)]
    exact opens_nil
  | f :: fs, off, l, h, hf, hl => by
    simp only [joinK] at h
    split at h
    · rename_i l1 l2 h1 h2
      split at h
      · rename_i hc
        simp only [Option.some.injEq] at h
        subst h
        obtain ⟨ho, hn⟩ := hc
        have e1 := hr f.type l1 _ h1 (hf f (by simp))
        rw [ho] at e1
        have e2 := opens_join hr fs (off + c f.type) l2 h2 (fun g hg => hf g (by simp [hg])) (by simp at hl; omega)
        have e3 := opens_app e1 e2
        rw [← List.drop_drop, List.take_append_drop] at e3
        exact e3
      · cases h
    · cases h
theorem opens_array {s n : Nat} {l : List LK} {cs : List Value} (hl : l.length = s) (hlen : cs.length = n * s) (h : ∀ i, i < n → Opens w l ((cs.drop (i * s)).take s)) :
    ∀ (m k : Nat), k + m = n → Opens w (List.replicate m l).flatten (cs.drop (k * s))
  | 0, k, hk => by
    rw [List.drop_of_length_le (by rw [hlen, ← hk]; simp)]
    exact opens_nil
  | m + 1, k, hk => by
    have e1 := h k (by omega)
    have e2 := opens_array hl hlen h m (k + 1) (by omega)
    have e3 := opens_app e1 e2
    rw [Nat.add_mul, Nat.one_mul, ← List.drop_drop, List.take_append_drop] at e3
    simpa [List.replicate_succ] using e3
theorem open_cells : ∀ (d : Nat) (t : TypeId) (ks : List LK) (cs : List Value), leafK P d t = some ks → (∃ n x, DataW.trod enc P w base spare held n t cs = some x) → Opens w ks cs
  | 0, _, _, _, h, _ => by cases h
  | d + 1, t, ks, cs, h, hx => by
    obtain ⟨n, x, hx⟩ := hx
    have ih := open_cells d
    unfold leafK at h
    split at h
    · rename_i k ht
      injection h with h
      subst h
      obtain ⟨v, rfl, _, hw⟩ := DataW.trod_int ht hx
      exact ⟨[(.int k v, .leaf)], rfl, ⟨.int k v hw, trivial⟩, by simpa using ⟨Rd.leaf _, rfl⟩⟩
    · rename_i ht
      injection h with h
      subst h
      obtain ⟨b, rfl, _⟩ := DataW.trod_bool ht hx
      exact ⟨[(.bool b, .leaf)], rfl, ⟨.bool b, trivial⟩, by simpa using ⟨Rd.leaf _, rfl⟩⟩
    · rename_i ht
      injection h with h
      subst h
      obtain ⟨s, rfl, _, hs⟩ := DataW.trod_string ht hx
      exact ⟨[(.string s, .leaf)], rfl, ⟨.str s hs, trivial⟩, by simpa using ⟨Rd.leaf _, rfl⟩⟩
    · rename_i e ht
      split at h
      · rename_i l hle
        split at h
        · rename_i hc
          injection h with h
          subst h
          rcases DataW.trod_slice ht hx with ⟨rfl, _⟩ | ⟨a, len, cap, elems, rest, m, _, rfl, _, hb, h1, h2, h3, h4, _, _⟩
          · exact ⟨[(.slice none 0 0, .rows l.length [])], rfl, ⟨.nil l, trivial⟩, by simpa using ⟨Rd.nil _, rfl⟩⟩
          · have key : ∀ i, i < len → ∃ r : List Atom, (∀ j, j < l.length → w.cell? ((a.add (i * l.length)).add j) = (r.map (·.1))[j]?) ∧ FitsAll l r ∧ ∀ y ∈ r, Good w.cell? y := by
              intro i hi
              have hk := h4 i hi
              rw [List.getElem?_eq_getElem (by omega)] at hk
              obtain ⟨cs', k1, k2⟩ := Option.bind_eq_some_iff.1 hk
              obtain ⟨_, k3, k4⟩ := World.cells?_some k1
              obtain ⟨r, r1, r2, r3⟩ := ih e l cs' hle ⟨m, _, k2⟩
              refine ⟨r, fun j hj => ?_, r2, r3⟩
              rw [r1, hc]
              exact k4 j (by omega)
            obtain ⟨f, hf⟩ := Go.Deep.choose_lt key
            have hel : ∀ (i : Nat) (row : List Atom), ((List.range len).map f)[i]? = some row → i < len ∧ row = f i := by
              intro i row hi
              simp only [List.getElem?_map, Option.map_eq_some_iff] at hi
              obtain ⟨j, hj, rfl⟩ := hi
              rw [List.getElem?_eq_some_iff] at hj
              obtain ⟨hj1, hj2⟩ := hj
              simp at hj1 hj2
              subst hj2
              exact ⟨hj1, rfl⟩
            have hlen : ((List.range len).map f).length = len := by simp
            have hF : Fits (.slc l) (.slice (some a) len cap, .rows l.length ((List.range len).map f)) := by
              have := Fits.rows l a cap ((List.range len).map f) (by omega) h2 (fun i row hi => by obtain ⟨h5, rfl⟩ := hel i row hi; exact (hf i h5).2.1.len)
                (fun i j row k x d hi hj hx => by obtain ⟨h5, rfl⟩ := hel i row hi; exact (hf i h5).2.1.get j k (x, d) hj hx)
              rwa [hlen] at this
            have hG : Good w.cell? (.slice (some a) len cap, .rows l.length ((List.range len).map f)) := by
              refine ⟨?_, rfl⟩
              have := Rd.rows (m := w.cell?) a cap l.length ((List.range len).map f) (fun i row hi => by obtain ⟨h5, rfl⟩ := hel i row hi; exact (hf i h5).2.1.len)
                (fun i j row x hi hj => by
                  obtain ⟨h5, rfl⟩ := hel i row hi
                  have hj2 : j < l.length := by rw [← (hf i h5).2.1.len]; exact (List.getElem?_eq_some_iff.1 hj).1
                  have := (hf i h5).1 j hj2
                  rw [Go.Deep.add_add] at this
                  rw [this]
                  simp [hj])
                (fun i j row x hi hj => by obtain ⟨h5, rfl⟩ := hel i row hi; exact ((hf i h5).2.2 x (List.mem_of_getElem? hj)).2)
                (fun i j row x d hi hj => by obtain ⟨h5, rfl⟩ := hel i row hi; exact ((hf i h5).2.2 (x, d) (List.mem_of_getElem? hj)).1) (by rw [hlen]; omega)
              rwa [hlen] at this
            exact ⟨[_], rfl, ⟨hF, trivial⟩, by simpa using hG⟩
        · cases h
      · cases h
    · rename_i fs ht
      split at h
      · rename_i l hl
        split at h
        · rename_i hc
          injection h with h
          subst h
          obtain ⟨xs, m, _, _, k1, k2, k3⟩ := DataW.trod_struct ht hx
          have := opens_join (cs := cs) (fun t l cs h1 h2 => ih t l cs h1 h2) fs.toList 0 l hl (fun f hf => by
            obtain ⟨i, hi, rfl⟩ := List.getElem_of_mem hf
            have hi2 : i < fs.size := by simpa using hi
            have := k3 i fs[i] (by simp [hi2])
            rw [List.getElem?_eq_getElem (by omega)] at this
            exact ⟨m, _, by simpa using this⟩) (by omega)
          simpa using this
        · cases h
      · cases h
    · rename_i n e ht
      split at h
      · rename_i l hl
        split at h
        · rename_i hc
          injection h with h
          subst h
          obtain ⟨xs, m, _, _, k1, k2, k3⟩ := DataW.trod_array ht hx
          have := opens_array (cs := cs) (n := n) hc.1 (by rw [k1, ← hc.2, hc.1]) (fun i hi => by
            have := k3 i hi
            rw [List.getElem?_eq_getElem (by omega)] at this
            exact ih e l _ hl ⟨m, _, this⟩) n 0 (by omega)
          simpa using this
        · cases h
      · cases h
    · cases h
theorem cells_oneB {d : Nat} {t : TypeId} {ks : List LK} {v : Value} {W : World} {r0 : Reach} {b0 : Nat} (h : leafK P d t = some ks) (hv : Value.okWide P W r0 b0 t v) :
    (shK P t = none ∧ v.cells.toList = [v]) ∨ (shK P t = some (P.cellsOf t) ∧ ks.length = P.cellsOf t ∧ ∃ cs, v = .agg cs ∧ v.cells.toList = cs.toList) := by
  cases d with
  | zero => cases h
  | succ d =>
    unfold leafK at h
    split at h
    · rename_i k ht
      obtain ⟨n, rfl⟩ := okWide_int ht hv
      exact Or.inl ⟨by simp [shK, ht], rfl⟩
    · rename_i ht
      obtain ⟨n, rfl⟩ := okWide_bool ht hv
      exact Or.inl ⟨by simp [shK, ht], rfl⟩
    · rename_i ht
      obtain ⟨n, rfl⟩ := okWide_string ht hv
      exact Or.inl ⟨by simp [shK, ht], rfl⟩
    · rename_i e ht
      obtain ⟨a, b, c, rfl⟩ := okWide_slice ht hv
      exact Or.inl ⟨by simp [shK, ht], rfl⟩
    · rename_i fs ht
      split at h
      · split at h
        · rename_i hc
          injection h with h
          subst h
          obtain ⟨cs, rfl, _⟩ := okWide_struct ht hv
          exact Or.inr ⟨by simp [shK, ht], hc, cs, rfl, rfl⟩
        · cases h
      · cases h
    · rename_i n e ht
      split at h
      · split at h
        · rename_i hc
          injection h with h
          subst h
          simp only [Value.okWide, ht] at hv
          obtain ⟨cs, rfl, _⟩ := hv
          refine Or.inr ⟨by simp [shK, ht], ?_, cs, rfl, rfl⟩
          simp [← hc.2]
        · cases h
      · cases h
    · cases h
theorem open_all {W : World} {d : Nat} {r0 : Reach} {b0 : Nat} : ∀ {ts : List TypeId} {vs : List Value} {ds : List (DataW H)} {ps : List MemPlace} {kss : List (List LK)}, allSome (ts.map (leafK P d)) = some kss →
    DataW.TrodAll enc P w base spare held ts vs ds ps → (∀ (j : Nat) (t : TypeId) (v : Value), ts[j]? = some t → vs[j]? = some v → Value.okWide P W r0 b0 t v) →
    ∃ r : List Atom, mkVals (ts.map (shK P)) (r.map (·.1)) = vs ∧ FitsAll kss.flatten r ∧ ∀ a ∈ r, Good w.cell? a
  | [], vs, ds, ps, kss, hk, h, _ => by
    obtain ⟨rfl, rfl, rfl⟩ := trodAll_nil h
    simp only [List.map_nil, allSome, Option.some.injEq] at hk
    subst hk
    exact ⟨[], rfl, trivial, by simp⟩
  | t :: ts, vs, ds, ps, kss, hk, h, hv => by
    obtain ⟨v, vs', x, ds', p, q, rfl, rfl, rfl, h1, h2⟩ := trodAll_cons h
    simp only [List.map_cons] at hk
    cases hl : leafK P d t with
    | none => rw [hl] at hk; simp [allSome] at hk
    | some l =>
      rw [hl] at hk
      simp only [allSome, Option.map_eq_some_iff] at hk
      obtain ⟨kss', hk', rfl⟩ := hk
      obtain ⟨r2, e1, e2, e3⟩ := open_all hk' h2 (fun j t v h3 h4 => hv (j + 1) t v (by simpa using h3) (by simpa using h4))
      obtain ⟨n, h1⟩ := h1
      obtain ⟨r1, g1, g2, g3⟩ := open_cells d t l _ hl ⟨n, _, h1⟩
      refine ⟨r1 ++ r2, ?_, by simpa using g2.app e2, fun a ha => ?_⟩
      · rcases cells_oneB hl (hv 0 t v rfl rfl) with ⟨k1, k2⟩ | ⟨k1, k2, cs, k3, k4⟩
        · rw [k2] at g1
          simp only [List.map_cons, k1, List.map_append, g1, List.singleton_append, mkVals, e1]
        · have hlen : (r1.map (·.1)).length = P.cellsOf t := by rw [List.length_map, g2.len, k2]
          simp only [List.map_cons, k1, List.map_append, mkVals]
          rw [List.take_left' hlen, List.drop_left' hlen, e1, g1, k4, k3]
      · rcases List.mem_append.1 ha with ha | ha
        · exact g3 a ha
        · exact e3 a ha
end
/-! ### What the arguments read as, behind the call -/
theorem trodAll_below {H : Type} {enc : TypeId × Value → H} {P : Program} (hl : laidOutB P = true) {W W' : World} (hb : Below W.heap.size W W') : ∀ {ts : List TypeId} {vs : List Value} {ds : List (DataW H)} {ps : List MemPlace},
    (ts.all fun t => P.readableRec t && decide (t < P.types.size)) = true → DataW.TrodAll enc P W 0 (fun _ => true) true ts vs ds ps → (∀ x ∈ ps, x.block < W.heap.size) → DataW.TrodAll enc P W' 0 (fun b => decide (b < W.heap.size)) true ts vs ds ps
  | [], _, _, _, _, h, _ => by
    obtain ⟨rfl, rfl, rfl⟩ := trodAll_nil h
    exact trodAll_mk0
  | t :: ts, vs, ds, ps, hr, h, hlt => by
    obtain ⟨v, vs', x, ds', p, q, rfl, rfl, rfl, h1, h2⟩ := trodAll_cons h
    simp only [List.all_cons, Bool.and_eq_true, decide_eq_true_eq] at hr
    exact trodAll_cons_mk (Below.trod hl hr.1.1 hr.1.2 h1 hb fun x hx => hlt x (by simp [hx])) (trodAll_below hl hb hr.2 h2 fun x hx => hlt x (by simp [hx]))
theorem trodAll_len {H : Type} {enc : TypeId × Value → H} {P : Program} {w : World} {base : Nat} {spare : Nat → Bool} {held : Bool} : ∀ {ts : List TypeId} {vs : List Value} {ds : List (DataW H)} {ps : List MemPlace}, DataW.TrodAll enc P w base spare held ts vs ds ps → ds.length = ts.length
  | [], _, _, _, h => by
    obtain ⟨rfl, rfl, rfl⟩ := trodAll_nil h
    rfl
  | _ :: _, _, _, _, h => by
    obtain ⟨_, _, _, _, _, _, rfl, rfl, rfl, _, h2⟩ := trodAll_cons h
    simp [trodAll_len h2]
/-- From the law's contract to what the row's form asks of its run. -/
theorem run_of {H : Type} {enc : TypeId × Value → H} {C : Checked} {f : FuncId} {fn : Func} {s : ChangeSpec} {sg : Sig} {rt : TypeId} {kss : List (List LK)} {d : Nat} {α : Type} {en : α → List Atom} {pre : α → Prop}
    (hk : holds C.prog (sg, mkFun en pre (fun _ => [aB true]))) (hf : sg.f = f) (ht : sg.tup = false) (hrs : sg.rsh = [none]) (hsh : fn.params.toList.map (shK C.prog) = sg.ash) (hks : allSome (fn.params.toList.map (leafK C.prog d)) = some kss)
    (hin : ∀ r, FitsAll kss.flatten r → ∃ x, r = en x ∧ pre x) (hl : laidOutB C.prog = true) (hr : (fn.params.toList.all fun t => C.prog.readableRec t && decide (t < C.prog.types.size)) = true)
    (hres : fn.resultTypes = #[rt]) (hrt : C.prog.underlying rt = some .bool) (hvars : s.vars = []) (hspec : ∀ ds : List (DataW H), ds.length = fn.params.toList.length → s.fn H ds = { results := [.lit (.bool true)], args := ds })
    (W : World) (b0 : Nat) (args : Array Value) (ds gs : List (DataW H)) (before : List MemPlace)
    (hval : ∀ (j : Nat) t v, fn.params[j]? = some t → args[j]? = some v → Value.okWide C.prog W .any b0 t v) (hW : DataW.Whole enc C.prog fn.params.toList s.vars false W args.toList ds gs before) :
    Calls C.prog f args W fun e W' => ∃ v, e = .returned v ∧ s.post enc C.prog fn false true false false W args v W' := by
  have hW' := hW
  obtain ⟨p, q, hA, hV, rfl, hfz, hnd⟩ := hW
  rw [hvars] at hV
  obtain ⟨rfl, rfl⟩ := trodVars_none hV
  obtain ⟨r, h1, h2, h3⟩ := open_all hks hA (fun j t v h4 h5 => hval j t v (by simpa using h4) (by simpa using h5))
  obtain ⟨x, rfl, hp⟩ := hin r h2
  have hc := hk.2 (en x) W.cell? W (fun _ _ h => h) h3 ⟨x, rfl, hp⟩
  have ha : (mkVals sg.ash ((en x).map (·.1))).toArray = args := by rw [← hsh, h1]
  simp only at hc
  rw [ha, hf] at hc
  refine hc.mono fun e W' ⟨outs, he, hko, hpo, _, hb⟩ => ?_
  have ho := hpo x rfl hp
  subst ho
  refine ⟨_, he, ds, [], _, [], p, [], hW', ?_, ?_, ?_, hb.frame _, fun h => by cases h⟩
  · rw [hspec _ (by simpa using trodAll_len hA)]
    rw [hres]
    rw [hrs, ht]
    exact trodAll_mk1 (shut_bool hrt _)
  · rw [hspec _ (by simpa using trodAll_len hA)]
    simp only [List.append_nil]
    exact trodAll_below hl hb hr hA (hA.lt)
  · rw [hspec _ (by simpa using trodAll_len hA), hvars]
    rfl
/-- The same, with things handed on beside the arguments: from the law's contract to what the row's form asks of its run. -/
theorem run_ofG {H : Type} {enc : TypeId × Value → H} {C : Checked} {f : FuncId} {fn : Func} {s : ChangeSpec} {sg : Sig} {rt : TypeId} {kss : List (List LK)} {d : Nat} {α : Type} {en : α → List Atom} {pre : α → Prop}
    (hk : holds C.prog (sg, mkFun en pre (fun _ => [aB true]))) (hf : sg.f = f) (ht : sg.tup = false) (hrs : sg.rsh = [none]) (hsh : fn.params.toList.map (shK C.prog) = sg.ash) (hks : allSome (fn.params.toList.map (leafK C.prog d)) = some kss)
    {W : World} {gv : List Atom} (hgv : ∀ a ∈ gv, Good W.cell? a) (hin : ∀ r, FitsAll kss.flatten r → ∃ x, en x = r ++ gv ∧ pre x ∧ mkVals sg.ash ((en x).map (·.1)) = mkVals sg.ash (r.map (·.1))) (hl : laidOutB C.prog = true) (hr : (fn.params.toList.all fun t => C.prog.readableRec t && decide (t < C.prog.types.size)) = true)
    (hres : fn.resultTypes = #[rt]) (hrt : C.prog.underlying rt = some .bool) (hvars : s.vars = []) (hspec : ∀ ds : List (DataW H), ds.length = fn.params.toList.length → s.fn H ds = { results := [.lit (.bool true)], args := ds })
    (b0 : Nat) (args : Array Value) (ds gs : List (DataW H)) (before : List MemPlace)
    (hval : ∀ (j : Nat) t v, fn.params[j]? = some t → args[j]? = some v → Value.okWide C.prog W .any b0 t v) (hW : DataW.Whole enc C.prog fn.params.toList s.vars false W args.toList ds gs before) :
    Calls C.prog f args W fun e W' => ∃ v, e = .returned v ∧ s.post enc C.prog fn false true false false W args v W' := by
  have hW' := hW
  obtain ⟨p, q, hA, hV, rfl, hfz, hnd⟩ := hW
  rw [hvars] at hV
  obtain ⟨rfl, rfl⟩ := trodVars_none hV
  obtain ⟨r, h1, h2, h3⟩ := open_all hks hA (fun j t v h4 h5 => hval j t v (by simpa using h4) (by simpa using h5))
  obtain ⟨x, hx, hp, hmk⟩ := hin r h2
  have hc := hk.2 (en x) W.cell? W (fun _ _ h => h) (fun a ha => by rw [hx] at ha; rcases List.mem_append.1 ha with ha | ha; exact h3 a ha; exact hgv a ha) ⟨x, rfl, hp⟩
  have ha : (mkVals sg.ash ((en x).map (·.1))).toArray = args := by rw [hmk, ← hsh, h1]
  simp only at hc
  rw [ha, hf] at hc
  refine hc.mono fun e W' ⟨outs, he, hko, hpo, _, hb⟩ => ?_
  have ho := hpo x rfl hp
  subst ho
  refine ⟨_, he, ds, [], _, [], p, [], hW', ?_, ?_, ?_, hb.frame _, fun h => by cases h⟩
  · rw [hspec _ (by simpa using trodAll_len hA)]
    rw [hres]
    rw [hrs, ht]
    exact trodAll_mk1 (shut_bool hrt _)
  · rw [hspec _ (by simpa using trodAll_len hA)]
    simp only [List.append_nil]
    exact trodAll_below hl hb hr hA (hA.lt)
  · rw [hspec _ (by simpa using trodAll_len hA), hvars]
    rfl
end Go.Proofs.YtamjocnlhhhijaaV

namespace Go.Proofs.YtamjocnlhhhijaaV
open Go

theorem fits_cons {k : LK} {ks : List LK} {r : List Atom} (h : FitsAll (k :: ks) r) : ∃ a r', r = a :: r' ∧ Fits k a ∧ FitsAll ks r' := by
  cases r with
  | nil => cases h
  | cons a r' => exact ⟨a, r', rfl, h.1, h.2⟩
theorem fits_nil {r : List Atom} (h : FitsAll [] r) : r = [] := by
  cases r with
  | nil => rfl
  | cons _ _ => cases h
theorem fits_int {k : IntKind} {a : Atom} (h : Fits (.int k) a) : ∃ n, a = (.int k n, .leaf) ∧ k.min ≤ n ∧ n ≤ k.max := by
  cases h with
  | int k n hw =>
    have hw2 : (decide (k.min ≤ n) && decide (n ≤ k.max)) = true := hw
    simp only [Bool.and_eq_true, decide_eq_true_eq] at hw2
    exact ⟨n, rfl, hw2⟩
theorem fits_bool {a : Atom} (h : Fits .bool a) : ∃ b, a = (.bool b, .leaf) := by
  cases h with
  | bool b => exact ⟨b, rfl⟩
theorem fits_str {a : Atom} (h : Fits .str a) : ∃ s, a = (.string s, .leaf) ∧ s.size ≤ maxLen := by
  cases h with
  | str s hs => exact ⟨s, rfl, hs⟩
/-- A slice whose elements are leaves in rows. -/
def slOk (l : List LK) (s : Sl) : Prop := s.n ≤ maxLen ∧ ∃ els, s.d = .rows l.length els ∧ els.length = s.n ∧ ∀ (i : Nat) (row : List Atom), els[i]? = some row → FitsAll l row
theorem fitsAll_of : ∀ {l : List LK} {row : List Atom}, row.length = l.length → (∀ (j : Nat) (k : LK) (x : Atom), l[j]? = some k → row[j]? = some x → Fits k x) → FitsAll l row
  | [], [], _, _ => trivial
  | k :: l, a :: row, hl, h => ⟨h 0 k a rfl rfl, fitsAll_of (by simpa using hl) fun j k' x h1 h2 => h (j + 1) k' x (by simpa using h1) (by simpa using h2)⟩
  | [], _ :: _, hl, _ => by simp at hl
  | _ :: _, [], hl, _ => by simp at hl
theorem fits_slc {l : List LK} {a : Atom} (h : Fits (.slc l) a) : ∃ s : Sl, a = s.atom ∧ slOk l s := by
  cases h with
  | nil => exact ⟨⟨none, 0, 0, .rows l.length []⟩, rfl, Nat.zero_le _, [], rfl, rfl, by simp⟩
  | rows _ a c els hc hm hz h => exact ⟨⟨some a, els.length, c, .rows l.length els⟩, rfl, by show els.length ≤ maxLen; omega, els, rfl, rfl, fun i row hi => fitsAll_of (hz i row hi) fun j k x h1 h2 => h i j row k x.1 x.2 hi h1 h2⟩
/-- One cell of such a slice. -/
theorem slOk_cell {l : List LK} {s : Sl} (h : slOk l s) {i : Int} (h0 : 0 ≤ i) (hi : i < s.n) {j : Nat} {k : LK} (hj : l[j]? = some k) : Fits k (cellD s.atom i j) := by
  obtain ⟨_, els, h1, h2, h3⟩ := h
  have hlt : i.toNat < els.length := by omega
  have hf := h3 i.toNat els[i.toNat] (List.getElem?_eq_getElem hlt)
  have hj2 : j < els[i.toNat].length := by rw [hf.len]; exact (List.getElem?_eq_some_iff.1 hj).1
  have e : cellD s.atom i j = els[i.toNat][j] := by
    simp [cellD, Sl.atom, h1, D.els, List.getD_eq_getElem?_getD, hlt, hj2]
  rw [e]
  exact hf.get j k _ hj (List.getElem?_eq_getElem hj2)
end Go.Proofs.YtamjocnlhhhijaaV

section
set_option linter.unusedVariables false
namespace Go.Proofs.YtamjocnlhhhijaaV
open Go Go.RowKit Go.ChangeShapes Go.WideShapes
mutual
inductive Bk : Atom → Nat → Prop
  | leaf (v : Value) (n : Nat) (h1 : 1 ≤ n) (h : ∀ s : ByteArray, v = .string s → s.size + 1 ≤ n) : Bk (v, .leaf) n
  | rows (v : Value) (z : Nat) (els : List (List Atom)) (n : Nat) (h : BkRows els n) : Bk (v, .rows z els) (n + 1)
inductive BkAll : List Atom → Nat → Prop
  | nil : BkAll [] 0
  | cons (a : Atom) (r : List Atom) (n m : Nat) (h1 : Bk a n) (h2 : BkAll r m) : BkAll (a :: r) (n + m)
inductive BkRows : List (List Atom) → Nat → Prop
  | nil : BkRows [] 0
  | cons (row : List Atom) (els : List (List Atom)) (n m : Nat) (h1 : BkAll row n) (h2 : BkRows els m) : BkRows (row :: els) (n + m)
end
theorem BkAll.app : ∀ {r r' : List Atom} {n m : Nat}, BkAll r n → BkAll r' m → BkAll (r ++ r') (n + m)
  | [], r', _, m, h, h' => by
    cases h
    simpa using h'
  | a :: r, r', _, m, h, h' => by
    cases h with
    | cons _ _ n1 m1 h1 h2 =>
      rw [Nat.add_assoc]
      exact .cons a (r ++ r') n1 (m1 + m) h1 (BkAll.app h2 h')
/-- A count of what a reading holds. -/
structure Bulk (H : Type) where
  β : DataW H → Nat
  βA : List (DataW H) → Nat
  nil : βA [] = 0
  cons : ∀ d r, βA (d :: r) = β d + βA r
  lit : ∀ l, 1 ≤ β (.lit l)
  str : ∀ b : List UInt8, b.length + 1 ≤ β (.lit (.string b))
  nl : 1 ≤ β .nil
  slc : ∀ e s, βA e + 1 ≤ β (.slice e s)
  agg : ∀ p, βA p ≤ β (.agg p)
section
variable {H : Type} (B : Bulk H) {enc : TypeId × Value → H} {P : Program} {w : World} {base : Nat} {spare : Nat → Bool} {held : Bool}
theorem rows_bk : ∀ (L : List (List Atom)) (ds : List (DataW H)), L.length = ds.length → (∀ (i : Nat) row d, L[i]? = some row → ds[i]? = some d → ∃ n, BkAll row n ∧ n ≤ B.β d) → ∃ n, BkRows L n ∧ n ≤ B.βA ds
  | [], [], _, _ => ⟨0, .nil, Nat.zero_le _⟩
  | [], _ :: _, h, _ => by simp at h
  | _ :: _, [], h, _ => by simp at h
  | row :: L, d :: ds, h, hx => by
    obtain ⟨n, h1, h2⟩ := hx 0 row d rfl rfl
    obtain ⟨m, h3, h4⟩ := rows_bk L ds (by simpa using h) (fun i row d hi hd => hx (i + 1) row d (by simpa using hi) (by simpa using hd))
    exact ⟨n + m, .cons row L n m h1 h3, by rw [B.cons]; omega⟩
def OpensB (w : World) (ks : List LK) (cs : List Value) (N : Nat) : Prop := ∃ (r : List Atom) (n : Nat), r.map (·.1) = cs ∧ FitsAll ks r ∧ (∀ a ∈ r, Good w.cell? a) ∧ BkAll r n ∧ n ≤ N
theorem opensB_app {ks ks' : List LK} {cs cs' : List Value} {N M : Nat} (h : OpensB w ks cs N) (h' : OpensB w ks' cs' M) : OpensB w (ks ++ ks') (cs ++ cs') (N + M) := by
  obtain ⟨r, n, h1, h2, h3, h4, h5⟩ := h
  obtain ⟨r', n', h1', h2', h3', h4', h5'⟩ := h'
  refine ⟨r ++ r', n + n', by simp [h1, h1'], h2.app h2', fun a ha => ?_, h4.app h4', by omega⟩
  rcases List.mem_append.1 ha with ha | ha
  · exact h3 a ha
  · exact h3' a ha
theorem opensB_join {c : TypeId → Nat} {r : TypeId → Option (List LK)} {cs : List Value} (hr : ∀ (t : TypeId) (l : List LK) (cs : List Value) (d : DataW H), r t = some l → (∃ n q, DataW.trod enc P w base spare held n t cs = some (d, q)) → OpensB w l cs (B.β d)) :
    ∀ (fs : List Field) (ds : List (DataW H)) (off : Nat) (l : List LK), joinK c r off fs = some l → fs.length = ds.length → (∀ (i : Nat) f d, fs[i]? = some f → ds[i]? = some d → ∃ n q, DataW.trod enc P w base spare held n f.type ((cs.drop f.offset).take (c f.type)) = some (d, q)) → cs.length = off + l.length → OpensB w l (cs.drop off) (B.βA ds)
  | [], [], off, l, h, _, _, hl => by
    simp only [joinK, Option.some.injEq] at h
    subst h
    rw [List.drop_of_length_le (by simpa using Nat.le_of_eq hl)]
    exact ⟨[], 0, rfl, trivial, by simp, .nil, Nat.zero_le _⟩
  | [], _ :: _, _, _, _, h, _, _ => by simp at h
  | _ :: _, [], _, _, _, h, _, _ => by simp at h
  | f :: fs, d :: ds, off, l, h, hlen, hf, hl => by
    simp only [joinK] at h
    split at h
    · rename_i l1 l2 h1 h2
      split at h
      · rename_i hc
        simp only [Option.some.injEq] at h
        subst h
        obtain ⟨ho, hn⟩ := hc
        have e1 := hr f.type l1 _ d h1 (hf 0 f d rfl rfl)
        rw [ho] at e1
        have e2 := opensB_join hr fs ds (off + c f.type) l2 h2 (by simpa using hlen) (fun i g d' hg hd => hf (i + 1) g d' (by simpa using hg) (by simpa using hd)) (by simp at hl; omega)
        have e3 := opensB_app e1 e2
        rw [← List.drop_drop, List.take_append_drop, ← B.cons] at e3
        exact e3
      · cases h
    · cases h
theorem opensB_array {s n : Nat} {l : List LK} {cs : List Value} {ds : List (DataW H)} (hl : l.length = s) (hlen : cs.length = n * s) (hds : ds.length = n) (h : ∀ i d, i < n → ds[i]? = some d → OpensB w l ((cs.drop (i * s)).take s) (B.β d)) :
    ∀ (m k : Nat), k + m = n → OpensB w (List.replicate m l).flatten (cs.drop (k * s)) (B.βA (ds.drop k))
  | 0, k, hk => by
    rw [List.drop_of_length_le (by rw [hlen, ← hk]; simp)]
    exact ⟨[], 0, rfl, trivial, by simp, .nil, Nat.zero_le _⟩
  | m + 1, k, hk => by
    have hk2 : k < ds.length := by omega
    have e1 := h k ds[k] (by omega) (List.getElem?_eq_getElem hk2)
    have e2 := opensB_array hl hlen hds h m (k + 1) (by omega)
    have e3 := opensB_app e1 e2
    rw [Nat.add_mul, Nat.one_mul, ← List.drop_drop, List.take_append_drop, ← B.cons, ← List.drop_eq_getElem_cons hk2] at e3
    simpa [List.replicate_succ] using e3
theorem open_cellsB : ∀ (d : Nat) (t : TypeId) (ks : List LK) (cs : List Value) (dt : DataW H), leafK P d t = some ks → (∃ n q, DataW.trod enc P w base spare held n t cs = some (dt, q)) → OpensB w ks cs (B.β dt)
  | 0, _, _, _, _, h, _ => by cases h
  | d + 1, t, ks, cs, dt, h, hx => by
    obtain ⟨n, qq, hx⟩ := hx
    have ih := open_cellsB d
    unfold leafK at h
    split at h
    · rename_i k ht
      injection h with h
      subst h
      obtain ⟨v, rfl, hd, hw⟩ := DataW.trod_int ht hx
      injection hd with hd _
      subst hd
      exact ⟨[(.int k v, .leaf)], 1 + 0, rfl, ⟨.int k v hw, trivial⟩, by simpa using ⟨Rd.leaf _, rfl⟩, .cons _ _ 1 0 (.leaf _ 1 (Nat.le_refl _) (fun s h => by cases h)) .nil, B.lit _⟩
    · rename_i ht
      injection h with h
      subst h
      obtain ⟨b, rfl, hd⟩ := DataW.trod_bool ht hx
      injection hd with hd _
      subst hd
      exact ⟨[(.bool b, .leaf)], 1 + 0, rfl, ⟨.bool b, trivial⟩, by simpa using ⟨Rd.leaf _, rfl⟩, .cons _ _ 1 0 (.leaf _ 1 (Nat.le_refl _) (fun s h => by cases h)) .nil, B.lit _⟩
    · rename_i ht
      injection h with h
      subst h
      obtain ⟨s, rfl, hd, hs⟩ := DataW.trod_string ht hx
      injection hd with hd _
      subst hd
      exact ⟨[(.string s, .leaf)], (s.size + 1) + 0, rfl, ⟨.str s hs, trivial⟩, by simpa using ⟨Rd.leaf _, rfl⟩, .cons _ _ _ 0 (.leaf _ _ (by omega) (fun s' h => by injection h with h; subst h; exact Nat.le_refl _)) .nil, by have := B.str s.data.toList; have e : s.data.toList.length = s.size := Array.length_toList; omega⟩
    · rename_i e ht
      split at h
      · rename_i l hle
        split at h
        · rename_i hc
          injection h with h
          subst h
          rcases DataW.trod_slice ht hx with ⟨rfl, hd⟩ | ⟨a, len, cap, elems, rest, m, _, rfl, hd, hb, h1, h2, h3, h4, _, _⟩
          · injection hd with hd _
            subst hd
            exact ⟨[(.slice none 0 0, .rows l.length [])], (0 + 1) + 0, rfl, ⟨.nil l, trivial⟩, by simpa using ⟨Rd.nil _, rfl⟩, .cons _ _ _ 0 (.rows _ _ _ 0 .nil) .nil, B.nl⟩
          · injection hd with hd _
            subst hd
            have key : ∀ i, i < len → ∃ r : List Atom, (∀ j, j < l.length → w.cell? ((a.add (i * l.length)).add j) = (r.map (·.1))[j]?) ∧ FitsAll l r ∧ (∀ y ∈ r, Good w.cell? y) ∧ ∃ n, BkAll r n ∧ ∀ d, (elems.map (·.1))[i]? = some d → n ≤ B.β d := by
              intro i hi
              have hk := h4 i hi
              rw [List.getElem?_eq_getElem (by omega)] at hk
              obtain ⟨cs', k1, k2⟩ := Option.bind_eq_some_iff.1 hk
              obtain ⟨_, k3, k4⟩ := World.cells?_some k1
              obtain ⟨r, nb, r1, r2, r3, r4, r5⟩ := ih e l cs' _ hle ⟨m, _, k2⟩
              refine ⟨r, fun j hj => ?_, r2, r3, nb, r4, fun d hd => by rw [List.getElem?_map, List.getElem?_eq_getElem (by omega)] at hd; injection hd with hd; subst hd; exact r5⟩
              rw [r1, hc]
              exact k4 j (by omega)
            obtain ⟨f, hf⟩ := Go.Deep.choose_lt key
            have hel : ∀ (i : Nat) (row : List Atom), ((List.range len).map f)[i]? = some row → i < len ∧ row = f i := by
              intro i row hi
              simp only [List.getElem?_map, Option.map_eq_some_iff] at hi
              obtain ⟨j, hj, rfl⟩ := hi
              rw [List.getElem?_eq_some_iff] at hj
              obtain ⟨hj1, hj2⟩ := hj
              simp at hj1 hj2
              subst hj2
              exact ⟨hj1, rfl⟩
            have hlen : ((List.range len).map f).length = len := by simp
            have hF : Fits (.slc l) (.slice (some a) len cap, .rows l.length ((List.range len).map f)) := by
              have := Fits.rows l a cap ((List.range len).map f) (by omega) h2 (fun i row hi => by obtain ⟨h5, rfl⟩ := hel i row hi; exact (hf i h5).2.1.len)
                (fun i j row k x d hi hj hx => by obtain ⟨h5, rfl⟩ := hel i row hi; exact (hf i h5).2.1.get j k (x, d) hj hx)
              rwa [hlen] at this
            have hG : Good w.cell? (.slice (some a) len cap, .rows l.length ((List.range len).map f)) := by
              refine ⟨?_, rfl⟩
              have := Rd.rows (m := w.cell?) a cap l.length ((List.range len).map f) (fun i row hi => by obtain ⟨h5, rfl⟩ := hel i row hi; exact (hf i h5).2.1.len)
                (fun i j row x hi hj => by
                  obtain ⟨h5, rfl⟩ := hel i row hi
                  have hj2 : j < l.length := by rw [← (hf i h5).2.1.len]; exact (List.getElem?_eq_some_iff.1 hj).1
                  have := (hf i h5).1 j hj2
                  rw [Go.Deep.add_add] at this
                  rw [this]
                  simp [hj])
                (fun i j row x hi hj => by obtain ⟨h5, rfl⟩ := hel i row hi; exact ((hf i h5).2.2.1 x (List.mem_of_getElem? hj)).2)
                (fun i j row x d hi hj => by obtain ⟨h5, rfl⟩ := hel i row hi; exact ((hf i h5).2.2.1 (x, d) (List.mem_of_getElem? hj)).1) (by rw [hlen]; omega)
              rwa [hlen] at this
            obtain ⟨nb, hb1, hb2⟩ := rows_bk B ((List.range len).map f) (elems.map (·.1)) (by simp [h3]) (fun i row d hi hd => by
              obtain ⟨h5, rfl⟩ := hel i row hi
              obtain ⟨n, q1, q2⟩ := (hf i h5).2.2.2
              exact ⟨n, q1, q2 d hd⟩)
            exact ⟨[_], (nb + 1) + 0, rfl, ⟨hF, trivial⟩, by simpa using hG, .cons _ _ _ 0 (.rows _ _ _ nb hb1) .nil, by have := B.slc (elems.map (·.1)) (rest.map (·.1)); omega⟩
        · cases h
      · cases h
    · rename_i fs ht
      split at h
      · rename_i l hl
        split at h
        · rename_i hc
          injection h with h
          subst h
          obtain ⟨xs, m, _, hd, k1, k2, k3⟩ := DataW.trod_struct ht hx
          injection hd with hd _
          subst hd
          have := opensB_join B (cs := cs) (fun t l cs d h1 h2 => ih t l cs d h1 h2) fs.toList (xs.map (·.1)) 0 l hl (by simp [k2]) (fun i f d hf hd => by
            have h5 := k3 i f (by simpa using hf)
            rw [List.getElem?_map, Option.map_eq_some_iff] at hd
            obtain ⟨p, hp, rfl⟩ := hd
            rw [hp] at h5
            exact ⟨m, p.2, h5⟩) (by omega)
          obtain ⟨r, n, q1, q2, q3, q4, q5⟩ := this
          exact ⟨r, n, by simpa using q1, q2, q3, q4, Nat.le_trans q5 (B.agg _)⟩
        · cases h
      · cases h
    · rename_i n e ht
      split at h
      · rename_i l hl
        split at h
        · rename_i hc
          injection h with h
          subst h
          obtain ⟨xs, m, _, hd, k1, k2, k3⟩ := DataW.trod_array ht hx
          injection hd with hd _
          subst hd
          have := opensB_array B (cs := cs) (n := n) (ds := xs.map (·.1)) hc.1 (by rw [k1, ← hc.2, hc.1]) (by simp [k2]) (fun i d hi hd => by
            have h5 := k3 i hi
            rw [List.getElem?_map, Option.map_eq_some_iff] at hd
            obtain ⟨p, hp, rfl⟩ := hd
            rw [hp] at h5
            exact ih e l _ _ hl ⟨m, p.2, h5⟩) n 0 (by omega)
          obtain ⟨r, n', q1, q2, q3, q4, q5⟩ := this
          exact ⟨r, n', by simpa using q1, q2, q3, q4, Nat.le_trans (by simpa using q5) (B.agg _)⟩
        · cases h
      · cases h
    · cases h
theorem open_allB {W : World} {d : Nat} {r0 : Reach} {b0 : Nat} : ∀ {ts : List TypeId} {vs : List Value} {ds : List (DataW H)} {ps : List MemPlace} {kss : List (List LK)}, allSome (ts.map (leafK P d)) = some kss →
    DataW.TrodAll enc P w base spare held ts vs ds ps → (∀ (j : Nat) (t : TypeId) (v : Value), ts[j]? = some t → vs[j]? = some v → Value.okWide P W r0 b0 t v) →
    ∃ (r : List Atom) (n : Nat), mkVals (ts.map (shK P)) (r.map (·.1)) = vs ∧ FitsAll kss.flatten r ∧ (∀ a ∈ r, Good w.cell? a) ∧ BkAll r n ∧ n ≤ B.βA ds
  | [], vs, ds, ps, kss, hk, h, _ => by
    obtain ⟨rfl, rfl, rfl⟩ := trodAll_nil h
    simp only [List.map_nil, allSome, Option.some.injEq] at hk
    subst hk
    exact ⟨[], 0, rfl, trivial, by simp, .nil, Nat.zero_le _⟩
  | t :: ts, vs, ds, ps, kss, hk, h, hv => by
    obtain ⟨v, vs', x, ds', p, q, rfl, rfl, rfl, h1, h2⟩ := trodAll_cons h
    simp only [List.map_cons] at hk
    cases hl : leafK P d t with
    | none => rw [hl] at hk; simp [allSome] at hk
    | some l =>
      rw [hl] at hk
      simp only [allSome, Option.map_eq_some_iff] at hk
      obtain ⟨kss', hk', rfl⟩ := hk
      obtain ⟨r2, n2, e1, e2, e3, e4, e5⟩ := open_allB hk' h2 (fun j t v h3 h4 => hv (j + 1) t v (by simpa using h3) (by simpa using h4))
      obtain ⟨n, h1⟩ := h1
      obtain ⟨r1, n1, g1, g2, g3, g4, g5⟩ := open_cellsB B d t l _ _ hl ⟨n, _, h1⟩
      refine ⟨r1 ++ r2, n1 + n2, ?_, by simpa using g2.app e2, fun a ha => ?_, g4.app e4, by rw [B.cons]; omega⟩
      · rcases cells_oneB hl (hv 0 t v rfl rfl) with ⟨k1, k2⟩ | ⟨k1, k2, cs, k3, k4⟩
        · rw [k2] at g1
          simp only [List.map_cons, k1, List.map_append, g1, List.singleton_append, mkVals, e1]
        · have hlen : (r1.map (·.1)).length = P.cellsOf t := by rw [List.length_map, g2.len, k2]
          simp only [List.map_cons, k1, List.map_append, mkVals]
          rw [List.take_left' hlen, List.drop_left' hlen, e1, g1, k4, k3]
      · rcases List.mem_append.1 ha with ha | ha
        · exact g3 a ha
        · exact e3 a ha
end
/-- From the law's contract to what the row's form asks of its run. -/
theorem run_ofB {H : Type} {enc : TypeId × Value → H} {C : Checked} {f : FuncId} {fn : Func} {s : ChangeSpec} {sg : Sig} {rt : TypeId} {kss : List (List LK)} {d : Nat} {α : Type} {en : α → List Atom} {pre : α → Prop}
    (hk : holds C.prog (sg, mkFun en pre (fun _ => [aB true]))) (hf : sg.f = f) (ht : sg.tup = false) (hrs : sg.rsh = [none]) (hsh : fn.params.toList.map (shK C.prog) = sg.ash) (hks : allSome (fn.params.toList.map (leafK C.prog d)) = some kss)
    (B : Bulk H) {M : Nat} (hin : ∀ r n, FitsAll kss.flatten r → BkAll r n → n ≤ M → ∃ x, r = en x ∧ pre x) (hl : laidOutB C.prog = true) (hr : (fn.params.toList.all fun t => C.prog.readableRec t && decide (t < C.prog.types.size)) = true)
    (hres : fn.resultTypes = #[rt]) (hrt : C.prog.underlying rt = some .bool) (hvars : s.vars = []) (hspec : ∀ ds : List (DataW H), ds.length = fn.params.toList.length → s.fn H ds = { results := [.lit (.bool true)], args := ds })
    (W : World) (b0 : Nat) (args : Array Value) (ds gs : List (DataW H)) (before : List MemPlace)
    (hval : ∀ (j : Nat) t v, fn.params[j]? = some t → args[j]? = some v → Value.okWide C.prog W .any b0 t v) (hW : DataW.Whole enc C.prog fn.params.toList s.vars false W args.toList ds gs before) (hbd : B.βA (ds ++ gs) ≤ M) :
    Calls C.prog f args W fun e W' => ∃ v, e = .returned v ∧ s.post enc C.prog fn false true false false W args v W' := by
  have hW' := hW
  obtain ⟨p, q, hA, hV, rfl, hfz, hnd⟩ := hW
  rw [hvars] at hV
  obtain ⟨rfl, rfl⟩ := trodVars_none hV
  obtain ⟨r, n, h1, h2, h3, h6, h7⟩ := open_allB B hks hA (fun j t v h4 h5 => hval j t v (by simpa using h4) (by simpa using h5))
  rw [List.append_nil] at hbd
  obtain ⟨x, rfl, hp⟩ := hin r n h2 h6 (by omega)
  have hc := hk.2 (en x) W.cell? W (fun _ _ h => h) h3 ⟨x, rfl, hp⟩
  have ha : (mkVals sg.ash ((en x).map (·.1))).toArray = args := by rw [← hsh, h1]
  simp only at hc
  rw [ha, hf] at hc
  refine hc.mono fun e W' ⟨outs, he, hko, hpo, _, hb⟩ => ?_
  have ho := hpo x rfl hp
  subst ho
  refine ⟨_, he, ds, [], _, [], p, [], hW', ?_, ?_, ?_, hb.frame _, fun h => by cases h⟩
  · rw [hspec _ (by simpa using trodAll_len hA)]
    rw [hres]
    rw [hrs, ht]
    exact trodAll_mk1 (shut_bool hrt _)
  · rw [hspec _ (by simpa using trodAll_len hA)]
    simp only [List.append_nil]
    exact trodAll_below hl hb hr hA (hA.lt)
  · rw [hspec _ (by simpa using trodAll_len hA), hvars]
    rfl
end Go.Proofs.YtamjocnlhhhijaaV
end
