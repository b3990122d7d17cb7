/- Vcg, part 16: checks by a Bool; contracts over data. -/
import Derived.Test.YtmhfooalcohpgaaVS13
namespace Go.Proofs.YtmhfooalcohpgaaV
open Go Go.RowKit Go.Proofs.YtmhfooalcohpgaaW.PrintLast

def storesB (ds : List Nat) (ops : Array Oper) : Bool := (List.range ops.size).all fun i => match ops[i]? with
  | some o => !isStore o.op || ds.contains i
  | none => true
def codeOkB (an : Ann) (rs : List (Nat × RegT)) : Code → Bool
  | .region id ops dr => !dr || match planOf id an.plans with
    | none => true
    | some p => match regOf id rs with
      | some R => rtab .any ops == R.T && waitsOk R.T.2 R.B && storesB R.ds ops && planOk R false ops.size (List.replicate ops.size false) p
      | none => false
  | .seq a b => codeOkB an rs a && codeOkB an rs b
  | .cond _ a b => codeOkB an rs a && codeOkB an rs b
  | .block _ c | .loop c | .scope c => codeOkB an rs c
  | _ => true
theorem codeOk_of {an : Ann} {rs : List (Nat × RegT)} {c : Code} (h : codeOkB an rs c = true) : codeOk an rs c := by
  induction c with
  | region id ops dr =>
    rintro rfl p hp
    simp only [codeOkB, Bool.not_true, Bool.false_or, hp] at h
    split at h
    · rename_i R _
      simp only [Bool.and_eq_true, beq_iff_eq] at h
      obtain ⟨⟨⟨h1, h2⟩, h3⟩, h4⟩ := h
      refine ⟨R, ⟨h1, h2, fun i o hi ho => ?_⟩, h4⟩
      have h5 := List.all_eq_true.1 h3 i (List.mem_range.2 (Array.getElem?_eq_some_iff.1 hi).1)
      simp only [hi, ho, Bool.not_true, Bool.false_or] at h5
      simpa using h5
    · cases h
  | seq a b iha ihb => simp only [codeOkB, Bool.and_eq_true] at h; exact ⟨iha h.1, ihb h.2⟩
  | cond c a b iha ihb => simp only [codeOkB, Bool.and_eq_true] at h; exact ⟨iha h.1, ihb h.2⟩
  | block id c ih => exact ih h
  | loop c ih => exact ih h
  | scope c ih => exact ih h
  | _ => trivial
def pl (l : List (Nat × Nat)) (e : Plan) : Plan := l.foldr (fun p r => .step p.1 p.2 r) e
def holdsAll (P : Program) : List (Sig × Con) → Prop
  | [] => True
  | c :: l => holds P c ∧ holdsAll P l
def sig0 : Sig := ⟨0, [], false, [], []⟩
def con0 : Con := ⟨fun _ => False, fun _ _ => False⟩
def tab (l : List (Sig × Con)) (i : Nat) : Sig × Con := l.getD i (sig0, con0)
theorem table_of {P : Program} {H : Hnd} : ∀ {l : List (Sig × Con)}, holdsAll P l → HOk P (tab l) H → Table P ⟨l.map (·.1), H⟩ (tab l) := by
  intro l h hH
  refine ⟨fun i sg hi => ?_, hH⟩
  simp only [List.getElem?_map] at hi
  cases hx : l[i]? with
  | none => rw [hx] at hi; cases hi
  | some c =>
    rw [hx] at hi
    simp only [Option.map_some, Option.some.injEq] at hi
    have e : tab l i = c := by simp [tab, List.getD_eq_getElem?_getD, hx]
    rw [e]
    refine ⟨hi, ?_⟩
    have key : ∀ {l : List (Sig × Con)}, holdsAll P l → ∀ c ∈ l, holds P c := by
      intro l
      induction l with
      | nil => intro _ c hc; simp at hc
      | cons d l ih =>
        intro h c hc
        rcases List.mem_cons.1 hc with rfl | hc
        · exact h.1
        · exact ih h.2 c hc
    exact key h c (List.mem_of_getElem? hx)
/-- A contract over data of one's own. -/
def mkCon {α : Type} (enc : α → List Atom) (pre : α → Prop) (post : α → List Atom → Prop) : Con :=
  ⟨fun args => ∃ x, args = enc x ∧ pre x, fun args outs => ∀ x, args = enc x → pre x → post x outs⟩
/-- Calls within a call, two deep. -/
def sgOf (P : Program) (l : List Sig) (inl : List Inl) : Sg := ⟨l, inH P inl ⟨l, inH P inl ⟨l, noH⟩⟩⟩
def InlAll (P : Program) : List (Inl × List (Nat × RegT)) → Prop
  | [] => True
  | x :: r => (P.funcs[x.1.f]? = some x.1.fn ∧ (x.1.fn.name == "runtime.NumGoroutine") = false ∧ x.1.fn.body = some x.1.c ∧ codeOkB x.1.an x.2 x.1.c = true) ∧ InlAll P r
theorem inlAll_mem {P : Program} : ∀ {inl : List (Inl × List (Nat × RegT))}, InlAll P inl → ∀ x ∈ inl.map (·.1), P.funcs[x.f]? = some x.fn ∧ (x.fn.name == "runtime.NumGoroutine") = false ∧ x.fn.body = some x.c ∧ ∃ rs, codeOk x.an rs x.c
  | [], _, x, hx => by simp at hx
  | y :: r, h, x, hx => by
    simp only [List.map_cons, List.mem_cons] at hx
    rcases hx with rfl | hx
    · exact ⟨h.1.1, h.1.2.1, h.1.2.2.1, _, codeOk_of h.1.2.2.2⟩
    · exact inlAll_mem h.2 x hx
theorem inlAll_ok {P : Program} {l : List (Sig × Con)} (hl : holdsAll P l) (hP : P.follows .mixedOrders = true) {inl : List (Inl × List (Nat × RegT))} (hI : InlAll P inl) :
    HOk P (tab l) (sgOf P (l.map (·.1)) (inl.map (·.1))).H :=
  inH_ok (table_of hl (inH_ok (table_of hl noH_ok) hP (inlAll_mem hI))) hP (inlAll_mem hI)
theorem fn_holdsI {P : Program} {l : List (Sig × Con)} (hl : holdsAll P l) {inl : List (Inl × List (Nat × RegT))} (hI : InlAll P inl) (hP : P.follows .mixedOrders = true) {an : Ann} (rs : List (Nat × RegT)) {fn : Func} {c : Code} {sg : Sig} {pk : List RK}
    {α : Type} {enc : α → List Atom} {pre : α → Prop} {post : α → List Atom → Prop} (hinj : ∀ x y, enc x = enc y → x = y)
    (hfn : P.funcs[sg.f]? = some fn) (hname : (fn.name == "runtime.NumGoroutine") = false) (hbody : fn.body = some c) (hc : codeOkB an rs c = true) (hlen : (shapeS sg.ash (atomsFrom 0 pk)).length = sg.ash.length)
    {t : T} (ht : seFn P (sgOf P (l.map (·.1)) (inl.map (·.1))) an fn sg pk = t) (h : ∀ x, pre x → KindsOk pk (enc x) ∧ t.wp (tab l) (post x) (enc x) []) : holds P (sg, mkCon enc pre post) := by
  refine seFn_sound (table_of hl (inlAll_ok hl hP hI)) hP hfn hname hbody (codeOk_of hc) hlen (pk := pk) ?_
  rintro args ⟨x, rfl, hx⟩
  obtain ⟨h1, h2⟩ := h x hx
  refine ⟨h1, ?_⟩
  have ht2 : seFn P ⟨l.map (·.1), (sgOf P (l.map (·.1)) (inl.map (·.1))).H⟩ an fn sg pk = t := ht
  rw [ht2]
  have e : (fun outs => ∀ y, enc x = enc y → pre y → post y outs) = post x := by
    funext outs
    refine propext ⟨fun h => h x rfl hx, fun h y hy _ => ?_⟩
    obtain rfl := hinj _ _ hy
    exact h
  show t.wp (tab l) (fun outs => ∀ y, enc x = enc y → pre y → post y outs) (enc x) []
  rw [e]
  exact h2
theorem fn_holds {P : Program} {l : List (Sig × Con)} (hl : holdsAll P l) (hP : P.follows .mixedOrders = true) {an : Ann} (rs : List (Nat × RegT)) {fn : Func} {c : Code} {sg : Sig} {pk : List RK}
    {α : Type} {enc : α → List Atom} {pre : α → Prop} {post : α → List Atom → Prop} (hinj : ∀ x y, enc x = enc y → x = y)
    (hfn : P.funcs[sg.f]? = some fn) (hname : (fn.name == "runtime.NumGoroutine") = false) (hbody : fn.body = some c) (hc : codeOkB an rs c = true) (hlen : (shapeS sg.ash (atomsFrom 0 pk)).length = sg.ash.length)
    {t : T} (ht : seFn P (sgOf P (l.map (·.1)) []) an fn sg pk = t) (h : ∀ x, pre x → KindsOk pk (enc x) ∧ t.wp (tab l) (post x) (enc x) []) : holds P (sg, mkCon enc pre post) :=
  fn_holdsI hl (inl := []) trivial hP rs hinj hfn hname hbody hc hlen ht h
/-- A contract that tells the result outright. -/
def mkFun {α : Type} (enc : α → List Atom) (pre : α → Prop) (f : α → List Atom) : Con := mkCon enc pre (fun x outs => outs = f x)
section
variable {cs : Nat → Sig × Con} {Post : List Atom → Prop} {env : List Atom} {L : List (List Atom → Prop)} {α : Type} {enc : α → List Atom} {pre : α → Prop}
theorem call_fun {i : Nat} {args : List S} {t : T} {f : α → List Atom} (x : α) (hcs : (cs i).2 = mkFun enc pre f) (ha : args.map (S.atom env) = enc x) (hp : pre x) (h : t.wp cs Post (env ++ f x) L) : (T.call i args t).wp cs Post env L := by
  refine ⟨by rw [hcs]; exact ⟨x, ha, hp⟩, fun outs _ ho => ?_⟩
  rw [hcs] at ho
  obtain rfl := ho x ha hp
  exact h
theorem call_con {i : Nat} {args : List S} {t : T} {post : α → List Atom → Prop} (x : α) (hcs : (cs i).2 = mkCon enc pre post) (ha : args.map (S.atom env) = enc x) (hp : pre x) (h : ∀ outs, KindsOk (cs i).1.res outs → post x outs → t.wp cs Post (env ++ outs) L) : (T.call i args t).wp cs Post env L := by
  refine ⟨by rw [hcs]; exact ⟨x, ha, hp⟩, fun outs hk ho => ?_⟩
  rw [hcs] at ho
  exact h outs hk (ho x ha hp)
theorem br_wp {x : X} {t f : T} (ht : vb (x.den env).1 = true → t.wp cs Post env L) (hf : vb (x.den env).1 = false → f.wp cs Post env L) : (T.br x t f).wp cs Post env L := ⟨ht, hf⟩
theorem need_wp {d : Nd} {t : T} (hd : d.ok env) (ht : t.wp cs Post env L) : (T.need d t).wp cs Post env L := ⟨hd, ht⟩
theorem ret_wp {l : List S} (h : Post (l.map (S.atom env))) : (T.ret l).wp cs Post env L := h
theorem loop_wp {ks : List RK} {init : List S} {body : T} (I : List Atom → Prop) (μ : List Atom → Nat) (h0 : I (init.map (S.atom env)))
    (h : ∀ as, KindsOk ks as → I as → body.wp cs Post (env ++ as) (L ++ [fun bs => I bs ∧ μ bs < μ as])) : (T.loop ks init body).wp cs Post env L := ⟨I, μ, h0, h⟩
end
/-! Letters for atoms. -/
@[reducible] def aI (n : Int) : Atom := (.int .i64 n, .leaf)
@[reducible] def aB (b : Bool) : Atom := (.bool b, .leaf)
@[reducible] def aK (k : IntKind) (n : Int) : Atom := (.int k n, .leaf)
@[reducible] def aS (s : ByteArray) : Atom := (.string s, .leaf)
end Go.Proofs.YtmhfooalcohpgaaV
