/- Vcg, part 11: regions in the text's order; what follows is uniform. -/
import Derived.Test.YtmhfooalcohpgaaVS8
namespace Go.Proofs.YtmhfooalcohpgaaV
open Go Go.RowKit Go.Proofs.YtmhfooalcohpgaaW.PrintLast

section
variable {w0 : Base} {w : World} {st : St} {env : List Atom} {η : List Nat} {m : Addr → Option Value} {a : Act} {P : Program} {ops : Array Oper}
variable {cs : Nat → Sig × Con} {Post : List Atom → Prop} {L : List (List Atom → Prop)} {sigs : Sg}
theorem seGuard_sound (hr : Rel w0 st env η m a w) {o : Oper} {perform skip : St → T} {C : Prop} (h : (seGuard ops st o perform skip).wp cs Post env L)
    (h1 : ∀ st', Rel w0 st' env η m a w → st'.blks = st.blks → Region.wanted o (yielded ops a.tmps) = true → (perform st').wp cs Post env L → C)
    (h2 : ∀ st', Rel w0 st' env η m a w → st'.blks = st.blks → Region.wanted o (yielded ops a.tmps) = false → (skip st').wp cs Post env L → C) : C := by
  unfold seGuard at h
  cases hg : o.guard with
  | none =>
    rw [hg] at h
    exact h1 st hr rfl (by simp [Region.wanted, hg]) h
  | some p =>
    obtain ⟨j, want⟩ := p
    rw [hg] at h
    simp only at h
    cases hd : (ops[j]?).bind (·.dst) with
    | none => rw [hd] at h; exact h.elim
    | some d =>
      rw [hd] at h
      simp only at h
      split at h
      · rename_i x hx
        have hv := (hr.ht d _ hx).resolve_left (by intro e; cases e)
        simp only [SV.den, TV.den, S.den] at hv
        have hw : ∀ b, Region.wanted o (yielded ops a.tmps) = (some (vb (x.den env).1) == some b) → b = want → Region.wanted o (yielded ops a.tmps) = (vb (x.den env).1 == want) := by
          intro b e1 e2; rw [e1, e2]; rfl
        have hwant : Region.wanted o (yielded ops a.tmps) = (vb (x.den env).1 == want) := by
          simp only [Region.wanted, hg, yielded, hd, Option.bind_some, hv]; rfl
        cases want with
        | true =>
          simp only [if_true] at h
          refine seBr_sound hr.hk h (fun st' e1 e2 e3 e4 e5 e6 => h1 st' (hr.same e1 e2 e3 e4) e3 (by rw [hwant, e5]; rfl) e6) (fun st' e1 e2 e3 e4 e5 e6 => h2 st' (hr.same e1 e2 e3 e4) e3 (by rw [hwant, e5]; rfl) e6)
        | false =>
          simp only [Bool.false_eq_true, if_false] at h
          refine seBr_sound hr.hk h (fun st' e1 e2 e3 e4 e5 e6 => h2 st' (hr.same e1 e2 e3 e4) e3 (by rw [hwant, e5]; rfl) e6) (fun st' e1 e2 e3 e4 e5 e6 => h1 st' (hr.same e1 e2 e3 e4) e3 (by rw [hwant, e5]; rfl) e6)
      · rename_i hx
        have hv := (hr.ht d _ hx).resolve_left (by intro e; cases e)
        simp only [SV.den, TV.den, S.den] at hv
        refine h2 st hr rfl ?_ h
        simp only [Region.wanted, hg, yielded, hd, Option.bind_some, hv, Go.undef]; rfl
      · exact h.elim
theorem seSeq_sound (hT : Table P sigs cs) {Q : Exit → Act → World → Prop} {k : St → T}
    {env0 : List Atom} {η0 : List Nat} (hK : ∀ st' env' η' m' a' w', Rel w0 st' env' η' m' a' w' → (∃ l, env' = env0 ++ l) → (∃ l, η' = η0 ++ l) → (k st').wp cs Post env' L → Q .normal a' w') :
    ∀ (l : List Oper) (st : St) (env : List Atom) (η : List Nat) (m : Addr → Option Value) (a : Act) (w : World), Rel w0 st env η m a w → (∃ l, env = env0 ++ l) → (∃ l, η = η0 ++ l) → (seSeq P sigs ops l st k).wp cs Post env L → wpList P ops Q l a w
  | [], st, env, η, m, a, w, hr, he, hη, h => hK _ _ _ _ _ _ hr he hη h
  | o :: l, st, env, η, m, a, w, hr, he, hη, h => by
    unfold wpList
    simp only [seSeq] at h
    refine seGuard_sound hr h (fun st' hr' _ hw h => ?_) (fun st' hr' _ hw h => ?_)
    · rw [if_pos hw]
      exact .inl (seOp_sound hT hr' h fun st2 env2 η2 m2 a2 w2 hr2 hF h2 => seSeq_sound hT hK l _ _ _ _ _ _ hr2 (by
        obtain ⟨x, rfl⟩ := he
        obtain ⟨y, rfl⟩ := hF.env
        exact ⟨x ++ y, by simp⟩) (by
        obtain ⟨x, rfl⟩ := hη
        obtain ⟨y, rfl⟩ := hF.eta
        exact ⟨x ++ y, by simp⟩) h2)
    · rw [if_neg (by rw [hw]; simp)]
      exact seSeq_sound hT hK l _ _ _ _ _ _ (hr'.put_undef o.dst) he hη h
/-! ### What follows is uniform -/
theorem seBr_bind {f : St → T} {x : X} : ∀ {kt kf : St → T}, (seBr st x kt kf).bind f = seBr st x (fun s => (kt s).bind f) (fun s => (kf s).bind f) := by
  have main : ∀ (x : X) {kt kf : St → T}, (match st.tells x with
        | some true => kt st
        | some false => kf st
        | none => T.br x (kt (st.knows x true)) (kf (st.knows x false))).bind f = (match st.tells x with
        | some true => (kt st).bind f
        | some false => (kf st).bind f
        | none => T.br x ((kt (st.knows x true)).bind f) ((kf (st.knows x false)).bind f)) := by
    intro x kt kf; split <;> rfl
  induction x with
  | not y ih => intro kt kf; exact ih
  | _ => intro kt kf; exact main _
theorem needs_bind {f : St → T} {k : St → T} : ∀ {ds : List Nd} {st : St}, (needs st ds k).bind f = needs st ds (fun s => (k s).bind f)
  | [], _ => rfl
  | .tru x :: r, st => by
    simp only [needs]
    split
    · exact needs_bind
    · simp only [T.bind, needs_bind]
  | .kind _ _ :: r, st => by simp only [needs, T.bind, needs_bind]
  | .row _ :: r, st => by simp only [needs, T.bind, needs_bind]
  | .sz _ _ :: r, st => by simp only [needs, T.bind, needs_bind]
theorem seGuard_bind {f : St → T} {o : Oper} {p s : St → T} : (seGuard ops st o p s).bind f = seGuard ops st o (fun x => (p x).bind f) (fun x => (s x).bind f) := by
  unfold seGuard
  split
  · rfl
  · split
    · rfl
    · split
      · split <;> exact seBr_bind
      · rfl
      · rfl
def HB (H : Hnd) : Prop := ∀ (st : St) (g : FuncId) (caps : List Nat) (vs : List SV) (k : St → SV → T) (f : St → T), (H st g caps vs k).bind f = H st g caps vs (fun s v => (k s v).bind f)
theorem seOp_bind (hH : HB sigs.H) {f : St → T} {o : Oper} {k : St → T} : (seOp P sigs st o k).bind f = seOp P sigs st o (fun x => (k x).bind f) := by
  unfold seOp
  split
  · exact needs_bind
  · split
    · split
      · exact needs_bind
      · rfl
    · split
      · split <;> rfl
      · rfl
    · split
      · split <;> rfl
      · rfl
    · split
      · split
        · split <;> rfl
        · rfl
      · rfl
    · split
      · split
        · split
          · split
            · split <;> rfl
            · rfl
          · split
            · exact hH _ _ _ _ _ _
            · rfl
        · rfl
      · rfl
    · rfl
theorem seDraw_bind (hH : HB sigs.H) {bs n0 : Nat} : ∀ {p : Plan} {cl : Bool} {st : St} {k f : St → T}, (seDraw P sigs ops bs n0 p cl st k).bind f = seDraw P sigs ops bs n0 p cl st (fun x => (k x).bind f)
  | .nil, cl, st, k, f => rfl
  | .fork p q, cl, st, k, f => by
    simp only [seDraw]
    split
    · exact seDraw_bind hH
    · rfl
  | .step i m r, cl, st, k, f => by
    simp only [seDraw]
    split
    · rfl
    · split
      · rw [seGuard_bind]
        congr 1
        · funext x
          split
          · rw [needs_bind]; congr 1; funext y; exact seDraw_bind hH
          · rfl
        · funext x; exact seDraw_bind hH
      · split
        · rw [seGuard_bind]
          congr 1
          · funext x
            split
            · split
              · split
                · rw [needs_bind]; congr 1; funext y; exact seDraw_bind hH
                · rfl
              · split
                · rw [needs_bind]; congr 1; funext y; exact seDraw_bind hH
                · rfl
              · rfl
            · rfl
          · funext x; exact seDraw_bind hH
        · rfl
      · rw [seGuard_bind]
        congr 1
        · funext x; rw [seOp_bind hH]; congr 1; funext y; exact seDraw_bind hH
        · funext x; exact seDraw_bind hH
theorem seDraw_fin (hH : HB sigs.H) {bs n0 : Nat} {p : Plan} {cl : Bool} {k : St → T} : seDraw P sigs ops bs n0 p cl st k = (seDraw P sigs ops bs n0 p cl st .fin).bind k := by
  rw [seDraw_bind hH]; rfl
end
end Go.Proofs.YtmhfooalcohpgaaV
