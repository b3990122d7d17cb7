/- Vcg, part 12: a region that draws its order. -/
import Derived.Test.YtmhfooalcohpgaaVS9
import Derived.Test.YtmhfooalcohpgaaWTab
namespace Go.Proofs.YtmhfooalcohpgaaV
open Go Go.RowKit Go.Proofs.YtmhfooalcohpgaaW.PrintLast

/-- What is told of a region's order: the table, the bits of what waits, the stores. -/
structure RegT where
  T : Bool × List (List Nat × List Nat)
  B : List Nat
  ds : List Nat
/-- Which may come up at a fork. -/
def Plan.heads : Plan → List Nat
  | .nil => []
  | .step i _ _ => [i]
  | .fork p q => p.heads ++ q.heads
/-- Is this a plan of the region's orders? 'at': at a fork's arms only what comes up is told. -/
def planOk (R : RegT) : Bool → Nat → List Bool → Plan → Bool
  | false, _, l, .nil => readyT R.T.2 l == []
  | true, _, _, .nil => false
  | true, f + 1, l, .step i m r => m == 2 && planOk R false f (l.set i true) r
  | false, f + 1, l, .step i m r => match m with
    | 0 => anyT R.T l (l.set i true) i && planOk R false f (l.set i true) r
    | 1 => takeW R.T R.B R.ds l (l.set i true) i && planOk R false f (l.set i true) r
    | 2 => readyT R.T.2 l == [i] && planOk R false f (l.set i true) r
    | _ => false
  | _, 0, _, .step _ _ _ => false
  | false, f, l, .fork p q => readyT R.T.2 l == p.heads ++ q.heads && planOk R true f l p && planOk R true f l q
  | true, f, l, .fork p q => planOk R true f l p && planOk R true f l q
/-- The table is the region's; the stores are all listed. -/
def RegOk (ops : Array Oper) (R : RegT) : Prop := rtab .any ops = R.T ∧ waitsOk R.T.2 R.B = true ∧ ∀ (i : Nat) o, ops[i]? = some o → isStore o.op = true → i ∈ R.ds
section
variable {w0 : Base} {P : Program} {ops : Array Oper}
variable {cs : Nat → Sig × Con} {Post : List Atom → Prop} {L : List (List Atom → Prop)} {sigs : Sg}
theorem pure_any {S : World → Prop} {ds : List Nat} {i : Nat} {oi : Oper} {v : Value} {fuel : Nat} {l l' : List Bool} {Q : Exit → Act → World → Prop} {a : Act} {w : World} (hi : ops[i]? = some oi) (hc : anyB .any ops l.toArray l'.toArray i = true)
    (hQ : ∀ c a a' w, Q (.panic c) a w → Q (.panic c) a' w) (hy : Yields P ops oi v a)
    (h : wpAnyLast P .any ops Q S ds fuel l'.toArray (a.put oi.dst v) w) : wpAnyLast P .any ops Q S ds (fuel + 1) l.toArray a w :=
  pure_ (N := oi.dst) l'.toArray hi rfl hc (fun c a w h => hQ c _ _ w h) hy rfl h
/-- What holds all along: the region's start is 'w1', with 'bs' blocks and the atoms 'env1'. -/
structure Inv (w1 : World) (bs : Nat) (env1 : List Atom) (η1 : List Nat) (m1 : Addr → Option Value) (cl : Bool) (env : List Atom) (η : List Nat) (w : World) : Prop where
  env : ∃ l, env = env1 ++ l
  hm1 : ∀ ad v, m1 ad = some v → w1.cell? ad = some v
  hg1 : ∀ x ∈ env1, Good m1 x
  below : cl = true → Below w1.heap.size w1 w
  old : ∀ b, b < bs → b < η.length ∧ η.getD b 0 < w1.heap.size
  eta : ∃ l, η = η1 ++ l
theorem getD_append_lt {l r : List Nat} {b : Nat} (h : b < l.length) : (l ++ r).getD b 0 = l.getD b 0 := by
  simp [List.getD_eq_getElem?_getD, List.getElem?_append_left h]
theorem seDraw_sound (hT : Table P sigs cs) {R : RegT} (hR : RegOk ops R) {Q : Exit → Act → World → Prop} (hQ : ∀ c a a' w, Q (.panic c) a w → Q (.panic c) a' w) {k : St → T} {w1 : World} {bs : Nat} {env1 : List Atom} {η1 : List Nat} {m1 : Addr → Option Value}
    (hK : ∀ st' env' η' m' a' w', Rel w0 st' env' η' m' a' w' → (∃ l, env' = env1 ++ l) → (∃ l, η' = η1 ++ l) → (k st').wp cs Post env' L → Q .normal a' w') :
    ∀ (p : Plan) (at_ : Bool) (f : Nat) (l : List Bool) (cl : Bool) (st : St) (env : List Atom) (η : List Nat) (m : Addr → Option Value) (a : Act) (w : World),
      planOk R at_ f l p = true → Rel w0 st env η m a w → Inv w1 bs env1 η1 m1 cl env η w → (seDraw P sigs ops bs env1.length p cl st k).wp cs Post env L →
      (at_ = false → wpAnyLast P .any ops Q (Below w1.heap.size w1) R.ds f l.toArray a w) ∧
      (at_ = true → ∃ f', f = f' + 1 ∧ ∀ i ∈ p.heads, wpOp P ops Q i (fun a' w' => (i ∉ R.ds → Below w1.heap.size w1 w → Below w1.heap.size w1 w') ∧ wpAnyLast P .any ops Q (Below w1.heap.size w1) R.ds f' (l.toArray.setIfInBounds i true) a' w') a w) := by
  intro p
  induction p with
  | nil =>
    intro at_ f l cl st env η m a w hp hr hI h
    refine ⟨fun e => ?_, fun e => ?_⟩
    · subst e
      simp only [planOk] at hp
      refine done_ ?_ (hK _ _ _ _ _ _ hr hI.env hI.eta h)
      rw [ready_eq, hR.1]
      exact hp
    · subst e; simp [planOk] at hp
  | fork p q ihp ihq =>
    intro at_ f l cl st env η m a w hp hr hI h
    simp only [seDraw] at h
    split at h
    · rename_i heq
      have heq := T.eq_of heq
      have h' : (seDraw P sigs ops bs env1.length q cl st k).wp cs Post env L := by
        rw [seDraw_fin hT.2.bind, ← heq, ← seDraw_fin hT.2.bind]; exact h
      have key : planOk R true f l p = true → planOk R true f l q = true → ∃ f', f = f' + 1 ∧ ∀ i ∈ (Plan.fork p q).heads, wpOp P ops Q i (fun a' w' => (i ∉ R.ds → Below w1.heap.size w1 w → Below w1.heap.size w1 w') ∧ wpAnyLast P .any ops Q (Below w1.heap.size w1) R.ds f' (l.toArray.setIfInBounds i true) a' w') a w := by
        intro h1 h2
        obtain ⟨f1, e1, g1⟩ := (ihp true f l cl st env η m a w h1 hr hI h).2 rfl
        obtain ⟨f2, e2, g2⟩ := (ihq true f l cl st env η m a w h2 hr hI h').2 rfl
        obtain rfl : f1 = f2 := by omega
        refine ⟨f1, e1, fun i hi => ?_⟩
        rcases List.mem_append.1 hi with hi | hi
        · exact g1 i hi
        · exact g2 i hi
      refine ⟨fun e => ?_, fun e => ?_⟩
      · subst e
        simp only [planOk, Bool.and_eq_true, beq_iff_eq] at hp
        obtain ⟨f', rfl, g⟩ := key hp.1.2 hp.2
        have hne : p.heads ++ q.heads ≠ [] := by
          intro e
          cases p with
          | nil => simp [planOk] at hp
          | step i m r => simp [Plan.heads] at e
          | fork p1 p2 =>
            have : ∀ p : Plan, planOk R true (f' + 1) l p = true → p.heads ≠ [] := by
              intro p
              induction p with
              | nil => simp [planOk]
              | step i m r => simp [Plan.heads]
              | fork p q ih _ =>
                intro h
                simp only [planOk, Bool.and_eq_true] at h
                have := ih h.1
                simp only [Plan.heads]
                intro e
                exact this (List.append_eq_nil_iff.1 e).1
            exact this _ hp.1.2 (List.append_eq_nil_iff.1 e).1
        refine wpAnyLast_all (rs := p.heads ++ q.heads) ?_ hne g
        rw [ready_eq, hR.1]
        exact hp.1.1
      · subst e
        simp only [planOk, Bool.and_eq_true] at hp
        exact key hp.1 hp.2
    · exact h.elim
  | step i md r ih =>
    intro at_ f l cl st env η m a w hp hr hI h
    cases f with
    | zero => cases at_ <;> simp [planOk] at hp
    | succ f =>
    cases hi : ops[i]? with
    | none => simp only [seDraw, hi] at h; exact h.elim
    | some o =>
    simp only [seDraw, hi] at h
    -- what an event gives
    have event : (seGuard ops st o (fun st => seOp P sigs st o fun st => seDraw P sigs ops bs env1.length r (cl && !isStore o.op) st k) fun st => seDraw P sigs ops bs env1.length r cl (st.put o.dst undefV) k).wp cs Post env L →
        planOk R false f (l.set i true) r = true →
        wpOp P ops Q i (fun a' w' => (i ∉ R.ds → Below w1.heap.size w1 w → Below w1.heap.size w1 w') ∧ wpAnyLast P .any ops Q (Below w1.heap.size w1) R.ds f (l.toArray.setIfInBounds i true) a' w') a w := by
      intro h hp
      unfold wpOp
      simp only [hi]
      refine seGuard_sound hr h (fun st' hr' _ hw h => ?_) (fun st' hr' _ hw h => ?_)
      · rw [if_pos hw]
        refine .inl (seOp_sound hT hr' h fun st2 env2 η2 m2 a2 w2 hr2 hF h2 => ?_)
        have hst : i ∉ R.ds → isStore o.op = false := by
          intro hn
          cases hs : isStore o.op with
          | false => rfl
          | true => exact absurd (hR.2.2 i o hi hs) hn
        have hI2 : Inv w1 bs env1 η1 m1 (cl && !isStore o.op) env2 η2 w2 := by
          obtain ⟨el, rfl⟩ := hF.env
          obtain ⟨ηl, rfl⟩ := hF.eta
          obtain ⟨e0, he0⟩ := hI.env
          obtain ⟨y0, hy0⟩ := hI.eta
          refine ⟨⟨e0 ++ el, by rw [he0, List.append_assoc]⟩, hI.hm1, hI.hg1, ?_, ?_, ⟨y0 ++ ηl, by rw [hy0, List.append_assoc]⟩⟩
          · intro hc
            simp only [Bool.and_eq_true, Bool.not_eq_true'] at hc
            have hb := hI.below hc.1
            exact hb.trans ((hF.below hc.2).mono hb.size)
          · intro b hb
            obtain ⟨h3, h4⟩ := hI.old b hb
            rw [getD_append_lt h3]
            exact ⟨by simp; omega, h4⟩
        refine ⟨fun hn hb => hb.trans ((hF.below (hst hn)).mono hb.size), ?_⟩
        have := (ih false f (l.set i true) _ st2 env2 η2 m2 a2 w2 hp hr2 hI2 h2).1 rfl
        rw [List.setIfInBounds_toArray]
        exact this
      · rw [if_neg (by rw [hw]; simp)]
        refine ⟨fun _ hb => hb, ?_⟩
        have := (ih false f (l.set i true) cl _ env η m _ w hp (hr'.put_undef o.dst) hI h).1 rfl
        rw [List.setIfInBounds_toArray]
        exact this
    refine ⟨fun e => ?_, fun e => ?_⟩
    · subst e
      simp only [planOk] at hp
      split at hp
      · -- a value
        simp only [Bool.and_eq_true] at hp
        have hany := any_of (ops := ops) (l := l.toArray) (l' := (l.set i true).toArray) (i := i) hR.1 (by simpa using hp.1)
        refine seGuard_sound hr h (fun st' hr' _ hw h => ?_) (fun st' hr' _ hw h => ?_)
        · split at h
          · rename_i ds v hv
            obtain ⟨hds, st2, e1, e2, e3, e4, e5⟩ := needs_sound hr'.hk h
            refine pure_any hi hany hQ (.inl ⟨hw, fun w' => seVal_sound hr' hv hds w'⟩) ?_
            exact (ih false f (l.set i true) cl _ env η m _ w hp.2 ((hr'.same e1 e2 e3 e4).put o.dst v) hI e5).1 rfl
          · exact h.elim
        · refine pure_any hi hany hQ (.inr ⟨hw, rfl⟩) ?_
          exact (ih false f (l.set i true) cl _ env η m _ w hp.2 (hr'.put_undef o.dst) hI h).1 rfl
      · -- a load
        simp only [Bool.and_eq_true] at hp
        have htake := take_ofW (ops := ops) (l := l.toArray) (l' := (l.set i true).toArray) (i := i) hR.1 hR.2.1 (by simpa using hp.1)
        simp only at h
        split at h
        · rename_i hcl
          subst hcl
          have hS := hI.below rfl
          refine seGuard_sound hr h (fun st' hr' hblk hw h => ?_) (fun st' hr' _ hw h => ?_)
          · split at h
            · rename_i t x ho
              split at h
              · rename_i ds v b hl
                split at h
                · rename_i hb
                  obtain ⟨hds, st2, e1, e2, e3, e4, e5⟩ := needs_sound hr'.hk h
                  obtain ⟨h3, h4⟩ := hI.old b hb
                  refine take_ (N := o.dst) _ hi rfl htake (fun c a w h => hQ c _ _ w h) (.inl ⟨hw, fun w' hw' => load_blk hr' ho hl ?_⟩) hS rfl ?_
                  · rw [hw'.block _ h4, hS.block _ h4]
                  · exact (ih false f (l.set i true) true _ env η m _ w hp.2 ((hr'.same e1 e2 e3 e4).put o.dst v) hI e5).1 rfl
                · exact h.elim
              · rename_i ds v s ix hl
                split at h
                · rename_i hb
                  obtain ⟨hds, st2, e1, e2, e3, e4, e5⟩ := needs_sound hr'.hk h
                  have hgood : Good m1 (s.den env) := by
                    obtain ⟨e0, he0⟩ := hI.env
                    rw [he0, X.den_bnd hb]
                    exact X.good hI.hg1 s
                  refine take_ (N := o.dst) _ hi rfl htake (fun c a w h => hQ c _ _ w h) (.inl ⟨hw, fun w' hw' => load_row hr' ho hl hds hgood ?_⟩) hS rfl ?_
                  · intro ad u hu
                    have := hI.hm1 ad u hu
                    rw [hw'.cell (cell_lt this)]; exact this
                  · exact (ih false f (l.set i true) true _ env η m _ w hp.2 ((hr'.same e1 e2 e3 e4).put o.dst v) hI e5).1 rfl
                · exact h.elim
              · exact h.elim
            · exact h.elim
          · refine take_ (N := o.dst) _ hi rfl htake (fun c a w h => hQ c _ _ w h) (.inr ⟨hw, rfl⟩) hS rfl ?_
            exact (ih false f (l.set i true) true _ env η m _ w hp.2 (hr'.put_undef o.dst) hI h).1 rfl
        · exact h.elim
      · -- the one that may come up
        simp only [Bool.and_eq_true, beq_iff_eq] at hp
        refine wpAnyLast_all (rs := [i]) (by rw [ready_eq, hR.1]; exact hp.1) (by simp) ?_
        intro j hj
        simp at hj
        subst hj
        exact event h hp.2
      · simp at hp
    · subst e
      simp only [planOk, Bool.and_eq_true, beq_iff_eq] at hp
      obtain ⟨rfl, hp⟩ := hp
      refine ⟨f, rfl, fun j hj => ?_⟩
      simp only [Plan.heads, List.mem_singleton] at hj
      subst hj
      exact event h hp
end
end Go.Proofs.YtmhfooalcohpgaaV
