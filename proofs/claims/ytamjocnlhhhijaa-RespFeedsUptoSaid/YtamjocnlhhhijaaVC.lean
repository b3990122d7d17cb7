/- Vcg, part 12: a region that draws its order. Vcg, part 13: code. Vcg, part 13b: a region that draws its order and holds calls that are run inside. Vcg, part 14: code, a whole function. Vcg, part 15: a whole function. Vcg, part 16: checks by a Bool; contracts over data. Policies, states, acts as data; their leaves. Slices as lists: a slice's elements, whatever its address. The equations that the walks' leaves lean on, in one row. A tree, cut in two: so that the kernel checks it piece by piece. -/
import Derived.Test.YtamjocnlhhhijaaVB
import Derived.Test.YtamjocnlhhhijaaWTab
import Derived.Scope
import Derived.RangeFuncLeaves
set_option linter.unusedSimpArgs false
set_option linter.unusedVariables false
namespace Go.Proofs.YtamjocnlhhhijaaV
open Go Go.RowKit Go.Proofs.YtamjocnlhhhijaaW.PrintLast

/-- What is told of a region's order: the table, the bits of what waits, the stores. -/
structure RegT where
  T : Bool × List (List Nat × List Nat)
  B : List Nat
  ds : List Nat
/-- Which may come up at a fork. -/
def Plan.heads : Plan → List Nat
  | .nil => []
  | .step i _ _ => [i]
  | .fork p q => p.heads ++ q.heads
  | .lbs _ _ => []
/-- Is this a plan of the region's orders? 'at': at a fork's arms only what comes up is told. -/
def planOk (R : RegT) : Bool → Nat → List Bool → Plan → Bool
  | false, _, l, .nil => readyT R.T.2 l == []
  | true, _, _, .nil => false
  | true, f + 1, l, .step i m r => m == 2 && planOk R false f (l.set i true) r
  | false, f + 1, l, .step i m r => match m with
    | 0 => anyT R.T l (l.set i true) i && planOk R false f (l.set i true) r
    | 1 => takeW R.T R.B R.ds l (l.set i true) i && planOk R false f (l.set i true) r
    | 2 => readyT R.T.2 l == [i] && planOk R false f (l.set i true) r
    | _ => false
  | _, 0, _, .step _ _ _ => false
  | false, f, l, .fork p q => readyT R.T.2 l == p.heads ++ q.heads && planOk R true f l p && planOk R true f l q
  | true, f, l, .fork p q => planOk R true f l p && planOk R true f l q
  | _, _, _, .lbs _ _ => false
/-- Is this such a region's plan? -/
def planOkL (R : RegT) : Nat → List Bool → Plan → Bool
  | _, l, .nil => readyT R.T.2 l == []
  | f + 1, l, .step i m r => (match m with
    | 0 => anyT R.T l (l.set i true) i
    | 1 => takeW R.T R.B R.ds l (l.set i true) i
    | _ => readyT R.T.2 l == [i]) && planOkL R f (l.set i true) r
  | _, _, _ => false
def planOkR (R : RegT) (n : Nat) (l : List Bool) : Plan → Bool
  | .lbs _ q => planOkL R n l q
  | p => planOk R false n l p
/-- The table is the region's; the stores are all listed. -/
def RegOk (ops : Array Oper) (R : RegT) : Prop := rtab .any ops = R.T ∧ waitsOk R.T.2 R.B = true ∧ ∀ (i : Nat) o, ops[i]? = some o → isStore o.op = true → i ∈ R.ds
section
variable {w0 : Base} {P : Program} {ops : Array Oper}
variable {cs : Nat → Sig × Con} {Post : List Atom → Prop} {L : List (List Atom → Prop)} {sigs : Sg}
theorem pure_any {S : World → Prop} {ds : List Nat} {i : Nat} {oi : Oper} {v : Value} {fuel : Nat} {l l' : List Bool} {Q : Exit → Act → World → Prop} {a : Act} {w : World} (hi : ops[i]? = some oi) (hc : anyB .any ops l.toArray l'.toArray i = true)
    (hQ : ∀ c a a' w, Q (.panic c) a w → Q (.panic c) a' w) (hy : Yields P ops oi v a)
    (h : wpAnyLast P .any ops Q S ds fuel l'.toArray (a.put oi.dst v) w) : wpAnyLast P .any ops Q S ds (fuel + 1) l.toArray a w :=
  pure_ (N := oi.dst) l'.toArray hi rfl hc (fun c a w h => hQ c _ _ w h) hy rfl h
/-- What holds all along: the region's start is 'w1', with 'bs' blocks and the atoms 'env1', of which 'D1' were no more what they were told to be, and 'O1' ours. -/
structure Inv (w1 : World) (bs : Nat) (env1 : List Atom) (η1 : List Nat) (m1 : Addr → Option Value) (D1 O1 : List Nat) (cl : Bool) (st : St) (env2 : List Atom) (η : List Nat) (w : World) : Prop where
  env : ∃ l, env2 = env1 ++ l
  hm1 : ∀ ad v, m1 ad = some v → w1.cell? ad = some v
  hg1 : ∀ i x, env1[i]? = some x → Elt m1 x ∧ (i ∉ D1 → i ∉ O1 → Good m1 x)
  below : cl = true → Below w1.heap.size w1 w
  old : ∀ b, b < bs → b < η.length ∧ η.getD b 0 < w1.heap.size
  eta : ∃ l, η = η1 ++ l
  own : cl = true → ∀ o ∈ st.own, o.1 < env1.length → ∀ g, blkOf env2 o = some g → g < w1.heap.size
  dead : cl = true → st.dead = D1
theorem Inv.put {w1 : World} {bs : Nat} {env1 : List Atom} {η1 : List Nat} {m1 : Addr → Option Value} {D1 O1 : List Nat} {cl : Bool} {st st' : St} {env : List Atom} {η : List Nat} {w : World} (h : Inv w1 bs env1 η1 m1 D1 O1 cl st env η w) (e1 : st'.own = st.own) (e2 : st'.dead = st.dead) : Inv w1 bs env1 η1 m1 D1 O1 cl st' env η w :=
  ⟨h.env, h.hm1, h.hg1, h.below, h.old, h.eta, by rw [e1]; exact h.own, by rw [e2]; exact h.dead⟩
theorem getD_append_lt {l r : List Nat} {b : Nat} (h : b < l.length) : (l ++ r).getD b 0 = l.getD b 0 := by
  simp [List.getD_eq_getElem?_getD, List.getElem?_append_left h]
theorem seDraw_sound (hT : Table P sigs cs w0) {R : RegT} (hR : RegOk ops R) {Q : Exit → Act → World → Prop} (hQ : ∀ c a a' w, Q (.panic c) a w → Q (.panic c) a' w) {k : St → T} {w1 : World} {bs : Nat} {env1 : List Atom} {η1 : List Nat} {m1 : Addr → Option Value} {D1 O1 : List Nat}
    (hK : ∀ st' env' η' m' a' w', Rel w0 st' env' η' m' a' w' → (∃ l, env' = env1 ++ l) → (∃ l, η' = η1 ++ l) → (k st').wp cs Post env' L → Q .normal a' w') :
    ∀ (p : Plan) (at_ : Bool) (f : Nat) (l : List Bool) (cl : Bool) (st : St) (env : List Atom) (η : List Nat) (m : Addr → Option Value) (a : Act) (w : World),
      planOk R at_ f l p = true → Rel w0 st env η m a w → Inv w1 bs env1 η1 m1 D1 O1 cl st env η w → (seDraw P sigs L.length ops bs env1.length O1 p cl st k).wp cs Post env L →
      (at_ = false → wpAnyLast P .any ops Q (Below w1.heap.size w1) R.ds f l.toArray a w) ∧
      (at_ = true → ∃ f', f = f' + 1 ∧ ∀ i ∈ p.heads, wpOp P ops Q i (fun a' w' => (i ∉ R.ds → Below w1.heap.size w1 w → Below w1.heap.size w1 w') ∧ wpAnyLast P .any ops Q (Below w1.heap.size w1) R.ds f' (l.toArray.setIfInBounds i true) a' w') a w) := by
  intro p
  induction p with
  | nil =>
    intro at_ f l cl st env η m a w hp hr hI h
    refine ⟨fun e => ?_, fun e => ?_⟩
    · subst e
      simp only [planOk] at hp
      refine done_ ?_ (hK _ _ _ _ _ _ hr hI.env hI.eta h)
      rw [ready_eq, hR.1]
      exact hp
    · subst e; simp [planOk] at hp
  | fork p q ihp ihq =>
    intro at_ f l cl st env η m a w hp hr hI h
    have hpq : (seDraw P sigs L.length ops bs env1.length O1 p cl st k).wp cs Post env L ∧ (seDraw P sigs L.length ops bs env1.length O1 q cl st k).wp cs Post env L := by
      simp only [seDraw] at h
      split at h
      · rename_i heq
        have heq := T.eq_of heq
        refine ⟨h, ?_⟩
        rw [seDraw_fin hT.H.bind, ← heq, ← seDraw_fin hT.H.bind]; exact h
      · exact h
    clear h
    obtain ⟨h, h'⟩ := hpq
    · skip
      have key : planOk R true f l p = true → planOk R true f l q = true → ∃ f', f = f' + 1 ∧ ∀ i ∈ (Plan.fork p q).heads, wpOp P ops Q i (fun a' w' => (i ∉ R.ds → Below w1.heap.size w1 w → Below w1.heap.size w1 w') ∧ wpAnyLast P .any ops Q (Below w1.heap.size w1) R.ds f' (l.toArray.setIfInBounds i true) a' w') a w := by
        intro h1 h2
        obtain ⟨f1, e1, g1⟩ := (ihp true f l cl st env η m a w h1 hr hI h).2 rfl
        obtain ⟨f2, e2, g2⟩ := (ihq true f l cl st env η m a w h2 hr hI h').2 rfl
        obtain rfl : f1 = f2 := by omega
        refine ⟨f1, e1, fun i hi => ?_⟩
        rcases List.mem_append.1 hi with hi | hi
        · exact g1 i hi
        · exact g2 i hi
      refine ⟨fun e => ?_, fun e => ?_⟩
      · subst e
        simp only [planOk, Bool.and_eq_true, beq_iff_eq] at hp
        obtain ⟨f', rfl, g⟩ := key hp.1.2 hp.2
        have hne : p.heads ++ q.heads ≠ [] := by
          intro e
          cases p with
          | nil => simp [planOk] at hp
          | step i m r => simp [Plan.heads] at e
          | lbs x r => simp [planOk] at hp
          | fork p1 p2 =>
            have : ∀ p : Plan, planOk R true (f' + 1) l p = true → p.heads ≠ [] := by
              intro p
              induction p with
              | nil => simp [planOk]
              | step i m r => simp [Plan.heads]
              | lbs x r _ => simp [planOk]
              | fork p q ih _ =>
                intro h
                simp only [planOk, Bool.and_eq_true] at h
                have := ih h.1
                simp only [Plan.heads]
                intro e
                exact this (List.append_eq_nil_iff.1 e).1
            exact this _ hp.1.2 (List.append_eq_nil_iff.1 e).1
        refine wpAnyLast_all (rs := p.heads ++ q.heads) ?_ hne g
        rw [ready_eq, hR.1]
        exact hp.1.1
      · subst e
        simp only [planOk, Bool.and_eq_true] at hp
        exact key hp.1 hp.2
  | lbs x r _ => intro at_ f l cl st env η m a w hp; cases at_ <;> cases f <;> simp [planOk] at hp
  | step i md r ih =>
    intro at_ f l cl st env η m a w hp hr hI h
    cases f with
    | zero => cases at_ <;> simp [planOk] at hp
    | succ f =>
    cases hi : ops[i]? with
    | none => simp only [seDraw, hi] at h; exact h.elim
    | some o =>
    simp only [seDraw, hi] at h
    -- what an event gives
    have event : (seGuard ops st o (fun st => seOp P sigs (isStore o.op) L.length st o fun st => seDraw P sigs L.length ops bs env1.length O1 r (cl && !isStore o.op) st k) fun st => seDraw P sigs L.length ops bs env1.length O1 r cl (st.put o.dst undefV) k).wp cs Post env L →
        planOk R false f (l.set i true) r = true →
        wpOp P ops Q i (fun a' w' => (i ∉ R.ds → Below w1.heap.size w1 w → Below w1.heap.size w1 w') ∧ wpAnyLast P .any ops Q (Below w1.heap.size w1) R.ds f (l.toArray.setIfInBounds i true) a' w') a w := by
      intro h hp
      unfold wpOp
      simp only [hi]
      refine seGuard_sound hr h (fun st' hr' hsm hw h => ?_) (fun st' hr' hsm hw h => ?_)
      · rw [if_pos hw]
        have hI := hI.put hsm.own hsm.dead
        refine .inl (seOp_sound hT hr' h fun st2 env2 η2 m2 a2 w2 hr2 hF h2 => ?_)
        have hst : i ∉ R.ds → isStore o.op = false := by
          intro hn
          cases hs : isStore o.op with
          | false => rfl
          | true => exact absurd (hR.2.2 i o hi hs) hn
        have hI2 : Inv w1 bs env1 η1 m1 D1 O1 (cl && !isStore o.op) st2 env2 η2 w2 := by
          obtain ⟨el, rfl⟩ := hF.env
          obtain ⟨ηl, rfl⟩ := hF.eta
          obtain ⟨e0, he0⟩ := hI.env
          obtain ⟨y0, hy0⟩ := hI.eta
          refine ⟨⟨e0 ++ el, by rw [he0, List.append_assoc]⟩, hI.hm1, hI.hg1, ?_, ?_, ⟨y0 ++ ηl, by rw [hy0, List.append_assoc]⟩, ?_, ?_⟩
          · intro hc
            simp only [Bool.and_eq_true, Bool.not_eq_true'] at hc
            have hb := hI.below hc.1
            exact hb.trans ((hF.below hc.2 hc.2).mono hb.size)
          · intro b hb
            obtain ⟨h3, h4⟩ := hI.old b hb
            rw [getD_append_lt h3]
            exact ⟨by simp; omega, h4⟩
          · intro hc p hp hlt g hg
            simp only [Bool.and_eq_true, Bool.not_eq_true'] at hc
            have hlen : env1.length ≤ env.length := by rw [he0]; simp
            have hp' := hF.own hc.2 hc.2 p hp (by rw [← hr'.hn]; omega)
            rw [blkOf_app (by omega)] at hg
            exact hI.own hc.1 p hp' hlt g hg
          · intro hc
            simp only [Bool.and_eq_true, Bool.not_eq_true'] at hc
            rw [hF.dead hc.2 hc.2]
            exact hI.dead hc.1
        refine ⟨fun hn hb => hb.trans ((hF.below (hst hn) (hst hn)).mono hb.size), ?_⟩
        have := (ih false f (l.set i true) _ st2 env2 η2 m2 a2 w2 hp hr2 hI2 h2).1 rfl
        rw [List.setIfInBounds_toArray]
        exact this
      · rw [if_neg (by rw [hw]; simp)]
        refine ⟨fun _ hb => hb, ?_⟩
        have := (ih false f (l.set i true) cl _ env η m _ w hp (hr'.put_undef o.dst) (hI.put (by rw [put_own, hsm.own]) (by rw [put_dead, hsm.dead])) h).1 rfl
        rw [List.setIfInBounds_toArray]
        exact this
    refine ⟨fun e => ?_, fun e => ?_⟩
    · subst e
      simp only [planOk] at hp
      split at hp
      · -- a value
        simp only [Bool.and_eq_true] at hp
        have hany := any_of (ops := ops) (l := l.toArray) (l' := (l.set i true).toArray) (i := i) hR.1 (by simpa using hp.1)
        refine seGuard_sound hr h (fun st' hr' hsm hw h => ?_) (fun st' hr' hsm hw h => ?_)
        · split at h
          · rename_i ds v hv
            obtain ⟨hds, st2, e1, e4, e5⟩ := needs_sound hr'.hk h
            refine pure_any hi hany hQ (.inl ⟨hw, fun w' => seVal_sound hr' hv hds w'⟩) ?_
            exact (ih false f (l.set i true) cl _ env η m _ w hp.2 ((hr'.same e1 e4).put o.dst v) (hI.put (by rw [put_own, e1.own, hsm.own]) (by rw [put_dead, e1.dead, hsm.dead])) e5).1 rfl
          · exact h.elim
        · refine pure_any hi hany hQ (.inr ⟨hw, rfl⟩) ?_
          exact (ih false f (l.set i true) cl _ env η m _ w hp.2 (hr'.put_undef o.dst) (hI.put (by rw [put_own, hsm.own]) (by rw [put_dead, hsm.dead])) h).1 rfl
      · -- a load
        simp only [Bool.and_eq_true] at hp
        have htake := take_ofW (ops := ops) (l := l.toArray) (l' := (l.set i true).toArray) (i := i) hR.1 hR.2.1 (by simpa using hp.1)
        simp only at h
        split at h
        · rename_i hcl
          subst hcl
          have hS := hI.below rfl
          refine seGuard_sound hr h (fun st' hr' hsm hw h => ?_) (fun st' hr' hsm hw h => ?_)
          · split at h
            · rename_i t x ho
              split at h
              · rename_i ds v b hl
                split at h
                · rename_i hb
                  obtain ⟨hds, st2, e1, e4, e5⟩ := needs_sound hr'.hk h
                  obtain ⟨h3, h4⟩ := hI.old b hb
                  refine take_ (N := o.dst) _ hi rfl htake (fun c a w h => hQ c _ _ w h) (.inl ⟨hw, fun w' hw' => load_blk hr' ho hl ?_⟩) hS rfl ?_
                  · rw [hw'.block _ h4, hS.block _ h4]
                  · exact (ih false f (l.set i true) true _ env η m _ w hp.2 ((hr'.same e1 e4).put o.dst v) (hI.put (by rw [put_own, e1.own, hsm.own]) (by rw [put_dead, e1.dead, hsm.dead])) e5).1 rfl
                · exact h.elim
              · rename_i ds v s ix hl
                split at h
                · rename_i hb
                  obtain ⟨hds, st2, e1, e4, e5⟩ := needs_sound hr'.hk h
                  simp only [Bool.and_eq_true] at hb
                  have hlv := load_row_live hl
                  simp only [Go.Proofs.YtamjocnlhhhijaaV.live, Bool.and_eq_true] at hlv
                  have hgood : Good m1 (s.den env) := by
                    obtain ⟨e0, he0⟩ := hI.env
                    rw [he0, X.den_bnd hb.1]
                    exact X.good hI.hg1 s (by rw [← hI.dead rfl, ← hsm.dead]; exact hlv.1) hb.2
                  refine take_ (N := o.dst) _ hi rfl htake (fun c a w h => hQ c _ _ w h) (.inl ⟨hw, fun w' hw' => load_row hr' ho hl hds hgood ?_⟩) hS rfl ?_
                  · intro ad u hu
                    have := hI.hm1 ad u hu
                    rw [hw'.cell (cell_lt this)]; exact this
                  · exact (ih false f (l.set i true) true _ env η m _ w hp.2 ((hr'.same e1 e4).put o.dst v) (hI.put (by rw [put_own, e1.own, hsm.own]) (by rw [put_dead, e1.dead, hsm.dead])) e5).1 rfl
                · exact h.elim
              · rename_i ds v j hl
                split at h
                · rename_i hb
                  obtain ⟨hds, st2, e1, e4, e5⟩ := needs_sound hr'.hk h
                  refine take_ (N := o.dst) _ hi rfl htake (fun c a w h => hQ c _ _ w h) (.inl ⟨hw, fun w' hw' => load_own hr' ho hl hds fun p hp hpj g hg => ?_⟩) hS rfl ?_
                  · have hlt := hI.own rfl p (by rw [← hsm.own]; exact hp) (by rw [hpj]; exact hb) g hg
                    rw [hw'.block _ hlt, hS.block _ hlt]
                  · exact (ih false f (l.set i true) true _ env η m _ w hp.2 ((hr'.same e1 e4).put o.dst v) (hI.put (by rw [put_own, e1.own, hsm.own]) (by rw [put_dead, e1.dead, hsm.dead])) e5).1 rfl
                · exact h.elim
              · exact h.elim
            · exact h.elim
          · refine take_ (N := o.dst) _ hi rfl htake (fun c a w h => hQ c _ _ w h) (.inr ⟨hw, rfl⟩) hS rfl ?_
            exact (ih false f (l.set i true) true _ env η m _ w hp.2 (hr'.put_undef o.dst) (hI.put (by rw [put_own, hsm.own]) (by rw [put_dead, hsm.dead])) h).1 rfl
        · exact h.elim
      · -- the one that may come up
        simp only [Bool.and_eq_true, beq_iff_eq] at hp
        refine wpAnyLast_all (rs := [i]) (by rw [ready_eq, hR.1]; exact hp.1) (by simp) ?_
        intro j hj
        simp at hj
        subst hj
        exact event h hp.2
      · simp at hp
    · subst e
      simp only [planOk, Bool.and_eq_true, beq_iff_eq] at hp
      obtain ⟨rfl, hp⟩ := hp
      refine ⟨f, rfl, fun j hj => ?_⟩
      simp only [Plan.heads, List.mem_singleton] at hj
      subst hj
      exact event h hp
end
end Go.Proofs.YtamjocnlhhhijaaV

namespace Go.Proofs.YtamjocnlhhhijaaV
open Go Go.RowKit Go.Proofs.YtamjocnlhhhijaaW.PrintLast

/-- Exits, as the run has them. -/
def QE (K : Ex → Act → World → Prop) : Exit → Act → World → Prop
  | .normal, a, w => K .normal a w
  | .exit id, a, w => K (.exit id) a w
  | .ret, a, w => K .ret a w
  | _, _, _ => False
/-- The tables of a function's drawing regions, and that their plans are plans. -/
def regOf (id : Nat) : List (Nat × RegT) → Option RegT
  | [] => none
  | (j, p) :: r => if j == id then some p else regOf id r
def codeOk (an : Ann) (rs : List (Nat × RegT)) : Code → Prop
  | .region id ops dr => dr = true → ∀ p, planOf id an.plans = some p → ∃ R, RegOk ops R ∧ planOkR R ops.size (List.replicate ops.size false) p = true
  | .seq a b => codeOk an rs a ∧ codeOk an rs b
  | .cond _ a b => codeOk an rs a ∧ codeOk an rs b
  | .block _ c | .loop c | .scope c => codeOk an rs c
  | _ => True
theorem exists_least {p : Nat → Prop} (h : ∃ n, p n) : ∃ n, p n ∧ ∀ k, p k → n ≤ k := by
  obtain ⟨n, hn⟩ := h
  induction n using Nat.strongRecOn with
  | _ n ih =>
    by_cases hk : ∃ k, k < n ∧ p k
    · obtain ⟨k, h1, h2⟩ := hk; exact ih k h1 h2
    · exact ⟨n, hn, fun k h => Nat.le_of_not_lt fun hlt => hk ⟨k, hlt, h⟩⟩
theorem wp_loop_n {P : Program} {c : Code} {Q : Exit → Act → World → Prop} {a : Act} {w : World} (I : Nat → Act → World → Prop) (h0 : ∃ n, I n a w)
    (round : ∀ n a w, I n a w → c.wp P (Exit.then (fun a' w' => ∃ n', n' < n ∧ I n' a' w') Q) a w) : (Code.loop c).wp P Q a w := by
  classical
  refine wp_loop (fun a w => ∃ n, I n a w) (fun a w => if h : ∃ n, I n a w then Classical.choose (exists_least h) else 0) h0 ?_
  intro a w hI
  have hs := Classical.choose_spec (exists_least hI)
  refine Code.wp_mono ?_ (round _ a w hs.1)
  intro e a' w' he
  cases e with
  | normal =>
    obtain ⟨n', hlt, hn⟩ := he
    refine ⟨⟨n', hn⟩, ?_⟩
    have hI' : ∃ n, I n a' w' := ⟨n', hn⟩
    have h2 := (Classical.choose_spec (exists_least hI')).2 n' hn
    rw [dif_pos hI', dif_pos hI]
    omega
  | _ => exact he

/-- So many rounds at most. -/
def unr (P : Program) (c : Code) (Q : Exit → Act → World → Prop) : Nat → Act → World → Prop
  | 0, _, _ => False
  | n + 1, a, w => c.wp P (Exit.then (unr P c Q n) Q) a w
theorem wp_unr {P : Program} {c : Code} {Q : Exit → Act → World → Prop} {n : Nat} {a : Act} {w : World} (h : unr P c Q n a w) : (Code.loop c).wp P Q a w := by
  refine wp_loop_n (unr P c Q) ⟨n, h⟩ ?_
  intro n a w h
  cases n with
  | zero => exact h.elim
  | succ n =>
    refine Code.wp_mono ?_ h
    intro e a w he
    cases e with
    | normal => exact ⟨n, Nat.lt_succ_self n, he⟩
    | _ => exact he

section
variable {w0 : Base} {w : World} {st : St} {env : List Atom} {η : List Nat} {m : Addr → Option Value} {a : Act} {P : Program} {ops : Array Oper}
variable {cs : Nat → Sig × Con} {Post : List Atom → Prop} {sigs : Sg}
theorem eqL_get {α : Type} {e : α → α → Bool} : ∀ {l m : List α}, eqL e l m = true → l.length = m.length ∧ ∀ (i : Nat) x y, l[i]? = some x → m[i]? = some y → e x y = true
  | [], [], _ => ⟨rfl, fun i x y h => by simp at h⟩
  | a :: l, b :: m, h => by
    simp only [eqL, Bool.and_eq_true] at h
    obtain ⟨h1, h2⟩ := eqL_get h.2
    refine ⟨by simp [h1], fun i x y hx hy => ?_⟩
    cases i with
    | zero => simp only [List.getElem?_cons_zero, Option.some.injEq] at hx hy; subst hx; subst hy; exact h.1
    | succ i => exact h2 i x y hx hy
  | [], _ :: _, h => by simp [eqL] at h
  | _ :: _, [], h => by simp [eqL] at h
theorem kindsFit_get : ∀ {ks : List RK} {ls : List S}, kindsFit ks ls = true → ks.length = ls.length ∧ ∀ (i : Nat) k s, ks[i]? = some k → ls[i]? = some s → kindS s = some k
  | [], [], _ => ⟨rfl, fun i k s h => by simp at h⟩
  | k :: ks, s :: ss, h => by
    simp only [kindsFit, Bool.and_eq_true] at h
    obtain ⟨h1, h2⟩ := kindsFit_get h.2
    refine ⟨by simp [h1], fun i x y hx hy => ?_⟩
    cases i with
    | zero =>
      simp only [List.getElem?_cons_zero, Option.some.injEq] at hx hy; subst hx; subst hy
      have h3 := h.1
      split at h3
      · rename_i k' hk; rw [hk, RK.eq_of h3]
      · cases h3
    | succ i => exact h2 i x y hx hy
  | [], _ :: _, h => by simp [kindsFit] at h
  | _ :: _, [], h => by simp [kindsFit] at h
theorem needAll_sound {L : List (List Atom → Prop)} {t : T} : ∀ {ds : List Nd}, (needAll ds t).wp cs Post env L → (∀ d ∈ ds, d.ok env) ∧ t.wp cs Post env L
  | [], h => ⟨fun _ h => absurd h (by simp), h⟩
  | d :: r, h => by
    obtain ⟨h1, h2⟩ := h
    obtain ⟨h3, h4⟩ := needAll_sound h2
    exact ⟨fun x hx => (List.mem_cons.1 hx).elim (fun e => e ▸ h1) (h3 x), h4⟩
theorem slcAll_mem : ∀ {l : List S} {x : X}, S.slc x ∈ l → Nd.kind .slc x ∈ slcAll l
  | [], _, h => by simp at h
  | s :: l, x, h => by
    rcases List.mem_cons.1 h with e | h
    · subst e; simp [slcAll]
    · have := slcAll_mem h
      unfold slcAll
      split
      · rename_i e; cases e
      · rename_i e; cases e; exact List.mem_cons_of_mem _ this
      · rename_i e; cases e; exact this
theorem kind_ok {l : List S} (hds : ∀ d ∈ slcAll l, d.ok env) {s : S} (hs : s ∈ l) {k : RK} (h : kindS s = some k) (hg : ∀ x ∈ env, Elt m x) (hp : s.pureB = true) : k.ok (s.atom env).1 := by
  cases s with
  | int k x => injection h with h; subst h; exact ⟨_, rfl⟩
  | bool x => injection h with h; subst h; exact ⟨_, rfl⟩
  | str x => injection h with h; subst h; exact ⟨_, rfl⟩
  | slc x => injection h with h; subst h; exact hds _ (slcAll_mem hs)
  | any x => injection h with h; subst h; exact (X.elt hg x).1
  | cst v =>
    cases v <;> first
      | (injection h with h; subst h; rfl)
      | cases h
  | _ => cases h
theorem kindsOk_of : ∀ {ks : List RK} {as : List Atom}, ks.length = as.length → (∀ (i : Nat) k x, ks[i]? = some k → as[i]? = some x → k.ok x.1) → KindsOk ks as
  | [], [], _, _ => trivial
  | [], _ :: _, h, _ => by simp at h
  | _ :: _, [], h, _ => by simp at h
  | k :: ks, x :: as, h, hk => ⟨hk 0 k x rfl rfl, kindsOk_of (by simpa using h) (fun i k x h1 h2 => hk (i + 1) k x h1 h2)⟩
theorem sameVal_den {x s : S} (h : sameVal x s = true) (env : List Atom) (η : List Nat) : x.den env η = s.den env η := by
  unfold sameVal at h
  rw [Bool.or_eq_true] at h
  rcases h with h | h
  · rw [S.eq_of h]
  · split at h
    · rw [← X.eq_of h]; rfl
    · cases h
theorem sameVal_junk {x : S} (h : sameVal x .junk = true) : x = .junk := by
  unfold sameVal at h
  rw [Bool.or_eq_true] at h
  rcases h with h | h
  · exact S.eq_of h
  · split at h
    · rename_i e; cases e
    · cases h
theorem cover_den {n0 : Nat} {ks : List RK} {ls : List S} {h s : S} {env0 el : List Atom} (hn : n0 = env0.length) (hp : ls.all S.pureB = true) (hc : coverS n0 ks ls h s = true)
    (hk : ∀ (i : Nat) k x, ks[i]? = some k → ls[i]? = some x → k.ok (x.atom (env0 ++ el)).1) : h.den (env0 ++ ls.map (S.atom (env0 ++ el))) η = s.den (env0 ++ el) η := by
  unfold coverS at hc
  rw [Bool.or_eq_true] at hc
  rcases hc with hc | hc
  · simp only [Bool.and_eq_true] at hc
    obtain ⟨h1, h2⟩ := hc
    obtain rfl := S.eq_of h2
    rw [hn] at h1
    rw [S.den_bnd h1, S.den_bnd h1]
  · have main : ∀ i, (n0 ≤ i && (match ks[i - n0]?, ls[i - n0]? with
        | some k, some x => h.eq (k.S (.at i)) && sameVal x s
        | _, _ => false)) = true → h.den (env0 ++ ls.map (S.atom (env0 ++ el))) η = s.den (env0 ++ el) η := by
      intro i hc
      simp only [Bool.and_eq_true, decide_eq_true_eq] at hc
      obtain ⟨hi, hc⟩ := hc
      split at hc
      · rename_i k x hks hls
        simp only [Bool.and_eq_true] at hc
        obtain ⟨h1, h2⟩ := hc
        obtain rfl := S.eq_of h1
        rw [← sameVal_den h2]
        have hx := List.all_eq_true.1 hp x (List.mem_of_getElem? hls)
        have hat : ((X.at i).den (env0 ++ ls.map (S.atom (env0 ++ el)))) = x.atom (env0 ++ el) := by
          simp only [X.den, List.getD_eq_getElem?_getD]
          rw [List.getElem?_append_right (by omega), ← hn, List.getElem?_map, hls]
          rfl
        have h4 := hk _ _ _ hks hls
        rw [RK.S_den (by rw [hat]; exact h4), hat, S.atom_val (η := η) hx]
      · cases hc
    split at hc
    · exact main _ hc
    · exact main _ hc
    · exact main _ hc
    · exact main _ hc
    · exact main _ hc
    · cases hc
theorem S.den_take {s : S} {n : Nat} (h : s.pb n = true) : s.den env (η.take n) = s.den env η := by
  have hget : ∀ b, b < n → (η.take n).getD b 0 = η.getD b 0 := by
    intro b hb
    simp [List.getD_eq_getElem?_getD, hb]
  cases s with
  | ptr b off =>
    have h : b < n := by simpa [S.pb] using h
    simp only [S.den, hget b h]
  | mp b =>
    have h : b < n := by simpa [S.pb] using h
    simp only [S.den, hget b h]
  | bsl b off l c =>
    have h : b < n := by simpa [S.pb] using h
    simp only [S.den, hget b h]
  | fn f l =>
    simp only [S.den]
    congr 1
    apply Array.ext'
    simp only
    refine List.map_congr_left fun b hb => ?_
    have h : b < n := by have := List.all_eq_true.1 h b hb; simpa using this
    rw [hget b h]
  | _ => rfl
theorem coverBlks_get {n0 : Nat} {ks : List RK} {ls : List S} : ∀ {l m : List Blk}, coverBlks n0 ks ls l m = true → l.length ≤ m.length ∧ ∀ (i : Nat) x y, l[i]? = some x → m[i]? = some y → (x.ty = y.ty ∧ x.mp = y.mp) ∧ eqL (coverS n0 ks ls) x.cells y.cells = true
  | [], _, _ => ⟨by simp, fun i x y h => by simp at h⟩
  | a :: l, b :: m, h => by
    simp only [coverBlks, Bool.and_eq_true, beq_iff_eq] at h
    obtain ⟨h1, h2⟩ := coverBlks_get h.2
    refine ⟨by simpa using h1, fun i x y hx hy => ?_⟩
    cases i with
    | zero => simp only [List.getElem?_cons_zero, Option.some.injEq] at hx hy; subst hx; subst hy; exact h.1
    | succ i => exact h2 i x y hx hy
  | _ :: _, [], h => by simp [coverBlks] at h
theorem map_cover {n0 : Nat} {ks : List RK} {ls : List S} {env0 el : List Atom} (hn : n0 = env0.length) (hp : ls.all S.pureB = true)
    (hk : ∀ (i : Nat) k x, ks[i]? = some k → ls[i]? = some x → k.ok (x.atom (env0 ++ el)).1) {l m : List S} (h : eqL (coverS n0 ks ls) l m = true) :
    l.map (S.den (env0 ++ ls.map (S.atom (env0 ++ el))) η) = m.map (S.den (env0 ++ el) η) := by
  obtain ⟨h1, h2⟩ := eqL_get h
  apply List.ext_getElem?
  intro i
  simp only [List.getElem?_map]
  cases hx : l[i]? with
  | none => rw [List.getElem?_eq_none_iff.2 (by have := List.getElem?_eq_none_iff.1 hx; omega)]; rfl
  | some x =>
    have hlt : i < m.length := by rw [← h1]; exact (List.getElem?_eq_some_iff.1 hx).1
    have hy := List.getElem?_eq_getElem hlt
    rw [hy]
    simp only [Option.map_some, Option.some.injEq]
    exact cover_den hn hp (h2 i x _ hx hy) hk
def tokEnts (ls : List S) (ows : List (Nat × TypeId × Nat)) : List (Nat × TypeId × Nat) := ows.filterMap fun p => match (ls[p.1]? : Option S) with
  | some (S.slc (X.at k)) => some (k, p.2)
  | _ => none
theorem takeOwn_perm {ls : List S} : ∀ {ows own rem : List (Nat × TypeId × Nat)}, takeOwn ls own ows = some rem → own.Perm (tokEnts ls ows ++ rem) ∧ ∀ p ∈ ows, (∃ k, ls[p.1]? = some (.slc (.at k))) ∨ (∃ z, ls[p.1]? = some (.slc (.nil z))) ∨ ∃ y, ls[p.1]? = some (.slc (.raw y))
  | [], own, rem, h => by simp only [takeOwn, Option.some.injEq] at h; subst h; exact ⟨List.Perm.refl _, by simp⟩
  | (j, e, z) :: r, own, rem, h => by
    simp only [takeOwn] at h
    split at h
    · rename_i k hk
      split at h
      · rename_i hc
        have hmem : (k, e, z) ∈ own := by simpa using hc
        obtain ⟨h1, h2⟩ := takeOwn_perm h
        refine ⟨(List.perm_cons_erase hmem).trans ?_, fun p hp => ?_⟩
        · have : tokEnts ls ((j, e, z) :: r) = (k, e, z) :: tokEnts ls r := by simp [tokEnts, hk]
          rw [this]
          exact h1.cons _
        · rcases List.mem_cons.1 hp with rfl | hp
          · exact .inl ⟨k, hk⟩
          · exact h2 p hp
      · cases h
    · rename_i z' hk
      obtain ⟨h1, h2⟩ := takeOwn_perm h
      refine ⟨?_, fun p hp => ?_⟩
      · have : tokEnts ls ((j, e, z) :: r) = tokEnts ls r := by simp [tokEnts, hk]
        rw [this]; exact h1
      · rcases List.mem_cons.1 hp with rfl | hp
        · exact .inr (.inl ⟨_, hk⟩)
        · exact h2 p hp
    · rename_i y hk
      obtain ⟨h1, h2⟩ := takeOwn_perm h
      refine ⟨?_, fun p hp => ?_⟩
      · have : tokEnts ls ((j, e, z) :: r) = tokEnts ls r := by simp [tokEnts, hk]
        rw [this]; exact h1
      · rcases List.mem_cons.1 hp with rfl | hp
        · exact .inr (.inr ⟨_, hk⟩)
        · exact h2 p hp
    · cases h
theorem sublB_sub : ∀ {l m : List (Nat × TypeId × Nat)}, sublB l m = true → l.Sublist m
  | [], m, _ => List.nil_sublist m
  | _ :: _, [], h => by simp [sublB] at h
  | a :: l, b :: m, h => by
    simp only [sublB] at h
    split at h
    · rename_i e
      have e : a = b := by simpa using e
      subst e
      exact (sublB_sub h).cons_cons _
    · exact (sublB_sub h).cons _
theorem toks_ents {ls : List S} {ows : List (Nat × TypeId × Nat)} : (tokEnts ls ows).map (·.1) = toks ls ows := by
  induction ows with
  | nil => rfl
  | cons p r ih =>
    unfold tokEnts toks at ih ⊢
    simp only [List.filterMap_cons]
    split
    · rename_i h1
      split
      · exact ih
      · rename_i h2
        split at h1
        · cases h1
        · split at h2
          · rename_i hno _ _ hk; exact absurd hk (hno _)
          · cases h2
    · rename_i b h1
      split at h1
      · rename_i k hk
        injection h1 with h1
        subst h1
        simp only [hk, List.map_cons, ih]
      · cases h1
theorem nil_ownAt (w : World) (base : Nat) (e : TypeId) (z z' : Nat) : OwnAt m w base (.slice none 0 0, .rows z' []) e z := .inr ⟨z', [], rfl, fun h => absurd rfl h, by simp, by simp, ownsX_nil w base e z⟩
theorem S.atom_elt (hg : ∀ x ∈ env, Elt m x) {s : S} (h : s.pureB = true) : Elt m (s.atom env) := by
  cases s with
  | slc x => exact X.elt hg x
  | any x => exact X.elt hg x
  | cst v =>
    simp only [S.pureB] at h
    split at h <;> first | exact elt_leaf m rfl | cases h
  | int _ _ => exact elt_leaf m rfl
  | bool _ => exact elt_leaf m rfl
  | str _ => exact elt_leaf m rfl
  | _ => simp [S.pureB] at h
theorem mem_otherLs {ls : List S} {ows : List (Nat × TypeId × Nat)} {j : Nat} {s : S} (h : ls[j]? = some s) (hj : j ∉ ows.map (·.1)) : s ∈ otherLs ls ows := by
  unfold otherLs
  refine List.mem_map.2 ⟨(s, j), List.mem_filter.2 ⟨List.mem_zipIdx_iff_getElem?.2 (by simpa using h), ?_⟩, rfl⟩
  simpa using hj
/-- What a loop's head, or a call's end, takes over of what is ours. -/
theorem Rel.settle (hr : Rel w0 st env η m a w) {ls : List S} {ows rem kept : List (Nat × TypeId × Nat)} (h : settle st ls ows = some rem) (hk : kept.Sublist rem) :
    ∃ (st2 : St) (m' : Addr → Option Value), st2 = { st with own := tokEnts ls ows ++ kept } ∧ (∀ ad v, m ad = some v → m' ad = some v) ∧ Rel w0 st2 env η m' a w ∧ (∀ j s, ls[j]? = some s → j ∉ ows.map (·.1) → s.pureB = true → Good m' (s.atom env)) ∧
      ∀ p ∈ ows, (∃ k, ls[p.1]? = some (.slc (.at k)) ∧ (k, p.2) ∈ st2.own) ∨ (∃ z, ls[p.1]? = some (.slc (.nil z))) ∨ ∃ y, ls[p.1]? = some (.slc (.raw y)) := by
  unfold Go.Proofs.YtamjocnlhhhijaaV.settle at h
  split at h
  · rename_i st1 huse
    obtain ⟨m1, hm1, hr1, hgd⟩ := hr.use huse
    obtain ⟨hperm, hows⟩ := takeOwn_perm h
    obtain ⟨dr, hdr⟩ := hk.exists_perm_append
    have hp2 : st1.own.Perm (dr ++ (tokEnts ls ows ++ kept)) := by
      refine hperm.trans ((hdr.append_left _).trans ?_)
      rw [← List.append_assoc]
      exact List.perm_append_comm
    obtain ⟨m2, hm2, hr2⟩ := hr1.frz hp2
    obtain ⟨rfl, _⟩ := useS_own huse
    refine ⟨_, m2, rfl, fun ad v hv => hm2 _ _ (hm1 _ _ hv), hr2, fun j s hs hj hpu => (hgd s (mem_otherLs hs hj) hpu).mono hm2, fun p hp => ?_⟩
    rcases hows p hp with ⟨k, hk⟩ | hz
    · refine .inl ⟨k, hk, List.mem_append_left _ ?_⟩
      unfold tokEnts
      exact List.mem_filterMap.2 ⟨p, hp, by simp [hk]⟩
    · exact .inr hz
  · cases h
theorem SV.den_take {v : SV} {n : Nat} (h : v.pb n = true) : v.den env (η.take n) = v.den env η := by
  have hT : ∀ t : TV, t.pb n = true → t.den env (η.take n) = t.den env η := by
    intro t h
    cases t with
    | s x => exact S.den_take h
    | agg l => simp only [TV.den]; congr 2; exact List.map_congr_left fun s hs => S.den_take (List.all_eq_true.1 h s hs)
  cases v with
  | one t => exact hT t h
  | tup l => simp only [SV.den]; congr 2; exact List.map_congr_left fun s hs => hT s (List.all_eq_true.1 h s hs)
/-- At a loop's head, or back there. -/
theorem Rel.cover {hd : St} {env0 el : List Atom} (hr0 : Rel w0 st (env0 ++ el) η m a w) {ks : List RK} {ls : List S} {h : Hd} (hc : covers env0.length ks ls h hd st = true) (hds : ∀ d ∈ slcAll ls, d.ok (env0 ++ el))
    (hkn : ∀ p ∈ hd.known, vb (p.1.den env0).1 = p.2) (hys : ∀ p ∈ w0.ys, p.1.bnd env0.length = true ∧ p.1.pb hd.blks.length = true) :
    (∃ m' : Addr → Option Value, (∀ ad v, m ad = some v → m' ad = some v) ∧ Rel w0 hd (env0 ++ ls.map (S.atom (env0 ++ el))) (η.take hd.blks.length) m' a w) ∧ KindsOk ks (ls.map (S.atom (env0 ++ el))) := by
  simp only [covers, Bool.and_eq_true, beq_iff_eq] at hc
  obtain ⟨⟨⟨⟨⟨⟨⟨⟨⟨⟨⟨hn, hkf⟩, hp⟩, hpb⟩, hknb⟩, htm⟩, hbl⟩, hown⟩, hdead⟩, hkept⟩, howsl⟩, hset⟩ := hc
  split at hset
  case h_2 => cases hset
  rename_i rem hrem
  simp only [Bool.and_eq_true] at hset
  obtain ⟨⟨hsub, htoks⟩, hdd⟩ := hset
  obtain ⟨hlen, hkf⟩ := kindsFit_get hkf
  obtain ⟨htl, htg⟩ := eqL_get htm
  obtain ⟨hbl1, hbg⟩ := coverBlks_get hbl
  have hk : ∀ (i : Nat) k x, ks[i]? = some k → ls[i]? = some x → k.ok (x.atom (env0 ++ el)).1 := by
    intro i k x h1 h2
    exact kind_ok hds (List.mem_of_getElem? h2) (hkf i k x h1 h2) hr0.elt (List.all_eq_true.1 hp x (List.mem_of_getElem? h2))
  obtain ⟨st2, m', hst2, hmm, hr, hoth, hows⟩ := hr0.settle hrem (sublB_sub hsub)
  have hst2t : st2.tmps = st.tmps := by rw [hst2]
  have hst2b : st2.blks = st.blks := by rw [hst2]
  have hst2d : st2.dead = st.dead := by rw [hst2]
  have hst2o : st2.own = tokEnts ls h.ows ++ h.kept := by rw [hst2]
  rw [← hst2b] at hbl1 hbg
  rw [← hst2t] at htl htg
  have hletter : ∀ j s, ls[j]? = some s → (env0 ++ ls.map (S.atom (env0 ++ el)))[env0.length + j]? = some (s.atom (env0 ++ el)) := by
    intro j s hj
    rw [List.getElem?_append_right (Nat.le_add_right _ _), Nat.add_sub_cancel_left, List.getElem?_map, hj]; rfl
  simp only [St.pbnd, Bool.and_eq_true] at hpb
  have htake : ∀ (l : List S), l.all (S.pb hd.blks.length) = true → l.map (S.den (env0 ++ ls.map (S.atom (env0 ++ el))) (η.take hd.blks.length)) = l.map (S.den (env0 ++ ls.map (S.atom (env0 ++ el))) η) :=
    fun l hl => List.map_congr_left fun s hs => S.den_take (List.all_eq_true.1 hl s hs)
  have hbooks : Books w0 (env0 ++ ls.map (S.atom (env0 ++ el))) (η.take hd.blks.length) a.defers w := by
    refine ⟨hr.hd.md, hr.hd.kp, fun p hp => ?_⟩
    obtain ⟨y1, y2⟩ := hys p hp
    obtain ⟨z1, _, _⟩ := hr.hd.ys p hp
    refine ⟨?_, SV.bnd_mono y1 (by simp), by rw [List.length_take, Nat.min_eq_left (by rw [hr.he]; exact hbl1)]; exact y2⟩
    rw [SV.den_take y2, SV.den_bnd y1, ← z1, SV.den_bnd y1]
  refine ⟨⟨m', hmm, by simp [hn, hlen], by rw [hr.hs, htl], ?_, hbooks, by simp [hr.he]; omega, hr.hnd.sublist (List.take_sublist _ _), ?_, ?_, hr.hB, ?_, hr.hm0, ?_, ?_, ?_, ?_, ?_⟩, ?_⟩
  · intro i v hv
    have hlt : i < st2.tmps.length := by rw [← htl]; exact (List.getElem?_eq_some_iff.1 hv).1
    have hu := List.getElem?_eq_getElem hlt
    have hcv := htg i v _ hv hu
    by_cases hj : v = junkV
    · exact .inl hj
    right
    cases hst : st2.tmps[i] with
    | tup l =>
      rw [hst] at hcv
      cases v with
      | tup _ => simp [coverSV] at hcv
      | one t =>
        cases t with
        | agg _ => simp [coverSV] at hcv
        | s x => cases x <;> simp [coverSV] at hcv; exact absurd rfl hj
    | one u =>
      rw [hst] at hcv hu
      cases v with
      | tup _ => simp [coverSV] at hcv
      | one t =>
        have hcv' : coverTV env0.length ks ls t u = true := by
          cases t with
          | agg _ => exact hcv
          | s x =>
            cases x <;> first | exact hcv | exact absurd rfl hj
        have hpv : (SV.one t).pb hd.blks.length = true := List.all_eq_true.1 hpb.1 _ (List.mem_of_getElem? hv)
        rcases hr.ht i _ hu with e | e
        · -- junk stands there: nothing is told of it, so the head's is junk
          exfalso
          have e : u = .s .junk := by injection e
          subst e
          cases t with
          | agg _ => simp [coverTV] at hcv'
          | s x =>
            simp only [coverTV, coverS, Bool.or_eq_true, Bool.and_eq_true] at hcv'
            rcases hcv' with h | h
            · have := S.eq_of h.2
              subst this
              exact hj rfl
            · split at h <;> (try (cases h; done))
              all_goals
                simp only [Bool.and_eq_true] at h
                obtain ⟨_, h⟩ := h
                split at h
                · rename_i k x hks hls
                  simp only [Bool.and_eq_true] at h
                  have h2 := sameVal_junk h.2
                  subst h2
                  have := List.all_eq_true.1 hp _ (List.mem_of_getElem? hls)
                  simp [S.pureB] at this
                · cases h
        · rw [e]
          congr 1
          cases t with
          | agg l =>
            cases u with
            | s _ => simp [coverTV] at hcv'
            | agg l' =>
              simp only [SV.den, TV.den]
              rw [htake l hpv, map_cover rfl hp hk hcv']
          | s x =>
            cases u with
            | agg _ => simp [coverTV] at hcv'
            | s y =>
              simp only [SV.den, TV.den]
              rw [S.den_take hpv, cover_den rfl hp hcv' hk]
  · intro i bl hbli
    have hlt : i < hd.blks.length := (List.getElem?_eq_some_iff.1 hbli).1
    have hu := List.getElem?_eq_getElem (show i < st2.blks.length by omega)
    obtain ⟨e1, e2⟩ := hbg i bl _ hbli hu
    have h1 := hr.hb i _ hu
    have hget : (η.take hd.blks.length).getD i 0 = η.getD i 0 := by simp [List.getD_eq_getElem?_getD, hlt]
    rw [hget, h1]
    congr 1
    have ec : bl.cells.map (S.den (env0 ++ ls.map (S.atom (env0 ++ el))) (η.take hd.blks.length)) = st2.blks[i].cells.map (S.den (env0 ++ el) η) := by
      rw [htake _ (List.all_eq_true.1 hpb.2 bl (List.mem_of_getElem? hbli)), map_cover rfl hp hk e2]
    unfold Blk.obj
    rw [e1.2, e1.1]
    split
    · rw [ec]
    · congr 2
      have ez : ∀ (ks' : List Int), (ks'.zip bl.cells).map (fun p => (p.1, p.2.den (env0 ++ ls.map (S.atom (env0 ++ el))) (η.take hd.blks.length))) = (ks'.zip st2.blks[i].cells).map (fun p => (p.1, p.2.den (env0 ++ el) η)) := by
        intro ks'
        have e3 : ∀ (l : List S) (f : S → Value), (ks'.zip l).map (fun p => (p.1, f p.2)) = ks'.zip (l.map f) := by
          intro l f
          rw [List.zip_map_right]; rfl
        rw [e3, e3, ec]
      have e4 : ∀ (l : List (Int × S)) (f : S → Value) (q : IntKind), l.zipIdx.map (fun p => (⟨.int q p.1.1, f p.1.2, p.2⟩ : MapEntry)) = (l.map fun p => (p.1, f p.2)).zipIdx.map fun p => ⟨.int q p.1.1, p.1.2, p.2⟩ := by
        intro l f q
        rw [List.zipIdx_map, List.map_map]; rfl
      rw [e4, e4, ez]
  · intro g hg; exact hr.hge g (List.mem_of_mem_take hg)
  · intro ad v h
    obtain ⟨h1, h2⟩ := hr.hm ad v h
    exact ⟨h1, fun h => h2 (List.mem_of_mem_take h)⟩
  · intro i x hx
    by_cases hi : i < env0.length
    · rw [List.getElem?_append_left hi] at hx
      have hx' : (env0 ++ el)[i]? = some x := by rw [List.getElem?_append_left hi]; exact hx
      refine ⟨(hr.hg i x hx').1, fun q1 q2 => (hr.hg i x hx').2 (fun q3 => ?_) (fun q3 => ?_)⟩
      · rw [hst2d] at q3
        have := List.all_eq_true.1 hdd i q3
        simp only [Bool.or_eq_true, decide_eq_true_eq, List.contains_iff_mem] at this
        rcases this with h1 | h1
        · omega
        · exact q1 h1
      · rw [hst2o, List.map_append, List.mem_append] at q3
        rcases q3 with q3 | q3
        · rw [toks_ents] at q3
          have := List.all_eq_true.1 htoks i q3
          simp only [Bool.or_eq_true, decide_eq_true_eq, List.contains_iff_mem] at this
          rcases this with h1 | h1
          · omega
          · exact q1 h1
        · exact q2 (by rw [hown, List.map_append, List.mem_append]; exact .inl q3)
    · rw [List.getElem?_append_right (by omega), List.getElem?_map] at hx
      cases hl : ls[i - env0.length]? with
      | none => rw [hl] at hx; cases hx
      | some s =>
        rw [hl] at hx
        simp only [Option.map_some, Option.some.injEq] at hx
        subst hx
        have hpu := List.all_eq_true.1 hp s (List.mem_of_getElem? hl)
        refine ⟨S.atom_elt hr.elt hpu, fun _ q2 => hoth _ s hl (fun q3 => q2 ?_) hpu⟩
        obtain ⟨p, hpm, hp1⟩ := List.mem_map.1 q3
        rw [hown, List.map_append, List.mem_append]
        right
        refine List.mem_map.2 ⟨_, List.mem_map.2 ⟨p, hpm, rfl⟩, ?_⟩
        simp only
        omega
  · intro o ho
    rw [hown] at ho
    rcases List.mem_append.1 ho with ho | ho
    · obtain ⟨x, hx, hO⟩ := hr.ho o (by rw [hst2o]; exact List.mem_append_right _ ho)
      have hlt : o.1 < env0.length := by simpa using List.all_eq_true.1 hkept o ho
      exact ⟨x, by rw [List.getElem?_append_left hlt] at hx ⊢; exact hx, hO⟩
    · obtain ⟨p, hpm, rfl⟩ := List.mem_map.1 ho
      rcases hows p hpm with ⟨k, hk1, hk2⟩ | ⟨z, hk1⟩ | ⟨y, hk1⟩
      · exact ⟨_, hletter _ _ hk1, hr.own hk2⟩
      · exact ⟨_, hletter _ _ hk1, nil_ownAt _ _ _ _ _⟩
      · exact ⟨_, hletter _ _ hk1, .inl rfl⟩
  · rw [hown, List.pairwise_append]
    have hod := hr.hod
    rw [hst2o, List.pairwise_append] at hod
    obtain ⟨hod1, hod2, hod3⟩ := hod
    have hold : ∀ o ∈ h.kept, blkOf (env0 ++ ls.map (S.atom (env0 ++ el))) o = blkOf (env0 ++ el) o := by
      intro o ho
      have hlt : o.1 < env0.length := by simpa using List.all_eq_true.1 hkept o ho
      rw [blkOf_app hlt, blkOf_app hlt]
    have hnew : ∀ p ∈ h.ows, ∀ g, blkOf (env0 ++ ls.map (S.atom (env0 ++ el))) (env0.length + p.1, p.2) = some g → ∃ k, ls[p.1]? = some (.slc (.at k)) ∧ blkOf (env0 ++ el) (k, p.2) = some g ∧ (k, p.2) ∈ tokEnts ls h.ows := by
      intro p hpm g hg
      rcases hows p hpm with ⟨k, hk1, hk2⟩ | ⟨z, hk1⟩ | ⟨y, hk1⟩
      · refine ⟨k, hk1, ?_, List.mem_filterMap.2 ⟨p, hpm, by simp [hk1]⟩⟩
        unfold blkOf at hg ⊢
        rw [getD_get (hletter _ _ hk1)] at hg
        exact hg
      · unfold blkOf at hg
        rw [getD_get (hletter _ _ hk1)] at hg
        simp [S.atom, X.den, ownB, Value.ownBlock] at hg
      · unfold blkOf at hg
        rw [getD_get (hletter _ _ hk1)] at hg
        simp [S.atom, X.den, ownB] at hg
    refine ⟨?_, ?_, ?_⟩
    · refine hod2.imp_of_mem fun {o o'} ho ho' hh g hg => ?_
      rw [hold o ho] at hg
      rw [hold o' ho']
      exact hh g hg
    · rw [List.pairwise_map]
      unfold tokEnts at hod1
      rw [List.pairwise_filterMap] at hod1
      refine hod1.imp_of_mem fun {p q} hpm hqm hh g hg e => ?_
      obtain ⟨k, hk1, hk2, _⟩ := hnew p hpm g hg
      obtain ⟨k', hk1', hk2', _⟩ := hnew q hqm g e
      exact hh (k, p.2) (by simp [hk1]) (k', q.2) (by simp [hk1']) g hk2 hk2'
    · intro o ho o' ho' g hg e
      obtain ⟨p, hpm, rfl⟩ := List.mem_map.1 ho'
      obtain ⟨k, hk1, hk2, hk3⟩ := hnew p hpm g e
      rw [hold o ho] at hg
      exact hod3 (k, p.2) hk3 o ho g hk2 hg
  · intro o ho g hg
    rw [hown] at ho
    rcases List.mem_append.1 ho with ho | ho
    · have hlt : o.1 < env0.length := by simpa using List.all_eq_true.1 hkept o ho
      rw [blkOf_app hlt] at hg
      obtain ⟨q1, q2⟩ := hr.hom o (by rw [hst2o]; exact List.mem_append_right _ ho) g (by rw [blkOf_app hlt]; exact hg)
      exact ⟨fun hin => q1 (List.mem_of_mem_take hin), q2⟩
    · obtain ⟨p, hpm, rfl⟩ := List.mem_map.1 ho
      rcases hows p hpm with ⟨k, hk1, hk2⟩ | ⟨z, hk1⟩ | ⟨y, hk1⟩
      · unfold blkOf at hg
        rw [getD_get (hletter _ _ hk1)] at hg
        obtain ⟨q1, q2⟩ := hr.hom _ hk2 g hg
        exact ⟨fun hin => q1 (List.mem_of_mem_take hin), q2⟩
      · unfold blkOf at hg
        rw [getD_get (hletter _ _ hk1)] at hg
        simp [S.atom, X.den, ownB, Value.ownBlock] at hg
      · unfold blkOf at hg
        rw [getD_get (hletter _ _ hk1)] at hg
        simp [S.atom, X.den, ownB] at hg
  · intro p hp'
    rw [X.den_bnd (List.all_eq_true.1 hknb p hp')]
    exact hkn p hp'
  · refine kindsOk_of (by simp [hlen]) fun i k x h1 h2 => ?_
    simp only [List.getElem?_map] at h2
    cases h3 : ls[i]? with
    | none => rw [h3] at h2; cases h2
    | some s =>
      rw [h3] at h2
      simp only [Option.map_some, Option.some.injEq] at h2
      subst h2
      exact hk i k s h1 h3
end
end Go.Proofs.YtamjocnlhhhijaaV

namespace Go.Proofs.YtamjocnlhhhijaaV
open Go Go.RowKit Go.Proofs.YtamjocnlhhhijaaW.PrintLast
section
variable {w0 : Base} {P : Program} {ops : Array Oper}
variable {cs : Nat → Sig × Con} {Post : List Atom → Prop} {L : List (List Atom → Prop)} {sigs : Sg}
theorem Blk.obj_more {b : Blk} {env l : List Atom} {η y : List Nat} (h1 : b.cells.all (S.bnd env.length) = true) (h2 : b.cells.all (S.pb η.length) = true) : b.obj (env ++ l) (η ++ y) = b.obj env η := by
  rw [Blk.obj_bnd h1]
  have key : ∀ s ∈ b.cells, s.den env (η ++ y) = s.den env η := by
    intro s hs
    have := S.den_take (env := env) (η := η ++ y) (List.all_eq_true.1 h2 s hs)
    rw [List.take_left] at this
    exact this.symm
  unfold Blk.obj
  split
  · congr 2
    exact List.map_congr_left key
  · congr 2
    apply List.map_congr_left
    intro p hp
    obtain ⟨⟨q1, q2⟩, q3⟩ := p
    have hm : (q1, q2) ∈ (_ : List Int).zip b.cells := (List.mem_zipIdx hp).2.2 ▸ List.getElem_mem _
    have := key q2 (List.of_mem_zip hm).2
    simp only [this]
theorem eqBlk_of {x y : Blk} (h : eqBlk x y = true) : x = y := by
  simp only [eqBlk, Bool.and_eq_true, beq_iff_eq] at h
  obtain ⟨⟨h1, h2⟩, h3⟩ := h
  have := eqL_of (fun a b h => S.eq_of h) h1
  cases x; cases y
  simp only at this h2 h3
  subst this; subst h2; subst h3; rfl
/-- What loads lean on: rows that came in, and the blocks 'lb', as at the region's start. -/
def SL (env1 : List Atom) (η1 : List Nat) (D1 O1 lb : List Nat) (bs : Nat) (w1 w : World) : Prop :=
  (∃ m : Addr → Option Value, (∀ ad v, m ad = some v → w.cell? ad = some v) ∧ ∀ i x, env1[i]? = some x → Elt m x ∧ (i ∉ D1 → i ∉ O1 → Good m x)) ∧
  ∀ b ∈ lb, b < bs → ∃ o, w1.heap[η1.getD b 0]? = some o ∧ w.heap[η1.getD b 0]? = some o
theorem cell_below {w w' : World} (hb : Below w.heap.size w w') {ad : Addr} {v : Value} (h : w.cell? ad = some v) : w'.cell? ad = some v := by
  rw [hb.cell (cell_lt h)]; exact h
theorem SL.below {env1 : List Atom} {η1 D1 O1 lb : List Nat} {bs : Nat} {w1 w w' : World} (h : SL env1 η1 D1 O1 lb bs w1 w) (hb : Below w.heap.size w w') : SL env1 η1 D1 O1 lb bs w1 w' := by
  obtain ⟨⟨m, h1, h2⟩, h3⟩ := h
  refine ⟨⟨m, fun ad v hv => cell_below hb (h1 ad v hv), h2⟩, fun b hl hlt => ?_⟩
  obtain ⟨o, e1, e2⟩ := h3 b hl hlt
  refine ⟨o, e1, ?_⟩
  rw [hb.block _ (Array.getElem?_eq_some_iff.1 e2).1]; exact e2
structure InvL (w1 : World) (bs : Nat) (env1 : List Atom) (η1 : List Nat) (D1 O1 lb : List Nat) (cl : Bool) (st : St) (env2 : List Atom) (η : List Nat) (w : World) : Prop where
  env : ∃ l, env2 = env1 ++ l
  eta : ∃ l, η = η1 ++ l
  sl : cl = true → SL env1 η1 D1 O1 lb bs w1 w
  own : cl = true → ∀ p ∈ st.own, p.1 < env1.length → p.1 ∈ O1
  dead : cl = true → st.dead = D1
theorem InvL.put {w1 : World} {bs : Nat} {env1 : List Atom} {η1 : List Nat} {D1 O1 lb : List Nat} {cl : Bool} {st st' : St} {env : List Atom} {η : List Nat} {w : World} (h : InvL w1 bs env1 η1 D1 O1 lb cl st env η w) (e1 : st'.own = st.own) (e2 : st'.dead = st.dead) : InvL w1 bs env1 η1 D1 O1 lb cl st' env η w :=
  ⟨h.env, h.eta, h.sl, by rw [e1]; exact h.own, by rw [e2]; exact h.dead⟩
theorem seDrawL_sound (hT : Table P sigs cs w0) {R : RegT} (hR : RegOk ops R) {Q : Exit → Act → World → Prop} (hQ : ∀ c a a' w, Q (.panic c) a w → Q (.panic c) a' w) {k : St → T} {w1 : World} {bs : Nat} {env1 : List Atom} {η1 : List Nat} {D1 O1 lb : List Nat} (hbs : bs ≤ η1.length)
    (hK : ∀ st' env' η' m' a' w', Rel w0 st' env' η' m' a' w' → (∃ l, env' = env1 ++ l) → (∃ l, η' = η1 ++ l) → (k st').wp cs Post env' L → Q .normal a' w') :
    ∀ (p : Plan) (f : Nat) (l : List Bool) (cl : Bool) (st : St) (env : List Atom) (η : List Nat) (m : Addr → Option Value) (a : Act) (w : World),
      planOkL R f l p = true → Rel w0 st env η m a w → InvL w1 bs env1 η1 D1 O1 lb cl st env η w → (seDrawL P sigs L.length ops lb bs env1.length O1 p cl st k).wp cs Post env L →
      wpAnyLast P .any ops Q (SL env1 η1 D1 O1 lb bs w1) R.ds f l.toArray a w := by
  intro p
  induction p with
  | nil =>
    intro f l cl st env η m a w hp hr hI h
    simp only [planOkL] at hp
    refine done_ ?_ (hK _ _ _ _ _ _ hr hI.env hI.eta h)
    rw [ready_eq, hR.1]
    exact hp
  | fork p q _ _ => intro f l cl st env η m a w hp; cases f <;> simp [planOkL] at hp
  | lbs x r _ => intro f l cl st env η m a w hp; cases f <;> simp [planOkL] at hp
  | step i md r ih =>
    intro f l cl st env η m a w hp hr hI h
    cases f with
    | zero => simp [planOkL] at hp
    | succ f =>
    cases hi : ops[i]? with
    | none => simp only [seDrawL, hi] at h; exact h.elim
    | some o =>
    simp only [seDrawL, hi] at h
    simp only [planOkL, Bool.and_eq_true] at hp
    obtain ⟨hp1, hp2⟩ := hp
    -- what an event gives
    have event : (seGuard ops st o (fun st => seOp P sigs (isStore o.op) L.length st o fun st => seDrawL P sigs L.length ops lb bs env1.length O1 r (cl && !isStore o.op) st k) fun st => seDrawL P sigs L.length ops lb bs env1.length O1 r cl (st.put o.dst undefV) k).wp cs Post env L →
        wpOp P ops Q i (fun a' w' => (i ∉ R.ds → SL env1 η1 D1 O1 lb bs w1 w → SL env1 η1 D1 O1 lb bs w1 w') ∧ wpAnyLast P .any ops Q (SL env1 η1 D1 O1 lb bs w1) R.ds f (l.toArray.setIfInBounds i true) a' w') a w := by
      intro h
      unfold wpOp
      simp only [hi]
      refine seGuard_sound hr h (fun st' hr' hsm hw h => ?_) (fun st' hr' hsm hw h => ?_)
      · rw [if_pos hw]
        have hI := hI.put hsm.own hsm.dead
        refine .inl (seOp_sound hT hr' h fun st2 env2 η2 m2 a2 w2 hr2 hF h2 => ?_)
        have hst : i ∉ R.ds → isStore o.op = false := by
          intro hn
          cases hs : isStore o.op with
          | false => rfl
          | true => exact absurd (hR.2.2 i o hi hs) hn
        have hI2 : InvL w1 bs env1 η1 D1 O1 lb (cl && !isStore o.op) st2 env2 η2 w2 := by
          obtain ⟨el, rfl⟩ := hF.env
          obtain ⟨ηl, rfl⟩ := hF.eta
          obtain ⟨e0, he0⟩ := hI.env
          obtain ⟨y0, hy0⟩ := hI.eta
          refine ⟨⟨e0 ++ el, by rw [he0, List.append_assoc]⟩, ⟨y0 ++ ηl, by rw [hy0, List.append_assoc]⟩, ?_, ?_, ?_⟩
          · intro hc
            simp only [Bool.and_eq_true, Bool.not_eq_true'] at hc
            exact (hI.sl hc.1).below (hF.below hc.2 hc.2)
          · intro hc p hp hlt
            simp only [Bool.and_eq_true, Bool.not_eq_true'] at hc
            have hlen : env1.length ≤ env.length := by rw [he0]; simp
            have hp' := hF.own hc.2 hc.2 p hp (by rw [← hr'.hn]; omega)
            exact hI.own hc.1 p hp' hlt
          · intro hc
            simp only [Bool.and_eq_true, Bool.not_eq_true'] at hc
            rw [hF.dead hc.2 hc.2]
            exact hI.dead hc.1
        refine ⟨fun hn hb => hb.below (hF.below (hst hn) (hst hn)), ?_⟩
        have := ih f (l.set i true) _ st2 env2 η2 m2 a2 w2 hp2 hr2 hI2 h2
        rw [List.setIfInBounds_toArray]
        exact this
      · rw [if_neg (by rw [hw]; simp)]
        refine ⟨fun _ hb => hb, ?_⟩
        have := ih f (l.set i true) cl _ env η m _ w hp2 (hr'.put_undef o.dst) (hI.put (by rw [put_own, hsm.own]) (by rw [put_dead, hsm.dead])) h
        rw [List.setIfInBounds_toArray]
        exact this
    -- what a call that is run inside gives
    have inner : cl = true → (seGuard ops st o (fun st => if st.blks.all (fun b => b.cells.all (S.bnd st.n)) && st.pbnd then seOp P sigs true L.length st o (fun st2 => if keeps lb st st2 then seDrawL P sigs L.length ops lb bs env1.length O1 r cl st2 k else .bad 66) else .bad 66)
        fun st => seDrawL P sigs L.length ops lb bs env1.length O1 r cl (st.put o.dst undefV) k).wp cs Post env L →
        wpOp P ops Q i (fun a' w' => (i ∉ R.ds → SL env1 η1 D1 O1 lb bs w1 w → SL env1 η1 D1 O1 lb bs w1 w') ∧ wpAnyLast P .any ops Q (SL env1 η1 D1 O1 lb bs w1) R.ds f (l.toArray.setIfInBounds i true) a' w') a w := by
      intro hcl h
      unfold wpOp
      simp only [hi]
      refine seGuard_sound hr h (fun st' hr' hsm hw h => ?_) (fun st' hr' hsm hw h => ?_)
      · rw [if_pos hw]
        have hI := hI.put hsm.own hsm.dead
        split at h
        · rename_i hbd
          simp only [Bool.and_eq_true] at hbd
          refine .inl (seOp_sound hT hr' h fun st2 env2 η2 m2 a2 w2 hr2 hF h2 => ?_)
          split at h2
          · rename_i hkp
            simp only [keeps, Bool.and_eq_true, beq_iff_eq] at hkp
            obtain ⟨⟨ko, kd⟩, kb⟩ := hkp
            obtain ⟨el, rfl⟩ := hF.env
            obtain ⟨ηl, rfl⟩ := hF.eta
            obtain ⟨e0, he0⟩ := hI.env
            obtain ⟨y0, hy0⟩ := hI.eta
            have hsl : SL env1 η1 D1 O1 lb bs w1 w → SL env1 η1 D1 O1 lb bs w1 w2 := by
              intro hS
              refine ⟨⟨m2, fun ad v hv => (hr2.hm ad v hv).1, fun j x hx => ?_⟩, fun b hl hlt => ?_⟩
              · have hj : j < env1.length := (List.getElem?_eq_some_iff.1 hx).1
                have hx2 : (env ++ el)[j]? = some x := by
                  rw [he0, List.append_assoc, List.getElem?_append_left hj]; exact hx
                have hg := hr2.hg j x hx2
                refine ⟨hg.1, fun hd ho => hg.2 (by rw [kd, hI.dead hcl]; exact hd) (fun hm => ?_)⟩
                obtain ⟨p, hp, rfl⟩ := List.mem_map.1 hm
                rw [ko] at hp
                exact ho (hI.own hcl p hp hj)
              · obtain ⟨ob, e1, e2⟩ := hS.2 b hl hlt
                refine ⟨ob, e1, ?_⟩
                have hk := List.all_eq_true.1 kb b hl
                split at hk
                · rename_i x y hx hy
                  obtain rfl := eqBlk_of hk
                  have q1 := hr'.hb b x hx
                  have q2 := hr2.hb b x hy
                  have hbl : b < η.length := by rw [hr'.he]; exact (List.getElem?_eq_some_iff.1 hx).1
                  rw [getD_append_lt hbl] at q2
                  have hxm : x ∈ st'.blks := List.mem_of_getElem? hx
                  have hc1 : x.cells.all (S.bnd env.length) = true := by rw [hr'.hn]; exact List.all_eq_true.1 hbd.1 x hxm
                  have hc2 : x.cells.all (S.pb η.length) = true := by
                    have := hbd.2
                    simp only [St.pbnd, Bool.and_eq_true] at this
                    rw [hr'.he]
                    exact List.all_eq_true.1 this.2 x hxm
                  rw [Blk.obj_more hc1 hc2] at q2
                  have hη : η.getD b 0 = η1.getD b 0 := by rw [hy0]; exact getD_append_lt (by omega)
                  rw [hη] at q1 q2
                  rw [q2, ← q1, e2]
                · cases hk
            have hI2 : InvL w1 bs env1 η1 D1 O1 lb cl st2 (env ++ el) (η ++ ηl) w2 :=
              ⟨⟨e0 ++ el, by rw [he0, List.append_assoc]⟩, ⟨y0 ++ ηl, by rw [hy0, List.append_assoc]⟩, fun hc => hsl (hI.sl hc), fun hc p hp hlt => hI.own hc p (by rw [ko] at hp; exact hp) hlt, fun hc => by rw [kd]; exact hI.dead hc⟩
            refine ⟨fun _ hb => hsl hb, ?_⟩
            have := ih f (l.set i true) _ st2 _ _ m2 a2 w2 hp2 hr2 hI2 h2
            rw [List.setIfInBounds_toArray]
            exact this
          · exact h2.elim
        · exact h.elim
      · rw [if_neg (by rw [hw]; simp)]
        refine ⟨fun _ hb => hb, ?_⟩
        have := ih f (l.set i true) cl _ env η m _ w hp2 (hr'.put_undef o.dst) (hI.put (by rw [put_own, hsm.own]) (by rw [put_dead, hsm.dead])) h
        rw [List.setIfInBounds_toArray]
        exact this
    have one : readyT R.T.2 l == [i] → wpOp P ops Q i (fun a' w' => (i ∉ R.ds → SL env1 η1 D1 O1 lb bs w1 w → SL env1 η1 D1 O1 lb bs w1 w') ∧ wpAnyLast P .any ops Q (SL env1 η1 D1 O1 lb bs w1) R.ds f (l.toArray.setIfInBounds i true) a' w') a w →
        wpAnyLast P .any ops Q (SL env1 η1 D1 O1 lb bs w1) R.ds (f + 1) l.toArray a w := by
      intro hq hw
      refine wpAnyLast_all (rs := [i]) (by rw [ready_eq, hR.1]; exact beq_iff_eq.1 hq) (by simp) ?_
      intro j hj
      simp at hj
      subst hj
      exact hw
    split at h
    · -- a value
      have hany := any_of (ops := ops) (l := l.toArray) (l' := (l.set i true).toArray) (i := i) hR.1 (by simpa using hp1)
      refine seGuard_sound hr h (fun st' hr' hsm hw h => ?_) (fun st' hr' hsm hw h => ?_)
      · split at h
        · rename_i ds v hv
          obtain ⟨hds, st2, e1, e4, e5⟩ := needs_sound hr'.hk h
          refine pure_any hi hany hQ (.inl ⟨hw, fun w' => seVal_sound hr' hv hds w'⟩) ?_
          exact ih f (l.set i true) cl _ env η m _ w hp2 ((hr'.same e1 e4).put o.dst v) (hI.put (by rw [put_own, e1.own, hsm.own]) (by rw [put_dead, e1.dead, hsm.dead])) e5
        · exact h.elim
      · refine pure_any hi hany hQ (.inr ⟨hw, rfl⟩) ?_
        exact ih f (l.set i true) cl _ env η m _ w hp2 (hr'.put_undef o.dst) (hI.put (by rw [put_own, hsm.own]) (by rw [put_dead, hsm.dead])) h
    · -- a load
      have htake := take_ofW (ops := ops) (l := l.toArray) (l' := (l.set i true).toArray) (i := i) hR.1 hR.2.1 (by simpa using hp1)
      split at h
      · rename_i hcl
        subst hcl
        have hS := hI.sl rfl
        refine seGuard_sound hr h (fun st' hr' hsm hw h => ?_) (fun st' hr' hsm hw h => ?_)
        · split at h
          · rename_i t x ho
            split at h
            · rename_i ds v b hl
              split at h
              · rename_i hb
                simp only [Bool.and_eq_true, decide_eq_true_eq] at hb
                have hbl : b ∈ lb := by simpa using hb.1
                obtain ⟨hds, st2, e1, e4, e5⟩ := needs_sound hr'.hk h
                refine take_ (N := o.dst) _ hi rfl htake (fun c a w h => hQ c _ _ w h) (.inl ⟨hw, fun w' hw' => load_blk hr' ho hl ?_⟩) hS rfl ?_
                · obtain ⟨y0, hy0⟩ := hI.eta
                  have hη : η.getD b 0 = η1.getD b 0 := by rw [hy0]; exact getD_append_lt (by omega)
                  obtain ⟨o1, p1, p2⟩ := hw'.2 b hbl hb.2
                  obtain ⟨o2, p3, p4⟩ := hS.2 b hbl hb.2
                  rw [hη, p2, p4, ← p1, p3]
                · exact ih f (l.set i true) true _ env η m _ w hp2 ((hr'.same e1 e4).put o.dst v) (hI.put (by rw [put_own, e1.own, hsm.own]) (by rw [put_dead, e1.dead, hsm.dead])) e5
              · exact h.elim
            · rename_i ds v s ix hl
              split at h
              · rename_i hb
                obtain ⟨hds, st2, e1, e4, e5⟩ := needs_sound hr'.hk h
                simp only [Bool.and_eq_true] at hb
                have hlv := load_row_live hl
                simp only [Go.Proofs.YtamjocnlhhhijaaV.live, Bool.and_eq_true] at hlv
                refine take_ (N := o.dst) (v := v.den env η) _ hi rfl htake (fun c a w h => hQ c _ _ w h) (.inl ⟨hw, fun w' hw' => ?_⟩) hS rfl ?_
                · obtain ⟨⟨m', g1, g2⟩, _⟩ := hw'
                  have hgood : Good m' (s.den env) := by
                    obtain ⟨e0, he0⟩ := hI.env
                    rw [he0, X.den_bnd hb.1]
                    exact X.good g2 s (by rw [← hI.dead rfl, ← hsm.dead]; exact hlv.1) hb.2
                  exact load_row hr' ho hl hds hgood (fun ad u hu => g1 ad u hu)
                · exact ih f (l.set i true) true _ env η m _ w hp2 ((hr'.same e1 e4).put o.dst v) (hI.put (by rw [put_own, e1.own, hsm.own]) (by rw [put_dead, e1.dead, hsm.dead])) e5
              · exact h.elim
            · exact h.elim
          · exact h.elim
        · refine take_ (N := o.dst) _ hi rfl htake (fun c a w h => hQ c _ _ w h) (.inr ⟨hw, rfl⟩) hS rfl ?_
          exact ih f (l.set i true) true _ env η m _ w hp2 (hr'.put_undef o.dst) (hI.put (by rw [put_own, hsm.own]) (by rw [put_dead, hsm.dead])) h
      · exact h.elim
    · -- a call that is run inside
      split at h
      · rename_i hcl
        exact one hp1 (inner hcl h)
      · exact h.elim
    · -- the one that may come up
      rename_i n1 n2 n3
      refine one ?_ (event h)
      split at hp1
      · exact absurd rfl n1
      · exact absurd rfl n2
      · exact hp1
end
end Go.Proofs.YtamjocnlhhhijaaV

namespace Go.Proofs.YtamjocnlhhhijaaV
open Go Go.RowKit Go.Proofs.YtamjocnlhhhijaaW.PrintLast

section
variable {w0 : Base} {P : Program} {cs : Nat → Sig × Con} {Post : List Atom → Prop} {sigs : Sg}
theorem setCells_len : ∀ {bl : List Blk} {ps : List (Nat × Nat)} {ss : List S}, (setCells bl ps ss).length = bl.length
  | _, [], [] => rfl
  | _, [], _ :: _ => rfl
  | _, _ :: _, [] => rfl
  | bl, (b, o) :: ps, s :: ss => by
    simp only [setCells]
    rw [setCells_len]
    split <;> simp
theorem wp_rangeFunc_wide {g : Operand} {ps : Array Tmp} {asn body : Code} {Q : Exit → Act → World → Prop} {a : Act} {w : World} {gf : Nat} {lb : Array Value} (hg : a.eval g = .func (.func gf) #[] lb) (eg : ∀ args w, (callFunc gf args).run P w = .ok (.enter gf args) w)
    (h : ∀ fn : Nat, Calls P gf (#[.func (.yield (w.heap.size + 1)) #[] #[]] ++ lb) ((w.alloc (.deferred (some []))).alloc (.loop { state := .ready, pending := none, fn, tmps := a.tmps, params := ps, assign := asn, body, defers := w.heap.size }))
      (rangePost Fence.wide 0 P (w.heap.size + 1) Q { a with defers := markD w.heap.size :: a.defers })) : (Code.rangeFunc g ps asn body).wp P Q a w := by
  have key : (Code.rangeFunc g ps asn body).wpIn Fence.wide 0 P Q a w := by
    refine wpIn_rangeFunc ?_
    intro fn hfn
    have hen := run_enterLoop_outer (P := P) (w := w) fn a.tmps ps asn body
    have hc := h fn
    generalize (w.alloc (.deferred (some []))).alloc (.loop { state := .ready, pending := none, fn, tmps := a.tmps, params := ps, assign := asn, body, defers := w.heap.size }) = W1 at hen hc
    refine ⟨w.heap.size + 1, [markD w.heap.size], W1, { target := .fn (.func gf) lb, args := #[.func (.yield (w.heap.size + 1)) #[] #[]] }, W1, gf, #[.func (.yield (w.heap.size + 1)) #[] #[]] ++ lb, W1, ?_, ?_, ?_, ?_, ?_, ?_⟩
    · exact hen
    · simp only [resolve, hg]
      simp [go_sem]
    · exact fun _ _ => trivial
    · simp [invoke, go_sem, eg]
    · exact fun e => (by cases e)
    · have e1 : ([markD w.heap.size] ++ a.defers) = markD w.heap.size :: a.defers := rfl
      rw [e1]
      exact callsIn_wide.2 hc
  exact wpIn_wide.1 key
theorem setTmps_ok {env : List Atom} {η : List Nat} : ∀ (ps : List Tmp) (vs : List SV) (tm : List SV) (arr : Array Value), arr.size = tm.length → (∀ (i : Nat) v, tm[i]? = some v → v = junkV ∨ arr[i]? = some (v.den env η)) →
    ((ps.zip (vs.map (SV.den env η))).foldl (fun t (p : Tmp × Value) => t.setIfInBounds p.1 p.2) arr).size = (setTmps tm ps vs).length ∧ ∀ (i : Nat) v, (setTmps tm ps vs)[i]? = some v → v = junkV ∨ ((ps.zip (vs.map (SV.den env η))).foldl (fun t (p : Tmp × Value) => t.setIfInBounds p.1 p.2) arr)[i]? = some (v.den env η)
  | [], _, tm, arr, h1, h2 => by simpa [setTmps] using ⟨h1, h2⟩
  | _ :: _, [], tm, arr, h1, h2 => by simpa [setTmps] using ⟨h1, h2⟩
  | p :: ps, v :: vs, tm, arr, h1, h2 => by
    simp only [setTmps, List.map_cons, List.zip_cons_cons, List.foldl_cons]
    refine setTmps_ok ps vs (tm.set p v) (arr.setIfInBounds p (v.den env η)) (by simp [h1]) fun i u hu => ?_
    simp only [List.getElem?_set] at hu
    by_cases hi : p = i
    · subst hi
      simp only [if_true] at hu
      split at hu
      · rename_i hlt
        injection hu with hu
        subst hu
        right
        simp [h1, hlt]
      · cases hu
    · rw [if_neg hi] at hu
      rcases h2 i u hu with h | h
      · exact .inl h
      · right
        rw [Array.getElem?_setIfInBounds_ne hi]; exact h
/-- A record of a loop, or a block for deferred calls, turns. -/
theorem Rel.putBook {w0' : Base} {st : St} {env : List Atom} {η : List Nat} {m : Addr → Option Value} {a a' : Act} {w : World} (hr : Rel w0 st env η m a w) {g : Nat} {o o' : Obj} (hg : w.heap[g]? = some o) (ho : bookB o = true) (hge : w0.w.heap.size ≤ g)
    (hw : w0'.w = w0.w) (hm : w0'.m = w0.m) {tm : List SV} (hs : a'.tmps.size = tm.length) (ht : ∀ (i : Nat) v, tm[i]? = some v → v = junkV ∨ a'.tmps[i]? = some (v.den env η)) (hbk : Books w0' env η a'.defers (w.putObj g o')) : Rel w0' { st with tmps := tm } env η m a' (w.putObj g o') := by
  have hgr : w.grownBy (w.putObj g o') (some g) := ⟨rfl, rfl, rfl, by simp, fun k _ hk => World.putObj_heap_other (fun e => hk (by rw [e]))⟩
  refine ⟨hr.hn, hs, ht, hbk, hr.he, hr.hnd, fun i bl hi => ?_, by rw [hw]; exact hr.hge, ?_, fun ad v h => ?_, by rw [hw, hm]; exact hr.hm0, hr.hg, fun p hp => ?_, hr.hod, hr.hom, hr.hk⟩
  · have h1 := hr.hb i bl hi
    rw [World.putObj_heap_other]
    · exact h1
    · intro e
      rw [e, hg] at h1
      injection h1 with h1
      rw [h1, Blk.obj_notBook] at ho; cases ho
  · rw [hw]
    exact hr.hB.trans ⟨hgr.os, hgr.tape, hgr.output, hgr.size, fun k hk => hgr.block k (Nat.lt_of_lt_of_le hk hr.hB.size) (fun e => by injection e with e; omega)⟩
  · obtain ⟨h1, h2⟩ := hr.hm ad v h
    refine ⟨?_, h2⟩
    rw [World.cell?_of_block (w := w)]
    · exact h1
    · refine World.putObj_heap_other fun e => ?_
      unfold World.cell? at h1
      rw [e, hg] at h1
      cases o <;> simp [bookB] at ho <;> cases h1
  · obtain ⟨x, hx, h⟩ := hr.ho p hp
    rw [hw]
    refine ⟨x, hx, h.kept hgr (.inr fun e => ?_)⟩
    rcases h with h | ⟨z, els, q1, _, _, _, q5⟩
    · rw [ownB_leaf h] at e; cases e
    · rw [ownB_of q1] at e
      rcases q5.2 with ⟨e1, _⟩ | ⟨g', cap, cur, e1, _, ⟨fz, e3, _⟩, _⟩
      · rw [e1] at e; cases e
      · rw [e1] at e
        injection e with e
        subst e
        rw [hg] at e3
        injection e3 with e3
        rw [e3] at ho; cases ho
/-- Another frame, another base. -/
theorem Rel.frame {w0' : Base} {st : St} {env : List Atom} {η : List Nat} {m : Addr → Option Value} {a a' : Act} {w : World} (hr : Rel w0 st env η m a w) (hw : w0'.w = w0.w) (hm : w0'.m = w0.m) {tm : List SV} (hs : a'.tmps.size = tm.length) (ht : ∀ (i : Nat) v, tm[i]? = some v → v = junkV ∨ a'.tmps[i]? = some (v.den env η)) (hbk : Books w0' env η a'.defers w) : Rel w0' { st with tmps := tm } env η m a' w :=
  ⟨hr.hn, hs, ht, hbk, hr.he, hr.hnd, hr.hb, by rw [hw]; exact hr.hge, by rw [hw]; exact hr.hB, hr.hm, by rw [hw, hm]; exact hr.hm0, hr.hg, by rw [hw]; exact hr.ho, hr.hod, hr.hom, hr.hk⟩
/-- Slots that stay: the same values, with more atoms and blocks. -/
theorem Rel.slots {st : St} {env : List Atom} {η : List Nat} {m : Addr → Option Value} {a : Act} {w : World} (hr : Rel w0 st env η m a w) (hb : st.tmps.all (SV.bnd st.n) = true) (hp : st.tmps.all (SV.pb st.blks.length) = true) {env' : List Atom} {η' : List Nat} (he : ∃ l, env' = env ++ l) (hη : ∃ l, η' = η ++ l) :
    ∀ (i : Nat) v, st.tmps[i]? = some v → v = junkV ∨ a.tmps[i]? = some (v.den env' η') := by
  intro i v hv
  obtain ⟨l, rfl⟩ := he
  obtain ⟨y, rfl⟩ := hη
  rcases hr.ht i v hv with h | h
  · exact .inl h
  · right
    have h1 := List.all_eq_true.1 hb v (List.mem_of_getElem? hv)
    have h2 := List.all_eq_true.1 hp v (List.mem_of_getElem? hv)
    rw [← hr.hn] at h1
    rw [← hr.he] at h2
    rw [SV.den_bnd h1]
    have h3 : v.den env ((η ++ y).take η.length) = v.den env (η ++ y) := SV.den_take h2
    rw [List.take_left] at h3
    rw [← h3]; exact h
/-- The caller's marks are kept while another frame runs. -/
def Base.marks (w0 : Base) (ds : List Nat) : Base := { w0 with pr := fun g => if g ∈ ds then some (.deferred (some [])) else w0.pr g }
theorem Books.enter {env : List Atom} {η : List Nat} {dl : List Deferred} {w : World} (h : Books w0 env η dl w) {ds : List Nat} (hds : ∀ D ∈ ds, w.heap[D]? = some (.deferred (some []))) : Books (w0.marks ds) env η [] w := by
  refine ⟨⟨[], rfl, ⟨List.nodup_nil, by simp⟩, by simp⟩, fun g o hg => ?_, h.ys⟩
  simp only [Base.marks] at hg
  split at hg
  · rename_i hm
    injection hg with hg
    subst hg
    exact ⟨rfl, hds g hm⟩
  · exact h.kp g o hg
theorem Base.marks_pr {w0 : Base} {ds : List Nat} {w : World} (hds : ∀ D ∈ ds, w.heap[D]? = some (.deferred (some []))) (hk : ∀ g o, w0.pr g = some o → bookB o = true ∧ w.heap[g]? = some o) : ∀ g o, w0.pr g = some o → (w0.marks ds).pr g = some o := by
  intro g o hg
  simp only [Base.marks]
  split
  · rename_i hm
    have h1 := hds g hm
    rw [(hk g o hg).2] at h1
    exact h1.symm
  · exact hg
theorem Books.leave {env : List Atom} {η : List Nat} {dl : List Deferred} {w : World} {ds : List Nat} (h : Books (w0.marks ds) env η dl w) (hpr : ∀ g o, w0.pr g = some o → (w0.marks ds).pr g = some o) (hnd : ds.Nodup ∧ ∀ D ∈ ds, w0.pr D = none ∧ w0.w.heap.size ≤ D) : Books w0 env η (ds.map markD) w :=
  ⟨⟨ds, rfl, hnd, fun D hD => (h.kp D _ (by simp only [Base.marks, if_pos hD])).2⟩, fun g o hg => h.kp g o (hpr g o hg), h.ys⟩
theorem seCodeR_sound (hT : Table P sigs cs w0) {r : Option Nat} {L : List (List Atom → Prop)} : ∀ (c : Code) (st : St) (env : List Atom) (η : List Nat) (m : Addr → Option Value) (a : Act) (w : World) (k : St → T) (Q : Exit → Act → World → Prop),
    Rel w0 st env η m a w → (seCodeR P sigs L.length c st k).wp cs Post env L → (∀ st' env' η' m' a' w', Rel w0 st' env' η' m' a' w' → (∃ l, env' = env ++ l) → (∃ l, η' = η ++ l) → (k st').wp cs Post env' L → Q .normal a' w') → c.wpIn (wideR r) 0 P Q a w := by
  intro c
  induction c with
  | skip => intro st env η m a w k Q hr h hK; exact wpIn_skip (hK _ _ _ _ _ _ hr ⟨[], by simp⟩ ⟨[], by simp⟩ h)
  | region id ops dr =>
    intro st env η m a w k Q hr h hK
    simp only [seCodeR] at h
    split at h
    · exact h.elim
    · rename_i hdr
      obtain rfl : dr = false := by simpa using hdr
      exact wpIn_region_list (seSeq_sound hT (env0 := env) (η0 := η) (k := k) hK ops.toList _ _ _ _ _ _ hr ⟨[], by simp⟩ ⟨[], by simp⟩ h)
  | seq x y ihx ihy =>
    intro st env η m a w k Q hr h hK
    simp only [seCodeR] at h
    refine wpIn_seq (ihx _ _ _ _ _ _ _ _ hr h fun st' env' η' m' a' w' hr' he hη h' => ?_)
    refine ihy _ _ _ _ _ _ _ _ hr' h' fun st2 env2 η2 m2 a2 w2 hr2 he2 hη2 h2 => ?_
    obtain ⟨l1, rfl⟩ := he
    obtain ⟨l2, rfl⟩ := he2
    obtain ⟨y1, rfl⟩ := hη
    obtain ⟨y2, rfl⟩ := hη2
    exact hK _ _ _ _ _ _ hr2 ⟨l1 ++ l2, by simp⟩ ⟨y1 ++ y2, by simp⟩ h2
  | block id c ih =>
    intro st env η m a w k Q hr h hK
    exact wpIn_block (ih _ _ _ _ _ _ _ _ hr h hK)
  | _ => intro st env η m a w k Q hr h hK; exact h.elim
theorem seCode_sound (hT : Table P sigs cs w0) (hP : P.follows .mixedOrders = true) {an : Ann} {rs : List (Nat × RegT)} :
    ∀ (c : Code) (lp lv : Nat) (st : St) (env : List Atom) (η : List Nat) (m : Addr → Option Value) (a : Act) (w : World) (k : Ex → St → T) (L : List (List Atom → Prop)) (K : Ex → Act → World → Prop),
      codeOk an rs c → Rel w0 st env η m a w → (seCode P sigs an c lp lv st k).wp cs Post env L → L.length = lv →
      (∀ e st' env' η' m' a' w', Rel w0 st' env' η' m' a' w' → (∃ l, env' = env ++ l) → (∃ l, η' = η ++ l) → (k e st').wp cs Post env' L → K e a' w') → c.wp P (QE K) a w := by
  intro c
  induction c with
  | skip => intro lp lv st env η m a w k L K _ hr h hL hK; exact wp_skip (hK .normal _ _ _ _ _ _ hr ⟨[], by simp⟩ ⟨[], by simp⟩ h)
  | label l => intro lp lv st env η m a w k L K _ hr h hL hK; exact wp_label (hK .normal _ _ _ _ _ _ hr ⟨[], by simp⟩ ⟨[], by simp⟩ h)
  | exit id => intro lp lv st env η m a w k L K _ hr h hL hK; exact wp_exit (hK (.exit id) _ _ _ _ _ _ hr ⟨[], by simp⟩ ⟨[], by simp⟩ h)
  | ret => intro lp lv st env η m a w k L K _ hr h hL hK; exact wp_ret (hK .ret _ _ _ _ _ _ hr ⟨[], by simp⟩ ⟨[], by simp⟩ h)
  | region id ops dr =>
    intro lp lv st env η m a w k L K hc hr h hL hK
    subst hL
    cases dr with
    | false =>
      simp only [seCode, Bool.false_eq_true, if_false] at h
      refine wpIn_wide.1 (wpIn_region_list (F := wideR none) (n := 0) (seSeq_sound hT (r := none) (Q := QE K) (env0 := env) (η0 := η) (k := k .normal) ?_ ops.toList _ _ _ _ _ _ hr ⟨[], by simp⟩ ⟨[], by simp⟩ h))
      intro st' env' η' m' a' w' hr' he hη h'
      exact hK .normal _ _ _ _ _ _ hr' he hη h'
    | true =>
      simp only [seCode, if_true] at h
      split at h
      · rename_i lb p hp
        obtain ⟨R, hR, hok⟩ := hc rfl _ hp
        have hr1 : Rel w0 st env η m a w.drew := ⟨hr.hn, hr.hs, hr.ht, hr.hd.same rfl, hr.he, hr.hnd, hr.hb, hr.hge, hr.hB.drew, hr.hm, hr.hm0, hr.hg, hr.ho, hr.hod, hr.hom, hr.hk⟩
        have hS : SL env η st.dead (st.own.map (·.1)) lb st.blks.length w.drew w.drew := by
          refine ⟨⟨m, fun ad v h => (hr.hm ad v h).1, hr.hg⟩, fun b _ hlt => ?_⟩
          have := hr1.hb b st.blks[b] (List.getElem?_eq_getElem hlt)
          exact ⟨_, this, this⟩
        have hI : InvL w.drew st.blks.length env η st.dead (st.own.map (·.1)) lb true st env η w.drew :=
          ⟨⟨[], by simp⟩, ⟨[], by simp⟩, fun _ => hS, fun _ p hp _ => List.mem_map_of_mem hp, fun _ => rfl⟩
        rw [← hr.hn] at h
        have := seDrawL_sound hT hR (Q := QE K) (fun _ _ _ _ h => h) (k := k .normal) (by rw [hr.he]; exact Nat.le_refl _) (fun st' env' η' m' a' w' hr' he hη h' => hK .normal _ _ _ _ _ _ hr' he hη h') p ops.size (List.replicate ops.size false) true st env η m a w.drew hok hr1 hI h
        exact start_ (n := ops.size) (List.replicate ops.size false).toArray hP rfl (by simp) hS (fun _ => this)
      · rename_i p hnl hp
        obtain ⟨R, hR, hok⟩ := hc rfl p hp
        have hok : planOk R false ops.size (List.replicate ops.size false) p = true := by
          unfold planOkR at hok
          split at hok
          · exact absurd rfl (hnl _ _)
          · exact hok
        have hr1 : Rel w0 st env η m a w.drew := ⟨hr.hn, hr.hs, hr.ht, hr.hd.same rfl, hr.he, hr.hnd, hr.hb, hr.hge, hr.hB.drew, hr.hm, hr.hm0, hr.hg, hr.ho, hr.hod, hr.hom, hr.hk⟩
        have hI : Inv w.drew st.blks.length env η m st.dead (st.own.map (·.1)) true st env η w.drew := by
          refine ⟨⟨[], by simp⟩, fun ad v h => (hr.hm ad v h).1, hr.hg, fun _ => Below.refl _ _, fun b hb => ?_, ⟨[], by simp⟩, fun _ o ho _ g hg => ?_, fun _ => rfl⟩
          case refine_2 =>
            obtain ⟨x, hx, h5⟩ := hr.ho o ho
            exact (h5.lt g (by rw [← own_blk hx]; exact hg)).2
          rw [← hr.he] at hb
          refine ⟨hb, ?_⟩
          rw [List.getD_eq_getElem?_getD, List.getElem?_eq_getElem hb]
          exact eta_lt hr (List.getElem_mem hb)
        rw [← hr.hn] at h
        have := (seDraw_sound hT hR (Q := QE K) (fun _ _ _ _ h => h) (k := k .normal) (fun st' env' η' m' a' w' hr' he hη h' => hK .normal _ _ _ _ _ _ hr' he hη h') p false ops.size (List.replicate ops.size false) true st env η m a w.drew hok hr1 hI h).1 rfl
        exact start_ (n := ops.size) (List.replicate ops.size false).toArray hP rfl (by simp) (Below.refl _ _) (fun _ => this)
      · exact h.elim
  | seq x y ihx ihy =>
    intro lp lv st env η m a w k L K hc hr h hL hK
    refine wp_seq (Code.wp_mono (Q := QE fun e a w => match e with
      | .normal => y.wp P (QE K) a w
      | e => K e a w) ?_ (ihx lp lv st env η m a w _ L _ hc.1 hr h hL ?_))
    · intro e a w h; cases e <;> exact h
    · intro e st' env' η' m' a' w' hr' he hη h'
      cases e with
      | normal =>
        refine ihy _ _ _ _ _ _ _ _ _ _ _ hc.2 hr' h' hL ?_
        intro e st2 env2 η2 m2 a2 w2 hr2 he2 hη2 h2
        obtain ⟨l1, rfl⟩ := he
        obtain ⟨l2, rfl⟩ := he2
        obtain ⟨y1, rfl⟩ := hη
        obtain ⟨y2, rfl⟩ := hη2
        exact hK e _ _ _ _ _ _ hr2 ⟨l1 ++ l2, by simp⟩ ⟨y1 ++ y2, by simp⟩ h2
      | exit id => exact hK _ _ _ _ _ _ _ hr' he hη h'
      | ret => exact hK _ _ _ _ _ _ _ hr' he hη h'
  | cond c x y ihx ihy =>
    intro lp lv st env η m a w k L K hc hr h hL hK
    simp only [seCode] at h
    split at h
    · rename_i q hq
      have eq := hr.ev hq
      simp only [SV.den, TV.den, S.den] at eq
      refine seBr_sound hr.hk h (fun st' e1 e4 e5 e6 => ?_) (fun st' e1 e4 e5 e6 => ?_)
      · rw [e5] at eq
        exact wp_cond_true eq (ihx _ _ _ _ _ _ _ _ _ _ _ hc.1 (hr.same e1 e4) e6 hL hK)
      · rw [e5] at eq
        exact wp_cond_false eq (ihy _ _ _ _ _ _ _ _ _ _ _ hc.2 (hr.same e1 e4) e6 hL hK)
    · exact h.elim
  | block id c ih =>
    intro lp lv st env η m a w k L K hc hr h hL hK
    refine wp_block (Code.wp_mono (Q := QE fun e a w => match e with
      | .exit j => if j = id then K .normal a w else K (.exit j) a w
      | e => K e a w) ?_ (ih lp lv st env η m a w _ L _ hc hr h hL ?_))
    · intro e a w h
      cases e with
      | exit j => simp only [QE, Exit.inBlock] at h ⊢; exact h
      | _ => exact h
    · intro e st' env' η' m' a' w' hr' he hη h'
      cases e with
      | exit j =>
        simp only at h' ⊢
        by_cases hj : j = id
        · subst hj
          simp only [beq_self_eq_true, if_true] at h' ⊢
          exact hK _ _ _ _ _ _ _ hr' he hη h'
        · have hj' : (j == id) = false := by simpa using hj
          simp only [hj', Bool.false_eq_true, if_false] at h'
          rw [if_neg hj]
          exact hK _ _ _ _ _ _ _ hr' he hη h'
      | normal => exact hK _ _ _ _ _ _ _ hr' he hη h'
      | ret => exact hK _ _ _ _ _ _ _ hr' he hη h'
  | scope c ih =>
    intro lp lv st env η m a w k L K hc hr h hL hK
    refine wp_scope_straight (Code.wp_mono ?_ (ih lp lv st env η m a w _ L K hc hr h hL hK))
    intro e a w h
    cases e <;> exact h
  | loop c ih =>
    intro lp lv st env η m a w k L K hc hr h hL hK
    have key : ∀ (n : Nat) (st : St) (env1 : List Atom) (y : List Nat) (m : Addr → Option Value) (a : Act) (w : World), Rel w0 st (env ++ env1) (η ++ y) m a w →
        (seRounds (fun st k => seCode P sigs an c (lp + 1) lv st k) n st k).wp cs Post (env ++ env1) L → unr P c (QE K) n a w := by
      intro n
      induction n with
      | zero => intro st env1 y m a w _ h; exact h.elim
      | succ n ihn =>
        intro st env1 y m a w hr h
        refine Code.wp_mono (Q := QE fun e a w => match e with
          | .normal => unr P c (QE K) n a w
          | e => K e a w) ?_ (ih _ _ _ _ _ _ _ _ _ _ _ hc hr h hL ?_)
        · intro e a w h; cases e <;> exact h
        · intro e st' env' η' m' a' w' hr' he hη h'
          obtain ⟨l, rfl⟩ := he
          obtain ⟨y2, rfl⟩ := hη
          rw [List.append_assoc] at hr' h'
          rw [List.append_assoc] at hr'
          cases e with
          | normal => exact ihn _ _ _ _ _ _ hr' h'
          | exit j => exact hK _ _ _ _ _ _ _ hr' ⟨_, rfl⟩ ⟨_, rfl⟩ h'
          | ret => exact hK _ _ _ _ _ _ _ hr' ⟨_, rfl⟩ ⟨_, rfl⟩ h'
    simp only [seCode] at h
    split at h
    · exact h.elim
    · rename_i n han
      exact wp_unr (key n st [] [] m a w (by rw [List.append_nil, List.append_nil]; exact hr) (by rw [List.append_nil]; exact h))
    · rename_i la hno han
      split at h
      · exact wp_unr (key 1 st [] [] m a w (by rw [List.append_nil, List.append_nil]; exact hr) (by rw [List.append_nil]; exact h))
      split at h
      · exact h.elim
      · rename_i sl ce ows keep hla
        split at h
        · exact h.elim
        · rename_i ls hls
          split at h
          · rename_i ks rem hks hrem
            generalize hH : (⟨sl, ce, ows, if keep = true then rem else [], la.junk⟩ : Hd) = hdd at h
            split at h
            · rename_i hcov
              obtain ⟨hds, I, μ, hI0, hbody⟩ := needAll_sound h
              rw [← hr.hn] at hcov
              have hr0 : Rel w0 st (env ++ []) η m a w := by rw [List.append_nil]; exact hr
              have hkn : ∀ p ∈ (headSt st c hdd ls ks).known, vb (p.1.den env).1 = p.2 := hr.hk
              have hbl : (headSt st c hdd ls ks).blks.length = η.length := by rw [hr.he]; exact setCells_len
              have hys : ∀ p ∈ w0.ys, p.1.bnd env.length = true ∧ p.1.pb (headSt st c hdd ls ks).blks.length = true := fun p hp => by
                obtain ⟨_, y1, y2⟩ := hr.hd.ys p hp
                exact ⟨y1, by rw [hbl]; exact y2⟩
              have h0 := hr0.cover hcov (by rw [List.append_nil]; exact hds) hkn hys
              rw [List.append_nil] at h0
              have htk : ∀ y : List Nat, (η ++ y).take (headSt st c hdd ls ks).blks.length = η := by intro y; rw [hbl]; simp
              obtain ⟨⟨m0, _, h0'⟩, h0k⟩ := h0
              rw [← List.append_nil η, htk] at h0'
              refine wp_loop_n (fun n a w => ∃ as m, Rel w0 (headSt st c hdd ls ks) (env ++ as) η m a w ∧ KindsOk ks as ∧ I as ∧ μ as = n) ⟨_, _, _, h0', h0k, hI0, rfl⟩ ?_
              rintro n a w ⟨as, m, hr, hko, hI, rfl⟩
              have hb := hbody as hko hI
              refine Code.wp_mono (Q := QE fun e a' w' => match e with
                | .normal => ∃ n', n' < μ as ∧ ∃ as m, Rel w0 (headSt st c hdd ls ks) (env ++ as) η m a' w' ∧ KindsOk ks as ∧ I as ∧ μ as = n'
                | e => K e a' w') ?_ (ih _ _ _ _ _ _ _ _ _ _ _ hc hr hb (by simp [hL]) ?_)
              · intro e a w h; cases e <;> exact h
              · intro e st' env' η' m' a' w' hr' he hη h'
                obtain ⟨el, rfl⟩ := he
                obtain ⟨y, rfl⟩ := hη
                have hpop : ∀ (f : List Atom → Prop), (L ++ [f]).take lv = L := by intro f; rw [← hL]; simp
                cases e with
                | normal =>
                  simp only at h'
                  split at h'
                  · rename_i bs hbs
                    split at h'
                    · rename_i hcov'
                      obtain ⟨hds', hag⟩ := needAll_sound h'
                      simp only [T.wp] at hag
                      rw [List.getD_eq_getElem?_getD, List.getElem?_append_right (by omega), hL] at hag
                      simp only [Nat.sub_self, List.getElem?_cons_zero, Option.getD_some] at hag
                      rw [List.append_assoc] at hr' hag hds'
                      rw [← hr0.hn, List.append_nil] at hcov'
                      obtain ⟨⟨m2, _, h3⟩, h2k⟩ := hr'.cover hcov' hds' hkn hys
                      rw [htk] at h3
                      exact ⟨_, hag.2, _, _, h3, h2k, hag.1, rfl⟩
                    · exact h'.elim
                  · exact h'.elim
                | exit j =>
                  simp only [T.wp] at h'
                  rw [hpop] at h'
                  exact hK _ _ _ _ _ _ _ hr' ⟨as ++ el, by simp⟩ ⟨y, rfl⟩ h'
                | ret =>
                  simp only [T.wp] at h'
                  rw [hpop] at h'
                  exact hK _ _ _ _ _ _ _ hr' ⟨as ++ el, by simp⟩ ⟨y, rfl⟩ h'
            · exact h.elim
          · exact h.elim
  | rangeFunc g ps asn body =>
    intro lp lv st env η m a w k L K _ hr h hL hK
    subst hL
    simp only [seCode] at h
    split at h
    case h_2 => exact h.elim
    rename_i gf caps hgv
    split at h
    case isFalse => exact h.elim
    rename_i hc
    simp only [Bool.and_eq_true] at hc
    obtain ⟨⟨⟨hbnd, hpb⟩, _⟩, hnj⟩ := hc
    have hbnd' := hbnd
    simp only [St.bnd, St.pbnd, Bool.and_eq_true] at hbnd hpb
    have hbt := hbnd.1.1.1.1
    have hpt := hpb.1
    have eg := hr.ev hgv
    simp only [SV.den, TV.den, S.den] at eg
    -- the new record and block
    have main : ∀ fn : Nat, (∃ f, P.funcs[gf]? = some f ∧ (f.name == "runtime.NumGoroutine") = false ∧ f.body.isSome = true) ∧ Calls P gf (#[.func (.yield (w.heap.size + 1)) #[] #[]] ++ (ptrs η caps).toArray) ((w.alloc (.deferred (some []))).alloc (.loop { state := .ready, pending := none, fn, tmps := a.tmps, params := ps, assign := asn, body, defers := w.heap.size }))
        (rangePost Fence.wide 0 P (w.heap.size + 1) (QE K) { a with defers := markD w.heap.size :: a.defers }) := by
      intro fn
      obtain ⟨rec, hrec⟩ : ∃ rec : Loop, rec = { state := .ready, pending := none, fn, tmps := a.tmps, params := ps, assign := asn, body, defers := w.heap.size } := ⟨_, rfl⟩
      rw [← hrec]
      obtain ⟨W1, hW1⟩ : ∃ W1, (w.alloc (.deferred (some []))).alloc (.loop rec) = W1 := ⟨_, rfl⟩
      rw [hW1]
      have hL1 : W1.heap[w.heap.size + 1]? = some (.loop rec) := by
        rw [← hW1]; have := World.alloc_heap_new (w.alloc (.deferred (some []))) (.loop rec); rwa [World.size_alloc] at this
      have hD1 : W1.heap[w.heap.size]? = some (.deferred (some [])) := by
        rw [← hW1]; exact (Below.heap_alloc _ _ _ (by simp)).trans (World.alloc_heap_new w _)
      have hB1 : Below w.heap.size w W1 := by
        rw [← hW1]; exact ((Below.refl _ w).alloc (Nat.le_refl _) _).alloc (by simp) _
      have hx1 : (Value.func (.yield (w.heap.size + 1)) #[] #[]).oneCell' = true := rfl
      have hout : OutsOk m w W1 [] [(Value.func (.yield (w.heap.size + 1)) #[] #[], D.leaf)] := by
        refine ⟨fun i x hx => ?_, by simp, List.Pairwise.nil⟩
        cases i with
        | zero => simp only [List.getElem?_cons_zero, Option.some.injEq] at hx; subst hx; exact ⟨elt_leaf _ hx1, fun _ => good_leaf _ hx1⟩
        | succ i => simp at hx
      have hr1 := hr.call hbnd' hB1 hout
      have e1 : ownRes st [(Value.func (.yield (w.heap.size + 1)) #[] #[], D.leaf)].length [] = { st with n := st.n + 1 } := by simp [ownRes]
      rw [e1] at hr1
      generalize ext m w W1 (outBlks [(Value.func (.yield (w.heap.size + 1)) #[] #[], D.leaf)] []) = m1 at hr1
      obtain ⟨tv, htv⟩ : ∃ tv, tv = st.tmps.zip a.tmps.toList := ⟨_, rfl⟩
      obtain ⟨w1, hw1⟩ : ∃ w1 : Base, w1 = { w0 with pr := fun x => if x = w.heap.size then some (.deferred (some [])) else if x = w.heap.size + 1 then some (.loop rec) else w0.pr x, ys := (SV.one (.s (.any (.at st.n))), Value.func (.yield (w.heap.size + 1)) #[] #[]) :: tv ++ w0.ys } := ⟨_, rfl⟩
      have hpr01 : ∀ g o, w0.pr g = some o → w1.pr g = some o := by
        intro g o hgo
        have := (Array.getElem?_eq_some_iff.1 (hr.hd.kp g o hgo).2).1
        rw [hw1]
        simp only
        rw [if_neg (by omega), if_neg (by omega)]; exact hgo
      have hbooks1 : Books w1 (env ++ [(Value.func (.yield (w.heap.size + 1)) #[] #[], D.leaf)]) η a.defers W1 := by
        obtain ⟨ds1, r1, ⟨r2, r3⟩, r4⟩ := hr.hd.md
        obtain ⟨ds1', s1, _, s4⟩ := hr1.hd.md
        refine ⟨⟨ds1, r1, ⟨r2, fun D hD => ?_⟩, fun D hD => ?_⟩, fun g o hgo => ?_, fun p hp => ?_⟩
        · have := (Array.getElem?_eq_some_iff.1 (r4 D hD)).1
          rw [hw1]
          simp only
          rw [if_neg (by omega), if_neg (by omega)]; exact r3 D hD
        · rw [hB1.block D (Array.getElem?_eq_some_iff.1 (r4 D hD)).1]; exact r4 D hD
        · rw [hw1] at hgo
          simp only at hgo
          split at hgo
          · rename_i e; injection hgo with hgo; subst hgo; subst e; exact ⟨rfl, hD1⟩
          · split at hgo
            · rename_i e; injection hgo with hgo; subst hgo; subst e; exact ⟨rfl, hL1⟩
            · exact hr1.hd.kp g o hgo
        · rw [hw1] at hp
          simp only [List.cons_append, List.mem_cons, List.mem_append] at hp
          rcases hp with rfl | hp | hp
          · refine ⟨?_, ?_, rfl⟩
            · simp [SV.den, TV.den, S.den, X.den, ← hr.hn]
            · simp [SV.bnd, TV.bnd, S.bnd, X.bnd, ← hr.hn]
          · rw [htv] at hp
            obtain ⟨i, hi⟩ := List.getElem?_of_mem hp
            rw [List.getElem?_zip_eq_some] at hi
            obtain ⟨h1, h2⟩ := hi
            have hb1 := List.all_eq_true.1 hbt p.1 (List.mem_of_getElem? h1)
            have hp1 := List.all_eq_true.1 hpt p.1 (List.mem_of_getElem? h1)
            rw [← hr.hn] at hb1
            rw [← hr.he] at hp1
            refine ⟨?_, SV.bnd_mono hb1 (by simp), hp1⟩
            rw [SV.den_bnd hb1]
            have hjk := List.all_eq_true.1 hnj p.1 (List.mem_of_getElem? h1)
            rcases hr.ht i p.1 h1 with e | e
            · rw [e] at hjk; simp [junkV] at hjk
            · rw [Array.getElem?_toList] at h2
              rw [h2] at e
              injection e with e
              exact e.symm
          · exact hr1.hd.ys p hp
      have hrel1 : Rel w1 { st with n := st.n + 1 } (env ++ [(Value.func (.yield (w.heap.size + 1)) #[] #[], D.leaf)]) η m1 a W1 :=
        hr1.frame (w0' := w1) (by rw [hw1]) (by rw [hw1]) hr1.hs hr1.ht hbooks1
      have hge1 : w1.w.heap.size ≤ w.heap.size + 1 := by rw [hw1]; have := hr.hB.size; simp only; omega
      have hyr : YRun P cs w1 (yH P sigs ps.toList asn body st) := by
        refine ⟨w.heap.size + 1, rec, tv, by rw [hrec], ⟨?_, hge1, ?_⟩, ?_⟩
        · rw [hw1]; simp
        · rw [hw1]; intro p hp; exact List.mem_append_left _ hp
        intro w2 hf Post2 Lv st2 env2 η2 m2 a2 W vs k2 hr2 h2
        simp only at h2
        split at h2
        case isFalse => exact h2.elim
        rename_i hc2
        simp only [Bool.and_eq_true, beq_iff_eq] at hc2
        obtain ⟨⟨hlen, hbnd2⟩, hpb2⟩ := hc2
        simp only [St.bnd, St.pbnd, Bool.and_eq_true] at hbnd2 hpb2
        refine ⟨by rw [hrec]; simpa using hlen, fun R hR => ?_⟩
        obtain ⟨ds2, hds1, hds3, hds2⟩ := hr2.hd.md
        have hpr23 := Base.marks_pr (w0 := w2) hds2 hr2.hd.kp
        have htm : ∀ (i : Nat) v, st.tmps[i]? = some v → v = junkV ∨ rec.tmps[i]? = some (v.den env2 η2) := by
          intro i v hv
          right
          have hlt : i < a.tmps.size := by rw [hr.hs]; exact (List.getElem?_eq_some_iff.1 hv).1
          have hmem : (v, a.tmps[i]) ∈ tv := by
            rw [htv]
            refine List.mem_of_getElem? (i := i) ?_
            rw [List.getElem?_zip_eq_some]
            exact ⟨hv, by simp [hlt]⟩
          rw [(hr2.hd.ys _ (hf.ys _ (List.mem_cons_of_mem _ hmem))).1, hrec]
          simp [hlt]
        have hset := setTmps_ok (env := env2) (η := η2) ps.toList vs st.tmps rec.tmps (by rw [hrec]; exact hr.hs) htm
        have hfold : (rec.params.zip (vs.map (SV.den env2 η2)).toArray).foldl (fun t (p, v) => t.setIfInBounds p v) rec.tmps = (ps.toList.zip (vs.map (SV.den env2 η2))).foldl (fun t (p : Tmp × Value) => t.setIfInBounds p.1 p.2) rec.tmps := by
          rw [← Array.foldl_toList, Array.toList_zip, hrec]
        rw [hfold]
        have hr3 := hr2.frame (w0' := w2.marks ds2) (a' := { tmps := (ps.toList.zip (vs.map (SV.den env2 η2))).foldl (fun t (p : Tmp × Value) => t.setIfInBounds p.1 p.2) rec.tmps, defers := [] }) rfl rfl hset.1 hset.2 (hr2.hd.enter hds2)
        have hLpr : (w2.marks ds2).pr (w.heap.size + 1) = some (.loop rec) := hpr23 _ _ hf.pr
        refine roundIn_of_wpIn (F := Fence.wide) trivial ?_
        have hasn : rec.assign = asn := by rw [hrec]
        have hbdy : rec.body = body := by rw [hrec]
        rw [hasn, hbdy]
        refine seCodeR_sound (hT.noY (w2.marks ds2)) (r := some (w.heap.size + 1)) asn _ _ _ _ _ _ _ _ hr3 h2 fun st4 env4 η4 m4 a4 w4 hr4 he4 hη4 h4 => ?_
        have hL4 := (hr4.hd.kp _ _ hLpr).2
        refine ⟨_, run_beginRound hL4 (by rw [hrec]), ?_⟩
        obtain ⟨w5, hw5⟩ : ∃ w5 : Base, w5 = { w2.marks ds2 with pr := fun g => if g = w.heap.size + 1 then some (.loop { rec with state := .busy }) else (w2.marks ds2).pr g } := ⟨_, rfl⟩
        have hbk5 : Books w5 env4 η4 a4.defers (w4.putObj (w.heap.size + 1) (.loop { rec with state := .busy })) := by
          obtain ⟨ds4, q1, ⟨q3, q4⟩, q2⟩ := hr4.hd.md
          refine ⟨⟨ds4, q1, ⟨q3, fun D hD => ?_⟩, fun D hD => ?_⟩, fun g o hgo => ?_, by rw [hw5]; exact hr4.hd.ys⟩
          · refine ⟨?_, by rw [hw5]; exact (q4 D hD).2⟩
            rw [hw5]
            simp only
            rw [if_neg]
            · exact (q4 D hD).1
            · intro e
              have := q2 D hD
              rw [e, hL4] at this
              cases this
          · rw [World.putObj_heap_other]
            · exact q2 D hD
            · intro e
              have := q2 D hD
              rw [e, hL4] at this
              cases this
          · rw [hw5] at hgo
            simp only at hgo
            split at hgo
            · rename_i e
              injection hgo with hgo
              subst hgo; subst e
              exact ⟨rfl, World.putObj_heap_same (Array.getElem?_eq_some_iff.1 hL4).1⟩
            · rename_i e
              rw [World.putObj_heap_other e]
              exact hr4.hd.kp g o hgo
        have hr5 := hr4.putBook (w0' := w5) (a' := a4) hL4 rfl hf.ge (by rw [hw5]) (by rw [hw5]) hr4.hs hr4.ht hbk5
        refine seCodeR_sound (hT.noY w5) (r := some (w.heap.size + 1)) body _ _ _ _ _ _ _ _ hr5 h4 fun st6 env6 η6 m6 a6 w6 hr6 he6 hη6 h6 => ?_
        have hL6 := (hr6.hd.kp (w.heap.size + 1) (.loop { rec with state := .busy }) (by rw [hw5]; simp)).2
        refine ⟨_, _, run_endRound none hL6, ?_⟩
        have hrb : ({ { rec with state := .busy } with state := if (none : Option Code).isNone = true then .ready else .done, pending := none } : Loop) = rec := by rw [hrec]; rfl
        rw [hrb]
        have he26 : ∃ l, env6 = env2 ++ l := by
          obtain ⟨l1, rfl⟩ := he4
          obtain ⟨l2, rfl⟩ := he6
          exact ⟨l1 ++ l2, by simp⟩
        have hη26 : ∃ l, η6 = η2 ++ l := by
          obtain ⟨l1, rfl⟩ := hη4
          obtain ⟨l2, rfl⟩ := hη6
          exact ⟨l1 ++ l2, by simp⟩
        have hbk7 : Books w2 env6 η6 a2.defers (w6.putObj (w.heap.size + 1) (.loop rec)) := by
          have hpr5 : ∀ g o, g ≠ w.heap.size + 1 → (w2.marks ds2).pr g = some o → w6.heap[g]? = some o := fun g o hne hgo => (hr6.hd.kp g o (by rw [hw5]; simp only; rw [if_neg hne]; exact hgo)).2
          refine ⟨⟨ds2, hds1, hds3, fun D hD => ?_⟩, fun g o hgo => ?_, fun p hp => hr6.hd.ys p (by rw [hw5]; exact hp)⟩
          · have hne : D ≠ w.heap.size + 1 := by
              intro e
              have h1 := hds2 D hD
              rw [e, (hr2.hd.kp _ _ hf.pr).2] at h1
              cases h1
            rw [World.putObj_heap_other hne]
            exact hpr5 D _ hne (by simp only [Base.marks, if_pos hD])
          · by_cases hne : g = w.heap.size + 1
            · subst hne
              rw [hf.pr] at hgo
              injection hgo with hgo
              subst hgo
              exact ⟨rfl, World.putObj_heap_same (Array.getElem?_eq_some_iff.1 hL6).1⟩
            · rw [World.putObj_heap_other hne]
              exact ⟨(hr2.hd.kp g o hgo).1, hpr5 g o hne (hpr23 g o hgo)⟩
        have hr7 := hr6.putBook (w0' := w2) (a' := a2) (tm := st2.tmps) hL6 rfl (by rw [hw5]; exact hf.ge) (by rw [hw5]; rfl) (by rw [hw5]; rfl) hr2.hs (hr2.slots hbnd2.1.1.1.1 hpb2.1 he26 hη26) hbk7
        exact hR _ _ _ _ _ _ hr7 he26 hη26 h6
      have hHR := (hT.hy (yH P sigs ps.toList asn body st) (yH_bind hT.H.bind)).2 w1 hyr
      have hw := h (Value.func (.yield (w.heap.size + 1)) #[] #[], D.leaf) hx1 rfl
      obtain ⟨hfn, hcall⟩ := hHR Post L _ _ _ _ _ _ gf (ptrS caps) _ _ hrel1 hw
      refine ⟨hfn, ?_⟩
      have := hcall (rangePost Fence.wide 0 P (w.heap.size + 1) (QE K) { a with defers := markD w.heap.size :: a.defers }) ?_
      · rw [ptrS_den] at this
        have e2 : (List.map (SV.den (env ++ [(Value.func (.yield (w.heap.size + 1)) #[] #[], D.leaf)]) η) [SV.one (.s (.any (.at st.n)))] ++ ptrs η caps).toArray = #[.func (.yield (w.heap.size + 1)) #[] #[]] ++ (ptrs η caps).toArray := by
          apply Array.ext'
          simp [SV.den, TV.den, S.den, X.den, ← hr.hn]
        rw [e2] at this
        exact this
      · intro st' v env' η' m' w' hr' he hη hk
        have hLw := (hr'.hd.kp (w.heap.size + 1) (.loop rec) (by rw [hw1]; simp)).2
        have hDw := (hr'.hd.kp w.heap.size (.deferred (some [])) (by rw [hw1]; simp)).2
        have hend := run_endLoop (P := P) hLw (by rw [hrec]; simp)
        have hpend : rec.pending = none := by rw [hrec]
        rw [hpend] at hend
        refine ⟨none, _, hend, ?_⟩
        have he' : ∃ l, env' = env ++ l := by obtain ⟨l, rfl⟩ := he; exact ⟨(Value.func (.yield (w.heap.size + 1)) #[] #[], D.leaf) :: l, by simp⟩
        have hbk : Books w0 env' η' (markD w.heap.size :: a.defers) (w'.putObj (w.heap.size + 1) (.loop { rec with state := .exhausted })) := by
          obtain ⟨ds, q1, ⟨q3, q4⟩, q2⟩ := hr'.hd.md
          obtain ⟨ds0, r1, ⟨r2, r3⟩, r4⟩ := hr.hd.md
          have e0 : ds = ds0 := by
            rw [q1] at r1
            exact (List.map_inj_right (fun x y e => by simpa [markD] using e)).1 r1
          subst e0
          refine ⟨⟨w.heap.size :: ds, by rw [List.map_cons, q1], ⟨?_, fun D hD => ?_⟩, fun D hD => ?_⟩, fun g o hgo => ?_, fun p hp => hr'.hd.ys p (by rw [hw1]; exact List.mem_append_right _ hp)⟩
          · rw [List.nodup_cons]
            exact ⟨fun hin => by have := (Array.getElem?_eq_some_iff.1 (r4 _ hin)).1; omega, r2⟩
          · rcases List.mem_cons.1 hD with rfl | hD
            · refine ⟨?_, hr.hB.size⟩
              cases hp : w0.pr w.heap.size with
              | none => rfl
              | some o => have := (Array.getElem?_eq_some_iff.1 (hr.hd.kp _ o hp).2).1; omega
            · exact r3 D hD
          · rcases List.mem_cons.1 hD with rfl | hD
            · rw [World.putObj_heap_other (by omega)]; exact hDw
            · rw [World.putObj_heap_other]
              · exact q2 D hD
              · intro e
                have := q2 D hD
                rw [e, hLw] at this
                cases this
          · have hlt := (Array.getElem?_eq_some_iff.1 (hr.hd.kp g o hgo).2).1
            rw [World.putObj_heap_other (by omega)]
            exact hr'.hd.kp g o (hpr01 g o hgo)
        have hfin := hr'.putBook (w0' := w0) (a' := { a with defers := markD w.heap.size :: a.defers }) (tm := st.tmps) hLw rfl hge1 (by rw [hw1]) (by rw [hw1]) hr.hs (hr.slots hbt hpt he' hη) hbk
        have hfinal := hK .normal _ _ _ _ _ _ hfin he' hη hk
        rw [hpend] at hfinal
        exact hfinal
    obtain ⟨⟨f0, hf0, hname, hbody⟩, _⟩ := main 0
    exact wp_rangeFunc_wide (lb := (ptrs η caps).toArray) eg (fun args w => enters_ hf0 hname hbody args w) (fun fn => (main fn).2)
  | _ => intro lp lv st env η m a w k L K _ hr h hL hK; exact h.elim
end
end Go.Proofs.YtamjocnlhhhijaaV

namespace Go.Proofs.YtamjocnlhhhijaaV
open Go Go.RowKit Go.Proofs.YtamjocnlhhhijaaW.PrintLast

section
variable {w0 : Base} {w : World} {st : St} {env : List Atom} {η : List Nat} {m : Addr → Option Value} {a : Act} {P : Program}
variable {cs : Nat → Sig × Con} {Post : List Atom → Prop} {sigs : Sg} {L : List (List Atom → Prop)}
theorem fits_sound : ∀ {sh : List (Option Nat)} {vs : List TV}, fits sh vs = true → mkVals sh ((vs.map TV.cells).flatten.map (S.den env η)) = vs.map (TV.den env η)
  | [], [], _ => rfl
  | none :: sh, .s x :: vs, h => by
    simp only [fits] at h
    simp only [List.map_cons, List.flatten_cons, TV.cells, List.singleton_append, mkVals, fits_sound h]; rfl
  | some n :: sh, .agg c :: vs, h => by
    simp only [fits, Bool.and_eq_true, beq_iff_eq] at h
    obtain ⟨h1, h2⟩ := h
    subst h1
    simp only [List.map_cons, List.flatten_cons, TV.cells, List.map_append, mkVals]
    rw [List.drop_left' (by simp), List.take_left' (by simp), fits_sound h2]; rfl
  | [], _ :: _, h => by simp [fits] at h
  | none :: _, [], h => by simp [fits] at h
  | none :: _, .agg _ :: _, h => by simp [fits] at h
  | some _ :: _, [], h => by simp [fits] at h
  | some _ :: _, .s _ :: _, h => by simp [fits] at h
def resM (tmps : Array Value) : ResultVar → Sem Value
  | .tmp t => pure (tmps.getD t Go.undef)
  | .cell p t => do loadVar t (← asAddr (tmps.getD p Go.undef))
theorem resTV_run (hr : Rel w0 st env η m a w) {x : ResultVar} {t : TV} (h : resTV P st x = some t) : (resM a.tmps x).run P w = .ok (t.den env η) w := by
  cases x with
  | tmp i =>
    simp only [resTV] at h
    split at h
    · rename_i v hv
      injection h with h
      subst h
      have := hr.ev hv
      simp only [Act.eval] at this
      unfold resM
      rw [Sem.run_pure, this]; rfl
    · cases h
  | cell p ty =>
    simp only [resTV] at h
    split at h
    · rename_i ds v b hl
      injection h with h
      subst h
      obtain ⟨q, h1, h2⟩ := load_var hr hl rfl
      simp only [Act.eval] at h1
      simp only [resM, Sem.run_bind, h1, asAddr, Sem.run_pure, Result.andThen_ok]
      exact h2
    · cases h
theorem resM_run (hr : Rel w0 st env η m a w) : ∀ (l : List ResultVar) (vs : List TV), allSome (l.map (resTV P st)) = some vs → (l.mapM (resM a.tmps)).run P w = .ok (vs.map (TV.den env η)) w
  | [], vs, h => by simp only [List.map_nil, allSome, Option.some.injEq] at h; subst h; rfl
  | x :: l, vs, h => by
    simp only [List.map_cons] at h
    cases hx : resTV P st x with
    | none => rw [hx] at h; simp [allSome] at h
    | some t =>
      rw [hx] at h
      simp only [allSome] at h
      cases hl : allSome (l.map (resTV P st)) with
      | none => rw [hl] at h; cases h
      | some vs' =>
        rw [hl] at h
        simp only [Option.map_some, Option.some.injEq] at h
        subst h
        rw [List.mapM_cons, Sem.run_bind, resTV_run hr hx, Result.andThen_ok, Sem.run_bind, resM_run hr l vs' hl]
        rfl
theorem results_eq (fn : Func) (tmps : Array Value) : results fn tmps = (do
    let vs ← fn.results.mapM (resM tmps)
    pure (if h : vs.size = 1 then vs[0] else .tuple vs)) := by
  unfold results
  congr 1
theorem results_run (hr : Rel w0 st env η m a w) {fn : Func} {vs : List TV} (h : allSome (fn.results.toList.map (resTV P st)) = some vs) :
    (results fn a.tmps).run P w = .ok (if h : (vs.map (TV.den env η)).toArray.size = 1 then (vs.map (TV.den env η)).toArray[0] else .tuple (vs.map (TV.den env η)).toArray) w := by
  rw [results_eq]
  have h2 := resM_run hr _ _ h
  have e : fn.results = fn.results.toList.toArray := by simp
  rw [e, List.mapM_toArray]
  simp only [Sem.run_bind, Sem.run_map]
  rw [h2]
  rfl
theorem seRet_sound (hr : Rel w0 st env η m a w) {fn : Func} {sg : Sig} (h : (seRet P fn sg st).wp cs Post env L) :
    ∃ v outs, (results fn a.tmps).run P w = .ok v w ∧ v = mkRes sg.tup sg.rsh (outs.map (·.1)) ∧ KindsOk sg.res outs ∧ Post outs ∧ OutsOk w0.m w0.w w sg.own outs := by
  unfold seRet at h
  split at h
  · rename_i vs hvs
    simp only at h
    split at h
    · rename_i hc
      obtain ⟨hds, hpost⟩ := needAll_sound h
      simp only [Bool.and_eq_true, beq_iff_eq] at hc
      obtain ⟨⟨⟨⟨⟨⟨hf, ht⟩, hp⟩, hl⟩, hk⟩, _⟩, hset⟩ := hc
      have hvals : ((vs.map TV.cells).flatten.map (S.atom env)).map (·.1) = (vs.map TV.cells).flatten.map (S.den env η) := by
        rw [List.map_map]
        exact List.map_congr_left fun s hs => S.atom_val (List.all_eq_true.1 hp s hs)
      refine ⟨_, (vs.map TV.cells).flatten.map (S.atom env), results_run hr hvs, ?_, ?_, hpost, ?_⟩
      · rw [hvals]
        unfold mkRes
        rw [fits_sound hf, ht]
        by_cases h1 : vs.length = 1
        · have : (vs.length != 1) = false := by simp [h1]
          rw [dif_pos (by simpa using h1), this]
          match vs, h1 with
          | [v], _ => rfl
        · have : (vs.length != 1) = true := by simp [h1]
          rw [dif_neg (by simpa using h1), this]; rfl
      · refine kindsOk_of (by rw [List.length_map, hl]) fun i k x h1 h2 => ?_
        simp only [List.getElem?_map] at h2
        cases h3 : (vs.map TV.cells).flatten[i]? with
        | none => rw [h3] at h2; cases h2
        | some s =>
          rw [h3] at h2
          simp only [Option.map_some, Option.some.injEq] at h2
          subst h2
          have hmem : s ∈ (vs.map TV.cells).flatten := List.mem_of_getElem? h3
          have hps := List.all_eq_true.1 hp s hmem
          have hz : ((vs.map TV.cells).flatten.zip sg.res)[i]? = some (s, k) := by rw [List.getElem?_zip_eq_some]; exact ⟨h3, h1⟩
          have h4 := List.all_eq_true.1 hk _ (List.mem_of_getElem? hz)
          simp only at h4
          have hany : k = .any → k.ok (s.atom env).1 := by
            rintro rfl
            exact (S.atom_elt hr.elt hps).1
          split at h4
          · rename_i k' hk'
            rw [Bool.or_eq_true] at h4
            rcases h4 with h4 | h4
            · obtain rfl := RK.eq_of h4
              exact kind_ok hds hmem hk' hr.elt hps
            · refine hany ?_
              cases k <;> first | rfl | cases h4
          · refine hany ?_
            cases k <;> first | rfl | cases h4
      · generalize hls : (vs.map TV.cells).flatten = ls at *
        obtain ⟨rem, hrem⟩ := Option.isSome_iff_exists.1 hset
        obtain ⟨st2, m', hst2, hmm, hr2, hoth, hows⟩ := hr.settle hrem (List.nil_sublist rem)
        have hst2o : st2.own = tokEnts ls sg.own := by rw [hst2]; simp
        have hget : ∀ (j : Nat) (s : S), ls[j]? = some s → (ls.map (S.atom env))[j]? = some (s.atom env) := by
          intro j s hj
          rw [List.getElem?_map, hj]; rfl
        have hblk : ∀ p ∈ sg.own, ∀ g, outBlk (ls.map (S.atom env)) p = some g → ∃ k, ls[p.1]? = some (.slc (.at k)) ∧ blkOf env (k, p.2) = some g ∧ (k, p.2) ∈ st2.own := by
          intro p hpm g hg
          rcases hows p hpm with ⟨k, hk1, hk2⟩ | ⟨z, hk1⟩ | ⟨y, hk1⟩
          · refine ⟨k, hk1, ?_, hk2⟩
            unfold outBlk at hg
            rw [getD_get (hget _ _ hk1)] at hg
            exact hg
          · unfold outBlk at hg
            rw [getD_get (hget _ _ hk1)] at hg
            simp [S.atom, X.den, ownB, Value.ownBlock] at hg
          · unfold outBlk at hg
            rw [getD_get (hget _ _ hk1)] at hg
            simp [S.atom, X.den, ownB] at hg
        have hsub : ∀ ad u, m' ad = some u → ext w0.m w0.w w (outBlks (ls.map (S.atom env)) sg.own) ad = some u := by
          intro ad u hu
          unfold ext
          split
          · rw [if_neg]
            · exact (hr2.hm ad u hu).1
            · intro hin
              obtain ⟨p, hpm, hg⟩ := List.mem_filterMap.1 hin
              obtain ⟨k, _, hk2, hk3⟩ := hblk p hpm _ hg
              exact (hr2.hom _ hk3 _ hk2).2 ad u hu rfl
          · rename_i hlt
            exact hr2.hm0 ad u hu (by simpa using hlt)
        refine ⟨fun i x hx => ?_, fun p hpm => ?_, ?_⟩
        · rw [List.getElem?_map] at hx
          cases hl' : ls[i]? with
          | none => rw [hl'] at hx; cases hx
          | some s =>
            rw [hl'] at hx
            simp only [Option.map_some, Option.some.injEq] at hx
            subst hx
            have hpu := List.all_eq_true.1 hp s (List.mem_of_getElem? hl')
            exact ⟨(S.atom_elt hr2.elt hpu).mono hsub, fun hn => (hoth i s hl' hn hpu).mono hsub⟩
        · rcases hows p hpm with ⟨k, hk1, hk2⟩ | ⟨z, hk1⟩ | ⟨y, hk1⟩
          · exact ⟨_, hget _ _ hk1, (hr2.own hk2).mono hsub⟩
          · exact ⟨_, hget _ _ hk1, nil_ownAt _ _ _ _ _⟩
          · exact ⟨_, hget _ _ hk1, .inl rfl⟩
        · have hod := hr2.hod
          rw [hst2o] at hod
          unfold tokEnts at hod
          rw [List.pairwise_filterMap] at hod
          refine hod.imp_of_mem fun {p q} hpm hqm hh g hg e => ?_
          obtain ⟨k, hk1, hk2, _⟩ := hblk p hpm g hg
          obtain ⟨k', hk1', hk2', _⟩ := hblk q hqm g e
          exact hh (k, p.2) (by simp [hk1]) (k', q.2) (by simp [hk1']) g hk2 hk2'
    · exact h.elim
  · exact h.elim
/-- The frame's marks are come to, one by one. -/
theorem Rel.close {fn : Func} {R : Ending → World → Prop} {tmps : Array Value} : ∀ (ds : List Nat) (a : Act) (w : World), a.defers = ds.map markD → Rel w0 st env η m a w → (∀ w', Rel w0 st env η m { a with defers := [] } w' → ∃ v, (results fn tmps).run P w' = .ok v w' ∧ R (.returned v) w') →
    LeavesInM Fence.wide 0 P fn tmps R (ds.map markD) .returning w
  | [], a, w, ha, hr, h => by
    have e : a = { a with defers := [] } := by cases a; simp at ha; rw [ha]
    rw [e] at hr
    exact h w hr
  | D :: ds, a, w, ha, hr, h => by
    obtain ⟨ds', h1, ⟨h2, h3⟩, h4⟩ := hr.hd.md
    have e : D :: ds = ds' := (List.map_inj_right (fun x y e => by simpa [markD] using e)).1 (ha.symm.trans h1)
    subst e
    have hD := h4 D List.mem_cons_self
    rw [List.nodup_cons] at h2
    have hbk : Books w0 env η (ds.map markD) (w.putObj D (.deferred none)) := by
      refine ⟨⟨ds, rfl, ⟨h2.2, fun x hx => h3 x (List.mem_cons_of_mem _ hx)⟩, fun x hx => ?_⟩, fun g o hg => ?_, hr.hd.ys⟩
      · rw [World.putObj_heap_other (fun (e : x = D) => h2.1 (by rw [← e]; exact hx))]; exact h4 x (List.mem_cons_of_mem _ hx)
      · rw [World.putObj_heap_other (fun e => by rw [e, (h3 D List.mem_cons_self).1] at hg; cases hg)]; exact hr.hd.kp g o hg
    have hr1 := hr.putBook (w0' := w0) (a' := { a with defers := ds.map markD }) hD rfl (h3 D List.mem_cons_self).2 rfl rfl hr.hs hr.ht hbk
    exact ⟨by simp, .inl ⟨D, _, rfl, run_takeDeferred hD, Rel.close ds { a with defers := ds.map markD } _ rfl hr1 h⟩⟩
/-- A function's frame, marks and all. -/
theorem calls_of_marks {f : FuncId} {fn : Func} {c : Code} {args : Array Value} {R : Ending → World → Prop} (hfn : P.funcs[f]? = some fn) (hb : fn.body = some c)
    (h : c.wp P (QE fun e a w' => ∃ st env η m, e ≠ .exit 0 ∧ (∀ i, e ≠ .exit i) ∧ Rel w0 st env η m a w' ∧ ∀ w', Rel w0 st env η m { a with defers := [] } w' → ∃ v, (results fn a.tmps).run P w' = .ok v w' ∧ R (.returned v) w') { tmps := args ++ Array.replicate (fn.ntmps - args.size) Go.undef, defers := [] } w) : Calls P f args w R := by
  have key : CallsIn Fence.wide 0 P f args w R := by
    refine callsIn_of_wp_marks hfn hb trivial ?_
    refine Go.wpIn_mono (wpIn_wide.2 h) ?_
    have fin : ∀ (e : Ex) a w', (∃ st env η m, e ≠ .exit 0 ∧ (∀ i, e ≠ .exit i) ∧ Rel w0 st env η m a w' ∧ ∀ w', Rel w0 st env η m { a with defers := [] } w' → ∃ v, (results fn a.tmps).run P w' = .ok v w' ∧ R (.returned v) w') → LeavesInM Fence.wide 0 P fn a.tmps R a.defers .returning w' := by
      rintro e a w' ⟨st, env, η, m, _, _, hr, hR⟩
      obtain ⟨ds, h1, _⟩ := hr.hd.md
      rw [h1]
      exact Rel.close ds a w' h1 hr hR
    intro e a w' hq
    cases e with
    | normal => exact fin _ a w' hq
    | ret => exact fin _ a w' hq
    | exit id => obtain ⟨_, _, _, _, _, h2, _⟩ := hq; exact absurd rfl (h2 id)
    | _ => exact hq.elim
  exact callsIn_wide.1 key
theorem seFn_sound (hT : ∀ w0, Table P sigs cs w0) (hP : P.follows .mixedOrders = true) {an : Ann} {rs : List (Nat × RegT)} {fn : Func} {c : Code} {sg : Sig} {pk : List RK} {con : Con}
    (hfn : P.funcs[sg.f]? = some fn) (hname : (fn.name == "runtime.NumGoroutine") = false) (hbody : fn.body = some c) (hc : codeOk an rs c) (hl : (shapeS sg.ash (atomsFrom 0 pk)).length = sg.ash.length)
    (h : ∀ args, (∀ x ∈ args, ∃ m, Good m x) → con.pre args → KindsOk pk args ∧ (seFn P sigs an fn sg pk).wp cs (con.post args) args []) : holds P (sg, con) := by
  refine ⟨⟨fn, hfn, hname, by rw [hbody]; rfl⟩, fun args m w hm hg hpre => ?_⟩
  obtain ⟨hk, hwp⟩ := h args (fun x hx => ⟨m, hg x hx⟩) hpre
  have hden := atomsFrom_den (η := []) (e := []) hk
  simp only [List.length_nil, List.nil_append] at hden
  have hsh := shapeS_sound (env := args) (η := []) (sh := sg.ash) (l := atomsFrom 0 pk)
  rw [hden] at hsh
  have hlen : (mkVals sg.ash (args.map (·.1))).length = sg.ash.length := by rw [← hsh, List.length_map, hl]
  unfold seFn at hwp
  rw [hbody] at hwp
  simp only at hwp
  have hr : Rel ⟨w, m, fun _ => none, []⟩ (startSt fn sg pk) args [] m { tmps := (mkVals sg.ash (args.map (·.1))).toArray ++ Array.replicate (fn.ntmps - (mkVals sg.ash (args.map (·.1))).toArray.size) Go.undef, defers := [] } w := by
    refine ⟨KindsOk.length hk, ?_, ?_, ⟨⟨[], rfl, ⟨List.nodup_nil, by simp⟩, by simp⟩, (fun g o hg => by cases hg), by simp⟩, rfl, List.nodup_nil, ?_, ?_, Below.refl _ _, fun ad v h => ⟨hm ad v h, by simp⟩, fun ad v h _ => h, fun i x hi => ⟨(hg x (List.mem_of_getElem? hi)).elt, fun _ _ => hg x (List.mem_of_getElem? hi)⟩, by simp [startSt], by simp [startSt], by simp [startSt], ?_⟩
    · simp [startSt, hlen, hl]
    · intro i v hv
      right
      simp only [startSt, List.getElem?_append, List.length_map, hl] at hv
      simp only [Array.getElem?_append, List.size_toArray, hlen]
      split at hv
      · rename_i hlt
        rw [if_pos hlt, ← hsh]
        simp only [List.getElem?_map] at hv
        cases ht : (shapeS sg.ash (atomsFrom 0 pk))[i]? with
        | none => rw [ht] at hv; cases hv
        | some t =>
          rw [ht] at hv
          simp only [Option.map_some, Option.some.injEq] at hv
          subst hv
          simp [ht, SV.den]
      · rename_i hlt
        rw [if_neg hlt]
        simp only [List.getElem?_replicate] at hv
        split at hv
        · rename_i h2
          injection hv with hv
          subst hv
          simp [h2, undefV, SV.den, TV.den, S.den]
        · cases hv
    · intro i bl hbl; simp [startSt] at hbl
    · intro g hg; simp at hg
    · intro p hp; simp [startSt] at hp
  refine calls_of_marks (w0 := ⟨w, m, fun _ => none, []⟩) hfn hbody ?_
  refine seCode_sound (hT _) hP (rs := rs) c 0 0 _ _ _ _ _ _ _ [] _ hc hr hwp rfl ?_
  intro e st' env' η' m' a' w' hr' _ _ h'
  have fin : (seRet P fn sg st').wp cs (con.post args) env' [] → ∀ w', Rel ⟨w, m, fun _ => none, []⟩ st' env' η' m' { a' with defers := [] } w' →
      ∃ v, (results fn a'.tmps).run P w' = .ok v w' ∧ ∃ outs, Ending.returned v = .returned (mkRes sg.tup sg.rsh (outs.map (·.1))) ∧ KindsOk sg.res outs ∧ con.post args outs ∧ OutsOk m w w' sg.own outs ∧ Below w.heap.size w w' := by
    intro h' w' hr'
    obtain ⟨v, outs, h1, h2, h3, h4, h5⟩ := seRet_sound hr' h'
    exact ⟨v, h1, outs, by rw [h2], h3, h4, h5, hr'.hB⟩
  cases e with
  | exit id => exact h'.elim
  | normal => exact ⟨st', env', η', m', by simp, by simp, hr', fin h'⟩
  | ret => exact ⟨st', env', η', m', by simp, by simp, hr', fin h'⟩
/-! ### Calls within a call -/
theorem needAll_bind {f : St → T} : ∀ {ds : List Nd} {t : T}, (needAll ds t).bind f = needAll ds (t.bind f)
  | [], _ => rfl
  | d :: r, t => by simp only [needAll, T.bind, needAll_bind]
theorem seRounds_bind {f : St → T} {body : St → (Ex → St → T) → T} (hb : ∀ st k, (body st k).bind f = body st (fun e s => (k e s).bind f)) : ∀ {n : Nat} {st : St} {k : Ex → St → T}, (seRounds body n st k).bind f = seRounds body n st (fun e s => (k e s).bind f)
  | 0, _, _ => rfl
  | n + 1, st, k => by
    simp only [seRounds]
    rw [hb]
    congr 1
    funext e s
    cases e with
    | normal => exact seRounds_bind hb
    | _ => rfl
theorem seCode_bind (hH : HB sigs.H) (hY : YB sigs.Y) (hHY : ∀ y, YB y → HB (sigs.HY y)) {an : Ann} {f : St → T} : ∀ {c : Code} {lp lv : Nat} {st : St} {k : Ex → St → T}, (seCode P sigs an c lp lv st k).bind f = seCode P sigs an c lp lv st (fun e s => (k e s).bind f) := by
  intro c
  induction c with
  | region id ops dr =>
    intro lp lv st k
    simp only [seCode]
    split
    · split
      · exact seDrawL_bind hH
      · exact seDraw_bind hH
      · rfl
    · exact seSeq_bind hH hY
  | rangeFunc g ps asn body =>
    intro lp lv st k
    simp only [seCode]
    split
    · split
      · simp only [T.bind]
        rw [hHY _ (yH_bind hH)]
      · rfl
    · rfl
  | seq a b iha ihb =>
    intro lp lv st k
    simp only [seCode]
    rw [iha]
    congr 1
    funext e s
    cases e with
    | normal => exact ihb
    | _ => rfl
  | cond c a b iha ihb =>
    intro lp lv st k
    simp only [seCode]
    split
    · rw [seBr_bind]
      congr 1
      · funext s; exact iha
      · funext s; exact ihb
    · rfl
  | block id c ih =>
    intro lp lv st k
    simp only [seCode]
    rw [ih]
    congr 1
    funext e s
    cases e with
    | exit j => simp only; split <;> rfl
    | _ => rfl
  | scope c ih => intro lp lv st k; exact ih
  | loop c ih =>
    intro lp lv st k
    simp only [seCode]
    split
    · rfl
    · exact seRounds_bind (fun st k => ih)
    · rename_i la hno han
      split
      · exact seRounds_bind (fun st k => ih)
      split
      · rfl
      · rename_i sl ce ows keep _
        split
        · rfl
        · split
          · rename_i ls _ _ ks rem _ _
            generalize (⟨sl, ce, ows, if keep = true then rem else [], la.junk⟩ : Hd) = hdd
            split
            · rw [needAll_bind]
              simp only [T.bind]
              rw [ih]
              congr 2
              congr 1
              funext e s
              cases e with
              | normal =>
                simp only
                split
                · split
                  · rw [needAll_bind]; rfl
                  · rfl
                · rfl
              | _ => rfl
            · rfl
          · rfl
  | _ => intro lp lv st k; rfl
theorem TV.den_take' {env l : List Atom} {η y : List Nat} {v : TV} (h1 : v.bnd env.length = true) (h2 : v.pb η.length = true) : v.den (env ++ l) (η ++ y) = v.den env η := by
  cases v with
  | s x =>
    have := S.den_take (env := env ++ l) (η := η ++ y) (s := x) h2
    rw [List.take_left] at this
    show x.den (env ++ l) (η ++ y) = x.den env η
    rw [← this]
    exact S.den_bnd h1 l
  | agg c =>
    show Value.agg _ = Value.agg _
    congr 1
    congr 1
    refine List.map_congr_left fun s hs => ?_
    have := S.den_take (env := env ++ l) (η := η ++ y) (s := s) (List.all_eq_true.1 h2 s hs)
    rw [← this, List.take_left]
    exact S.den_bnd (List.all_eq_true.1 h1 s hs) l
theorem SV.den_ext {env l : List Atom} {η y : List Nat} {v : SV} (h1 : v.bnd env.length = true) (h2 : v.pb η.length = true) : v.den (env ++ l) (η ++ y) = v.den env η := by
  cases v with
  | one t => exact TV.den_take' h1 h2
  | tup c =>
    show Value.tuple _ = Value.tuple _
    congr 1
    congr 1
    exact List.map_congr_left fun s hs => TV.den_take' (List.all_eq_true.1 h1 s hs) (List.all_eq_true.1 h2 s hs)
theorem inlOf_mem {f : FuncId} : ∀ {l : List Inl} {x : Inl}, inlOf f l = some x → x ∈ l ∧ x.f = f
  | [], _, h => by simp [inlOf] at h
  | y :: l, x, h => by
    simp only [inlOf] at h
    split at h
    · rename_i hf
      injection h with h
      subst h
      exact ⟨by simp, by simpa using hf⟩
    · obtain ⟨h1, h2⟩ := inlOf_mem h
      exact ⟨by simp [h1], h2⟩
theorem Blk.obj_take {env : List Atom} {η : List Nat} {n : Nat} {b : Blk} (h : b.cells.all (S.pb n) = true) : b.obj env (η.take n) = b.obj env η := by
  have h1 : ∀ c ∈ b.cells, c.den env (η.take n) = c.den env η := fun c hc => S.den_take (List.all_eq_true.1 h c hc)
  unfold Blk.obj
  split
  · congr 2
    exact List.map_congr_left h1
  · congr 2
    refine List.map_congr_left fun p hp => ?_
    have h2 := List.fst_mem_of_mem_zipIdx hp
    rw [h1 _ (List.of_mem_zip h2).2]
theorem TV.den_take2 {env : List Atom} {η : List Nat} {n : Nat} {v : TV} (h : v.pb n = true) : v.den env (η.take n) = v.den env η := by
  cases v with
  | s x => exact S.den_take h
  | agg c =>
    show Value.agg _ = Value.agg _
    congr 2
    exact List.map_congr_left fun s hs => S.den_take (List.all_eq_true.1 h s hs)
theorem SV.den_take2 {env : List Atom} {η : List Nat} {n : Nat} {v : SV} (h : v.pb n = true) : v.den env (η.take n) = v.den env η := by
  cases v with
  | one t => exact TV.den_take2 h
  | tup c =>
    show Value.tuple _ = Value.tuple _
    congr 2
    exact List.map_congr_left fun s hs => TV.den_take2 (List.all_eq_true.1 h s hs)
theorem back_rel {w1 : Base} {st st' : St} {env env' : List Atom} {η η' : List Nat} {m m' : Addr → Option Value} {a a1 : Act} {w' : World} (hr : Rel w0 st env η m a w) (hr' : Rel w1 st' env' η' m' a1 w') (hw : w1.w = w0.w) (hm : w1.m = w0.m) (hbk : Books w0 env' η' a.defers w')
    (hbnd : st.tmps.all (SV.bnd st.n) = true) (hpb : st.tmps.all (SV.pb st.blks.length) = true) (he : ∃ l, env' = env ++ l) (hη : ∃ l, η' = η ++ l) (v : SV) :
    ∃ η2, Rel w0 (backSt st st' v) env' η2 m' a w' ∧ (∃ l, η2 = η ++ l) ∧ v.den env' η2 = v.den env' η' := by
  obtain ⟨l, rfl⟩ := he
  obtain ⟨y, rfl⟩ := hη
  have ht : ∀ (z : List Nat) (i : Nat) v, st.tmps[i]? = some v → v = junkV ∨ a.tmps[i]? = some (v.den (env ++ l) (η ++ z)) := by
    intro z i v hv
    rcases hr.ht i v hv with h | h
    · exact .inl h
    · right
      rw [SV.den_ext (by rw [hr.hn]; exact List.all_eq_true.1 hbnd _ (List.mem_of_getElem? hv)) (by rw [hr.he]; exact List.all_eq_true.1 hpb _ (List.mem_of_getElem? hv))]
      exact h
  unfold backSt
  split
  · rename_i hc
    simp only [Bool.and_eq_true] at hc
    have ek : (η ++ y).take st.blks.length = η := by rw [← hr.he, List.take_left]
    have hle : st.blks.length ≤ st'.blks.length := by rw [← hr.he, ← hr'.he]; simp
    refine ⟨η, ?_, ⟨[], by simp⟩, ?_⟩
    · have hbk' : Books w0 (env ++ l) η a.defers w' := ⟨hbk.md, hbk.kp, fun p hp => by
        obtain ⟨q1, q2, q3⟩ := hr.hd.ys p hp
        exact ⟨by rw [SV.den_bnd q2]; exact q1, SV.bnd_mono q2 (by simp), q3⟩⟩
      refine ⟨hr'.hn, hr.hs, fun i v hv => ?_, hbk', by simp only [List.length_take]; rw [hr.he]; omega, (List.nodup_append.1 hr'.hnd).1, ?_, fun g hg => by rw [← hw]; exact hr'.hge g (List.mem_append_left _ hg), by rw [← hw]; exact hr'.hB, fun ad v h => ⟨(hr'.hm ad v h).1, fun h2 => (hr'.hm ad v h).2 (List.mem_append_left _ h2)⟩, by rw [← hw, ← hm]; exact hr'.hm0, hr'.hg, by rw [← hw]; exact hr'.ho, hr'.hod, fun o ho g hg => ⟨fun h2 => (hr'.hom o ho g hg).1 (List.mem_append_left _ h2), (hr'.hom o ho g hg).2⟩, hr'.hk⟩
      · have := ht [] i v hv
        rwa [List.append_nil] at this
      · intro i bl hi
        have hi2 : i < st.blks.length := by
          have := (List.getElem?_eq_some_iff.1 hi).1
          simp only [List.length_take] at this
          omega
        simp only [List.getElem?_take_of_lt hi2] at hi
        have h1 := hr'.hb i bl hi
        rw [getD_append_lt (by rw [hr.he]; exact hi2)] at h1
        have h2 : bl.cells.all (S.pb st.blks.length) = true := List.all_eq_true.1 hc.2 bl (by
          have h3 : (st'.blks.take st.blks.length)[i]? = some bl := by rw [List.getElem?_take_of_lt hi2]; exact hi
          exact List.mem_of_getElem? h3)
        have h4 := Blk.obj_take (env := env ++ l) (η := η ++ y) h2
        rw [ek] at h4
        rw [h1, h4]
    · have := SV.den_take2 (env := env ++ l) (η := η ++ y) hc.1
      rwa [ek] at this
  · refine ⟨η ++ y, ?_, ⟨y, rfl⟩, rfl⟩
    exact ⟨hr'.hn, hr.hs, ht y, hbk, hr'.he, hr'.hnd, hr'.hb, by rw [← hw]; exact hr'.hge, by rw [← hw]; exact hr'.hB, hr'.hm, by rw [← hw, ← hm]; exact hr'.hm0, hr'.hg, by rw [← hw]; exact hr'.ho, hr'.hod, hr'.hom, hr'.hk⟩
theorem ccOf_sound {st' : St} {env' : List Atom} {η' : List Nat} {m' : Addr → Option Value} {a1 : Act} {w' : World} {w1 : Base} (hr' : Rel w1 st' env' η' m' a1 w') {v : S} {b : Nat} {c : Cc} (h : ccOf v st' b = some c) :
    b < st'.blks.length ∧ w'.cell? ⟨η'.getD b 0, 0, none⟩ = some (c.val (v.den env' η')) := by
  unfold ccOf at h
  split at h
  case h_2 => cases h
  rename_i bl hbl
  split at h
  case isFalse => cases h
  rename_i hmp
  have hmp : bl.mp = none := by simpa using hmp
  split at h
  case h_2 => cases h
  rename_i s hcells
  have h0 := hr'.hb b bl hbl
  simp only [Blk.obj, hmp, hcells] at h0
  have hc : w'.cell? ⟨η'.getD b 0, 0, none⟩ = some (s.den env' η') := by
    have := cells_cell (l := [s]) h0 0
    simpa using this
  refine ⟨(List.getElem?_eq_some_iff.1 hbl).1, ?_⟩
  rw [hc]
  split at h
  · rename_i he
    injection h with h
    subst h
    rw [S.eq_of he]; rfl
  · split at h
    · injection h with h; subst h; rfl
    · injection h with h; subst h; simp [S.den, Cc.val]
    · cases h
/-- A function value whose boxes hold so much is handed back as an atom. -/
theorem pack_rel {w1 : Base} {st st' : St} {env env' : List Atom} {η η' : List Nat} {m m' : Addr → Option Value} {a a1 : Act} {w' : World} (hr : Rel w0 st env η m a w) (hr' : Rel w1 st' env' η' m' a1 w') (hw : w1.w = w0.w) (hm : w1.m = w0.m) (hbk : Books w0 env' η' a.defers w')
    (hbnd : st.tmps.all (SV.bnd st.n) = true) (hpb : st.tmps.all (SV.pb st.blks.length) = true) (he : ∃ l, env' = env ++ l) (hη : ∃ l, η' = η ++ l) {g : FuncId} {caps : List Nat} {cl : List Cc} (hcl : allSome (caps.map (ccOf (.fn g caps) st')) = some cl)
    (hnew : caps.all (fun b => st.blks.length ≤ b) = true) (hblk : (st'.blks.take st.blks.length).all (fun b => b.cells.all (S.pb st.blks.length)) = true) (hb' : st'.bnd = true) :
    ∃ x m2, x.1 = (S.fn g caps).den env' η' ∧ x.1.oneCell' = true ∧ cloB (some g) cl x = true ∧
      Rel w0 { st' with n := st'.n + 1, tmps := st.tmps, blks := st'.blks.take st.blks.length, known := (.clo (some g) cl (.at st'.n), true) :: st'.known } (env' ++ [x]) η m2 a w' := by
  obtain ⟨l, rfl⟩ := he
  obtain ⟨y, rfl⟩ := hη
  obtain ⟨hcl1, hcl2⟩ := allSome_map hcl
  simp only [St.bnd, Bool.and_eq_true] at hb'
  obtain ⟨⟨⟨⟨_, hb2⟩, hb3⟩, hb4⟩, hb5⟩ := hb'
  rw [← hr'.hn] at hb2 hb3 hb4 hb5
  have hlen : η.length = st.blks.length := hr.he
  let bs : List Nat := caps.map fun b => (η ++ y).getD b 0
  let x : Atom := (.func (.func g) #[] (boxP bs), .clo cl)
  have hxv : (S.fn g caps).den (env ++ l) (η ++ y) = x.1 := by
    simp only [S.den, x, boxP, bs, List.map_map]; rfl
  have hbox : ∀ b ∈ caps, ∃ c, ccOf (.fn g caps) st' b = some c ∧ st.blks.length ≤ b := by
    intro b hb
    obtain ⟨i, hi⟩ := List.getElem?_of_mem hb
    obtain ⟨c, hc, _⟩ := hcl2 i b hi
    exact ⟨c, hc, by simpa using List.all_eq_true.1 hnew b hb⟩
  have hboxη : ∀ b ∈ caps, (η ++ y).getD b 0 ∈ η ++ y ∧ (η ++ y).getD b 0 ∉ η := by
    intro b hb
    obtain ⟨c, hc, hge⟩ := hbox b hb
    have hlt := (ccOf_sound hr' hc).1
    rw [← hr'.he] at hlt
    have e1 : (η ++ y).getD b 0 = (η ++ y)[b] := by rw [List.getD_eq_getElem?_getD, List.getElem?_eq_getElem hlt]; rfl
    rw [e1]
    refine ⟨List.getElem_mem hlt, fun hin => ?_⟩
    obtain ⟨i, hi1, hi2⟩ := List.getElem_of_mem hin
    have h3 : (η ++ y)[i]'(by simp; omega) = (η ++ y)[b] := by rw [List.getElem_append_left hi1]; exact hi2
    have := nodup_inj hr'.hnd (by simp; omega) hlt h3
    omega
  let m2 : Addr → Option Value := fun ad => if ad.block ∈ bs ∧ ad = ⟨ad.block, 0, none⟩ then w'.cell? ad else m' ad
  have hbs : ∀ g' ∈ bs, g' ∈ η ++ y ∧ g' ∉ η := by
    intro g' hg'
    obtain ⟨b, hb, rfl⟩ := List.mem_map.1 hg'
    exact hboxη b hb
  have hsub : ∀ ad v, m' ad = some v → m2 ad = some v := by
    intro ad v h
    show (if _ then _ else _) = _
    rw [if_neg]
    · exact h
    · rintro ⟨h1, _⟩
      exact (hr'.hm ad v h).2 (hbs _ h1).1
  have hgoodx : Good m2 x := by
    refine ⟨.clo g bs cl (by simp [bs, hcl1]) ?_, rfl⟩
    intro j b c hb hc
    simp only [bs, List.getElem?_map] at hb
    cases hcap : caps[j]? with
    | none => rw [hcap] at hb; cases hb
    | some b0 =>
      rw [hcap] at hb
      simp only [Option.map_some, Option.some.injEq] at hb
      subst hb
      obtain ⟨c', h1, h2⟩ := hcl2 j b0 hcap
      rw [hc] at h2
      injection h2 with h2
      subst h2
      have := (ccOf_sound hr' h1).2
      rw [hxv] at this
      show (if _ then _ else _) = _
      rw [if_pos ⟨List.mem_map.2 ⟨b0, List.mem_of_getElem? hcap, rfl⟩, rfl⟩]
      exact this
  have ht : ∀ (i : Nat) v, st.tmps[i]? = some v → v = junkV ∨ a.tmps[i]? = some (v.den ((env ++ l) ++ [x]) η) := by
    intro i v hv
    have := hr.slots hbnd hpb (env' := (env ++ l) ++ [x]) (η' := η) ⟨l ++ [x], by simp⟩ ⟨[], by simp⟩ i v hv
    exact this
  have hbk' : Books w0 ((env ++ l) ++ [x]) η a.defers w' := ⟨hbk.md, hbk.kp, fun p hp => by
    obtain ⟨q1, q2, q3⟩ := hr.hd.ys p hp
    rw [List.append_assoc]
    exact ⟨by rw [SV.den_bnd q2]; exact q1, SV.bnd_mono q2 (by simp), q3⟩⟩
  have ek : (η ++ y).take st.blks.length = η := by rw [← hlen, List.take_left]
  have hle : st.blks.length ≤ st'.blks.length := by rw [← hr.he, ← hr'.he]; simp
  have hown : ∀ o ∈ st'.own, o.1 < (env ++ l).length := fun o ho => by simpa using List.all_eq_true.1 hb4 o ho
  refine ⟨x, m2, hxv.symm, rfl, cloB_of g cl _ _, by rw [List.length_append, hr'.hn]; rfl, hr.hs, ht, hbk', by simp only [List.length_take]; rw [hlen]; omega, (List.nodup_append.1 hr'.hnd).1, ?_, fun g hg => by rw [← hw]; exact hr'.hge g (List.mem_append_left _ hg), by rw [← hw]; exact hr'.hB, ?_, ?_, ?_, ?_, ?_, ?_, ?_⟩
  · intro i bl hi
    have hi2 : i < st.blks.length := by
      have := (List.getElem?_eq_some_iff.1 hi).1
      simp only [List.length_take] at this
      omega
    simp only [List.getElem?_take_of_lt hi2] at hi
    have h1 := hr'.hb i bl hi
    rw [getD_append_lt (by rw [hlen]; exact hi2)] at h1
    have h2 : bl.cells.all (S.pb st.blks.length) = true := List.all_eq_true.1 hblk bl (by
      have h3 : (st'.blks.take st.blks.length)[i]? = some bl := by rw [List.getElem?_take_of_lt hi2]; exact hi
      exact List.mem_of_getElem? h3)
    have h4 := Blk.obj_take (env := env ++ l) (η := η ++ y) h2
    rw [ek] at h4
    rw [Blk.obj_bnd (List.all_eq_true.1 hb2 bl (List.mem_of_getElem? hi)), h1, h4]
  · intro ad v h
    change (if _ then _ else _) = _ at h
    split at h
    · rename_i hc
      exact ⟨h, (hbs _ hc.1).2⟩
    · exact ⟨(hr'.hm ad v h).1, fun h2 => (hr'.hm ad v h).2 (List.mem_append_left _ h2)⟩
  · intro ad v h hlt
    change (if _ then _ else _) = _ at h
    split at h
    · rename_i hc
      have := hr'.hge _ (hbs _ hc.1).1
      rw [hw] at this
      omega
    · rw [← hm]; exact hr'.hm0 ad v h (by rw [hw]; exact hlt)
  · intro i z hz
    rw [List.getElem?_append] at hz
    split at hz
    · exact ⟨(hr'.hg i z hz).1.mono hsub, fun h1 h2 => ((hr'.hg i z hz).2 h1 h2).mono hsub⟩
    · have : z = x := by
        cases hq : i - (env ++ l).length with
        | zero => rw [hq] at hz; simp at hz; exact hz.symm
        | succ n => rw [hq] at hz; simp at hz
      subst this
      exact ⟨hgoodx.elt, fun _ _ => hgoodx⟩
  · intro o ho
    obtain ⟨z, hz, h⟩ := hr'.ho o ho
    rw [← hw]
    exact ⟨z, by rw [List.getElem?_append_left (hown o ho)]; exact hz, h.mono hsub⟩
  · refine hr'.hod.imp_of_mem fun {o o'} ho ho' h g' hg' => ?_
    rw [blkOf_app (hown o ho)] at hg'
    rw [blkOf_app (hown o' ho')]
    exact h g' hg'
  · intro o ho g' hg'
    rw [blkOf_app (hown o ho)] at hg'
    obtain ⟨h1, h2⟩ := hr'.hom o ho g' hg'
    refine ⟨fun h => h1 (List.mem_append_left _ h), fun ad v h e => ?_⟩
    change (if _ then _ else _) = _ at h
    split at h
    · rename_i hc
      exact h1 (e ▸ (hbs _ hc.1).1)
    · exact h2 ad v h e
  · intro p hp
    rcases List.mem_cons.1 hp with rfl | hp
    · show cloB (some g) cl ((X.at st'.n).den ((env ++ l) ++ [x])) = true
      have : (X.at st'.n).den ((env ++ l) ++ [x]) = x := by
        rw [← hr'.hn]
        simp [X.den, List.getD_eq_getElem?_getD]
      rw [this]
      exact cloB_of g cl _ _
    · rw [X.den_bnd (List.all_eq_true.1 hb3 p hp)]
      exact hr'.hk p hp
/-- Behind a call within a call. -/
theorem retK_sound {w1 : Base} {st st' : St} {env env' : List Atom} {η η' : List Nat} {m m' : Addr → Option Value} {a a1 : Act} {w' : World} (hr : Rel w0 st env η m a w) (hr' : Rel w1 st' env' η' m' a1 w') (hw : w1.w = w0.w) (hm : w1.m = w0.m) (hbk : Books w0 env' η' a.defers w')
    (hbnd : st.tmps.all (SV.bnd st.n) = true) (hpb : st.tmps.all (SV.pb st.blks.length) = true) (he : ∃ l, env' = env ++ l) (hη : ∃ l, η' = η ++ l) {v : SV} {k : St → SV → T} (h : (retK st st' v k).wp cs Post env' L) {R : Value → Prop}
    (hR : ∀ st2 v2 env2 η2 m2, Rel w0 st2 env2 η2 m2 a w' → (∃ l, env2 = env ++ l) → (∃ l, η2 = η ++ l) → (k st2 v2).wp cs Post env2 L → R (v2.den env2 η2)) : R (v.den env' η') := by
  have back : ∀ v : SV, (k (backSt st st' v) v).wp cs Post env' L → R (v.den env' η') := by
    intro v h
    obtain ⟨η2, q1, q2, q3⟩ := back_rel hr hr' hw hm hbk hbnd hpb he hη v
    rw [← q3]
    exact hR _ _ _ _ _ q1 he q2 h
  unfold retK at h
  split at h
  · rename_i g caps
    split at h
    · rename_i cl hcl
      split at h
      · rename_i hc
        simp only [Bool.and_eq_true] at hc
        obtain ⟨x, m2, hx1, hx2, hx3, hrx⟩ := pack_rel hr hr' hw hm hbk hbnd hpb he hη hcl hc.1.1 hc.1.2 hc.2
        have := hR _ _ _ _ _ hrx (by obtain ⟨l, rfl⟩ := he; exact ⟨l ++ [x], by simp⟩) ⟨[], by simp⟩ (h x hx2 hx3)
        have e1 : (SV.one (.agg [.any (.at st'.n)])).den (env' ++ [x]) η = (SV.one (.agg [.fn g caps])).den env' η' := by
          simp only [SV.den, TV.den, List.map_cons, List.map_nil]
          congr 2
          rw [← hx1]
          simp [S.den, X.den, ← hr'.hn]
        rw [e1] at this
        exact this
      · exact back _ h
    · exact back _ h
  · exact back _ h
theorem inH_bind {inl : List Inl} {inner : Sg} (hH : HB inner.H) (hY : YB inner.Y) (hHY : ∀ y, YB y → HB (inner.HY y)) : HB (inH P inl inner) := by
  intro lv st g caps vs k f
  simp only [inH]
  split
  · rfl
  · rename_i x hx
    split
    · rw [seCode_bind hH hY hHY]
      congr 1
      funext e s
      have hret : ∀ v, (retK st s v k).bind f = retK st s v fun s v => (k s v).bind f := by
        intro v
        unfold retK
        split
        · split
          · split <;> rfl
          · rfl
        · rfl
      cases e with
      | exit j => rfl
      | _ => simp only; split <;> first | rfl | exact hret _
    · rfl
theorem inH_run {inner : Sg} (hT : Table P inner cs w0) (hP : P.follows .mixedOrders = true) {inl : List Inl}
    (hI : ∀ x ∈ inl, P.funcs[x.f]? = some x.fn ∧ (x.fn.name == "runtime.NumGoroutine") = false ∧ x.fn.body = some x.c ∧ ∃ rs, codeOk x.an rs x.c) : HRun P cs w0 (inH P inl inner) := by
  intro Post L st env η m a w g caps vs k hr h
  simp only [inH] at h
  split at h
  · exact h.elim
  rename_i x hx
  obtain ⟨hx1, rfl⟩ := inlOf_mem hx
  obtain ⟨hfn, hname, hbody, rs, hc⟩ := hI x hx1
  split at h
  case isFalse => exact h.elim
  rename_i hb
  simp only [Bool.and_eq_true, beq_iff_eq] at hb
  obtain ⟨⟨⟨⟨⟨hbnd, hpb⟩, hv1⟩, hv2⟩, hcaps⟩, hcapp⟩ := hb
  refine ⟨⟨x.fn, hfn, hname, by rw [hbody]; rfl⟩, fun R hR => ?_⟩
  obtain ⟨ds, hds1, hds3, hds2⟩ := hr.hd.md
  have hpr := Base.marks_pr (w0 := w0) hds2 hr.hd.kp
  refine calls_of_marks (w0 := w0.marks ds) hfn hbody ?_
  have hlen : (vs.map (SV.den env η) ++ caps.map (S.den env η)).length = vs.length + caps.length := by simp
  have hr1 : Rel (w0.marks ds) (inSt x.fn st caps vs) env η m { tmps := (vs.map (SV.den env η) ++ caps.map (S.den env η)).toArray ++ Array.replicate (x.fn.ntmps - (vs.map (SV.den env η) ++ caps.map (S.den env η)).toArray.size) Go.undef, defers := [] } w := by
    refine hr.frame (w0' := w0.marks ds) rfl rfl ?_ ?_ (hr.hd.enter hds2)
    · simp; omega
    · intro i v hv
      right
      have e : ((vs.map (SV.den env η) ++ caps.map (S.den env η)) ++ List.replicate (x.fn.ntmps - (vs.length + caps.length)) Go.undef)[i]? = some (v.den env η) := by
        have hv' : (inSt x.fn st caps vs).tmps.map (SV.den env η) = (vs.map (SV.den env η) ++ caps.map (S.den env η)) ++ List.replicate (x.fn.ntmps - (vs.length + caps.length)) Go.undef := by
          simp [inSt, SV.den, TV.den, S.den, undefV]
        have hv2 : (inSt x.fn st caps vs).tmps[i]? = some v := hv
        rw [← hv', List.getElem?_map, hv2]; rfl
      have e2 : (vs.map (SV.den env η) ++ caps.map (S.den env η)).toArray ++ Array.replicate (x.fn.ntmps - (vs.length + caps.length)) Go.undef = ((vs.map (SV.den env η) ++ caps.map (S.den env η)) ++ List.replicate (x.fn.ntmps - (vs.length + caps.length)) Go.undef).toArray := by
        apply Array.ext'
        simp
      simp only [List.size_toArray, hlen]
      rw [e2, ← e]
      simp
  refine seCode_sound (hT.up (w1 := w0.marks ds) rfl hpr (fun p hp => hp)) hP (rs := rs) x.c 0 L.length _ _ _ _ _ _ _ L _ hc hr1 h rfl ?_
  intro e st' env' η' m' a' w' hr' he hη h'
  simp only [St.bnd, St.pbnd, Bool.and_eq_true] at hbnd hpb
  have fin : (match retSV P x.fn st' with
      | some v => retK st st' v k
      | none => T.bad 61).wp cs Post env' L → ∀ w', Rel (w0.marks ds) st' env' η' m' { a' with defers := [] } w' → ∃ v, (results x.fn a'.tmps).run P w' = .ok v w' ∧ R (.returned v) w' := by
    intro h' w' hr'
    have hbk : Books w0 env' η' a.defers w' := by rw [hds1]; exact hr'.hd.leave hpr hds3
    have hRet : ∀ v : SV, (retK st st' v k).wp cs Post env' L → R (.returned (v.den env' η')) w' := fun v hv =>
      retK_sound hr hr' rfl rfl hbk hbnd.1.1.1.1 hpb.1 he hη hv (R := fun u => R (.returned u) w') fun st2 v2 env2 η2 m2 hr2 he2 hη2 hk2 => hR _ _ _ _ _ _ hr2 he2 hη2 hk2
    unfold retSV at h'
    cases hs : allSome (x.fn.results.toList.map (resTV P st')) with
    | none => rw [hs] at h'; exact h'.elim
    | some ts =>
      have hrun := results_run hr' hs
      rw [hs] at h'
      match ts, h', hrun with
      | [], h', hrun => exact ⟨_, hrun, hRet (.tup []) h'⟩
      | [v], h', hrun => exact ⟨_, hrun, hRet (.one v) h'⟩
      | v :: v' :: r, h', hrun => exact ⟨_, hrun, hRet (.tup (v :: v' :: r)) h'⟩
  cases e with
  | exit id => exact h'.elim
  | normal => exact ⟨st', env', η', m', by simp, by simp, hr', fin h'⟩
  | ret => exact ⟨st', env', η', m', by simp, by simp, hr', fin h'⟩
theorem inH_ok {inner : Sg} (hT : ∀ w0, Table P inner cs w0) (hP : P.follows .mixedOrders = true) {inl : List Inl}
    (hI : ∀ x ∈ inl, P.funcs[x.f]? = some x.fn ∧ (x.fn.name == "runtime.NumGoroutine") = false ∧ x.fn.body = some x.c ∧ ∃ rs, codeOk x.an rs x.c) : HOk P cs (inH P inl inner) :=
  ⟨inH_bind (hT ⟨default, fun _ => none, fun _ => none, []⟩).H.bind (hT ⟨default, fun _ => none, fun _ => none, []⟩).yb (fun y hy => ((hT ⟨default, fun _ => none, fun _ => none, []⟩).hy y hy).1), fun w0 => inH_run (hT w0) hP hI⟩
theorem inHY_ok {inner : Sg} (hT : ∀ w0, Table P inner cs w0) (hP : P.follows .mixedOrders = true) {inl : List Inl}
    (hI : ∀ x ∈ inl, P.funcs[x.f]? = some x.fn ∧ (x.fn.name == "runtime.NumGoroutine") = false ∧ x.fn.body = some x.c ∧ ∃ rs, codeOk x.an rs x.c) : HYOk P cs (fun y => inH P inl { inner with Y := y }) := by
  intro y hy
  have h0 := hT ⟨default, fun _ => none, fun _ => none, []⟩
  exact ⟨inH_bind (inner := { inner with Y := y }) h0.H.bind hy (fun y' hy' => (h0.hy y' hy').1), fun w0 hyr => inH_run (inner := { inner with Y := y }) ⟨(hT w0).con, (hT w0).H, hy, hyr, (hT w0).hy⟩ hP hI⟩
end
end Go.Proofs.YtamjocnlhhhijaaV

namespace Go.Proofs.YtamjocnlhhhijaaV
open Go Go.RowKit Go.Proofs.YtamjocnlhhhijaaW.PrintLast

def storesB (ds : List Nat) (ops : Array Oper) : Bool := (List.range ops.size).all fun i => match ops[i]? with
  | some o => !isStore o.op || ds.contains i
  | none => true
def codeOkB (an : Ann) (rs : List (Nat × RegT)) : Code → Bool
  | .region id ops dr => !dr || match planOf id an.plans with
    | none => true
    | some p => match regOf id rs with
      | some R => rtab .any ops == R.T && waitsOk R.T.2 R.B && storesB R.ds ops && planOkR R ops.size (List.replicate ops.size false) p
      | none => false
  | .seq a b => codeOkB an rs a && codeOkB an rs b
  | .cond _ a b => codeOkB an rs a && codeOkB an rs b
  | .block _ c | .loop c | .scope c => codeOkB an rs c
  | _ => true
theorem codeOk_of {an : Ann} {rs : List (Nat × RegT)} {c : Code} (h : codeOkB an rs c = true) : codeOk an rs c := by
  induction c with
  | region id ops dr =>
    rintro rfl p hp
    simp only [codeOkB, Bool.not_true, Bool.false_or, hp] at h
    split at h
    · rename_i R _
      simp only [Bool.and_eq_true, beq_iff_eq] at h
      obtain ⟨⟨⟨h1, h2⟩, h3⟩, h4⟩ := h
      refine ⟨R, ⟨h1, h2, fun i o hi ho => ?_⟩, h4⟩
      have h5 := List.all_eq_true.1 h3 i (List.mem_range.2 (Array.getElem?_eq_some_iff.1 hi).1)
      simp only [hi, ho, Bool.not_true, Bool.false_or] at h5
      simpa using h5
    · cases h
  | seq a b iha ihb => simp only [codeOkB, Bool.and_eq_true] at h; exact ⟨iha h.1, ihb h.2⟩
  | cond c a b iha ihb => simp only [codeOkB, Bool.and_eq_true] at h; exact ⟨iha h.1, ihb h.2⟩
  | block id c ih => exact ih h
  | loop c ih => exact ih h
  | scope c ih => exact ih h
  | _ => trivial
def pl (l : List (Nat × Nat)) (e : Plan) : Plan := l.foldr (fun p r => .step p.1 p.2 r) e
def holdsAll (P : Program) : List (Sig × Con) → Prop
  | [] => True
  | c :: l => holds P c ∧ holdsAll P l
def sig0 : Sig := ⟨0, [], false, [], [], []⟩
def con0 : Con := ⟨fun _ => False, fun _ _ => False⟩
def tab (l : List (Sig × Con)) (i : Nat) : Sig × Con := l.getD i (sig0, con0)
theorem table_of {P : Program} {H : Nat → Hnd} {HY : Yh → Nat → Hnd} {gh : List (FuncId × List S)} {cl : List (FuncId × List Cc)} {w0 : Base} : ∀ {l : List (Sig × Con)}, holdsAll P l → HOk P (tab l) H → HYOk P (tab l) HY → Table P ⟨l.map (·.1), H, gh, cl, noY, HY⟩ (tab l) w0 := by
  intro l h hH hHY
  refine ⟨fun i sg hi => ?_, hH, trivial, trivial, hHY⟩
  simp only [List.getElem?_map] at hi
  cases hx : l[i]? with
  | none => rw [hx] at hi; cases hi
  | some c =>
    rw [hx] at hi
    simp only [Option.map_some, Option.some.injEq] at hi
    have e : tab l i = c := by simp [tab, List.getD_eq_getElem?_getD, hx]
    rw [e]
    refine ⟨hi, ?_⟩
    have key : ∀ {l : List (Sig × Con)}, holdsAll P l → ∀ c ∈ l, holds P c := by
      intro l
      induction l with
      | nil => intro _ c hc; simp at hc
      | cons d l ih =>
        intro h c hc
        rcases List.mem_cons.1 hc with rfl | hc
        · exact h.1
        · exact ih h.2 c hc
    exact key h c (List.mem_of_getElem? hx)
/-- A contract over data of one's own. -/
def mkCon {α : Type} (enc : α → List Atom) (pre : α → Prop) (post : α → List Atom → Prop) : Con :=
  ⟨fun args => ∃ x, args = enc x ∧ pre x, fun args outs => ∀ x, args = enc x → pre x → post x outs⟩
/-- Calls within a call, so many deep. -/
def sgN (P : Program) (l : List Sig) (inl : List Inl) (gh : List (FuncId × List S)) (cl : List (FuncId × List Cc)) : Nat → Sg
  | 0 => ⟨l, noH, gh, cl, noY, noHY⟩
  | n + 1 => ⟨l, inH P inl (sgN P l inl gh cl n), gh, cl, noY, fun y => inH P inl { sgN P l inl gh cl n with Y := y }⟩
def sgOf (P : Program) (l : List Sig) (inl : List Inl) (gh : List (FuncId × List S) := []) (cl : List (FuncId × List Cc) := []) (dp : Nat := 4) : Sg := sgN P l inl gh cl dp
def InlAll (P : Program) : List (Inl × List (Nat × RegT)) → Prop
  | [] => True
  | x :: r => (P.funcs[x.1.f]? = some x.1.fn ∧ (x.1.fn.name == "runtime.NumGoroutine") = false ∧ x.1.fn.body = some x.1.c ∧ codeOkB x.1.an x.2 x.1.c = true) ∧ InlAll P r
theorem inlAll_mem {P : Program} : ∀ {inl : List (Inl × List (Nat × RegT))}, InlAll P inl → ∀ x ∈ inl.map (·.1), P.funcs[x.f]? = some x.fn ∧ (x.fn.name == "runtime.NumGoroutine") = false ∧ x.fn.body = some x.c ∧ ∃ rs, codeOk x.an rs x.c
  | [], _, x, hx => by simp at hx
  | y :: r, h, x, hx => by
    simp only [List.map_cons, List.mem_cons] at hx
    rcases hx with rfl | hx
    · exact ⟨h.1.1, h.1.2.1, h.1.2.2.1, _, codeOk_of h.1.2.2.2⟩
    · exact inlAll_mem h.2 x hx
theorem sgN_ok {P : Program} {l : List (Sig × Con)} (hl : holdsAll P l) (hP : P.follows .mixedOrders = true) {inl : List (Inl × List (Nat × RegT))} (hI : InlAll P inl) (gh : List (FuncId × List S)) (cl : List (FuncId × List Cc)) :
    ∀ (n : Nat) (w0 : Base), Table P (sgN P (l.map (·.1)) (inl.map (·.1)) gh cl n) (tab l) w0
  | 0, w0 => table_of hl noH_ok noHY_ok
  | n + 1, w0 => table_of hl (inH_ok (sgN_ok hl hP hI gh cl n) hP (inlAll_mem hI)) (inHY_ok (sgN_ok hl hP hI gh cl n) hP (inlAll_mem hI))
/-- No elements at no address. -/
def NilOk (x : Atom) : Prop := ∀ n c z l, x = (.slice none n c, .rows z l) → l = []
theorem Good.nilOk {m : Addr → Option Value} {x : Atom} (h : Good m x) : NilOk x := by
  rintro n c z l rfl
  have h1 := h.1
  cases h1
  rfl
/-- With function values of these kinds, and so many calls within one another. -/
theorem fn_holdsC {P : Program} {l : List (Sig × Con)} (hl : holdsAll P l) {inl : List (Inl × List (Nat × RegT))} (hI : InlAll P inl) (hP : P.follows .mixedOrders = true) (gh : List (FuncId × List S)) (cl : List (FuncId × List Cc)) (dp : Nat) {an : Ann} (rs : List (Nat × RegT)) {fn : Func} {c : Code} {sg : Sig} {pk : List RK}
    {α : Type} {enc : α → List Atom} {pre : α → Prop} {post : α → List Atom → Prop} (hinj : ∀ x y, enc x = enc y → x = y)
    (hfn : P.funcs[sg.f]? = some fn) (hname : (fn.name == "runtime.NumGoroutine") = false) (hbody : fn.body = some c) (hc : codeOkB an rs c = true) (hlen : (shapeS sg.ash (atomsFrom 0 pk)).length = sg.ash.length)
    {t : T} (ht : seFn P (sgOf P (l.map (·.1)) (inl.map (·.1)) gh cl dp) an fn sg pk = t) (h : ∀ x, (∀ y ∈ enc x, NilOk y) → pre x → KindsOk pk (enc x) ∧ t.wp (tab l) (post x) (enc x) []) : holds P (sg, mkCon enc pre post) := by
  refine seFn_sound (sgN_ok hl hP hI gh cl dp) hP hfn hname hbody (codeOk_of hc) hlen (pk := pk) ?_
  rintro args hg ⟨x, rfl, hx⟩
  obtain ⟨h1, h2⟩ := h x (fun y hy => (hg y hy).elim fun m h => h.nilOk) hx
  refine ⟨h1, ?_⟩
  have ht2 : seFn P (sgN P (l.map (·.1)) (inl.map (·.1)) gh cl dp) an fn sg pk = t := ht
  rw [ht2]
  have e : (fun outs => ∀ y, enc x = enc y → pre y → post y outs) = post x := by
    funext outs
    refine propext ⟨fun h => h x rfl hx, fun h y hy _ => ?_⟩
    obtain rfl := hinj _ _ hy
    exact h
  show t.wp (tab l) (fun outs => ∀ y, enc x = enc y → pre y → post y outs) (enc x) []
  rw [e]
  exact h2
/-- The same, with things handed on beside the arguments. -/
theorem fn_holdsH {P : Program} {l : List (Sig × Con)} (hl : holdsAll P l) {inl : List (Inl × List (Nat × RegT))} (hI : InlAll P inl) (hP : P.follows .mixedOrders = true) (gh : List (FuncId × List S)) {an : Ann} (rs : List (Nat × RegT)) {fn : Func} {c : Code} {sg : Sig} {pk : List RK}
    {α : Type} {enc : α → List Atom} {pre : α → Prop} {post : α → List Atom → Prop} (hinj : ∀ x y, enc x = enc y → x = y)
    (hfn : P.funcs[sg.f]? = some fn) (hname : (fn.name == "runtime.NumGoroutine") = false) (hbody : fn.body = some c) (hc : codeOkB an rs c = true) (hlen : (shapeS sg.ash (atomsFrom 0 pk)).length = sg.ash.length)
    {t : T} (ht : seFn P (sgOf P (l.map (·.1)) (inl.map (·.1)) gh) an fn sg pk = t) (h : ∀ x, (∀ y ∈ enc x, NilOk y) → pre x → KindsOk pk (enc x) ∧ t.wp (tab l) (post x) (enc x) []) : holds P (sg, mkCon enc pre post) :=
  fn_holdsC hl hI hP gh [] 4 rs hinj hfn hname hbody hc hlen ht h
theorem fn_holdsG {P : Program} {l : List (Sig × Con)} (hl : holdsAll P l) {inl : List (Inl × List (Nat × RegT))} (hI : InlAll P inl) (hP : P.follows .mixedOrders = true) {an : Ann} (rs : List (Nat × RegT)) {fn : Func} {c : Code} {sg : Sig} {pk : List RK}
    {α : Type} {enc : α → List Atom} {pre : α → Prop} {post : α → List Atom → Prop} (hinj : ∀ x y, enc x = enc y → x = y)
    (hfn : P.funcs[sg.f]? = some fn) (hname : (fn.name == "runtime.NumGoroutine") = false) (hbody : fn.body = some c) (hc : codeOkB an rs c = true) (hlen : (shapeS sg.ash (atomsFrom 0 pk)).length = sg.ash.length)
    {t : T} (ht : seFn P (sgOf P (l.map (·.1)) (inl.map (·.1))) an fn sg pk = t) (h : ∀ x, (∀ y ∈ enc x, NilOk y) → pre x → KindsOk pk (enc x) ∧ t.wp (tab l) (post x) (enc x) []) : holds P (sg, mkCon enc pre post) :=
  fn_holdsH hl hI hP [] rs hinj hfn hname hbody hc hlen ht h
theorem fn_holdsI {P : Program} {l : List (Sig × Con)} (hl : holdsAll P l) {inl : List (Inl × List (Nat × RegT))} (hI : InlAll P inl) (hP : P.follows .mixedOrders = true) {an : Ann} (rs : List (Nat × RegT)) {fn : Func} {c : Code} {sg : Sig} {pk : List RK}
    {α : Type} {enc : α → List Atom} {pre : α → Prop} {post : α → List Atom → Prop} (hinj : ∀ x y, enc x = enc y → x = y)
    (hfn : P.funcs[sg.f]? = some fn) (hname : (fn.name == "runtime.NumGoroutine") = false) (hbody : fn.body = some c) (hc : codeOkB an rs c = true) (hlen : (shapeS sg.ash (atomsFrom 0 pk)).length = sg.ash.length)
    {t : T} (ht : seFn P (sgOf P (l.map (·.1)) (inl.map (·.1))) an fn sg pk = t) (h : ∀ x, pre x → KindsOk pk (enc x) ∧ t.wp (tab l) (post x) (enc x) []) : holds P (sg, mkCon enc pre post) :=
  fn_holdsG hl hI hP rs hinj hfn hname hbody hc hlen ht fun x _ => h x
theorem fn_holds {P : Program} {l : List (Sig × Con)} (hl : holdsAll P l) (hP : P.follows .mixedOrders = true) {an : Ann} (rs : List (Nat × RegT)) {fn : Func} {c : Code} {sg : Sig} {pk : List RK}
    {α : Type} {enc : α → List Atom} {pre : α → Prop} {post : α → List Atom → Prop} (hinj : ∀ x y, enc x = enc y → x = y)
    (hfn : P.funcs[sg.f]? = some fn) (hname : (fn.name == "runtime.NumGoroutine") = false) (hbody : fn.body = some c) (hc : codeOkB an rs c = true) (hlen : (shapeS sg.ash (atomsFrom 0 pk)).length = sg.ash.length)
    {t : T} (ht : seFn P (sgOf P (l.map (·.1)) []) an fn sg pk = t) (h : ∀ x, pre x → KindsOk pk (enc x) ∧ t.wp (tab l) (post x) (enc x) []) : holds P (sg, mkCon enc pre post) :=
  fn_holdsI hl (inl := []) trivial hP rs hinj hfn hname hbody hc hlen ht h
/-- A contract that tells the result outright. -/
def mkFun {α : Type} (enc : α → List Atom) (pre : α → Prop) (f : α → List Atom) : Con := mkCon enc pre (fun x outs => outs = f x)
section
variable {cs : Nat → Sig × Con} {Post : List Atom → Prop} {env : List Atom} {L : List (List Atom → Prop)} {α : Type} {enc : α → List Atom} {pre : α → Prop}
theorem call_fun {i : Nat} {args : List S} {t : T} {f : α → List Atom} (x : α) (hcs : (cs i).2 = mkFun enc pre f) (ha : args.map (S.atom env) = enc x) (hp : pre x) (h : t.wp cs Post (env ++ f x) L) : (T.call i args t).wp cs Post env L := by
  refine ⟨by rw [hcs]; exact ⟨x, ha, hp⟩, fun outs _ ho => ?_⟩
  rw [hcs] at ho
  obtain rfl := ho x ha hp
  exact h
theorem call_con {i : Nat} {args : List S} {t : T} {post : α → List Atom → Prop} (x : α) (hcs : (cs i).2 = mkCon enc pre post) (ha : args.map (S.atom env) = enc x) (hp : pre x) (h : ∀ outs, KindsOk (cs i).1.res outs → post x outs → t.wp cs Post (env ++ outs) L) : (T.call i args t).wp cs Post env L := by
  refine ⟨by rw [hcs]; exact ⟨x, ha, hp⟩, fun outs hk ho => ?_⟩
  rw [hcs] at ho
  exact h outs hk (ho x ha hp)
theorem clo_wp {f : Option FuncId} {cl : List Cc} {t : T} (h : ∀ x : Atom, x.1.oneCell' = true → cloB f cl x = true → t.wp cs Post (env ++ [x]) L) : (T.clo f cl t).wp cs Post env L := h
theorem br_wp {x : X} {t f : T} (ht : vb (x.den env).1 = true → t.wp cs Post env L) (hf : vb (x.den env).1 = false → f.wp cs Post env L) : (T.br x t f).wp cs Post env L := ⟨ht, hf⟩
theorem need_wp {d : Nd} {t : T} (hd : d.ok env) (ht : t.wp cs Post env L) : (T.need d t).wp cs Post env L := ⟨hd, ht⟩
theorem ret_wp {l : List S} (h : Post (l.map (S.atom env))) : (T.ret l).wp cs Post env L := h
theorem loop_wp {ks : List RK} {init : List S} {body : T} (I : List Atom → Prop) (μ : List Atom → Nat) (h0 : I (init.map (S.atom env)))
    (h : ∀ as, KindsOk ks as → I as → body.wp cs Post (env ++ as) (L ++ [fun bs => I bs ∧ μ bs < μ as])) : (T.loop ks init body).wp cs Post env L := ⟨I, μ, h0, h⟩
end
/-! Letters for atoms. -/
@[reducible] def aI (n : Int) : Atom := (.int .i64 n, .leaf)
@[reducible] def aB (b : Bool) : Atom := (.bool b, .leaf)
@[reducible] def aK (k : IntKind) (n : Int) : Atom := (.int k n, .leaf)
@[reducible] def aS (s : ByteArray) : Atom := (.string s, .leaf)
end Go.Proofs.YtamjocnlhhhijaaV

namespace Go.Proofs.YtamjocnlhhhijaaV
open Go

structure Sl where
  a : Option Addr
  n : Nat
  c : Nat
  d : D
def Sl.atom (s : Sl) : Atom := (.slice s.a s.n s.c, s.d)
def Sl.nil : Sl := ⟨none, 0, 0, .rows 0 []⟩
structure Pol where
  k : Int
  l : Int
  p : Int
  b : Int
  c : Int
  o : Bool
def Pol.enc (x : Pol) : List Atom := [aI x.k, aI x.l, aI x.p, aI x.b, aI x.c, aB x.o]
structure Stt where
  t : Int
  v : Int
  h : Int
  g : Sl
def Stt.enc (x : Stt) : List Atom := [aI x.t, aI x.v, aI x.h, x.g.atom]
def Stt.zero : Stt := ⟨0, 0, 0, Sl.nil⟩
structure Ac where
  k : Int
  t : Int
  c : Int
def Ac.enc (x : Ac) : List Atom := [aI x.k, aI x.t, aI x.c]
theorem Pol.inj {x y : Pol} (h : x.enc = y.enc) : x = y := by
  cases x; cases y
  simp only [Pol.enc, aI, aB, List.cons.injEq, Prod.mk.injEq, Value.int.injEq, Value.bool.injEq, true_and, and_true] at h
  obtain ⟨rfl, rfl, rfl, rfl, rfl, rfl⟩ := h; rfl
theorem Sl.inj {x y : Sl} (h : x.atom = y.atom) : x = y := by
  cases x; cases y
  simp only [Sl.atom, Prod.mk.injEq, Value.slice.injEq] at h
  obtain ⟨⟨rfl, rfl, rfl⟩, rfl⟩ := h; rfl
theorem Stt.inj {x y : Stt} (h : x.enc = y.enc) : x = y := by
  cases x; cases y
  simp only [Stt.enc, aI, List.cons.injEq, Prod.mk.injEq, Value.int.injEq, true_and, and_true] at h
  obtain ⟨rfl, rfl, rfl, h⟩ := h
  rw [Sl.inj h]
theorem Ac.inj {x y : Ac} (h : x.enc = y.enc) : x = y := by
  cases x; cases y
  simp only [Ac.enc, aI, List.cons.injEq, Prod.mk.injEq, Value.int.injEq, true_and, and_true] at h
  obtain ⟨rfl, rfl, rfl⟩ := h; rfl
theorem pol_len (x : Pol) : x.enc.length = 6 := rfl
theorem stt_len (x : Stt) : x.enc.length = 4 := rfl
/-- A policy, a state; a state alone; .. as one row of leaves. -/
def encPS (x : Pol × Stt) : List Atom := x.1.enc ++ x.2.enc
def encPSn (x : Pol × Stt × Int) : List Atom := x.1.enc ++ (x.2.1.enc ++ [aI x.2.2])
def encPSnc (x : Pol × Stt × Int × Int) : List Atom := x.1.enc ++ (x.2.1.enc ++ [aI x.2.2.1, aI x.2.2.2])
def encPSA (x : Pol × Stt × Ac) : List Atom := x.1.enc ++ (x.2.1.enc ++ x.2.2.enc)
def encPn (x : Pol × Int) : List Atom := x.1.enc ++ [aI x.2]
def encSS (x : Stt × Stt) : List Atom := x.1.enc ++ x.2.enc
def encI (x : Int) : List Atom := [aI x]
theorem encI_inj (x y : Int) (h : encI x = encI y) : x = y := by simpa [encI] using h
theorem encPS_inj (x y : Pol × Stt) (h : encPS x = encPS y) : x = y := by
  obtain ⟨h1, h2⟩ := List.append_inj h rfl
  exact Prod.ext (Pol.inj h1) (Stt.inj h2)
theorem encPn_inj (x y : Pol × Int) (h : encPn x = encPn y) : x = y := by
  obtain ⟨h1, h2⟩ := List.append_inj h rfl
  exact Prod.ext (Pol.inj h1) (by simpa using h2)
theorem encSS_inj (x y : Stt × Stt) (h : encSS x = encSS y) : x = y := by
  obtain ⟨h1, h2⟩ := List.append_inj h rfl
  exact Prod.ext (Stt.inj h1) (Stt.inj h2)
theorem encPSn_inj (x y : Pol × Stt × Int) (h : encPSn x = encPSn y) : x = y := by
  obtain ⟨h1, h2⟩ := List.append_inj h rfl
  obtain ⟨h2, h3⟩ := List.append_inj h2 rfl
  exact Prod.ext (Pol.inj h1) (Prod.ext (Stt.inj h2) (by simpa using h3))
theorem encPSnc_inj (x y : Pol × Stt × Int × Int) (h : encPSnc x = encPSnc y) : x = y := by
  obtain ⟨h1, h2⟩ := List.append_inj h rfl
  obtain ⟨h2, h3⟩ := List.append_inj h2 rfl
  exact Prod.ext (Pol.inj h1) (Prod.ext (Stt.inj h2) (by simp at h3; exact Prod.ext h3.1 h3.2))
theorem encPSA_inj (x y : Pol × Stt × Ac) (h : encPSA x = encPSA y) : x = y := by
  obtain ⟨h1, h2⟩ := List.append_inj h rfl
  obtain ⟨h2, h3⟩ := List.append_inj h2 rfl
  exact Prod.ext (Pol.inj h1) (Prod.ext (Stt.inj h2) (Ac.inj h3))
theorem Pol.eta (p : Pol) : (⟨p.k, p.l, p.p, p.b, p.c, p.o⟩ : Pol) = p := rfl
theorem Sl.eta (s : Sl) : (⟨s.a, s.n, s.c, s.d⟩ : Sl) = s := rfl
theorem Stt.eta (s : Stt) : (⟨s.t, s.v, s.h, s.g⟩ : Stt) = s := rfl
theorem Ac.eta (s : Ac) : (⟨s.k, s.t, s.c⟩ : Ac) = s := rfl
theorem Sl.nil_eq : (⟨none, 0, 0, .rows 0 []⟩ : Sl) = Sl.nil := rfl
def code (fn : Func) : Code := fn.body.getD .skip
theorem wrap64_in {n : Int} (h : -9223372036854775808 ≤ n) (h2 : n ≤ 9223372036854775807) : IntKind.i64.wrap n = n := by
  rw [IntKind.wrap_i64]; omega
/-- Quotients and rests, of what is not below nothing: as letters of their own. -/
def dv (a p : Int) : Int := a / p
def md (a p : Int) : Int := a % p
theorem wrap_id (n : Int) (h : -9223372036854775808 ≤ n) (h2 : n ≤ 9223372036854775807) : IntKind.i64.wrap n = n := by rw [IntKind.wrap_i64]; omega
theorem dv_ok (a p : Int) (h : 0 ≤ a) (hp : 1 ≤ p) : 0 ≤ dv a p ∧ dv a p ≤ a := ⟨Int.ediv_nonneg h (by omega), Int.ediv_le_self p h⟩
def dv2 (a p : Int) : Int := a / p
def md2 (a p : Int) : Int := a % p
theorem dv_eq (a p : Int) (h : 0 ≤ a) (hp : 1 ≤ p) : dv a p = dv2 a p ∧ 0 ≤ dv2 a p ∧ dv2 a p ≤ a := ⟨rfl, dv_ok a p h hp⟩
theorem quo_id (a p : Int) (h : 0 ≤ a) (h2 : a ≤ 9223372036854775807) (hp : 1 ≤ p) : quoD .i64 a p = dv a p := by
  have := dv_ok a p h hp
  unfold quoD
  rw [Int.tdiv_eq_ediv_of_nonneg h]
  exact wrap_id _ (by unfold dv at this; omega) (by unfold dv at this; omega)
theorem rem_id (a p : Int) (h : 0 ≤ a) : remD a p = md a p := Int.tmod_eq_emod_of_nonneg h
theorem md_ok (a p : Int) (h : 0 ≤ a) (hp : 1 ≤ p) : 0 ≤ md a p ∧ md a p < p ∧ md a p ≤ a := by
  unfold md
  refine ⟨Int.emod_nonneg a (by omega), Int.emod_lt_of_pos a (by omega), ?_⟩
  have := Int.emod_add_mul_ediv a p
  have h2 : 0 ≤ p * (a / p) := Int.mul_nonneg (by omega) (Int.ediv_nonneg h (by omega))
  omega
theorem md_eq (a p : Int) (h : 0 ≤ a) (hp : 1 ≤ p) : md a p = md2 a p ∧ 0 ≤ md2 a p ∧ md2 a p < p ∧ md2 a p ≤ a := ⟨rfl, md_ok a p h hp⟩
theorem begin_iff (n s p : Int) (h0 : 0 ≤ s) (h : s ≤ n) (hp : 1 ≤ p) : n - md n p ≤ s ↔ dv n p = dv s p := by
  unfold md dv
  have h1 := Int.emod_add_mul_ediv n p
  have h2 := Int.emod_add_mul_ediv s p
  have h3 := Int.emod_nonneg s (show p ≠ 0 by omega)
  have h4 := Int.emod_lt_of_pos s (show 0 < p by omega)
  have h5 := Int.emod_nonneg n (show p ≠ 0 by omega)
  have h6 := Int.emod_lt_of_pos n (show 0 < p by omega)
  constructor
  · intro hle
    have h7 : s / p ≤ n / p := Int.ediv_le_ediv (by omega) h
    have h8 : n / p ≤ s / p := by
      rw [Int.le_ediv_iff_mul_le (by omega), Int.mul_comm]; omega
    omega
  · intro he
    rw [he] at h1
    omega
end Go.Proofs.YtamjocnlhhhijaaV

namespace Go.Proofs.YtamjocnlhhhijaaV
open Go

instance : Inhabited Ac := ⟨⟨0, 0, 0⟩⟩
structure Rw (α : Type) where
  a : Option Addr
  c : Nat
  z : Nat
  l : List α
def Rw.atom {α : Type} (e : α → List Atom) (r : Rw α) : Atom := (.slice r.a r.l.length r.c, .rows r.z (r.l.map e))
/-- A row's width, where it has a row. -/
def Rw.ok {α : Type} (k : Nat) (r : Rw α) : Prop := r.l = [] ∨ r.z = k
def Rw.nil {α : Type} : Rw α := ⟨none, 0, 0, []⟩
def Rw.get {α : Type} [Inhabited α] (r : Rw α) (i : Int) : α := r.l.getD i.toNat default
structure Est where
  t : Int
  v : Int
  h : Int
  g : Rw (Int × Int)
def eI (n : Int) : List Atom := [aI n]
def eE (p : Int × Int) : List Atom := [aI p.1, aI p.2]
def eS (s : ByteArray) : List Atom := [aS s]
def eB (n : Int) : List Atom := [aK .u8 n]
section
variable {α : Type}
@[simp] theorem va_rw (e : α → List Atom) (r : Rw α) : va (r.atom e).1 = r.a := rfl
theorem isNone_f {β : Type} {a : Option β} : (a.isNone = false) = ¬(a = none) := by cases a <;> simp
theorem isNone_t {β : Type} {a : Option β} : (a.isNone = true) = (a = none) := by cases a <;> simp
@[simp] theorem vn_rw (e : α → List Atom) (r : Rw α) : vn (r.atom e).1 = r.l.length := rfl
theorem rw_kind (e : α → List Atom) (r : Rw α) : Nd.ok [] (.kind .slc (.nil 0)) := ⟨_, _, _, rfl⟩
theorem rw_slc (e : α → List Atom) (r : Rw α) : ∃ a n c, (r.atom e).1 = .slice a n c := ⟨_, _, _, rfl⟩
theorem rw_row (e : α → List Atom) (r : Rw α) : ∃ z l, (r.atom e).2 = .rows z l := ⟨_, _, rfl⟩
theorem rw_sz {e : α → List Atom} {r : Rw α} {k : Nat} (h : r.ok k) (i : Int) (h0 : 0 ≤ i) (h1 : i < r.l.length) : ∃ l, (r.atom e).2 = .rows k l := by
  rcases h with h | h
  · rw [h] at h1; simp at h1; omega
  · exact ⟨r.l.map e, by simp [Rw.atom, h]⟩
theorem rw_sz' {e : α → List Atom} {r : Rw α} {k : Nat} (h : r.z = k) : ∃ l, (r.atom e).2 = .rows k l := ⟨r.l.map e, by simp [Rw.atom, h]⟩
theorem rw_szn {e : α → List Atom} {r : Rw α} {k : Nat} (h : r.ok k) (hn : r.l ≠ [] ∨ 0 < (r.l.length : Int)) : ∃ l, (r.atom e).2 = .rows k l := by
  rcases h with h | h
  · rw [h] at hn; simp at hn
  · exact rw_sz' h
theorem rw_szz {e : α → List Atom} {r : Rw α} {k : Nat} (h : r.ok k) : ∃ z l, (r.atom e).2 = .rows z l ∧ (l = [] ∨ z = k) := ⟨r.z, r.l.map e, rfl, h.imp (fun h => by rw [h]; rfl) id⟩
theorem cell_rw (e : α → List Atom) (r : Rw α) (i : Int) (j : Nat) : cellD (r.atom e) i j = ((r.l[i.toNat]?.map e).getD []).getD j atom0 := by
  simp [cellD, Rw.atom, D.els, List.getD_eq_getElem?_getD]
@[simp] theorem vi_cell_I (r : Rw Int) (i : Int) : vi (cellD (r.atom eI) i 0).1 = r.get i := by
  rw [cell_rw, Rw.get, List.getD_eq_getElem?_getD (l := r.l)]
  cases r.l[i.toNat]? <;> rfl
@[simp] theorem vi_cell_E0 (r : Rw (Int × Int)) (i : Int) : vi (cellD (r.atom eE) i 0).1 = (r.get i).1 := by
  rw [cell_rw, Rw.get, List.getD_eq_getElem?_getD (l := r.l)]
  cases r.l[i.toNat]? <;> rfl
@[simp] theorem vi_cell_E1 (r : Rw (Int × Int)) (i : Int) : vi (cellD (r.atom eE) i 1).1 = (r.get i).2 := by
  rw [cell_rw, Rw.get, List.getD_eq_getElem?_getD (l := r.l)]
  cases r.l[i.toNat]? <;> rfl
theorem get_lt {r : Rw α} [Inhabited α] {i : Int} (h0 : 0 ≤ i) (h : i < r.l.length) : ∃ hl : i.toNat < r.l.length, r.get i = r.l[i.toNat] := by
  have hl : i.toNat < r.l.length := by omega
  exact ⟨hl, by simp [Rw.get, List.getD_eq_getElem?_getD, hl]⟩
theorem kind_Ri {r : Rw Int} {i : Int} (h0 : 0 ≤ i) (h : i < r.l.length) : ∃ n, (cellD (r.atom eI) i 0).1 = .int .i64 n := by
  have hl : i.toNat < r.l.length := by omega
  rw [cell_rw, List.getElem?_eq_getElem hl]; exact ⟨_, rfl⟩
theorem kind_Re0 {r : Rw (Int × Int)} {i : Int} (h0 : 0 ≤ i) (h : i < r.l.length) : ∃ n, (cellD (r.atom eE) i 0).1 = .int .i64 n := by
  have hl : i.toNat < r.l.length := by omega
  rw [cell_rw, List.getElem?_eq_getElem hl]; exact ⟨_, rfl⟩
theorem kind_Re1 {r : Rw (Int × Int)} {i : Int} (h0 : 0 ≤ i) (h : i < r.l.length) : ∃ n, (cellD (r.atom eE) i 1).1 = .int .i64 n := by
  have hl : i.toNat < r.l.length := by omega
  rw [cell_rw, List.getElem?_eq_getElem hl]; exact ⟨_, rfl⟩
@[simp] theorem vi_cell_A0 (r : Rw Ac) (i : Int) : vi (cellD (r.atom Ac.enc) i 0).1 = (r.get i).k := by
  rw [cell_rw, Rw.get, List.getD_eq_getElem?_getD (l := r.l)]
  cases r.l[i.toNat]? <;> rfl
@[simp] theorem vi_cell_A1 (r : Rw Ac) (i : Int) : vi (cellD (r.atom Ac.enc) i 1).1 = (r.get i).t := by
  rw [cell_rw, Rw.get, List.getD_eq_getElem?_getD (l := r.l)]
  cases r.l[i.toNat]? <;> rfl
@[simp] theorem vi_cell_A2 (r : Rw Ac) (i : Int) : vi (cellD (r.atom Ac.enc) i 2).1 = (r.get i).c := by
  rw [cell_rw, Rw.get, List.getD_eq_getElem?_getD (l := r.l)]
  cases r.l[i.toNat]? <;> rfl
theorem kind_Ra0 {r : Rw Ac} {i : Int} (h0 : 0 ≤ i) (h : i < r.l.length) : ∃ n, (cellD (r.atom Ac.enc) i 0).1 = .int .i64 n := by
  have hl : i.toNat < r.l.length := by omega
  rw [cell_rw, List.getElem?_eq_getElem hl]; exact ⟨_, rfl⟩
theorem kind_Ra1 {r : Rw Ac} {i : Int} (h0 : 0 ≤ i) (h : i < r.l.length) : ∃ n, (cellD (r.atom Ac.enc) i 1).1 = .int .i64 n := by
  have hl : i.toNat < r.l.length := by omega
  rw [cell_rw, List.getElem?_eq_getElem hl]; exact ⟨_, rfl⟩
theorem kind_Ra2 {r : Rw Ac} {i : Int} (h0 : 0 ≤ i) (h : i < r.l.length) : ∃ n, (cellD (r.atom Ac.enc) i 2).1 = .int .i64 n := by
  have hl : i.toNat < r.l.length := by omega
  rw [cell_rw, List.getElem?_eq_getElem hl]; exact ⟨_, rfl⟩
/-- Part of it. -/
def Rw.sub (r : Rw α) (z : Nat) (i j : Int) : Rw α := ⟨if r.c = i.toNat then r.a else r.a.map (·.add (i.toNat * z)), r.c - i.toNat, r.z, (r.l.take j.toNat).drop i.toNat⟩
theorem sub_rw {e : α → List Atom} {r : Rw α} {z : Nat} {i j : Int} (h : r.ok z) (h0 : 0 ≤ i) (h1 : i ≤ j) (h2 : j ≤ r.l.length) : subA z (r.atom e) i.toNat j.toNat = (r.sub z i j).atom e := by
  have hl : ((r.l.take j.toNat).drop i.toNat).length = j.toNat - i.toNat := by simp; omega
  have hc : i.toNat ≤ j.toNat ∧ j.toNat ≤ (r.l.map e).length ∧ ((r.l.map e).length = 0 ∨ z = r.z) := ⟨by omega, by simp; omega, by
    rcases h with h | h
    · left; simp [h]
    · right; exact h.symm⟩
  unfold subA Rw.atom Rw.sub
  simp only [va, vc]
  rw [if_pos hc, hl, List.map_drop, List.map_take]
  rfl
theorem ok_sub {r : Rw α} {z : Nat} (h : r.ok z) (i j : Int) : (r.sub z i j).ok z := by
  rcases h with h | h
  · left; simp [Rw.sub, h]
  · right; exact h
/-! ### Out of atoms, back -/
def unI (r : List Atom) : Int := vi (r.getD 0 atom0).1
def unE (r : List Atom) : Int × Int := (vi (r.getD 0 atom0).1, vi (r.getD 1 atom0).1)
def unA (r : List Atom) : Ac := ⟨vi (r.getD 0 atom0).1, vi (r.getD 1 atom0).1, vi (r.getD 2 atom0).1⟩
def unS (r : List Atom) : ByteArray := vs (r.getD 0 atom0).1
def Rw.un (u : List Atom → α) (x : Atom) : Rw α := ⟨va x.1, vc x.1, (match x.2 with | .rows z _ => z | _ => 0), x.2.els.map u⟩
theorem Rw.un_atom {u : List Atom → α} {e : α → List Atom} (h : ∀ x, u (e x) = x) (r : Rw α) : Rw.un u (r.atom e) = r := by
  have : (r.l.map e).map u = r.l := by rw [List.map_map]; conv => rhs; rw [← List.map_id r.l]; 
                                       exact List.map_congr_left fun x _ => h x
  cases r
  simp only [Rw.un, Rw.atom, D.els, va, vc] at this ⊢
  rw [this]
@[simp] theorem unI_atom (r : Rw Int) : Rw.un unI (r.atom eI) = r := Rw.un_atom (fun _ => rfl) r
@[simp] theorem unE_atom (r : Rw (Int × Int)) : Rw.un unE (r.atom eE) = r := Rw.un_atom (fun _ => rfl) r
@[simp] theorem unA_atom (r : Rw Ac) : Rw.un unA (r.atom Ac.enc) = r := Rw.un_atom (fun _ => rfl) r
@[simp] theorem unS_atom (r : Rw ByteArray) : Rw.un unS (r.atom eS) = r := Rw.un_atom (fun _ => rfl) r
@[simp] theorem unB_atom (r : Rw Int) : Rw.un unI (r.atom eB) = r := Rw.un_atom (fun _ => rfl) r
/-! ### The tree's steps -/
variable {cs : Nat → Sig × Con} {Post : List Atom → Prop} {env : List Atom} {L : List (List Atom → Prop)}
theorem new_wp {sz : Nat} {rows : List (List S)} {t : T} (e : α → List Atom) (xs : List α) (hx : rows.map (List.map (S.atom env)) = xs.map e) (h : ∀ a c, t.wp cs Post (env ++ [Rw.atom e ⟨a, c, sz, xs⟩]) L) : (T.new sz rows t).wp cs Post env L := by
  intro g
  have hl : rows.length = xs.length := by have := congrArg List.length hx; simpa using this
  have := h (some ⟨g, 0, none⟩) xs.length
  simp only [Rw.atom] at this
  rw [hx, hl]; exact this
theorem app_wp {s x : X} {sz : Nat} {t : T} (e : α → List Atom) (S0 X0 : Rw α) (hs : s.den env = S0.atom e) (hx : x.den env = X0.atom e) (h : ∀ a c, t.wp cs Post (env ++ [Rw.atom e ⟨a, c, sz, S0.l ++ X0.l⟩]) L) : (T.app s x sz t).wp cs Post env L := by
  intro a c
  have := h a c
  rw [hs, hx]
  simpa [Rw.atom, D.els] using this
theorem sto_wp {s i : X} {o : Nat} {row : List S} {t : T} (e : α → List Atom) (S0 : Rw α) (k : Int) (y : α) (hs : s.den env = S0.atom e) (hi : vi (i.den env).1 = k) (hy : ∀ x, S0.l[k.toNat]? = some x → (e x).take o ++ row.map (S.atom env) ++ (e x).drop (o + row.length) = e y)
    (h : t.wp cs Post (env ++ [Rw.atom e ⟨S0.a, S0.c, S0.z, S0.l.set k.toNat y⟩]) L) : (T.sto s i o row t).wp cs Post env L := by
  show t.wp cs Post (env ++ [_]) L
  rw [hs, hi]
  have : ((S0.atom e).1, updD (S0.atom e).2 k.toNat o (row.map (S.atom env))) = Rw.atom e ⟨S0.a, S0.c, S0.z, S0.l.set k.toNat y⟩ := by
    unfold Rw.atom updD
    simp only [List.length_set, Prod.mk.injEq, D.rows.injEq, true_and]
    apply List.ext_getElem?
    intro j
    rw [List.getElem?_modify, List.getElem?_map, List.getElem?_map, List.getElem?_set]
    by_cases hj : k.toNat = j
    · subst hj
      cases hx : S0.l[k.toNat]? with
      | none => simp [List.getElem?_eq_none_iff.1 hx]
      | some x =>
        have hlt := (List.getElem?_eq_some_iff.1 hx).1
        simp [hlt, ← hy x hx]
    · simp [hj]
  rw [this]; exact h
/-- A contract that tells how its result is, not which. -/
def mkRel {α β : Type} (enc : α → List Atom) (pre : α → Prop) (eo : β → List Atom) (R : α → β → Prop) : Con := mkCon enc pre (fun x outs => ∃ y, outs = eo y ∧ R x y)
theorem call_rel {α β : Type} {enc : α → List Atom} {pre : α → Prop} {eo : β → List Atom} {R : α → β → Prop} {i : Nat} {args : List S} {t : T} (x : α) (hcs : (cs i).2 = mkRel enc pre eo R) (ha : args.map (S.atom env) = enc x) (hp : pre x)
    (h : ∀ y, R x y → t.wp cs Post (env ++ eo y) L) : (T.call i args t).wp cs Post env L :=
  call_con x hcs ha hp fun outs _ ho => by
    obtain ⟨y, rfl, hR⟩ := ho
    exact h y hR
theorem inj_of {α : Type} {enc : α → List Atom} (dec : List Atom → α) (h : ∀ x, dec (enc x) = x) (x y : α) (e : enc x = enc y) : x = y := by rw [← h x, ← h y, e]
theorem vb_ite (c : Prop) [Decidable c] (a b : Atom) : vb (if c then a else b).1 = if c then vb a.1 else vb b.1 := by split <;> rfl
theorem vi_ite (c : Prop) [Decidable c] (a b : Atom) : vi (if c then a else b).1 = if c then vi a.1 else vi b.1 := by split <;> rfl
theorem both_wp {t f : T} (h : t.wp cs Post env L) (h2 : f.wp cs Post env L) : (T.both t f).wp cs Post env L := ⟨h, h2⟩
theorem brP {x : X} {t f : T} (P : Prop) (h : vb (x.den env).1 = true ↔ P) (ht : P → t.wp cs Post env L) (hf : ¬P → f.wp cs Post env L) : (T.br x t f).wp cs Post env L :=
  ⟨fun e => ht (h.1 e), fun e => hf fun p => by rw [h.2 p] at e; cases e⟩
theorem pop_wp {n : Nat} {t : T} (h : t.wp cs Post env (L.take n)) : (T.pop n t).wp cs Post env L := h
theorem again_wp {j : Nat} {l : List S} {I : List Atom → Prop} {μ : List Atom → Nat} {bs0 : List Atom}
    (hL : L.getD j (fun _ => False) = fun bs => I bs ∧ μ bs < μ bs0) (h1 : I (l.map (S.atom env))) (h2 : μ (l.map (S.atom env)) < μ bs0) : (T.again j l).wp cs Post env L := by
  show (L.getD j (fun _ => False)) _
  rw [hL]
  exact ⟨h1, h2⟩
end
end Go.Proofs.YtamjocnlhhhijaaV

namespace Go.Proofs.YtamjocnlhhhijaaV
open Go
theorem vd1 : (∀ env i, X.den env (.at i) = env.getD i atom0) ∧ (∀ env z, X.den env (.int z) = (.int .i64 z, .leaf)) ∧ (∀ env b, X.den env (.bool b) = (.bool b, .leaf)) ∧ (∀ env l, X.den env (.str l) = (.string ⟨l.toArray⟩, .leaf)) ∧ (∀ env sz, X.den env (.nil sz) = (.slice none 0 0, .rows sz []))
  ∧ (∀ env op k x y, X.den env (.ar op k x y) = (.int k (arD op k (vi (x.den env).1) (vi (y.den env).1)), .leaf)) ∧ (∀ env k x, X.den env (.neg k x) = (.int k (k.wrap (0 - vi (x.den env).1)), .leaf)) ∧ (∀ env k x, X.den env (.wrap k x) = (.int k (k.wrap (vi (x.den env).1)), .leaf))
  ∧ (∀ env op x y, X.den env (.cmp op x y) = (.bool (cmpD op (vi (x.den env).1) (vi (y.den env).1)), .leaf)) ∧ (∀ env x y, X.den env (.mn x y) = (.int .i64 (mnD (vi (x.den env).1) (vi (y.den env).1)), .leaf)) ∧ (∀ env x y, X.den env (.mx x y) = (.int .i64 (mxD (vi (x.den env).1) (vi (y.den env).1)), .leaf))
  ∧ (∀ env x, X.den env (.not x) = (.bool (!vb (x.den env).1), .leaf)) ∧ (∀ env c x y, X.den env (.ite c x y) = if vb (c.den env).1 then x.den env else y.den env) ∧ (∀ env x y, X.den env (.beq x y) = (.bool (vb (x.den env).1 == vb (y.den env).1), .leaf)) ∧ (∀ env x, X.den env (.len x) = (.int .i64 (vn (x.den env).1), .leaf))
  ∧ (∀ env x, X.den env (.size x) = (.int .i64 (vs (x.den env).1).size, .leaf)) ∧ (∀ env s i j, X.den env (.cell s i j) = cellD (s.den env) (vi (i.den env).1) j) ∧ (∀ env s i, X.den env (.byte s i) = (.int .u8 (((vs (s.den env).1)[(vi (i.den env).1).toNat]?.map (·.toNat)).getD 0 : Nat), .leaf))
  ∧ (∀ env s i j, X.den env (.sub s i j) = (.string ((vs (s.den env).1).extract (vi (i.den env).1).toNat (vi (j.den env).1).toNat), .leaf)) ∧ (∀ env s t, X.den env (.cat s t) = (.string (vs (s.den env).1 ++ vs (t.den env).1), .leaf)) ∧ (∀ env s t, X.den env (.seq s t) = (.bool ((vs (s.den env).1).toList == (vs (t.den env).1).toList), .leaf))
  ∧ (∀ env s t, X.den env (.slt s t) = (.bool (Op.bytesLess (vs (s.den env).1).toList (vs (t.den env).1).toList), .leaf)) := by
  refine ⟨?_, ?_, ?_, ?_, ?_, ?_, ?_, ?_, ?_, ?_, ?_, ?_, ?_, ?_, ?_, ?_, ?_, ?_, ?_, ?_, ?_, ?_⟩ <;> intros <;> rfl
theorem vd2 : (∀ env η, S.den env η .junk = Go.undef) ∧ (∀ env η, S.den env η .undef = Go.undef) ∧ (∀ env η k x, S.den env η (.int k x) = .int k (vi (x.den env).1)) ∧ (∀ env η x, S.den env η (.bool x) = .bool (vb (x.den env).1)) ∧ (∀ env η x, S.den env η (.str x) = .string (vs (x.den env).1))
  ∧ (∀ env η x, S.den env η (.slc x) = (x.den env).1) ∧ (∀ env η x, S.den env η (.any x) = (x.den env).1) ∧ (∀ env η v, S.den env η (.cst v) = v)
  ∧ (∀ env x, S.atom env (.slc x) = x.den env) ∧ (∀ env x, S.atom env (.any x) = x.den env) ∧ (∀ env k x, S.atom env (.int k x) = (.int k (vi (x.den env).1), .leaf)) ∧ (∀ env x, S.atom env (.bool x) = (.bool (vb (x.den env).1), .leaf)) ∧ (∀ env x, S.atom env (.str x) = (.string (vs (x.den env).1), .leaf)) ∧ (∀ env v, S.atom env (.cst v) = (v, .leaf))
  ∧ (∀ env x, Nd.ok env (.tru x) = (vb (x.den env).1 = true)) ∧ (∀ env k x, Nd.ok env (.kind k x) = k.ok (x.den env).1) ∧ (∀ env x, Nd.ok env (.row x) = ∃ z e, (x.den env).2 = .rows z e) ∧ (∀ env x z, Nd.ok env (.sz x z) = ∃ e, (x.den env).2 = .rows z e)
  ∧ (∀ k v, RK.ok (.int k) v = ∃ n, v = .int k n) ∧ (∀ v, RK.ok .bool v = ∃ b, v = .bool b) ∧ (∀ v, RK.ok .str v = ∃ s, v = .string s) ∧ (∀ v, RK.ok .slc v = ∃ a n c, v = .slice a n c) ∧ (∀ v, RK.ok .any v = (v.oneCell' = true))
  ∧ (∀ a b, cmpD .eql a b = (a == b)) ∧ (∀ a b, cmpD .neq a b = (a != b)) ∧ (∀ a b, cmpD .lss a b = decide (a < b)) ∧ (∀ a b, cmpD .leq a b = decide (a ≤ b)) ∧ (∀ a b, cmpD .gtr a b = decide (a > b)) ∧ (∀ a b, cmpD .geq a b = decide (a ≥ b))
  ∧ (∀ k a b, arD .add k a b = k.wrap (a + b)) ∧ (∀ k a b, arD .sub k a b = k.wrap (a - b)) ∧ (∀ k a b, arD .mul k a b = k.wrap (a * b)) ∧ (∀ k a b, arD .quo k a b = quoD k a b) ∧ (∀ k a b, arD .rem k a b = remD a b) ∧ (∀ (k : IntKind) a b, arD .shl k a b = k.wrap (a * 2 ^ (min b.toNat k.bits))) ∧ (∀ (k : IntKind) a b, arD .shr k a b = a.fdiv (2 ^ (min b.toNat k.bits)))
  ∧ (∀ k a b, arD .and k a b = bitsD k (· &&& ·) a b) ∧ (∀ k a b, arD .or k a b = bitsD k (· ||| ·) a b) ∧ (∀ k a b, arD .xor k a b = bitsD k (· ^^^ ·) a b) ∧ (∀ k a b, arD .andNot k a b = bitsD k (fun x y => x &&& ~~~y) a b) := by
  refine ⟨?_, ?_, ?_, ?_, ?_, ?_, ?_, ?_, ?_, ?_, ?_, ?_, ?_, ?_, ?_, ?_, ?_, ?_, ?_, ?_, ?_, ?_, ?_, ?_, ?_, ?_, ?_, ?_, ?_, ?_, ?_, ?_, ?_, ?_, ?_, ?_, ?_, ?_, ?_, ?_⟩ <;> intros <;> rfl
theorem vd3 : (∀ x, encPS x = x.1.enc ++ x.2.enc) ∧ (∀ x, encPSn x = x.1.enc ++ (x.2.1.enc ++ [(.int .i64 x.2.2, .leaf)])) ∧ (∀ x, encPSnc x = x.1.enc ++ (x.2.1.enc ++ [(.int .i64 x.2.2.1, .leaf), (.int .i64 x.2.2.2, .leaf)])) ∧ (∀ x, encPSA x = x.1.enc ++ (x.2.1.enc ++ x.2.2.enc)) ∧ (∀ x, encPn x = x.1.enc ++ [(.int .i64 x.2, .leaf)]) ∧ (∀ x, encSS x = x.1.enc ++ x.2.enc) ∧ (∀ x, encI x = [(.int .i64 x, .leaf)])
  ∧ (∀ x, Pol.enc x = [(.int .i64 x.k, .leaf), (.int .i64 x.l, .leaf), (.int .i64 x.p, .leaf), (.int .i64 x.b, .leaf), (.int .i64 x.c, .leaf), (.bool x.o, .leaf)]) ∧ (∀ x, Stt.enc x = [(.int .i64 x.t, .leaf), (.int .i64 x.v, .leaf), (.int .i64 x.h, .leaf), x.g.atom]) ∧ (∀ x, Ac.enc x = [(.int .i64 x.k, .leaf), (.int .i64 x.t, .leaf), (.int .i64 x.c, .leaf)])
  ∧ (∀ s, Sl.atom s = (.slice s.a s.n s.c, s.d)) ∧ Sl.nil = ⟨none, 0, 0, .rows 0 []⟩ ∧ Stt.zero = ⟨0, 0, 0, ⟨none, 0, 0, .rows 0 []⟩⟩ ∧ (∀ n, aI n = (.int .i64 n, .leaf)) ∧ (∀ b, aB b = (.bool b, .leaf)) ∧ (∀ k n, aK k n = (.int k n, .leaf)) ∧ (∀ s, aS s = (.string s, .leaf)) := by
  refine ⟨?_, ?_, ?_, ?_, ?_, ?_, ?_, ?_, ?_, ?_, ?_, rfl, rfl, ?_, ?_, ?_, ?_⟩ <;> intros <;> rfl
theorem vd4 : (∀ (a : Atom) (s t : List Atom), (a :: s) ++ t = a :: (s ++ t)) ∧ (∀ (s : List Atom), [] ++ s = s) ∧ (∀ (a b c : List Atom), a ++ b ++ c = a ++ (b ++ c)) ∧ (∀ (a d : Atom) (l : List Atom), (a :: l).getD 0 d = a) ∧ (∀ (a d : Atom) (l : List Atom) (i : Nat), (a :: l).getD (i + 1) d = l.getD i d)
  ∧ (∀ k n, vi (.int k n) = n) ∧ (∀ b, vb (.bool b) = b) ∧ (∀ s, vs (.string s) = s) ∧ (∀ a n c, vn (.slice a n c) = n) ∧ (∀ a n c, va (.slice a n c) = a) ∧ (∀ (f : S → Atom) a l, (a :: l).map f = f a :: l.map f) ∧ (∀ (f : S → Atom), [].map f = []) := by
  refine ⟨?_, ?_, ?_, ?_, ?_, ?_, ?_, ?_, ?_, ?_, ?_, ?_⟩ <;> intros <;> first | rfl | simp
theorem vd5 : (∀ (p : Prop) [Decidable p], (decide p = true) = p) ∧ (∀ (p : Prop) [Decidable p], decide p = false ↔ ¬p) ∧ (∀ (a b : Int), (a != b) = true ↔ a ≠ b) ∧ (∀ {α : Type} (a b : α), (a ≠ b) = ¬(a = b)) ∧ (∀ (a b : Int), (a != b) = false ↔ a = b) ∧ (∀ (a b : Int), (a == b) = true ↔ a = b) ∧ (∀ (a b : Bool), (a == b) = true ↔ a = b) ∧ (∀ (a b : Int), (a == b) = false ↔ a ≠ b) ∧ (∀ (a b : Bool), (a == b) = false ↔ a ≠ b)
  ∧ (∀ b : Bool, ((!b) = true) = (b = false)) ∧ (∀ b : Bool, ((!b) = false) = (b = true)) ∧ (∀ b : Bool, (¬b = true) = (b = false)) ∧ (∀ b : Bool, (¬b = false) = (b = true)) := by
  refine ⟨?_, ?_, ?_, ?_, ?_, ?_, ?_, ?_, ?_, ?_, ?_, ?_, ?_⟩ <;> intros <;> first | simp | rfl
theorem vd6 : (∀ (a b : Atom) (l m : List Atom), (a :: l = b :: m) = (a = b ∧ l = m)) ∧ (∀ (a b : Value) (c d : D), ((a, c) = (b, d)) = (a = b ∧ c = d)) ∧ (∀ k k' n n', (Value.int k n = Value.int k' n') = (k = k' ∧ n = n')) ∧ (∀ b b', (Value.bool b = Value.bool b') = (b = b')) ∧ (∀ a a' n n' c c', (Value.slice a n c = Value.slice a' n' c') = (a = a' ∧ n = n' ∧ c = c')) ∧ (∀ p : Prop, (True ∧ p) = p) ∧ (∀ p : Prop, (p ∧ True) = p) ∧ (∀ a b, mnD a b = min a b) ∧ (∀ a b, mxD a b = max a b) := by
  refine ⟨?_, ?_, ?_, ?_, ?_, ?_, ?_, mnD_eq, mxD_eq⟩ <;> intros <;> simp
theorem vd7 : (∀ env x, X.den env (.nilp x) = (.bool (va (x.den env).1).isNone, .leaf)) ∧ (∀ env x, X.den env (.cap x) = (.int .i64 (vc (x.den env).1), .leaf)) ∧ (∀ env x, X.den env (.ifn x) = (.bool (isNilI (x.den env).1), .leaf)) ∧ (∀ env x, X.den env (.chr x) = (.string ⟨#[UInt8.ofNat (vi (x.den env).1).toNat]⟩, .leaf))
  ∧ (∀ env x, X.den env (.sob x) = (.string (byD (x.den env).2), .leaf)) ∧ (∀ env z s a b, X.den env (.rsub z s a b) = subA z (s.den env) (vi (a.den env).1).toNat (vi (b.den env).1).toNat)
  ∧ (∀ env x, Nd.ok env (.bytes x) = ∃ (z : Nat) (s : ByteArray), (x.den env).2 = .rows z (ofB s) ∧ (ofB s = [] ∨ z = 1)) ∧ (∀ env x z, Nd.ok env (.szz x z) = ∃ z' e, (x.den env).2 = .rows z' e ∧ (e = [] ∨ z' = z)) ∧ (∀ v, RK.ok .ifc v = (v = .nilIface ∨ ∃ t x, v = .iface t x)) ∧ (∀ {α β : Type} (f : α → β) (a : α) (l : List α), (a :: l).map f = f a :: l.map f) ∧ (∀ {α β : Type} (f : α → β), [].map f = []) := by
  refine ⟨?_, ?_, ?_, ?_, ?_, ?_, ?_, ?_, ?_, ?_, ?_⟩ <;> intros <;> rfl
/-- All of them. -/
theorem vd : type_of% (And.intro (@Option.some.injEq.{0}) (And.intro vd1 (And.intro vd2 (And.intro vd3 (And.intro vd4 (And.intro vd5 (And.intro vd6 vd7))))))) := And.intro (@Option.some.injEq.{0}) (And.intro vd1 (And.intro vd2 (And.intro vd3 (And.intro vd4 (And.intro vd5 (And.intro vd6 vd7))))))
end Go.Proofs.YtamjocnlhhhijaaV

namespace Go.Proofs.YtamjocnlhhhijaaV
open Go
def T.sub (p : List Bool) : T → T
  | .br x a b => match p with
    | [] => .br x a b
    | d :: r => if d then T.sub r a else T.sub r b
  | .need d t => match p with
    | [] => .need d t
    | _ :: _ => T.sub p t
  | .call i l t => match p with
    | [] => .call i l t
    | _ :: _ => T.sub p t
  | .new z r t => match p with
    | [] => .new z r t
    | _ :: _ => T.sub p t
  | .app s x z t => match p with
    | [] => .app s x z t
    | _ :: _ => T.sub p t
  | .apps s x t => match p with
    | [] => .apps s x t
    | _ :: _ => T.sub p t
  | .sto s i o r t => match p with
    | [] => .sto s i o r t
    | _ :: _ => T.sub p t
  | .loop k i t => match p with
    | [] => .loop k i t
    | _ :: _ => T.sub p t
  | .pop n t => match p with
    | [] => .pop n t
    | _ :: _ => T.sub p t
  | .clo f cs t => match p with
    | [] => .clo f cs t
    | _ :: _ => T.sub p t
  | .both a b => match p with
    | [] => .both a b
    | d :: r => if d then T.sub r a else T.sub r b
  | t => t
def T.put (u : T) (p : List Bool) : T → T
  | .br x a b => match p with
    | [] => u
    | d :: r => if d then .br x (T.put u r a) b else .br x a (T.put u r b)
  | .need d t => match p with
    | [] => u
    | _ :: _ => .need d (T.put u p t)
  | .call i l t => match p with
    | [] => u
    | _ :: _ => .call i l (T.put u p t)
  | .new z r t => match p with
    | [] => u
    | _ :: _ => .new z r (T.put u p t)
  | .app s x z t => match p with
    | [] => u
    | _ :: _ => .app s x z (T.put u p t)
  | .apps s x t => match p with
    | [] => u
    | _ :: _ => .apps s x (T.put u p t)
  | .sto s i o r t => match p with
    | [] => u
    | _ :: _ => .sto s i o r (T.put u p t)
  | .loop k i t => match p with
    | [] => u
    | _ :: _ => .loop k i (T.put u p t)
  | .pop n t => match p with
    | [] => u
    | _ :: _ => .pop n (T.put u p t)
  | .clo f cs t => match p with
    | [] => u
    | _ :: _ => .clo f cs (T.put u p t)
  | .both a b => match p with
    | [] => u
    | d :: r => if d then .both (T.put u r a) b else .both a (T.put u r b)
  | t => match p with
    | [] => u
    | _ :: _ => t
theorem T.put_sub (u : T) (t : T) : ∀ p, T.put (T.sub p t) p (T.put u p t) = t := by
  induction t with
  | br x a b iha ihb =>
    intro p
    cases p with
    | nil => cases u <;> rfl
    | cons d r => cases d <;> simp [T.sub, T.put, iha, ihb]
  | both a b iha ihb =>
    intro p
    cases p with
    | nil => cases u <;> rfl
    | cons d r => cases d <;> simp [T.sub, T.put, iha, ihb]
  | need d t ih => intro p; cases p with
    | nil => cases u <;> rfl
    | cons d r => simp [T.sub, T.put, ih]
  | call i l t ih => intro p; cases p with
    | nil => cases u <;> rfl
    | cons d r => simp [T.sub, T.put, ih]
  | new z r t ih => intro p; cases p with
    | nil => cases u <;> rfl
    | cons d r => simp [T.sub, T.put, ih]
  | app s x z t ih => intro p; cases p with
    | nil => cases u <;> rfl
    | cons d r => simp [T.sub, T.put, ih]
  | apps s x t ih => intro p; cases p with
    | nil => cases u <;> rfl
    | cons d r => simp [T.sub, T.put, ih]
  | sto s i o r t ih => intro p; cases p with
    | nil => cases u <;> rfl
    | cons d r => simp [T.sub, T.put, ih]
  | loop k i t ih => intro p; cases p with
    | nil => cases u <;> rfl
    | cons d r => simp [T.sub, T.put, ih]
  | clo f cs t ih => intro p; cases p with
    | nil => cases u <;> rfl
    | cons d r => simp [T.sub, T.put, ih]
  | pop n t ih => intro p; cases p with
    | nil => cases u <;> rfl
    | cons d r => simp [T.sub, T.put, ih]
  | _ => intro p; cases p <;> first | rfl | (cases u <;> rfl)
/-- A tree, by what stands at a place and by the rest. -/
theorem T.split {t a c : T} (p : List Bool) (ha : T.sub p t = a) (hc : T.put (.bad 0) p t = c) {u : T} (h : T.put a p c = u) : t = u := by
  rw [← h, ← ha, ← hc]
  exact (T.put_sub (.bad 0) t p).symm
end Go.Proofs.YtamjocnlhhhijaaV
