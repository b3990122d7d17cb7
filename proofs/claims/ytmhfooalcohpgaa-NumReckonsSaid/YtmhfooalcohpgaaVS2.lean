/- Vcg, part 4: the Bool equalities are equalities; tests that are known; the values of operations. -/
import Derived.Test.YtmhfooalcohpgaaVS1
namespace Go.Proofs.YtmhfooalcohpgaaV
open Go Go.RowKit

theorem X.eq_of {x y : X} (h : x.eq y = true) : x = y := by
  induction x generalizing y <;> cases y <;> simp only [X.eq, Bool.and_eq_true, beq_iff_eq, Bool.false_eq_true] at h
  case ar.ar ih1 ih2 _ _ _ _ => obtain ⟨⟨⟨rfl, rfl⟩, h1⟩, h2⟩ := h; rw [ih1 h1, ih2 h2]
  case neg.neg ih _ _ => obtain ⟨rfl, h1⟩ := h; rw [ih h1]
  case wrap.wrap ih _ _ => obtain ⟨rfl, h1⟩ := h; rw [ih h1]
  case cmp.cmp ih1 ih2 _ _ _ => obtain ⟨⟨rfl, h1⟩, h2⟩ := h; rw [ih1 h1, ih2 h2]
  case not.not ih _ => rw [ih h]
  case len.len ih _ => rw [ih h]
  case size.size ih _ => rw [ih h]
  case ite.ite ih1 ih2 ih3 _ _ _ => obtain ⟨⟨h1, h2⟩, h3⟩ := h; rw [ih1 h1, ih2 h2, ih3 h3]
  case sub.sub ih1 ih2 ih3 _ _ _ => obtain ⟨⟨h1, h2⟩, h3⟩ := h; rw [ih1 h1, ih2 h2, ih3 h3]
  case cell.cell ih1 ih2 _ _ _ => obtain ⟨⟨h1, h2⟩, rfl⟩ := h; rw [ih1 h1, ih2 h2]
  case mn.mn ih1 ih2 _ _ => rw [ih1 h.1, ih2 h.2]
  case mx.mx ih1 ih2 _ _ => rw [ih1 h.1, ih2 h.2]
  case beq.beq ih1 ih2 _ _ => rw [ih1 h.1, ih2 h.2]
  case byte.byte ih1 ih2 _ _ => rw [ih1 h.1, ih2 h.2]
  case cat.cat ih1 ih2 _ _ => rw [ih1 h.1, ih2 h.2]
  case seq.seq ih1 ih2 _ _ => rw [ih1 h.1, ih2 h.2]
  case slt.slt ih1 ih2 _ _ => rw [ih1 h.1, ih2 h.2]
  all_goals rw [h]
theorem S.eq_of {x y : S} (h : x.eq y = true) : x = y := by
  unfold S.eq at h
  split at h <;> (try simp only [Bool.and_eq_true, beq_iff_eq, Bool.false_eq_true] at h)
  all_goals first
    | rfl
    | (rw [X.eq_of h]; done)
    | (obtain ⟨rfl, rfl⟩ := h; rfl)
    | (obtain ⟨rfl, h⟩ := h; rw [X.eq_of h]; done)
    | (obtain ⟨⟨⟨h1, h2⟩, rfl⟩, rfl⟩ := h; rw [X.eq_of h1, X.eq_of h2])
theorem eqL_of {α : Type} {e : α → α → Bool} (he : ∀ a b, e a b = true → a = b) : ∀ {l m : List α}, eqL e l m = true → l = m
  | [], [], _ => rfl
  | a :: l, b :: m, h => by
    simp only [eqL, Bool.and_eq_true] at h
    rw [he _ _ h.1, eqL_of he h.2]
  | [], _ :: _, h => by simp [eqL] at h
  | _ :: _, [], h => by simp [eqL] at h
theorem TV.eq_of {x y : TV} (h : x.eq y = true) : x = y := by
  cases x <;> cases y <;> simp only [TV.eq, Bool.false_eq_true] at h
  · rw [S.eq_of h]
  · rw [eqL_of (fun _ _ => S.eq_of) h]
theorem SV.eq_of {x y : SV} (h : x.eq y = true) : x = y := by
  cases x <;> cases y <;> simp only [SV.eq, Bool.false_eq_true] at h
  · rw [TV.eq_of h]
  · rw [eqL_of (fun _ _ => TV.eq_of) h]
theorem Blk.eq_of {x y : Blk} (h : x.eq y = true) : x = y := by
  cases x; cases y
  simp only [Blk.eq, Bool.and_eq_true, beq_iff_eq] at h
  rw [eqL_of (fun _ _ => S.eq_of) h.1, h.2]
theorem kEq_of {x y : X × Bool} (h : kEq x y = true) : x = y := by
  cases x; cases y
  simp only [kEq, Bool.and_eq_true, beq_iff_eq] at h
  rw [X.eq_of h.1, h.2]
theorem St.eq_of {x y : St} (h : x.eq y = true) : x = y := by
  cases x; cases y
  simp only [St.eq, Bool.and_eq_true, beq_iff_eq] at h
  obtain ⟨⟨⟨h1, h2⟩, h3⟩, h4⟩ := h
  rw [h1, eqL_of (fun _ _ => SV.eq_of) h2, eqL_of (fun _ _ => Blk.eq_of) h3, eqL_of (fun _ _ => kEq_of) h4]
theorem RK.eq_of {x y : RK} (h : x.eq y = true) : x = y := by
  cases x <;> cases y <;> simp only [RK.eq, beq_iff_eq, Bool.false_eq_true] at h <;> first | rfl | rw [h]
theorem Nd.eq_of {x y : Nd} (h : x.eq y = true) : x = y := by
  cases x <;> cases y <;> simp only [Nd.eq, Bool.and_eq_true, beq_iff_eq, Bool.false_eq_true] at h
  · rw [X.eq_of h]
  · rw [RK.eq_of h.1, X.eq_of h.2]
  · rw [X.eq_of h]
  · rw [X.eq_of h.1, h.2]
theorem T.eq_of {x y : T} (h : x.eq y = true) : x = y := by
  induction x generalizing y <;> cases y <;> simp only [T.eq, Bool.and_eq_true, beq_iff_eq, Bool.false_eq_true] at h
  case br.br ih1 ih2 _ _ _ => obtain ⟨⟨h1, h2⟩, h3⟩ := h; rw [X.eq_of h1, ih1 h2, ih2 h3]
  case need.need ih _ _ => rw [Nd.eq_of h.1, ih h.2]
  case call.call ih _ _ _ => obtain ⟨⟨h1, h2⟩, h3⟩ := h; rw [h1, eqL_of (fun _ _ => S.eq_of) h2, ih h3]
  case fin.fin => rw [St.eq_of h]

section
variable {w0 : Base} {w : World} {st : St} {env : List Atom} {η : List Nat} {m : Addr → Option Value} {a : Act} {P : Program}
theorem St.tells_sound (hk : ∀ p ∈ st.known, vb (p.1.den env).1 = p.2) {x : X} : ∀ {b : Bool}, st.tells x = some b → vb (x.den env).1 = b := by
  induction x with
  | bool c => intro b h; simp only [St.tells, Option.some.injEq] at h; subst h; rfl
  | not x ih =>
    intro b h
    simp only [St.tells] at h
    cases hx : st.tells x with
    | none => rw [hx] at h; cases h
    | some c => rw [hx] at h; simp only [Option.map_some, Option.some.injEq] at h; show (!vb (x.den env).1) = b; rw [ih hx, h]
  | _ => intro b h; exact look_sound hk (fun _ _ => X.eq_of) h
/-- A test: either way is told. -/
theorem seBr_sound {cs : Nat → Sig × Con} {Post : List Atom → Prop} {L : List (List Atom → Prop)} {x : X} : ∀ {kt kf : St → T} {C : Prop}, (∀ p ∈ st.known, vb (p.1.den env).1 = p.2) →
    (seBr st x kt kf).wp cs Post env L →
    (∀ st', st'.n = st.n → st'.tmps = st.tmps → st'.blks = st.blks → (∀ p ∈ st'.known, vb (p.1.den env).1 = p.2) → vb (x.den env).1 = true → (kt st').wp cs Post env L → C) →
    (∀ st', st'.n = st.n → st'.tmps = st.tmps → st'.blks = st.blks → (∀ p ∈ st'.known, vb (p.1.den env).1 = p.2) → vb (x.den env).1 = false → (kf st').wp cs Post env L → C) → C := by
  have main : ∀ (x : X) {kt kf : St → T} {C : Prop}, (∀ p ∈ st.known, vb (p.1.den env).1 = p.2) →
      (match st.tells x with
        | some true => kt st
        | some false => kf st
        | none => T.br x (kt (st.knows x true)) (kf (st.knows x false))).wp cs Post env L →
      (∀ st', st'.n = st.n → st'.tmps = st.tmps → st'.blks = st.blks → (∀ p ∈ st'.known, vb (p.1.den env).1 = p.2) → vb (x.den env).1 = true → (kt st').wp cs Post env L → C) →
      (∀ st', st'.n = st.n → st'.tmps = st.tmps → st'.blks = st.blks → (∀ p ∈ st'.known, vb (p.1.den env).1 = p.2) → vb (x.den env).1 = false → (kf st').wp cs Post env L → C) → C := by
    intro x kt kf C hk h ht hf
    have kn : ∀ b, vb (x.den env).1 = b → ∀ p ∈ (st.knows x b).known, vb (p.1.den env).1 = p.2 := by
      intro b hb p hp
      simp only [St.knows, List.mem_cons] at hp
      rcases hp with rfl | hp
      · exact hb
      · exact hk p hp
    split at h
    · rename_i e; exact ht st rfl rfl rfl hk (St.tells_sound hk e) h
    · rename_i e; exact hf st rfl rfl rfl hk (St.tells_sound hk e) h
    · cases hb : vb (x.den env).1 with
      | true => exact ht (st.knows x true) rfl rfl rfl (kn _ hb) hb (h.1 hb)
      | false => exact hf (st.knows x false) rfl rfl rfl (kn _ hb) hb (h.2 hb)
  induction x with
  | not y ih =>
    intro kt kf C hk h ht hf
    refine ih hk h (fun st' h1 h2 h3 h4 h5 => hf st' h1 h2 h3 h4 ?_) (fun st' h1 h2 h3 h4 h5 => ht st' h1 h2 h3 h4 ?_)
    · show (!vb (y.den env).1) = false; rw [h5]; rfl
    · show (!vb (y.den env).1) = true; rw [h5]; rfl
  | _ => intro kt kf C hk h ht hf; exact main _ hk h ht hf
theorem needs_sound {cs : Nat → Sig × Con} {Post : List Atom → Prop} {L : List (List Atom → Prop)} {k : St → T} : ∀ {ds : List Nd} {st : St}, (∀ p ∈ st.known, vb (p.1.den env).1 = p.2) →
    (needs st ds k).wp cs Post env L →
    (∀ d ∈ ds, d.ok env) ∧ ∃ st', st'.n = st.n ∧ st'.tmps = st.tmps ∧ st'.blks = st.blks ∧ (∀ p ∈ st'.known, vb (p.1.den env).1 = p.2) ∧ (k st').wp cs Post env L
  | [], st, hk, h => ⟨fun _ h => absurd h (by simp), st, rfl, rfl, rfl, hk, h⟩
  | .tru x :: r, st, hk, h => by
    simp only [needs] at h
    split at h
    · rename_i e
      obtain ⟨h1, st', h2⟩ := needs_sound hk h
      refine ⟨fun d hd => ?_, st', h2⟩
      rcases List.mem_cons.1 hd with rfl | hd
      · exact St.tells_sound hk e
      · exact h1 d hd
    · obtain ⟨hx, h⟩ := h
      have kn : ∀ p ∈ (st.knows x true).known, vb (p.1.den env).1 = p.2 := by
        intro p hp
        simp only [St.knows, List.mem_cons] at hp
        rcases hp with rfl | hp
        · exact hx
        · exact hk p hp
      obtain ⟨h1, st', h2⟩ := needs_sound kn h
      refine ⟨fun d hd => ?_, st', h2⟩
      rcases List.mem_cons.1 hd with rfl | hd
      · exact hx
      · exact h1 d hd
  | .kind y x :: r, st, hk, h => by
    obtain ⟨hx, h⟩ := h
    obtain ⟨h1, st', h2⟩ := needs_sound (ds := r) hk h
    refine ⟨fun d hd => ?_, st', h2⟩
    rcases List.mem_cons.1 hd with rfl | hd
    · exact hx
    · exact h1 d hd
  | .row x :: r, st, hk, h => by
    obtain ⟨hx, h⟩ := h
    obtain ⟨h1, st', h2⟩ := needs_sound (ds := r) hk h
    refine ⟨fun d hd => ?_, st', h2⟩
    rcases List.mem_cons.1 hd with rfl | hd
    · exact hx
    · exact h1 d hd
  | .sz x z :: r, st, hk, h => by
    obtain ⟨hx, h⟩ := h
    obtain ⟨h1, st', h2⟩ := needs_sound (ds := r) hk h
    refine ⟨fun d hd => ?_, st', h2⟩
    rcases List.mem_cons.1 hd with rfl | hd
    · exact hx
    · exact h1 d hd
end
end Go.Proofs.YtmhfooalcohpgaaV
