/- Vcg, part 6: an operation that yields a value, all of them. -/
import Derived.Test.YtmhfooalcohpgaaVS3
namespace Go.Proofs.YtmhfooalcohpgaaV
open Go Go.RowKit

section
variable {w0 : Base} {w : World} {st : St} {env : List Atom} {η : List Nat} {m : Addr → Option Value} {a : Act} {P : Program}
theorem Addr.add_add (p : Addr) (i j : Nat) : (p.add i).add j = p.add (i + j) := by
  unfold Addr.add
  by_cases h1 : i = 0 <;> by_cases h2 : j = 0 <;> simp [h1, h2, Nat.add_assoc]
/-- What a row's index gives. -/
theorem inRow_ok {s i : X} (hg : ∀ x ∈ env, Good m x) (h : ∀ d ∈ inRow s i, d.ok env) : ∃ (p : Addr) (n c sz : Nat) (els : List (List Atom)),
    (s.den env) = (.slice (some p) n c, .rows sz els) ∧ n = els.length ∧ 0 ≤ vi (i.den env).1 ∧ vi (i.den env).1 < n := by
  have h1 : Nd.ok env (.kind .slc s) := h _ (by simp [inRow])
  have h2 : Nd.ok env (.row s) := h _ (by simp [inRow])
  have h3 : Nd.ok env (.tru (cmpX .leq (.int 0) i)) := h _ (by simp [inRow])
  have h4 : Nd.ok env (.tru (.cmp .lss i (.len s))) := h _ (by simp [inRow])
  obtain ⟨p, n, c, h1⟩ := h1
  obtain ⟨sz, els, h2⟩ := h2
  have hr := (X.good hg s).1
  rw [h1, h2] at hr
  simp only [Nd.ok, cmpX_den, X.den, vi_int, cmpD] at h3
  replace h3 := of_decide_eq_true h3
  simp only [Nd.ok, X.den, vi_int, cmpD, h1, vn_slice, vb_bool, decide_eq_true_eq] at h4
  cases hr with
  | nil => omega
  | rows p c sz els hz hc h5 hd => exact ⟨p, _, c, sz, els, Prod.ext h1 h2, rfl, h3, h4⟩
theorem run_fieldPlace {p : Addr} {f : Field} {n : Nat} (h : sizeO P f.type = some (n + 1)) (w : World) : (fieldPlace p f).run P w = .ok (p.add f.offset) w := by
  simp [fieldPlace, run_sizeOf_some h]
theorem call_builtin {o : Oper} {c : Call} {b : Builtin} (ho : o.op = .call c) (hc : c.callee = .builtin b) : execOp a.eval o = builtin b c.argTypes o.type (c.args.map fun | .const _ => true | _ => false) (c.args.map a.eval) := by
  unfold execOp
  rw [ho]
  simp only [resolve, hc, invoke]
  rfl
theorem mapM_allSome {α β : Type} {f : α → Option β} : ∀ {l : List α} {r : List β}, allSome (l.map f) = some r → l.mapM f = some r
  | [], r, h => by simp only [List.map_nil, allSome, Option.some.injEq] at h; subst h; rfl
  | x :: l, r, h => by
    simp only [List.map_cons] at h
    cases hx : f x with
    | none => rw [hx] at h; simp [allSome] at h
    | some y =>
      rw [hx] at h
      simp only [allSome] at h
      cases hl : allSome (l.map f) with
      | none => rw [hl] at h; cases h
      | some r' =>
        rw [hl] at h
        simp only [Option.map_some, Option.some.injEq] at h
        subst h
        simp [List.mapM_cons, hx, mapM_allSome hl]
theorem info_of_size {t : TypeId} {n : Nat} (h : sizeO P t = some n) : ∃ i, P.info? t = some i ∧ i.size = n := by
  unfold sizeO at h
  cases hi : P.info? t with
  | none => rw [hi] at h; cases h
  | some i => rw [hi] at h; simp only [Option.map_some, Option.some.injEq] at h; exact ⟨i, rfl, h⟩
theorem zero_info {t : TypeId} {z : List S} (h : zeroO P t = some z) : ∃ i v, P.info? t = some i ∧ i.zero = some v ∧ v.cells = (z.map (S.den env η)).toArray := by
  unfold zeroO at h
  cases hi : P.info? t with
  | none => rw [hi] at h; cases h
  | some i =>
    rw [hi] at h
    simp only [Option.bind_some] at h
    cases hz : i.zero with
    | none => rw [hz] at h; cases h
    | some v =>
      rw [hz] at h
      refine ⟨i, v, rfl, hz, ?_⟩
      have h1 := allSome_den (g := fun v : Value => v) (d := S.den env η) (fun x y hx => ?_) h
      · rw [List.map_id'] at h1
        rw [← h1]
      · unfold cstS at hx
        split at hx
        · rename_i s hs
          injection hx with hx
          subst hx
          exact (cstV_den (env := env) (η := η) hs).symm
        · cases hx
theorem zero_run {t : TypeId} {i : TypeInfo} {v : Value} (hi : P.info? t = some i) (hz : i.zero = some v) (w : World) : (zeroValue t).run P w = .ok v w := by
  simp [zeroValue, typeInfo, hi, hz]
theorem some_inj2 {α β : Type} {a c : α} {b d : β} (h : some (a, b) = some (c, d)) : a = c ∧ b = d := by
  injection h with h; exact Prod.mk.inj h
theorem map_inj {α : Type} {f : α → List Nd × SV} {o : Option α} {ds : List Nd} {v : SV} (h : o.map f = some (ds, v)) : ∃ x, o = some x ∧ f x = (ds, v) := by
  cases o with
  | none => cases h
  | some x => exact ⟨x, rfl, by injection h⟩
theorem TV.cells_den {t : TV} (hg : ∀ x ∈ env, Good m x) (h : okCells t.cells = true) : (t.den env η).cells = (t.cells.map (S.den env η)).toArray := by
  cases t with
  | agg l => rfl
  | s x =>
    have h1 : okCell x = true := by simpa [okCells, TV.cells] using h
    have h2 := S.den_one (η := η) hg h1
    show (x.den env η).cells = #[x.den env η]
    cases hx : x.den env η <;> simp [hx, Value.oneCell'] at h2 <;> rfl
theorem mm_run {mxB : Bool} {s r : S} {l : List SV} (h : mnmx mxB s l = some r) (w : World) : ((l.map (SV.den env η)).foldlM (if mxB then Builtin.max2 else Builtin.min2) (s.den env η)).run P w = .ok (r.den env η) w := by
  cases l with
  | nil => simp only [mnmx, Option.some.injEq] at h; subst h; simp
  | cons x l =>
    have : ∃ k p, s = .int k p := by
      unfold mnmx at h
      split at h
      · cases ‹_ :: _ = []›
      · exact ⟨_, _, rfl⟩
      · cases h
    obtain ⟨k, p, rfl⟩ := this
    exact mnmx_sound rfl h w
theorem seVal_sound (hr : Rel w0 st env η m a w) {o : Oper} {ds : List Nd} {v : SV} (h : seVal P st o.op = some (ds, v)) (hds : ∀ d ∈ ds, d.ok env) (w' : World) :
    (execOp a.eval o).run P w' = .ok (.value (v.den env η)) w' := by
  cases ho : o.op with
  | move x =>
    rw [ho] at h
    obtain ⟨v', hv, e⟩ := map_inj h
    obtain ⟨rfl, rfl⟩ := Prod.mk.inj e
    simp only [execOp, ho, Sem.run_pure, hr.ev hv]
  | assign x =>
    rw [ho] at h
    obtain ⟨v', hv, e⟩ := map_inj h
    obtain ⟨rfl, rfl⟩ := Prod.mk.inj e
    simp only [execOp, ho, Sem.run_pure, hr.ev hv]
  | pick c x y =>
    rw [ho] at h
    simp only [seVal] at h
    split at h
    · rename_i x' hc
      have ec := hr.ev hc
      simp only [SV.den, TV.den, S.den] at ec
      split at h
      · rename_i ht
        obtain ⟨v', hv, e⟩ := map_inj h
        obtain ⟨rfl, rfl⟩ := Prod.mk.inj e
        simp [execOp, ho, ec, asBool, St.tells_sound hr.hk ht, hr.ev hv]
      · rename_i ht
        obtain ⟨v', hv, e⟩ := map_inj h
        obtain ⟨rfl, rfl⟩ := Prod.mk.inj e
        simp [execOp, ho, ec, asBool, St.tells_sound hr.hk ht, hr.ev hv]
      · split at h
        · rename_i y' z' hy hz
          obtain ⟨rfl, rfl⟩ := some_inj2 h
          have ey := hr.ev hy
          have ez := hr.ev hz
          simp only [SV.den, TV.den, S.den] at ey ez
          simp only [execOp, ho, ec, asBool, ey, ez, Sem.run_bind, Sem.run_pure, Result.andThen_ok, SV.den, TV.den, S.den, X.den]
          split <;> rfl
        · cases h
    · cases h
  | binOp op t x y yt =>
    rw [ho] at h
    simp only [seVal] at h
    split at h
    · rename_i p q hx hy
      have ex := hr.ev hx
      have ey := hr.ev hy
      simp only [SV.den, TV.den] at ex ey
      have := binS_sound (η := η) h hds x y w'
      simp only [execOp, ho, ex, ey, Sem.run_bind] at this ⊢
      rw [this]; rfl
    · rename_i l m' hx hy
      have ex := hr.ev hx
      have ey := hr.ev hy
      simp only [SV.den, TV.den] at ex ey
      split at h
      · rename_i e he
        obtain ⟨rfl, rfl⟩ := some_inj2 h
        obtain ⟨h1, h2⟩ := eqAgg_sound (env := env) (η := η) he w'
        have hg : (eqGuard .eql t x y (a.eval x) (a.eval y)).run P w' = .ok () w' := by
          rw [ex, ey]; simp [eqGuard, h2]
        have hb : (binOp .eql t (a.eval x) (a.eval y)).run P w' = .ok (.bool (vb (e.den env).1)) w' := by
          rw [ex, ey]
          show (do pure (.bool (← Op.equal t _ _)) : Sem Value).run P w' = _
          rw [Sem.run_bind, h1]; rfl
        simp only [execOp, ho, Sem.run_bind, hg, hb, Result.andThen_ok]; rfl
      · rename_i e he
        obtain ⟨rfl, rfl⟩ := some_inj2 h
        obtain ⟨h1, h2⟩ := eqAgg_sound (env := env) (η := η) he w'
        have hg : (eqGuard .neq t x y (a.eval x) (a.eval y)).run P w' = .ok () w' := by
          rw [ex, ey]; simp [eqGuard, h2]
        have hb : (binOp .neq t (a.eval x) (a.eval y)).run P w' = .ok (.bool (!vb (e.den env).1)) w' := by
          rw [ex, ey]
          show (do pure (.bool (!(← Op.equal t _ _))) : Sem Value).run P w' = _
          rw [Sem.run_bind, h1]; rfl
        simp only [execOp, ho, Sem.run_bind, hg, hb, Result.andThen_ok]; rfl
      · cases h
    · cases h
  | unOp op t x =>
    rw [ho] at h
    simp only [seVal] at h
    split at h
    · rename_i x' hx
      obtain ⟨rfl, rfl⟩ := some_inj2 h
      have ex := hr.ev hx
      simp only [SV.den, TV.den, S.den] at ex
      simp [execOp, ho, ex, Op.unary, SV.den, TV.den, S.den, X.den]
    · rename_i k x' hx
      obtain ⟨rfl, rfl⟩ := some_inj2 h
      have ex := hr.ev hx
      simp only [SV.den, TV.den, S.den] at ex
      simp [execOp, ho, ex, Op.unary, Op.intArith, SV.den, TV.den, S.den, X.den]
    · cases h
  | convert s d x =>
    rw [ho] at h
    simp only [seVal] at h
    split at h
    · rename_i k x' hs hu hx
      obtain ⟨rfl, rfl⟩ := some_inj2 h
      have ex := hr.ev hx
      simp only [SV.den, TV.den, S.den] at ex
      simp only [execOp, ho, ex, convert, Sem.run_bind, run_underlying_some hs, run_underlying_some hu, Result.andThen_ok]
      rfl
    · cases h
  | fieldAddr t x f =>
    rw [ho] at h
    simp only [seVal] at h
    split at h
    · rename_i fs hu
      split at h
      · rename_i fd hf
        split at h
        · rename_i n hn
          split at h
          · rename_i b off hx
            obtain ⟨rfl, rfl⟩ := some_inj2 h
            have ex := hr.ev hx
            simp only [SV.den, TV.den, S.den] at ex
            simp only [execOp, ho, ex, Instr.fieldAt, Sem.run_bind, run_underlying_some hu, Result.andThen_ok, hf, Instr.sureAddr, Sem.run_pure, run_fieldPlace hn, SV.den, TV.den, S.den]
            unfold Addr.add
            split <;> simp_all
          · rename_i s i z off hx
            obtain ⟨rfl, rfl⟩ := some_inj2 h
            obtain ⟨p, n', c, sz, els, e1, _⟩ := inRow_ok hr.hg hds
            have ex := hr.ev hx
            simp only [SV.den, TV.den, S.den, e1, va_slice, Option.map_some] at ex
            simp only [execOp, ho, ex, Instr.fieldAt, Sem.run_bind, run_underlying_some hu, Result.andThen_ok, hf, Instr.sureAddr, Sem.run_pure, run_fieldPlace hn, SV.den, TV.den, S.den, e1, va_slice, Option.map_some, Addr.add_add, Nat.add_assoc]
          · cases h
        · cases h
      · cases h
    · cases h
  | field t x f =>
    rw [ho] at h
    simp only [seVal] at h
    split at h
    · rename_i fs hu
      split at h
      · rename_i fd l hf hx
        obtain ⟨v', hv, e⟩ := map_inj h
        obtain ⟨rfl, rfl⟩ := Prod.mk.inj e
        have ex := hr.ev hx
        simp only [SV.den, TV.den] at ex
        simp only [execOp, ho, ex, Instr.field, Sem.run_bind, run_underlying_some hu, Result.andThen_ok, hf, asAgg, Sem.run_pure, run_part hv]
      · cases h
    · cases h
  | extract t j =>
    rw [ho] at h
    simp only [seVal] at h
    split at h
    · rename_i l hx
      obtain ⟨v', hv, e⟩ := map_inj h
      obtain ⟨rfl, rfl⟩ := Prod.mk.inj e
      have ex := hr.ev hx
      simp only [SV.den] at ex
      simp [execOp, ho, ex, Instr.extract, hv, SV.den]
    · cases h
  | nilCheck x =>
    rw [ho] at h
    simp only [seVal] at h
    split at h
    · rename_i b off hx
      obtain ⟨rfl, rfl⟩ := some_inj2 h
      have ex := hr.ev hx
      simp only [SV.den, TV.den, S.den] at ex
      simp [execOp, ho, ex, SV.den, TV.den, S.den]
    · cases h
  | indexAddr t x ix =>
    rw [ho] at h
    simp only [seVal] at h
    split at h
    · rename_i e hu
      split at h
      · rename_i s k i z hx hi hz
        obtain ⟨rfl, rfl⟩ := some_inj2 h
        obtain ⟨p, n', c, sz, els, e1, e2, e3, e4⟩ := inRow_ok hr.hg hds
        have ex := hr.ev hx
        have ei := hr.ev hi
        simp only [SV.den, TV.den, S.den, e1] at ex ei
        simp only [execOp, ho, ex, ei, Instr.indexAt, asIntOf, Sem.run_bind, run_underlying_some hu, Result.andThen_ok, Sem.run_pure, SV.den, TV.den, S.den, e1, va_slice, Option.map_some, Nat.add_zero]
        simp [e3, e4, run_sizeOf_some hz]
      · cases h
    · rename_i n e hu
      split at h
      · rename_i b off k i z hx hi hz
        split at h
        · rename_i hb
          obtain ⟨rfl, rfl⟩ := some_inj2 h
          have ex := hr.ev hx
          have ei := hr.ev hi
          simp only [SV.den, TV.den, S.den, X.den, vi_int] at ex ei
          simp only [execOp, ho, ex, ei, Instr.indexAt, asIntOf, Sem.run_bind, run_underlying_some hu, Result.andThen_ok, Sem.run_pure, SV.den, TV.den, S.den, Instr.sureAddr]
          simp only [hb, and_self, if_true, run_sizeOf_some hz, Sem.run_bind, Result.andThen_ok, Sem.run_pure]
          unfold Addr.add
          split <;> simp_all
        · cases h
      · cases h
    · cases h
  | index t x ix =>
    rw [ho] at h
    simp only [seVal] at h
    split at h
    · rename_i n e hu
      split at h
      · rename_i l k i z hx hi hz
        split at h
        · rename_i hb
          obtain ⟨v', hv, e⟩ := map_inj h
          obtain ⟨rfl, rfl⟩ := Prod.mk.inj e
          have ex := hr.ev hx
          have ei := hr.ev hi
          simp only [SV.den, TV.den, S.den, X.den, vi_int] at ex ei
          simp only [execOp, ho, ex, ei, Instr.index, asIntOf, Sem.run_bind, run_underlying_some hu, Result.andThen_ok, Sem.run_pure]
          simp only [hb, and_self, if_true, run_sizeOf_some hz, Sem.run_bind, Result.andThen_ok, run_part hv]
        · cases h
      · cases h
    · rename_i hu
      split at h
      · rename_i s k i hx hi
        obtain ⟨rfl, rfl⟩ := some_inj2 h
        have h3 : Nd.ok env (.tru (cmpX .leq (.int 0) i)) := hds _ (by simp)
        have h4 : Nd.ok env (.tru (.cmp .lss i (.size s))) := hds _ (by simp)
        simp only [Nd.ok, cmpX_den, X.den, vi_int, cmpD] at h3
        simp only [Nd.ok, X.den, vi_int, cmpD, vb_bool] at h4
        replace h3 := of_decide_eq_true h3
        replace h4 := of_decide_eq_true h4
        have ex := hr.ev hx
        have ei := hr.ev hi
        simp only [SV.den, TV.den, S.den] at ex ei
        have h5 : (vi (i.den env).1).toNat < (vs (s.den env).1).size := by omega
        simp only [execOp, ho, ex, ei, Instr.index, asIntOf, Sem.run_bind, run_underlying_some hu, Result.andThen_ok, Sem.run_pure, h3, if_true, SV.den, TV.den, S.den, X.den]
        simp [h5]
      · cases h
    · cases h
  | build t parts =>
    rw [ho] at h
    simp only [seVal] at h
    split at h
    · rename_i z ps hz hps
      obtain ⟨it, zv, h1, h2, h3⟩ := zero_info (env := env) (η := η) hz
      have hfill : ∀ {place : Nat → Option (Nat × Nat)} {l : List S}, fillS place z ps = some l → Instr.fill place zv.cells (parts.map fun (i, x) => (i, a.eval x)).toList = some (l.map (S.den env η)).toArray := by
        intro place l hl
        rw [h3]
        refine fill_sound hl ?_ ?_
        · rw [(allSome_map hps).1]; simp
        · intro i p q hp hq
          simp only [Array.toList_map, List.getElem?_map] at hq
          cases hx : parts.toList[i]? with
          | none => rw [hx] at hq; cases hq
          | some px =>
            rw [hx] at hq
            simp only [Option.map_some, Option.some.injEq] at hq
            obtain ⟨y, hy, hy2⟩ := (allSome_map hps).2 i px hx
            rw [hp] at hy2
            obtain rfl := Option.some.inj hy2
            cases hv : st.ev px.2 with
            | none => rw [hv] at hy; cases hy
            | some v' =>
              rw [hv] at hy
              simp only [Option.bind_some] at hy
              cases v' with
              | tup l => cases hy
              | one t =>
                simp only [partOf] at hy
                split at hy
                · rename_i hok
                  injection hy with hy
                  subst hy
                  subst hq
                  exact ⟨rfl, by rw [hr.ev hv]; exact TV.cells_den hr.hg hok⟩
                · cases hy
      split at h
      · rename_i fs hu
        split at h
        · rename_i pl hpl
          obtain ⟨l, hl, e⟩ := map_inj h
          obtain ⟨rfl, rfl⟩ := Prod.mk.inj e
          have hb : P.built t (parts.map fun (i, x) => (i, a.eval x)).toList = some (l.map (S.den env η)).toArray := by
            have := mapM_allSome hpl
            simp only [sizeO, Option.map_map, Function.comp_def] at this
            simp only [Program.built, h1, hu, h2, this]
            have := hfill hl
            simpa using this
          simp only [execOp, ho, Sem.run_bind, run_build w' t _ _ hb]; rfl
        · cases h
      · rename_i n e hu
        split at h
        · rename_i sz hsz
          obtain ⟨l, hl, e'⟩ := map_inj h
          obtain ⟨rfl, rfl⟩ := Prod.mk.inj e'
          obtain ⟨ie, hie, rfl⟩ := info_of_size hsz
          have hb : P.built t (parts.map fun (i, x) => (i, a.eval x)).toList = some (l.map (S.den env η)).toArray := by
            simp only [Program.built, h1, hu, h2, hie]
            exact hfill hl
          simp only [execOp, ho, Sem.run_bind, run_build w' t _ _ hb]; rfl
        · cases h
      · cases h
    · cases h
  | makeFunc fn first captured =>
    rw [ho] at h
    cases fn with
    | func f =>
      simp only [seVal] at h
      split at h
      · rename_i h0
        obtain ⟨l, hl, e⟩ := map_inj h
        obtain ⟨rfl, rfl⟩ := Prod.mk.inj e
        cases hcs : allSome (captured.toList.map st.ev) with
        | none => rw [hcs] at hl; cases hl
        | some vs =>
          rw [hcs] at hl
          simp only [Option.bind_some] at hl
          have e1 := hr.evs hcs
          have e2 := capsOf_sound (env := env) (η := η) hl
          have e3 : first = #[] := by simpa using h0
          subst e3
          simp only [execOp, ho, Instr.makeFunc, Sem.run_bind, Sem.run_pure, Result.andThen_ok, SV.den, TV.den, S.den]
          rw [e2] at e1
          have e4 : Array.map a.eval captured = (l.map fun b => Value.pointer (some ⟨η.getD b 0, 0, none⟩)).toArray := by
            apply Array.ext'
            rw [Array.toList_map, e1]
          rw [e4, Array.map_empty]
      · cases h
    | _ => simp [seVal] at h
  | call c =>
    rw [ho] at h
    simp only [seVal] at h
    split at h
    · rename_i hc
      rw [call_builtin ho hc]
      split at h
      · rename_i t x ht hargs
        have hal : c.args = #[x] := by apply Array.ext'; simpa using hargs
        split at h
        · rename_i e s hu hx
          obtain ⟨rfl, rfl⟩ := some_inj2 h
          have ex := hr.ev hx
          obtain ⟨p, n, c', hk⟩ := (hds (.kind .slc s) (by simp))
          simp only [SV.den, TV.den, S.den, hk] at ex
          simp [builtin, Builtin.len_, ht, hal, ex, run_underlying_some hu, goInt, SV.den, TV.den, S.den, X.den, hk]
        · rename_i s hu hx
          obtain ⟨rfl, rfl⟩ := some_inj2 h
          have ex := hr.ev hx
          simp only [SV.den, TV.den, S.den] at ex
          simp [builtin, Builtin.len_, ht, hal, ex, run_underlying_some hu, goInt, SV.den, TV.den, S.den, X.den]
        · rename_i n e v' hu hx
          obtain ⟨rfl, rfl⟩ := some_inj2 h
          simp [builtin, Builtin.len_, ht, hal, run_underlying_some hu, goInt, SV.den, TV.den, S.den, X.den]
        · cases h
      · cases h
    · rename_i hc
      rw [call_builtin ho hc]
      split at h
      · rename_i s l hl
        obtain ⟨r, hm, e⟩ := map_inj h
        obtain ⟨rfl, rfl⟩ := Prod.mk.inj e
        have h1 := hr.evs hl
        have h2 := mm_run (P := P) (env := env) (η := η) hm w'
        have h3 : (c.args.map a.eval).toList = SV.den env η (.one (.s s)) :: l.map (SV.den env η) := by rw [Array.toList_map, h1]; rfl
        simp only [builtin, Builtin.min_, h3, Sem.run_bind]
        simp only [SV.den, TV.den]
        rw [show (List.foldlM Builtin.min2 (s.den env η) (l.map (SV.den env η))).run P w' = _ from h2]; rfl
      · cases h
    · rename_i hc
      rw [call_builtin ho hc]
      split at h
      · rename_i s l hl
        obtain ⟨r, hm, e⟩ := map_inj h
        obtain ⟨rfl, rfl⟩ := Prod.mk.inj e
        have h1 := hr.evs hl
        have h2 := mm_run (P := P) (env := env) (η := η) hm w'
        have h3 : (c.args.map a.eval).toList = SV.den env η (.one (.s s)) :: l.map (SV.den env η) := by rw [Array.toList_map, h1]; rfl
        simp only [builtin, Builtin.max_, h3, Sem.run_bind]
        simp only [SV.den, TV.den]
        rw [show (List.foldlM Builtin.max2 (s.den env η) (l.map (SV.den env η))).run P w' = _ from h2]; rfl
      · cases h
    · cases h
  | _ => rw [ho] at h; simp [seVal] at h
end
end Go.Proofs.YtmhfooalcohpgaaV
