/- Vcg, part 5: an operation that yields a value. -/
import Derived.Test.YtmhfooalcohpgaaVS2
import Derived.Laws.StructEq
namespace Go.Proofs.YtmhfooalcohpgaaV
open Go Go.RowKit

section
variable {w0 : Base} {w : World} {st : St} {env : List Atom} {η : List Nat} {m : Addr → Option Value} {a : Act} {P : Program}
theorem S.den_one {s : S} (hg : ∀ x ∈ env, Good m x) (h : okCell s = true) : (s.den env η).oneCell' = true := by
  cases s with
  | junk => simp [okCell] at h
  | undef => simp [okCell] at h
  | slc x => exact (X.good hg x).2
  | any x => exact (X.good hg x).2
  | cst v => exact h
  | _ => rfl
theorem run_underlying_some {t : TypeId} {d : TypeDesc} (h : P.underlying t = some d) (w : World) : (underlying t).run P w = .ok d w := by
  simp [underlying, h]
theorem run_sizeOf_some {t : TypeId} {n : Nat} (h : sizeO P t = some n) (w : World) : (sizeOf t).run P w = .ok n w := by
  unfold sizeO at h
  cases hi : P.info? t with
  | none => rw [hi] at h; cases h
  | some i => rw [hi] at h; simp only [Option.map_some, Option.some.injEq] at h; simp [sizeOf, typeInfo, hi, h]
theorem run_isAgg_some {t : TypeId} {b : Bool} (h : isAggB P t = some b) (w : World) : (isAgg t).run P w = .ok b w := by
  unfold isAggB at h
  cases hu : P.underlying t with
  | none => rw [hu] at h; cases h
  | some d =>
    rw [hu] at h
    simp only [isAgg, Sem.run_bind, run_underlying_some hu, Result.andThen_ok]
    cases d <;> simp only [Option.some.injEq] at h <;> subst h <;> rfl
theorem run_part {t : TypeId} {l : List S} {off : Nat} {v : SV} (h : partS P t l off = some v) (w : World) : (part t (l.map (S.den env η)).toArray off).run P w = .ok (v.den env η) w := by
  unfold partS at h
  split at h
  · rename_i n hA hn
    split at h
    · cases h
    · rename_i hlen
      injection h with h
      subst h
      simp only [part, Sem.run_bind, run_isAgg_some hA, run_sizeOf_some hn, Result.andThen_ok, SV.den, TV.den, if_true, Sem.run_pure, List.map_take, List.map_drop]
      congr 2
      apply Array.ext'
      simp
  · rename_i hA
    split at h
    · rename_i x hx
      injection h with h
      subst h
      simp [part, run_isAgg_some hA, SV.den, TV.den, hx]
    · cases h
  · cases h
theorem eqGuard_int {op : BinOp} {t : TypeId} {x y : Operand} {k k' : IntKind} {p q : Int} (w : World) : (eqGuard op t x y (.int k p) (.int k' q)).run P w = .ok () w := by
  unfold eqGuard; split <;> simp
theorem eqGuard_bool {op : BinOp} {t : TypeId} {x y : Operand} {p q : Bool} (w : World) : (eqGuard op t x y (.bool p) (.bool q)).run P w = .ok () w := by
  unfold eqGuard; split <;> simp
theorem eqGuard_str {op : BinOp} {t : TypeId} {x y : Operand} {p q : ByteArray} (w : World) : (eqGuard op t x y (.string p) (.string q)).run P w = .ok () w := by
  unfold eqGuard; split <;> simp
theorem cmpX_den (op : BinOp) (x y : X) : vb ((cmpX op x y).den env).1 = cmpD op (vi (x.den env).1) (vi (y.den env).1) := by
  unfold cmpX
  split <;> rfl
theorem arX_den (op : BinOp) (k : IntKind) (x y : X) : vi ((arX op k x y).den env).1 = arD op k (vi (x.den env).1) (vi (y.den env).1) := by
  unfold arX
  split <;> rfl
theorem intCmp_run {op : BinOp} (h : isCmp op = true) (x y : Int) (w : World) : (Op.intCmp op x y).run P w = .ok (.bool (cmpD op x y)) w := by
  cases op <;> simp [isCmp] at h <;> rfl
theorem ar_run {op : BinOp} (h : isAr op = true) (k : IntKind) (t : TypeId) (x y : Int) (w : World) : (binOp op t (.int k x) (.int k y)).run P w = .ok (.int k (arD op k x y)) w := by
  cases op <;> simp [isAr] at h <;> simp [binOp, Op.intArith, Op.intBits, arD, bitsD]
theorem cmp_run {op : BinOp} (h : isCmp op = true) (k : IntKind) (t : TypeId) (x y : Int) (w : World) : (binOp op t (.int k x) (.int k y)).run P w = .ok (.bool (cmpD op x y)) w := by
  have := intCmp_run (P := P) h x y w
  cases op <;> simp [isCmp] at h <;> simpa [binOp] using this
theorem div_run {op : BinOp} (h : (op == .quo || op == .rem) = true) (k : IntKind) (t : TypeId) (x y : Int) (hy : cmpD .neq y 0 = true) (w : World) : (binOp op t (.int k x) (.int k y)).run P w = .ok (.int k (arD op k x y)) w := by
  have hy' : y ≠ 0 := by simpa [cmpD] using hy
  cases op <;> simp at h <;> simp [binOp, Op.intDiv, arD, quoD, remD, hy']
theorem sh_run {op : BinOp} (h : (op == .shl || op == .shr) = true) (k k' : IntKind) (t : TypeId) (x y : Int) (hy : cmpD .geq y 0 = true) (w : World) : (binOp op t (.int k x) (.int k' y)).run P w = .ok (.int k (arD op k x y)) w := by
  have hy' : ¬ y < 0 := by simp [cmpD] at hy; omega
  cases op <;> simp at h <;> simp [binOp, Op.shift, arD, hy']
theorem run_equalIn_bool (d : Nat) {t : TypeId} (hu : P.underlying t = some .bool) (p q : Bool) (w : World) : (Op.equalIn (d + 1) t (.bool p) (.bool q)).run P w = .ok (p == q) w := by
  unfold Op.equalIn
  simp only [Sem.run_bind, run_underlying_some hu, Result.andThen_ok, Sem.run_pure]
theorem run_equal_bool {t : TypeId} (hu : P.underlying t = some .bool) (p q : Bool) (w : World) : (Op.equal t (.bool p) (.bool q)).run P w = .ok (p == q) w := run_equalIn_bool 9999 hu p q w
theorem eql_bool_run {t : TypeId} (hu : P.underlying t = some .bool) (p q : Bool) (w : World) : (binOp .eql t (.bool p) (.bool q)).run P w = .ok (.bool (p == q)) w := by
  show (do pure (.bool (← Op.equal t (.bool p) (.bool q))) : Sem Value).run P w = _
  rw [Sem.run_bind, run_equal_bool hu]; rfl
theorem neq_bool_run {t : TypeId} (hu : P.underlying t = some .bool) (p q : Bool) (w : World) : (binOp .neq t (.bool p) (.bool q)).run P w = .ok (.bool (!(p == q))) w := by
  show (do pure (.bool (!(← Op.equal t (.bool p) (.bool q)))) : Sem Value).run P w = _
  rw [Sem.run_bind, run_equal_bool hu]; rfl
theorem binS_sound {op : BinOp} {t : TypeId} {p q : S} {ds : List Nd} {v : SV} (h : binS P op t p q = some (ds, v)) (hds : ∀ d ∈ ds, d.ok env) (x y : Operand) (w : World) :
    (do eqGuard op t x y (p.den env η) (q.den env η); binOp op t (p.den env η) (q.den env η) : Sem Value).run P w = .ok (v.den env η) w := by
  unfold binS at h
  split at h
  · simp only [S.den, Sem.run_bind, eqGuard_int, Result.andThen_ok]
    split at h
    · rename_i hop
      simp only [Option.some.injEq, Prod.mk.injEq] at h
      obtain ⟨rfl, rfl⟩ := h
      have h1 := hds _ List.mem_cons_self
      simp only [Nd.ok, cmpX_den] at h1
      rw [sh_run hop _ _ _ _ _ h1]; rfl
    · split at h
      · cases h
      · rename_i hk
        simp only [bne_iff_ne, ne_eq, Decidable.not_not] at hk
        subst hk
        split at h
        · rename_i hop
          simp only [Option.some.injEq, Prod.mk.injEq] at h
          obtain ⟨rfl, rfl⟩ := h
          rw [ar_run hop]; simp only [SV.den, TV.den, S.den, arX_den]
        · split at h
          · rename_i hop
            simp only [Option.some.injEq, Prod.mk.injEq] at h
            obtain ⟨rfl, rfl⟩ := h
            have h1 := hds _ List.mem_cons_self
            simp only [Nd.ok, cmpX_den] at h1
            rw [div_run hop _ _ _ _ h1]; rfl
          · split at h
            · rename_i hop
              simp only [Option.some.injEq, Prod.mk.injEq] at h
              obtain ⟨rfl, rfl⟩ := h
              rw [cmp_run hop]; simp only [SV.den, TV.den, S.den, cmpX_den]
            · cases h
  · simp only [S.den, Sem.run_bind, eqGuard_bool, Result.andThen_ok]
    split at h
    · rename_i hu
      split at h
      · rename_i hop
        simp only [Option.some.injEq, Prod.mk.injEq] at h
        obtain ⟨rfl, rfl⟩ := h
        obtain rfl : op = .eql := by simpa using hop
        rw [eql_bool_run hu]; rfl
      · split at h
        · rename_i hop
          simp only [Option.some.injEq, Prod.mk.injEq] at h
          obtain ⟨rfl, rfl⟩ := h
          obtain rfl : op = .neq := by simpa using hop
          rw [neq_bool_run hu]; rfl
        · cases h
    · cases h
  · simp only [S.den, Sem.run_bind, eqGuard_str, Result.andThen_ok]
    split at h
    · simp only [Option.some.injEq, Prod.mk.injEq] at h
      obtain ⟨rfl, rfl⟩ := h
      simp [binOp, Op.stringOp, SV.den, TV.den, S.den, X.den, vb]
    · simp only [Option.some.injEq, Prod.mk.injEq] at h
      obtain ⟨rfl, rfl⟩ := h
      simp [binOp, Op.stringOp, SV.den, TV.den, S.den, X.den, vb]
    · simp only [Option.some.injEq, Prod.mk.injEq] at h
      obtain ⟨rfl, rfl⟩ := h
      simp [binOp, Op.stringOp, SV.den, TV.den, S.den, X.den, vb]
    · simp only [Option.some.injEq, Prod.mk.injEq] at h
      obtain ⟨rfl, rfl⟩ := h
      simp [binOp, Op.stringOp, SV.den, TV.den, S.den, X.den, vb]
    · simp only [Option.some.injEq, Prod.mk.injEq] at h
      obtain ⟨rfl, rfl⟩ := h
      have h1 := hds _ List.mem_cons_self
      simp only [Nd.ok, X.den, vb_bool, vi_int, vs_string, cmpD, ByteArray.size_append, decide_eq_true_eq] at h1
      simp only [binOp, Op.stringOp, SV.den, TV.den, S.den, X.den, vs_string]
      rw [if_neg (by rw [show IntKind.i64.max = 9223372036854775807 by decide]; exact Int.not_lt.mpr h1)]
      rfl
    · cases h
  · cases h
theorem run_equalIn_int (d : Nat) {t : TypeId} {k0 : IntKind} (hu : P.underlying t = some (.int k0)) (k : IntKind) (p q : Int) (w : World) : (Op.equalIn (d + 1) t (.int k p) (.int k q)).run P w = .ok (p == q) w := by
  unfold Op.equalIn
  simp only [Sem.run_bind, run_underlying_some hu, Result.andThen_ok, if_true, Sem.run_pure]
theorem run_equalIn_str (d : Nat) {t : TypeId} (hu : P.underlying t = some .string) (p q : ByteArray) (w : World) : (Op.equalIn (d + 1) t (.string p) (.string q)).run P w = .ok (p == q) w := by
  unfold Op.equalIn
  simp only [Sem.run_bind, run_underlying_some hu, Result.andThen_ok, Sem.run_pure]
theorem eqCell_sound {t : TypeId} {p q : S} {x : X} (h : eqCell P t p q = some x) (d : Nat) (w : World) : (Op.equalIn (d + 1) t (p.den env η) (q.den env η)).run P w = .ok (vb (x.den env).1) w := by
  unfold eqCell at h
  split at h
  · split at h
    · rename_i hu
      split at h
      · rename_i hk
        have hk : _ = _ := beq_iff_eq.1 hk
        subst hk
        injection h with h
        subst h
        simp only [S.den, run_equalIn_int d hu, cmpX_den]; rfl
      · cases h
    · cases h
  · split at h
    · rename_i hu
      injection h with h
      subst h
      simp only [S.den, run_equalIn_bool d hu]; rfl
    · cases h
  · split at h
    · rename_i hu
      injection h with h
      subst h
      simp only [S.den, run_equalIn_str d hu, beq_toListBytes]; rfl
    · cases h
  · cases h
theorem andX_den (x y : X) : vb ((andX x y).den env).1 = (vb (x.den env).1 && vb (y.den env).1) := by
  unfold andX
  split
  · simp [X.den]
  · simp only [X.den]
    split <;> simp_all [X.den]
theorem part_one {t : TypeId} (hA : isAggB P t = some false) {l : List S} {off : Nat} {s : S} (h : l[off]? = some s) (w : World) : (part t (l.map (S.den env η)).toArray off).run P w = .ok (s.den env η) w := by
  simp [part, run_isAgg_some hA, h]
theorem eqFs_sound {l m : List S} (d : Nat) (w : World) : ∀ {fs : List Field} {x : X}, eqFs P l m fs = some x → (Op.eqFields (d + 1) (l.map (S.den env η)).toArray (m.map (S.den env η)).toArray fs).run P w = .ok (vb (x.den env).1) w
  | [], x, h => by simp only [eqFs, Option.some.injEq] at h; subst h; rfl
  | f :: fs, x, h => by
    simp only [eqFs] at h
    split at h
    · rename_i a b r hn hA ha hb hr
      cases he : eqCell P f.type a b with
      | none => rw [he] at h; cases h
      | some e =>
        rw [he] at h
        simp only [Option.map_some, Option.some.injEq] at h
        subst h
        have hn' : f.name ≠ "_" := by simpa using hn
        simp only [Op.eqFields, if_pos hn', Sem.run_bind, part_one hA ha, part_one hA hb, Result.andThen_ok, eqCell_sound (env := env) (η := η) he d w, andX_den]
        cases hx : vb (e.den env).1 with
        | false => simp
        | true => simpa using eqFs_sound d w hr
    · cases h
theorem eqAgg_sound {t : TypeId} {l m : List S} {x : X} (h : eqAgg P t l m = some x) (w : World) : (Op.equal t (.agg (l.map (S.den env η)).toArray) (.agg (m.map (S.den env η)).toArray)).run P w = .ok (vb (x.den env).1) w ∧ P.eqGuardType P.depth t = false := by
  unfold eqAgg at h
  split at h
  · rename_i fs hu
    split at h
    · rename_i hc
      simp only [Bool.and_eq_true, beq_iff_eq] at hc
      refine ⟨?_, hc.2⟩
      have hf : P.fieldsOf t = fs := by simp [Program.fieldsOf, hu]
      show (Op.equalIn (9999 + 1) t _ _).run P w = _
      rw [run_equalIn_struct (P := P) w 9999 t _ _ (by rw [hf]; exact hu) hc.1, hf]
      exact eqFs_sound 9998 w h
    · cases h
  · cases h
theorem mnmx_sound {mxB : Bool} : ∀ {l : List SV} {s r : S} {k : IntKind} {p : X}, s = .int k p → mnmx mxB s l = some r → ∀ w, ((l.map (SV.den env η)).foldlM (if mxB then Builtin.max2 else Builtin.min2) (s.den env η)).run P w = .ok (r.den env η) w
  | [], s, r, k, p, _, h, w => by simp only [mnmx, Option.some.injEq] at h; subst h; simp
  | .one (.s (.int k' q)) :: l, s, r, k, p, e, h, w => by
    subst e
    simp only [mnmx] at h
    simp only [List.map_cons, List.foldlM_cons, Sem.run_bind]
    have h1 : ((if mxB then Builtin.max2 else Builtin.min2) (S.den env η (.int k p)) (SV.den env η (.one (.s (.int k' q))))).run P w = .ok (S.den env η (.int k (if mxB = true then p.mx q else p.mn q))) w := by
      cases mxB <;> rfl
    rw [h1]
    exact mnmx_sound rfl h w
  | .one (.s .junk) :: l, s, r, k, p, e, h, w => by subst e; simp [mnmx] at h
  | .one (.s .undef) :: l, s, r, k, p, e, h, w => by subst e; simp [mnmx] at h
  | .one (.s (.bool _)) :: l, s, r, k, p, e, h, w => by subst e; simp [mnmx] at h
  | .one (.s (.str _)) :: l, s, r, k, p, e, h, w => by subst e; simp [mnmx] at h
  | .one (.s (.slc _)) :: l, s, r, k, p, e, h, w => by subst e; simp [mnmx] at h
  | .one (.s (.any _)) :: l, s, r, k, p, e, h, w => by subst e; simp [mnmx] at h
  | .one (.s (.ptr _ _)) :: l, s, r, k, p, e, h, w => by subst e; simp [mnmx] at h
  | .one (.s (.eptr _ _ _ _)) :: l, s, r, k, p, e, h, w => by subst e; simp [mnmx] at h
  | .one (.s (.fn _ _)) :: l, s, r, k, p, e, h, w => by subst e; simp [mnmx] at h
  | .one (.s (.cst _)) :: l, s, r, k, p, e, h, w => by subst e; simp [mnmx] at h
  | .one (.agg _) :: l, s, r, k, p, e, h, w => by subst e; simp [mnmx] at h
  | .tup _ :: l, s, r, k, p, e, h, w => by subst e; simp [mnmx] at h
theorem allSome_map {α β : Type} {f : α → Option β} : ∀ {l : List α} {r : List β}, allSome (l.map f) = some r → r.length = l.length ∧ ∀ (i : Nat) x, l[i]? = some x → ∃ y, f x = some y ∧ r[i]? = some y
  | [], r, h => by simp only [List.map_nil, allSome, Option.some.injEq] at h; subst h; simp
  | x :: l, r, h => by
    simp only [List.map_cons] at h
    cases hx : f x with
    | none => rw [hx] at h; simp [allSome] at h
    | some y =>
      rw [hx] at h
      simp only [allSome] at h
      cases hl : allSome (l.map f) with
      | none => rw [hl] at h; cases h
      | some r' =>
        rw [hl] at h
        simp only [Option.map_some, Option.some.injEq] at h
        subst h
        obtain ⟨h1, h2⟩ := allSome_map hl
        refine ⟨by simp [h1], fun i z hz => ?_⟩
        cases i with
        | zero => simp only [List.getElem?_cons_zero, Option.some.injEq] at hz; subst hz; exact ⟨y, hx, rfl⟩
        | succ i => exact h2 i z hz
theorem allSome_den {α β γ : Type} {f : α → Option β} {g : α → γ} {d : β → γ} (hfg : ∀ x y, f x = some y → g x = d y) : ∀ {l : List α} {r : List β}, allSome (l.map f) = some r → l.map g = r.map d := by
  intro l r h
  obtain ⟨h1, h2⟩ := allSome_map h
  apply List.ext_getElem?
  intro i
  simp only [List.getElem?_map]
  cases hx : l[i]? with
  | none =>
    have : l.length ≤ i := List.getElem?_eq_none_iff.1 hx
    rw [List.getElem?_eq_none_iff.2 (by omega)]; rfl
  | some x =>
    obtain ⟨y, hy, hr⟩ := h2 i x hx
    rw [hr]
    simp [hfg x y hy]
theorem Rel.evs (hr : Rel w0 st env η m a w) {l : List Operand} {vs : List SV} (h : allSome (l.map st.ev) = some vs) : l.map a.eval = vs.map (SV.den env η) :=
  allSome_den (fun _ _ hx => hr.ev hx) h
theorem capsOf_sound : ∀ {l : List SV} {bs : List Nat}, capsOf l = some bs → l.map (SV.den env η) = bs.map (fun b => Value.pointer (some ⟨η.getD b 0, 0, none⟩))
  | [], bs, h => by simp only [capsOf, Option.some.injEq] at h; subst h; rfl
  | x :: l, bs, h => by
    unfold capsOf at h
    split at h
    · rename_i hx; cases hx
    · rename_i b r hx
      obtain ⟨rfl, rfl⟩ := List.cons.inj hx
      cases hl : capsOf l with
      | none => rw [hl] at h; cases h
      | some bs' =>
        rw [hl] at h
        simp only [Option.map_some, Option.some.injEq] at h
        subst h
        simp only [List.map_cons, capsOf_sound hl]; rfl
    · cases h
theorem fill_sound {place : Nat → Option (Nat × Nat)} : ∀ {ps : List (Nat × List S)} {cells r : List S} {qs : List (Nat × Value)}, fillS place cells ps = some r → qs.length = ps.length →
    (∀ (i : Nat) p q, ps[i]? = some p → qs[i]? = some q → q.1 = p.1 ∧ q.2.cells = (p.2.map (S.den env η)).toArray) →
    Instr.fill place (cells.map (S.den env η)).toArray qs = some (r.map (S.den env η)).toArray
  | [], cells, r, qs, h, hl, _ => by
    simp only [fillS, Option.some.injEq] at h
    subst h
    cases qs with
    | nil => rfl
    | cons q qs => simp at hl
  | (i, v) :: ps, cells, r, qs, h, hl, hq => by
    cases qs with
    | nil => simp at hl
    | cons q qs =>
      obtain ⟨i', v'⟩ := q
      obtain ⟨e1, e2⟩ := hq 0 _ _ rfl rfl
      simp only at e1 e2
      subst e1
      simp only [fillS] at h
      simp only [Instr.fill]
      cases hp : place i' with
      | none => rw [hp] at h; cases h
      | some os =>
        obtain ⟨off, size⟩ := os
        rw [hp] at h
        simp only at h ⊢
        split at h
        · cases h
        · rename_i hc
          simp only [Bool.or_eq_true, bne_iff_ne, decide_eq_true_eq, not_or, ne_eq, Decidable.not_not, Nat.not_lt] at hc
          have hs : v'.cells.size = v.length := by rw [e2]; simp
          rw [if_neg (by rw [hs]; simp; omega)]
          have h2 := fill_sound h (by simpa using hl) (fun i p q h1 h2 => hq (i + 1) p q h1 h2)
          rw [← h2]
          congr 1
          rw [e2]
          exact foldl_set v cells off (by omega)
      where
  foldl_set (v cells : List S) (off : Nat) (h : off + v.length ≤ cells.length) :
      (v.map (S.den env η)).toArray.zipIdx.foldl (fun cs (c, j) => cs.setIfInBounds (off + j) c) (cells.map (S.den env η)).toArray = ((cells.take off ++ v ++ cells.drop (off + v.length)).map (S.den env η)).toArray := by
    have key : ∀ (u : List Value) (n : Nat) (cs : List Value), off + n + u.length ≤ cs.length → (u.zipIdx n).foldl (fun cs (p : Value × Nat) => cs.setIfInBounds (off + p.2) p.1) cs.toArray = (cs.take (off + n) ++ u ++ cs.drop (off + n + u.length)).toArray := by
      intro u
      induction u with
      | nil => intro n cs _; simp
      | cons x u ih =>
        intro n cs hl
        simp only [List.length_cons] at hl
        have := ih (n + 1) (cs.set (off + n) x) (by simp; omega)
        simp only [List.zipIdx_cons, List.foldl_cons]
        rw [List.setIfInBounds_toArray, this]
        congr 1
        rw [List.drop_set_of_lt (by omega)]
        have e3 : (cs.set (off + n) x).take (off + (n + 1)) = cs.take (off + n) ++ [x] := by
          rw [← Nat.add_assoc, List.take_add_one, List.take_set_of_le (Nat.le_refl _)]
          congr 1
          rw [List.getElem?_set_self (by omega)]
          rfl
        rw [e3]
        simp only [List.append_assoc, List.cons_append, List.nil_append, List.length_cons]
        rw [show off + (n + 1) + u.length = off + n + (u.length + 1) by omega]
    have := key (v.map (S.den env η)) 0 (cells.map (S.den env η)) (by simp; omega)
    simp only [Nat.add_zero, List.length_map] at this
    rw [← Array.foldl_toList]
    simp only [Array.toList_zipIdx]
    rw [this]
    congr 1
    simp [List.map_take, List.map_drop]
end
end Go.Proofs.YtmhfooalcohpgaaV
