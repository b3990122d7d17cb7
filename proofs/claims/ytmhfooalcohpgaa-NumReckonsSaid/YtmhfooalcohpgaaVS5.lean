/- Vcg, part 7: loads, stores, new blocks, calls. -/
import Derived.Test.YtmhfooalcohpgaaVS4
namespace Go.Proofs.YtmhfooalcohpgaaV
open Go Go.RowKit

section
variable {w0 : Base} {w : World} {st : St} {env : List Atom} {η : List Nat} {m : Addr → Option Value} {a : Act} {P : Program}
theorem RK.S_den {k : RK} {x : X} (h : k.ok (x.den env).1) : (k.S x).den env η = (x.den env).1 := by
  cases k with
  | int k => obtain ⟨n, h⟩ := h; simp [RK.S, S.den, h]
  | bool => obtain ⟨n, h⟩ := h; simp [RK.S, S.den, h]
  | str => obtain ⟨n, h⟩ := h; simp [RK.S, S.den, h]
  | slc => rfl
  | any => rfl
theorem add_mk (g o j : Nat) : (⟨g, o, none⟩ : Addr).add j = ⟨g, o + j, none⟩ := by
  unfold Addr.add; split <;> simp_all
theorem loadVar_agg {t : TypeId} {n : Nat} (hA : isAggB P t = some true) (hn : sizeO P t = some n) {p : Addr} {vs : List Value} (hl : vs.length = n) {w : World} (h : ∀ (j : Nat) v, vs[j]? = some v → w.cell? (p.add j) = some v) :
    (loadVar t p).run P w = .ok (.agg vs.toArray) w := by
  subst hl
  simp only [loadVar, Sem.run_bind, run_isAgg_some hA, Result.andThen_ok, if_true, run_sizeOf_some hn, run_loadCells_list w p vs h, Sem.run_pure]
theorem loadVar_one {t : TypeId} (hA : isAggB P t = some false) {p : Addr} {v : Value} {w : World} (h : w.cell? p = some v) : (loadVar t p).run P w = .ok v w := by
  simp [loadVar, run_isAgg_some hA, h]
theorem exec_load {o : Oper} {t : TypeId} {x : Operand} (ho : o.op = .load t x) {p : Addr} (hx : a.eval x = .pointer (some p)) {w : World} {v : Value} (h : (loadVar t p).run P w = .ok v w) :
    (execOp a.eval o).run P w = .ok (.value v) w := by
  simp [execOp, ho, hx, Instr.loadAt, Instr.sureAddr, h]
theorem cells_cell {w : World} {g : Nat} {l : List S} {t : TypeId} (h : w.heap[g]? = some (.cells (l.map (S.den env η)).toArray t (0, 0))) (o : Nat) : w.cell? ⟨g, o, none⟩ = (l[o]?).map (S.den env η) := by
  simp [World.cell?, h]
theorem load_var (hr : Rel w0 st env η m a w) {t : TypeId} {x : Operand} {ds : List Nd} {v : SV} {b : Nat} (h : seLoad P st t x = some (ds, v, .blk b)) {w' : World}
    (hw : w'.heap[η.getD b 0]? = w.heap[η.getD b 0]?) : ∃ p, a.eval x = .pointer (some p) ∧ (loadVar t p).run P w' = .ok (v.den env η) w' := by
  unfold seLoad at h
  split at h
  · rename_i b' off hx
    have ex := hr.ev hx
    simp only [SV.den, TV.den, S.den] at ex
    split at h
    · rename_i bl hbl
      have hb := hr.hb b' bl hbl
      split at h
      · rename_i n hA hn
        split at h
        · rename_i hc
          simp only [Option.some.injEq, Prod.mk.injEq, Src.blk.injEq] at h
          obtain ⟨rfl, rfl, rfl⟩ := h
          simp only [Bool.and_eq_true, decide_eq_true_eq, List.length_drop] at hc
          rw [← hw] at hb
          refine ⟨_, ex, ?_⟩
          simp only [SV.den, TV.den]
          refine loadVar_agg hA hn (by simp; omega) ?_
          intro j u hj
          rw [add_mk, cells_cell hb]
          simp only [List.getElem?_map, List.getElem?_take, List.getElem?_drop] at hj
          split at hj
          · exact hj
          · cases hj
        · cases h
      · rename_i hA
        split at h
        · cases h
        · rename_i c hc hcell
          simp only [Option.some.injEq, Prod.mk.injEq, Src.blk.injEq] at h
          obtain ⟨rfl, rfl, rfl⟩ := h
          rw [← hw] at hb
          refine ⟨_, ex, loadVar_one hA ?_⟩
          rw [cells_cell hb, hcell]; rfl
        · cases h
      · cases h
    · cases h
  · split at h
    · split at h
      · simp only at h
        split at h
        · simp at h
        · split at h
          · simp at h
          · cases h
        · cases h
      · cases h
    · cases h
  · cases h
theorem load_blk (hr : Rel w0 st env η m a w) {o : Oper} {t : TypeId} {x : Operand} (ho : o.op = .load t x) {ds : List Nd} {v : SV} {b : Nat} (h : seLoad P st t x = some (ds, v, .blk b)) {w' : World}
    (hw : w'.heap[η.getD b 0]? = w.heap[η.getD b 0]?) : (execOp a.eval o).run P w' = .ok (.value (v.den env η)) w' := by
  obtain ⟨p, h1, h2⟩ := load_var hr h hw
  exact exec_load ho h1 h2
theorem cellsAt_get {s i : X} : ∀ {ks : List RK} {o j : Nat} {k : RK}, ks[j]? = some k → (cellsAt s i o ks)[j]? = some (.kind k (.cell s i (o + j)), k.S (.cell s i (o + j)))
  | [], _, _, _, h => by simp at h
  | k' :: ks, o, 0, k, h => by simp only [List.getElem?_cons_zero, Option.some.injEq] at h; subst h; rfl
  | k' :: ks, o, j + 1, k, h => by
    simp only [List.getElem?_cons_succ] at h
    simp only [cellsAt, List.getElem?_cons_succ]
    rw [cellsAt_get h]
    simp [Nat.add_assoc, Nat.add_comm 1 j]
theorem cellsAt_length {s i : X} : ∀ {ks : List RK} {o : Nat}, (cellsAt s i o ks).length = ks.length
  | [], _ => rfl
  | _ :: ks, o => by simp [cellsAt, cellsAt_length]
theorem row_cell {s i : X} {p : Addr} {n c sz : Nat} {els : List (List Atom)} (e1 : s.den env = (.slice (some p) n c, .rows sz els)) (e2 : n = els.length) (h0 : 0 ≤ vi (i.den env).1) (h1 : vi (i.den env).1 < n)
    {m : Addr → Option Value} (hr : Rd m (s.den env).1 (s.den env).2) {j : Nat} (hj : j < sz) : m (p.add ((vi (i.den env).1).toNat * sz + j)) = some ((X.cell s i j).den env).1 := by
  rw [e1] at hr
  cases hr with
  | rows _ _ _ _ hz hc _ _ =>
    have hlt : (vi (i.den env).1).toNat < els.length := by omega
    have hrow : els[(vi (i.den env).1).toNat]? = some els[(vi (i.den env).1).toNat] := List.getElem?_eq_getElem hlt
    have hlen := hz _ _ hrow
    have hat : (els[(vi (i.den env).1).toNat])[j]? = some (els[(vi (i.den env).1).toNat])[j] := List.getElem?_eq_getElem (by omega)
    rw [hc _ _ _ _ hrow hat]
    simp [X.den, e1, cellD, D.els, List.getD_eq_getElem?_getD, hrow, hat]
theorem load_row (hr : Rel w0 st env η m a w) {o : Oper} {t : TypeId} {x : Operand} (ho : o.op = .load t x) {ds : List Nd} {v : SV} {s i : X} (h : seLoad P st t x = some (ds, v, .row s i)) (hds : ∀ d ∈ ds, d.ok env)
    {m1 : Addr → Option Value} (hs : Good m1 (s.den env)) {w' : World} (hw : ∀ ad u, m1 ad = some u → w'.cell? ad = some u) : (execOp a.eval o).run P w' = .ok (.value (v.den env η)) w' := by
  unfold seLoad at h
  split at h
  · split at h
    · split at h
      · split at h
        · simp at h
        · cases h
      · split at h
        · cases h
        · simp at h
        · cases h
      · cases h
    · cases h
  · rename_i s' i' z off hx
    have ex := hr.ev hx
    split at h
    · rename_i ks hks
      split at h
      · rename_i hlen
        simp only [Bool.and_eq_true, decide_eq_true_eq, beq_iff_eq] at hlen
        obtain ⟨hlen, hsize⟩ := hlen
        simp only at h
        have fin : ∀ {ds' : List Nd}, (∀ d ∈ inRow s' i', d.ok env) → Nd.ok env (.sz s' z) → Good m1 (s'.den env) →
            ∃ p, a.eval x = .pointer (some p) ∧ ∀ (j : Nat) k, ks[j]? = some k → w'.cell? (p.add j) = some ((X.cell s' i' (off + j)).den env).1 := by
          intro ds' h1 h2 h3
          obtain ⟨p, n, c, sz, els, e1, e2, e3, e4⟩ := inRow_ok hr.hg h1
          obtain ⟨els', e5⟩ := h2
          rw [e1] at e5
          simp only [D.rows.injEq] at e5
          obtain ⟨rfl, rfl⟩ := e5
          simp only [SV.den, TV.den, S.den, e1, va_slice, Option.map_some] at ex
          refine ⟨_, ex, fun j k hj => ?_⟩
          have hjl : j < ks.length := (List.getElem?_eq_some_iff.1 hj).1
          rw [Addr.add_add, Nat.add_assoc]
          exact hw _ _ (row_cell e1 e2 e3 e4 h3.1 (by omega))
        split at h
        · rename_i hA
          simp only [Option.some.injEq, Prod.mk.injEq, Src.row.injEq] at h
          obtain ⟨rfl, rfl, rfl, rfl⟩ := h
          obtain ⟨p, ep, hc⟩ := fin (ds' := []) (fun d hd => hds d (by simp [hd])) (hds _ (by simp)) hs
          refine exec_load ho ep ?_
          simp only [SV.den, TV.den]
          refine loadVar_agg hA hsize (by simp [cellsAt_length]) ?_
          intro j u hj
          simp only [List.getElem?_map] at hj
          cases hk : ks[j]? with
          | none =>
            have : (cellsAt s' i' off ks)[j]? = none := by rw [List.getElem?_eq_none_iff, cellsAt_length]; exact List.getElem?_eq_none_iff.1 hk
            rw [this] at hj; cases hj
          | some k =>
            rw [cellsAt_get hk] at hj
            simp only [Option.map_some, Option.some.injEq] at hj
            rw [hc j k hk, ← hj]
            rw [RK.S_den]
            have : Nd.kind k (.cell s' i' (off + j)) ∈ (cellsAt s' i' off ks).map (·.1) := List.mem_map.2 ⟨_, List.mem_of_getElem? (cellsAt_get hk), rfl⟩
            exact hds _ (by simp only [List.mem_append, List.mem_cons]; exact .inr (.inr this))
        · rename_i hA
          split at h
          · rename_i d c hl
            simp only [Option.some.injEq, Prod.mk.injEq, Src.row.injEq] at h
            obtain ⟨rfl, rfl, rfl, rfl⟩ := h
            obtain ⟨p, ep, hc⟩ := fin (ds' := []) (fun d hd => hds d (by simp [hd])) (hds _ (by simp)) hs
            refine exec_load ho ep (loadVar_one hA ?_)
            cases ks with
            | nil => simp [cellsAt] at hl
            | cons k ks =>
              simp only [cellsAt, List.cons.injEq, Prod.mk.injEq] at hl
              obtain ⟨⟨rfl, rfl⟩, _⟩ := hl
              have h1 := hc 0 k rfl
              have h2 : p.add 0 = p := by simp [Addr.add]
              rw [h2] at h1
              rw [h1]
              simp only [SV.den, TV.den]
              have h3 : Nd.ok env (.kind k (.cell s' i' off)) := hds _ (by simp)
              rw [RK.S_den h3]; rfl
          · cases h
        · cases h
      · cases h
    · cases h
  · cases h
end
end Go.Proofs.YtmhfooalcohpgaaV
