/- Vcg, part 10: any operation. -/
import Derived.Test.YtmhfooalcohpgaaVS7
namespace Go.Proofs.YtmhfooalcohpgaaV
open Go Go.RowKit Go.Proofs.YtmhfooalcohpgaaW.PrintLast

/-- The contracts that a run may lean on. -/
def ptrs (η : List Nat) (caps : List Nat) : List Value := caps.map fun b => Value.pointer (some ⟨η.getD b 0, 0, none⟩)
/-- Calls within a call are run right. -/
structure HOk (P : Program) (cs : Nat → Sig × Con) (H : Hnd) : Prop where
  bind : ∀ (st : St) (g : FuncId) (caps : List Nat) (vs : List SV) (k : St → SV → T) (f : St → T), (H st g caps vs k).bind f = H st g caps vs (fun s v => (k s v).bind f)
  run : ∀ (w0 : Base) (Post : List Atom → Prop) (L : List (List Atom → Prop)) (st : St) (env : List Atom) (η : List Nat) (m : Addr → Option Value) (a : Act) (w : World) (g : FuncId) (caps : List Nat) (vs : List SV) (k : St → SV → T),
    Rel w0 st env η m a w → (H st g caps vs k).wp cs Post env L → (∃ fn, P.funcs[g]? = some fn ∧ (fn.name == "runtime.NumGoroutine") = false ∧ fn.body.isSome = true) ∧
    ∀ R : Ending → World → Prop, (∀ st' v env' η' m' w', Rel w0 st' env' η' m' a w' → (∃ l, env' = env ++ l) → (∃ l, η' = η ++ l) → (k st' v).wp cs Post env' L → R (.returned (v.den env' η')) w') →
      Calls P g (vs.map (SV.den env η) ++ ptrs η caps).toArray w R
def Table (P : Program) (sigs : Sg) (cs : Nat → Sig × Con) : Prop := (∀ (i : Nat) sg, sigs.l[i]? = some sg → (cs i).1 = sg ∧ holds P (cs i)) ∧ HOk P cs sigs.H
theorem noH_ok {P : Program} {cs : Nat → Sig × Con} : HOk P cs noH := ⟨fun _ _ _ _ _ _ => rfl, fun _ _ _ _ _ _ _ _ _ _ _ _ _ _ h => h.elim⟩
/-- What stands behind an operation, beside the new state. -/
structure Fwd (o : Oper) (env env' : List Atom) (η η' : List Nat) (w w' : World) : Prop where
  env : ∃ l, env' = env ++ l
  eta : ∃ l, η' = η ++ l
  below : isStore o.op = false → Below w.heap.size w w'
section
variable {w0 : Base} {w : World} {st : St} {env : List Atom} {η : List Nat} {m : Addr → Option Value} {a : Act} {P : Program}
theorem wp_value {o : Oper} {w w1 : World} {v : Value} {K : Act → World → Prop} {Q : Exit → Act → World → Prop} (h : (execOp a.eval o).run P w = .ok (.value v) w1) (hK : K (a.put o.dst v) w1) : o.wp P a w K Q := by
  unfold Oper.wp; rw [h]; exact hK
theorem wp_skip' {o : Oper} {w w1 : World} {K : Act → World → Prop} {Q : Exit → Act → World → Prop} (h : (execOp a.eval o).run P w = .ok .skip w1) (hK : K (a.put o.dst Go.undef) w1) : o.wp P a w K Q := by
  unfold Oper.wp; rw [h]; exact hK
theorem Fwd.refl (o : Oper) (w : World) : Fwd o env env η η w w := ⟨⟨[], by simp⟩, ⟨[], by simp⟩, fun _ => Below.refl _ _⟩
theorem seOp_sound {sigs : Sg} {cs : Nat → Sig × Con} (hT : Table P sigs cs) {Post : List Atom → Prop} {L : List (List Atom → Prop)} (hr : Rel w0 st env η m a w) {o : Oper} {k : St → T}
    (h : (seOp P sigs st o k).wp cs Post env L) {K : Act → World → Prop} {Q : Exit → Act → World → Prop}
    (hK : ∀ st' env' η' m' a' w', Rel w0 st' env' η' m' a' w' → Fwd o env env' η η' w w' → (k st').wp cs Post env' L → K a' w') : o.wp P a w K Q := by
  unfold seOp at h
  split at h
  · rename_i ds v hv
    obtain ⟨hds, st', h1, h2, h3, h4, h5⟩ := needs_sound hr.hk h
    refine wp_value (seVal_sound hr hv hds w) ?_
    exact hK _ _ _ _ _ _ ((hr.same h1 h2 h3 h4).put o.dst v) (Fwd.refl o w) h5
  · split at h
    · rename_i t x ho
      split at h
      · rename_i ds v src hl
        obtain ⟨hds, st', h1, h2, h3, h4, h5⟩ := needs_sound hr.hk h
        have hrun : (execOp a.eval o).run P w = .ok (.value (v.den env η)) w := by
          cases src with
          | blk b => exact load_blk hr ho hl rfl
          | row s i => exact load_row hr ho hl hds (X.good hr.hg s) (fun ad u hu => (hr.hm ad u hu).1)
        exact wp_value hrun (hK _ _ _ _ _ _ ((hr.same h1 h2 h3 h4).put o.dst v) (Fwd.refl o w) h5)
      · exact h.elim
    · rename_i t ho
      split at h
      · rename_i z hz
        split at h
        · rename_i hp
          simp only [Bool.and_eq_true] at hp
          obtain ⟨it, zv, h1, h2, h3⟩ := zero_info (env := env) (η := η) hz
          have hrun : (execOp a.eval o).run P w = .ok (.value (.pointer (some ⟨w.heap.size, 0, none⟩))) { w with heap := w.heap.push (.cells (z.map (S.den env η)).toArray t) } := by
            simp [execOp, ho, Instr.alloc, zero_run h1 h2, newVar, newRow, h3]
          refine wp_value hrun ?_
          have hn := hr.newBlk hp.1 hp.2 t
          have hd : SV.den env (η ++ [w.heap.size]) (.one (.s (.ptr st.blks.length 0))) = .pointer (some ⟨w.heap.size, 0, none⟩) := by
            simp [SV.den, TV.den, S.den, List.getD_eq_getElem?_getD, ← hr.he]
          have := hn.put o.dst (.one (.s (.ptr st.blks.length 0)))
          rw [hd] at this
          exact hK _ _ _ _ _ _ this ⟨⟨[], by simp⟩, ⟨_, rfl⟩, fun _ => below_push w _⟩ h
        · exact h.elim
      · exact h.elim
    · rename_i t x ho
      split at h
      · rename_i v hx
        split at h
        · rename_i hp
          simp only [Bool.and_eq_true] at hp
          have hrun : (execOp a.eval o).run P w = .ok (.value (.pointer (some ⟨w.heap.size, 0, none⟩))) { w with heap := w.heap.push (.cells (v.cells.map (S.den env η)).toArray t) } := by
            have := TV.cells_den (η := η) hr.hg hp.1.1
            simp only [execOp, ho, hr.ev hx, Instr.box, newVar, newRow, SV.den, this]
            simp
          refine wp_value hrun ?_
          have hn := hr.newBlk hp.1.2 hp.2 t
          have hd : SV.den env (η ++ [w.heap.size]) (.one (.s (.ptr st.blks.length 0))) = .pointer (some ⟨w.heap.size, 0, none⟩) := by
            simp [SV.den, TV.den, S.den, List.getD_eq_getElem?_getD, ← hr.he]
          have := hn.put o.dst (.one (.s (.ptr st.blks.length 0)))
          rw [hd] at this
          exact hK _ _ _ _ _ _ this ⟨⟨[], by simp⟩, ⟨_, rfl⟩, fun _ => below_push w _⟩ h
        · exact h.elim
      · exact h.elim
    · rename_i t p x ho
      split at h
      · rename_i b off v hp hx
        split at h
        · rename_i bl hbl
          split at h
          · rename_i hc
            simp only [Bool.and_eq_true, decide_eq_true_eq, beq_iff_eq, Option.isNone_iff_eq_none] at hc
            obtain ⟨⟨⟨hsz, hfit⟩, hok⟩, hdst⟩ := hc
            have ep := hr.ev hp
            have ex := hr.ev hx
            simp only [SV.den, TV.den, S.den] at ep
            rw [show SV.den env η (.one v) = v.den env η from rfl] at ex
            have hcells := TV.cells_den (η := η) hr.hg hok
            have hg := hr.hb b bl hbl
            have hst := run_storeCells_at P (η.getD b 0) off bl.ty (v.cells.map (S.den env η)) 0 _ w hg (by simp; omega) (by
              intro u hu
              obtain ⟨s, hs, rfl⟩ := List.mem_map.1 hu
              exact S.den_one hr.hg (List.all_eq_true.1 hok s hs))
            have e2 : ((bl.cells.map (S.den env η)).toArray.toList.take (off + 0) ++ v.cells.map (S.den env η) ++ (bl.cells.map (S.den env η)).toArray.toList.drop (off + 0 + (v.cells.map (S.den env η)).length)) = (bl.cells.take off ++ v.cells ++ bl.cells.drop (off + v.cells.length)).map (S.den env η) := by
              simp [List.map_take, List.map_drop]
            rw [e2] at hst
            have hrun : (execOp a.eval o).run P w = .ok .skip (w.setRow (η.getD b 0) ((bl.cells.take off ++ v.cells ++ bl.cells.drop (off + v.cells.length)).map (S.den env η)).toArray) := by
              simp only [execOp, ho, ep, ex, Instr.storeAt, Instr.sureAddr, storeVar, Sem.run_bind, Sem.run_pure, Result.andThen_ok, run_sizeOf_some hsz, hcells, List.size_toArray, List.length_map, ne_eq, not_true_eq_false, if_false, hst]
            refine wp_skip' hrun ?_
            rw [hdst]
            exact hK _ _ _ _ _ _ (hr.setBlk hbl) ⟨⟨[], by simp⟩, ⟨[], by simp⟩, fun hh => by rw [ho] at hh; cases hh⟩ h
          · exact h.elim
        · exact h.elim
      · exact h.elim
    · rename_i c ho
      split at h
      · rename_i f hc
        split at h
        · rename_i g caps vs hf hvs
          split at h
          · rename_i i sg hsg
            split at h
            · rename_i l v hl hv
              split at h
              · rename_i hp
                simp only [Bool.and_eq_true] at hp
                obtain ⟨hpre, hrest⟩ := h
                obtain ⟨j, e1, e2, e3⟩ := findSig_sound hsg
                obtain rfl : i = j := by omega
                obtain ⟨hcs, ⟨fn, hfn, hname, hbody⟩, hcall⟩ := hT.1 i sg e2
                have hmem : ∀ ad u, m ad = some u → w.cell? ad = some u := fun ad u hu => (hr.hm ad u hu).1
                have hgood : ∀ x ∈ l.map (S.atom env), Good m x := by
                  intro x hx
                  obtain ⟨s, hs, rfl⟩ := List.mem_map.1 hx
                  exact S.atom_good hr.hg (List.all_eq_true.1 hp.1 s hs)
                have hC := hcall _ m w hmem hgood hpre
                have hvals : (l.map (S.atom env)).map (·.1) = l.map (S.den env η) := by
                  rw [List.map_map]
                  exact List.map_congr_left fun s hs => S.atom_val (List.all_eq_true.1 hp.1 s hs)
                have hfl := flatArgs_sound (env := env) (η := η) [] hl
                rw [List.append_nil] at hfl
                have ef := hr.ev hf
                simp only [SV.den, TV.den, S.den] at ef
                have eargs : c.args.map a.eval = (vs.map (SV.den env η)).toArray := by
                  apply Array.ext'
                  rw [Array.toList_map, hr.evs hvs]
                have hrun : (execOp a.eval o).run P w = .ok (.enter g (vs.map (SV.den env η)).toArray) w := by
                  rw [hcs, e3] at hfn
                  have he := enters_ hfn hname hbody (vs.map (SV.den env η)).toArray w
                  unfold execOp
                  simp [ho, resolve, hc, ef, Deferred.ofValue, invoke, eargs, he]
                unfold Oper.wp
                rw [hrun, Oper.upon_enter]
                rw [hvals, hcs, hfl, e3] at hC
                refine hC.mono fun e w' he => ?_
                obtain ⟨outs, rfl, hk, hpost, hg, hB⟩ := he
                rw [← hcs] at hk
                have hr' := hr.call hp.2 hB hg
                rw [hcs] at hk
                have hlen := KindsOk.length hk
                rw [hlen] at hr'
                have hden : v.den (env ++ outs) η = mkRes sg.tup sg.rsh (outs.map (·.1)) := by
                  rw [resSV_sound hv]
                  have := atomsFrom_den (η := η) (e := env) hk
                  rw [hr.hn] at this
                  rw [this]
                have := hr'.put o.dst v
                rw [hden] at this
                exact hK _ _ _ _ _ _ this ⟨⟨outs, rfl⟩, ⟨[], by simp⟩, fun _ => hB⟩ (hrest outs (by rw [hcs]; exact hk) hpost)
              · exact h.elim
            · exact h.elim
          · rename_i caps _ _ _
            split at h
            · rename_i tm
              obtain ⟨⟨fn, hfn, hname, hbody⟩, hrun2⟩ := hT.2.run w0 Post L st env η m a w g caps vs _ hr h
              have ef := hr.ev hf
              simp only [SV.den, TV.den, S.den] at ef
              have eargs : c.args.map a.eval = (vs.map (SV.den env η)).toArray := by
                apply Array.ext'
                rw [Array.toList_map, hr.evs hvs]
              have hrun : (execOp a.eval o).run P w = .ok (.enter g (vs.map (SV.den env η) ++ ptrs η caps).toArray) w := by
                have he := enters_ hfn hname hbody (vs.map (SV.den env η) ++ ptrs η caps).toArray w
                unfold ptrs at he
                unfold execOp
                simp [ho, resolve, hc, ef, Deferred.ofValue, invoke, eargs, ptrs]
                simpa using he
              unfold Oper.wp
              rw [hrun, Oper.upon_enter]
              refine (hrun2 (fun e w' => ∃ v, e = .returned v ∧ K (a.put o.dst v) w') fun st' v env' η' m' w' hr' he hη hk => ⟨_, rfl, hK _ _ _ _ _ _ (hr'.put o.dst v) ⟨he, hη, fun hs => ?_⟩ hk⟩).mono fun e w' he => ?_
              · rw [ho] at hs; simp [isStore, hc] at hs
              · obtain ⟨v, rfl, hK'⟩ := he
                exact hK'
            · exact h.elim
        · exact h.elim
      · exact h.elim
    · exact h.elim
end
end Go.Proofs.YtmhfooalcohpgaaV
