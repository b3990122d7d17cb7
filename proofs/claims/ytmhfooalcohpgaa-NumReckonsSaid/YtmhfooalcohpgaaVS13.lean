/- Vcg, part 15: a whole function. -/
import Derived.Test.YtmhfooalcohpgaaVS12
namespace Go.Proofs.YtmhfooalcohpgaaV
open Go Go.RowKit Go.Proofs.YtmhfooalcohpgaaW.PrintLast

section
variable {w0 : Base} {w : World} {st : St} {env : List Atom} {η : List Nat} {m : Addr → Option Value} {a : Act} {P : Program}
variable {cs : Nat → Sig × Con} {Post : List Atom → Prop} {sigs : Sg} {L : List (List Atom → Prop)}
theorem fits_sound : ∀ {sh : List (Option Nat)} {vs : List TV}, fits sh vs = true → mkVals sh ((vs.map TV.cells).flatten.map (S.den env η)) = vs.map (TV.den env η)
  | [], [], _ => rfl
  | none :: sh, .s x :: vs, h => by
    simp only [fits] at h
    simp only [List.map_cons, List.flatten_cons, TV.cells, List.singleton_append, mkVals, fits_sound h]; rfl
  | some n :: sh, .agg c :: vs, h => by
    simp only [fits, Bool.and_eq_true, beq_iff_eq] at h
    obtain ⟨h1, h2⟩ := h
    subst h1
    simp only [List.map_cons, List.flatten_cons, TV.cells, List.map_append, mkVals]
    rw [List.drop_left' (by simp), List.take_left' (by simp), fits_sound h2]; rfl
  | [], _ :: _, h => by simp [fits] at h
  | none :: _, [], h => by simp [fits] at h
  | none :: _, .agg _ :: _, h => by simp [fits] at h
  | some _ :: _, [], h => by simp [fits] at h
  | some _ :: _, .s _ :: _, h => by simp [fits] at h
def resM (tmps : Array Value) : ResultVar → Sem Value
  | .tmp t => pure (tmps.getD t Go.undef)
  | .cell p t => do loadVar t (← asAddr (tmps.getD p Go.undef))
theorem resTV_run (hr : Rel w0 st env η m a w) {x : ResultVar} {t : TV} (h : resTV P st x = some t) : (resM a.tmps x).run P w = .ok (t.den env η) w := by
  cases x with
  | tmp i =>
    simp only [resTV] at h
    split at h
    · rename_i v hv
      injection h with h
      subst h
      have := hr.ev hv
      simp only [Act.eval] at this
      unfold resM
      rw [Sem.run_pure, this]; rfl
    · cases h
  | cell p ty =>
    simp only [resTV] at h
    split at h
    · rename_i ds v b hl
      injection h with h
      subst h
      obtain ⟨q, h1, h2⟩ := load_var hr hl rfl
      simp only [Act.eval] at h1
      simp only [resM, Sem.run_bind, h1, asAddr, Sem.run_pure, Result.andThen_ok]
      exact h2
    · cases h
theorem resM_run (hr : Rel w0 st env η m a w) : ∀ (l : List ResultVar) (vs : List TV), allSome (l.map (resTV P st)) = some vs → (l.mapM (resM a.tmps)).run P w = .ok (vs.map (TV.den env η)) w
  | [], vs, h => by simp only [List.map_nil, allSome, Option.some.injEq] at h; subst h; rfl
  | x :: l, vs, h => by
    simp only [List.map_cons] at h
    cases hx : resTV P st x with
    | none => rw [hx] at h; simp [allSome] at h
    | some t =>
      rw [hx] at h
      simp only [allSome] at h
      cases hl : allSome (l.map (resTV P st)) with
      | none => rw [hl] at h; cases h
      | some vs' =>
        rw [hl] at h
        simp only [Option.map_some, Option.some.injEq] at h
        subst h
        rw [List.mapM_cons, Sem.run_bind, resTV_run hr hx, Result.andThen_ok, Sem.run_bind, resM_run hr l vs' hl]
        rfl
theorem results_eq (fn : Func) (tmps : Array Value) : results fn tmps = (do
    let vs ← fn.results.mapM (resM tmps)
    pure (if h : vs.size = 1 then vs[0] else .tuple vs)) := by
  unfold results
  congr 1
theorem results_run (hr : Rel w0 st env η m a w) {fn : Func} {vs : List TV} (h : allSome (fn.results.toList.map (resTV P st)) = some vs) :
    (results fn a.tmps).run P w = .ok (if h : (vs.map (TV.den env η)).toArray.size = 1 then (vs.map (TV.den env η)).toArray[0] else .tuple (vs.map (TV.den env η)).toArray) w := by
  rw [results_eq]
  have h2 := resM_run hr _ _ h
  have e : fn.results = fn.results.toList.toArray := by simp
  rw [e, List.mapM_toArray]
  simp only [Sem.run_bind, Sem.run_map]
  rw [h2]
  rfl
theorem seRet_sound (hr : Rel w0 st env η m a w) {fn : Func} {sg : Sig} (h : (seRet P fn sg st).wp cs Post env L) :
    ∃ v outs, (results fn a.tmps).run P w = .ok v w ∧ v = mkRes sg.tup sg.rsh (outs.map (·.1)) ∧ KindsOk sg.res outs ∧ Post outs ∧ ∀ x ∈ outs, Good m x := by
  unfold seRet at h
  split at h
  · rename_i vs hvs
    simp only at h
    split at h
    · rename_i hc
      obtain ⟨hds, hpost⟩ := needAll_sound h
      simp only [Bool.and_eq_true, beq_iff_eq] at hc
      obtain ⟨⟨⟨⟨hf, ht⟩, hp⟩, hl⟩, hk⟩ := hc
      have hvals : ((vs.map TV.cells).flatten.map (S.atom env)).map (·.1) = (vs.map TV.cells).flatten.map (S.den env η) := by
        rw [List.map_map]
        exact List.map_congr_left fun s hs => S.atom_val (List.all_eq_true.1 hp s hs)
      refine ⟨_, (vs.map TV.cells).flatten.map (S.atom env), results_run hr hvs, ?_, ?_, hpost, ?_⟩
      · rw [hvals]
        unfold mkRes
        rw [fits_sound hf, ht]
        by_cases h1 : vs.length = 1
        · have : (vs.length != 1) = false := by simp [h1]
          rw [dif_pos (by simpa using h1), this]
          match vs, h1 with
          | [v], _ => rfl
        · have : (vs.length != 1) = true := by simp [h1]
          rw [dif_neg (by simpa using h1), this]; rfl
      · refine kindsOk_of (by rw [List.length_map, hl]) fun i k x h1 h2 => ?_
        simp only [List.getElem?_map] at h2
        cases h3 : (vs.map TV.cells).flatten[i]? with
        | none => rw [h3] at h2; cases h2
        | some s =>
          rw [h3] at h2
          simp only [Option.map_some, Option.some.injEq] at h2
          subst h2
          have hmem : s ∈ (vs.map TV.cells).flatten := List.mem_of_getElem? h3
          have hps := List.all_eq_true.1 hp s hmem
          have hz : ((vs.map TV.cells).flatten.zip sg.res)[i]? = some (s, k) := by rw [List.getElem?_zip_eq_some]; exact ⟨h3, h1⟩
          have h4 := List.all_eq_true.1 hk _ (List.mem_of_getElem? hz)
          simp only at h4
          have hany : k = .any → k.ok (s.atom env).1 := by
            rintro rfl
            exact (S.atom_good hr.hg hps).2
          split at h4
          · rename_i k' hk'
            rw [Bool.or_eq_true] at h4
            rcases h4 with h4 | h4
            · obtain rfl := RK.eq_of h4
              exact kind_ok hds hmem hk' hr.hg hps
            · refine hany ?_
              cases k <;> first | rfl | cases h4
          · refine hany ?_
            cases k <;> first | rfl | cases h4
      · intro x hx
        obtain ⟨s, hs, rfl⟩ := List.mem_map.1 hx
        exact S.atom_good hr.hg (List.all_eq_true.1 hp s hs)
    · exact h.elim
  · exact h.elim
theorem seFn_sound (hT : Table P sigs cs) (hP : P.follows .mixedOrders = true) {an : Ann} {rs : List (Nat × RegT)} {fn : Func} {c : Code} {sg : Sig} {pk : List RK} {con : Con}
    (hfn : P.funcs[sg.f]? = some fn) (hname : (fn.name == "runtime.NumGoroutine") = false) (hbody : fn.body = some c) (hc : codeOk an rs c) (hl : (shapeS sg.ash (atomsFrom 0 pk)).length = sg.ash.length)
    (h : ∀ args, con.pre args → KindsOk pk args ∧ (seFn P sigs an fn sg pk).wp cs (con.post args) args []) : holds P (sg, con) := by
  refine ⟨⟨fn, hfn, hname, by rw [hbody]; rfl⟩, fun args m w hm hg hpre => ?_⟩
  obtain ⟨hk, hwp⟩ := h args hpre
  have hden := atomsFrom_den (η := []) (e := []) hk
  simp only [List.length_nil, List.nil_append] at hden
  have hsh := shapeS_sound (env := args) (η := []) (sh := sg.ash) (l := atomsFrom 0 pk)
  rw [hden] at hsh
  have hlen : (mkVals sg.ash (args.map (·.1))).length = sg.ash.length := by rw [← hsh, List.length_map, hl]
  refine calls_of_wp hfn hbody ?_
  unfold seFn at hwp
  rw [hbody] at hwp
  simp only at hwp
  have hr : Rel ⟨w, m⟩ (startSt fn sg pk) args [] m { tmps := (mkVals sg.ash (args.map (·.1))).toArray ++ Array.replicate (fn.ntmps - (mkVals sg.ash (args.map (·.1))).toArray.size) Go.undef, defers := [] } w := by
    refine ⟨KindsOk.length hk, ?_, ?_, rfl, rfl, List.nodup_nil, ?_, ?_, Below.refl _ _, fun ad v h => ⟨hm ad v h, by simp⟩, fun ad v h _ => h, hg, ?_⟩
    · simp [startSt, hlen, hl]
    · intro i v hv
      right
      simp only [startSt, List.getElem?_append, List.length_map, hl] at hv
      simp only [Array.getElem?_append, List.size_toArray, hlen]
      split at hv
      · rename_i hlt
        rw [if_pos hlt, ← hsh]
        simp only [List.getElem?_map] at hv
        cases ht : (shapeS sg.ash (atomsFrom 0 pk))[i]? with
        | none => rw [ht] at hv; cases hv
        | some t =>
          rw [ht] at hv
          simp only [Option.map_some, Option.some.injEq] at hv
          subst hv
          simp [ht, SV.den]
      · rename_i hlt
        rw [if_neg hlt]
        simp only [List.getElem?_replicate] at hv
        split at hv
        · rename_i h2
          injection hv with hv
          subst hv
          simp [h2, undefV, SV.den, TV.den, S.den]
        · cases hv
    · intro i bl hbl; simp [startSt] at hbl
    · intro g hg; simp at hg
    · intro p hp; simp [startSt] at hp
  refine Code.wp_mono (Q := QE fun e a w' => ∃ st env η m', e ≠ .exit 0 ∧ Rel ⟨w, m⟩ st env η m' a w' ∧ (match e with
    | .exit _ => T.bad 43
    | _ => seRet P fn sg st).wp cs (con.post args) env []) ?_ (seCode_sound hT hP (rs := rs) c 0 0 _ _ _ _ _ _ _ [] _ hc hr hwp rfl ?_)
  · have fin : ∀ st env η m' a w', Rel ⟨w, m⟩ st env η m' a w' → (seRet P fn sg st).wp cs (con.post args) env [] →
        a.defers = [] ∧ ∃ v, (results fn a.tmps).run P w' = .ok v w' ∧ ∃ outs, Ending.returned v = .returned (mkRes sg.tup sg.rsh (outs.map (·.1))) ∧ KindsOk sg.res outs ∧ con.post args outs ∧ (∀ x ∈ outs, Good (ext m w w') x) ∧ Below w.heap.size w w' := by
      intro st env η m' a w' hr' h'
      obtain ⟨v, outs, h1, h2, h3, h4, h5⟩ := seRet_sound hr' h'
      refine ⟨hr'.hd, v, h1, outs, by rw [h2], h3, h4, fun x hx => (h5 x hx).mono ?_, hr'.hB⟩
      intro ad u hu
      unfold ext
      split
      · exact (hr'.hm ad u hu).1
      · rename_i hlt
        exact hr'.hm0 ad u hu (by simpa using hlt)
    intro e a w' hq
    cases e with
    | normal => obtain ⟨st, env, η, m', _, hr', h'⟩ := hq; exact fin _ _ _ _ _ _ hr' h'
    | ret => obtain ⟨st, env, η, m', _, hr', h'⟩ := hq; exact fin _ _ _ _ _ _ hr' h'
    | exit id => obtain ⟨st, env, η, m', _, hr', h'⟩ := hq; exact h'.elim
    | _ => exact hq.elim
  · intro e st' env' η' m' a' w' hr' _ _ h'
    cases e with
    | exit id => exact h'.elim
    | normal => exact ⟨st', env', η', m', by simp, hr', h'⟩
    | ret => exact ⟨st', env', η', m', by simp, hr', h'⟩
/-! ### Calls within a call -/
theorem seSeq_bind (hH : HB sigs.H) {ops : Array Oper} {f : St → T} : ∀ {l : List Oper} {st : St} {k : St → T}, (seSeq P sigs ops l st k).bind f = seSeq P sigs ops l st (fun x => (k x).bind f)
  | [], _, _ => rfl
  | o :: r, st, k => by
    simp only [seSeq]
    rw [seGuard_bind]
    congr 1
    · funext x; rw [seOp_bind hH]; congr 1; funext y; exact seSeq_bind hH
    · funext x; exact seSeq_bind hH
theorem seCode_bind (hH : HB sigs.H) {an : Ann} {f : St → T} : ∀ {c : Code} {lp lv : Nat} {st : St} {k : Ex → St → T}, loopsIn c = 0 → (seCode P sigs an c lp lv st k).bind f = seCode P sigs an c lp lv st (fun e s => (k e s).bind f) := by
  intro c
  induction c with
  | region id ops dr =>
    intro lp lv st k _
    simp only [seCode]
    split
    · split
      · exact seDraw_bind hH
      · rfl
    · exact seSeq_bind hH
  | seq a b iha ihb =>
    intro lp lv st k hl
    have hl : loopsIn a + loopsIn b = 0 := hl
    simp only [seCode]
    rw [iha (by omega)]
    congr 1
    funext e s
    cases e with
    | normal => exact ihb (by omega)
    | _ => rfl
  | cond c a b iha ihb =>
    intro lp lv st k hl
    have hl : loopsIn a + loopsIn b = 0 := hl
    simp only [seCode]
    split
    · rw [seBr_bind]
      congr 1
      · funext s; exact iha (by omega)
      · funext s; exact ihb (by omega)
    · rfl
  | block id c ih =>
    intro lp lv st k hl
    simp only [seCode]
    rw [ih hl]
    congr 1
    funext e s
    cases e with
    | exit j => simp only; split <;> rfl
    | _ => rfl
  | scope c ih => intro lp lv st k hl; exact ih hl
  | loop c ih => intro lp lv st k hl; simp [loopsIn] at hl
  | _ => intro lp lv st k hl; rfl
theorem seCode_lv {an : Ann} : ∀ {c : Code} {lp lv lv' : Nat} {st : St} {k : Ex → St → T}, loopsIn c = 0 → seCode P sigs an c lp lv st k = seCode P sigs an c lp lv' st k := by
  intro c
  induction c with
  | seq a b iha ihb =>
    intro lp lv lv' st k hl
    have hl : loopsIn a + loopsIn b = 0 := hl
    simp only [seCode]
    rw [iha (lv' := lv') (by omega)]
    congr 1
    funext e s
    cases e with
    | normal => exact ihb (by omega)
    | _ => rfl
  | cond c a b iha ihb =>
    intro lp lv lv' st k hl
    have hl : loopsIn a + loopsIn b = 0 := hl
    simp only [seCode]
    split
    · congr 1
      · funext s; exact iha (by omega)
      · funext s; exact ihb (by omega)
    · rfl
  | block id c ih => intro lp lv lv' st k hl; simp only [seCode]; exact ih hl
  | scope c ih => intro lp lv lv' st k hl; exact ih hl
  | loop c ih => intro lp lv lv' st k hl; simp [loopsIn] at hl
  | _ => intro lp lv lv' st k hl; rfl
theorem TV.den_take' {env l : List Atom} {η y : List Nat} {v : TV} (h1 : v.bnd env.length = true) (h2 : v.pb η.length = true) : v.den (env ++ l) (η ++ y) = v.den env η := by
  cases v with
  | s x =>
    have := S.den_take (env := env ++ l) (η := η ++ y) (s := x) h2
    rw [List.take_left] at this
    show x.den (env ++ l) (η ++ y) = x.den env η
    rw [← this]
    exact S.den_bnd h1 l
  | agg c =>
    show Value.agg _ = Value.agg _
    congr 1
    congr 1
    refine List.map_congr_left fun s hs => ?_
    have := S.den_take (env := env ++ l) (η := η ++ y) (s := s) (List.all_eq_true.1 h2 s hs)
    rw [← this, List.take_left]
    exact S.den_bnd (List.all_eq_true.1 h1 s hs) l
theorem SV.den_ext {env l : List Atom} {η y : List Nat} {v : SV} (h1 : v.bnd env.length = true) (h2 : v.pb η.length = true) : v.den (env ++ l) (η ++ y) = v.den env η := by
  cases v with
  | one t => exact TV.den_take' h1 h2
  | tup c =>
    show Value.tuple _ = Value.tuple _
    congr 1
    congr 1
    exact List.map_congr_left fun s hs => TV.den_take' (List.all_eq_true.1 h1 s hs) (List.all_eq_true.1 h2 s hs)
theorem inlOf_mem {f : FuncId} : ∀ {l : List Inl} {x : Inl}, inlOf f l = some x → x ∈ l ∧ x.f = f
  | [], _, h => by simp [inlOf] at h
  | y :: l, x, h => by
    simp only [inlOf] at h
    split at h
    · rename_i hf
      injection h with h
      subst h
      exact ⟨by simp, by simpa using hf⟩
    · obtain ⟨h1, h2⟩ := inlOf_mem h
      exact ⟨by simp [h1], h2⟩
theorem inH_ok {inner : Sg} (hT : Table P inner cs) (hP : P.follows .mixedOrders = true) {inl : List Inl}
    (hI : ∀ x ∈ inl, P.funcs[x.f]? = some x.fn ∧ (x.fn.name == "runtime.NumGoroutine") = false ∧ x.fn.body = some x.c ∧ ∃ rs, codeOk x.an rs x.c) : HOk P cs (inH P inl inner) := by
  constructor
  · intro st g caps vs k f
    simp only [inH]
    split
    · rfl
    · rename_i x hx
      split
      · rename_i hc
        simp only [Bool.and_eq_true, beq_iff_eq] at hc
        rw [seCode_bind hT.2.bind hc.2]
        congr 1
        funext e s
        cases e with
        | exit j => rfl
        | _ => simp only; split <;> rfl
      · rfl
  · intro w0 Post L st env η m a w g caps vs k hr h
    simp only [inH] at h
    split at h
    · exact h.elim
    · rename_i x hx
      obtain ⟨hx1, rfl⟩ := inlOf_mem hx
      obtain ⟨hfn, hname, hbody, rs, hc⟩ := hI x hx1
      split at h
      · rename_i hb
        simp only [Bool.and_eq_true, beq_iff_eq] at hb
        obtain ⟨⟨⟨⟨⟨hbnd, hpb⟩, hv1⟩, hv2⟩, hcaps⟩, hloop⟩ := hb
        refine ⟨⟨x.fn, hfn, hname, by rw [hbody]; rfl⟩, fun R hR => ?_⟩
        refine calls_of_wp hfn hbody ?_
        rw [seCode_lv (lv' := L.length) hloop] at h
        have hlen : (vs.map (SV.den env η) ++ ptrs η caps).length = vs.length + caps.length := by simp [ptrs]
        have hr1 : Rel w0 (inSt x.fn st caps vs) env η m { tmps := (vs.map (SV.den env η) ++ ptrs η caps).toArray ++ Array.replicate (x.fn.ntmps - (vs.map (SV.den env η) ++ ptrs η caps).toArray.size) Go.undef, defers := [] } w := by
          refine ⟨hr.hn, ?_, ?_, rfl, hr.he, hr.hnd, hr.hb, hr.hge, hr.hB, hr.hm, hr.hm0, hr.hg, hr.hk⟩
          · simp [inSt, ptrs]; omega
          · intro i v hv
            right
            have e : ((vs.map (SV.den env η) ++ ptrs η caps) ++ List.replicate (x.fn.ntmps - (vs.length + caps.length)) Go.undef)[i]? = some (v.den env η) := by
              have hv' : (inSt x.fn st caps vs).tmps.map (SV.den env η) = (vs.map (SV.den env η) ++ ptrs η caps) ++ List.replicate (x.fn.ntmps - (vs.length + caps.length)) Go.undef := by
                simp [inSt, ptrs, SV.den, TV.den, S.den, undefV]
              rw [← hv', List.getElem?_map, hv]; rfl
            have e2 : (vs.map (SV.den env η) ++ ptrs η caps).toArray ++ Array.replicate (x.fn.ntmps - (vs.length + caps.length)) Go.undef = ((vs.map (SV.den env η) ++ ptrs η caps) ++ List.replicate (x.fn.ntmps - (vs.length + caps.length)) Go.undef).toArray := by
              apply Array.ext'
              simp
            simp only [List.size_toArray, hlen]
            rw [e2, ← e]
            simp
        refine Code.wp_mono (Q := QE fun e a1 w' => ∃ st' env' η' m', e ≠ .exit 0 ∧ Rel w0 st' env' η' m' a1 w' ∧ (∃ l, env' = env ++ l) ∧ (∃ l, η' = η ++ l) ∧ (match e with
          | .exit _ => T.bad 43
          | _ => match retSV P x.fn st' with
            | some v => k { st' with tmps := st.tmps } v
            | none => T.bad 61).wp cs Post env' L) ?_ (seCode_sound hT hP (rs := rs) x.c 0 L.length _ _ _ _ _ _ _ L _ hc hr1 h rfl ?_)
        · have fin : ∀ st' env' η' m' a1 w', Rel w0 st' env' η' m' a1 w' → (∃ l, env' = env ++ l) → (∃ l, η' = η ++ l) → (match retSV P x.fn st' with
              | some v => k { st' with tmps := st.tmps } v
              | none => T.bad 61).wp cs Post env' L → a1.defers = [] ∧ ∃ v, (results x.fn a1.tmps).run P w' = .ok v w' ∧ R (.returned v) w' := by
            intro st' env' η' m' a1 w' hr' he hη h'
            have hRel : Rel w0 { st' with tmps := st.tmps } env' η' m' a w' := by
              refine ⟨hr'.hn, hr.hs, ?_, hr.hd, hr'.he, hr'.hnd, hr'.hb, hr'.hge, hr'.hB, hr'.hm, hr'.hm0, hr'.hg, hr'.hk⟩
              intro i v hv
              rcases hr.ht i v hv with h | h
              · exact .inl h
              · right
                obtain ⟨l, rfl⟩ := he
                obtain ⟨y, rfl⟩ := hη
                simp only [St.bnd, St.pbnd, Bool.and_eq_true] at hbnd hpb
                rw [SV.den_ext (by rw [hr.hn]; exact List.all_eq_true.1 hbnd.1.1 _ (List.mem_of_getElem? hv)) (by rw [hr.he]; exact List.all_eq_true.1 hpb.1 _ (List.mem_of_getElem? hv))]
                exact h
            unfold retSV at h'
            cases hs : allSome (x.fn.results.toList.map (resTV P st')) with
            | none => rw [hs] at h'; exact h'.elim
            | some ts =>
              have hrun := results_run hr' hs
              rw [hs] at h'
              match ts, h', hrun with
              | [], h', hrun => exact ⟨hr'.hd, _, hrun, hR _ _ _ _ _ _ hRel he hη h'⟩
              | [v], h', hrun => exact ⟨hr'.hd, _, hrun, hR _ _ _ _ _ _ hRel he hη h'⟩
              | v :: v' :: r, h', hrun => exact ⟨hr'.hd, _, hrun, hR _ _ _ _ _ _ hRel he hη h'⟩
          intro e a1 w' hq
          cases e with
          | normal => obtain ⟨st', env', η', m', _, hr', he, hη, h'⟩ := hq; exact fin _ _ _ _ _ _ hr' he hη h'
          | ret => obtain ⟨st', env', η', m', _, hr', he, hη, h'⟩ := hq; exact fin _ _ _ _ _ _ hr' he hη h'
          | exit id => obtain ⟨st', env', η', m', _, hr', he, hη, h'⟩ := hq; exact h'.elim
          | _ => exact hq.elim
        · intro e st' env' η' m' a' w' hr' he hη h'
          cases e with
          | exit id => exact h'.elim
          | normal => exact ⟨st', env', η', m', by simp, hr', he, hη, h'⟩
          | ret => exact ⟨st', env', η', m', by simp, hr', he, hη, h'⟩
      · exact h.elim
end
end Go.Proofs.YtmhfooalcohpgaaV
