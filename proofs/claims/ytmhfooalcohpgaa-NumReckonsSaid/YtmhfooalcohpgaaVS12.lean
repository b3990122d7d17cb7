/- Vcg, part 14: code, a whole function. -/
import Derived.Test.YtmhfooalcohpgaaVS11
namespace Go.Proofs.YtmhfooalcohpgaaV
open Go Go.RowKit Go.Proofs.YtmhfooalcohpgaaW.PrintLast

section
variable {w0 : Base} {P : Program} {cs : Nat → Sig × Con} {Post : List Atom → Prop} {sigs : Sg}
theorem setCells_len : ∀ {bl : List Blk} {ps : List (Nat × Nat)} {ss : List S}, (setCells bl ps ss).length = bl.length
  | _, [], [] => rfl
  | _, [], _ :: _ => rfl
  | _, _ :: _, [] => rfl
  | bl, (b, o) :: ps, s :: ss => by
    simp only [setCells]
    rw [setCells_len]
    split <;> simp
theorem seCode_sound (hT : Table P sigs cs) (hP : P.follows .mixedOrders = true) {an : Ann} {rs : List (Nat × RegT)} :
    ∀ (c : Code) (lp lv : Nat) (st : St) (env : List Atom) (η : List Nat) (m : Addr → Option Value) (a : Act) (w : World) (k : Ex → St → T) (L : List (List Atom → Prop)) (K : Ex → Act → World → Prop),
      codeOk an rs c → Rel w0 st env η m a w → (seCode P sigs an c lp lv st k).wp cs Post env L → L.length = lv →
      (∀ e st' env' η' m' a' w', Rel w0 st' env' η' m' a' w' → (∃ l, env' = env ++ l) → (∃ l, η' = η ++ l) → (k e st').wp cs Post env' L → K e a' w') → c.wp P (QE K) a w := by
  intro c
  induction c with
  | skip => intro lp lv st env η m a w k L K _ hr h hL hK; exact wp_skip (hK .normal _ _ _ _ _ _ hr ⟨[], by simp⟩ ⟨[], by simp⟩ h)
  | label l => intro lp lv st env η m a w k L K _ hr h hL hK; exact wp_label (hK .normal _ _ _ _ _ _ hr ⟨[], by simp⟩ ⟨[], by simp⟩ h)
  | exit id => intro lp lv st env η m a w k L K _ hr h hL hK; exact wp_exit (hK (.exit id) _ _ _ _ _ _ hr ⟨[], by simp⟩ ⟨[], by simp⟩ h)
  | ret => intro lp lv st env η m a w k L K _ hr h hL hK; exact wp_ret (hK .ret _ _ _ _ _ _ hr ⟨[], by simp⟩ ⟨[], by simp⟩ h)
  | region id ops dr =>
    intro lp lv st env η m a w k L K hc hr h hL hK
    cases dr with
    | false =>
      simp only [seCode, Bool.false_eq_true, if_false] at h
      refine wp_region_list (seSeq_sound hT (Q := QE K) (env0 := env) (η0 := η) (k := k .normal) ?_ ops.toList _ _ _ _ _ _ hr ⟨[], by simp⟩ ⟨[], by simp⟩ h)
      intro st' env' η' m' a' w' hr' he hη h'
      exact hK .normal _ _ _ _ _ _ hr' he hη h'
    | true =>
      simp only [seCode, if_true] at h
      split at h
      · rename_i p hp
        obtain ⟨R, hR, hok⟩ := hc rfl p hp
        have hr1 : Rel w0 st env η m a w.drew := ⟨hr.hn, hr.hs, hr.ht, hr.hd, hr.he, hr.hnd, hr.hb, hr.hge, hr.hB.drew, hr.hm, hr.hm0, hr.hg, hr.hk⟩
        have hI : Inv w.drew st.blks.length env η m true env η w.drew := by
          refine ⟨⟨[], by simp⟩, fun ad v h => (hr.hm ad v h).1, hr.hg, fun _ => Below.refl _ _, fun b hb => ?_, ⟨[], by simp⟩⟩
          rw [← hr.he] at hb
          refine ⟨hb, ?_⟩
          rw [List.getD_eq_getElem?_getD, List.getElem?_eq_getElem hb]
          exact eta_lt hr (List.getElem_mem hb)
        rw [← hr.hn] at h
        have := (seDraw_sound hT hR (Q := QE K) (fun _ _ _ _ h => h) (k := k .normal) (fun st' env' η' m' a' w' hr' he hη h' => hK .normal _ _ _ _ _ _ hr' he hη h') p false ops.size (List.replicate ops.size false) true st env η m a w.drew hok hr1 hI h).1 rfl
        exact start_ (n := ops.size) (List.replicate ops.size false).toArray hP rfl (by simp) (Below.refl _ _) (fun _ => this)
      · exact h.elim
  | seq x y ihx ihy =>
    intro lp lv st env η m a w k L K hc hr h hL hK
    refine wp_seq (Code.wp_mono (Q := QE fun e a w => match e with
      | .normal => y.wp P (QE K) a w
      | e => K e a w) ?_ (ihx lp lv st env η m a w _ L _ hc.1 hr h hL ?_))
    · intro e a w h; cases e <;> exact h
    · intro e st' env' η' m' a' w' hr' he hη h'
      cases e with
      | normal =>
        refine ihy _ _ _ _ _ _ _ _ _ _ _ hc.2 hr' h' hL ?_
        intro e st2 env2 η2 m2 a2 w2 hr2 he2 hη2 h2
        obtain ⟨l1, rfl⟩ := he
        obtain ⟨l2, rfl⟩ := he2
        obtain ⟨y1, rfl⟩ := hη
        obtain ⟨y2, rfl⟩ := hη2
        exact hK e _ _ _ _ _ _ hr2 ⟨l1 ++ l2, by simp⟩ ⟨y1 ++ y2, by simp⟩ h2
      | exit id => exact hK _ _ _ _ _ _ _ hr' he hη h'
      | ret => exact hK _ _ _ _ _ _ _ hr' he hη h'
  | cond c x y ihx ihy =>
    intro lp lv st env η m a w k L K hc hr h hL hK
    simp only [seCode] at h
    split at h
    · rename_i q hq
      have eq := hr.ev hq
      simp only [SV.den, TV.den, S.den] at eq
      refine seBr_sound hr.hk h (fun st' e1 e2 e3 e4 e5 e6 => ?_) (fun st' e1 e2 e3 e4 e5 e6 => ?_)
      · rw [e5] at eq
        exact wp_cond_true eq (ihx _ _ _ _ _ _ _ _ _ _ _ hc.1 (hr.same e1 e2 e3 e4) e6 hL hK)
      · rw [e5] at eq
        exact wp_cond_false eq (ihy _ _ _ _ _ _ _ _ _ _ _ hc.2 (hr.same e1 e2 e3 e4) e6 hL hK)
    · exact h.elim
  | block id c ih =>
    intro lp lv st env η m a w k L K hc hr h hL hK
    refine wp_block (Code.wp_mono (Q := QE fun e a w => match e with
      | .exit j => if j = id then K .normal a w else K (.exit j) a w
      | e => K e a w) ?_ (ih lp lv st env η m a w _ L _ hc hr h hL ?_))
    · intro e a w h
      cases e with
      | exit j => simp only [QE, Exit.inBlock] at h ⊢; exact h
      | _ => exact h
    · intro e st' env' η' m' a' w' hr' he hη h'
      cases e with
      | exit j =>
        simp only at h' ⊢
        by_cases hj : j = id
        · subst hj
          simp only [beq_self_eq_true, if_true] at h' ⊢
          exact hK _ _ _ _ _ _ _ hr' he hη h'
        · have hj' : (j == id) = false := by simpa using hj
          simp only [hj', Bool.false_eq_true, if_false] at h'
          rw [if_neg hj]
          exact hK _ _ _ _ _ _ _ hr' he hη h'
      | normal => exact hK _ _ _ _ _ _ _ hr' he hη h'
      | ret => exact hK _ _ _ _ _ _ _ hr' he hη h'
  | scope c ih =>
    intro lp lv st env η m a w k L K hc hr h hL hK
    refine wp_scope_straight (Code.wp_mono ?_ (ih lp lv st env η m a w _ L K hc hr h hL hK))
    intro e a w h
    cases e <;> exact h
  | loop c ih =>
    intro lp lv st env η m a w k L K hc hr h hL hK
    simp only [seCode] at h
    split at h
    · exact h.elim
    · rename_i n han
      have key : ∀ (n : Nat) (st : St) (env1 : List Atom) (y : List Nat) (m : Addr → Option Value) (a : Act) (w : World), Rel w0 st (env ++ env1) (η ++ y) m a w →
          (seRounds (fun st k => seCode P sigs an c (lp + 1) lv st k) n st k).wp cs Post (env ++ env1) L → unr P c (QE K) n a w := by
        intro n
        induction n with
        | zero => intro st env1 y m a w _ h; exact h.elim
        | succ n ihn =>
          intro st env1 y m a w hr h
          refine Code.wp_mono (Q := QE fun e a w => match e with
            | .normal => unr P c (QE K) n a w
            | e => K e a w) ?_ (ih _ _ _ _ _ _ _ _ _ _ _ hc hr h hL ?_)
          · intro e a w h; cases e <;> exact h
          · intro e st' env' η' m' a' w' hr' he hη h'
            obtain ⟨l, rfl⟩ := he
            obtain ⟨y2, rfl⟩ := hη
            rw [List.append_assoc] at hr' h'
            rw [List.append_assoc] at hr'
            cases e with
            | normal => exact ihn _ _ _ _ _ _ hr' h'
            | exit j => exact hK _ _ _ _ _ _ _ hr' ⟨_, rfl⟩ ⟨_, rfl⟩ h'
            | ret => exact hK _ _ _ _ _ _ _ hr' ⟨_, rfl⟩ ⟨_, rfl⟩ h'
      exact wp_unr (key n st [] [] m a w (by rw [List.append_nil, List.append_nil]; exact hr) (by rw [List.append_nil]; exact h))
    · rename_i sl ce han
      split at h
      · exact h.elim
      · rename_i ls hls
        split at h
        · exact h.elim
        · rename_i ks hks
          split at h
          · rename_i hcov
            obtain ⟨hds, I, μ, hI0, hbody⟩ := needAll_sound h
            rw [← hr.hn] at hcov
            have hr0 : Rel w0 st (env ++ []) η m a w := by rw [List.append_nil]; exact hr
            have hkn : ∀ p ∈ (headSt st c (sl, ce) ks).known, vb (p.1.den env).1 = p.2 := hr.hk
            have h0 := hr0.cover hcov (by rw [List.append_nil]; exact hds) hkn
            rw [List.append_nil] at h0
            have hbl : (headSt st c (sl, ce) ks).blks.length = η.length := by rw [hr.he]; exact setCells_len
            have htk : ∀ y : List Nat, (η ++ y).take (headSt st c (sl, ce) ks).blks.length = η := by intro y; rw [hbl]; simp
            have h0' := h0.1
            rw [← List.append_nil η, htk] at h0'
            refine wp_loop_n (fun n a w => ∃ as m, Rel w0 (headSt st c (sl, ce) ks) (env ++ as) η m a w ∧ KindsOk ks as ∧ I as ∧ μ as = n) ⟨_, _, _, h0', h0.2, hI0, rfl⟩ ?_
            rintro n a w ⟨as, m, hr, hko, hI, rfl⟩
            have hb := hbody as hko hI
            refine Code.wp_mono (Q := QE fun e a' w' => match e with
              | .normal => ∃ n', n' < μ as ∧ ∃ as m, Rel w0 (headSt st c (sl, ce) ks) (env ++ as) η m a' w' ∧ KindsOk ks as ∧ I as ∧ μ as = n'
              | e => K e a' w') ?_ (ih _ _ _ _ _ _ _ _ _ _ _ hc hr hb (by simp [hL]) ?_)
            · intro e a w h; cases e <;> exact h
            · intro e st' env' η' m' a' w' hr' he hη h'
              obtain ⟨el, rfl⟩ := he
              obtain ⟨y, rfl⟩ := hη
              have hpop : ∀ (f : List Atom → Prop), (L ++ [f]).take lv = L := by intro f; rw [← hL]; simp
              cases e with
              | normal =>
                simp only at h'
                split at h'
                · rename_i bs hbs
                  split at h'
                  · rename_i hcov'
                    obtain ⟨hds', hag⟩ := needAll_sound h'
                    simp only [T.wp] at hag
                    rw [List.getD_eq_getElem?_getD, List.getElem?_append_right (by omega), hL] at hag
                    simp only [Nat.sub_self, List.getElem?_cons_zero, Option.getD_some] at hag
                    rw [List.append_assoc] at hr' hag hds'
                    rw [← hr0.hn, List.append_nil] at hcov'
                    have h2 := hr'.cover hcov' hds' hkn
                    have h3 := h2.1
                    rw [htk] at h3
                    exact ⟨_, hag.2, _, _, h3, h2.2, hag.1, rfl⟩
                  · exact h'.elim
                · exact h'.elim
              | exit j =>
                simp only [T.wp] at h'
                rw [hpop] at h'
                exact hK _ _ _ _ _ _ _ hr' ⟨as ++ el, by simp⟩ ⟨y, rfl⟩ h'
              | ret =>
                simp only [T.wp] at h'
                rw [hpop] at h'
                exact hK _ _ _ _ _ _ _ hr' ⟨as ++ el, by simp⟩ ⟨y, rfl⟩ h'
          · exact h.elim
  | _ => intro lp lv st env η m a w k L K _ hr h hL hK; exact h.elim
end
end Go.Proofs.YtmhfooalcohpgaaV
