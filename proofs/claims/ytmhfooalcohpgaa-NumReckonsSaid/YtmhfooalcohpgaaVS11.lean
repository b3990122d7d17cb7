/- Vcg, part 13: code. -/
import Derived.Test.YtmhfooalcohpgaaVS10
import Derived.Scope
namespace Go.Proofs.YtmhfooalcohpgaaV
open Go Go.RowKit Go.Proofs.YtmhfooalcohpgaaW.PrintLast

/-- Exits, as the run has them. -/
def QE (K : Ex → Act → World → Prop) : Exit → Act → World → Prop
  | .normal, a, w => K .normal a w
  | .exit id, a, w => K (.exit id) a w
  | .ret, a, w => K .ret a w
  | _, _, _ => False
/-- The tables of a function's drawing regions, and that their plans are plans. -/
def regOf (id : Nat) : List (Nat × RegT) → Option RegT
  | [] => none
  | (j, p) :: r => if j == id then some p else regOf id r
def codeOk (an : Ann) (rs : List (Nat × RegT)) : Code → Prop
  | .region id ops dr => dr = true → ∀ p, planOf id an.plans = some p → ∃ R, RegOk ops R ∧ planOk R false ops.size (List.replicate ops.size false) p = true
  | .seq a b => codeOk an rs a ∧ codeOk an rs b
  | .cond _ a b => codeOk an rs a ∧ codeOk an rs b
  | .block _ c | .loop c | .scope c => codeOk an rs c
  | _ => True
theorem exists_least {p : Nat → Prop} (h : ∃ n, p n) : ∃ n, p n ∧ ∀ k, p k → n ≤ k := by
  obtain ⟨n, hn⟩ := h
  induction n using Nat.strongRecOn with
  | _ n ih =>
    by_cases hk : ∃ k, k < n ∧ p k
    · obtain ⟨k, h1, h2⟩ := hk; exact ih k h1 h2
    · exact ⟨n, hn, fun k h => Nat.le_of_not_lt fun hlt => hk ⟨k, hlt, h⟩⟩
theorem wp_loop_n {P : Program} {c : Code} {Q : Exit → Act → World → Prop} {a : Act} {w : World} (I : Nat → Act → World → Prop) (h0 : ∃ n, I n a w)
    (round : ∀ n a w, I n a w → c.wp P (Exit.then (fun a' w' => ∃ n', n' < n ∧ I n' a' w') Q) a w) : (Code.loop c).wp P Q a w := by
  classical
  refine wp_loop (fun a w => ∃ n, I n a w) (fun a w => if h : ∃ n, I n a w then Classical.choose (exists_least h) else 0) h0 ?_
  intro a w hI
  have hs := Classical.choose_spec (exists_least hI)
  refine Code.wp_mono ?_ (round _ a w hs.1)
  intro e a' w' he
  cases e with
  | normal =>
    obtain ⟨n', hlt, hn⟩ := he
    refine ⟨⟨n', hn⟩, ?_⟩
    have hI' : ∃ n, I n a' w' := ⟨n', hn⟩
    have h2 := (Classical.choose_spec (exists_least hI')).2 n' hn
    rw [dif_pos hI', dif_pos hI]
    omega
  | _ => exact he

/-- So many rounds at most. -/
def unr (P : Program) (c : Code) (Q : Exit → Act → World → Prop) : Nat → Act → World → Prop
  | 0, _, _ => False
  | n + 1, a, w => c.wp P (Exit.then (unr P c Q n) Q) a w
theorem wp_unr {P : Program} {c : Code} {Q : Exit → Act → World → Prop} {n : Nat} {a : Act} {w : World} (h : unr P c Q n a w) : (Code.loop c).wp P Q a w := by
  refine wp_loop_n (unr P c Q) ⟨n, h⟩ ?_
  intro n a w h
  cases n with
  | zero => exact h.elim
  | succ n =>
    refine Code.wp_mono ?_ h
    intro e a w he
    cases e with
    | normal => exact ⟨n, Nat.lt_succ_self n, he⟩
    | _ => exact he

section
variable {w0 : Base} {w : World} {st : St} {env : List Atom} {η : List Nat} {m : Addr → Option Value} {a : Act} {P : Program} {ops : Array Oper}
variable {cs : Nat → Sig × Con} {Post : List Atom → Prop} {sigs : Sg}
theorem eqL_get {α : Type} {e : α → α → Bool} : ∀ {l m : List α}, eqL e l m = true → l.length = m.length ∧ ∀ (i : Nat) x y, l[i]? = some x → m[i]? = some y → e x y = true
  | [], [], _ => ⟨rfl, fun i x y h => by simp at h⟩
  | a :: l, b :: m, h => by
    simp only [eqL, Bool.and_eq_true] at h
    obtain ⟨h1, h2⟩ := eqL_get h.2
    refine ⟨by simp [h1], fun i x y hx hy => ?_⟩
    cases i with
    | zero => simp only [List.getElem?_cons_zero, Option.some.injEq] at hx hy; subst hx; subst hy; exact h.1
    | succ i => exact h2 i x y hx hy
  | [], _ :: _, h => by simp [eqL] at h
  | _ :: _, [], h => by simp [eqL] at h
theorem kindsFit_get : ∀ {ks : List RK} {ls : List S}, kindsFit ks ls = true → ks.length = ls.length ∧ ∀ (i : Nat) k s, ks[i]? = some k → ls[i]? = some s → kindS s = some k
  | [], [], _ => ⟨rfl, fun i k s h => by simp at h⟩
  | k :: ks, s :: ss, h => by
    simp only [kindsFit, Bool.and_eq_true] at h
    obtain ⟨h1, h2⟩ := kindsFit_get h.2
    refine ⟨by simp [h1], fun i x y hx hy => ?_⟩
    cases i with
    | zero =>
      simp only [List.getElem?_cons_zero, Option.some.injEq] at hx hy; subst hx; subst hy
      have h3 := h.1
      split at h3
      · rename_i k' hk; rw [hk, RK.eq_of h3]
      · cases h3
    | succ i => exact h2 i x y hx hy
  | [], _ :: _, h => by simp [kindsFit] at h
  | _ :: _, [], h => by simp [kindsFit] at h
theorem needAll_sound {L : List (List Atom → Prop)} {t : T} : ∀ {ds : List Nd}, (needAll ds t).wp cs Post env L → (∀ d ∈ ds, d.ok env) ∧ t.wp cs Post env L
  | [], h => ⟨fun _ h => absurd h (by simp), h⟩
  | d :: r, h => by
    obtain ⟨h1, h2⟩ := h
    obtain ⟨h3, h4⟩ := needAll_sound h2
    exact ⟨fun x hx => (List.mem_cons.1 hx).elim (fun e => e ▸ h1) (h3 x), h4⟩
theorem slcAll_mem : ∀ {l : List S} {x : X}, S.slc x ∈ l → Nd.kind .slc x ∈ slcAll l
  | [], _, h => by simp at h
  | s :: l, x, h => by
    rcases List.mem_cons.1 h with e | h
    · subst e; simp [slcAll]
    · have := slcAll_mem h
      unfold slcAll
      split
      · rename_i e; cases e
      · rename_i e; cases e; exact List.mem_cons_of_mem _ this
      · rename_i e; cases e; exact this
theorem kind_ok {l : List S} (hds : ∀ d ∈ slcAll l, d.ok env) {s : S} (hs : s ∈ l) {k : RK} (h : kindS s = some k) (hg : ∀ x ∈ env, Good m x) (hp : s.pureB = true) : k.ok (s.atom env).1 := by
  cases s <;> simp only [kindS, Option.some.injEq] at h <;> try (cases h; done)
  all_goals subst h
  · exact ⟨_, rfl⟩
  · exact ⟨_, rfl⟩
  · exact ⟨_, rfl⟩
  · exact hds _ (slcAll_mem hs)
  · rename_i x; exact (X.good hg x).2
theorem kindsOk_of : ∀ {ks : List RK} {as : List Atom}, ks.length = as.length → (∀ (i : Nat) k x, ks[i]? = some k → as[i]? = some x → k.ok x.1) → KindsOk ks as
  | [], [], _, _ => trivial
  | [], _ :: _, h, _ => by simp at h
  | _ :: _, [], h, _ => by simp at h
  | k :: ks, x :: as, h, hk => ⟨hk 0 k x rfl rfl, kindsOk_of (by simpa using h) (fun i k x h1 h2 => hk (i + 1) k x h1 h2)⟩
theorem cover_den {n0 : Nat} {ks : List RK} {ls : List S} {h s : S} {env0 el : List Atom} (hn : n0 = env0.length) (hp : ls.all S.pureB = true) (hc : coverS n0 ks ls h s = true)
    (hk : ∀ (i : Nat) k x, ks[i]? = some k → ls[i]? = some x → k.ok (x.atom (env0 ++ el)).1) : h.den (env0 ++ ls.map (S.atom (env0 ++ el))) η = s.den (env0 ++ el) η := by
  unfold coverS at hc
  rw [Bool.or_eq_true] at hc
  rcases hc with hc | hc
  · simp only [Bool.and_eq_true] at hc
    obtain ⟨h1, h2⟩ := hc
    obtain rfl := S.eq_of h2
    rw [hn] at h1
    rw [S.den_bnd h1, S.den_bnd h1]
  · have main : ∀ i, (n0 ≤ i && (match ks[i - n0]?, ls[i - n0]? with
        | some k, some x => h.eq (k.S (.at i)) && x.eq s
        | _, _ => false)) = true → h.den (env0 ++ ls.map (S.atom (env0 ++ el))) η = s.den (env0 ++ el) η := by
      intro i hc
      simp only [Bool.and_eq_true, decide_eq_true_eq] at hc
      obtain ⟨hi, hc⟩ := hc
      split at hc
      · rename_i k x hks hls
        simp only [Bool.and_eq_true] at hc
        obtain ⟨h1, h2⟩ := hc
        obtain rfl := S.eq_of h1
        obtain rfl := S.eq_of h2
        have hx := List.all_eq_true.1 hp x (List.mem_of_getElem? hls)
        have hat : ((X.at i).den (env0 ++ ls.map (S.atom (env0 ++ el)))) = x.atom (env0 ++ el) := by
          simp only [X.den, List.getD_eq_getElem?_getD]
          rw [List.getElem?_append_right (by omega), ← hn, List.getElem?_map, hls]
          rfl
        have h4 := hk _ _ _ hks hls
        rw [RK.S_den (by rw [hat]; exact h4), hat, S.atom_val (η := η) hx]
      · cases hc
    split at hc
    · exact main _ hc
    · exact main _ hc
    · exact main _ hc
    · exact main _ hc
    · exact main _ hc
    · cases hc
theorem S.den_take {s : S} {n : Nat} (h : s.pb n = true) : s.den env (η.take n) = s.den env η := by
  have hget : ∀ b, b < n → (η.take n).getD b 0 = η.getD b 0 := by
    intro b hb
    simp [List.getD_eq_getElem?_getD, hb]
  cases s with
  | ptr b off =>
    have h : b < n := by simpa [S.pb] using h
    simp only [S.den, hget b h]
  | fn f l =>
    simp only [S.den]
    congr 1
    apply Array.ext'
    simp only
    refine List.map_congr_left fun b hb => ?_
    have h : b < n := by have := List.all_eq_true.1 h b hb; simpa using this
    rw [hget b h]
  | _ => rfl
theorem coverBlks_get {n0 : Nat} {ks : List RK} {ls : List S} : ∀ {l m : List Blk}, coverBlks n0 ks ls l m = true → l.length ≤ m.length ∧ ∀ (i : Nat) x y, l[i]? = some x → m[i]? = some y → x.ty = y.ty ∧ eqL (coverS n0 ks ls) x.cells y.cells = true
  | [], _, _ => ⟨by simp, fun i x y h => by simp at h⟩
  | a :: l, b :: m, h => by
    simp only [coverBlks, Bool.and_eq_true, beq_iff_eq] at h
    obtain ⟨h1, h2⟩ := coverBlks_get h.2
    refine ⟨by simpa using h1, fun i x y hx hy => ?_⟩
    cases i with
    | zero => simp only [List.getElem?_cons_zero, Option.some.injEq] at hx hy; subst hx; subst hy; exact h.1
    | succ i => exact h2 i x y hx hy
  | _ :: _, [], h => by simp [coverBlks] at h
theorem map_cover {n0 : Nat} {ks : List RK} {ls : List S} {env0 el : List Atom} (hn : n0 = env0.length) (hp : ls.all S.pureB = true)
    (hk : ∀ (i : Nat) k x, ks[i]? = some k → ls[i]? = some x → k.ok (x.atom (env0 ++ el)).1) {l m : List S} (h : eqL (coverS n0 ks ls) l m = true) :
    l.map (S.den (env0 ++ ls.map (S.atom (env0 ++ el))) η) = m.map (S.den (env0 ++ el) η) := by
  obtain ⟨h1, h2⟩ := eqL_get h
  apply List.ext_getElem?
  intro i
  simp only [List.getElem?_map]
  cases hx : l[i]? with
  | none => rw [List.getElem?_eq_none_iff.2 (by have := List.getElem?_eq_none_iff.1 hx; omega)]; rfl
  | some x =>
    have hlt : i < m.length := by rw [← h1]; exact (List.getElem?_eq_some_iff.1 hx).1
    have hy := List.getElem?_eq_getElem hlt
    rw [hy]
    simp only [Option.map_some, Option.some.injEq]
    exact cover_den hn hp (h2 i x _ hx hy) hk
/-- At a loop's head, or back there. -/
theorem Rel.cover {hd : St} {env0 el : List Atom} (hr : Rel w0 st (env0 ++ el) η m a w) {ks : List RK} {ls : List S} (hc : covers env0.length ks ls hd st = true) (hds : ∀ d ∈ slcAll ls, d.ok (env0 ++ el))
    (hkn : ∀ p ∈ hd.known, vb (p.1.den env0).1 = p.2) :
    Rel w0 hd (env0 ++ ls.map (S.atom (env0 ++ el))) (η.take hd.blks.length) m a w ∧ KindsOk ks (ls.map (S.atom (env0 ++ el))) := by
  simp only [covers, Bool.and_eq_true, beq_iff_eq] at hc
  obtain ⟨⟨⟨⟨⟨⟨hn, hkf⟩, hp⟩, hpb⟩, hknb⟩, htm⟩, hbl⟩ := hc
  obtain ⟨hlen, hkf⟩ := kindsFit_get hkf
  obtain ⟨htl, htg⟩ := eqL_get htm
  obtain ⟨hbl1, hbg⟩ := coverBlks_get hbl
  have hk : ∀ (i : Nat) k x, ks[i]? = some k → ls[i]? = some x → k.ok (x.atom (env0 ++ el)).1 := by
    intro i k x h1 h2
    exact kind_ok hds (List.mem_of_getElem? h2) (hkf i k x h1 h2) hr.hg (List.all_eq_true.1 hp x (List.mem_of_getElem? h2))
  simp only [St.pbnd, Bool.and_eq_true] at hpb
  have htake : ∀ (l : List S), l.all (S.pb hd.blks.length) = true → l.map (S.den (env0 ++ ls.map (S.atom (env0 ++ el))) (η.take hd.blks.length)) = l.map (S.den (env0 ++ ls.map (S.atom (env0 ++ el))) η) :=
    fun l hl => List.map_congr_left fun s hs => S.den_take (List.all_eq_true.1 hl s hs)
  refine ⟨⟨by simp [hn, hlen], by rw [hr.hs, htl], ?_, hr.hd, by simp [hr.he]; omega, hr.hnd.sublist (List.take_sublist _ _), ?_, ?_, hr.hB, ?_, hr.hm0, ?_, ?_⟩, ?_⟩
  · intro i v hv
    have hlt : i < st.tmps.length := by rw [← htl]; exact (List.getElem?_eq_some_iff.1 hv).1
    have hu := List.getElem?_eq_getElem hlt
    have hcv := htg i v _ hv hu
    by_cases hj : v = junkV
    · exact .inl hj
    right
    cases hst : st.tmps[i] with
    | tup l =>
      rw [hst] at hcv
      cases v with
      | tup _ => simp [coverSV] at hcv
      | one t =>
        cases t with
        | agg _ => simp [coverSV] at hcv
        | s x => cases x <;> simp [coverSV] at hcv; exact absurd rfl hj
    | one u =>
      rw [hst] at hcv hu
      cases v with
      | tup _ => simp [coverSV] at hcv
      | one t =>
        have hcv' : coverTV env0.length ks ls t u = true := by
          cases t with
          | agg _ => exact hcv
          | s x =>
            cases x <;> first | exact hcv | exact absurd rfl hj
        have hpv : (SV.one t).pb hd.blks.length = true := List.all_eq_true.1 hpb.1 _ (List.mem_of_getElem? hv)
        rcases hr.ht i _ hu with e | e
        · -- junk stands there: nothing is told of it, so the head's is junk
          exfalso
          have e : u = .s .junk := by injection e
          subst e
          cases t with
          | agg _ => simp [coverTV] at hcv'
          | s x =>
            simp only [coverTV, coverS, Bool.or_eq_true, Bool.and_eq_true] at hcv'
            rcases hcv' with h | h
            · have := S.eq_of h.2
              subst this
              exact hj rfl
            · split at h <;> (try (cases h; done))
              all_goals
                simp only [Bool.and_eq_true] at h
                obtain ⟨_, h⟩ := h
                split at h
                · rename_i k x hks hls
                  simp only [Bool.and_eq_true] at h
                  have h2 := S.eq_of h.2
                  subst h2
                  have := List.all_eq_true.1 hp _ (List.mem_of_getElem? hls)
                  simp [S.pureB] at this
                · cases h
        · rw [e]
          congr 1
          cases t with
          | agg l =>
            cases u with
            | s _ => simp [coverTV] at hcv'
            | agg l' =>
              simp only [SV.den, TV.den]
              rw [htake l hpv, map_cover rfl hp hk hcv']
          | s x =>
            cases u with
            | agg _ => simp [coverTV] at hcv'
            | s y =>
              simp only [SV.den, TV.den]
              rw [S.den_take hpv, cover_den rfl hp hcv' hk]
  · intro i bl hbli
    have hlt : i < hd.blks.length := (List.getElem?_eq_some_iff.1 hbli).1
    have hu := List.getElem?_eq_getElem (show i < st.blks.length by omega)
    obtain ⟨e1, e2⟩ := hbg i bl _ hbli hu
    have h1 := hr.hb i _ hu
    have hget : (η.take hd.blks.length).getD i 0 = η.getD i 0 := by simp [List.getD_eq_getElem?_getD, hlt]
    rw [hget, htake _ (List.all_eq_true.1 hpb.2 bl (List.mem_of_getElem? hbli)), map_cover rfl hp hk e2, e1]
    exact h1
  · intro g hg; exact hr.hge g (List.mem_of_mem_take hg)
  · intro ad v h
    obtain ⟨h1, h2⟩ := hr.hm ad v h
    exact ⟨h1, fun h => h2 (List.mem_of_mem_take h)⟩
  · intro x hx
    rcases List.mem_append.1 hx with h | h
    · exact hr.hg x (List.mem_append_left _ h)
    · obtain ⟨s, hs, rfl⟩ := List.mem_map.1 h
      exact S.atom_good hr.hg (List.all_eq_true.1 hp s hs)
  · intro p hp'
    rw [X.den_bnd (List.all_eq_true.1 hknb p hp')]
    exact hkn p hp'
  · refine kindsOk_of (by simp [hlen]) fun i k x h1 h2 => ?_
    simp only [List.getElem?_map] at h2
    cases h3 : ls[i]? with
    | none => rw [h3] at h2; cases h2
    | some s =>
      rw [h3] at h2
      simp only [Option.map_some, Option.some.injEq] at h2
      subst h2
      exact hk i k s h1 h3
end
end Go.Proofs.YtmhfooalcohpgaaV
