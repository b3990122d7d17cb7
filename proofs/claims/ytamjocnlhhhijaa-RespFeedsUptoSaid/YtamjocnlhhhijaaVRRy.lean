/- Commands' bytes, there and back; what the reference tells of a line. Plain lists. -/
import Derived.Test.YtamjocnlhhhijaaVRRx
set_option linter.unusedSimpArgs false
set_option linter.unusedVariables false
namespace Go.Proofs.YtamjocnlhhhijaaS
open Go.Proofs.YtamjocnlhhhijaaK
instance (c : UInt8) : Decidable (dig c) := by unfold dig; infer_instance
/-- Digits ahead, and what is behind them. -/
theorem span_dig : ∀ l : Bs, ∃ ds r, l = ds ++ r ∧ (∀ c ∈ ds, dig c) ∧ (r = [] ∨ ∃ c r', r = c :: r' ∧ ¬dig c)
  | [] => ⟨[], [], rfl, by simp, .inl rfl⟩
  | c :: l => by
    by_cases h : dig c
    · obtain ⟨ds, r, h1, h2, h3⟩ := span_dig l
      refine ⟨c :: ds, r, by rw [h1]; rfl, fun x hx => ?_, h3⟩
      rcases List.mem_cons.1 hx with rfl | hx
      · exact h
      · exact h2 x hx
    · exact ⟨[], c :: l, rfl, by simp, .inr ⟨c, l, rfl, h⟩⟩
theorem endP_inv {n n' : Int} {l r : Bs} (h : endP n l = .ok n' r) : n' = n ∧ l = 10 :: r := by
  cases l with
  | nil => cases h
  | cons d l =>
    rw [endP] at h
    split at h
    · rename_i h2
      injection h with h3 h4
      subst h2; subst h3; subst h4
      exact ⟨rfl, rfl⟩
    · cases h
theorem lineP_inv {sign : UInt8} {k : Ks} {l r : Bs} {n : Int} (h : lineP sign k l = .ok n r) : l = sign :: (dg n.toNat ++ 13 :: 10 :: r) ∧ k.least ≤ n ∧ n ≤ k.most ∧ 0 ≤ n := by
  cases l with
  | nil => cases h
  | cons c l =>
    by_cases hc : c = sign
    · subst hc
      obtain ⟨ds, q, rfl, hd, hq⟩ := span_dig l
      obtain ⟨h1, h2⟩ := lineP_of c k hd (hq.elim .inl fun h => .inr (.inl h))
      by_cases hm : mayN k ds
      · rw [h1 hm] at h
        cases q with
        | nil => cases h
        | cons d q =>
          simp only at h
          split at h
          · rename_i h13
            obtain ⟨e1, e2⟩ := endP_inv h
            subst e1; subst e2; subst h13
            refine ⟨?_, hm.2.1, hm.2.2.1, by omega⟩
            have := hm.2.2.2
            rw [Int.toNat_natCast, this]
          · cases h
      · rw [h2 hm] at h
        split at h <;> cases h
    · rw [lineP, if_neg hc] at h; cases h
theorem bytP_inv : ∀ {n : Nat} {l r a : Bs}, bytP n l = .ok a r → l = a ++ 13 :: 10 :: r ∧ a.length = n
  | 0, [], r, a, h => by cases h
  | 0, c :: l, r, a, h => by
    rw [bytP] at h
    split at h
    · rename_i hc
      subst hc
      cases he : endP 0 l with
      | short => rw [he] at h; cases h
      | wrong => rw [he] at h; cases h
      | ok x r' =>
        rw [he] at h
        injection h with h1 h2
        subst h1; subst h2
        obtain ⟨_, e⟩ := endP_inv he
        subst e
        exact ⟨rfl, rfl⟩
    · cases h
  | n + 1, [], r, a, h => by cases h
  | n + 1, c :: l, r, a, h => by
    rw [bytP] at h
    cases hb : bytP n l with
    | short => rw [hb] at h; cases h
    | wrong => rw [hb] at h; cases h
    | ok a' r' =>
      rw [hb] at h
      injection h with h1 h2
      subst h1; subst h2
      obtain ⟨e1, e2⟩ := bytP_inv hb
      exact ⟨by rw [e1]; rfl, by simp [e2]⟩
def bulkL (a : Bs) : Bs := 36 :: (dg a.length ++ 13 :: 10 :: (a ++ [13, 10]))
def cmdL (as : List Bs) : Bs := 42 :: (dg as.length ++ 13 :: 10 :: as.flatMap bulkL)
theorem argP_inv {l r a : Bs} (h : argP l = .ok a r) : l = bulkL a ++ r ∧ a.length ≤ 1000 := by
  unfold argP at h
  cases hq : lineP 36 .szd l with
  | short => rw [hq] at h; cases h
  | wrong => rw [hq] at h; cases h
  | ok n r1 =>
    rw [hq] at h
    obtain ⟨e1, e2, e3, e4⟩ := lineP_inv hq
    obtain ⟨e5, e6⟩ := bytP_inv h
    have e7 : n ≤ 1000 := e3
    refine ⟨?_, by omega⟩
    rw [e1, e5, ← e6]
    simp [bulkL]
theorem argsP_inv : ∀ (k : Nat) {l r : Bs} {as : List Bs}, argsP k l = .ok as r → l = as.flatMap bulkL ++ r ∧ as.length = k ∧ ∀ a ∈ as, a.length ≤ 1000
  | 0, l, r, as, h => by
    injection h with h1 h2
    subst h1; subst h2
    exact ⟨rfl, rfl, by simp⟩
  | k + 1, l, r, as, h => by
    rw [argsP] at h
    cases ha : argP l with
    | short => rw [ha] at h; cases h
    | wrong => rw [ha] at h; cases h
    | ok a r1 =>
      rw [ha] at h
      simp only at h
      cases hq : argsP k r1 with
      | short => rw [hq] at h; cases h
      | wrong => rw [hq] at h; cases h
      | ok as' r2 =>
        rw [hq] at h
        injection h with h1 h2
        subst h1; subst h2
        obtain ⟨e1, e2⟩ := argP_inv ha
        obtain ⟨e3, e4, e5⟩ := argsP_inv k hq
        refine ⟨by rw [e1, e3]; simp, by simp [e4], fun x hx => ?_⟩
        rcases List.mem_cons.1 hx with rfl | hx
        · exact e2
        · exact e5 x hx
def mayL (as : List Bs) : Prop := 1 ≤ as.length ∧ as.length ≤ 50 ∧ ∀ a ∈ as, a.length ≤ 1000
theorem cmdP_inv {l r : Bs} {as : List Bs} (h : cmdP l = .ok as r) : l = cmdL as ++ r ∧ mayL as := by
  unfold cmdP at h
  cases hq : lineP 42 .cnt l with
  | short => rw [hq] at h; cases h
  | wrong => rw [hq] at h; cases h
  | ok n r1 =>
    rw [hq] at h
    obtain ⟨e1, e2, e3, e4⟩ := lineP_inv hq
    obtain ⟨e5, e6, e7⟩ := argsP_inv _ h
    have e8 : 1 ≤ n := e2
    have e9 : n ≤ 50 := e3
    refine ⟨?_, by omega, by omega, e7⟩
    rw [e1, e5, ← e6]
    simp [cmdL]
/-- What comes of all: commands' bytes, and what is behind them. -/
theorem whl_inv : ∀ (f : Nat) (out : List (List Bs)) (l : Bs), l.length ≤ f → ∃ new r, (whl f out l).1 = out ++ new ∧ l = new.flatMap cmdL ++ r ∧ ((whl f out l).2.2 = false → (whl f out l).2.1 = r.length) ∧ ∀ as ∈ new, mayL as
  | 0, out, l, h => ⟨[], l, by simp [whl], rfl, fun _ => rfl, by simp⟩
  | f + 1, out, [], h => ⟨[], [], by simp [whl], rfl, fun _ => rfl, by simp⟩
  | f + 1, out, c :: l, h => by
    rw [whl]
    cases hc : cmdP (c :: l) with
    | short => exact ⟨[], c :: l, by simp, rfl, fun _ => rfl, by simp⟩
    | wrong => exact ⟨[], c :: l, by simp, rfl, fun h => (by cases h), by simp⟩
    | ok as r =>
      obtain ⟨e1, e2⟩ := cmdP_inv hc
      have hlt := cmdP_lt hc
      obtain ⟨new, r2, h1, h2, h3, h4⟩ := whl_inv f (out ++ [as]) r (by simp at h hlt; omega)
      refine ⟨as :: new, r2, by simp only; rw [h1]; simp, by rw [e1, h2]; simp, h3, fun x hx => ?_⟩
      rcases List.mem_cons.1 hx with rfl | hx
      · exact e2
      · exact h4 x hx
theorem res_start (B : Bs) : res start B = whl B.length [] B := res_whl B.length B start (Nat.le_refl _) rfl rfl
theorem res_inv (B : Bs) : ∃ r, B = (res start B).1.flatMap cmdL ++ r ∧ ((res start B).2.2 = false → (res start B).2.1 = r.length) ∧ ∀ as ∈ (res start B).1, mayL as := by
  obtain ⟨new, r, h1, h2, h3, h4⟩ := whl_inv B.length [] B (Nat.le_refl _)
  rw [← res_start] at h1 h3
  rw [List.nil_append] at h1
  rw [h1]
  exact ⟨r, h2, h3, h4⟩
/-! ### More bytes -/
theorem step_out {m m' : Mc} {c : UInt8} (h : step m c = some m') : ∃ new, m'.out = m.out ++ new := by
  unfold step at h
  repeat' (split at h)
  all_goals first
    | (injection h with h; subst h; exact ⟨[], (List.append_nil _).symm⟩)
    | (injection h with h; subst h; exact ⟨_, rfl⟩)
    | cases h
theorem res_out : ∀ (l : Bs) (m : Mc), ∃ new, (res m l).1 = m.out ++ new
  | [], m => ⟨[], (List.append_nil _).symm⟩
  | c :: l, m => by
    rw [res]
    cases hs : step { m with left := m.left + 1 } c with
    | none => exact ⟨[], (List.append_nil _).symm⟩
    | some m' =>
      obtain ⟨n1, h1⟩ := step_out hs
      obtain ⟨n2, h2⟩ := res_out l m'
      exact ⟨n1 ++ n2, by simp only; rw [h2, h1, List.append_assoc]⟩
theorem res_more : ∀ (l q : Bs) (m : Mc), ((res m l).2.2 = true → (res m (l ++ q)).2.2 = true ∧ (res m (l ++ q)).1 = (res m l).1) ∧ ∃ new, (res m (l ++ q)).1 = (res m l).1 ++ new
  | [], q, m => ⟨fun h => by simp [res] at h, by obtain ⟨n, h⟩ := res_out q m; exact ⟨n, h⟩⟩
  | c :: l, q, m => by
    rw [List.cons_append, res, res]
    cases hs : step { m with left := m.left + 1 } c with
    | none => exact ⟨fun _ => ⟨rfl, rfl⟩, [], (List.append_nil _).symm⟩
    | some m' => exact res_more l q m'
end Go.Proofs.YtamjocnlhhhijaaS
namespace Go.Proofs.YtamjocnlhhhijaaK
open Go Go.Proofs.YtamjocnlhhhijaaV Go.Proofs.YtamjocnlhhhijaaK Go.Proofs.YtamjocnlhhhijaaK Go.Proofs.YtamjocnlhhhijaaS
theorem ls_prt_nat (n : Nat) : ls (prt (n : Int)) = dg n := by
  show pr (n : Int) = dg n
  unfold pr
  rw [if_neg (by omega), Int.toNat_natCast]
theorem ls_bulkB (a : ByteArray) : ls (bulkB a) = bulkL (ls a) := by
  unfold bulkB bulkL
  rw [ls_app, ls_app, ls_app, ls_app, ls_prt_nat, size_ls]
  simp [ls, e2]
theorem ls_catB (l : List ByteArray) : ls (catB (l.map bulkB)) = (l.map ls).flatMap bulkL := by
  induction l with
  | nil => rfl
  | cons a l ih => rw [List.map_cons, catB_cons, ls_app, ih, ls_bulkB]; rfl
theorem ls_cmdB (as : List ByteArray) : ls (cmdB as) = cmdL (as.map ls) := by
  unfold cmdB cmdL
  rw [ls_app, ls_app, ls_app, ls_prt_nat, ls_catB, List.length_map]
  simp [ls, e2]
theorem clen_flat (l : List (List ByteArray)) : clen l = (((l.map (List.map ls)).flatMap cmdL).length : Int) := by
  induction l with
  | nil => rfl
  | cons a l ih =>
    have e : clen (a :: l) = ((cmdB a).size : Int) + clen l := by simp [clen]
    rw [e, ih, size_ls, ls_cmdB]
    simp
theorem mayB_L (l : List ByteArray) : mayB l = true ↔ mayL (l.map ls) := by
  unfold mayB mayL
  simp only [Bool.and_eq_true, decide_eq_true_eq, List.all_eq_true, List.length_map, List.mem_map, forall_exists_index, and_imp, forall_apply_eq_imp_iff₂]
  constructor
  · rintro ⟨⟨h1, h2⟩, h3⟩
    exact ⟨h1, h2, fun a ha => by rw [← size_ls]; exact h3 a ha⟩
  · rintro ⟨h1, h2, h3⟩
    exact ⟨⟨h1, h2⟩, fun a ha => by rw [size_ls]; exact h3 a ha⟩
theorem sub0_l {α : Type} (r : Rw α) (z : Nat) (j : Int) : (r.sub z 0 j).l = r.l.take j.toNat := by simp [Rw.sub]
theorem inj_ls {a b : List (List ByteArray)} (h : a.map (List.map ls) = b.map (List.map ls)) : a = b := by
  have h1 : ∀ x y : List ByteArray, x.map ls = y.map ls → x = y := fun x y e => (List.map_inj_right (fun a b h => ls_inj h)).1 e
  exact (List.map_inj_right h1).1 h
theorem bS_app (a b : List Int) : bS (a ++ b) = bS a ++ bS b := List.map_append
theorem begins {b b2 x : Rw Int} {q : List Int} {k : Nat} (h2 : b2.l = b.l.take k) (hx : x.l = b.l ++ q) {x1 x2 x5 : Rw (Rw ByteArray)} {n1 e1 n2 e2 n5 e5 : Int} (w1 : wholeP b x1 n1 e1) (w2 : wholeP b2 x2 n2 e2) (w5 : wholeP x x5 n5 e5) :
    (e1 ≠ 0 ∨ e2 = 0) ∧ (e1 = 0 ∨ e5 ≠ 0) ∧ x2.l.length ≤ x5.l.length ∧ (vv x5).take x2.l.length = vv x2 := by
  have e21 : bS b2.l = (bS b.l).take k := by rw [h2]; exact List.map_take ..
  have e51 : bS x.l = bS b.l ++ bS q := by rw [hx, bS_app]
  obtain ⟨a1, n1', a2⟩ := res_more ((bS b.l).take k) ((bS b.l).drop k) Go.Proofs.YtamjocnlhhhijaaS.start
  obtain ⟨a3, n3', a4⟩ := res_more (bS b.l) (bS q) Go.Proofs.YtamjocnlhhhijaaS.start
  rw [List.take_append_drop] at a1 a2
  rw [← e21] at a1 a2
  rw [← e51] at a3 a4
  refine ⟨?_, ?_, ?_⟩
  · rw [w1.e, w2.e]
    cases h : (res Go.Proofs.YtamjocnlhhhijaaS.start (bS b2.l)).2.2 with
    | false => right; simp
    | true => left; rw [(a1 h).1]; simp
  · rw [w1.e, w5.e]
    cases h : (res Go.Proofs.YtamjocnlhhhijaaS.start (bS b.l)).2.2 with
    | false => left; simp
    | true => right; rw [(a3 h).1]; simp
  · have e : (vv x5).map (List.map ls) = (vv x2).map (List.map ls) ++ (n1' ++ n3') := by rw [w5.out, w2.out, a4, a2, List.append_assoc]
    have hl : (vv x2).length = x2.l.length := by simp [vv]
    have hl5 : (vv x5).length = x5.l.length := by simp [vv]
    have hlen := congrArg List.length e
    simp only [List.length_map, List.length_append] at hlen
    refine ⟨by omega, inj_ls ?_⟩
    rw [List.map_take, e, ← hl, List.take_append_of_le_length (by simp), List.take_of_length_le (by simp)]
/-- What came, put together again. -/
theorem canon {b : Rw Int} {x : Rw (Rw ByteArray)} {n e : Int} (w : wholeP b x n e) (hB : isB b.l) : n = (bI (((vv x).map (List.map ls)).flatMap cmdL)).length ∧ n ≤ b.l.length ∧ b.l.take n.toNat = bI (((vv x).map (List.map ls)).flatMap cmdL) ∧ ∀ y ∈ x.l, mayB y.l = true := by
  obtain ⟨r, h1, h2, h3⟩ := res_inv (bS b.l)
  rw [← w.out] at h1 h3
  have hn : n = (bI (((vv x).map (List.map ls)).flatMap cmdL)).length := by rw [w.n, clen_flat, bI_len]
  have hb : b.l = bI (((vv x).map (List.map ls)).flatMap cmdL) ++ bI r := by rw [← bI_app, ← h1, bI_bS hB]
  refine ⟨hn, ?_, ?_, fun y hy => ?_⟩
  · rw [hn, hb, List.length_append]; omega
  · rw [hn, Int.toNat_natCast]
    conv => lhs; rw [hb]
    exact List.take_left
  · exact (mayB_L y.l).2 (h3 _ (List.mem_map.2 ⟨y.l, vv_mem hy, rfl⟩))
theorem flat_take {x : Rw (Rw ByteArray)} {i : Int} (h0 : 0 ≤ i) (h1 : i < x.l.length) : (((vv x).take (i + 1).toNat).map (List.map ls)).flatMap cmdL = (((vv x).take i.toNat).map (List.map ls)).flatMap cmdL ++ ls (cmdB (x.get i).l) := by
  rw [vv_take h0 h1, List.map_append, List.flatMap_append, ls_cmdB]; simp
theorem flat_len (x : Rw (Rw ByteArray)) (k : Nat) : ((((vv x).take k).map (List.map ls)).flatMap cmdL).length ≤ (((vv x).map (List.map ls)).flatMap cmdL).length := by
  have h1 := clen_flat ((vv x).take k)
  have h2 := clen_flat (vv x)
  have h3 := clen_take (vv x) k
  omega
theorem okL_sub {x : Rw (Rw ByteArray)} (h : okL x) (j : Int) : okL (x.sub 1 0 j) := by
  refine ⟨ok_sub h.1 _ _, fun y hy => h.2 y ?_⟩
  rw [sub0_l] at hy
  exact List.mem_of_mem_take hy
theorem vv_sub (x : Rw (Rw ByteArray)) (j : Int) : vv (x.sub 1 0 j) = (vv x).take j.toNat := by unfold vv; rw [sub0_l, List.map_take]
theorem whole_len {b : Rw Int} {x : Rw (Rw ByteArray)} {n e : Int} (w : wholeP b x n e) (hB : isB b.l) (hl : b.l.length ≤ 2000) : x.l.length ≤ 2000 ∧ (∀ y ∈ x.l, y.l.length ≤ 2000 ∧ lenS y.l ≤ 100000) := by
  obtain ⟨h1, h2, _, h4⟩ := canon w hB
  have key : ∀ L : List (List ByteArray), L.length ≤ ((L.map (List.map ls)).flatMap cmdL).length ∧ ∀ a ∈ L, a.length ≤ ((L.map (List.map ls)).flatMap cmdL).length ∧ lenS a ≤ ((L.map (List.map ls)).flatMap cmdL).length := by
    intro L
    have hb : ∀ a : List Bs, a.length ≤ (a.flatMap bulkL).length ∧ wS a ≤ (a.flatMap bulkL).length := by
      intro a
      induction a with
      | nil => exact ⟨Nat.le_refl _, Nat.le_refl _⟩
      | cons c a ih =>
        simp only [List.flatMap_cons, List.length_append, List.length_cons, wS, List.map_cons, List.sum_cons, bulkL] at ih ⊢
        omega
    induction L with
    | nil => simp
    | cons a L ih =>
      simp only [List.map_cons, List.flatMap_cons, List.length_append, List.length_cons]
      have h5 := hb (a.map ls)
      have h6 : (cmdL (a.map ls)).length = 1 + ((dg (a.map ls).length).length + (2 + ((a.map ls).flatMap bulkL).length)) := by simp [cmdL]; omega
      have h7 := lenS_wS a
      rw [List.length_map] at h5
      refine ⟨by omega, fun y hy => ?_⟩
      rcases List.mem_cons.1 hy with rfl | hy
      · omega
      · have := ih.2 y hy; omega
  obtain ⟨k1, k2⟩ := key (vv x)
  rw [bI_len] at h1
  have hl2 : (vv x).length = x.l.length := by simp [vv]
  refine ⟨by omega, fun y hy => ?_⟩
  have := k2 y.l (vv_mem hy)
  omega
theorem isB_sub {b : Rw Int} (h : isB b.l) (z : Nat) (i j : Int) : isB (b.sub z i j).l := fun x hx => h x (List.mem_of_mem_take (List.mem_of_mem_drop hx))
end Go.Proofs.YtamjocnlhhhijaaK
