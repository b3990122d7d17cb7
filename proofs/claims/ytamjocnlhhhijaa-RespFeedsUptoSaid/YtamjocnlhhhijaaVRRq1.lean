/- Replies that are plain: their bytes tell them. -/
import Derived.Test.YtamjocnlhhhijaaVRRp1
import Derived.Test.YtamjocnlhhhijaaVC
set_option linter.unusedSimpArgs false
set_option linter.unusedVariables false
namespace Go.Proofs.YtamjocnlhhhijaaK
open Go Go.Proofs.YtamjocnlhhhijaaV Go.Proofs.YtamjocnlhhhijaaK
theorem split_13 : ∀ {a a' r r' : List UInt8}, (∀ c ∈ a, c ≠ 13) → (∀ c ∈ a', c ≠ 13) → a ++ 13 :: r = a' ++ 13 :: r' → a = a' ∧ r = r'
  | [], [], r, r', _, _, h => ⟨rfl, by injection h⟩
  | [], c :: a', r, r', _, h2, h => by
    injection h with h _
    exact absurd h.symm (h2 c (by simp))
  | c :: a, [], r, r', h1, _, h => by
    injection h with h _
    exact absurd h (h1 c (by simp))
  | c :: a, c' :: a', r, r', h1, h2, h => by
    injection h with h h3
    obtain ⟨e1, e2⟩ := split_13 (fun x hx => h1 x (by simp [hx])) (fun x hx => h2 x (by simp [hx])) h3
    exact ⟨by rw [h, e1], e2⟩
theorem dg_13 (m : Nat) : ∀ c ∈ dg m, c ≠ 13 := fun c hc e => by
  have := dg_dig m c hc
  subst e; unfold dig at this; simp at this
theorem split_dg {m m' : Nat} {r r' : List UInt8} (h : dg m ++ 13 :: r = dg m' ++ 13 :: r') : m = m' ∧ r = r' := by
  obtain ⟨e1, e2⟩ := split_13 (dg_13 m) (dg_13 m') h
  exact ⟨by rw [← vl_dg m, ← vl_dg m', e1], e2⟩
theorem pr_nat (m : Nat) : pr (m : Int) = dg m := by unfold pr; rw [if_neg (by omega)]; rfl
theorem ls_e2 : ls e2 = [13, 10] := rfl
theorem ls_prt (n : Int) : ls (prt n) = pr n := rfl
theorem ls_bulk (s : ByteArray) (R : List UInt8) : ls (bulkB s) ++ R = 36 :: (dg s.size ++ 13 :: 10 :: (ls s ++ 13 :: 10 :: R)) := by
  unfold bulkB
  rw [ls_app, ls_app, ls_app, ls_app, ls_e2, ls_prt, pr_nat, show ls (⟨#[36]⟩ : ByteArray) = [36] from rfl]
  simp
theorem bulk_inj {s s' : ByteArray} {R R' : List UInt8} (h : ls (bulkB s) ++ R = ls (bulkB s') ++ R') : s = s' ∧ R = R' := by
  rw [ls_bulk, ls_bulk] at h
  injection h with _ h
  obtain ⟨e1, h⟩ := split_dg h
  injection h with _ h
  obtain ⟨e2, h⟩ := List.append_inj h (by rw [← size_ls, ← size_ls, e1])
  injection h with _ h
  injection h with _ h
  exact ⟨ls_inj e2, h⟩
theorem cat_inj : ∀ {l l' : List ByteArray} {R R' : List UInt8}, l.length = l'.length → ls (catB (l.map bulkB)) ++ R = ls (catB (l'.map bulkB)) ++ R' → l = l' ∧ R = R'
  | [], [], _, _, _, h => ⟨rfl, by simpa using h⟩
  | [], _ :: _, _, _, hl, _ => by simp at hl
  | _ :: _, [], _, _, hl, _ => by simp at hl
  | x :: l, y :: l', R, R', hl, h => by
    rw [List.map_cons, List.map_cons, catB_cons, catB_cons, ls_app, ls_app, List.append_assoc, List.append_assoc] at h
    obtain ⟨e1, h2⟩ := bulk_inj h
    obtain ⟨e2, h3⟩ := cat_inj (by simpa using hl) h2
    exact ⟨by rw [e1, e2], h3⟩
/-- What a plain reply is. -/
def isP (y : RV) : Prop := (y.k = 1 ∨ y.k = 2) ∧ y.n = 0 ∧ y.l = [] ∨ y.k = 3 ∧ y.t = em ∧ y.l = [] ∨ y.k = 4 ∧ y.n = 0 ∧ y.l = [] ∨ y.k = 6 ∧ y.t = em ∧ y.n = 0 ∨ y.k = 5 ∧ y.t = em ∧ y.n = 0 ∧ y.l = []
theorem isP_pl (v : RV) : isP (plV v) := by
  unfold isP
  by_cases h1 : v.k = 1 ∨ v.k = 2
  · rw [plV_1 h1]; exact .inl ⟨h1, rfl, rfl⟩
  by_cases h3 : v.k = 3
  · rw [plV_3 h3]; exact .inr (.inl ⟨h3, rfl, rfl⟩)
  by_cases h4 : v.k = 4
  · rw [plV_4 h4]; exact .inr (.inr (.inl ⟨h4, rfl, rfl⟩))
  by_cases h6 : v.k = 6
  · rw [plV_6 h6]; exact .inr (.inr (.inr (.inl ⟨h6, rfl, rfl⟩)))
  · rw [plV_5 (fun h => h1 (.inl h)) (fun h => h1 (.inr h)) h3 h4 h6]; exact .inr (.inr (.inr (.inr ⟨rfl, rfl, rfl, rfl⟩)))
/-- A plain reply's bytes, by its kind. -/
def bs (y : RV) : List UInt8 := ls (oneP y)
theorem bs_1 {y : RV} (h : y.k = 1) : bs y = 43 :: (ls y.t ++ [13, 10]) := by unfold bs; rw [one_1 h, ls_app, ls_app]; rfl
theorem bs_2 {y : RV} (h : y.k = 2) : bs y = 45 :: (ls y.t ++ [13, 10]) := by unfold bs; rw [one_2 h, ls_app, ls_app]; rfl
theorem bs_3 {y : RV} (h : y.k = 3) : bs y = 58 :: (pr y.n ++ [13, 10]) := by unfold bs; rw [one_3 h, ls_app, ls_app]; rfl
theorem bs_4 {y : RV} (h : y.k = 4) : bs y = 36 :: (dg y.t.size ++ 13 :: 10 :: (ls y.t ++ [13, 10])) := by unfold bs; rw [one_4 h, ← List.append_nil (ls (bulkB y.t)), ls_bulk]
theorem bs_6 {y : RV} (h : y.k = 6) : bs y = 42 :: (dg y.l.length ++ 13 :: 10 :: ls (catB (y.l.map bulkB))) := by
  unfold bs; rw [one_6 h, ls_app, ls_app, ls_app, ls_prt, pr_nat, ls_e2, show ls (⟨#[42]⟩ : ByteArray) = [42] from rfl]; simp
theorem bs_5 {y : RV} (h : y.k = 5) : bs y = [36, 45, 49, 13, 10] := by unfold bs; rw [one_5 (by omega) (by omega) (by omega) (by omega) (by omega)]; rfl
theorem cons_ne {a b : UInt8} {l m : List UInt8} (h : a ≠ b) : ¬a :: l = b :: m := fun e => by injection e with e _; exact h e
theorem dg_45 {m : Nat} {r r' : List UInt8} : ¬36 :: (dg m ++ r) = 36 :: 45 :: r' := by
  intro h
  injection h with _ h
  cases hd : dg m with
  | nil => exact dg_ne m hd
  | cons c l =>
    have := dg_dig m c (by rw [hd]; simp)
    rw [hd] at h
    injection h with h _
    subst h
    exact dig_45 this rfl
def hd1 (y : RV) : UInt8 := if y.k = 1 then 43 else if y.k = 2 then 45 else if y.k = 3 then 58 else if y.k = 6 then 42 else 36
theorem tail_inj {a b : List UInt8} (h : a ++ [13, 10] = b ++ [13, 10]) : a = b := (List.append_inj' h rfl).1
theorem oneP_inj {x y : RV} (hx : isP x) (hy : isP y) (h : oneP x = oneP y) : x = y := by
  have h : bs x = bs y := congrArg ls h
  obtain ⟨k, t, n, l⟩ := x
  obtain ⟨k', t', n', l'⟩ := y
  rcases hx with ⟨rfl | rfl, rfl, rfl⟩ | ⟨rfl, rfl, rfl⟩ | ⟨rfl, rfl, rfl⟩ | ⟨rfl, rfl, rfl⟩ | ⟨rfl, rfl, rfl, rfl⟩ <;> rcases hy with ⟨rfl | rfl, rfl, rfl⟩ | ⟨rfl, rfl, rfl⟩ | ⟨rfl, rfl, rfl⟩ | ⟨rfl, rfl, rfl⟩ | ⟨rfl, rfl, rfl, rfl⟩ <;>
    first | rw [bs_1 rfl] at h | rw [bs_2 rfl] at h | rw [bs_3 rfl] at h | rw [bs_4 rfl] at h | rw [bs_6 rfl] at h | rw [bs_5 rfl] at h
  all_goals first | rfl | skip
  all_goals (first | rw [bs_1 rfl] at h | rw [bs_2 rfl] at h | rw [bs_3 rfl] at h | rw [bs_4 rfl] at h | rw [bs_6 rfl] at h | rw [bs_5 rfl] at h)
  all_goals first | exact absurd h (cons_ne (by decide)) | exact absurd h dg_45 | exact absurd h.symm dg_45 | skip
  · injection h with _ h
    have e := ls_inj (tail_inj h)
    simp only at e; subst e; rfl
  · injection h with _ h
    have e := ls_inj (tail_inj h)
    simp only at e; subst e; rfl
  · injection h with _ h
    have e := pr_inj (tail_inj h)
    simp only at e; subst e; rfl
  · injection h with _ h
    obtain ⟨_, h⟩ := split_dg h
    injection h with _ h
    have e := ls_inj (tail_inj h)
    simp only at e; subst e; rfl
  · injection h with _ h
    obtain ⟨e, h⟩ := split_dg h
    injection h with _ h
    obtain ⟨e2, _⟩ := cat_inj (R := []) (R' := []) e (by simpa using h)
    simp only at e2
    rw [e2]
theorem enc_one (v : RV) : encV [v] = oneV v := by
  unfold encV
  rw [List.map_cons, List.map_nil, catB_cons, catB_nil]; exact app_nil _
theorem enc_pl (v : RV) : encV [plV v] = encV [v] := by rw [enc_one, enc_one]; unfold oneV; rw [plV_plV]
theorem enc_iff (u v : RV) : encV [u] = encV [v] ↔ plV u = plV v := by
  rw [enc_one, enc_one]
  exact ⟨fun h => oneP_inj (isP_pl u) (isP_pl v) h, fun h => by unfold oneV; rw [h]⟩
/-- What the walks' leaves lean on beside. -/
theorem ve : type_of% (And.intro @vn_rw (And.intro @va_rw (And.intro @isNone_f (And.intro @isNone_t (And.intro @vi_cell_I (And.intro @vi_cell_E0 (And.intro @vi_cell_E1 (And.intro @vi_cell_A0 (And.intro @vi_cell_A1 (And.intro @vi_cell_A2 (And.intro @vb_ite (And.intro @vi_ite (And.intro @vi_cell_P0 (And.intro @vs_cell_P1 (And.intro @vi_cell_P2 (And.intro @vs_cell_S (And.intro @vi_cell_B (And.intro @seq_b (@byD_rw))))))))))))))))))) := And.intro @vn_rw (And.intro @va_rw (And.intro @isNone_f (And.intro @isNone_t (And.intro @vi_cell_I (And.intro @vi_cell_E0 (And.intro @vi_cell_E1 (And.intro @vi_cell_A0 (And.intro @vi_cell_A1 (And.intro @vi_cell_A2 (And.intro @vb_ite (And.intro @vi_ite (And.intro @vi_cell_P0 (And.intro @vs_cell_P1 (And.intro @vi_cell_P2 (And.intro @vs_cell_S (And.intro @vi_cell_B (And.intro @seq_b (@byD_rw))))))))))))))))))
end Go.Proofs.YtamjocnlhhhijaaK
