/- Reading replies, in plain lists: what a text, a number, bytes, a list and a reply are read as. -/
import Derived.Test.YtbcbjgomnhajdaaDoorVRDp1m
import Derived.Test.YtbcbjgomnhajdaaDoorVRDC
set_option linter.unusedSimpArgs false
set_option linter.unusedVariables false
namespace Go.Proofs.YtbcbjgomnhajdaaDoorK
open Go Go.Proofs.YtbcbjgomnhajdaaDoorV Go.Proofs Go.Proofs.YtbcbjgomnhajdaaDoorK Go.Proofs.YtbcbjgomnhajdaaDoorK
abbrev Bs := List UInt8
inductive Rs (α : Type) where
  | no (e : Int)
  | ok (a : α) (r : Bs)
def mapR {α β : Type} (f : α → β) : Rs α → Rs β
  | .no e => .no e
  | .ok a r => .ok (f a) r
def crR : Bs → Rs Bs
  | [] => .no 8
  | d :: r => if d = 10 then .ok [] r else .no 9
def textL : Bs → Rs Bs
  | [] => .no 8
  | c :: l => if c = 10 then .no 9 else if c = 13 then crR l else mapR (c :: ·) (textL l)
def lnL (l : Bs) : Bs := l.takeWhile (fun c => c != 13)
def most : Int := 1099511627776
def canL (l : Bs) : Prop := in64 (val l) ∧ pr (val l) = l
instance (l : Bs) : Decidable (canL l) := by unfold canL; exact inferInstance
def uptL (l : Bs) (a b : Int) : Prop := canL l ∧ a ≤ val l ∧ val l ≤ b
instance (l : Bs) (a b : Int) : Decidable (uptL l a b) := by unfold uptL; exact inferInstance
def begL (l : Bs) (a : Int) : Prop := l = [] ∨ (l = [45] ∧ a < 0) ∨ (canL l ∧ val l ≤ most ∧ (0 ≤ val l ∨ a ≤ val l))
instance (l : Bs) (a : Int) : Decidable (begL l a) := by unfold begL; exact inferInstance
def nmrL (l : Bs) : Prop := canL l ∨ l = [] ∨ l = [45]
instance (l : Bs) : Decidable (nmrL l) := by unfold nmrL; exact inferInstance
def numL (a b : Int) (l : Bs) : Rs Int :=
  if (lnL l).length < l.length then (if uptL (lnL l) a b then mapR (fun _ => val (lnL l)) (textL l) else .no 9)
  else if b = most then (if begL (lnL l) a then .no 8 else .no 9) else if nmrL (lnL l) then .no 8 else .no 9
def bytL (n : Int) (l : Bs) : Rs Bs :=
  if (l.length : Int) < n + 2 then (if (l.drop n.toNat).isPrefixOf [13, 10] then .no 8 else .no 9)
  else if (l.drop n.toNat).take 2 = [13, 10] then .ok (l.take n.toNat) (l.drop (n.toNat + 2)) else .no 9
def preR (xs : List ByteArray) : Rs (List ByteArray) → Rs (List ByteArray) := mapR (xs ++ ·)
def lstL : Nat → Bs → Rs (List ByteArray)
  | 0, l => .ok [] l
  | _ + 1, [] => .no 8
  | n + 1, c :: l => if c = 36 then (match numL 0 most l with
      | .no e => .no e
      | .ok k r => match bytL k r with
        | .no e => .no e
        | .ok t r2 => preR [ba t] (lstL n r2))
    else .no 9
def mn64 : Int := -9223372036854775808
def mx64 : Int := 9223372036854775807
def decR : Bs → Rs RV
  | [] => .no 8
  | c :: l => if c = 43 then mapR (fun t => ⟨1, ba t, 0, []⟩) (textL l) else if c = 45 then mapR (fun t => ⟨2, ba t, 0, []⟩) (textL l)
    else if c = 58 then mapR (fun n => ⟨3, em, n, []⟩) (numL mn64 mx64 l)
    else if c = 36 then (match numL (-1) most l with
      | .no e => .no e
      | .ok n r => if n < 0 then .ok ⟨5, em, 0, []⟩ r else mapR (fun t => ⟨4, ba t, 0, []⟩) (bytL n r))
    else if c = 42 then (match numL 0 most l with
      | .no e => .no e
      | .ok n r => mapR (fun x => ⟨6, em, 0, x⟩) (lstL n.toNat r))
    else .no 9
def rv0 : RV := ⟨0, em, 0, []⟩
def fin (n : Nat) : Rs RV → RV × Int × Int
  | .no e => (rv0, 0, e)
  | .ok v r => (v, (n : Int) - r.length, 0)
def dec (l : Bs) : RV × Int × Int := fin l.length (decR l)
/-! What a text is, by its first end. -/
theorem ls_len (s : ByteArray) : (ls s).length = s.size := (size_ls s).symm
theorem ls_ext (s : ByteArray) (a b : Nat) : ls (s.extract a b) = ((ls s).take b).drop a := by
  simp [ls, ByteArray.extract, ByteArray.copySlice]
  rw [List.drop_take]
theorem ls_tail {s : ByteArray} {a : Nat} : ls (s.extract a s.size) = (ls s).drop a := by
  rw [ls_ext, List.take_of_length_le (by rw [ls_len]; exact Nat.le_refl _)]
theorem ls_head {s : ByteArray} {a : Nat} : ls (s.extract 0 a) = (ls s).take a := by rw [ls_ext, List.drop_zero]
theorem byte_ls {s : ByteArray} {i : Int} {n : Nat} (h0 : 0 ≤ i) (hi : i < s.size) (h : byteAt s i = n) : ∃ c : UInt8, (ls s)[i.toNat]? = some c ∧ c.toNat = n := by
  have := byteAt_is h0 hi
  unfold bi at this
  rw [List.getElem?_map] at this
  cases hc : (ls s)[i.toNat]? with
  | none => rw [hc] at this; cases this
  | some c => rw [hc] at this; simp at this; exact ⟨c, rfl, by omega⟩
def cleanL (l : Bs) : Prop := ∀ c ∈ l, c ≠ 13 ∧ c ≠ 10
theorem textL_app {a l : Bs} (h : cleanL a) : textL (a ++ l) = mapR (a ++ ·) (textL l) := by
  induction a with
  | nil => rw [List.nil_append]; cases textL l <;> rfl
  | cons c a ih =>
    have hc := h c List.mem_cons_self
    rw [List.cons_append, textL, if_neg hc.2, if_neg hc.1, ih (fun x hx => h x (List.mem_cons_of_mem _ hx))]
    cases textL l <;> rfl
theorem textL_clean {l : Bs} (h : cleanL l) : textL l = .no 8 := by
  have := textL_app (l := []) h
  rw [List.append_nil] at this
  rw [this]; rfl
theorem end_cases {s : ByteArray} {v : Int} (h : EndAt s v) : (v = -1 ∧ cleanL (ls s)) ∨ ∃ (a : Bs) (c : UInt8) (r : Bs), ls s = a ++ c :: r ∧ v = a.length ∧ cleanL a ∧ (c = 13 ∨ c = 10) := by
  rcases h with ⟨h1, h2⟩ | ⟨i, x, h1, h2, h3, h4⟩
  · refine .inl ⟨h1, fun c hc => ?_⟩
    obtain ⟨j, hj⟩ := List.getElem?_of_mem hc
    have hl : j < (ls s).length := by
      rcases Nat.lt_or_ge j (ls s).length with h | h
      · exact h
      · rw [List.getElem?_eq_none h] at hj; cases hj
    exact h2 j c (by rw [ls_len] at hl; exact hl) hj
  · have hl : i < (ls s).length := by
      rcases Nat.lt_or_ge i (ls s).length with h | h
      · exact h
      · have : (ls s)[i]? = some x := h3
        rw [List.getElem?_eq_none h] at this; cases this
    have hx : (ls s)[i] = x := by
      have : (ls s)[i]? = some x := h3
      rw [List.getElem?_eq_getElem hl] at this; exact Option.some.inj this
    refine .inr ⟨(ls s).take i, x, (ls s).drop (i + 1), ?_, ?_, ?_, h4⟩
    · rw [← hx, ← List.drop_eq_getElem_cons hl, List.take_append_drop]
    · rw [List.length_take, Nat.min_eq_left (by omega)]; exact h1
    · intro c hc
      obtain ⟨j, hj⟩ := List.getElem?_of_mem hc
      have hji : j < i := by
        rcases Nat.lt_or_ge j i with h | h
        · exact h
        · rw [List.getElem?_eq_none (by rw [List.length_take]; omega)] at hj; cases hj
      rw [List.getElem?_take_of_lt hji] at hj
      exact h2 j c hji hj
theorem tx_rng {t : ByteArray} {v : Int} (h : EndAt t v) (hv : ¬v < 0) : 0 ≤ v ∧ v < t.size := by
  rcases end_cases h with ⟨h1, _⟩ | ⟨a, c, r, h1, h2, _⟩
  · omega
  · have := congrArg List.length h1
    rw [ls_len, List.length_append, List.length_cons] at this
    omega
theorem tx_8 {t : ByteArray} {v : Int} (h : EndAt t v) (hv : v < 0) : textL (ls t) = .no 8 := by
  rcases end_cases h with ⟨_, h2⟩ | ⟨a, c, r, h1, h2, _⟩
  · exact textL_clean h2
  · omega
theorem tx_split {t : ByteArray} {v : Int} {n : Nat} (h : EndAt t v) (hv : ¬v < 0) (hb : byteAt t v = n) : ∃ (a : Bs) (c : UInt8) (r : Bs), ls t = a ++ c :: r ∧ v = a.length ∧ cleanL a ∧ (c = 13 ∨ c = 10) ∧ c.toNat = n := by
  have hr := tx_rng h hv
  obtain ⟨d, hd, hd2⟩ := byte_ls hr.1 hr.2 hb
  rcases end_cases h with ⟨h1, _⟩ | ⟨a, c, r, h1, h2, h3, h4⟩
  · omega
  · refine ⟨a, c, r, h1, h2, h3, h4, ?_⟩
    rw [h1, h2, Int.toNat_natCast, List.getElem?_append_right (Nat.le_refl _), Nat.sub_self] at hd
    simp at hd
    rw [hd]; exact hd2
theorem tx_9 {t : ByteArray} {v : Int} (h : EndAt t v) (hv : ¬v < 0) (hb : byteAt t v ≠ 13) : textL (ls t) = .no 9 := by
  have hr := byteAt_rng t v
  obtain ⟨n, hn⟩ : ∃ n : Nat, byteAt t v = n := ⟨(byteAt t v).toNat, by omega⟩
  obtain ⟨a, c, r, h1, h2, h3, h4, h5⟩ := tx_split h hv hn
  rw [h1, textL_app h3]
  have : c = 10 := by
    rcases h4 with rfl | rfl
    · exfalso; apply hb; rw [hn, ← h5]; rfl
    · rfl
  subst this
  rfl
theorem c13 {c : UInt8} (h : c.toNat = 13) : c = 13 := UInt8.toNat_inj.1 h
theorem c10 {c : UInt8} (h : c.toNat = 10) : c = 10 := UInt8.toNat_inj.1 h
theorem tx_cr8 {t : ByteArray} {v : Int} (h : EndAt t v) (hv : ¬v < 0) (hl : v = (t.size : Int) - 1) (hb : byteAt t v = 13) : textL (ls t) = .no 8 := by
  obtain ⟨a, c, r, h1, h2, h3, h4, h5⟩ := tx_split (n := 13) h hv hb
  obtain rfl := c13 h5
  have hz := congrArg List.length h1
  rw [ls_len, List.length_append, List.length_cons] at hz
  obtain rfl : r = [] := List.eq_nil_of_length_eq_zero (by omega)
  rw [h1, textL_app h3]; rfl
theorem tx_two {t : ByteArray} {v : Int} {n : Nat} (h : EndAt t v) (hv : ¬v < 0) (hl : v + 1 < t.size) (hb : byteAt t v = 13) (hn : byteAt t (v + 1) = n) : ∃ (a : Bs) (d : UInt8) (r : Bs), ls t = a ++ 13 :: d :: r ∧ v = a.length ∧ cleanL a ∧ d.toNat = n := by
  obtain ⟨a, c, r, h1, h2, h3, h4, h5⟩ := tx_split (n := 13) h hv hb
  obtain rfl := c13 h5
  obtain ⟨d, hd, hd2⟩ := byte_ls (by omega) hl hn
  have hz := congrArg List.length h1
  rw [ls_len, List.length_append, List.length_cons] at hz
  rw [h1, h2, show ((a.length : Int) + 1).toNat = a.length + 1 by omega, List.getElem?_append_right (by omega), show a.length + 1 - a.length = 1 by omega] at hd
  cases r with
  | nil => simp at hd
  | cons e r => simp at hd; subst hd; exact ⟨a, e, r, h1, h2, h3, hd2⟩
theorem tx_n9 {t : ByteArray} {v : Int} (h : EndAt t v) (hv : ¬v < 0) (hl : v + 1 < t.size) (hb : byteAt t v = 13) (hn : byteAt t (v + 1) ≠ 10) : textL (ls t) = .no 9 := by
  have hr := byteAt_rng t (v + 1)
  obtain ⟨n, hn2⟩ : ∃ n : Nat, byteAt t (v + 1) = n := ⟨(byteAt t (v + 1)).toNat, by omega⟩
  obtain ⟨a, d, r, h1, h2, h3, h4⟩ := tx_two h hv hl hb hn2
  rw [h1, textL_app h3]
  have : d ≠ 10 := fun e => by subst e; apply hn; rw [hn2, ← h4]; rfl
  simp [textL, crR, this, mapR]
theorem tx_ok {t : ByteArray} {v : Int} (h : EndAt t v) (hv : ¬v < 0) (hl : v + 1 < t.size) (hb : byteAt t v = 13) (hn : byteAt t (v + 1) = 10) : textL (ls t) = .ok (ls (t.extract 0 v.toNat)) (ls (t.extract (v + 2).toNat t.size)) := by
  obtain ⟨a, d, r, h1, h2, h3, h4⟩ := tx_two (n := 10) h hv hl hb hn
  obtain rfl := c10 h4
  rw [ls_head, ls_tail, h1, textL_app h3, h2, Int.toNat_natCast, show ((a.length : Int) + 2).toNat = a.length + 2 by omega, List.take_left, List.drop_append]
  simp [textL, crR, mapR]
end Go.Proofs.YtbcbjgomnhajdaaDoorK
