/- Reading replies: what a number, bytes, a list, a reply are read as, by what the code sees. Reading replies: what is read is what was printed, and the other way round; why none is read. What Decode tells, for the laws. Replies' bytes, read again. Replies cut short; replies one behind the other. Replies one behind the other, read. The document's reader of replies: the same, step by step. How much is read. -/
import Derived.Test.YtbcbjgomnhajdaaDoorVRDc0m
set_option linter.unusedSimpArgs false
set_option linter.unusedVariables false
section
set_option linter.unusedSimpArgs false
set_option linter.unusedVariables false
namespace Go.Proofs.YtbcbjgomnhajdaaDoorK
open Go Go.Proofs.YtbcbjgomnhajdaaDoorV Go.Proofs Go.Proofs.YtbcbjgomnhajdaaDoorK Go.Proofs.YtbcbjgomnhajdaaDoorK
theorem ls_lnB (t : ByteArray) : ls (lnB t) = lnL (ls t) := rfl
theorem lnL_le (l : Bs) : (lnL l).length ≤ l.length := by
  induction l with
  | nil => exact Nat.le_refl _
  | cons c l ih =>
    unfold lnL at *
    by_cases h : (c != 13) = true
    · rw [List.takeWhile_cons_of_pos (by simpa using h)]; simpa using ih
    · rw [List.takeWhile_cons_of_neg (by simpa using h)]; simp
theorem lnL_all {l : Bs} (h : ¬(lnL l).length < l.length) : lnL l = l ∧ ∀ c ∈ l, c ≠ 13 := by
  induction l with
  | nil => exact ⟨rfl, fun c hc => by cases hc⟩
  | cons c l ih =>
    unfold lnL at *
    by_cases hc : (c != 13) = true
    · rw [List.takeWhile_cons_of_pos (by simpa using hc)] at h ⊢
      obtain ⟨h1, h2⟩ := ih (by simpa using h)
      refine ⟨by rw [h1], fun x hx => ?_⟩
      rcases List.mem_cons.1 hx with rfl | hx
      · simpa using hc
      · exact h2 x hx
    · rw [List.takeWhile_cons_of_neg (by simpa using hc)] at h
      simp at h
theorem lnL_13 {l : Bs} : ∀ c ∈ lnL l, c ≠ 13 := fun c hc => by
  have := List.all_takeWhile (p := fun c : UInt8 => c != 13) (l := l)
  have := List.all_eq_true.1 this c hc
  simpa using this
theorem pr_10 {n : Int} : ∀ c ∈ pr n, c ≠ 10 := fun c hc e => by
  subst e
  obtain ⟨i, hi⟩ := List.getElem?_of_mem hc
  rcases pr_dig hi with h | ⟨_, h⟩
  · unfold dig at h; revert h; decide
  · revert h; decide
theorem can_10 {l : Bs} (h : canL l) : ∀ c ∈ l, c ≠ 10 := fun c hc => by rw [← h.2] at hc; exact pr_10 c hc
theorem m45_10 {l : Bs} (h : l = [45]) : ∀ c ∈ l, c ≠ 10 := fun c hc e => by subst h; subst e; simp at hc
theorem beg_10 {l : Bs} {a : Int} (h : begL l a) : ∀ c ∈ l, c ≠ 10 := by
  rcases h with h | ⟨h, _⟩ | ⟨h, _⟩
  · subst h; intro c hc; cases hc
  · exact m45_10 h
  · exact can_10 h
theorem nmr_10 {l : Bs} (h : nmrL l) : ∀ c ∈ l, c ≠ 10 := by
  rcases h with h | h | h
  · exact can_10 h
  · subst h; intro c hc; cases hc
  · exact m45_10 h
theorem whole_iff {t w : ByteArray} (hw : w = lnB t) : (w.size : Int) < t.size ↔ (lnL (ls t)).length < (ls t).length := by
  rw [hw, ls_len, ← ls_len (lnB t), ls_lnB]; omega
theorem ls_w {t w : ByteArray} (hw : w = lnB t) : ls w = lnL (ls t) := by rw [hw]; rfl
theorem nm_w {t w : ByteArray} {a b k : Int} {R : Rs Bs} (hw : w = lnB t) (hc : (w.size : Int) < t.size) (hu : upt w a b) (hk : k = val (ls w)) (q : textL (ls t) = R) : numL a b (ls t) = mapR (fun _ => k) R := by
  have h1 := (whole_iff hw).1 hc
  have h2 : uptL (lnL (ls t)) a b := by rw [← ls_w hw]; exact hu
  unfold numL
  rw [if_pos h1, if_pos h2, q, hk, ls_w hw]
theorem nm_9w {t w : ByteArray} {a b : Int} (hw : w = lnB t) (hc : (w.size : Int) < t.size) (hu : ¬upt w a b) : numL a b (ls t) = .no 9 := by
  have h1 := (whole_iff hw).1 hc
  have h2 : ¬uptL (lnL (ls t)) a b := by rw [← ls_w hw]; exact hu
  unfold numL
  rw [if_pos h1, if_neg h2]
theorem nm_8b {t w : ByteArray} {a : Int} (hw : w = lnB t) (hc : ¬(w.size : Int) < t.size) (hu : begL (ls w) a) : numL a most (ls t) = .no 8 := by
  have h1 := fun h => hc ((whole_iff hw).2 h)
  unfold numL
  rw [if_neg h1, if_pos rfl, if_pos (by rw [← ls_w hw]; exact hu)]
theorem nm_9b {t w : ByteArray} {a : Int} (hw : w = lnB t) (hc : ¬(w.size : Int) < t.size) (hu : ¬begL (ls w) a) : numL a most (ls t) = .no 9 := by
  have h1 := fun h => hc ((whole_iff hw).2 h)
  unfold numL
  rw [if_neg h1, if_pos rfl, if_neg (by rw [← ls_w hw]; exact hu)]
theorem nm_8n {t w : ByteArray} (hw : w = lnB t) (hc : ¬(w.size : Int) < t.size) (hu : nmrL (ls w)) : numL mn64 mx64 (ls t) = .no 8 := by
  have h1 := fun h => hc ((whole_iff hw).2 h)
  unfold numL
  rw [if_neg h1, if_neg (by decide), if_pos (by rw [← ls_w hw]; exact hu)]
theorem nm_9n {t w : ByteArray} (hw : w = lnB t) (hc : ¬(w.size : Int) < t.size) (hu : ¬nmrL (ls w)) : numL mn64 mx64 (ls t) = .no 9 := by
  have h1 := fun h => hc ((whole_iff hw).2 h)
  unfold numL
  rw [if_neg h1, if_neg (by decide), if_neg (by rw [← ls_w hw]; exact hu)]
theorem nm_dead {t w : ByteArray} {v : Int} (hw : w = lnB t) (hc : ¬(w.size : Int) < t.size) (h10 : ∀ c ∈ ls w, c ≠ 10) (hE : EndAt t v) (hv : ¬v < 0) : False := by
  obtain ⟨h1, h2⟩ := lnL_all (l := ls t) (fun h => hc ((whole_iff hw).2 h))
  rw [ls_w hw, h1] at h10
  rcases end_cases hE with ⟨h3, _⟩ | ⟨a, c, r, h3, _, _, h4⟩
  · omega
  · have hm : c ∈ ls t := by rw [h3]; simp
    rcases h4 with rfl | rfl
    · exact h2 _ hm rfl
    · exact h10 _ hm rfl
/-! Bytes. -/
theorem by_drop {u : ByteArray} {n : Int} (h0 : 0 ≤ n) : ls (u.extract (min n (u.size : Int)).toNat u.size) = (ls u).drop n.toNat := by
  rw [ls_tail]
  rcases Nat.lt_or_ge u.size n.toNat with h | h
  · rw [show (min n (u.size : Int)).toNat = u.size by omega, List.drop_of_length_le (by rw [ls_len]; exact Nat.le_refl _), List.drop_of_length_le (by rw [ls_len]; omega)]
  · rw [show (min n (u.size : Int)).toNat = n.toNat by omega]
theorem by_8 {u p : ByteArray} {n : Int} (h0 : 0 ≤ n) (hc : (u.size : Int) < n + 2) (hp : p = u.extract (min n (u.size : Int)).toNat u.size) (h : (ls p).isPrefixOf (ls (⟨#[13, 10]⟩ : ByteArray)) = true) : bytL n (ls u) = .no 8 := by
  have h : ((ls u).drop n.toNat).isPrefixOf [13, 10] = true := by rw [← by_drop h0, ← hp]; exact h
  unfold bytL
  rw [if_pos (by rw [ls_len]; exact hc), if_pos h]
theorem by_9a {u p : ByteArray} {n : Int} (h0 : 0 ≤ n) (hc : (u.size : Int) < n + 2) (hp : p = u.extract (min n (u.size : Int)).toNat u.size) (h : ¬(ls p).isPrefixOf (ls (⟨#[13, 10]⟩ : ByteArray)) = true) : bytL n (ls u) = .no 9 := by
  have h : ¬((ls u).drop n.toNat).isPrefixOf [13, 10] = true := by rw [← by_drop h0, ← hp]; exact h
  unfold bytL
  rw [if_pos (by rw [ls_len]; exact hc), if_neg h]
theorem by_two {u : ByteArray} {n : Int} (h0 : 0 ≤ n) : u.extract n.toNat (n + 2).toNat = (⟨#[13, 10]⟩ : ByteArray) ↔ ((ls u).drop n.toNat).take 2 = [13, 10] := by
  have e : ls (u.extract n.toNat (n + 2).toNat) = ((ls u).drop n.toNat).take 2 := by
    rw [ls_ext, show (n + 2).toNat = n.toNat + 2 by omega, List.drop_take, Nat.add_sub_cancel_left]
  exact ⟨fun h => by rw [← e, h]; rfl, fun h => ls_inj (by rw [e, h]; rfl)⟩
theorem by_ok {u : ByteArray} {n : Int} (h0 : 0 ≤ n) (hc : ¬(u.size : Int) < n + 2) (h : u.extract n.toNat (n + 2).toNat = (⟨#[13, 10]⟩ : ByteArray)) : bytL n (ls u) = .ok (ls (u.extract 0 n.toNat)) (ls (u.extract (n + 2).toNat u.size)) := by
  unfold bytL
  rw [if_neg (by rw [ls_len]; exact hc), if_pos ((by_two h0).1 h), ls_head, ls_tail, show (n + 2).toNat = n.toNat + 2 by omega]
theorem by_9b {u : ByteArray} {n : Int} (h0 : 0 ≤ n) (hc : ¬(u.size : Int) < n + 2) (h : ¬u.extract n.toNat (n + 2).toNat = (⟨#[13, 10]⟩ : ByteArray)) : bytL n (ls u) = .no 9 := by
  unfold bytL
  rw [if_neg (by rw [ls_len]; exact hc), if_neg (fun e => h ((by_two h0).2 e))]
/-! Signs. -/
theorem cons_of {S : ByteArray} (h : ¬S = (⟨#[]⟩ : ByteArray)) : ∃ c : UInt8, ls S = c :: ls (S.extract 1 S.size) ∧ byteAt S 0 = (c.toNat : Int) ∧ S.extract 0 1 = (⟨#[c]⟩ : ByteArray) ∧ 1 ≤ (S.size : Int) := by
  have hne : ls S ≠ [] := fun e => h ((ls_em S).2 e)
  cases hl : ls S with
  | nil => exact absurd hl hne
  | cons c r =>
    have hz : 1 ≤ S.size := by rw [← ls_len, hl]; simp
    refine ⟨c, ?_, ?_, ?_, by omega⟩
    · rw [ls_tail, hl]; rfl
    · have := byteAt_is (s := S) (i := 0) (by omega) (by omega)
      unfold bi at this
      rw [hl] at this
      simp at this
      omega
    · exact ls_inj (by rw [ls_head, hl]; rfl)
theorem c_of {S : ByteArray} {c : UInt8} {n : Nat} (h : byteAt S 0 = (c.toNat : Int)) (hn : byteAt S 0 = n) : c.toNat = n := by omega
/-! Lists. -/
theorem preR_preR (a b : List ByteArray) (q : Rs (List ByteArray)) : preR a (preR b q) = preR (a ++ b) q := by
  cases q <;> simp [preR, mapR, List.append_assoc]
theorem lst_s {n : Int} (h : 0 < n) : n.toNat = (n - 1).toNat + 1 := by omega
theorem ls_8 {s : ByteArray} {n : Int} (h : 0 < n) (hs : s = (⟨#[]⟩ : ByteArray)) : lstL n.toNat (ls s) = .no 8 := by
  rw [lst_s h, (ls_em s).1 hs]; rfl
theorem ls_9 {s t : ByteArray} {n : Int} {c : UInt8} (h : 0 < n) (hs : ls s = c :: ls t) (hc : ¬c = 36) : lstL n.toNat (ls s) = .no 9 := by
  rw [lst_s h, hs, lstL, if_neg hc]
theorem ls_n {s t : ByteArray} {n e : Int} {c : UInt8} (h : 0 < n) (hs : ls s = c :: ls t) (hc : c = 36) (q : numL 0 most (ls t) = .no e) : lstL n.toNat (ls s) = .no e := by
  rw [lst_s h, hs, lstL, if_pos hc, q]
theorem ls_b {s t r : ByteArray} {n e k : Int} {c : UInt8} (h : 0 < n) (hs : ls s = c :: ls t) (hc : c = 36) (q : numL 0 most (ls t) = .ok k (ls r)) (q2 : bytL k (ls r) = .no e) : lstL n.toNat (ls s) = .no e := by
  rw [lst_s h, hs, lstL, if_pos hc, q]; simp only []; rw [q2]
theorem ls_k {s t r a r2 : ByteArray} {n k : Int} {c : UInt8} (h : 0 < n) (hs : ls s = c :: ls t) (hc : c = 36) (q : numL 0 most (ls t) = .ok k (ls r)) (q2 : bytL k (ls r) = .ok (ls a) (ls r2)) : lstL n.toNat (ls s) = preR [a] (lstL (n - 1).toNat (ls r2)) := by
  rw [lst_s h, hs, lstL, if_pos hc, q]; simp only []; rw [q2]; simp only [ba_ls]
/-! What is decoded. -/
section
variable {S t : ByteArray} {c : UInt8}
theorem c_lit {c d : UInt8} (h : c.toNat = d.toNat) : c = d := UInt8.toNat_inj.1 h
theorem dec_em (h : S = (⟨#[]⟩ : ByteArray)) : dec (ls S) = (rv0, 0, 8) := by rw [(ls_em S).1 h]; rfl
theorem dec_out (h : ls S = c :: ls t) (h1 : ¬c = 43) (h2 : ¬c = 45) (h3 : ¬c = 58) (h4 : ¬c = 36) (h5 : ¬c = 42) : dec (ls S) = (rv0, 0, 9) := by
  rw [h]; unfold dec; rw [decR, if_neg h1, if_neg h2, if_neg h3, if_neg h4, if_neg h5]; rfl
theorem dec_43 (h : ls S = c :: ls t) (hc : c = 43) : dec (ls S) = fin (ls S).length (mapR (fun x => ⟨1, ba x, 0, []⟩) (textL (ls t))) := by
  subst hc; rw [h]; unfold dec; rw [decR, if_pos rfl]
theorem dec_45 (h : ls S = c :: ls t) (hc : c = 45) : dec (ls S) = fin (ls S).length (mapR (fun x => ⟨2, ba x, 0, []⟩) (textL (ls t))) := by
  subst hc; rw [h]; unfold dec; rw [decR, if_neg (by decide), if_pos rfl]
theorem dec_58 (h : ls S = c :: ls t) (hc : c = 58) : dec (ls S) = fin (ls S).length (mapR (fun n => ⟨3, em, n, []⟩) (numL mn64 mx64 (ls t))) := by
  subst hc; rw [h]; unfold dec; rw [decR, if_neg (by decide), if_neg (by decide), if_pos rfl]
def q36 (l : Bs) : Rs RV := match numL (-1) most l with
  | .no e => .no e
  | .ok n r => if n < 0 then .ok ⟨5, em, 0, []⟩ r else mapR (fun t => ⟨4, ba t, 0, []⟩) (bytL n r)
theorem dec_36 (h : ls S = c :: ls t) (hc : c = 36) : dec (ls S) = fin (ls S).length (q36 (ls t)) := by
  subst hc; rw [h]; unfold dec; rw [decR, if_neg (by decide), if_neg (by decide), if_neg (by decide), if_pos rfl]; rfl
def q42 (l : Bs) : Rs RV := match numL 0 most l with
  | .no e => .no e
  | .ok n r => mapR (fun x => ⟨6, em, 0, x⟩) (lstL n.toNat r)
theorem dec_42 (h : ls S = c :: ls t) (hc : c = 42) : dec (ls S) = fin (ls S).length (q42 (ls t)) := by
  subst hc; rw [h]; unfold dec; rw [decR, if_neg (by decide), if_neg (by decide), if_neg (by decide), if_neg (by decide), if_pos rfl]; rfl
theorem d43n {e : Int} (h : ls S = c :: ls t) (hc : c = 43) (q : textL (ls t) = .no e) : dec (ls S) = (rv0, 0, e) := by rw [dec_43 h hc, q]; rfl
theorem d43k {a r : ByteArray} (h : ls S = c :: ls t) (hc : c = 43) (q : textL (ls t) = .ok (ls a) (ls r)) : dec (ls S) = fin (ls S).length (.ok ⟨1, a, 0, []⟩ (ls r)) := by rw [dec_43 h hc, q]; simp only [mapR, ba_ls]
theorem d45n {e : Int} (h : ls S = c :: ls t) (hc : c = 45) (q : textL (ls t) = .no e) : dec (ls S) = (rv0, 0, e) := by rw [dec_45 h hc, q]; rfl
theorem d45k {a r : ByteArray} (h : ls S = c :: ls t) (hc : c = 45) (q : textL (ls t) = .ok (ls a) (ls r)) : dec (ls S) = fin (ls S).length (.ok ⟨2, a, 0, []⟩ (ls r)) := by rw [dec_45 h hc, q]; simp only [mapR, ba_ls]
theorem d58n {e : Int} (h : ls S = c :: ls t) (hc : c = 58) (q : numL mn64 mx64 (ls t) = .no e) : dec (ls S) = (rv0, 0, e) := by rw [dec_58 h hc, q]; rfl
theorem d58k {n : Int} {r : ByteArray} (h : ls S = c :: ls t) (hc : c = 58) (q : numL mn64 mx64 (ls t) = .ok n (ls r)) : dec (ls S) = fin (ls S).length (.ok ⟨3, em, n, []⟩ (ls r)) := by rw [dec_58 h hc, q]; rfl
theorem d36n {e : Int} (h : ls S = c :: ls t) (hc : c = 36) (q : numL (-1) most (ls t) = .no e) : dec (ls S) = (rv0, 0, e) := by rw [dec_36 h hc]; unfold q36; rw [q]; rfl
theorem d36z {n : Int} {r : ByteArray} (h : ls S = c :: ls t) (hc : c = 36) (q : numL (-1) most (ls t) = .ok n (ls r)) (hn : n < 0) : dec (ls S) = fin (ls S).length (.ok ⟨5, em, 0, []⟩ (ls r)) := by rw [dec_36 h hc]; unfold q36; rw [q]; simp only [if_pos hn]
theorem d36b {n e : Int} {r : ByteArray} (h : ls S = c :: ls t) (hc : c = 36) (q : numL (-1) most (ls t) = .ok n (ls r)) (hn : ¬n < 0) (q2 : bytL n (ls r) = .no e) : dec (ls S) = (rv0, 0, e) := by rw [dec_36 h hc]; unfold q36; rw [q]; simp only [if_neg hn]; rw [q2]; rfl
theorem d36k {n : Int} {r a r2 : ByteArray} (h : ls S = c :: ls t) (hc : c = 36) (q : numL (-1) most (ls t) = .ok n (ls r)) (hn : ¬n < 0) (q2 : bytL n (ls r) = .ok (ls a) (ls r2)) : dec (ls S) = fin (ls S).length (.ok ⟨4, a, 0, []⟩ (ls r2)) := by rw [dec_36 h hc]; unfold q36; rw [q]; simp only [if_neg hn]; rw [q2]; simp only [mapR, ba_ls]
theorem d42n {e : Int} (h : ls S = c :: ls t) (hc : c = 42) (q : numL 0 most (ls t) = .no e) : dec (ls S) = (rv0, 0, e) := by rw [dec_42 h hc]; unfold q42; rw [q]; rfl
theorem d42l {n e : Int} {r : ByteArray} (h : ls S = c :: ls t) (hc : c = 42) (q : numL 0 most (ls t) = .ok n (ls r)) (q2 : lstL n.toNat (ls r) = .no e) : dec (ls S) = (rv0, 0, e) := by rw [dec_42 h hc]; unfold q42; rw [q]; simp only []; rw [q2]; rfl
theorem d42k {n : Int} {r r2 : ByteArray} {x : List ByteArray} (h : ls S = c :: ls t) (hc : c = 42) (q : numL 0 most (ls t) = .ok n (ls r)) (q2 : lstL n.toNat (ls r) = .ok x (ls r2)) : dec (ls S) = fin (ls S).length (.ok ⟨6, em, 0, x⟩ (ls r2)) := by rw [dec_42 h hc]; unfold q42; rw [q]; simp only []; rw [q2]; rfl
theorem dec_leaf {v : RV} {r : ByteArray} {n : Nat} (h : dec (ls S) = fin (ls S).length (.ok v (ls r))) (hn : S.size = n) (hr : r.size ≤ n) (hN : n ≤ 1000000) : (v, IntKind.i64.wrap ((n : Int) - r.size), (0 : Int)) = dec (ls S) := by
  rw [h]
  show _ = (v, ((ls S).length : Int) - (ls r).length, (0 : Int))
  rw [ls_len, ls_len, hn, wrap_id _ (by omega) (by omega)]
end
theorem ext_size {s : ByteArray} {a : Int} (h0 : 0 ≤ a) (h : a ≤ s.size) : ((s.extract a.toNat s.size).size : Int) = s.size - a := by
  rw [← ls_len, ls_tail, List.length_drop, ls_len]; omega
theorem lnB_size {t w : ByteArray} (h : w = lnB t) : w.size ≤ t.size := by
  rw [h, ← ls_len, ls_lnB, ← ls_len t]; exact lnL_le _
theorem preR_nil (q : Rs (List ByteArray)) : preR [] q = q := by cases q <;> rfl
theorem out_of {c : UInt8} {b : Bool} (h : b = decide (c ∈ (⟨#[43, 45, 58, 36, 42]⟩ : ByteArray).data.toList)) (hb : ¬b = true) : (¬c = 43) ∧ (¬c = 45) ∧ (¬c = 58) ∧ (¬c = 36) ∧ ¬c = 42 := by
  have hn : ¬c ∈ [(43 : UInt8), 45, 58, 36, 42] := fun hm => hb (by rw [h]; exact decide_eq_true hm)
  simp only [List.mem_cons, List.not_mem_nil, or_false, not_or] at hn
  exact hn
theorem bad_of {S : ByteArray} {c : UInt8} {b : Bool} (h : b = decide (c ∈ (⟨#[43, 45, 58, 36, 42]⟩ : ByteArray).data.toList)) (hb : b = true) (hc : byteAt S 0 = (c.toNat : Int)) (h1 : ¬byteAt S 0 = 43) (h2 : ¬byteAt S 0 = 45) (h3 : ¬byteAt S 0 = 58) (h4 : ¬byteAt S 0 = 36) (h5 : ¬byteAt S 0 = 42) : False := by
  rw [h] at hb
  have hm : c ∈ [(43 : UInt8), 45, 58, 36, 42] := of_decide_eq_true hb
  simp only [List.mem_cons, List.not_mem_nil, or_false] at hm
  rw [hc] at h1 h2 h3 h4 h5
  rcases hm with rfl | rfl | rfl | rfl | rfl
  · exact h1 rfl
  · exact h2 rfl
  · exact h3 rfl
  · exact h4 rfl
  · exact h5 rfl
theorem one_of {c : UInt8} {b : Bool} (h : b = decide (c ∈ (⟨#[36]⟩ : ByteArray).data.toList)) (hb : b = true) : c = 36 := by
  rw [h] at hb
  have hm : c ∈ [(36 : UInt8)] := of_decide_eq_true hb
  simpa using hm
theorem not_of {c : UInt8} {b : Bool} (h : b = decide (c ∈ (⟨#[36]⟩ : ByteArray).data.toList)) (hb : ¬b = true) : ¬c = 36 := fun e => hb (by rw [h]; subst e; rfl)
end Go.Proofs.YtbcbjgomnhajdaaDoorK
end

section
set_option linter.unusedSimpArgs false
set_option linter.unusedVariables false
namespace Go.Proofs.YtbcbjgomnhajdaaDoorK
open Go Go.Proofs.YtbcbjgomnhajdaaDoorV Go.Proofs Go.Proofs.YtbcbjgomnhajdaaDoorK Go.Proofs.YtbcbjgomnhajdaaDoorK
theorem in64_0 : in64 0 := by unfold in64; omega
theorem pr_m1 : pr (-1) = [45, 49] := by
  unfold pr; rw [if_pos (by omega), show (-(-1 : Int)).toNat = 1 from rfl, dg_lt (by omega)]; rfl
theorem mapR_ok {α β : Type} {f : α → β} {q : Rs α} {b : β} {r : Bs} (h : mapR f q = .ok b r) : ∃ a, q = .ok a r ∧ f a = b := by
  cases q with
  | no e => cases h
  | ok a r' => injection h with h1 h2; subst h2; exact ⟨a, rfl, h1⟩
theorem mapR_no {α β : Type} {f : α → β} {q : Rs α} {e : Int} (h : mapR f q = .no e) : q = .no e := by
  cases q with
  | no e' => injection h with h1; rw [h1]
  | ok a r' => cases h
theorem textL_ok : ∀ {l t r : Bs}, textL l = .ok t r → l = t ++ 13 :: 10 :: r ∧ cleanL t
  | [], t, r, h => by cases h
  | c :: l, t, r, h => by
    rw [textL] at h
    by_cases h10 : c = 10
    · rw [if_pos h10] at h; cases h
    rw [if_neg h10] at h
    by_cases h13 : c = 13
    · rw [if_pos h13] at h
      cases l with
      | nil => cases h
      | cons d l =>
        rw [crR] at h
        by_cases hd : d = 10
        · rw [if_pos hd] at h
          injection h with h1 h2
          subst h1; subst h2; subst h13; subst hd
          exact ⟨rfl, fun c hc => by cases hc⟩
        · rw [if_neg hd] at h; cases h
    · rw [if_neg h13] at h
      obtain ⟨a, h1, h2⟩ := mapR_ok h
      obtain ⟨e, hc⟩ := textL_ok h1
      subst h2
      refine ⟨by rw [e]; rfl, fun x hx => ?_⟩
      rcases List.mem_cons.1 hx with rfl | hx
      · exact ⟨h13, h10⟩
      · exact hc x hx
theorem textL_of {t r : Bs} (h : cleanL t) : textL (t ++ 13 :: 10 :: r) = .ok t r := by
  rw [textL_app h]; simp [textL, crR, mapR]
theorem lnL_split (l : Bs) (h : (lnL l).length < l.length) : ∃ r, l = lnL l ++ 13 :: r := by
  induction l with
  | nil => simp at h
  | cons c l ih =>
    unfold lnL at *
    by_cases hc : (c != 13) = true
    · rw [List.takeWhile_cons_of_pos (by simpa using hc)] at h ⊢
      obtain ⟨r, hr⟩ := ih (by simpa using h)
      exact ⟨r, by rw [List.cons_append, ← hr]⟩
    · rw [List.takeWhile_cons_of_neg (by simpa using hc)]
      exact ⟨l, by simp at hc; rw [hc]; rfl⟩
theorem numL_ok {a b n : Int} {l r : Bs} (h : numL a b l = .ok n r) : l = pr n ++ 13 :: 10 :: r ∧ in64 n ∧ a ≤ n ∧ n ≤ b := by
  unfold numL at h
  by_cases h1 : (lnL l).length < l.length
  · rw [if_pos h1] at h
    by_cases h2 : uptL (lnL l) a b
    · rw [if_pos h2] at h
      obtain ⟨t, h3, h4⟩ := mapR_ok h
      obtain ⟨e, hc⟩ := textL_ok h3
      obtain ⟨r', hr⟩ := lnL_split l h1
      obtain ⟨e1, e2⟩ := split_13 lnL_13 (fun c hc2 => (hc c hc2).1) (hr.symm.trans e)
      subst h4
      refine ⟨?_, h2.1.1, h2.2⟩
      rw [h2.1.2, e1]; exact e
    · rw [if_neg h2] at h; cases h
  · rw [if_neg h1] at h
    split at h
    · split at h <;> cases h
    · split at h <;> cases h
theorem pr_13 {n : Int} : ∀ c ∈ pr n, c ≠ 13 := fun c hc e => by
  subst e
  obtain ⟨i, hi⟩ := List.getElem?_of_mem hc
  rcases pr_dig hi with h | ⟨_, h⟩
  · unfold dig at h; revert h; decide
  · revert h; decide
theorem lnL_of {a r : Bs} (h : ∀ c ∈ a, c ≠ 13) : lnL (a ++ 13 :: r) = a := by
  induction a with
  | nil => rfl
  | cons c a ih =>
    have hc := h c List.mem_cons_self
    unfold lnL at *
    rw [List.cons_append, List.takeWhile_cons_of_pos (by simpa using hc), ih (fun x hx => h x (List.mem_cons_of_mem _ hx))]
theorem canL_pr {n : Int} (h : in64 n) : canL (pr n) ∧ val (pr n) = n := ⟨⟨by rw [val_pr]; exact h, by rw [val_pr]⟩, val_pr n⟩
theorem pr_clean (n : Int) : cleanL (pr n) := fun c hc => ⟨pr_13 c hc, pr_10 c hc⟩
theorem numL_of {a b n : Int} {r : Bs} (hn : in64 n) (ha : a ≤ n) (hb : n ≤ b) : numL a b (pr n ++ 13 :: 10 :: r) = .ok n r := by
  have e : lnL (pr n ++ 13 :: 10 :: r) = pr n := lnL_of pr_13
  obtain ⟨h1, h2⟩ := canL_pr hn
  unfold numL
  rw [e, if_pos (by simp), if_pos ⟨h1, by rw [h2]; exact ⟨ha, hb⟩⟩, textL_of (pr_clean n), h2]; rfl
theorem bytL_ok {n : Int} {l t r : Bs} (h0 : 0 ≤ n) (h : bytL n l = .ok t r) : l = t ++ 13 :: 10 :: r ∧ (t.length : Int) = n := by
  unfold bytL at h
  by_cases h1 : (l.length : Int) < n + 2
  · rw [if_pos h1] at h; split at h <;> cases h
  · rw [if_neg h1] at h
    by_cases h2 : (l.drop n.toNat).take 2 = [13, 10]
    · rw [if_pos h2] at h
      injection h with h3 h4
      subst h3; subst h4
      refine ⟨?_, by rw [List.length_take]; omega⟩
      have e : l.drop n.toNat = [13, 10] ++ l.drop (n.toNat + 2) := by
        rw [← h2]
        conv => lhs; rw [← List.take_append_drop 2 (l.drop n.toNat)]
        rw [List.drop_drop]
      conv => lhs; rw [← List.take_append_drop n.toNat l, e]
      rfl
    · rw [if_neg h2] at h; cases h
theorem bytL_of (t r : Bs) : bytL (t.length : Int) (t ++ 13 :: 10 :: r) = .ok t r := by
  unfold bytL
  rw [if_neg (by simp; omega), Int.toNat_natCast, List.drop_left, if_pos (by simp), List.take_left]
  congr 1
  rw [List.drop_append]; simp
theorem lstL_ok : ∀ (n : Nat) {l r : Bs} {ts : List ByteArray}, lstL n l = .ok ts r → l = ls (catB (ts.map bulkB)) ++ r ∧ ts.length = n
  | 0, l, r, ts, h => by
    injection h with h1 h2; subst h1; subst h2; exact ⟨rfl, rfl⟩
  | n + 1, [], r, ts, h => by cases h
  | n + 1, c :: l, r, ts, h => by
    rw [lstL] at h
    by_cases hc : c = 36
    · rw [if_pos hc] at h
      cases hq : numL 0 most l with
      | no e => rw [hq] at h; cases h
      | ok k r1 =>
        rw [hq] at h
        simp only [] at h
        cases hb : bytL k r1 with
        | no e => rw [hb] at h; cases h
        | ok t r2 =>
          rw [hb] at h
          simp only [] at h
          obtain ⟨ts', h1, h2⟩ := mapR_ok h
          obtain ⟨e1, g1, g2, g3⟩ := numL_ok hq
          obtain ⟨e2, g4⟩ := bytL_ok g2 hb
          obtain ⟨e3, g5⟩ := lstL_ok n h1
          subst h2
          refine ⟨?_, by simp [g5]⟩
          rw [List.singleton_append, List.map_cons, catB_cons, ls_app, List.append_assoc, ls_bulk, ← e3, hc, e1, ← g4, e2, show (ba t).size = t.length from by rw [← ls_len]; rfl, pr_nat]
          rfl
    · rw [if_neg hc] at h; cases h
theorem lstL_of : ∀ (ts : List ByteArray) {r : Bs}, (∀ s ∈ ts, (s.size : Int) ≤ most) → lstL ts.length (ls (catB (ts.map bulkB)) ++ r) = .ok ts r
  | [], r, _ => rfl
  | s :: ts, r, h => by
    have hs := h s List.mem_cons_self
    unfold most at hs
    rw [List.length_cons, List.map_cons, catB_cons, ls_app, List.append_assoc, ls_bulk, ← pr_nat, lstL, if_pos rfl, numL_of (by unfold in64; omega) (by omega) (by unfold most; omega)]
    simp only []
    rw [← ls_len s, bytL_of]
    simp only []
    rw [lstL_of ts (fun x hx => h x (List.mem_cons_of_mem _ hx)), ba_ls]
    rfl
theorem clean_line {t : Bs} (h : cleanL t) : lineB (ba t) = ba t := lineB_clean fun j b _ hb => h b (List.mem_of_getElem? hb)
theorem decR_ok {l r : Bs} {v : RV} (h : decR l = .ok v r) : l = bs v ++ r ∧ plV v = v ∧ in64 v.n := by
  cases l with
  | nil => cases h
  | cons c l =>
    rw [decR] at h
    by_cases h1 : c = 43
    · rw [if_pos h1] at h
      obtain ⟨t, h2, h3⟩ := mapR_ok h
      obtain ⟨e, hc⟩ := textL_ok h2
      subst h3
      exact ⟨by rw [bs_1 rfl, h1, e, show ls (ba t) = t from rfl]; simp, by rw [plV_1 (.inl rfl)]; show RV.mk 1 (lineB (ba t)) 0 [] = _; rw [clean_line hc], in64_0⟩
    rw [if_neg h1] at h
    by_cases h1 : c = 45
    · rw [if_pos h1] at h
      obtain ⟨t, h2, h3⟩ := mapR_ok h
      obtain ⟨e, hc⟩ := textL_ok h2
      subst h3
      exact ⟨by rw [bs_2 rfl, h1, e, show ls (ba t) = t from rfl]; simp, by rw [plV_1 (.inr rfl)]; show RV.mk 2 (lineB (ba t)) 0 [] = _; rw [clean_line hc], in64_0⟩
    rw [if_neg h1] at h
    by_cases h1 : c = 58
    · rw [if_pos h1] at h
      obtain ⟨n, h2, h3⟩ := mapR_ok h
      obtain ⟨e, g1, _⟩ := numL_ok h2
      subst h3
      exact ⟨by rw [bs_3 rfl, h1, e]; simp, by rw [plV_3 rfl], g1⟩
    rw [if_neg h1] at h
    by_cases h1 : c = 36
    · rw [if_pos h1] at h
      cases hq : numL (-1) most l with
      | no e => rw [hq] at h; cases h
      | ok n r1 =>
        rw [hq] at h
        simp only [] at h
        obtain ⟨e, g1, g2, g3⟩ := numL_ok hq
        by_cases hn : n < 0
        · rw [if_pos hn] at h
          injection h with h2 h3
          subst h2; subst h3
          obtain rfl : n = -1 := by omega
          exact ⟨by rw [bs_5 rfl, h1, e, pr_m1]; rfl, rfl, in64_0⟩
        · rw [if_neg hn] at h
          obtain ⟨t, h2, h3⟩ := mapR_ok h
          obtain ⟨e2, g4⟩ := bytL_ok (by omega) h2
          subst h3
          refine ⟨?_, by rw [plV_4 rfl], in64_0⟩
          rw [bs_4 rfl, h1, e, ← g4, e2, pr_nat, show (ba t).size = t.length from by rw [← ls_len]; rfl, show ls (ba t) = t from rfl]
          simp
    rw [if_neg h1] at h
    by_cases h1 : c = 42
    · rw [if_pos h1] at h
      cases hq : numL 0 most l with
      | no e => rw [hq] at h; cases h
      | ok n r1 =>
        rw [hq] at h
        simp only [] at h
        obtain ⟨e, g1, g2, g3⟩ := numL_ok hq
        obtain ⟨x, h2, h3⟩ := mapR_ok h
        obtain ⟨e2, g4⟩ := lstL_ok _ h2
        subst h3
        refine ⟨?_, by rw [plV_6 rfl], in64_0⟩
        rw [bs_6 rfl, h1, e, e2, show n = ((x.length : Nat) : Int) by omega, pr_nat]
        simp
    rw [if_neg h1] at h; cases h
theorem bs_cases (v : RV) (h : plV v = v) : (v.k = 1 ∨ v.k = 2) ∧ v.n = 0 ∧ v.l = [] ∧ cleanL (ls v.t) ∨ v.k = 3 ∧ v.t = em ∧ v.l = [] ∨ v.k = 4 ∧ v.n = 0 ∧ v.l = [] ∨ v.k = 6 ∧ v.t = em ∧ v.n = 0 ∨ v.k = 5 ∧ v.t = em ∧ v.n = 0 ∧ v.l = [] := by
  have hp := isP_pl v
  rw [h] at hp
  rcases hp with ⟨h1, h2, h3⟩ | h1 | h1 | h1 | h1
  · refine .inl ⟨h1, h2, h3, ?_⟩
    have e := congrArg RV.t h
    rw [plV_1 h1] at e
    have e : lineB v.t = v.t := e
    intro c hc
    have hm : (c.toNat : Int) ∈ bi (lineB v.t) := by rw [e]; exact List.mem_map.2 ⟨c, hc, rfl⟩
    rw [bi_lineB] at hm
    obtain ⟨x, _, hx⟩ := List.mem_map.1 hm
    unfold li at hx
    split at hx
    · refine ⟨fun e => ?_, fun e => ?_⟩ <;> subst e <;> simp at hx
    · rename_i hn
      rw [hx] at hn
      refine ⟨fun e => ?_, fun e => ?_⟩ <;> subst e <;> simp at hn
  · exact .inr (.inl h1)
  · exact .inr (.inr (.inl h1))
  · exact .inr (.inr (.inr (.inl h1)))
  · exact .inr (.inr (.inr (.inr h1)))
theorem rv_eq {v : RV} {k n : Int} {t : ByteArray} {l : List ByteArray} (h1 : v.k = k) (h2 : v.t = t) (h3 : v.n = n) (h4 : v.l = l) : v = ⟨k, t, n, l⟩ := by
  cases v; simp at h1 h2 h3 h4; simp [h1, h2, h3, h4]
/-- Small enough to be read. -/
def smallV (v : RV) : Prop := in64 v.n ∧ (v.t.size : Int) ≤ most ∧ (v.l.length : Int) ≤ most ∧ ∀ s ∈ v.l, (s.size : Int) ≤ most
theorem decR_of {v : RV} {r : Bs} (h : plV v = v) (hs : smallV v) : decR (bs v ++ r) = .ok v r := by
  obtain ⟨hn, ht, hl, hm⟩ := hs
  rcases bs_cases v h with ⟨h1 | h1, h2, h3, h4⟩ | ⟨h1, h2, h3⟩ | ⟨h1, h2, h3⟩ | ⟨h1, h2, h3⟩ | ⟨h1, h2, h3, h4⟩
  · rw [bs_1 h1, List.cons_append, List.append_assoc, decR, if_pos rfl, List.cons_append, List.cons_append, List.nil_append, textL_of h4]
    simp only [mapR, ba_ls]; rw [rv_eq h1 rfl h2 h3]
  · rw [bs_2 h1, List.cons_append, List.append_assoc, decR, if_neg (by decide), if_pos rfl, List.cons_append, List.cons_append, List.nil_append, textL_of h4]
    simp only [mapR, ba_ls]; rw [rv_eq h1 rfl h2 h3]
  · rw [bs_3 h1, List.cons_append, List.append_assoc, decR, if_neg (by decide), if_neg (by decide), if_pos rfl, List.cons_append, List.cons_append, List.nil_append, numL_of (a := mn64) (b := mx64) hn hn.1 hn.2]
    simp only [mapR]; rw [rv_eq h1 h2 rfl h3]
  · unfold most at ht
    rw [bs_4 h1, List.cons_append, List.append_assoc, decR, if_neg (by decide), if_neg (by decide), if_neg (by decide), if_pos rfl, List.cons_append, List.cons_append, ← pr_nat, numL_of (by unfold in64; omega) (by omega) (by unfold most; omega)]
    simp only []
    rw [if_neg (by omega), List.append_assoc, List.cons_append, List.cons_append, List.nil_append, ← ls_len, bytL_of]
    simp only [mapR, ba_ls]; rw [rv_eq h1 rfl h2 h3]
  · unfold most at hl
    rw [bs_6 h1, List.cons_append, List.append_assoc, decR, if_neg (by decide), if_neg (by decide), if_neg (by decide), if_neg (by decide), if_pos rfl, List.cons_append, List.cons_append, ← pr_nat, numL_of (by unfold in64; omega) (by omega) (by unfold most; omega)]
    simp only []
    rw [Int.toNat_natCast, lstL_of _ hm]
    simp only [mapR]; rw [rv_eq h1 h2 h3 rfl]
  · rw [bs_5 h1, show [(36 : UInt8), 45, 49, 13, 10] ++ r = 36 :: (pr (-1) ++ 13 :: 10 :: r) from by rw [pr_m1]; rfl, decR, if_neg (by decide), if_neg (by decide), if_neg (by decide), if_pos rfl, numL_of (by unfold in64; omega) (by omega) (by unfold most; omega)]
    simp only []
    rw [if_pos (by omega), rv_eq h1 h2 h3 h4]
/-! Why not. -/
def e89 (e : Int) : Prop := e = 8 ∨ e = 9
theorem crR_no {l : Bs} {e : Int} (h : crR l = .no e) : e89 e := by
  cases l with
  | nil => injection h with h; exact .inl h.symm
  | cons d l =>
    rw [crR] at h
    split at h
    · cases h
    · injection h with h; exact .inr h.symm
theorem textL_no : ∀ {l : Bs} {e : Int}, textL l = .no e → e89 e
  | [], e, h => by injection h with h; exact .inl h.symm
  | c :: l, e, h => by
    rw [textL] at h
    split at h
    · injection h with h; exact .inr h.symm
    · split at h
      · exact crR_no h
      · exact textL_no (mapR_no h)
theorem numL_no {a b e : Int} {l : Bs} (h : numL a b l = .no e) : e89 e := by
  unfold numL at h
  split at h
  · split at h
    · exact textL_no (mapR_no h)
    · injection h with h; exact .inr h.symm
  · split at h
    · split at h <;> (injection h with h; subst h)
      · exact .inl rfl
      · exact .inr rfl
    · split at h <;> (injection h with h; subst h)
      · exact .inl rfl
      · exact .inr rfl
theorem bytL_no {n e : Int} {l : Bs} (h : bytL n l = .no e) : e89 e := by
  unfold bytL at h
  split at h
  · split at h <;> (injection h with h; subst h)
    · exact .inl rfl
    · exact .inr rfl
  · split at h
    · cases h
    · injection h with h; subst h; exact .inr rfl
theorem lstL_no : ∀ (n : Nat) {l : Bs} {e : Int}, lstL n l = .no e → e89 e
  | 0, l, e, h => by cases h
  | n + 1, [], e, h => by injection h with h; exact .inl h.symm
  | n + 1, c :: l, e, h => by
    rw [lstL] at h
    split at h
    · cases hq : numL 0 most l with
      | no e' => rw [hq] at h; injection h with h; subst h; exact numL_no hq
      | ok k r1 =>
        rw [hq] at h
        simp only [] at h
        cases hb : bytL k r1 with
        | no e' => rw [hb] at h; injection h with h; subst h; exact bytL_no hb
        | ok t r2 => rw [hb] at h; exact lstL_no n (mapR_no h)
    · injection h with h; exact .inr h.symm
theorem decR_no {l : Bs} {e : Int} (h : decR l = .no e) : e89 e := by
  cases l with
  | nil => injection h with h; exact .inl h.symm
  | cons c l =>
    rw [decR] at h
    split at h
    · exact textL_no (mapR_no h)
    split at h
    · exact textL_no (mapR_no h)
    split at h
    · exact numL_no (mapR_no h)
    split at h
    · cases hq : numL (-1) most l with
      | no e' => rw [hq] at h; injection h with h; subst h; exact numL_no hq
      | ok n r1 =>
        rw [hq] at h
        simp only [] at h
        split at h
        · cases h
        · exact bytL_no (mapR_no h)
    split at h
    · cases hq : numL 0 most l with
      | no e' => rw [hq] at h; injection h with h; subst h; exact numL_no hq
      | ok n r1 => rw [hq] at h; exact lstL_no _ (mapR_no h)
    · injection h with h; exact .inr h.symm
end Go.Proofs.YtbcbjgomnhajdaaDoorK
end

section
set_option linter.unusedSimpArgs false
set_option linter.unusedVariables false
namespace Go.Proofs.YtbcbjgomnhajdaaDoorK
open Go Go.Proofs.YtbcbjgomnhajdaaDoorV Go.Proofs Go.Proofs.YtbcbjgomnhajdaaDoorK Go.Proofs.YtbcbjgomnhajdaaDoorK
theorem isB_sub {l : List Int} (h : isB l) (i j : Nat) : isB ((l.take j).drop i) := isB_drop (isB_take h j) i
theorem ls_map_inj {a b : Bs} (h : a.map (fun c => (c.toNat : Int)) = b.map (fun c => (c.toNat : Int))) : a = b := by
  induction a generalizing b with
  | nil => cases b with
    | nil => rfl
    | cons => simp at h
  | cons c a ih => cases b with
    | nil => simp at h
    | cons d b =>
      simp only [List.map_cons, List.cons.injEq] at h
      rw [ih h.2, UInt8.toNat_inj.1 (by omega : c.toNat = d.toNat)]
theorem ls_sub {l : List Int} (h : isB l) (i j : Nat) : ls (ofBytes ((l.take j).drop i)) = ((ls (ofBytes l)).take j).drop i := by
  apply ls_map_inj
  rw [List.map_drop, List.map_take]
  show bi (ofBytes _) = List.drop i (List.take j (bi (ofBytes l)))
  rw [bi_ofBytes (isB_sub h i j), bi_ofBytes h]
theorem ls_len_of {l : List Int} (h : isB l) : (ls (ofBytes l)).length = l.length := by
  have := congrArg List.length (bi_ofBytes h)
  rw [bi, List.length_map] at this; exact this
theorem lenS_cat (l : List ByteArray) : lenS l ≤ (ls (catB (l.map bulkB))).length := by
  induction l with
  | nil => exact Nat.zero_le _
  | cons s l ih =>
    have e : lenS (s :: l) = (1 + s.size) + lenS l := by simp [lenS]
    have e2 := congrArg List.length (ls_bulk s [])
    rw [List.append_nil] at e2
    simp only [List.length_cons, List.length_append, ls_len, List.length_nil] at e2
    rw [List.map_cons, catB_cons, ls_app, List.length_append, e]
    rw [← ls_len] at e2
    omega
theorem em_size : em.size = 0 := rfl
theorem lenV_bs {v : RV} (h : plV v = v) : lenV v ≤ (bs v).length := by
  unfold lenV
  rcases bs_cases v h with ⟨h1 | h1, h2, h3, h4⟩ | ⟨h1, h2, h3⟩ | ⟨h1, h2, h3⟩ | ⟨h1, h2, h3⟩ | ⟨h1, h2, h3, h4⟩
  · rw [bs_1 h1, h3]; simp [lenS, ls_len]; omega
  · rw [bs_2 h1, h3]; simp [lenS, ls_len]; omega
  · rw [bs_3 h1, h3, h2, em_size]; simp [lenS]
  · rw [bs_4 h1, h3]; simp [lenS, ls_len]; omega
  · have := lenS_cat v.l
    rw [bs_6 h1, h2]; simp [em, ByteArray.size] at *; omega
  · rw [bs_5 h1, h2, h4, em_size]; simp [lenS]
theorem dec_pk {a : Rw Int} (hB : isB a.l) {v : RV} {n e : Int} (h : (v, n, e) = dec (ls (ofBytes a.l))) :
    (e = 0 → 0 ≤ n ∧ n ≤ a.l.length ∧ ofBytes (a.sub 1 0 n).l = oneP v ∧ plV v = v ∧ in64 v.n ∧ lenV v ≤ a.l.length) ∧ (e ≠ 0 → v = rv0 ∧ n = 0 ∧ (e = 8 ∨ e = 9)) := by
  unfold dec at h
  rw [ls_len_of hB] at h
  cases hd : decR (ls (ofBytes a.l)) with
  | no e' =>
    rw [hd] at h
    simp only [fin, Prod.mk.injEq] at h
    obtain ⟨h1, h2, h3⟩ := h
    have h4 := decR_no hd
    unfold e89 at h4
    exact ⟨fun h => by omega, fun _ => ⟨h1, h2, by omega⟩⟩
  | ok v' r =>
    rw [hd] at h
    simp only [fin, Prod.mk.injEq] at h
    obtain ⟨h1, h2, h3⟩ := h
    subst h1
    obtain ⟨e1, e2, e3⟩ := decR_ok hd
    have hl := congrArg List.length e1
    rw [ls_len_of hB, List.length_append] at hl
    have hv := lenV_bs e2
    have hn : n.toNat = (bs v).length := by omega
    refine ⟨fun _ => ⟨by omega, by omega, ls_inj ?_, e2, e3, by omega⟩, fun h => absurd h3 h⟩
    show ls (ofBytes ((a.l.take n.toNat).drop (0 : Int).toNat)) = bs v
    rw [ls_sub hB, e1, hn]
    simp
theorem enc_one_pl {v : RV} (h : plV v = v) : encV [v] = oneP v := by rw [enc_one]; unfold oneV; rw [h]
theorem isP_of {v : RV} (h : plV v = v) : isP v := by have := isP_pl v; rw [h] at this; exact this
theorem one_iff {v w : RV} (h : plV v = v) (h2 : plV w = w) : v = w ↔ oneP v = oneP w := ⟨fun e => by rw [e], fun e => oneP_inj (isP_of h) (isP_of h2) e⟩
theorem isB_rsub {a : Rw Int} (h : isB a.l) (i j : Int) : isB (a.sub 1 i j).l := isB_sub h _ _
theorem ok_rsub {α : Type} {a : Rw α} {z k : Nat} (h : a.ok k) (i j : Int) : (a.sub z i j).ok k := by
  rcases h with h | h
  · left; simp [Rw.sub, h]
  · exact .inr h
end Go.Proofs.YtbcbjgomnhajdaaDoorK
end

section
set_option linter.unusedSimpArgs false
set_option linter.unusedVariables false
namespace Go.Proofs.YtbcbjgomnhajdaaDoorK
open Go Go.Proofs.YtbcbjgomnhajdaaDoorV Go.Proofs Go.Proofs.YtbcbjgomnhajdaaDoorK Go.Proofs.YtbcbjgomnhajdaaDoorK
theorem isB_two {a b : List Int} (h : isB a) (k : isB b) : isB (a ++ b) := isB_app h k
theorem ls_two {a b : List Int} (h : isB a) (k : isB b) : ls (ofBytes (a ++ b)) = ls (ofBytes a) ++ ls (ofBytes b) := by
  apply ls_map_inj
  rw [List.map_append]
  show bi (ofBytes _) = bi (ofBytes a) ++ bi (ofBytes b)
  rw [bi_ofBytes (isB_two h k), bi_ofBytes h, bi_ofBytes k]
theorem of_two {a b : List Int} (h : isB a) (k : isB b) : ofBytes (a ++ b) = ofBytes a ++ ofBytes b := ls_inj (by rw [ls_two h k, ls_app])
theorem catB_two (l m : List ByteArray) : catB (l ++ m) = catB l ++ catB m := by
  induction l with
  | nil => rw [List.nil_append, catB_nil]; exact ls_inj (by rw [ls_app]; rfl)
  | cons x l ih => rw [List.cons_append, catB_cons, catB_cons, ih, app_assoc]
theorem encV_two (a b : List RV) : encV (a ++ b) = encV a ++ encV b := by unfold encV; rw [List.map_append, catB_two]
theorem lenL_two' (a b : List RV) : lenL (a ++ b) = lenL a + lenL b := by simp [lenL]
theorem okR_app {M : Nat} {a b x : Rw Rep} (hx : x.l = a.l ++ b.l) (hz : x.z = 4) (ha : okR 2000000 a) (hb : okR 2000000 b) (hl : lenL (a.l.map Rep.v) + lenL (b.l.map Rep.v) ≤ M) : okR M x := by
  refine ⟨.inr hz, ?_, ?_⟩
  · intro y hy
    rw [hx] at hy
    rcases List.mem_append.1 hy with h | h
    · exact ha.2.1 y h
    · exact hb.2.1 y h
  · rw [hx, List.map_append, lenL_two']; exact hl
theorem small_of {v : RV} (hn : in64 v.n) (h : lenV v ≤ 100000) : smallV v := by
  unfold lenV at h
  have := lenS_len v.l
  refine ⟨hn, by unfold most; omega, by unfold most; omega, fun s hs => ?_⟩
  have := lenS_mem hs
  unfold most; omega
theorem small_pl {v : RV} (hn : in64 v.n) (h : lenV v ≤ 100000) : smallV (plV v) := small_of (n_pl hn) (Nat.le_trans (lenV_pl v) h)
theorem ls_oneV (v : RV) : ls (oneV v) = bs (plV v) := rfl
theorem dec_app {v : RV} {r : Bs} (hn : in64 v.n) (h : lenV v ≤ 100000) : dec (ls (oneV v) ++ r) = (plV v, ((oneV v).size : Int), 0) := by
  unfold dec
  rw [ls_oneV, decR_of (plV_plV v) (small_pl hn h)]
  show (plV v, (((bs (plV v) ++ r).length : Nat) : Int) - r.length, (0 : Int)) = _
  rw [List.length_append, ← ls_oneV, ls_len]
  congr 2; omega
theorem dec_enc {v : RV} {l tail : List Int} (hl : l = bi (oneV v) ++ tail) (hT : isB tail) (hn : in64 v.n) (h : lenV v ≤ 100000) : dec (ls (ofBytes l)) = (plV v, ((oneV v).size : Int), 0) := by
  rw [hl, ls_two (isB_bi _) hT, ofBytes_bi]; exact dec_app hn h
theorem one_size2 {v : RV} {M : Nat} (h : lenV v ≤ M) (hM : M ≤ 100000) (hn : in64 v.n) : ((oneV v).size : Int) ≤ 60 * M := by
  have := one_size (x := v) (by omega) hn
  omega
theorem get_mem {α : Type} [Inhabited α] {r : Rw α} {i : Int} (h0 : 0 ≤ i) (h : i < r.l.length) : r.get i ∈ r.l := by
  unfold Rw.get
  rw [List.getD_eq_getElem?_getD, List.getElem?_eq_getElem (by omega)]
  exact List.getElem_mem _
end Go.Proofs.YtbcbjgomnhajdaaDoorK
end

section
set_option linter.unusedSimpArgs false
set_option linter.unusedVariables false
namespace Go.Proofs.YtbcbjgomnhajdaaDoorK
open Go Go.Proofs.YtbcbjgomnhajdaaDoorV Go.Proofs Go.Proofs.YtbcbjgomnhajdaaDoorK Go.Proofs.YtbcbjgomnhajdaaDoorK
theorem dg_take (m : Nat) : ∀ j, 1 ≤ j → j ≤ (dg m).length → ∃ m', (dg m).take j = dg m' ∧ m' ≤ m ∧ (1 ≤ m → 1 ≤ m') := by
  refine dg_ind (P := fun m => ∀ j, 1 ≤ j → j ≤ (dg m).length → ∃ m', (dg m).take j = dg m' ∧ m' ≤ m ∧ (1 ≤ m → 1 ≤ m')) ?_ ?_ m
  · intro m hm j h1 h2
    refine ⟨m, ?_, Nat.le_refl _, fun h => h⟩
    rw [dg_lt hm] at h2 ⊢
    obtain rfl : j = 1 := by simp at h2; omega
    rfl
  · intro m hm ih j h1 h2
    by_cases hj : j = (dg m).length
    · exact ⟨m, by rw [hj, List.take_length], Nat.le_refl _, fun h => h⟩
    · have e := dg_ge hm
      have hl : (dg m).length = (dg (m / 10)).length + 1 := by rw [e]; simp
      obtain ⟨m', e1, e2, e3⟩ := ih j h1 (by omega)
      refine ⟨m', ?_, by omega, fun _ => e3 (by omega)⟩
      rw [e, List.take_append_of_le_length (by omega), e1]
theorem pr_neg {m : Nat} (h : 1 ≤ m) : pr (-(m : Int)) = 45 :: dg m := by
  unfold pr; rw [if_pos (by omega), show (-(-(m : Int))).toNat = m by omega]
theorem pr_take {n : Int} {j : Nat} (hj : j ≤ (pr n).length) : (pr n).take j = [] ∨ ((pr n).take j = [45] ∧ n < 0) ∨ ∃ n', (pr n).take j = pr n' ∧ (0 ≤ n → 0 ≤ n' ∧ n' ≤ n) ∧ (n < 0 → n ≤ n' ∧ n' < 0) := by
  cases j with
  | zero => exact .inl rfl
  | succ j =>
    by_cases hn : n < 0
    · obtain ⟨m, hm⟩ : ∃ m : Nat, n = -(m : Int) := ⟨(-n).toNat, by omega⟩
      subst hm
      rw [pr_neg (by omega)] at hj ⊢
      cases j with
      | zero => exact .inr (.inl ⟨rfl, hn⟩)
      | succ j =>
        obtain ⟨m', e1, e2, e3⟩ := dg_take m (j + 1) (by omega) (by simpa using hj)
        have := e3 (by omega)
        exact .inr (.inr ⟨-(m' : Int), by rw [List.take_succ_cons, e1, pr_neg (by omega)], fun h => by omega, fun _ => by omega⟩)
    · obtain ⟨m, hm⟩ : ∃ m : Nat, n = (m : Int) := ⟨n.toNat, by omega⟩
      subst hm
      rw [pr_nat] at hj ⊢
      obtain ⟨m', e1, e2, _⟩ := dg_take m (j + 1) (by omega) hj
      exact .inr (.inr ⟨(m' : Int), by rw [e1, pr_nat], fun _ => by omega, fun h => by omega⟩)
theorem take_two {p r : Bs} {a b : UInt8} {j : Nat} (h : j < p.length + 2) : (p ++ a :: b :: r).take j = p.take j ∧ j ≤ p.length ∨ (p ++ a :: b :: r).take j = p ++ [a] ∧ j = p.length + 1 := by
  rcases Nat.lt_or_ge p.length j with h1 | h1
  · obtain rfl : j = p.length + 1 := by omega
    right
    refine ⟨?_, rfl⟩
    rw [List.take_append, List.take_of_length_le (by omega), show p.length + 1 - p.length = 1 by omega]; rfl
  · left
    exact ⟨List.take_append_of_le_length h1, h1⟩
theorem take_more {p r : Bs} {a b : UInt8} {j : Nat} (h : ¬j < p.length + 2) : (p ++ a :: b :: r).take j = p ++ a :: b :: r.take (j - (p.length + 2)) := by
  rw [List.take_append, List.take_of_length_le (by omega), show j - p.length = (j - (p.length + 2)) + 1 + 1 by omega, List.take_succ_cons, List.take_succ_cons]
theorem clean_take {l : Bs} (h : cleanL l) (j : Nat) : cleanL (l.take j) := fun c hc => h c (List.mem_of_mem_take hc)
theorem textL_cut {t r : Bs} (h : cleanL t) {j : Nat} (hj : j < t.length + 2) : textL ((t ++ 13 :: 10 :: r).take j) = .no 8 := by
  rcases take_two (r := r) (a := 13) (b := 10) hj with ⟨e, _⟩ | ⟨e, _⟩
  · rw [e]; exact textL_clean (clean_take h j)
  · rw [e, textL_app h]; rfl
theorem lnL_self {l : Bs} (h : ∀ c ∈ l, c ≠ 13) : lnL l = l := by
  induction l with
  | nil => rfl
  | cons c l ih =>
    have hc := h c List.mem_cons_self
    unfold lnL at *
    rw [List.takeWhile_cons_of_pos (by simpa using hc), ih (fun x hx => h x (List.mem_cons_of_mem _ hx))]
theorem numL_cut {a b n : Int} {r : Bs} (hn : in64 n) (ha : a ≤ n) (hb : n ≤ b) (hm : b = most ∨ ¬b = most) {j : Nat} (hj : j < (pr n).length + 2) : numL a b ((pr n ++ 13 :: 10 :: r).take j) = .no 8 := by
  rcases take_two (r := r) (a := 13) (b := 10) hj with ⟨e, h1⟩ | ⟨e, _⟩
  · rw [e]
    have h13 : ∀ c ∈ (pr n).take j, c ≠ 13 := fun c hc => pr_13 c (List.mem_of_mem_take hc)
    unfold numL
    rw [lnL_self h13, if_neg (Nat.lt_irrefl _)]
    rcases pr_take h1 with e1 | ⟨e1, e2⟩ | ⟨n', e1, e2, e3⟩
    · rw [e1, if_pos (show begL [] a from .inl rfl), if_pos (show nmrL [] from .inr (.inl rfl))]; split <;> rfl
    · rw [e1, if_pos (show begL [45] a from .inr (.inl ⟨rfl, by omega⟩)), if_pos (show nmrL [45] from .inr (.inr rfl))]; split <;> rfl
    · have hn' : in64 n' := by
        unfold in64 at *
        rcases Int.lt_or_le n 0 with h | h
        · have := e3 h; omega
        · have := e2 h; omega
      obtain ⟨c1, c2⟩ := canL_pr hn'
      rw [e1]
      split
      · rename_i hbm
        rw [if_pos (.inr (.inr ⟨c1, by rw [c2]; rcases Int.lt_or_le n 0 with h | h; (have := e3 h; unfold most; omega); (have := e2 h; omega), by rw [c2]; rcases Int.lt_or_le n 0 with h | h; (have := e3 h; right; omega); (have := e2 h; left; omega)⟩))]
      · rw [if_pos (.inl c1)]
  · rw [e]
    have e2 : lnL (pr n ++ [13]) = pr n := lnL_of pr_13
    obtain ⟨c1, c2⟩ := canL_pr hn
    unfold numL
    rw [e2, if_pos (by simp), if_pos ⟨c1, by rw [c2]; exact ⟨ha, hb⟩⟩, textL_app (pr_clean n)]; rfl
theorem bytL_cut {t r : Bs} {j : Nat} (hj : j < t.length + 2) : bytL (t.length : Int) ((t ++ 13 :: 10 :: r).take j) = .no 8 := by
  unfold bytL
  rcases take_two (r := r) (a := 13) (b := 10) hj with ⟨e, h1⟩ | ⟨e, h1⟩
  · rw [e, if_pos (by rw [List.length_take]; omega), Int.toNat_natCast, List.drop_of_length_le (by rw [List.length_take]; omega), if_pos (by decide)]
  · rw [e, if_pos (by simp), Int.toNat_natCast, List.drop_left, if_pos (by decide)]
theorem bytS_cut {s : ByteArray} {r : Bs} {j : Nat} (hj : j < s.size + 2) : bytL (s.size : Int) ((ls s ++ 13 :: 10 :: r).take j) = .no 8 := by
  have := bytL_cut (t := ls s) (r := r) (j := j) (by rw [ls_len]; exact hj)
  rw [ls_len] at this; exact this
theorem bytS_of (s : ByteArray) (r : Bs) : bytL (s.size : Int) (ls s ++ 13 :: 10 :: r) = .ok (ls s) r := by
  have := bytL_of (ls s) r
  rw [ls_len] at this; exact this
theorem takeS_more {s : ByteArray} {r : Bs} {j : Nat} (h : ¬j < s.size + 2) : (ls s ++ 13 :: 10 :: r).take j = ls s ++ 13 :: 10 :: r.take (j - (s.size + 2)) := by
  have := take_more (p := ls s) (r := r) (a := 13) (b := 10) (j := j) (by rw [ls_len]; exact h)
  rw [ls_len] at this; exact this
theorem lstL_cut : ∀ (ts : List ByteArray) {j : Nat}, (∀ s ∈ ts, (s.size : Int) ≤ most) → j < (ls (catB (ts.map bulkB))).length → lstL ts.length ((ls (catB (ts.map bulkB))).take j) = .no 8
  | [], j, _, hj => by simp [catB_nil] at hj; exact absurd hj (Nat.not_lt_zero _)
  | s :: ts, j, hm, hj => by
    have hs := hm s List.mem_cons_self
    unfold most at hs
    rw [List.map_cons, catB_cons, ls_app, ls_bulk] at hj ⊢
    rw [List.length_cons]
    cases j with
    | zero => rfl
    | succ j =>
      rw [List.take_succ_cons, lstL, if_pos rfl, ← pr_nat]
      have hin : in64 ((s.size : Nat) : Int) := by unfold in64; omega
      by_cases h1 : j < (pr (s.size : Int)).length + 2
      · rw [numL_cut hin (by omega) (by unfold most; omega) (.inl rfl) h1]
      · rw [take_more h1, numL_of hin (by omega) (by unfold most; omega)]
        simp only []
        by_cases h2 : j - ((pr (s.size : Int)).length + 2) < s.size + 2
        · rw [bytS_cut h2]
        · rw [takeS_more h2, bytS_of]
          simp only []
          rw [lstL_cut ts (fun x hx => hm x (List.mem_cons_of_mem _ hx)) (by
            rw [← pr_nat] at hj
            simp only [List.length_cons, List.length_append, ls_len] at hj ⊢
            omega)]
          rfl
theorem decR_cut {v : RV} (h : plV v = v) (hs : smallV v) {k : Nat} (hk : k < (bs v).length) : decR ((bs v).take k) = .no 8 := by
  obtain ⟨hn, ht, hl, hm⟩ := hs
  cases k with
  | zero => rfl
  | succ j =>
  rcases bs_cases v h with ⟨h1 | h1, h2, h3, h4⟩ | ⟨h1, h2, h3⟩ | ⟨h1, h2, h3⟩ | ⟨h1, h2, h3⟩ | ⟨h1, h2, h3, h4⟩
  · rw [bs_1 h1] at hk ⊢
    rw [List.take_succ_cons, decR, if_pos rfl, textL_cut h4 (by simp at hk; omega)]; rfl
  · rw [bs_2 h1] at hk ⊢
    rw [List.take_succ_cons, decR, if_neg (by decide), if_pos rfl, textL_cut h4 (by simp at hk; omega)]; rfl
  · rw [bs_3 h1] at hk ⊢
    rw [List.take_succ_cons, decR, if_neg (by decide), if_neg (by decide), if_pos rfl, numL_cut (a := mn64) (b := mx64) hn hn.1 hn.2 (.inr (by decide)) (by simp at hk; omega)]; rfl
  · unfold most at ht
    have hin : in64 ((v.t.size : Nat) : Int) := by unfold in64; omega
    rw [bs_4 h1] at hk ⊢
    rw [List.take_succ_cons, decR, if_neg (by decide), if_neg (by decide), if_neg (by decide), if_pos rfl]
    rw [← pr_nat] at hk ⊢
    by_cases h5 : j < (pr (v.t.size : Int)).length + 2
    · rw [numL_cut hin (by omega) (by unfold most; omega) (.inl rfl) h5]
    · rw [take_more h5, numL_of hin (by omega) (by unfold most; omega)]
      simp only []
      rw [if_neg (by omega), bytS_cut (by simp only [List.length_cons, List.length_append, List.length_nil, ls_len] at hk; omega)]; rfl
  · unfold most at hl
    have hin : in64 ((v.l.length : Nat) : Int) := by unfold in64; omega
    rw [bs_6 h1] at hk ⊢
    rw [List.take_succ_cons, decR, if_neg (by decide), if_neg (by decide), if_neg (by decide), if_neg (by decide), if_pos rfl]
    rw [← pr_nat] at hk ⊢
    by_cases h5 : j < (pr (v.l.length : Int)).length + 2
    · rw [numL_cut hin (by omega) (by unfold most; omega) (.inl rfl) h5]
    · rw [take_more h5, numL_of hin (by omega) (by unfold most; omega)]
      simp only []
      rw [Int.toNat_natCast, lstL_cut _ hm (by simp only [List.length_cons, List.length_append] at hk; omega)]; rfl
  · rw [bs_5 h1] at hk ⊢
    have e : [(36 : UInt8), 45, 49, 13, 10] = 36 :: (pr (-1) ++ 13 :: 10 :: []) := by rw [pr_m1]; rfl
    rw [e, List.take_succ_cons, decR, if_neg (by decide), if_neg (by decide), if_neg (by decide), if_pos rfl, numL_cut (by unfold in64; omega) (by omega) (by unfold most; omega) (.inl rfl) (by rw [pr_m1]; simp at hk ⊢; omega)]
theorem dec_cut {v : RV} (hn : in64 v.n) (h : lenV v ≤ 100000) {k : Nat} (hk : k < (oneV v).size) : dec ((ls (oneV v)).take k) = (rv0, 0, 8) := by
  unfold dec
  rw [ls_oneV, decR_cut (plV_plV v) (small_pl hn h) (by rw [← ls_oneV, ls_len]; exact hk)]; rfl
end Go.Proofs.YtbcbjgomnhajdaaDoorK
end

section
set_option linter.unusedSimpArgs false
set_option linter.unusedVariables false
namespace Go.Proofs.YtbcbjgomnhajdaaDoorK
open Go Go.Proofs.YtbcbjgomnhajdaaDoorV Go.Proofs Go.Proofs.YtbcbjgomnhajdaaDoorK Go.Proofs.YtbcbjgomnhajdaaDoorK
def comb (xs : List RV) (q : List RV × Int) : List RV × Int := if q.2 = 0 then (xs ++ q.1, 0) else ([], q.2)
def allF : Nat → Bs → List RV × Int
  | 0, _ => ([], 0)
  | _ + 1, [] => ([], 0)
  | n + 1, c :: l => match decR (c :: l) with
    | .no e => ([], e)
    | .ok v r => comb [v] (allF n r)
def all (l : Bs) : List RV × Int := allF l.length l
theorem comb_comb (a b : List RV) (q : List RV × Int) : comb a (comb b q) = comb (a ++ b) q := by
  unfold comb
  by_cases h : q.2 = 0
  · rw [if_pos h, if_pos rfl, if_pos h, List.append_assoc]
  · rw [if_neg h, if_neg h, if_neg h]
theorem decR_lt {l r : Bs} {v : RV} (h : decR l = .ok v r) : r.length < l.length := by
  obtain ⟨h1, h2, _⟩ := decR_ok h
  have h3 := lenV_bs h2
  rw [h1, List.length_append]
  unfold lenV at h3; omega
theorem allF_fuel : ∀ (n m : Nat) (l : Bs), l.length ≤ n → l.length ≤ m → allF n l = allF m l
  | 0, 0, l, _, _ => rfl
  | 0, m + 1, [], _, _ => rfl
  | 0, m + 1, c :: l, h, _ => by simp at h
  | n + 1, 0, [], _, _ => rfl
  | n + 1, 0, c :: l, _, h => by simp at h
  | n + 1, m + 1, [], _, _ => rfl
  | n + 1, m + 1, c :: l, h1, h2 => by
    rw [allF, allF]
    cases hd : decR (c :: l) with
    | no e => rfl
    | ok v r =>
      have := decR_lt hd
      simp only []
      rw [allF_fuel n m r (by simp at *; omega) (by simp at *; omega)]
theorem all_nil : all [] = ([], 0) := rfl
theorem all_no {l : Bs} {e : Int} (hl : l ≠ []) (h : decR l = .no e) : all l = ([], e) := by
  cases l with
  | nil => exact absurd rfl hl
  | cons c l => unfold all; rw [List.length_cons, allF, h]
theorem all_ok {l r : Bs} {v : RV} (h : decR l = .ok v r) : all l = comb [v] (all r) := by
  have hr := decR_lt h
  cases l with
  | nil => cases h
  | cons c l =>
    unfold all
    rw [List.length_cons, allF, h]
    simp only []
    rw [allF_fuel l.length r.length r (by simp at hr; omega) (Nat.le_refl _)]
theorem comb_err {xs : List RV} {e : Int} (h : e ≠ 0) : comb xs ([], e) = ([], e) := by unfold comb; rw [if_neg h]
theorem comb_end (xs : List RV) : comb xs ([], 0) = (xs, 0) := by unfold comb; rw [if_pos rfl, List.append_nil]
theorem comb_nil (l : Bs) : comb [] (all l) = all l := by
  have key : ∀ n l, comb [] (allF n l) = allF n l := by
    intro n
    cases n with
    | zero => intro l; rfl
    | succ n =>
      intro l
      cases l with
      | nil => rfl
      | cons c l =>
        rw [allF]
        cases decR (c :: l) with
        | no e => simp only []; unfold comb; split
                  · rename_i h; rw [List.nil_append]; simp only at h; rw [h]
                  · rfl
        | ok v r => simp only []; rw [comb_comb]; rfl
  exact key _ _
theorem all_enc : ∀ (l : List RV), (∀ v ∈ l, in64 v.n ∧ lenV v ≤ 100000) → all (ls (encV l)) = (l.map plV, 0)
  | [], _ => rfl
  | v :: l, h => by
    obtain ⟨h1, h2⟩ := h v List.mem_cons_self
    have e : encV (v :: l) = oneV v ++ encV l := by unfold encV; rw [List.map_cons, catB_cons]
    rw [e, ls_app, ls_oneV, all_ok (decR_of (plV_plV v) (small_pl h1 h2)), all_enc l (fun x hx => h x (List.mem_cons_of_mem _ hx))]
    unfold comb; rw [if_pos rfl]; rfl
theorem dec_pk2 {a : Rw Int} (hB : isB a.l) {v : RV} {n e : Int} (h : (v, n, e) = dec (ls (ofBytes a.l))) :
    (e ≠ 0 → decR (ls (ofBytes a.l)) = .no e) ∧ (e = 0 → 1 ≤ n ∧ n ≤ a.l.length ∧ decR (ls (ofBytes a.l)) = .ok v (ls (ofBytes (a.sub 1 n (a.l.length : Int)).l)) ∧ in64 v.n) := by
  unfold dec at h
  rw [ls_len_of hB] at h
  cases hd : decR (ls (ofBytes a.l)) with
  | no e' =>
    rw [hd] at h
    simp only [fin, Prod.mk.injEq] at h
    obtain ⟨h1, h2, h3⟩ := h
    have h4 := decR_no hd
    unfold e89 at h4
    exact ⟨fun _ => by rw [h3], fun h => by omega⟩
  | ok v' r =>
    rw [hd] at h
    simp only [fin, Prod.mk.injEq] at h
    obtain ⟨h1, h2, h3⟩ := h
    subst h1
    obtain ⟨e1, e2, e3⟩ := decR_ok hd
    have hl := congrArg List.length e1
    rw [ls_len_of hB, List.length_append] at hl
    have hv := lenV_bs e2
    have hv1 : 1 ≤ lenV v := by unfold lenV; omega
    have hn : n.toNat = (bs v).length := by omega
    refine ⟨fun h => absurd h3 h, fun _ => ⟨by omega, by omega, ?_, e3⟩⟩
    congr 1
    show r = ls (ofBytes ((a.l.take (a.l.length : Int).toNat).drop n.toNat))
    rw [ls_sub hB, hn, e1, Int.toNat_natCast, List.take_of_length_le (by rw [List.length_append]; omega), List.drop_left]
theorem sub_len {α : Type} {r : Rw α} {z : Nat} {i : Int} (h0 : 0 ≤ i) (h : i ≤ r.l.length) : ((r.sub z i (r.l.length : Int)).l.length : Int) = r.l.length - i := by
  unfold Rw.sub
  simp only [List.length_drop, List.length_take]; omega
theorem ne_nil_of {l : List Int} (h : isB l) (hl : 0 < l.length) : ls (ofBytes l) ≠ [] := fun e => by
  have := ls_len_of h
  rw [e] at this; simp at this; omega
end Go.Proofs.YtbcbjgomnhajdaaDoorK
end

section
set_option linter.unusedSimpArgs false
set_option linter.unusedVariables false
namespace Go.Proofs.YtbcbjgomnhajdaaDoorK
open Go Go.Proofs.YtbcbjgomnhajdaaDoorV Go.Proofs Go.Proofs.YtbcbjgomnhajdaaDoorK Go.Proofs.YtbcbjgomnhajdaaDoorK
/-- What is left, and the first error. -/
structure Tt where
  s : ByteArray
  e : Int
def resR {α β : Type} (f : α → β) (q : Rs α) (y : Tt × β) : Prop := match q with
  | .no e => y.1.e = e
  | .ok a r => y.1.s = ba r ∧ y.1.e = 0 ∧ y.2 = f a
def textR (t : Tt) (y : Tt × ByteArray) : Prop := (t.e = 0 → resR ba (textL (ls t.s)) y) ∧ (t.e ≠ 0 → y.1.e = t.e)
def numR (t : Tt) (a b : Int) (y : Tt × Int) : Prop := (t.e = 0 → resR (fun n => n) (numL a b (ls t.s)) y) ∧ (t.e ≠ 0 → y.1.e = t.e)
def bytR (t : Tt) (n : Int) (y : Tt × ByteArray) : Prop := (t.e = 0 → resR ba (bytL n (ls t.s)) y) ∧ (t.e ≠ 0 → y.1.e = t.e)
def lstR (t : Tt) (n : Int) (y : Tt × List ByteArray) : Prop := (t.e = 0 → resR (fun x => x) (lstL n.toNat (ls t.s)) y) ∧ (t.e ≠ 0 → y.1.e = t.e)
def mayL (l : Bs) (a b : Int) : Prop := l = [] ∨ (l = [45] ∧ a < 0) ∨ (canL l ∧ val l ≤ b ∧ a ≤ val l)
instance (l : Bs) (a b : Int) : Decidable (mayL l a b) := by unfold mayL; exact inferInstance
/-! The text. -/
theorem take_next {s : ByteArray} {i : Int} (h0 : 0 ≤ i) (h : i < s.size) : ∃ c : UInt8, (ls s)[i.toNat]? = some c ∧ byteAt s i = (c.toNat : Int) ∧ (ls s).take (i + 1).toNat = (ls s).take i.toNat ++ [c] := by
  have hr := byteAt_rng s i
  obtain ⟨n, hn⟩ : ∃ n : Nat, byteAt s i = n := ⟨(byteAt s i).toNat, by omega⟩
  obtain ⟨c, h1, h2⟩ := byte_ls h0 h hn
  refine ⟨c, h1, by rw [hn, h2], ?_⟩
  rw [show (i + 1).toNat = i.toNat + 1 by omega, List.take_add_one, h1]; rfl
theorem clean_next {s : ByteArray} {i : Int} (h0 : 0 ≤ i) (h : i < s.size) (hc : cleanL ((ls s).take i.toNat)) (h10 : ¬byteAt s i = 10) (h13 : ¬byteAt s i = 13) : cleanL ((ls s).take (i + 1).toNat) := by
  obtain ⟨c, h1, h2, h3⟩ := take_next h0 h
  rw [h3]
  intro x hx
  rcases List.mem_append.1 hx with hx | hx
  · exact hc x hx
  · obtain rfl := List.mem_singleton.1 hx
    rw [h2] at h10 h13
    exact ⟨fun e => h13 (by rw [e]; rfl), fun e => h10 (by rw [e]; rfl)⟩
theorem end_of {s : ByteArray} {i : Int} (h0 : 0 ≤ i) (h : i < s.size) (hc : cleanL ((ls s).take i.toNat)) (hb : byteAt s i = 13 ∨ byteAt s i = 10) : EndAt s i := by
  obtain ⟨c, h1, h2, _⟩ := take_next h0 h
  refine .inr ⟨i.toNat, c, by omega, ?_, h1, ?_⟩
  · intro j b hj hb2
    exact hc b (List.mem_of_getElem? (i := j) (by rw [List.getElem?_take_of_lt hj]; exact hb2))
  · rw [h2] at hb
    rcases hb with hb | hb
    · left; exact c13 (by omega)
    · right; exact c10 (by omega)
theorem clean_all {s : ByteArray} {i : Int} (h : (s.size : Int) ≤ i) (hc : cleanL ((ls s).take i.toNat)) : textL (ls s) = .no 8 := by
  rw [List.take_of_length_le (by rw [ls_len]; omega)] at hc
  exact textL_clean hc
/-! The number. -/
theorem may_can {l : Bs} {a b : Int} (h : mayL l a b) (h1 : l ≠ []) (h2 : l ≠ [45]) : uptL l a b := by
  rcases h with h | ⟨h, _⟩ | ⟨h3, h4, h5⟩
  · exact absurd h h1
  · exact absurd h h2
  · exact ⟨h3, h5, h4⟩
theorem upt_may {l : Bs} {a b : Int} (h : uptL l a b) : mayL l a b := .inr (.inr ⟨h.1, h.2.2, h.2.1⟩)
theorem nmW {l : Bs} {a b : Int} (hw : (lnL l).length < l.length) (h : mayL (lnL l) a b) (h1 : lnL l ≠ []) (h2 : lnL l ≠ [45]) : numL a b l = mapR (fun _ => val (lnL l)) (textL l) := by
  unfold numL; rw [if_pos hw, if_pos (may_can h h1 h2)]
theorem nmW9 {l : Bs} {a b : Int} (hw : (lnL l).length < l.length) (h : ¬uptL (lnL l) a b) : numL a b l = .no 9 := by
  unfold numL; rw [if_pos hw, if_neg h]
/-- The bounds that are asked. -/
def bnds (a b : Int) : Prop := (b = most ∧ (a = 0 ∨ a = -1)) ∨ (a = mn64 ∧ b = mx64)
theorem nmN8 {l : Bs} {a b : Int} (hw : ¬(lnL l).length < l.length) (hb : bnds a b) (h : mayL (lnL l) a b) : numL a b l = .no 8 := by
  unfold numL; rw [if_neg hw]
  rcases hb with ⟨rfl, ha⟩ | ⟨rfl, rfl⟩
  · rw [if_pos rfl, if_pos]
    rcases h with h | h | ⟨h3, h4, h5⟩
    · exact .inl h
    · exact .inr (.inl h)
    · exact .inr (.inr ⟨h3, h4, .inr h5⟩)
  · rw [if_neg (by decide), if_pos]
    rcases h with h | h | h
    · exact .inr (.inl h)
    · exact .inr (.inr h.1)
    · exact .inl h.1
theorem nmN9 {l : Bs} {a b : Int} (hw : ¬(lnL l).length < l.length) (hb : bnds a b) (h : ¬mayL (lnL l) a b) : numL a b l = .no 9 := by
  unfold numL; rw [if_neg hw]
  rcases hb with ⟨rfl, ha⟩ | ⟨rfl, rfl⟩
  · rw [if_pos rfl, if_neg]
    intro hb
    apply h
    rcases hb with h | h | ⟨h3, h4, h5⟩
    · exact .inl h
    · exact .inr (.inl h)
    · exact .inr (.inr ⟨h3, h4, by omega⟩)
  · rw [if_neg (by decide), if_neg]
    intro hb
    apply h
    rcases hb with h | h | h
    · exact .inr (.inr ⟨h, h.1.2, h.1.1⟩)
    · exact .inl h
    · exact .inr (.inl ⟨h, by decide⟩)
theorem may_10 {l : Bs} {a b : Int} (h : mayL l a b) : ∀ c ∈ l, c ≠ 10 := by
  rcases h with h | ⟨h, _⟩ | ⟨h, _⟩
  · subst h; intro c hc; cases hc
  · exact m45_10 h
  · exact can_10 h
theorem may_text {l : Bs} {a b : Int} (hw : ¬(lnL l).length < l.length) (h : mayL (lnL l) a b) : textL l = .no 8 := by
  obtain ⟨h1, h2⟩ := lnL_all hw
  rw [h1] at h
  exact textL_clean fun c hc => ⟨h2 c hc, may_10 h c hc⟩
theorem no13_next {s : ByteArray} {i : Int} (h0 : 0 ≤ i) (h : i < s.size) (hc : ∀ c ∈ (ls s).take i.toNat, c ≠ 13) (h13 : byteAt s i ≠ 13) : ∀ c ∈ (ls s).take (i + 1).toNat, c ≠ 13 := by
  obtain ⟨c, h1, h2, h3⟩ := take_next h0 h
  rw [h3]
  intro x hx
  rcases List.mem_append.1 hx with hx | hx
  · exact hc x hx
  · obtain rfl := List.mem_singleton.1 hx
    rw [h2] at h13
    exact fun e => h13 (by rw [e]; rfl)
theorem ln_at {s : ByteArray} {i : Int} (h0 : 0 ≤ i) (h : i < s.size) (hc : ∀ c ∈ (ls s).take i.toNat, c ≠ 13) (h13 : byteAt s i = 13) : lnL (ls s) = (ls s).take i.toNat ∧ (lnL (ls s)).length < (ls s).length := by
  obtain ⟨c, h1, h2, h3⟩ := take_next h0 h
  obtain rfl := c13 (show c.toNat = 13 by omega)
  have hl : i.toNat < (ls s).length := by rw [ls_len]; omega
  have e : lnL (ls s) = (ls s).take i.toNat := by
    have hx : (ls s)[i.toNat] = 13 := by rw [List.getElem?_eq_getElem hl] at h1; exact Option.some.inj h1
    conv => lhs; rw [← List.take_append_drop i.toNat (ls s), List.drop_eq_getElem_cons hl, hx]
    exact lnL_of hc
  exact ⟨e, by rw [e, List.length_take]; omega⟩
theorem ln_end {s : ByteArray} {i : Int} (h : (s.size : Int) ≤ i) (hc : ∀ c ∈ (ls s).take i.toNat, c ≠ 13) : lnL (ls s) = ls s ∧ ¬(lnL (ls s)).length < (ls s).length := by
  rw [List.take_of_length_le (by rw [ls_len]; omega)] at hc
  have e := lnL_self hc
  exact ⟨e, by rw [e]; omega⟩
theorem res_text {l : Bs} {a b : Int} {y : Tt × ByteArray} {n : Int} {bb : Bool} (hq : numL a b l = mapR (fun _ => val (lnL l)) (textL l)) (hw : (lnL l).length < l.length) (hc : canL (lnL l)) (h : resR ba (textL l) y) (hp : bb = decide (can y.2) ∧ (bb = true → n = val (ls y.2))) : resR (fun n : Int => n) (numL a b l) (y.1, n) := by
  rw [hq]
  cases ht : textL l with
  | no e => rw [ht] at h; exact h
  | ok x r =>
    rw [ht] at h
    obtain ⟨h1, h2, h3⟩ := h
    obtain ⟨e, hcl⟩ := textL_ok ht
    obtain ⟨r', hr⟩ := lnL_split l hw
    obtain ⟨e1, _⟩ := split_13 lnL_13 (fun c hc2 => (hcl c hc2).1) (hr.symm.trans e)
    have hcan : can y.2 := by rw [h3]; show canL x; rw [← e1]; exact hc
    have := hp.2 (by rw [hp.1]; exact decide_eq_true hcan)
    refine ⟨h1, h2, ?_⟩
    rw [this, h3, e1]; rfl
theorem res_no {α β : Type} {f : α → β} {q : Rs α} {e : Int} {y : Tt × β} (hq : q = .no e) (h : y.1.e = e) : resR f q y := by rw [hq]; exact h
/-! Bytes. -/
theorem byte_nth {s : ByteArray} {n : Int} (h0 : 0 ≤ n) (h : n < s.size) : ∃ c : UInt8, byteAt s n = (c.toNat : Int) ∧ (ls s).drop n.toNat = c :: (ls s).drop (n + 1).toNat := by
  obtain ⟨c, h1, h2, _⟩ := take_next h0 h
  have hl : n.toNat < (ls s).length := by rw [ls_len]; omega
  have hx : (ls s)[n.toNat] = c := by rw [List.getElem?_eq_getElem hl] at h1; exact Option.some.inj h1
  exact ⟨c, h2, by rw [List.drop_eq_getElem_cons hl, hx, show (n + 1).toNat = n.toNat + 1 by omega]⟩
theorem bt_8 {s : ByteArray} {n : Int} (h0 : 0 ≤ n) (h : (s.size : Int) ≤ n) : bytL n (ls s) = .no 8 := by
  unfold bytL; rw [if_pos (by rw [ls_len]; omega), List.drop_of_length_le (by rw [ls_len]; omega), if_pos (by decide)]
theorem bt_9 {s : ByteArray} {n : Int} (h0 : 0 ≤ n) (h : n < s.size) (hb : byteAt s n ≠ 13) : bytL n (ls s) = .no 9 := by
  obtain ⟨c, h1, h2⟩ := byte_nth h0 h
  have hc : ¬c = 13 := fun e => hb (by rw [h1, e]; rfl)
  unfold bytL
  rw [h2]
  split
  · rw [if_neg (by intro h3; simp [List.isPrefixOf] at h3; exact hc h3.1)]
  · rw [if_neg (by intro h3; simp at h3; exact hc h3.1)]
theorem bt_e8 {s : ByteArray} {n : Int} (h0 : 0 ≤ n) (h : n < s.size) (hb : byteAt s n = 13) (hl : (s.size : Int) = n + 1) : bytL n (ls s) = .no 8 := by
  obtain ⟨c, h1, h2⟩ := byte_nth h0 h
  obtain rfl := c13 (show c.toNat = 13 by omega)
  unfold bytL
  rw [if_pos (by rw [ls_len]; omega), h2, List.drop_of_length_le (by rw [ls_len]; omega), if_pos (by decide)]
theorem bt_n9 {s : ByteArray} {n : Int} (h0 : 0 ≤ n) (h : n + 1 < s.size) (hb : byteAt s (n + 1) ≠ 10) : bytL n (ls s) = .no 9 := by
  obtain ⟨c, _, h2⟩ := byte_nth (s := s) (n := n) h0 (by omega)
  obtain ⟨d, h3, h4⟩ := byte_nth (n := n + 1) (by omega) h
  have hd : ¬d = 10 := fun e => hb (by rw [h3, e]; rfl)
  unfold bytL
  rw [if_neg (by rw [ls_len]; omega), h2, h4, if_neg (by intro h5; simp at h5; exact hd h5.2)]
theorem bt_ok {s : ByteArray} {n : Int} (h0 : 0 ≤ n) (h : n + 1 < s.size) (hb : byteAt s n = 13) (hb2 : byteAt s (n + 1) = 10) : bytL n (ls s) = .ok (ls (s.extract 0 n.toNat)) (ls (s.extract (n + 2).toNat s.size)) := by
  obtain ⟨c, h1, h2⟩ := byte_nth (s := s) (n := n) h0 (by omega)
  obtain ⟨d, h3, h4⟩ := byte_nth (n := n + 1) (by omega) h
  obtain rfl := c13 (show c.toNat = 13 by omega)
  obtain rfl := c10 (show d.toNat = 10 by omega)
  unfold bytL
  rw [if_neg (by rw [ls_len]; omega), h2, h4, if_pos (by simp), ls_head, ls_tail, show (n + 2).toNat = n.toNat + 2 by omega]
theorem byteAt_ex {s : ByteArray} {i : Int} (h0 : 0 ≤ i) (hi : i < s.size) : ∃ c : UInt8, (ls s)[i.toNat]? = some c ∧ byteAt s i = (c.toNat : Int) := by
  obtain ⟨c, h1, h2, _⟩ := take_next h0 hi
  exact ⟨c, h1, h2⟩
theorem can_b {s : ByteArray} {b : Bool} (h : b = decide (can s)) (hb : b = true) : can s := of_decide_eq_true (h.symm.trans hb)
theorem no_b {s : ByteArray} {b : Bool} (h : b = decide (can s)) (hb : ¬b = true) : ¬can s := fun hc => hb (by rw [h]; exact decide_eq_true hc)
theorem may_canB {s : ByteArray} {a b : Int} (h : can s) (hm : mayL (ls s) a b) : val (ls s) ≤ b ∧ a ≤ val (ls s) := by
  have hn := can_ne (l := ls s) h
  rcases hm with h1 | ⟨h1, _⟩ | ⟨_, h2⟩
  · exact absurd h1 hn.1
  · exact absurd h1 hn.2
  · exact h2
theorem may_nc {s : ByteArray} {a b : Int} (h : ¬can s) (h1 : ¬s = (⟨#[]⟩ : ByteArray)) (h2 : ¬(s = (⟨#[45]⟩ : ByteArray) ∧ a < 0)) : ¬mayL (ls s) a b := fun hb => by
  rcases hb with h3 | ⟨h3, h4⟩ | ⟨h3, _⟩
  · exact h1 ((ls_em s).2 h3)
  · exact h2 ⟨(ls_45 s).2 h3, h4⟩
  · exact h h3
theorem res_ok {q : Rs Bs} {a r : ByteArray} (hq : q = .ok (ls a) (ls r)) : resR ba q (⟨r, 0⟩, a) := by rw [hq]; exact ⟨(ba_ls r).symm, rfl, (ba_ls a).symm⟩
theorem ba_eq {s : ByteArray} {l : Bs} (h : s = ba l) : ls s = l := by rw [h]; rfl
theorem ls_size {s : ByteArray} {l : Bs} (h : ls s = l) : s.size = l.length := by rw [← h, ls_len]
theorem txE {l : Bs} {y : Tt × ByteArray} (h : resR ba (textL l) y) : (y.1.e ≠ 0 → textL l = .no y.1.e) ∧ (y.1.e = 0 → textL l = .ok (ls y.2) (ls y.1.s) ∧ y.1.s.size ≤ l.length) := by
  cases ht : textL l with
  | no e =>
    rw [ht] at h
    have h9 := textL_no ht
    unfold e89 at h9
    have h : y.1.e = e := h
    exact ⟨fun _ => by rw [h], fun h0 => by omega⟩
  | ok a r =>
    rw [ht] at h
    obtain ⟨h1, h2, h3⟩ := h
    obtain ⟨e1, _⟩ := textL_ok ht
    have hr := ba_eq h1
    refine ⟨fun h => absurd h2 h, fun _ => ⟨by rw [hr, ba_eq h3], ?_⟩⟩
    rw [ls_size hr, e1, List.length_append, List.length_cons, List.length_cons]; omega
theorem nmE {l : Bs} {a b : Int} {y : Tt × Int} (h : resR (fun n : Int => n) (numL a b l) y) : (y.1.e ≠ 0 → numL a b l = .no y.1.e) ∧ (y.1.e = 0 → numL a b l = .ok y.2 (ls y.1.s) ∧ a ≤ y.2 ∧ y.2 ≤ b ∧ y.1.s.size ≤ l.length) := by
  cases ht : numL a b l with
  | no e =>
    rw [ht] at h
    have h9 := numL_no ht
    unfold e89 at h9
    have h : y.1.e = e := h
    exact ⟨fun _ => by rw [h], fun h0 => by omega⟩
  | ok n r =>
    rw [ht] at h
    obtain ⟨h1, h2, h3⟩ := h
    obtain ⟨e1, g1, g2, g3⟩ := numL_ok ht
    have h3 : y.2 = n := h3
    have hr := ba_eq h1
    refine ⟨fun h => absurd h2 h, fun _ => ⟨by rw [hr, h3], by omega, by omega, ?_⟩⟩
    rw [ls_size hr, e1, List.length_append, List.length_cons, List.length_cons]; omega
theorem byE {l : Bs} {n : Int} (h0 : 0 ≤ n) {y : Tt × ByteArray} (h : resR ba (bytL n l) y) : (y.1.e ≠ 0 → bytL n l = .no y.1.e) ∧ (y.1.e = 0 → bytL n l = .ok (ls y.2) (ls y.1.s) ∧ y.1.s.size ≤ l.length) := by
  cases ht : bytL n l with
  | no e =>
    rw [ht] at h
    have h9 := bytL_no ht
    unfold e89 at h9
    have h : y.1.e = e := h
    exact ⟨fun _ => by rw [h], fun h0 => by omega⟩
  | ok a r =>
    rw [ht] at h
    obtain ⟨h1, h2, h3⟩ := h
    obtain ⟨e1, _⟩ := bytL_ok h0 ht
    have hr := ba_eq h1
    refine ⟨fun h => absurd h2 h, fun _ => ⟨by rw [hr, ba_eq h3], ?_⟩⟩
    rw [ls_size hr, e1, List.length_append, List.length_cons, List.length_cons]; omega
theorem lsE {l : Bs} {n : Nat} {y : Tt × List ByteArray} (h : resR (fun x : List ByteArray => x) (lstL n l) y) : (y.1.e ≠ 0 → lstL n l = .no y.1.e) ∧ (y.1.e = 0 → lstL n l = .ok y.2 (ls y.1.s) ∧ y.1.s.size ≤ l.length) := by
  cases ht : lstL n l with
  | no e =>
    rw [ht] at h
    have h9 := lstL_no n ht
    unfold e89 at h9
    have h : y.1.e = e := h
    exact ⟨fun _ => by rw [h], fun h0 => by omega⟩
  | ok a r =>
    rw [ht] at h
    obtain ⟨h1, h2, h3⟩ := h
    obtain ⟨e1, _⟩ := lstL_ok n ht
    have hr := ba_eq h1
    have h3 : y.2 = a := h3
    refine ⟨fun h => absurd h2 h, fun _ => ⟨by rw [hr, h3], ?_⟩⟩
    rw [ls_size hr, e1, List.length_append]; omega
theorem lst_step {Q : Rs (List ByteArray)} {x : List ByteArray} {s u : ByteArray} {m : Int} {c : UInt8} {t1 t2 : Tt} {n1 : Int} {x2 : ByteArray} (hL : Q = preR x (lstL m.toNat (ls s))) (hm : 0 < m) (hS : ls s = c :: ls u) (hc : c = 36)
    (hq : numR ⟨u, 0⟩ 0 most (t1, n1)) (hb : bytR t1 n1 (t2, x2)) : (t2.e = 0 → Q = preR (x ++ [x2]) (lstL (m - 1).toNat (ls t2.s)) ∧ t2.s.size ≤ s.size) ∧ (t2.e ≠ 0 → Q = .no t2.e) := by
  obtain ⟨q1, q2⟩ := nmE (hq.1 rfl)
  have hsz := congrArg List.length hS
  rw [List.length_cons, ls_len, ls_len] at hsz
  by_cases h1 : t1.e = 0
  · obtain ⟨p1, p2, p3, p4⟩ := q2 h1
    obtain ⟨b1, b2⟩ := byE p2 (hb.1 h1)
    refine ⟨fun h => ?_, fun h => ?_⟩
    · obtain ⟨r1, r2⟩ := b2 h
      rw [ls_len] at r2 p4
      exact ⟨by rw [hL, ls_k hm hS hc p1 r1, preR_preR], by simp only at r2 p4; omega⟩
    · rw [hL, ls_b hm hS hc p1 (b1 h)]; rfl
  · have e := hb.2 h1
    refine ⟨fun h => absurd (e.symm.trans h) h1, fun h => ?_⟩
    rw [hL, ls_n hm hS hc (q1 h1)]
    show Rs.no t1.e = _
    rw [e]
theorem num_pre {u : ByteArray} {t1 : Tt} {n1 a b : Int} (hq : numR ⟨u, 0⟩ a b (t1, n1)) (hu : u.size ≤ 1000000) : t1.e = 0 → t1.s.size ≤ 1000000 ∧ a ≤ n1 ∧ n1 ≤ b := fun h => by
  obtain ⟨p1, p2, p3, p4⟩ := (nmE (hq.1 rfl)).2 h
  rw [ls_len] at p4
  exact ⟨by simp only at p4; omega, p2, p3⟩
/-! ### Bytes that came, one by one -/
theorem head_of {a : Rw Int} (hB : isB a.l) (h : 0 < a.l.length) : ∃ c : UInt8, ls (ofBytes a.l) = c :: ls (ofBytes (a.sub 1 1 (a.l.length : Int)).l) ∧ a.get 0 = (c.toNat : Int) := by
  have hl := ls_len_of hB
  cases hs : ls (ofBytes a.l) with
  | nil => rw [hs] at hl; simp at hl; omega
  | cons c r =>
    refine ⟨c, ?_, ?_⟩
    · congr 1
      show r = ls (ofBytes ((a.l.take (a.l.length : Int).toNat).drop (1 : Int).toNat))
      rw [ls_sub hB, hs, Int.toNat_natCast, List.take_of_length_le (by rw [← hs, hl]; exact Nat.le_refl _)]; rfl
    · have e := bi_ofBytes hB
      unfold bi at e
      rw [hs] at e
      unfold Rw.get
      rw [← e]; rfl
theorem g_lit {g : Int} {c d : UInt8} (h : g = (c.toNat : Int)) (hn : g = (d.toNat : Int)) : c = d := UInt8.toNat_inj.1 (by omega)
theorem g_not {g : Int} {c d : UInt8} (h : g = (c.toNat : Int)) (hn : ¬g = (d.toNat : Int)) : ¬c = d := fun e => hn (by rw [h, e])
theorem get_of_map {a b : Rw Rep} (h : a.l.map Rep.v = b.l.map Rep.v) {i : Int} (h0 : 0 ≤ i) (h1 : i < a.l.length) (h2 : i < b.l.length) : (a.get i).v = (b.get i).v := by
  have e := congrArg (fun L => L[i.toNat]?) h
  simp only [List.getElem?_map] at e
  rw [List.getElem?_eq_getElem (show i.toNat < a.l.length by omega), List.getElem?_eq_getElem (show i.toNat < b.l.length by omega)] at e
  simp only [Option.map_some, Option.some.injEq] at e
  unfold Rw.get
  rw [List.getD_eq_getElem?_getD, List.getD_eq_getElem?_getD, List.getElem?_eq_getElem (show i.toNat < a.l.length by omega), List.getElem?_eq_getElem (show i.toNat < b.l.length by omega)]
  exact e
end Go.Proofs.YtbcbjgomnhajdaaDoorK
end

section
set_option linter.unusedSimpArgs false
set_option linter.unusedVariables false
namespace Go.Proofs.YtbcbjgomnhajdaaDoorK
open Go Go.Proofs.YtbcbjgomnhajdaaDoorV Go.Proofs Go.Proofs.YtbcbjgomnhajdaaDoorK Go.Proofs.YtbcbjgomnhajdaaDoorK
theorem dec_len {a : Rw Int} (hB : isB a.l) {v : RV} {n e : Int} (h : (v, n, e) = dec (ls (ofBytes a.l))) : v.l.length ≤ a.l.length := by
  obtain ⟨h1, h2⟩ := dec_pk hB h
  by_cases he : e = 0
  · obtain ⟨_, _, _, _, _, h3⟩ := h1 he
    have := lenS_len v.l
    unfold lenV at h3; omega
  · rw [(h2 he).1]; exact Nat.zero_le _
theorem all_len : ∀ (n : Nat) (l : Bs), (allF n l).1.length ≤ l.length ∧ ∀ v ∈ (allF n l).1, v.l.length ≤ l.length
  | 0, l => ⟨Nat.zero_le _, fun v hv => by cases hv⟩
  | n + 1, [] => ⟨Nat.zero_le _, fun v hv => by cases hv⟩
  | n + 1, c :: l => by
    rw [allF]
    cases hd : decR (c :: l) with
    | no e => exact ⟨Nat.zero_le _, fun v hv => by cases hv⟩
    | ok v r =>
      obtain ⟨i1, i2⟩ := all_len n r
      have hr := decR_lt hd
      obtain ⟨e1, e2, _⟩ := decR_ok hd
      have hv := lenV_bs e2
      have hl := congrArg List.length e1
      rw [List.length_append] at hl
      have hs := lenS_len v.l
      unfold lenV at hv
      simp only []
      unfold comb
      split
      · refine ⟨?_, fun w hw => ?_⟩
        · rw [List.length_append, List.length_singleton]; omega
        · rcases List.mem_append.1 hw with h | h
          · obtain rfl := List.mem_singleton.1 h; omega
          · have := i2 w h; omega
      · exact ⟨Nat.zero_le _, fun v hv => by cases hv⟩
theorem all_fit {a : Rw Int} (hB : isB a.l) {X : Rw Rep} {e : Int} (h : (X.l.map Rep.v, e) = all (ls (ofBytes a.l))) : X.l.length ≤ a.l.length ∧ ∀ z ∈ X.l, z.l.l.length ≤ a.l.length := by
  have hl := ls_len_of hB
  obtain ⟨h1, h2⟩ := all_len (ls (ofBytes a.l)).length (ls (ofBytes a.l))
  have e1 : X.l.map Rep.v = (allF (ls (ofBytes a.l)).length (ls (ofBytes a.l))).1 := congrArg Prod.fst h
  rw [← e1, hl] at h1 h2
  rw [List.length_map] at h1
  exact ⟨h1, fun z hz => h2 z.v (List.mem_map.2 ⟨z, hz, rfl⟩)⟩
end Go.Proofs.YtbcbjgomnhajdaaDoorK
end
