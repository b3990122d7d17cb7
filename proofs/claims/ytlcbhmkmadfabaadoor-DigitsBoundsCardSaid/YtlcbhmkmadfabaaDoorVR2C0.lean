/- Digits: what stands between texts, bytes and the walk. -/
import Derived.Test.YtlcbhmkmadfabaaDoorVR2B
set_option linter.unusedSimpArgs false
set_option linter.unusedVariables false
namespace Go.Proofs.YtlcbhmkmadfabaaDoorK
open Go Go.Proofs.YtlcbhmkmadfabaaDoorV Go.Proofs
@[reducible] def byteAt (s : ByteArray) (i : Int) : Int := ((s[i.toNat]?.map (·.toNat)).getD 0 : Nat)
def ofBytes (l : List Int) : ByteArray := byD (.rows 1 (l.map eB))
theorem seq_b (a b : ByteArray) : (a.toList == b.toList) = decide (a = b) := by
  rw [Bool.eq_iff_iff, ← beq_toListBytes, decide_eq_true_iff]
  cases a; cases b
  show (ByteArray.beq _ _ = true) ↔ _
  simp [ByteArray.beq]
theorem byD_rw (a : Option Addr) (c z : Nat) (l : List Int) : byD (Rw.atom eB ⟨a, c, z, l⟩).2 = ofBytes l := rfl
theorem ofBytes_one (x : Int) : ofBytes [x] = ba [UInt8.ofNat x.toNat] := rfl
theorem bytes_one (a : Option Addr) (c : Nat) {x : Int} (h : 0 ≤ x) (h2 : x < 256) : ∃ s : ByteArray, (Rw.atom eB ⟨a, c, 1, [x]⟩).2 = .rows 1 (ofB s) := by
  refine ⟨ba [UInt8.ofNat x.toNat], ?_⟩
  have : (UInt8.ofNat x.toNat).toNat = x.toNat := by rw [UInt8.toNat_ofNat']; omega
  simp only [Rw.atom, ofB, ba, List.map_cons, List.map_nil, eB, this]
  congr; omega
theorem prt_size {n : Int} (h : in64 n) : 1 ≤ ((prt n).size : Int) ∧ ((prt n).size : Int) ≤ 20 := by
  have := pr_len h
  rw [size_ls]; show 1 ≤ ((pr n).length : Int) ∧ ((pr n).length : Int) ≤ 20; omega
theorem size_app (a b : ByteArray) : ((a ++ b).size : Int) = (a.size : Int) + b.size := by
  rw [size_ls, size_ls a, size_ls b, ls_app, List.length_append]; omega
theorem quo_neg {n : Int} (h : n ≤ 0) (h2 : -9223372036854775808 ≤ n) : quoD .i64 n 10 = -(-n / 10) := by
  have e : n.tdiv 10 = -(-n / 10) := by rw [← Int.tdiv_eq_ediv_of_nonneg (show 0 ≤ -n by omega), Int.neg_tdiv, Int.neg_neg]
  unfold quoD; rw [e]; exact wrap_id _ (by omega) (by omega)
theorem rem_neg {n : Int} (h : n ≤ 0) : remD n 10 = -(-n % 10) := by
  unfold remD; rw [← Int.tmod_eq_emod_of_nonneg (show 0 ≤ -n by omega), Int.neg_tmod, Int.neg_neg]
theorem pre_in {k : Nat} {n : Int} (h : pre12 k n) (h2 : in64 n) : in64 n := h2
def at_ (s : ByteArray) (i : Nat) : Option UInt8 := (ls s)[i]?
theorem byteAt_is {s : ByteArray} {i : Int} (h0 : 0 ≤ i) (hi : i < s.size) : ∃ c, (ls s)[i.toNat]? = some c ∧ byteAt s i = (c.toNat : Int) := by
  have h1 : i.toNat < s.size := by omega
  have h2 : i.toNat < (ls s).length := by rw [← size_ls]; exact h1
  refine ⟨(ls s)[i.toNat], List.getElem?_eq_getElem h2, ?_⟩
  have e : s[i.toNat]? = some (s[i.toNat]'h1) := getElem?_pos s i.toNat h1
  unfold byteAt
  rw [e]; rfl
/-! ### The chapter's parse -/
def body (l : List UInt8) (i : Nat) : List UInt8 := if l.head? = some 45 then (l.take i).drop 1 else l.take i
theorem body_zero (l : List UInt8) : body l 0 = [] := by unfold body; split <;> simp
theorem body_one {l : List UInt8} (h : l[0]? = some 45) : body l 1 = [] := by
  unfold body; rw [if_pos (by rw [List.head?_eq_getElem?]; exact h)]; cases l <;> simp
theorem body_succ {l : List UInt8} {i : Nat} {c : UInt8} (h : l[i]? = some c) (h2 : ¬(i = 0 ∧ c = 45)) : body l (i + 1) = body l i ++ [c] := by
  have e : l.take (i + 1) = l.take i ++ [c] := by rw [List.take_add_one, h]; rfl
  have hi : i < l.length := by
    rcases Nat.lt_or_ge i l.length with h3 | h3
    · exact h3
    · rw [List.getElem?_eq_none h3] at h; cases h
  unfold body
  split
  · rename_i hd
    rw [e]
    rw [List.head?_eq_getElem?] at hd
    have hi0 : i ≠ 0 := fun h0 => by subst h0; rw [hd] at h; injection h with h; exact h2 ⟨rfl, h.symm⟩
    rw [List.drop_append_of_le_length (by rw [List.length_take]; omega)]
  · exact e
def sgn (l : List UInt8) : Int := if l.head? = some 45 then -(vl (body l l.length) : Int) else vl (body l l.length)
theorem sgn_val (l : List UInt8) : sgn l = val l := by
  unfold sgn body
  rw [List.take_of_length_le (Nat.le_refl _)]
  cases l with
  | nil => simp [val, vl, vl0]
  | cons c r =>
    simp only [List.head?_cons, Option.some.injEq, List.drop_succ_cons, List.drop_zero, val]
    split <;> rfl
theorem wrap_in64 (x : Int) : in64 (IntKind.i64.wrap x) := by unfold in64; rw [IntKind.wrap_i64]; omega
theorem wrap_step (a : Nat) {c : UInt8} (h : dig c) : IntKind.i64.wrap (IntKind.i64.wrap (IntKind.i64.wrap (10 * IntKind.i64.wrap (a : Int)) + IntKind.i64.wrap (c.toNat : Int)) - 48) = IntKind.i64.wrap ((10 * a + (c.toNat - 48) : Nat) : Int) := by
  unfold dig at h
  simp only [IntKind.wrap_i64]; omega
theorem wrap_neg (x : Int) : IntKind.i64.wrap (0 - IntKind.i64.wrap x) = IntKind.i64.wrap (-x) := by simp only [IntKind.wrap_i64]; omega
theorem wrap_in {x : Int} (h : in64 x) : IntKind.i64.wrap x = x := wrap_id _ h.1 h.2
def parR (s : ByteArray) (y : Int × Bool) : Prop := y.2 = decide (can s) ∧ (y.2 = true → y.1 = val (ls s))
theorem par_no {s : ByteArray} {n : Int} (h : ¬can s) : parR s (n, false) := ⟨(decide_eq_false h).symm, fun h => Bool.noConfusion h⟩
theorem par_yes {s : ByteArray} {n : Int} (hn : in64 n) (h : can s → n = val (ls s)) : parR s (n, decide (prt n = s)) := by
  refine ⟨decide_eq_decide.2 ⟨fun e => (can_of hn e).1, fun hc => ?_⟩, fun e => ?_⟩
  · rw [h hc]; exact can_prt hc
  · exact (can_of hn (of_decide_eq_true e)).2.symm
theorem can_dig {s : ByteArray} {i : Nat} {c : UInt8} (h : can s) (hc : (ls s)[i]? = some c) : dig c ∨ i = 0 ∧ c = 45 := by
  have := h.2
  rw [← this] at hc
  exact pr_dig hc
theorem no_zero {s : ByteArray} {c : UInt8} {r : List UInt8} (h : ls s = 48 :: c :: r) : ¬can s := by
  intro hc
  have e := hc.2
  rw [h] at e
  unfold pr at e
  split at e
  · injection e with e _; exact absurd e (by decide)
  · rename_i hn
    rcases Nat.eq_zero_or_pos (val (48 :: c :: r)).toNat with h0 | h0
    · rw [h0, dg_lt (by omega)] at e; simp at e
    · obtain ⟨c', r', e', h1, _⟩ := dg_head _ h0
      rw [e'] at e
      injection e with e _
      exact h1 e
theorem no_tail {s : ByteArray} {l : List UInt8} {c : UInt8} (h : ls s = l ++ [c]) (hl : l ≠ []) (hc : ¬dig c) : ¬can s := by
  intro hs
  have h1 : (ls s)[l.length]? = some c := by rw [h]; simp
  rcases can_dig hs h1 with h2 | ⟨h2, _⟩
  · exact hc h2
  · exact hl (List.length_eq_zero_iff.1 h2)
def rd (s : ByteArray) : Int := if can s then val (ls s) else 0
def upt (s : ByteArray) (a b : Int) : Prop := can s ∧ a ≤ val (ls s) ∧ val (ls s) ≤ b
instance (s : ByteArray) (a b : Int) : Decidable (upt s a b) := by unfold upt; exact inferInstance
theorem pr_12 : prt (-12) = (⟨#[45, 49, 50]⟩ : ByteArray) := by
  unfold prt pr
  rw [if_pos (by omega), show (-(-12 : Int)).toNat = 12 from rfl, dg_ge (by omega), dg_lt (by omega)]; rfl
theorem can_12 : can (⟨#[45, 49, 50]⟩ : ByteArray) ∧ val (ls (⟨#[45, 49, 50]⟩ : ByteArray)) = -12 := can_of (by unfold in64; omega) pr_12
theorem can_007 : ¬can (⟨#[48, 48, 55]⟩ : ByteArray) := no_zero (c := 48) (r := [55]) rfl
theorem rd_yes {s : ByteArray} (h : can s) : rd s = val (ls s) := by unfold rd; rw [if_pos h]
theorem rd_no {s : ByteArray} (h : ¬can s) : rd s = 0 := by unfold rd; rw [if_neg h]
/-! ### The laws -/
theorem ba_45 : ba [45] = (⟨#[45]⟩ : ByteArray) := rfl
theorem prt_ten {x : Int} (h : 1 ≤ x) {d : Int} (h0 : 0 ≤ d) (h1 : d < 10) : prt (10 * x + d) = prt x ++ prt d := by
  rw [prt_up (by omega), show (10 * x + d) / 10 = x by omega, show (10 * x + d) % 10 = d by omega]
theorem prt_0 : prt 0 = (⟨#[48]⟩ : ByteArray) := by rw [prt_one (by omega) (by omega)]; rfl
theorem size_1 {d : Int} (h0 : 0 ≤ d) (h1 : d < 10) : ((prt d).size : Int) = 1 := by rw [prt_one h0 h1]; rfl
theorem zero_ahead {n : Int} (hn : in64 n) : ¬can ((⟨#[48]⟩ : ByteArray) ++ prt n) := by
  have h := (pr_len hn).1
  cases e : pr n with
  | nil => rw [e] at h; simp at h
  | cons c r => exact no_zero (c := c) (r := r) (by rw [ls_app]; show [48] ++ pr n = _; rw [e]; rfl)
theorem none_behind {n : Int} (hn : in64 n) {x : Int} (h0 : 0 ≤ x) (h1 : x < 256) (hx : ¬(48 ≤ x ∧ x ≤ 57)) : ¬can (prt n ++ ofBytes [x]) := by
  have h := (pr_len hn).1
  refine no_tail (l := pr n) (c := UInt8.ofNat x.toNat) (by rw [ls_app, ofBytes_one]; rfl) (fun e => by rw [e] at h; simp at h) (fun hd => hx ?_)
  unfold dig at hd
  rw [UInt8.toNat_ofNat'] at hd; omega
theorem rd_in (s : ByteArray) : in64 (rd s) := by
  unfold rd; split
  · rename_i h; exact h.1
  · unfold in64; omega
theorem one_1 {s : ByteArray} (h : can s) : prt (rd s) = s := by rw [rd_yes h]; exact can_prt h
theorem one_2 {s t : ByteArray} (h : can s) (h2 : can t) : rd s = rd t ↔ s = t :=
  ⟨fun e => by rw [← one_1 h, ← one_1 h2, e], fun e => by rw [e]⟩
theorem small_prt {n : Int} (h : in64 n) : (prt n).size ≤ 281474976710656 := by have := prt_size h; omega
theorem small_0 {n : Int} (h : in64 n) : ((⟨#[48]⟩ : ByteArray) ++ prt n).size ≤ 281474976710656 := by
  have := prt_size h
  have e := size_app (⟨#[48]⟩ : ByteArray) (prt n)
  have e1 : ((⟨#[48]⟩ : ByteArray).size : Int) = 1 := rfl
  omega
theorem small_c {n : Int} (h : in64 n) (x : Int) : (prt n ++ ofBytes [x]).size ≤ 281474976710656 := by
  have := prt_size h
  have e := size_app (prt n) (ofBytes [x])
  have e1 : ((ofBytes [x]).size : Int) = 1 := rfl
  omega
theorem upt_all (s : ByteArray) : decide (upt s (-9223372036854775808) 9223372036854775807) = decide (can s) :=
  decide_eq_decide.2 ⟨fun h => h.1, fun h => ⟨h, h.1.1, h.1.2⟩⟩
theorem upt_none (s : ByteArray) : ¬upt s 1 0 := fun h => by have := h.2; omega
theorem upt_le {s : ByteArray} {a b c d : Int} (h : upt s a b) (h1 : c ≤ a) (h2 : b ≤ d) : upt s c d := ⟨h.1, by have := h.2; omega, by have := h.2; omega⟩
theorem upt_prt {n a b : Int} (hn : in64 n) : upt (prt n) a b ↔ a ≤ n ∧ n ≤ b := by
  have h := can_of hn rfl
  unfold upt; rw [h.2]; exact ⟨fun h => h.2, fun h2 => ⟨h.1, h2⟩⟩
theorem big_app {a b : ByteArray} (h1 : (a.size : Int) ≤ 20) (h2 : (b.size : Int) ≤ 20) : ((a ++ b).size : Int) ≤ 9223372036854775807 := by rw [size_app]; omega
theorem one_le (c : UInt8) : ((ba [c]).size : Int) ≤ 20 := by show (1 : Int) ≤ 20; omega
theorem big_45 {n : Int} (h : in64 n) : (((⟨#[45]⟩ : ByteArray) ++ prt n).size : Int) ≤ 9223372036854775807 := big_app (one_le 45) (prt_size h).2
theorem big_48 {n : Int} (h : in64 n) : (((⟨#[48]⟩ : ByteArray) ++ prt n).size : Int) ≤ 9223372036854775807 := big_app (one_le 48) (prt_size h).2
theorem big_r {n : Int} (h : in64 n) : ((prt n ++ (⟨#[48]⟩ : ByteArray)).size : Int) ≤ 9223372036854775807 := big_app (prt_size h).2 (one_le 48)
theorem big_2 {n m : Int} (h : in64 n) (h2 : in64 m) : ((prt n ++ prt m).size : Int) ≤ 9223372036854775807 := big_app (prt_size h).2 (prt_size h2).2
theorem big_c {n : Int} (h : in64 n) (x : UInt8) : ((prt n ++ ba [x]).size : Int) ≤ 9223372036854775807 := big_app (prt_size h).2 (one_le x)
theorem need_size {env : List Atom} {x : X} {b : ByteArray} (hx : x.den env = aS b) (h : (b.size : Int) ≤ 9223372036854775807) : (Nd.tru (.cmp .leq (.size x) (.int 9223372036854775807))).ok env := by
  show vb (X.den env (.cmp .leq (.size x) (.int 9223372036854775807))).1 = true
  simp only [X.den, hx, vi_int, vs_string, cmpD, vb_bool, decide_eq_true_eq]
  exact h
theorem den_cat {env : List Atom} {x y : X} {a b : ByteArray} (hx : x.den env = aS a) (hy : y.den env = aS b) : (X.cat x y).den env = aS (a ++ b) := by
  simp only [X.den, hx, hy, vs_string]
theorem den_str {env : List Atom} (l : List UInt8) : (X.str l).den env = aS ⟨l.toArray⟩ := rfl
end Go.Proofs.YtlcbhmkmadfabaaDoorK
