/- The document's reading of commands: a line, a command, all of them. Plain lists. -/
import Derived.Test.YtamjocnlhhhijaaVRRy
set_option linter.unusedSimpArgs false
set_option linter.unusedVariables false
namespace Go.Proofs.YtamjocnlhhhijaaS
open Go.Proofs.YtamjocnlhhhijaaK
theorem vl0_lt : ∀ (ds : Bs) (a : Nat), (∀ c ∈ ds, dig c) → vl0 a ds < (a + 1) * 10 ^ ds.length
  | [], a, _ => by simp [vl0]
  | c :: ds, a, h => by
    have hd := h c List.mem_cons_self
    unfold dig at hd
    rw [vl0_cons]
    have := vl0_lt ds (10 * a + (c.toNat - 48)) (fun x hx => h x (List.mem_cons_of_mem _ hx))
    rw [List.length_cons, Nat.pow_succ]
    calc _ < _ := this
      _ ≤ (10 * a + 10) * 10 ^ ds.length := Nat.mul_le_mul_right _ (by omega)
      _ = _ := by rw [show 10 * a + 10 = (a + 1) * 10 by omega, Nat.mul_assoc, Nat.mul_comm 10]
theorem vl_lt5 {ds : Bs} (h : ∀ c ∈ ds, dig c) (hl : ds.length ≤ 5) : vl ds < 100000 := by
  have h1 := vl0_lt ds 0 h
  have h2 : 10 ^ ds.length ≤ 10 ^ 5 := Nat.pow_le_pow_right (by omega) hl
  unfold vl
  omega
def beg : Nat → P3 Int → Int × Int
  | _, .short => (0, 0)
  | _, .wrong => (-1, 0)
  | m, .ok v r => ((m : Int) - r.length, v)
theorem bytP_of : ∀ (n : Nat) (l : Bs), bytP n l = if l.length < n then .short else match (l.drop n).take 2 with
    | [] => .short
    | [c] => if c = 13 then .short else .wrong
    | c :: d :: _ => if c = 13 ∧ d = 10 then .ok (l.take n) (l.drop (n + 2)) else .wrong
  | 0, [] => by simp [bytP]
  | 0, [c] => by by_cases h : c = 13 <;> simp [bytP, endP, h]
  | 0, c :: d :: r => by
    by_cases h : c = 13
    · by_cases h2 : d = 10 <;> simp [bytP, endP, h, h2]
    · simp [bytP, h]
  | n + 1, [] => by simp [bytP]
  | n + 1, c :: l => by
    rw [bytP, bytP_of n l]
    by_cases h : l.length < n
    · rw [if_pos h, if_pos (by simp; omega)]
    · rw [if_neg h, if_neg (by simp; omega)]
      simp only [List.drop_succ_cons, List.take_succ_cons, Nat.add_right_comm n 1 2]
      generalize (l.drop n).take 2 = t
      match t with
      | [] => rfl
      | [c] => simp only []; split <;> rename_i h3 <;> split at h3 <;> simp_all
      | c :: d :: r => simp only []; split <;> rename_i h3 <;> split at h3 <;> simp_all
def lineM (v : Int) : Bs → P3 Int
  | [] => .short
  | c :: r => if c = 13 then endP v r else .wrong
theorem lineP_may (sign : UInt8) (k : Ks) {ds r : Bs} (hd : ∀ c ∈ ds, dig c) (hr : r = [] ∨ (∃ c r', r = c :: r' ∧ ¬dig c) ∨ ds.length = 5) (hm : mayN k ds) : lineP sign k (sign :: (ds ++ r)) = lineM (vl ds) r := by
  rw [(lineP_of sign k hd hr).1 hm]
  cases r <;> rfl
theorem drop_of {l u r : Bs} (h : l = u ++ r) : r = l.drop (l.length - r.length) := by
  subst h
  rw [List.drop_left' (by simp)]
def pre (as0 : List Bs) : P3 (List Bs) → P3 (List Bs)
  | .short => .short
  | .wrong => .wrong
  | .ok as r => .ok (as0 ++ as) r
theorem argsP_succ (k : Nat) (l : Bs) : argsP (k + 1) l = match argP l with
    | .short => .short
    | .wrong => .wrong
    | .ok a r => pre [a] (argsP k r) := by
  rw [argsP]
  cases argP l with
  | short => rfl
  | wrong => rfl
  | ok a r =>
    simp only
    cases argsP k r <;> rfl
theorem pre_pre (a b : List Bs) (p : P3 (List Bs)) : pre a (pre b p) = pre (a ++ b) p := by cases p <;> simp [pre]
theorem whl_fuel (f : Nat) (out : List (List Bs)) (l : Bs) (h : l.length ≤ f) : whl f out l = res { start with out := out } l := (res_whl f l { start with out := out } h rfl rfl).symm
theorem whl_one (out : List (List Bs)) (l : Bs) (h : l ≠ []) : res { start with out := out } l = match cmdP l with
    | .short => (out, l.length, false)
    | .wrong => (out, 0, true)
    | .ok as r => res { start with out := out ++ [as] } r := by
  cases l with
  | nil => exact absurd rfl h
  | cons c l =>
    rw [← whl_fuel (l.length + 1) out (c :: l) (Nat.le_refl _), whl]
    cases hc : cmdP (c :: l) with
    | short => rfl
    | wrong => rfl
    | ok as r =>
      have := cmdP_lt hc
      simp only
      rw [whl_fuel _ _ _ (by simp at this; omega)]
end Go.Proofs.YtamjocnlhhhijaaS
namespace Go.Proofs.YtamjocnlhhhijaaK
open Go Go.Proofs.YtamjocnlhhhijaaV Go.Proofs.YtamjocnlhhhijaaK Go.Proofs.YtamjocnlhhhijaaK Go.Proofs.YtamjocnlhhhijaaS
def kOf (a : Int) : Ks := if a = 1 then .cnt else .szd
def rest (b : Rw Int) (p : Int) : Bs := (bS b.l).drop p.toNat
def begR (b : Rw Int) (p sg lo : Int) : Int × Int := beg (rest b p).length (lineP (UInt8.ofNat sg.toNat) (kOf lo) (rest b p))
structure preBeg (b : Rw Int) (p sg lo hi : Int) : Prop where
  ok : b.ok 1
  isB : isB b.l
  len : b.l.length ≤ 100000
  p0 : 0 ≤ p
  p1 : p ≤ b.l.length
  k : (sg = 42 ∧ lo = 1 ∧ hi = 50) ∨ (sg = 36 ∧ lo = 0 ∧ hi = 1000)
def dgs (b : Rw Int) (p i : Int) : Bs := (rest b (p + 1)).take (i - (p + 1)).toNat
structure BH (b : Rw Int) (p i n : Int) : Prop where
  p0 : 0 ≤ p
  lo : p + 1 ≤ i
  hi : i ≤ b.l.length
  six : i ≤ p + 6
  dig : ∀ c ∈ dgs b p i, dig c
  n : n = (vl (dgs b p i) : Int)
theorem rest_len (b : Rw Int) {p : Int} (h0 : 0 ≤ p) (h1 : p ≤ b.l.length) : ((rest b p).length : Int) = b.l.length - p := by
  unfold rest; rw [List.length_drop, bS_len]; omega
theorem rest_cons {b : Rw Int} {p : Int} (h0 : 0 ≤ p) (h1 : p < b.l.length) : rest b p = UInt8.ofNat (b.get p).toNat :: rest b (p + 1) := by
  have hg := bS_get h0 h1
  obtain ⟨hl, hg⟩ := List.getElem?_eq_some_iff.1 hg
  unfold rest
  rw [List.drop_eq_getElem_cons hl, hg, show (p + 1).toNat = p.toNat + 1 by omega]
theorem rest_nil {b : Rw Int} {p : Int} (h : (b.l.length : Int) ≤ p) : rest b p = [] := by
  unfold rest; exact List.drop_eq_nil_of_le (by rw [bS_len]; omega)
theorem rest_drop (b : Rw Int) {p k : Int} (h0 : 0 ≤ p) (hk : 0 ≤ k) : (rest b p).drop k.toNat = rest b (p + k) := by
  unfold rest; rw [List.drop_drop]; congr 1; omega
theorem dgs_len (b : Rw Int) {p i : Int} (h0 : 0 ≤ p) (h1 : p + 1 ≤ i) (h2 : i ≤ b.l.length) : ((dgs b p i).length : Int) = i - (p + 1) := by
  have := rest_len b (p := p + 1) (by omega) (by omega)
  unfold dgs; rw [List.length_take]; omega
theorem rest_split (b : Rw Int) {p i : Int} (h0 : 0 ≤ p) (h1 : p + 1 ≤ i) : rest b (p + 1) = dgs b p i ++ rest b i := by
  have := List.take_append_drop (i - (p + 1)).toNat (rest b (p + 1))
  rw [rest_drop b (by omega) (by omega), show p + 1 + (i - (p + 1)) = i by omega] at this
  exact this.symm
theorem BH.start {b : Rw Int} {p : Int} (h0 : 0 ≤ p) (h1 : p < b.l.length) : BH b p (p + 1) 0 := by
  have e : dgs b p (p + 1) = [] := by unfold dgs; rw [show p + 1 - (p + 1) = 0 by omega]; rfl
  exact ⟨h0, by omega, by omega, by omega, by rw [e]; simp, by rw [e]; rfl⟩
theorem BH.n0 {b : Rw Int} {p i n : Int} (h : BH b p i n) : 0 ≤ n ∧ n < 100000 := by
  have h1 := vl_lt5 h.dig (by have := dgs_len b h.p0 h.lo h.hi; have := h.six; omega)
  rw [h.n]; omega
theorem BH.next {b : Rw Int} {p i n : Int} (h : BH b p i n) (h1 : i < b.l.length) (h2 : i < p + 6) (hc0 : 48 ≤ b.get i) (hc1 : b.get i ≤ 57) : BH b p (i + 1) (10 * n + b.get i - 48) := by
  have hlo := h.lo
  have hp := h.p0
  have e : dgs b p (i + 1) = dgs b p i ++ [UInt8.ofNat (b.get i).toNat] := by
    have h3 : (rest b (p + 1)).drop (i - (p + 1)).toNat = UInt8.ofNat (b.get i).toNat :: rest b (i + 1) := by
      rw [rest_drop b (by omega) (by omega), show p + 1 + (i - (p + 1)) = i by omega]; exact rest_cons (by omega) h1
    unfold dgs
    rw [show (i + 1 - (p + 1)).toNat = (i - (p + 1)).toNat + 1 by omega, List.take_add, h3]
    rfl
  have hn : (UInt8.ofNat (b.get i).toNat).toNat = (b.get i).toNat := by
    have := u8_n (z := b.get i) (by omega) (by omega); omega
  refine ⟨hp, by omega, by omega, by omega, ?_, ?_⟩
  · rw [e]
    intro c hc
    rcases List.mem_append.1 hc with hc | hc
    · exact h.dig c hc
    · rw [List.mem_singleton.1 hc]; unfold Go.Proofs.YtamjocnlhhhijaaK.dig; rw [hn]; omega
  · rw [e, vl_app, hn, h.n]; omega
theorem sub_bS (b : Rw Int) (z : Nat) {i j : Int} (h0 : 0 ≤ i) (h1 : i ≤ j) : bS (b.sub z i j).l = (rest b i).take (j - i).toNat := by
  unfold rest Rw.sub bS
  rw [← List.map_drop, ← List.map_take, List.drop_take, show (j - i).toNat = j.toNat - i.toNat by omega]
theorem ls_sub {b : Rw Int} (hB : isB b.l) (z : Nat) {i j : Int} (h0 : 0 ≤ i) (h1 : i ≤ j) : ls (ofBytes (b.sub z i j).l) = (rest b i).take (j - i).toNat := by
  rw [← bI_bS (isB_sub hB z i j), ls_ofBytes, sub_bS b z h0 h1]
theorem preBeg.lo {b : Rw Int} {p sg lo hi : Int} (h : preBeg b p sg lo hi) : (kOf lo).least = lo ∧ (kOf lo).most = hi := by
  rcases h.k with ⟨_, rfl, rfl⟩ | ⟨_, rfl, rfl⟩ <;> exact ⟨rfl, rfl⟩
def may (b : Rw Int) (p i n lo hi : Int) : Prop := p + 1 < i ∧ lo ≤ n ∧ n ≤ hi ∧ prt n = ofBytes (b.sub 1 (p + 1) i).l
theorem BH.may {b : Rw Int} {p i n sg lo hi : Int} (h : BH b p i n) (hp : preBeg b p sg lo hi) : mayN (kOf lo) (dgs b p i) ↔ may b p i n lo hi := by
  have hl := dgs_len b h.p0 h.lo h.hi
  have h0 := h.p0
  have hs : ls (ofBytes (b.sub 1 (p + 1) i).l) = dgs b p i := ls_sub hp.isB 1 (by omega) h.lo
  unfold mayN Go.Proofs.YtamjocnlhhhijaaK.may
  rw [hp.lo.1, hp.lo.2, ← h.n]
  have e1 : dgs b p i ≠ [] ↔ p + 1 < i := by rw [Ne, ← List.length_eq_zero_iff]; omega
  have e2 : prt n = ofBytes (b.sub 1 (p + 1) i).l ↔ dg (vl (dgs b p i)) = dgs b p i := by
    rw [h.n]
    constructor
    · intro e; rw [← ls_prt_nat, e, hs]
    · intro e; refine ls_inj ?_; rw [ls_prt_nat, e, hs]
  rw [e1, e2]
theorem BH.fin {b : Rw Int} {p i n sg lo hi : Int} (h : BH b p i n) (hp : preBeg b p sg lo hi) (h2 : b.get p = sg) (hs : i = b.l.length ∨ i = p + 6 ∨ b.get i < 48 ∨ 57 < b.get i) :
    (Go.Proofs.YtamjocnlhhhijaaK.may b p i n lo hi → begR b p sg lo = if i = b.l.length then (0, 0) else if b.get i = 13 then (if i + 1 = b.l.length then (0, 0) else if b.get (i + 1) = 10 then (i + 2 - p, n) else (-1, 0)) else (-1, 0)) ∧
    (¬Go.Proofs.YtamjocnlhhhijaaK.may b p i n lo hi → begR b p sg lo = if i = p + 1 ∧ i = b.l.length then (0, 0) else (-1, 0)) := by
  have h0 := h.p0
  have hlo := h.lo
  have hhi := h.hi
  have hl := dgs_len b h.p0 h.lo h.hi
  have hrl := rest_len b (p := p) (by omega) (by omega)
  have hz : ∀ j : Int, 0 ≤ j → j < b.l.length → 0 ≤ b.get j ∧ b.get j < 256 := fun j a c => hp.isB _ (get_memL a c)
  have e : rest b p = UInt8.ofNat sg.toNat :: (dgs b p i ++ rest b i) := by rw [← rest_split b h0 hlo, ← h2]; exact rest_cons h0 (by omega)
  have hr : rest b i = [] ∨ (∃ c r', rest b i = c :: r' ∧ ¬Go.Proofs.YtamjocnlhhhijaaK.dig c) ∨ (dgs b p i).length = 5 := by
    rcases Int.lt_or_le i b.l.length with h3 | h3
    · rcases hs with hs | hs | hs
      · omega
      · right; right; omega
      · right; left
        refine ⟨_, _, rest_cons (by omega) h3, ?_⟩
        have := hz i (by omega) h3
        have hn : (UInt8.ofNat (b.get i).toNat).toNat = (b.get i).toNat := by have := u8_n (z := b.get i) (by omega) (by omega); omega
        unfold Go.Proofs.YtamjocnlhhhijaaK.dig; rw [hn]; omega
    · left; exact rest_nil h3
  have k1 := lineP_may (UInt8.ofNat sg.toNat) (kOf lo) h.dig hr
  have k2 := (lineP_of (UInt8.ofNat sg.toNat) (kOf lo) h.dig hr).2
  rw [← e] at k1 k2
  rw [← h.may hp]
  unfold begR
  refine ⟨fun hm => ?_, fun hm => ?_⟩
  · rw [k1 hm]
    by_cases h3 : i = b.l.length
    · rw [if_pos h3, rest_nil (p := i) (by omega)]; rfl
    · rw [if_neg h3, rest_cons (p := i) (by omega) (by omega)]
      simp only [lineM]
      have := hz i (by omega) (by omega)
      have e13 : UInt8.ofNat (b.get i).toNat = 13 ↔ b.get i = 13 := u8_eq (by omega) (by omega) 13 (by omega)
      by_cases h4 : b.get i = 13
      · rw [if_pos (e13.2 h4), if_pos h4]
        by_cases h5 : i + 1 = b.l.length
        · rw [if_pos h5, rest_nil (p := i + 1) (by omega)]; rfl
        · rw [if_neg h5, rest_cons (p := i + 1) (by omega) (by omega)]
          have := hz (i + 1) (by omega) (by omega)
          have e10 : UInt8.ofNat (b.get (i + 1)).toNat = 10 ↔ b.get (i + 1) = 10 := u8_eq (by omega) (by omega) 10 (by omega)
          simp only [endP]
          by_cases h6 : b.get (i + 1) = 10
          · rw [if_pos (e10.2 h6), if_pos h6]
            have := rest_len b (p := i + 1 + 1) (by omega) (by omega)
            unfold beg
            rw [h.n]
            refine Prod.ext ?_ rfl
            show ((rest b p).length : Int) - ((rest b (i + 1 + 1)).length : Int) = _
            omega
          · rw [if_neg (fun x => h6 (e10.1 x)), if_neg h6]; rfl
      · rw [if_neg (fun x => h4 (e13.1 x)), if_neg h4]; rfl
  · rw [k2 hm]
    have e1 : (dgs b p i = [] ∧ rest b i = []) ↔ (i = p + 1 ∧ i = b.l.length) := by
      have := rest_len b (p := i) (by omega) (by omega)
      rw [← List.length_eq_zero_iff, ← List.length_eq_zero_iff]; omega
    by_cases h3 : i = p + 1 ∧ i = b.l.length
    · rw [if_pos h3, if_pos (e1.2 h3)]; rfl
    · rw [if_neg h3, if_neg (fun x => h3 (e1.1 x))]; rfl
theorem beg_end {b : Rw Int} {p : Int} (sg lo : Int) (h : p = b.l.length) : begR b p sg lo = (0, 0) := by
  unfold begR; rw [rest_nil (by omega)]; rfl
theorem beg_sign {b : Rw Int} {p sg lo hi : Int} (hp : preBeg b p sg lo hi) (h : p ≠ b.l.length) (h2 : b.get p ≠ sg) : begR b p sg lo = (-1, 0) := by
  have := hp.p0; have := hp.p1
  unfold begR
  have hz := hp.isB _ (get_memL (r := b) (i := p) (by omega) (by omega))
  rw [rest_cons (by omega) (by omega), lineP, if_neg]
  · rfl
  · intro e
    apply h2
    have h3 := hp.k
    have := u8_n hz.1 hz.2
    have := u8_n (z := sg) (by omega) (by omega)
    rw [e] at *
    omega
/-- What a line's answer tells. -/
theorem beg_inv {b : Rw Int} {p sg lo : Int} {k n : Int} (h : begR b p sg lo = (k, n)) (h0 : 0 ≤ p) (h1 : p ≤ b.l.length) :
    (k < 0 → lineP (UInt8.ofNat sg.toNat) (kOf lo) (rest b p) = .wrong) ∧ (k = 0 → lineP (UInt8.ofNat sg.toNat) (kOf lo) (rest b p) = .short) ∧
    (0 < k → lineP (UInt8.ofNat sg.toNat) (kOf lo) (rest b p) = .ok n (rest b (p + k)) ∧ p + k ≤ b.l.length ∧ (kOf lo).least ≤ n ∧ n ≤ (kOf lo).most ∧ 0 ≤ n) ∧ -1 ≤ k := by
  unfold begR at h
  have hrl := rest_len b h0 h1
  cases hq : lineP (UInt8.ofNat sg.toNat) (kOf lo) (rest b p) with
  | short => rw [hq] at h; injection h with e1 e2; exact ⟨by omega, fun _ => rfl, by omega, by omega⟩
  | wrong => rw [hq] at h; injection h with e1 e2; exact ⟨fun _ => rfl, by omega, by omega, by omega⟩
  | ok v r =>
    rw [hq] at h
    injection h with e1 e2
    obtain ⟨e3, e4, e5, e6⟩ := lineP_inv hq
    have hlen : r.length < (rest b p).length := by rw [e3]; simp; omega
    subst e2
    refine ⟨by omega, by omega, fun _ => ⟨?_, by omega, e4, e5, e6⟩, by omega⟩
    have hr : r = (rest b p).drop ((rest b p).length - r.length) := drop_of (u := UInt8.ofNat sg.toNat :: (dg v.toNat ++ [13, 10])) (by rw [e3]; simp)
    rw [← rest_drop b h0 (by omega), ← e1, show (((rest b p).length : Int) - (r.length : Int)).toNat = (rest b p).length - r.length by omega, ← hr]
/-! ### A command -/
def cmdV : Nat → P3 (List Bs) → Int
  | _, .short => 0
  | _, .wrong => -1
  | m, .ok _ r => (m : Int) - r.length
structure oneR (b : Rw Int) (p : Int) (x : Rw ByteArray) (n : Int) : Prop where
  n : n = cmdV (rest b p).length (cmdP (rest b p))
  args : ∀ as r, cmdP (rest b p) = .ok as r → x.l.map ls = as
  ok : x.ok 1
  len : x.l.length ≤ 50
structure AH (b : Rw Int) (p many i : Int) (x : Rw ByteArray) : Prop where
  p0 : 0 ≤ p
  lo : p < i
  hi : i ≤ b.l.length
  m0 : 0 ≤ many
  m1 : many ≤ 50
  cnt : (x.l.length : Int) ≤ many
  run : cmdP (rest b p) = pre (x.l.map ls) (argsP (many - x.l.length).toNat (rest b i))
  ok : x.ok 1
theorem one_none {b : Rw Int} {p k n : Int} (h : begR b p 42 1 = (k, n)) (h0 : 0 ≤ p) (h1 : p ≤ b.l.length) (hk : k ≤ 0) : oneR b p Rw.nil k := by
  obtain ⟨a1, a2, a3, a4⟩ := beg_inv h h0 h1
  have hc : cmdP (rest b p) = if k = 0 then .short else .wrong := by
    unfold cmdP
    by_cases hz : k = 0
    · rw [show lineP 42 .cnt (rest b p) = .short from a2 hz, if_pos hz]
    · rw [show lineP 42 .cnt (rest b p) = .wrong from a1 (by omega), if_neg hz]
  by_cases hz : k = 0
  · rw [if_pos hz] at hc
    exact ⟨by rw [hc]; exact hz, fun as r e => (by rw [hc] at e; cases e), .inl rfl, Nat.zero_le _⟩
  · rw [if_neg hz] at hc
    exact ⟨by rw [hc]; show k = -1; omega, fun as r e => (by rw [hc] at e; cases e), .inl rfl, Nat.zero_le _⟩
theorem AH.start {b : Rw Int} {p k n : Int} (h : begR b p 42 1 = (k, n)) (h0 : 0 ≤ p) (h1 : p ≤ b.l.length) (hk : 0 < k) : AH b p n (p + k) Rw.nil := by
  obtain ⟨a1, a2, a3, a4⟩ := beg_inv h h0 h1
  obtain ⟨b1, b2, b3, b4, b5⟩ := a3 hk
  refine ⟨h0, by omega, b2, b5, b4, b5, ?_, .inl rfl⟩
  unfold cmdP
  rw [show lineP 42 .cnt (rest b p) = _ from b1]
  simp only [Rw.nil, List.map_nil, List.length_nil]
  rw [show n - ((0 : Nat) : Int) = n by omega]
  cases argsP n.toNat (rest b (p + k)) <;> rfl
theorem AH.succ {b : Rw Int} {p many i : Int} {x : Rw ByteArray} (h : AH b p many i x) (hx : (x.l.length : Int) < many) : cmdP (rest b p) = pre (x.l.map ls) (match argP (rest b i) with
    | .short => .short
    | .wrong => .wrong
    | .ok a r => pre [a] (argsP (many - (x.l.length + 1)).toNat r)) := by
  rw [h.run, show (many - (x.l.length : Int)).toNat = (many - (x.l.length + 1)).toNat + 1 by omega, argsP_succ]
theorem AH.none {b : Rw Int} {p many i : Int} {x : Rw ByteArray} (h : AH b p many i x) (hx : (x.l.length : Int) < many) {j n : Int} (hj : begR b i 36 0 = (j, n)) (hk : j ≤ 0) : oneR b p Rw.nil j := by
  have := h.p0; have := h.lo; have := h.hi
  obtain ⟨a1, a2, a3, a4⟩ := beg_inv hj (by omega) h.hi
  have hc := h.succ hx
  unfold argP at hc
  by_cases hz : j = 0
  · rw [show lineP 36 .szd (rest b i) = .short from a2 hz] at hc
    exact ⟨by rw [hc]; exact hz, fun as r e => (by rw [hc] at e; cases e), .inl rfl, Nat.zero_le _⟩
  · rw [show lineP 36 .szd (rest b i) = .wrong from a1 (by omega)] at hc
    exact ⟨by rw [hc]; show j = -1; omega, fun as r e => (by rw [hc] at e; cases e), .inl rfl, Nat.zero_le _⟩
theorem AH.arg {b : Rw Int} {p many i : Int} {x : Rw ByteArray} (h : AH b p many i x) {j n : Int} (hj : begR b i 36 0 = (j, n)) (hk : 0 < j) : argP (rest b i) = bytP n.toNat (rest b (i + j)) ∧ i + j ≤ b.l.length ∧ 0 ≤ n ∧ n ≤ 1000 := by
  have := h.p0; have := h.lo
  obtain ⟨a1, a2, a3, a4⟩ := beg_inv hj (by omega) h.hi
  obtain ⟨b1, b2, b3, b4, b5⟩ := a3 hk
  unfold argP
  rw [show lineP 36 .szd (rest b i) = _ from b1]
  exact ⟨rfl, b2, b5, b4⟩
theorem one_bad {b : Rw Int} {p : Int} {k : Int} (hc : (k = 0 ∧ cmdP (rest b p) = .short) ∨ (k = -1 ∧ cmdP (rest b p) = .wrong)) : oneR b p Rw.nil k := by
  rcases hc with ⟨hk, hc⟩ | ⟨hk, hc⟩
  · exact ⟨by rw [hc]; exact hk, fun as r e => (by rw [hc] at e; cases e), .inl rfl, Nat.zero_le _⟩
  · exact ⟨by rw [hc]; exact hk, fun as r e => (by rw [hc] at e; cases e), .inl rfl, Nat.zero_le _⟩
theorem AH.short {b : Rw Int} {p many i : Int} {x : Rw ByteArray} (h : AH b p many i x) (hx : (x.l.length : Int) < many) {j n : Int} (hj : begR b i 36 0 = (j, n)) (hk : 0 < j) (hn : (b.l.length : Int) < i + j + n) : oneR b p Rw.nil 0 := by
  obtain ⟨a1, a2, a3, a4⟩ := h.arg hj hk
  have := h.p0; have := h.lo
  have hl := rest_len b (p := i + j) (by omega) a2
  have hc := h.succ hx
  rw [a1, bytP_of, if_pos (by omega)] at hc
  exact one_bad (.inl ⟨rfl, hc⟩)
/-- The two bytes behind an argument, as they are compared. -/
theorem tail_is {b : Rw Int} (hB : isB b.l) {e : Int} (h0 : 0 ≤ e) (h1 : e ≤ b.l.length) {j : Int} (hj : j = min (e + 2) b.l.length) (t : Bs) : ofBytes (b.sub 1 e j).l = ba t ↔ (rest b e).take 2 = t := by
  have hl := rest_len b h0 h1
  have hs := ls_sub hB 1 h0 (show e ≤ j by omega)
  have e2 : (rest b e).take (j - e).toNat = (rest b e).take 2 := by
    rcases Int.le_total (e + 2) b.l.length with h | h
    · congr 1; omega
    · rw [List.take_of_length_le (by omega), List.take_of_length_le (by omega)]
  rw [e2] at hs
  constructor
  · intro h; rw [← hs, h]; rfl
  · intro h; refine ls_inj ?_; rw [hs, h]; rfl
theorem AH.tail {b : Rw Int} {p many i : Int} {x : Rw ByteArray} (h : AH b p many i x) (hx : (x.l.length : Int) < many) {j n : Int} (hj : begR b i 36 0 = (j, n)) (hk : 0 < j) (hn : i + j + n ≤ b.l.length) :
    cmdP (rest b p) = pre (x.l.map ls) (match (rest b (i + j + n)).take 2 with
      | [] => .short
      | [c] => if c = 13 then .short else .wrong
      | c :: d :: _ => if c = 13 ∧ d = 10 then pre [(rest b (i + j)).take n.toNat] (argsP (many - (x.l.length + 1)).toNat (rest b (i + j + n + 2))) else .wrong) := by
  obtain ⟨a1, a2, a3, a4⟩ := h.arg hj hk
  have := h.p0; have := h.lo
  have hl := rest_len b (p := i + j) (by omega) a2
  have hc := h.succ hx
  rw [a1, bytP_of, if_neg (by omega), rest_drop b (by omega) a3] at hc
  rw [hc]
  have e : (rest b (i + j)).drop (n.toNat + 2) = rest b (i + j + n + 2) := by
    rw [show n.toNat + 2 = (n + 2).toNat by omega, rest_drop b (by omega) (by omega)]; congr 1; omega
  rw [e]
  congr 1
  generalize (rest b (i + j + n)).take 2 = t
  match t with
  | [] => rfl
  | [c] => simp only []; split <;> rename_i h3 <;> split at h3 <;> simp_all
  | c :: d :: r => simp only []; split <;> rename_i h3 <;> split at h3 <;> simp_all
theorem AH.cut {b : Rw Int} {p many i : Int} {x : Rw ByteArray} (h : AH b p many i x) (hx : (x.l.length : Int) < many) {j n : Int} (hj : begR b i 36 0 = (j, n)) (hk : 0 < j) (hn : i + j + n ≤ b.l.length) (ht : (rest b (i + j + n)).take 2 = [] ∨ (rest b (i + j + n)).take 2 = [13]) : oneR b p Rw.nil 0 := by
  have hc := h.tail hx hj hk hn
  rcases ht with ht | ht <;> rw [ht] at hc <;> exact one_bad (.inl ⟨rfl, hc⟩)
theorem AH.odd {b : Rw Int} {p many i : Int} {x : Rw ByteArray} (h : AH b p many i x) (hx : (x.l.length : Int) < many) {j n : Int} (hj : begR b i 36 0 = (j, n)) (hk : 0 < j) (hn : i + j + n ≤ b.l.length) (h1 : (rest b (i + j + n)).take 2 ≠ []) (h2 : (rest b (i + j + n)).take 2 ≠ [13]) (h3 : (rest b (i + j + n)).take 2 ≠ [13, 10]) : oneR b p Rw.nil (-1) := by
  have hc := h.tail hx hj hk hn
  have hl : ((rest b (i + j + n)).take 2).length ≤ 2 := by rw [List.length_take]; omega
  generalize (rest b (i + j + n)).take 2 = t at hc h1 h2 h3 hl
  match t with
  | [] => exact absurd rfl h1
  | [c] => 
    simp only [] at hc
    rw [if_neg (fun e => h2 (by rw [e]))] at hc
    exact one_bad (.inr ⟨rfl, hc⟩)
  | [c, d] =>
    simp only [] at hc
    rw [if_neg (fun e => h3 (by rw [e.1, e.2]))] at hc
    exact one_bad (.inr ⟨rfl, hc⟩)
  | c :: d :: f :: r => simp at hl
theorem AH.next {b : Rw Int} {p many i : Int} {x y : Rw ByteArray} (hB : isB b.l) (h : AH b p many i x) (hx : (x.l.length : Int) < many) {j n : Int} (hj : begR b i 36 0 = (j, n)) (hk : 0 < j) (hn : i + j + n ≤ b.l.length) (ht : (rest b (i + j + n)).take 2 = [13, 10]) (hy : y.l = x.l ++ [ofBytes (b.sub 1 (i + j) (i + j + n)).l]) (ky : y.ok 1) : AH b p many (i + j + n + 2) y := by
  have hc := h.tail hx hj hk hn
  obtain ⟨a1, a2, a3, a4⟩ := h.arg hj hk
  have := h.p0; have := h.lo
  rw [ht] at hc
  simp only [] at hc
  rw [if_pos ⟨trivial, trivial⟩, pre_pre] at hc
  have hl := rest_len b (p := i + j + n) (by omega) hn
  have hl2 := congrArg List.length ht
  rw [List.length_take] at hl2
  have hl3 : ([13, 10] : Bs).length = 2 := rfl
  have hs := ls_sub hB 1 (i := i + j) (j := i + j + n) (by omega) (by omega)
  rw [show i + j + n - (i + j) = n by omega] at hs
  refine ⟨h.p0, by omega, by omega, h.m0, h.m1, by rw [hy]; simp; omega, ?_, ky⟩
  rw [hc, hy, List.map_append, List.map_cons, List.map_nil, hs, List.length_append]
  rfl
theorem AH.done {b : Rw Int} {p many i : Int} {x : Rw ByteArray} (h : AH b p many i x) (hx : ¬(x.l.length : Int) < many) : oneR b p x (i - p) := by
  have := h.p0; have := h.lo; have := h.hi; have := h.cnt; have := h.m1
  have e : cmdP (rest b p) = .ok (x.l.map ls) (rest b i) := by
    rw [h.run, show (many - (x.l.length : Int)).toNat = 0 by omega]
    simp [argsP, pre]
  have h1 := rest_len b (p := p) (by omega) (by omega)
  have h2 := rest_len b (p := i) (by omega) (by omega)
  refine ⟨?_, fun as r e2 => ?_, h.ok, by omega⟩
  · rw [e]; show i - p = ((rest b p).length : Int) - (rest b i).length; omega
  · rw [e] at e2; injection e2
/-! ### All -/
def refP (b : Rw Int) (x : Rw (Rw ByteArray)) (n : Int) (e : Bool) : Prop := wholeP b x n (if e then 7 else 0)
structure WH (b : Rw Int) (p : Int) (x : Rw (Rw ByteArray)) : Prop where
  p0 : 0 ≤ p
  p1 : p ≤ b.l.length
  run : res Go.Proofs.YtamjocnlhhhijaaS.start (bS b.l) = res { Go.Proofs.YtamjocnlhhhijaaS.start with out := (vv x).map (List.map ls) } (rest b p)
  n : p = clen (vv x)
  ok : okL x
  len : (x.l.length : Int) ≤ p
theorem WH.start (b : Rw Int) : WH b 0 Rw.nil := ⟨Int.le_refl _, by omega, by unfold rest; rfl, rfl, ⟨.inl rfl, by simp [Rw.nil]⟩, by simp [Rw.nil]⟩
theorem WH.all {b : Rw Int} {p : Int} {x : Rw (Rw ByteArray)} (h : WH b p x) (hp : (b.l.length : Int) ≤ p) : refP b x p false := by
  have hr := h.run
  rw [rest_nil hp] at hr
  exact ⟨h.ok, by rw [hr]; rfl, h.n, by rw [hr]; rfl⟩
theorem oneR_le {b : Rw Int} {p : Int} {y : Rw ByteArray} {n : Int} (h : oneR b p y n) (h0 : 0 ≤ p) (h1 : p ≤ b.l.length) : n ≤ b.l.length - p := by
  have h2 := h.n
  have h3 := rest_len b h0 h1
  cases hc : cmdP (rest b p) with
  | short => rw [hc] at h2; change n = 0 at h2; omega
  | wrong => rw [hc] at h2; change n = -1 at h2; omega
  | ok as r => rw [hc] at h2; change n = ((rest b p).length : Int) - r.length at h2; omega
theorem WH.ne {b : Rw Int} {p : Int} (hp0 : 0 ≤ p) (hp : p < b.l.length) : rest b p ≠ [] := by rw [rest_cons hp0 hp]; simp
theorem WH.wrong {b : Rw Int} {p : Int} {x : Rw (Rw ByteArray)} (h : WH b p x) (hp : p < b.l.length) {y : Rw ByteArray} {n : Int} (hy : oneR b p y n) (hn : n < 0) : refP b x p true := by
  have hr := h.run
  rw [whl_one _ _ (WH.ne h.p0 hp)] at hr
  have h1 := hy.n
  have h0 := h.p0
  cases hc : cmdP (rest b p) with
  | short => rw [hc] at h1; change n = 0 at h1; omega
  | wrong => rw [hc] at hr; exact ⟨h.ok, by rw [hr], h.n, by rw [hr]⟩
  | ok as r => rw [hc] at h1; have := cmdP_lt hc; change n = ((rest b p).length : Int) - r.length at h1; omega
theorem WH.short {b : Rw Int} {p : Int} {x : Rw (Rw ByteArray)} (h : WH b p x) (hp : p < b.l.length) {y : Rw ByteArray} (hy : oneR b p y 0) : refP b x p false := by
  have hr := h.run
  rw [whl_one _ _ (WH.ne h.p0 hp)] at hr
  have h1 := hy.n
  have h0 := h.p0
  cases hc : cmdP (rest b p) with
  | short => rw [hc] at hr; exact ⟨h.ok, by rw [hr], h.n, by rw [hr]⟩
  | wrong => rw [hc] at h1; change (0 : Int) = -1 at h1; omega
  | ok as r => rw [hc] at h1; have := cmdP_lt hc; change (0 : Int) = ((rest b p).length : Int) - r.length at h1; omega
theorem WH.next {b : Rw Int} {p : Int} {x z : Rw (Rw ByteArray)} (h : WH b p x) (hp : p < b.l.length) {y : Rw ByteArray} {n : Int} (hy : oneR b p y n) (hn : 0 < n) (hz : z.l = x.l ++ [y]) (kz : z.ok 1) : WH b (p + n) z ∧ p + n ≤ b.l.length := by
  have hr := h.run
  have h0 := h.p0
  rw [whl_one _ _ (WH.ne h.p0 hp)] at hr
  have h1 := hy.n
  have hrl := rest_len b h0 (by omega : p ≤ b.l.length)
  cases hc : cmdP (rest b p) with
  | short => rw [hc] at h1; change n = 0 at h1; omega
  | wrong => rw [hc] at h1; change n = -1 at h1; omega
  | ok as r =>
    rw [hc] at h1 hr
    have := cmdP_lt hc
    change n = ((rest b p).length : Int) - r.length at h1
    have hx := hy.args as r hc
    obtain ⟨e1, e2⟩ := cmdP_inv hc
    have hrr : r = rest b (p + n) := by
      rw [← rest_drop b h0 (by omega), e1, List.drop_left' (by rw [e1, List.length_append] at h1; omega)]
    have hv : vv z = vv x ++ [y.l] := by unfold vv; rw [hz, List.map_append]; rfl
    have hpn : p + n ≤ b.l.length := by omega
    refine ⟨⟨by omega, hpn, ?_, ?_, ⟨kz, fun w hw => ?_⟩, ?_⟩, hpn⟩
    · rw [hr, hv, List.map_append, ← hrr, ← hx]; rfl
    · rw [hv, clen_app, ← h.n, size_ls, ls_cmdB, hx]
      rw [e1, List.length_append] at h1; omega
    · rw [hz] at hw
      rcases List.mem_append.1 hw with hw | hw
      · exact h.ok.2 w hw
      · rw [List.mem_singleton.1 hw]; exact hy.ok
    · have := h.len; rw [hz, List.length_append]; simp; omega
end Go.Proofs.YtamjocnlhhhijaaK
