/- Replies: what they are as data, what they are printed as. -/
import Derived.Test.YtamjocnlhhhijaaVC
import Derived.Test.YtamjocnlhhhijaaVC
import Derived.Test.YtamjocnlhhhijaaVR2p
import Derived.Test.YtamjocnlhhhijaaVRRs
set_option linter.unusedSimpArgs false
set_option linter.unusedVariables false
namespace Go.Proofs.YtamjocnlhhhijaaK
open Go Go.Proofs.YtamjocnlhhhijaaV Go.Proofs.YtamjocnlhhhijaaK
/-! ### Replies as data -/
structure Rep where
  k : Int
  t : ByteArray
  n : Int
  l : Rw ByteArray
instance : Inhabited Rep := ⟨⟨0, ⟨#[]⟩, 0, Rw.nil⟩⟩
def eP (x : Rep) : List Atom := [aI x.k, aS x.t, aI x.n, Rw.atom eS x.l]
def unP (r : List Atom) : Rep := ⟨vi (r.getD 0 atom0).1, vs (r.getD 1 atom0).1, vi (r.getD 2 atom0).1, Rw.un unS (r.getD 3 atom0)⟩
theorem unP_e (x : Rep) : unP (eP x) = x := by
  cases x
  simp [unP, eP, List.getD_cons_zero, List.getD_cons_succ, aI, aS, unS_atom, vi, vs]
@[simp] theorem unP_at (r : Rw Rep) : Rw.un unP (r.atom eP) = r := Rw.un_atom unP_e r
theorem vi_cell_P0 (r : Rw Rep) (i : Int) : vi (cellD (r.atom eP) i 0).1 = (r.get i).k := by
  rw [cell_rw, Rw.get, List.getD_eq_getElem?_getD (l := r.l)]
  cases r.l[i.toNat]? <;> rfl
theorem vs_cell_P1 (r : Rw Rep) (i : Int) : vs (cellD (r.atom eP) i 1).1 = (r.get i).t := by
  rw [cell_rw, Rw.get, List.getD_eq_getElem?_getD (l := r.l)]
  cases r.l[i.toNat]? <;> rfl
theorem vi_cell_P2 (r : Rw Rep) (i : Int) : vi (cellD (r.atom eP) i 2).1 = (r.get i).n := by
  rw [cell_rw, Rw.get, List.getD_eq_getElem?_getD (l := r.l)]
  cases r.l[i.toNat]? <;> rfl
theorem cell_P3 (r : Rw Rep) {i : Int} (h0 : 0 ≤ i) (h : i < r.l.length) : cellD (r.atom eP) i 3 = Rw.atom eS (r.get i).l := by
  have hl : i.toNat < r.l.length := by omega
  rw [cell_rw, List.getElem?_eq_getElem hl, Rw.get, List.getD_eq_getElem?_getD (l := r.l), List.getElem?_eq_getElem hl]; rfl
theorem vs_cell_S (r : Rw ByteArray) (i : Int) : vs (cellD (r.atom eS) i 0).1 = r.get i := by
  rw [cell_rw, Rw.get, List.getD_eq_getElem?_getD (l := r.l)]
  cases r.l[i.toNat]? <;> rfl
theorem vi_cell_B (r : Rw Int) (i : Int) : vi (cellD (r.atom eB) i 0).1 = r.get i := by
  rw [cell_rw, Rw.get, List.getD_eq_getElem?_getD (l := r.l)]
  cases r.l[i.toNat]? <;> rfl
theorem kind_Rp0 {r : Rw Rep} {i : Int} (h0 : 0 ≤ i) (h : i < r.l.length) : ∃ n, (cellD (r.atom eP) i 0).1 = .int .i64 n := by
  have hl : i.toNat < r.l.length := by omega
  rw [cell_rw, List.getElem?_eq_getElem hl]; exact ⟨_, rfl⟩
theorem kind_Rp1 {r : Rw Rep} {i : Int} (h0 : 0 ≤ i) (h : i < r.l.length) : ∃ n, (cellD (r.atom eP) i 1).1 = .string n := by
  have hl : i.toNat < r.l.length := by omega
  rw [cell_rw, List.getElem?_eq_getElem hl]; exact ⟨_, rfl⟩
theorem kind_Rp2 {r : Rw Rep} {i : Int} (h0 : 0 ≤ i) (h : i < r.l.length) : ∃ n, (cellD (r.atom eP) i 2).1 = .int .i64 n := by
  have hl : i.toNat < r.l.length := by omega
  rw [cell_rw, List.getElem?_eq_getElem hl]; exact ⟨_, rfl⟩
theorem kind_Rp3 {r : Rw Rep} {i : Int} (h0 : 0 ≤ i) (h : i < r.l.length) : ∃ a n c, (cellD (r.atom eP) i 3).1 = .slice a n c := by
  rw [cell_P3 r h0 h]; exact ⟨_, _, _, rfl⟩
theorem kind_Rs {r : Rw ByteArray} {i : Int} (h0 : 0 ≤ i) (h : i < r.l.length) : ∃ n, (cellD (r.atom eS) i 0).1 = .string n := by
  have hl : i.toNat < r.l.length := by omega
  rw [cell_rw, List.getElem?_eq_getElem hl]; exact ⟨_, rfl⟩
theorem kind_Rb {r : Rw Int} {i : Int} (h0 : 0 ≤ i) (h : i < r.l.length) : ∃ n, (cellD (r.atom eB) i 0).1 = .int .u8 n := by
  have hl : i.toNat < r.l.length := by omega
  rw [cell_rw, List.getElem?_eq_getElem hl]; exact ⟨_, rfl⟩
/-! ### Bytes -/
@[reducible] def byteAt (s : ByteArray) (i : Int) : Int := ((s[i.toNat]?.map (·.toNat)).getD 0 : Nat)
def ofBytes (l : List Int) : ByteArray := byD (.rows 1 (l.map eB))
theorem byD_rw (r : Rw Int) : byD (Rw.atom eB r).2 = ofBytes r.l := rfl
theorem seq_b (a b : ByteArray) : (a.toList == b.toList) = decide (a = b) := by
  rw [Bool.eq_iff_iff, ← beq_toListBytes, decide_eq_true_iff]
  cases a; cases b
  show (ByteArray.beq _ _ = true) ↔ _
  simp [ByteArray.beq]
/-- A text's bytes, as numbers. -/
def bi (s : ByteArray) : List Int := (ls s).map fun c => (c.toNat : Int)
theorem bi_app (a b : ByteArray) : bi (a ++ b) = bi a ++ bi b := by simp [bi, ls_app]
theorem ofBytes_bi (s : ByteArray) : ofBytes (bi s) = s := by
  unfold ofBytes byD bi
  simp only [D.els, List.map_map]
  apply ByteArray.ext
  apply Array.ext'
  simp only [ls]
  conv => rhs; rw [← List.map_id s.data.toList]
  refine List.map_congr_left fun b _ => ?_
  simp [eB, aK, vi]
theorem bi_ofB (s : ByteArray) : (bi s).map eB = ofB s := by simp [bi, ofB, ls, eB, aK]
theorem bi_len (s : ByteArray) : (bi s).length = s.size := by simp [bi, size_ls]
theorem bi_inj {a b : ByteArray} (h : bi a = bi b) : a = b := by rw [← ofBytes_bi a, ← ofBytes_bi b, h]
def isB (l : List Int) : Prop := ∀ x ∈ l, 0 ≤ x ∧ x < 256
theorem isB_bi (s : ByteArray) : isB (bi s) := by
  intro x hx
  obtain ⟨c, _, rfl⟩ := List.mem_map.1 hx
  have := c.toNat_lt
  exact ⟨by omega, by omega⟩
theorem bi_ofBytes {l : List Int} (h : isB l) : bi (ofBytes l) = l := by
  unfold bi ofBytes byD
  simp only [D.els, List.map_map, ls]
  conv => rhs; rw [← List.map_id l]
  refine List.map_congr_left fun x hx => ?_
  have := h x hx
  simp only [Function.comp, eB, aK, List.getD_cons_zero, vi, UInt8.toNat_ofNat', id]
  omega
theorem need_bytes {r : Rw Int} (h : r.ok 1) (hb : isB r.l) : ∃ (z : Nat) (s : ByteArray), (r.atom eB).2 = .rows z (ofB s) ∧ (ofB s = [] ∨ z = 1) := by
  refine ⟨r.z, ofBytes r.l, ?_, ?_⟩
  · rw [← bi_ofB, bi_ofBytes hb]; rfl
  · rcases h with h | h
    · left; rw [← bi_ofB, bi_ofBytes hb, h]; rfl
    · right; exact h
theorem apps_wp {cs : Nat → Sig × Con} {Post : List Atom → Prop} {env : List Atom} {L : List (List Atom → Prop)} {s x : X} {t : T} (S0 : Rw Int) (y : ByteArray) (hs : s.den env = S0.atom eB) (hx : vs (x.den env).1 = y)
    (h : ∀ a c, t.wp cs Post (env ++ [Rw.atom eB ⟨a, c, 1, S0.l ++ bi y⟩]) L) : (T.apps s x t).wp cs Post env L := by
  intro a c
  have := h a c
  rw [hs, hx]
  simp only [Rw.atom, D.els, List.map_append, bi_ofB, List.length_append, bi_len, List.length_map] at this ⊢
  exact this
theorem byteAt_is {s : ByteArray} {i : Int} (h0 : 0 ≤ i) (hi : i < s.size) : (bi s)[i.toNat]? = some (byteAt s i) := by
  have h1 : i.toNat < s.size := by omega
  have h2 : i.toNat < (ls s).length := by rw [← size_ls]; exact h1
  have e : s[i.toNat]? = some (s[i.toNat]'h1) := getElem?_pos s i.toNat h1
  unfold byteAt bi
  rw [List.getElem?_map, List.getElem?_eq_getElem h2, e]; rfl
theorem byteAt_rng (s : ByteArray) (i : Int) : 0 ≤ byteAt s i ∧ byteAt s i < 256 := by
  unfold byteAt
  cases s[i.toNat]? with
  | none => simp
  | some c => have := c.toNat_lt; simp; omega
theorem ofBytes_one (x : Int) : ofBytes [x] = ba [UInt8.ofNat x.toNat] := rfl
theorem quo_neg {n : Int} (h : n ≤ 0) (h2 : -9223372036854775808 ≤ n) : quoD .i64 n 10 = -(-n / 10) := by
  have e : n.tdiv 10 = -(-n / 10) := by rw [← Int.tdiv_eq_ediv_of_nonneg (show 0 ≤ -n by omega), Int.neg_tdiv, Int.neg_neg]
  unfold quoD; rw [e]; exact wrap_id _ (by omega) (by omega)
theorem rem_neg {n : Int} (h : n ≤ 0) : remD n 10 = -(-n % 10) := by
  unfold remD; rw [← Int.tmod_eq_emod_of_nonneg (show 0 ≤ -n by omega), Int.neg_tmod, Int.neg_neg]
/-! ### What is plain -/
def li (x : Int) : Int := if x = 13 ∨ x = 10 then 32 else x
def lineB (s : ByteArray) : ByteArray := ofBytes ((bi s).map li)
theorem isB_line {l : List Int} (h : isB l) : isB (l.map li) := by
  intro x hx
  obtain ⟨c, hc, rfl⟩ := List.mem_map.1 hx
  have := h c hc
  unfold li; split <;> omega
theorem bi_lineB (s : ByteArray) : bi (lineB s) = (bi s).map li := bi_ofBytes (isB_line (isB_bi s))
theorem li_li (x : Int) : li (li x) = li x := by unfold li; split <;> simp_all
theorem lineB_lineB (s : ByteArray) : lineB (lineB s) = lineB s := by
  unfold lineB
  rw [bi_ofBytes (isB_line (isB_bi s)), List.map_map]
  congr 1
  exact List.map_congr_left fun x _ => li_li x
theorem lineB_size (s : ByteArray) : (lineB s).size = s.size := by rw [← bi_len, bi_lineB, List.length_map, bi_len]
structure RV where
  k : Int
  t : ByteArray
  n : Int
  l : List ByteArray
deriving DecidableEq
def Rep.v (x : Rep) : RV := ⟨x.k, x.t, x.n, x.l.l⟩
def em : ByteArray := ⟨#[]⟩
def plV (x : RV) : RV := if x.k = 1 ∨ x.k = 2 then ⟨x.k, lineB x.t, 0, []⟩ else if x.k = 3 then ⟨x.k, em, x.n, []⟩ else if x.k = 4 then ⟨x.k, x.t, 0, []⟩ else if x.k = 6 then ⟨x.k, em, 0, x.l⟩ else ⟨5, em, 0, []⟩
theorem plV_1 {x : RV} (h : x.k = 1 ∨ x.k = 2) : plV x = ⟨x.k, lineB x.t, 0, []⟩ := by unfold plV; rw [if_pos h]
theorem plV_3 {x : RV} (h : x.k = 3) : plV x = ⟨x.k, em, x.n, []⟩ := by unfold plV; rw [if_neg (by omega), if_pos h]
theorem plV_4 {x : RV} (h : x.k = 4) : plV x = ⟨x.k, x.t, 0, []⟩ := by unfold plV; rw [if_neg (by omega), if_neg (by omega), if_pos h]
theorem plV_6 {x : RV} (h : x.k = 6) : plV x = ⟨x.k, em, 0, x.l⟩ := by unfold plV; rw [if_neg (by omega), if_neg (by omega), if_neg (by omega), if_pos h]
theorem plV_5 {x : RV} (h1 : ¬x.k = 1) (h2 : ¬x.k = 2) (h3 : ¬x.k = 3) (h4 : ¬x.k = 4) (h6 : ¬x.k = 6) : plV x = ⟨5, em, 0, []⟩ := by unfold plV; rw [if_neg (by omega), if_neg h3, if_neg h4, if_neg h6]
theorem plV_plV (x : RV) : plV (plV x) = plV x := by
  by_cases h1 : x.k = 1 ∨ x.k = 2
  · rw [plV_1 h1, plV_1 (x := ⟨x.k, lineB x.t, 0, []⟩) h1]; simp only [lineB_lineB]
  by_cases h3 : x.k = 3
  · rw [plV_3 h3, plV_3 (x := ⟨x.k, em, x.n, []⟩) h3]
  by_cases h4 : x.k = 4
  · rw [plV_4 h4, plV_4 (x := ⟨x.k, x.t, 0, []⟩) h4]
  by_cases h6 : x.k = 6
  · rw [plV_6 h6, plV_6 (x := ⟨x.k, em, 0, x.l⟩) h6]
  · rw [plV_5 (fun h => h1 (.inl h)) (fun h => h1 (.inr h)) h3 h4 h6]
    rw [plV_5] <;> simp
theorem take_li {s : ByteArray} {i : Int} {b : Int} (h0 : 0 ≤ i) (h : (bi s)[i.toNat]? = some b) : ((bi s).map li).take (i + 1).toNat = ((bi s).map li).take i.toNat ++ [li b] := by
  rw [show (i + 1).toNat = i.toNat + 1 by omega, List.take_add_one, List.getElem?_map, h]; rfl
theorem take_len {s : ByteArray} {i : Int} (h0 : 0 ≤ i) (h : i ≤ s.size) : ((((bi s).map li).take i.toNat).length : Int) = i := by
  rw [List.length_take, List.length_map, bi_len]; omega
theorem isB_take {l : List Int} (h : isB l) (n : Nat) : isB (l.take n) := fun x hx => h x (List.mem_of_mem_take hx)
theorem isB_drop {l : List Int} (h : isB l) (n : Nat) : isB (l.drop n) := fun x hx => h x (List.mem_of_mem_drop hx)
theorem isB_app {a b : List Int} (h : isB a) (k : isB b) : isB (a ++ b) := fun x hx => (List.mem_append.1 hx).elim (h x) (k x)
theorem take_all (s : ByteArray) : ((bi s).map li).take s.size = (bi s).map li := List.take_of_length_le (by rw [List.length_map, bi_len]; exact Nat.le_refl _)
theorem li_end {x : Int} (h : x = 13 ∨ x = 10) : li x = 32 := by unfold li; rw [if_pos h]
theorem li_not {x : Int} (h1 : ¬x = 13) (h2 : ¬x = 10) : li x = x := by unfold li; rw [if_neg (by omega)]
/-! ### What is printed -/
def e2 : ByteArray := ⟨#[13, 10]⟩
def bulkB (s : ByteArray) : ByteArray := (⟨#[36]⟩ : ByteArray) ++ prt s.size ++ e2 ++ s ++ e2
def catB (l : List ByteArray) : ByteArray := l.foldl (· ++ ·) em
theorem foldl_app (l : List ByteArray) (a : ByteArray) : l.foldl (· ++ ·) a = a ++ catB l := by
  induction l generalizing a with
  | nil => exact (app_nil a).symm
  | cons x l ih =>
    have e : catB (x :: l) = l.foldl (· ++ ·) (em ++ x) := rfl
    rw [List.foldl_cons, ih, e, ih, ← app_assoc]
    have : em ++ x = x := by apply ByteArray.ext; simp [em]
    rw [this, app_assoc]
theorem catB_nil : catB [] = em := rfl
theorem catB_cons (x : ByteArray) (l : List ByteArray) : catB (x :: l) = x ++ catB l := by
  have e : catB (x :: l) = l.foldl (· ++ ·) (em ++ x) := rfl
  rw [e, foldl_app]
  have : em ++ x = x := by apply ByteArray.ext; simp [em]
  rw [this]
theorem catB_app (l : List ByteArray) (x : ByteArray) : catB (l ++ [x]) = catB l ++ x := by
  unfold catB; rw [List.foldl_append]; rfl
def oneP (y : RV) : ByteArray := if y.k = 1 then (⟨#[43]⟩ : ByteArray) ++ y.t ++ e2 else if y.k = 2 then (⟨#[45]⟩ : ByteArray) ++ y.t ++ e2 else if y.k = 3 then (⟨#[58]⟩ : ByteArray) ++ prt y.n ++ e2 else if y.k = 4 then bulkB y.t
  else if y.k = 6 then (⟨#[42]⟩ : ByteArray) ++ prt y.l.length ++ e2 ++ catB (y.l.map bulkB) else (⟨#[36, 45, 49, 13, 10]⟩ : ByteArray)
def oneV (x : RV) : ByteArray := oneP (plV x)
def encV (l : List RV) : ByteArray := catB (l.map oneV)
theorem encV_app (l : List RV) (x : RV) : encV (l ++ [x]) = encV l ++ oneV x := by unfold encV; rw [List.map_append]; exact catB_app _ _
/-! ### How long -/
def lenS (l : List ByteArray) : Nat := (l.map fun s => 1 + s.size).sum
def lenV (x : RV) : Nat := 1 + x.t.size + lenS x.l
def lenL (l : List RV) : Nat := (l.map lenV).sum
theorem lenS_app (l : List ByteArray) (x : ByteArray) : lenS (l ++ [x]) = lenS l + (1 + x.size) := by simp [lenS]
theorem lenL_app (l : List RV) (x : RV) : lenL (l ++ [x]) = lenL l + lenV x := by simp [lenL]
theorem size_app (a b : ByteArray) : ((a ++ b).size : Int) = (a.size : Int) + b.size := by
  rw [size_ls, size_ls a, size_ls b, ls_app, List.length_append]; omega
theorem prt_size {n : Int} (h : in64 n) : 1 ≤ ((prt n).size : Int) ∧ ((prt n).size : Int) ≤ 20 := by
  have := pr_len h
  rw [size_ls]; show 1 ≤ ((pr n).length : Int) ∧ ((pr n).length : Int) ≤ 20; omega
theorem bulk_size {s : ByteArray} (h : s.size ≤ 1000000) : ((bulkB s).size : Int) ≤ s.size + 25 := by
  have := prt_size (n := (s.size : Int)) (by unfold in64; omega)
  have e1 : ((⟨#[36]⟩ : ByteArray).size : Int) = 1 := rfl
  have e3 : (e2.size : Int) = 2 := rfl
  unfold bulkB
  rw [size_app, size_app, size_app, size_app]; omega
theorem lenS_len (l : List ByteArray) : l.length ≤ lenS l := by
  induction l with
  | nil => exact Nat.le_refl _
  | cons x l ih => simp only [lenS, List.map_cons, List.sum_cons, List.length_cons] at ih ⊢; omega
theorem lenS_mem {l : List ByteArray} {s : ByteArray} (h : s ∈ l) : 1 + s.size ≤ lenS l := by
  induction l with
  | nil => cases h
  | cons x l ih =>
    simp only [lenS, List.map_cons, List.sum_cons] at ih ⊢
    rcases List.mem_cons.1 h with rfl | h
    · omega
    · have := ih h; omega
theorem lenL_mem {l : List RV} {x : RV} (h : x ∈ l) : lenV x ≤ lenL l := by
  induction l with
  | nil => cases h
  | cons y l ih =>
    simp only [lenL, List.map_cons, List.sum_cons] at ih ⊢
    rcases List.mem_cons.1 h with rfl | h
    · omega
    · have := ih h; omega
theorem lenL_len (l : List RV) : l.length ≤ lenL l := by
  induction l with
  | nil => exact Nat.le_refl _
  | cons x l ih => simp only [lenL, lenV, List.map_cons, List.sum_cons, List.length_cons] at ih ⊢; omega
theorem cat_size {l : List ByteArray} (h : lenS l ≤ 1000000) : ((catB (l.map bulkB)).size : Int) ≤ 26 * lenS l := by
  induction l with
  | nil => exact Int.le_of_lt_add_one (by decide)
  | cons x l ih =>
    have e : lenS (x :: l) = 1 + x.size + lenS l := by simp [lenS]
    have hb := bulk_size (s := x) (by omega)
    have := ih (by omega)
    rw [List.map_cons, catB_cons, size_app]; omega
theorem one_size {x : RV} (h : lenV x ≤ 100000) (hn : in64 x.n) : ((oneV x).size : Int) ≤ 60 * lenV x := by
  have e3 : (e2.size : Int) = 2 := rfl
  have hl := lineB_size x.t
  have h1 : 1 + x.t.size + lenS x.l = lenV x := rfl
  unfold oneV
  by_cases c1 : x.k = 1
  · rw [plV_1 (.inl c1)]; unfold oneP; rw [if_pos c1, size_app, size_app]
    have e1 : ((⟨#[43]⟩ : ByteArray).size : Int) = 1 := rfl
    simp only; omega
  by_cases c2 : x.k = 2
  · rw [plV_1 (.inr c2)]; unfold oneP; rw [if_neg c1, if_pos c2, size_app, size_app]
    have e1 : ((⟨#[45]⟩ : ByteArray).size : Int) = 1 := rfl
    simp only; omega
  by_cases c3 : x.k = 3
  · rw [plV_3 c3]; unfold oneP; rw [if_neg c1, if_neg c2, if_pos c3, size_app, size_app]
    have e1 : ((⟨#[58]⟩ : ByteArray).size : Int) = 1 := rfl
    have := prt_size hn
    simp only; omega
  by_cases c4 : x.k = 4
  · rw [plV_4 c4]; unfold oneP; rw [if_neg c1, if_neg c2, if_neg c3, if_pos c4]
    have := bulk_size (s := x.t) (by omega)
    simp only; omega
  by_cases c6 : x.k = 6
  · rw [plV_6 c6]; unfold oneP; rw [if_neg c1, if_neg c2, if_neg c3, if_neg c4, if_pos c6, size_app, size_app, size_app]
    have e1 : ((⟨#[42]⟩ : ByteArray).size : Int) = 1 := rfl
    have := cat_size (l := x.l) (by omega)
    have h2 := lenS_len x.l
    have := prt_size (n := (x.l.length : Int)) (by unfold in64; omega)
    simp only; omega
  · rw [plV_5 c1 c2 c3 c4 c6]; unfold oneP
    simp only [show ¬(5 : Int) = 1 by decide, show ¬(5 : Int) = 2 by decide, show ¬(5 : Int) = 3 by decide, show ¬(5 : Int) = 4 by decide, show ¬(5 : Int) = 6 by decide, if_false]
    have e1 : ((⟨#[36, 45, 49, 13, 10]⟩ : ByteArray).size : Int) = 5 := rfl
    omega
theorem enc_size {l : List RV} (h : lenL l ≤ 100000) (hn : ∀ x ∈ l, in64 x.n) : ((encV l).size : Int) ≤ 60 * lenL l := by
  induction l with
  | nil => exact Int.le_of_lt_add_one (by decide)
  | cons x l ih =>
    have e : lenL (x :: l) = lenV x + lenL l := by simp [lenL]
    have := one_size (x := x) (by omega) (hn x (by simp))
    have := ih (by omega) (fun y hy => hn y (by simp [hy]))
    unfold encV at this ⊢
    rw [List.map_cons, catB_cons, size_app]; omega
/-- A reply that is not too long. -/
def okP (x : Rep) : Prop := x.l.ok 1 ∧ lenV x.v ≤ 100000
theorem okP_t {x : Rep} (h : okP x) : x.t.size ≤ 100000 := by have := h.2; unfold lenV at this; have e : x.v.t = x.t := rfl; rw [e] at this; omega
theorem okP_l {x : Rep} (h : okP x) : x.l.l.length ≤ 100000 := by have := h.2; unfold lenV at this; have e : x.v.l = x.l.l := rfl; rw [e] at this; have := lenS_len x.l.l; omega
theorem set_li {s : ByteArray} {i b : Int} (h0 : 0 ≤ i) (h : (bi s)[i.toNat]? = some b) : (((bi s).map li).take i.toNat ++ (bi s).drop i.toNat).set i.toNat (li b) = ((bi s).map li).take (i + 1).toNat ++ (bi s).drop (i + 1).toNat := by
  rw [take_li h0 h]
  have hlt := (List.getElem?_eq_some_iff.1 h).1
  have hl : (((bi s).map li).take i.toNat).length = i.toNat := by rw [List.length_take, List.length_map]; omega
  rw [List.set_append_right _ _ (by omega), hl, Nat.sub_self, List.drop_eq_getElem_cons hlt, List.set_cons_zero, List.append_assoc, show (i + 1).toNat = i.toNat + 1 by omega]; rfl
theorem get_li {s : ByteArray} {r : Rw Int} {i : Int} (h0 : 0 ≤ i) (hi : i < s.size) (hr : r.l = ((bi s).map li).take i.toNat ++ (bi s).drop i.toNat) : (bi s)[i.toNat]? = some (r.get i) ∧ 0 ≤ r.get i ∧ r.get i < 256 := by
  have hlt : i.toNat < (bi s).length := by rw [bi_len]; omega
  have hl : (((bi s).map li).take i.toNat).length = i.toNat := by rw [List.length_take, List.length_map]; omega
  have e : r.get i = (bi s)[i.toNat] := by
    unfold Rw.get
    rw [hr, List.getD_eq_getElem?_getD, List.getElem?_append_right (by omega), hl, Nat.sub_self, List.getElem?_drop, Nat.add_zero, List.getElem?_eq_getElem hlt]; rfl
  rw [e]
  exact ⟨List.getElem?_eq_getElem hlt, isB_bi s _ (List.getElem_mem hlt)⟩
theorem len_li {s : ByteArray} {i : Int} (h0 : 0 ≤ i) (h : i ≤ s.size) : (((((bi s).map li).take i.toNat ++ (bi s).drop i.toNat)).length : Int) = s.size := by
  rw [List.length_append, List.length_take, List.length_map, List.length_drop, bi_len]; omega
theorem end_li (s : ByteArray) : ((bi s).map li).take s.size ++ (bi s).drop s.size = (bi s).map li := by
  rw [take_all, List.drop_of_length_le (by rw [bi_len]; exact Nat.le_refl _), List.append_nil]
theorem take_eq {a b : Rw ByteArray} {i : Int} (h0 : 0 ≤ i) (h1 : i < a.l.length) (h2 : i < b.l.length) (hE : a.l.take i.toNat = b.l.take i.toNat) (hg : a.get i = b.get i) : a.l.take (i + 1).toNat = b.l.take (i + 1).toNat := by
  obtain ⟨ha, ea⟩ := get_lt h0 h1
  obtain ⟨hb, eb⟩ := get_lt h0 h2
  rw [show (i + 1).toNat = i.toNat + 1 by omega, List.take_add_one, List.take_add_one, hE, List.getElem?_eq_getElem ha, List.getElem?_eq_getElem hb, ← ea, ← eb, hg]
theorem same_v {x y : Rep} {i : Int} (hk : x.k = y.k) (ht : x.t = y.t) (hn : x.n = y.n) (hl : (x.l.l.length : Int) = y.l.l.length) (hE : x.l.l.take i.toNat = y.l.l.take i.toNat) (hi : (x.l.l.length : Int) ≤ i) : x.v = y.v := by
  rw [List.take_of_length_le (by omega), List.take_of_length_le (by omega)] at hE
  unfold Rep.v
  rw [hk, ht, hn, hE]
theorem lenV_pl (v : RV) : lenV (plV v) ≤ lenV v := by
  have h0 : lenS [] = 0 := rfl
  have e0 : em.size = 0 := rfl
  have hl := lineB_size v.t
  by_cases h1 : v.k = 1 ∨ v.k = 2
  · rw [plV_1 h1]; unfold lenV; simp only; omega
  by_cases h3 : v.k = 3
  · rw [plV_3 h3]; unfold lenV; simp only; omega
  by_cases h4 : v.k = 4
  · rw [plV_4 h4]; unfold lenV; simp only; omega
  by_cases h6 : v.k = 6
  · rw [plV_6 h6]; unfold lenV; simp only; omega
  · rw [plV_5 (fun h => h1 (.inl h)) (fun h => h1 (.inr h)) h3 h4 h6]; unfold lenV; simp only; omega
theorem n_pl {v : RV} (h : in64 v.n) : in64 (plV v).n := by
  have h0 : in64 0 := by unfold in64; omega
  by_cases h1 : v.k = 1 ∨ v.k = 2
  · rw [plV_1 h1]; exact h0
  by_cases h3 : v.k = 3
  · rw [plV_3 h3]; exact h
  by_cases h4 : v.k = 4
  · rw [plV_4 h4]; exact h0
  by_cases h6 : v.k = 6
  · rw [plV_6 h6]; exact h0
  · rw [plV_5 (fun h => h1 (.inl h)) (fun h => h1 (.inr h)) h3 h4 h6]; exact h0
theorem okP_pl {x y : Rep} (e : y.v = plV x.v) (k : y.l.ok 1) (h : okP x) : okP y := ⟨k, by rw [e]; exact Nat.le_trans (lenV_pl _) h.2⟩
theorem pl_len {x y : Rep} (e : y.v = plV x.v) (h : okP x) : y.l.l.length ≤ 140737488355328 := by
  have h1 := lenV_pl x.v
  rw [← e] at h1
  have h2 := h.2
  have h3 := lenS_len y.l.l
  have h4 : 1 + y.t.size + lenS y.l.l = lenV y.v := rfl
  omega
theorem one_1 {y : RV} (h : y.k = 1) : oneP y = (⟨#[43]⟩ : ByteArray) ++ y.t ++ e2 := by unfold oneP; rw [if_pos h]
theorem one_2 {y : RV} (h : y.k = 2) : oneP y = (⟨#[45]⟩ : ByteArray) ++ y.t ++ e2 := by unfold oneP; rw [if_neg (by omega), if_pos h]
theorem one_3 {y : RV} (h : y.k = 3) : oneP y = (⟨#[58]⟩ : ByteArray) ++ prt y.n ++ e2 := by unfold oneP; rw [if_neg (by omega), if_neg (by omega), if_pos h]
theorem one_4 {y : RV} (h : y.k = 4) : oneP y = bulkB y.t := by unfold oneP; rw [if_neg (by omega), if_neg (by omega), if_neg (by omega), if_pos h]
theorem one_6 {y : RV} (h : y.k = 6) : oneP y = (⟨#[42]⟩ : ByteArray) ++ prt y.l.length ++ e2 ++ catB (y.l.map bulkB) := by unfold oneP; rw [if_neg (by omega), if_neg (by omega), if_neg (by omega), if_neg (by omega), if_pos h]
theorem one_5 {y : RV} (h1 : ¬y.k = 1) (h2 : ¬y.k = 2) (h3 : ¬y.k = 3) (h4 : ¬y.k = 4) (h6 : ¬y.k = 6) : oneP y = (⟨#[36, 45, 49, 13, 10]⟩ : ByteArray) := by unfold oneP; rw [if_neg h1, if_neg h2, if_neg h3, if_neg h4, if_neg h6]
theorem lenS_take (l : List ByteArray) (n : Nat) : lenS (l.take n) ≤ lenS l := by
  induction l generalizing n with
  | nil => simp
  | cons x l ih =>
    cases n with
    | zero => simp [lenS]
    | succ n =>
      have := ih n
      simp only [lenS, List.take_succ_cons, List.map_cons, List.sum_cons] at this ⊢; omega
theorem cat_take {r : Rw ByteArray} {i : Int} (h0 : 0 ≤ i) (h1 : i < r.l.length) : catB ((r.l.take (i + 1).toNat).map bulkB) = catB ((r.l.take i.toNat).map bulkB) ++ bulkB (r.get i) := by
  obtain ⟨ha, ea⟩ := get_lt h0 h1
  rw [show (i + 1).toNat = i.toNat + 1 by omega, List.take_add_one, List.getElem?_eq_getElem ha, ← ea, List.map_append]
  exact catB_app _ _
theorem get_size {r : Rw ByteArray} {i : Int} (h0 : 0 ≤ i) (h1 : i < r.l.length) : 1 + (r.get i).size ≤ lenS r.l := by
  obtain ⟨ha, ea⟩ := get_lt h0 h1
  rw [ea]; exact lenS_mem (List.getElem_mem ha)
theorem cat_take_size (l : List ByteArray) (n : Nat) (h : lenS l ≤ 1000000) : ((catB ((l.take n).map bulkB)).size : Int) ≤ 26 * lenS l := by
  have h1 := lenS_take l n
  have := cat_size (l := l.take n) (by omega)
  omega
theorem okP_s {x : Rep} (h : okP x) : lenS x.l.l ≤ 100000 := by have := h.2; unfold lenV at this; have e : x.v.l = x.l.l := rfl; rw [e] at this; omega
/-- A row of replies. -/
def okR (M : Nat) (r : Rw Rep) : Prop := r.ok 4 ∧ (∀ x ∈ r.l, x.l.ok 1 ∧ in64 x.n) ∧ lenL (r.l.map Rep.v) ≤ M
theorem okR_get {M : Nat} {r : Rw Rep} {i : Int} (h : okR M r) (hM : M ≤ 100000) (h0 : 0 ≤ i) (h1 : i < r.l.length) : okP (r.get i) ∧ in64 (r.get i).n := by
  obtain ⟨ha, ea⟩ := get_lt h0 h1
  have hm : r.get i ∈ r.l := by rw [ea]; exact List.getElem_mem ha
  have := lenL_mem (List.mem_map_of_mem (f := Rep.v) hm)
  exact ⟨⟨(h.2.1 _ hm).1, by have := h.2.2; omega⟩, (h.2.1 _ hm).2⟩
theorem okR_in {M : Nat} {r : Rw Rep} (h : okR M r) : ∀ v ∈ r.l.map Rep.v, in64 v.n := by
  intro v hv
  obtain ⟨x, hx, rfl⟩ := List.mem_map.1 hv
  exact (h.2.1 x hx).2
theorem lenL_take (l : List RV) (n : Nat) : lenL (l.take n) ≤ lenL l := by
  induction l generalizing n with
  | nil => simp
  | cons x l ih =>
    cases n with
    | zero => simp [lenL]
    | succ n =>
      have := ih n
      simp only [lenL, List.take_succ_cons, List.map_cons, List.sum_cons] at this ⊢; omega
theorem take_v {r : Rw Rep} {i : Int} (h0 : 0 ≤ i) (h1 : i < r.l.length) : (r.l.take (i + 1).toNat).map Rep.v = (r.l.take i.toNat).map Rep.v ++ [(r.get i).v] := by
  obtain ⟨ha, ea⟩ := get_lt h0 h1
  rw [show (i + 1).toNat = i.toNat + 1 by omega, List.take_add_one, List.getElem?_eq_getElem ha, ← ea, List.map_append]; rfl
theorem enc_take_size {M : Nat} {r : Rw Rep} (h : okR M r) (hM : M ≤ 100000) (n : Nat) : ((encV ((r.l.take n).map Rep.v)).size : Int) ≤ 6000000 := by
  have h1 := lenL_take (r.l.map Rep.v) n
  have h2 := h.2.2
  rw [List.map_take]
  have := enc_size (l := (r.l.map Rep.v).take n) (by omega) (fun x hx => okR_in h x (List.mem_of_mem_take hx))
  omega
theorem take_s {r : Rw ByteArray} {i : Int} (h0 : 0 ≤ i) (h1 : i < r.l.length) : lenS (r.l.take (i + 1).toNat) = lenS (r.l.take i.toNat) + (1 + (r.get i).size) := by
  obtain ⟨ha, ea⟩ := get_lt h0 h1
  rw [show (i + 1).toNat = i.toNat + 1 by omega, List.take_add_one, List.getElem?_eq_getElem ha, ← ea]
  exact lenS_app _ _
theorem lenL_v {r : Rw Rep} {i : Int} (h0 : 0 ≤ i) (h1 : i < r.l.length) : lenL ((r.l.take (i + 1).toNat).map Rep.v) = lenL ((r.l.take i.toNat).map Rep.v) + (1 + (r.get i).t.size + lenS (r.get i).l.l) := by
  rw [take_v h0 h1]; exact lenL_app _ _
theorem okR_ok {M : Nat} {r : Rw Rep} {i : Int} (h : okR M r) (h0 : 0 ≤ i) (h1 : i < r.l.length) : (r.get i).l.ok 1 := by
  obtain ⟨ha, ea⟩ := get_lt h0 h1
  rw [ea]; exact (h.2.1 _ (List.getElem_mem ha)).1
theorem okR_two {r : Rw Rep} {a b : Rep} (h : r.l = [a, b]) (h4 : r.ok 4) (ha : a.l.ok 1 ∧ in64 a.n) (hb : b.l.ok 1 ∧ in64 b.n) (hl : lenV a.v + lenV b.v ≤ 2000000) : okR 2000000 r := by
  refine ⟨h4, ?_, ?_⟩
  · rw [h]; intro x hx; simp only [List.mem_cons, List.not_mem_nil, or_false] at hx; rcases hx with rfl | rfl
    · exact ha
    · exact hb
  · rw [h]; simp only [lenL, List.map_cons, List.map_nil, List.sum_cons, List.sum_nil]; omega
theorem okR_one {r : Rw Rep} {a : Rep} (h : r.l = [a]) (h4 : r.ok 4) (ha : okP a) (hn : in64 a.n) : okR 100000 r := by
  refine ⟨h4, ?_, ?_⟩
  · rw [h]; intro x hx; simp only [List.mem_cons, List.not_mem_nil, or_false] at hx; subst hx; exact ⟨ha.1, hn⟩
  · rw [h]; have := ha.2; simp only [lenL, List.map_cons, List.map_nil, List.sum_cons, List.sum_nil]; omega
theorem lenL_two {r : Rw Rep} {a b : Rep} (h : r.l = [a, b]) : lenL (r.l.map Rep.v) = lenV a.v + lenV b.v := by
  rw [h]; simp [lenL]
theorem lenV_len (a : Rep) : a.l.l.length ≤ lenV a.v := by
  have := lenS_len a.l.l
  have e : lenV a.v = 1 + a.t.size + lenS a.l.l := rfl
  omega
theorem prt_5 : prt (-5) = (⟨#[45, 53]⟩ : ByteArray) := by
  unfold prt pr
  rw [if_pos (by omega), show (-(-5 : Int)).toNat = 5 from rfl, dg_lt (by omega)]; rfl
def rep5 : RV := ⟨3, em, -5, []⟩
def rep0 : RV := ⟨5, em, 0, []⟩
theorem known_enc : encV [rep5, rep0] = (⟨#[58, 45, 53, 13, 10, 36, 45, 49, 13, 10]⟩ : ByteArray) := by
  have e1 : oneV rep5 = (⟨#[58, 45, 53, 13, 10]⟩ : ByteArray) := by
    unfold oneV
    rw [plV_3 (x := rep5) rfl, one_3 rfl, show (RV.mk rep5.k em rep5.n []).n = -5 from rfl, prt_5]; rfl
  have e2 : oneV rep0 = (⟨#[36, 45, 49, 13, 10]⟩ : ByteArray) := by
    unfold oneV
    rw [plV_5 (x := rep0) (by decide) (by decide) (by decide) (by decide) (by decide)]; rfl
  unfold encV
  rw [List.map_cons, List.map_cons, List.map_nil, e1, e2]; rfl
theorem need_size {env : List Atom} {x : X} {b : ByteArray} (hx : x.den env = aS b) (h : (b.size : Int) ≤ 9223372036854775807) : (Nd.tru (.cmp .leq (.size x) (.int 9223372036854775807))).ok env := by
  show vb (X.den env (.cmp .leq (.size x) (.int 9223372036854775807))).1 = true
  simp only [X.den, hx, vi_int, vs_string, cmpD, vb_bool, decide_eq_true_eq]
  exact h
theorem den_cat {env : List Atom} {x y : X} {a b : ByteArray} (hx : x.den env = aS a) (hy : y.den env = aS b) : (X.cat x y).den env = aS (a ++ b) := by
  simp only [X.den, hx, hy, vs_string]
theorem den_str {env : List Atom} (l : List UInt8) : (X.str l).den env = aS ⟨l.toArray⟩ := rfl
end Go.Proofs.YtamjocnlhhhijaaK
