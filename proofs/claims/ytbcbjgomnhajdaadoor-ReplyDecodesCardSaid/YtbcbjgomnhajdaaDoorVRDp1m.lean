/- Replies: what they are as data, what they are printed as. Replies that are plain: their bytes tell them. Replies: what inputs read as. -/
import Derived.Test.YtbcbjgomnhajdaaDoorVC
import Derived.Test.YtbcbjgomnhajdaaDoorVR2p
import Derived.Test.YtbcbjgomnhajdaaDoorVRDA
import Derived.Test.YtbcbjgomnhajdaaDoorVD
set_option linter.unusedSimpArgs false
set_option linter.unusedVariables false
section
set_option linter.unusedSimpArgs false
set_option linter.unusedVariables false
namespace Go.Proofs.YtbcbjgomnhajdaaDoorK
open Go Go.Proofs.YtbcbjgomnhajdaaDoorV Go.Proofs.YtbcbjgomnhajdaaDoorK
/-! ### Replies as data -/
structure Rep where
  k : Int
  t : ByteArray
  n : Int
  l : Rw ByteArray
instance : Inhabited Rep := ⟨⟨0, ⟨#[]⟩, 0, Rw.nil⟩⟩
def eP (x : Rep) : List Atom := [aI x.k, aS x.t, aI x.n, Rw.atom eS x.l]
def unP (r : List Atom) : Rep := ⟨vi (r.getD 0 atom0).1, vs (r.getD 1 atom0).1, vi (r.getD 2 atom0).1, Rw.un unS (r.getD 3 atom0)⟩
theorem unP_e (x : Rep) : unP (eP x) = x := by
  cases x
  simp [unP, eP, List.getD_cons_zero, List.getD_cons_succ, aI, aS, unS_atom, vi, vs]
@[simp] theorem unP_at (r : Rw Rep) : Rw.un unP (r.atom eP) = r := Rw.un_atom unP_e r
theorem vi_cell_P0 (r : Rw Rep) (i : Int) : vi (cellD (r.atom eP) i 0).1 = (r.get i).k := by
  rw [cell_rw, Rw.get, List.getD_eq_getElem?_getD (l := r.l)]
  cases r.l[i.toNat]? <;> rfl
theorem vs_cell_P1 (r : Rw Rep) (i : Int) : vs (cellD (r.atom eP) i 1).1 = (r.get i).t := by
  rw [cell_rw, Rw.get, List.getD_eq_getElem?_getD (l := r.l)]
  cases r.l[i.toNat]? <;> rfl
theorem vi_cell_P2 (r : Rw Rep) (i : Int) : vi (cellD (r.atom eP) i 2).1 = (r.get i).n := by
  rw [cell_rw, Rw.get, List.getD_eq_getElem?_getD (l := r.l)]
  cases r.l[i.toNat]? <;> rfl
theorem cell_P3 (r : Rw Rep) {i : Int} (h0 : 0 ≤ i) (h : i < r.l.length) : cellD (r.atom eP) i 3 = Rw.atom eS (r.get i).l := by
  have hl : i.toNat < r.l.length := by omega
  rw [cell_rw, List.getElem?_eq_getElem hl, Rw.get, List.getD_eq_getElem?_getD (l := r.l), List.getElem?_eq_getElem hl]; rfl
theorem vs_cell_S (r : Rw ByteArray) (i : Int) : vs (cellD (r.atom eS) i 0).1 = r.get i := by
  rw [cell_rw, Rw.get, List.getD_eq_getElem?_getD (l := r.l)]
  cases r.l[i.toNat]? <;> rfl
theorem vi_cell_B (r : Rw Int) (i : Int) : vi (cellD (r.atom eB) i 0).1 = r.get i := by
  rw [cell_rw, Rw.get, List.getD_eq_getElem?_getD (l := r.l)]
  cases r.l[i.toNat]? <;> rfl
theorem kind_Rp0 {r : Rw Rep} {i : Int} (h0 : 0 ≤ i) (h : i < r.l.length) : ∃ n, (cellD (r.atom eP) i 0).1 = .int .i64 n := by
  have hl : i.toNat < r.l.length := by omega
  rw [cell_rw, List.getElem?_eq_getElem hl]; exact ⟨_, rfl⟩
theorem kind_Rp1 {r : Rw Rep} {i : Int} (h0 : 0 ≤ i) (h : i < r.l.length) : ∃ n, (cellD (r.atom eP) i 1).1 = .string n := by
  have hl : i.toNat < r.l.length := by omega
  rw [cell_rw, List.getElem?_eq_getElem hl]; exact ⟨_, rfl⟩
theorem kind_Rp2 {r : Rw Rep} {i : Int} (h0 : 0 ≤ i) (h : i < r.l.length) : ∃ n, (cellD (r.atom eP) i 2).1 = .int .i64 n := by
  have hl : i.toNat < r.l.length := by omega
  rw [cell_rw, List.getElem?_eq_getElem hl]; exact ⟨_, rfl⟩
theorem kind_Rp3 {r : Rw Rep} {i : Int} (h0 : 0 ≤ i) (h : i < r.l.length) : ∃ a n c, (cellD (r.atom eP) i 3).1 = .slice a n c := by
  rw [cell_P3 r h0 h]; exact ⟨_, _, _, rfl⟩
theorem kind_Rs {r : Rw ByteArray} {i : Int} (h0 : 0 ≤ i) (h : i < r.l.length) : ∃ n, (cellD (r.atom eS) i 0).1 = .string n := by
  have hl : i.toNat < r.l.length := by omega
  rw [cell_rw, List.getElem?_eq_getElem hl]; exact ⟨_, rfl⟩
theorem kind_Rb {r : Rw Int} {i : Int} (h0 : 0 ≤ i) (h : i < r.l.length) : ∃ n, (cellD (r.atom eB) i 0).1 = .int .u8 n := by
  have hl : i.toNat < r.l.length := by omega
  rw [cell_rw, List.getElem?_eq_getElem hl]; exact ⟨_, rfl⟩
/-! ### Bytes -/
@[reducible] def byteAt (s : ByteArray) (i : Int) : Int := ((s[i.toNat]?.map (·.toNat)).getD 0 : Nat)
def ofBytes (l : List Int) : ByteArray := byD (.rows 1 (l.map eB))
theorem byD_rw (r : Rw Int) : byD (Rw.atom eB r).2 = ofBytes r.l := rfl
theorem seq_b (a b : ByteArray) : (a.toList == b.toList) = decide (a = b) := by
  rw [Bool.eq_iff_iff, ← beq_toListBytes, decide_eq_true_iff]
  cases a; cases b
  show (ByteArray.beq _ _ = true) ↔ _
  simp [ByteArray.beq]
/-- A text's bytes, as numbers. -/
def bi (s : ByteArray) : List Int := (ls s).map fun c => (c.toNat : Int)
theorem bi_app (a b : ByteArray) : bi (a ++ b) = bi a ++ bi b := by simp [bi, ls_app]
theorem ofBytes_bi (s : ByteArray) : ofBytes (bi s) = s := by
  unfold ofBytes byD bi
  simp only [D.els, List.map_map]
  apply ByteArray.ext
  apply Array.ext'
  simp only [ls]
  conv => rhs; rw [← List.map_id s.data.toList]
  refine List.map_congr_left fun b _ => ?_
  simp [eB, aK, vi]
theorem bi_ofB (s : ByteArray) : (bi s).map eB = ofB s := by simp [bi, ofB, ls, eB, aK]
theorem bi_len (s : ByteArray) : (bi s).length = s.size := by simp [bi, size_ls]
theorem bi_inj {a b : ByteArray} (h : bi a = bi b) : a = b := by rw [← ofBytes_bi a, ← ofBytes_bi b, h]
def isB (l : List Int) : Prop := ∀ x ∈ l, 0 ≤ x ∧ x < 256
theorem isB_bi (s : ByteArray) : isB (bi s) := by
  intro x hx
  obtain ⟨c, _, rfl⟩ := List.mem_map.1 hx
  have := c.toNat_lt
  exact ⟨by omega, by omega⟩
theorem bi_ofBytes {l : List Int} (h : isB l) : bi (ofBytes l) = l := by
  unfold bi ofBytes byD
  simp only [D.els, List.map_map, ls]
  conv => rhs; rw [← List.map_id l]
  refine List.map_congr_left fun x hx => ?_
  have := h x hx
  simp only [Function.comp, eB, aK, List.getD_cons_zero, vi, UInt8.toNat_ofNat', id]
  omega
theorem need_bytes {r : Rw Int} (h : r.ok 1) (hb : isB r.l) : ∃ (z : Nat) (s : ByteArray), (r.atom eB).2 = .rows z (ofB s) ∧ (ofB s = [] ∨ z = 1) := by
  refine ⟨r.z, ofBytes r.l, ?_, ?_⟩
  · rw [← bi_ofB, bi_ofBytes hb]; rfl
  · rcases h with h | h
    · left; rw [← bi_ofB, bi_ofBytes hb, h]; rfl
    · right; exact h
theorem apps_wp {cs : Nat → Sig × Con} {Post : List Atom → Prop} {env : List Atom} {L : List (List Atom → Prop)} {s x : X} {t : T} (S0 : Rw Int) (y : ByteArray) (hs : s.den env = S0.atom eB) (hx : vs (x.den env).1 = y)
    (h : ∀ a c, t.wp cs Post (env ++ [Rw.atom eB ⟨a, c, 1, S0.l ++ bi y⟩]) L) : (T.apps s x t).wp cs Post env L := by
  intro a c
  have := h a c
  rw [hs, hx]
  simp only [Rw.atom, D.els, List.map_append, bi_ofB, List.length_append, bi_len, List.length_map] at this ⊢
  exact this
theorem byteAt_is {s : ByteArray} {i : Int} (h0 : 0 ≤ i) (hi : i < s.size) : (bi s)[i.toNat]? = some (byteAt s i) := by
  have h1 : i.toNat < s.size := by omega
  have h2 : i.toNat < (ls s).length := by rw [← size_ls]; exact h1
  have e : s[i.toNat]? = some (s[i.toNat]'h1) := getElem?_pos s i.toNat h1
  unfold byteAt bi
  rw [List.getElem?_map, List.getElem?_eq_getElem h2, e]; rfl
theorem byteAt_rng (s : ByteArray) (i : Int) : 0 ≤ byteAt s i ∧ byteAt s i < 256 := by
  unfold byteAt
  cases s[i.toNat]? with
  | none => simp
  | some c => have := c.toNat_lt; simp; omega
theorem ofBytes_one (x : Int) : ofBytes [x] = ba [UInt8.ofNat x.toNat] := rfl
theorem quo_neg {n : Int} (h : n ≤ 0) (h2 : -9223372036854775808 ≤ n) : quoD .i64 n 10 = -(-n / 10) := by
  have e : n.tdiv 10 = -(-n / 10) := by rw [← Int.tdiv_eq_ediv_of_nonneg (show 0 ≤ -n by omega), Int.neg_tdiv, Int.neg_neg]
  unfold quoD; rw [e]; exact wrap_id _ (by omega) (by omega)
theorem rem_neg {n : Int} (h : n ≤ 0) : remD n 10 = -(-n % 10) := by
  unfold remD; rw [← Int.tmod_eq_emod_of_nonneg (show 0 ≤ -n by omega), Int.neg_tmod, Int.neg_neg]
/-! ### What is plain -/
def li (x : Int) : Int := if x = 13 ∨ x = 10 then 32 else x
def lineB (s : ByteArray) : ByteArray := ofBytes ((bi s).map li)
theorem isB_line {l : List Int} (h : isB l) : isB (l.map li) := by
  intro x hx
  obtain ⟨c, hc, rfl⟩ := List.mem_map.1 hx
  have := h c hc
  unfold li; split <;> omega
theorem bi_lineB (s : ByteArray) : bi (lineB s) = (bi s).map li := bi_ofBytes (isB_line (isB_bi s))
theorem li_li (x : Int) : li (li x) = li x := by unfold li; split <;> simp_all
theorem lineB_lineB (s : ByteArray) : lineB (lineB s) = lineB s := by
  unfold lineB
  rw [bi_ofBytes (isB_line (isB_bi s)), List.map_map]
  congr 1
  exact List.map_congr_left fun x _ => li_li x
theorem lineB_size (s : ByteArray) : (lineB s).size = s.size := by rw [← bi_len, bi_lineB, List.length_map, bi_len]
theorem lineB_clean {s : ByteArray} (h : Go.Proofs.Clean s s.size) : lineB s = s := by
  apply bi_inj
  rw [bi_lineB]
  conv => rhs; rw [← List.map_id (bi s)]
  refine List.map_congr_left fun x hx => ?_
  obtain ⟨c, hc, rfl⟩ := List.mem_map.1 hx
  obtain ⟨j, hj, he⟩ := List.getElem_of_mem hc
  have hj2 : j < s.size := by rw [size_ls]; exact hj
  have := h j c hj2 (by rw [← he]; exact List.getElem?_eq_getElem hj)
  unfold li
  rw [if_neg]
  · rfl
  · rintro (e | e)
    · exact this.1 (UInt8.toNat_inj.1 (by have : c.toNat = 13 := by omega
                                          rw [this]; rfl))
    · exact this.2 (UInt8.toNat_inj.1 (by have : c.toNat = 10 := by omega
                                          rw [this]; rfl))
structure RV where
  k : Int
  t : ByteArray
  n : Int
  l : List ByteArray
deriving DecidableEq
def Rep.v (x : Rep) : RV := ⟨x.k, x.t, x.n, x.l.l⟩
def em : ByteArray := ⟨#[]⟩
def plV (x : RV) : RV := if x.k = 1 ∨ x.k = 2 then ⟨x.k, lineB x.t, 0, []⟩ else if x.k = 3 then ⟨x.k, em, x.n, []⟩ else if x.k = 4 then ⟨x.k, x.t, 0, []⟩ else if x.k = 6 then ⟨x.k, em, 0, x.l⟩ else ⟨5, em, 0, []⟩
theorem plV_1 {x : RV} (h : x.k = 1 ∨ x.k = 2) : plV x = ⟨x.k, lineB x.t, 0, []⟩ := by unfold plV; rw [if_pos h]
theorem plV_3 {x : RV} (h : x.k = 3) : plV x = ⟨x.k, em, x.n, []⟩ := by unfold plV; rw [if_neg (by omega), if_pos h]
theorem plV_4 {x : RV} (h : x.k = 4) : plV x = ⟨x.k, x.t, 0, []⟩ := by unfold plV; rw [if_neg (by omega), if_neg (by omega), if_pos h]
theorem plV_6 {x : RV} (h : x.k = 6) : plV x = ⟨x.k, em, 0, x.l⟩ := by unfold plV; rw [if_neg (by omega), if_neg (by omega), if_neg (by omega), if_pos h]
theorem plV_5 {x : RV} (h1 : ¬x.k = 1) (h2 : ¬x.k = 2) (h3 : ¬x.k = 3) (h4 : ¬x.k = 4) (h6 : ¬x.k = 6) : plV x = ⟨5, em, 0, []⟩ := by unfold plV; rw [if_neg (by omega), if_neg h3, if_neg h4, if_neg h6]
theorem plV_plV (x : RV) : plV (plV x) = plV x := by
  by_cases h1 : x.k = 1 ∨ x.k = 2
  · rw [plV_1 h1, plV_1 (x := ⟨x.k, lineB x.t, 0, []⟩) h1]; simp only [lineB_lineB]
  by_cases h3 : x.k = 3
  · rw [plV_3 h3, plV_3 (x := ⟨x.k, em, x.n, []⟩) h3]
  by_cases h4 : x.k = 4
  · rw [plV_4 h4, plV_4 (x := ⟨x.k, x.t, 0, []⟩) h4]
  by_cases h6 : x.k = 6
  · rw [plV_6 h6, plV_6 (x := ⟨x.k, em, 0, x.l⟩) h6]
  · rw [plV_5 (fun h => h1 (.inl h)) (fun h => h1 (.inr h)) h3 h4 h6]
    rw [plV_5] <;> simp
theorem take_li {s : ByteArray} {i : Int} {b : Int} (h0 : 0 ≤ i) (h : (bi s)[i.toNat]? = some b) : ((bi s).map li).take (i + 1).toNat = ((bi s).map li).take i.toNat ++ [li b] := by
  rw [show (i + 1).toNat = i.toNat + 1 by omega, List.take_add_one, List.getElem?_map, h]; rfl
theorem take_len {s : ByteArray} {i : Int} (h0 : 0 ≤ i) (h : i ≤ s.size) : ((((bi s).map li).take i.toNat).length : Int) = i := by
  rw [List.length_take, List.length_map, bi_len]; omega
theorem isB_take {l : List Int} (h : isB l) (n : Nat) : isB (l.take n) := fun x hx => h x (List.mem_of_mem_take hx)
theorem isB_drop {l : List Int} (h : isB l) (n : Nat) : isB (l.drop n) := fun x hx => h x (List.mem_of_mem_drop hx)
theorem isB_app {a b : List Int} (h : isB a) (k : isB b) : isB (a ++ b) := fun x hx => (List.mem_append.1 hx).elim (h x) (k x)
theorem take_all (s : ByteArray) : ((bi s).map li).take s.size = (bi s).map li := List.take_of_length_le (by rw [List.length_map, bi_len]; exact Nat.le_refl _)
theorem li_end {x : Int} (h : x = 13 ∨ x = 10) : li x = 32 := by unfold li; rw [if_pos h]
theorem li_not {x : Int} (h1 : ¬x = 13) (h2 : ¬x = 10) : li x = x := by unfold li; rw [if_neg (by omega)]
/-! ### What is printed -/
def e2 : ByteArray := ⟨#[13, 10]⟩
def bulkB (s : ByteArray) : ByteArray := (⟨#[36]⟩ : ByteArray) ++ prt s.size ++ e2 ++ s ++ e2
def catB (l : List ByteArray) : ByteArray := l.foldl (· ++ ·) em
theorem foldl_app (l : List ByteArray) (a : ByteArray) : l.foldl (· ++ ·) a = a ++ catB l := by
  induction l generalizing a with
  | nil => exact (app_nil a).symm
  | cons x l ih =>
    have e : catB (x :: l) = l.foldl (· ++ ·) (em ++ x) := rfl
    rw [List.foldl_cons, ih, e, ih, ← app_assoc]
    have : em ++ x = x := by apply ByteArray.ext; simp [em]
    rw [this, app_assoc]
theorem catB_nil : catB [] = em := rfl
theorem catB_cons (x : ByteArray) (l : List ByteArray) : catB (x :: l) = x ++ catB l := by
  have e : catB (x :: l) = l.foldl (· ++ ·) (em ++ x) := rfl
  rw [e, foldl_app]
  have : em ++ x = x := by apply ByteArray.ext; simp [em]
  rw [this]
theorem catB_app (l : List ByteArray) (x : ByteArray) : catB (l ++ [x]) = catB l ++ x := by
  unfold catB; rw [List.foldl_append]; rfl
def oneP (y : RV) : ByteArray := if y.k = 1 then (⟨#[43]⟩ : ByteArray) ++ y.t ++ e2 else if y.k = 2 then (⟨#[45]⟩ : ByteArray) ++ y.t ++ e2 else if y.k = 3 then (⟨#[58]⟩ : ByteArray) ++ prt y.n ++ e2 else if y.k = 4 then bulkB y.t
  else if y.k = 6 then (⟨#[42]⟩ : ByteArray) ++ prt y.l.length ++ e2 ++ catB (y.l.map bulkB) else (⟨#[36, 45, 49, 13, 10]⟩ : ByteArray)
def oneV (x : RV) : ByteArray := oneP (plV x)
def encV (l : List RV) : ByteArray := catB (l.map oneV)
theorem encV_app (l : List RV) (x : RV) : encV (l ++ [x]) = encV l ++ oneV x := by unfold encV; rw [List.map_append]; exact catB_app _ _
/-! ### How long -/
def lenS (l : List ByteArray) : Nat := (l.map fun s => 1 + s.size).sum
def lenV (x : RV) : Nat := 1 + x.t.size + lenS x.l
def lenL (l : List RV) : Nat := (l.map lenV).sum
theorem lenS_app (l : List ByteArray) (x : ByteArray) : lenS (l ++ [x]) = lenS l + (1 + x.size) := by simp [lenS]
theorem lenL_app (l : List RV) (x : RV) : lenL (l ++ [x]) = lenL l + lenV x := by simp [lenL]
theorem size_app (a b : ByteArray) : ((a ++ b).size : Int) = (a.size : Int) + b.size := by
  rw [size_ls, size_ls a, size_ls b, ls_app, List.length_append]; omega
theorem prt_size {n : Int} (h : in64 n) : 1 ≤ ((prt n).size : Int) ∧ ((prt n).size : Int) ≤ 20 := by
  have := pr_len h
  rw [size_ls]; show 1 ≤ ((pr n).length : Int) ∧ ((pr n).length : Int) ≤ 20; omega
theorem bulk_size {s : ByteArray} (h : s.size ≤ 1000000) : ((bulkB s).size : Int) ≤ s.size + 25 := by
  have := prt_size (n := (s.size : Int)) (by unfold in64; omega)
  have e1 : ((⟨#[36]⟩ : ByteArray).size : Int) = 1 := rfl
  have e3 : (e2.size : Int) = 2 := rfl
  unfold bulkB
  rw [size_app, size_app, size_app, size_app]; omega
theorem lenS_len (l : List ByteArray) : l.length ≤ lenS l := by
  induction l with
  | nil => exact Nat.le_refl _
  | cons x l ih => simp only [lenS, List.map_cons, List.sum_cons, List.length_cons] at ih ⊢; omega
theorem lenS_mem {l : List ByteArray} {s : ByteArray} (h : s ∈ l) : 1 + s.size ≤ lenS l := by
  induction l with
  | nil => cases h
  | cons x l ih =>
    simp only [lenS, List.map_cons, List.sum_cons] at ih ⊢
    rcases List.mem_cons.1 h with rfl | h
    · omega
    · have := ih h; omega
theorem lenL_mem {l : List RV} {x : RV} (h : x ∈ l) : lenV x ≤ lenL l := by
  induction l with
  | nil => cases h
  | cons y l ih =>
    simp only [lenL, List.map_cons, List.sum_cons] at ih ⊢
    rcases List.mem_cons.1 h with rfl | h
    · omega
    · have := ih h; omega
theorem lenL_len (l : List RV) : l.length ≤ lenL l := by
  induction l with
  | nil => exact Nat.le_refl _
  | cons x l ih => simp only [lenL, lenV, List.map_cons, List.sum_cons, List.length_cons] at ih ⊢; omega
theorem cat_size {l : List ByteArray} (h : lenS l ≤ 1000000) : ((catB (l.map bulkB)).size : Int) ≤ 26 * lenS l := by
  induction l with
  | nil => exact Int.le_of_lt_add_one (by decide)
  | cons x l ih =>
    have e : lenS (x :: l) = 1 + x.size + lenS l := by simp [lenS]
    have hb := bulk_size (s := x) (by omega)
    have := ih (by omega)
    rw [List.map_cons, catB_cons, size_app]; omega
theorem one_size {x : RV} (h : lenV x ≤ 100000) (hn : in64 x.n) : ((oneV x).size : Int) ≤ 60 * lenV x := by
  have e3 : (e2.size : Int) = 2 := rfl
  have hl := lineB_size x.t
  have h1 : 1 + x.t.size + lenS x.l = lenV x := rfl
  unfold oneV
  by_cases c1 : x.k = 1
  · rw [plV_1 (.inl c1)]; unfold oneP; rw [if_pos c1, size_app, size_app]
    have e1 : ((⟨#[43]⟩ : ByteArray).size : Int) = 1 := rfl
    simp only; omega
  by_cases c2 : x.k = 2
  · rw [plV_1 (.inr c2)]; unfold oneP; rw [if_neg c1, if_pos c2, size_app, size_app]
    have e1 : ((⟨#[45]⟩ : ByteArray).size : Int) = 1 := rfl
    simp only; omega
  by_cases c3 : x.k = 3
  · rw [plV_3 c3]; unfold oneP; rw [if_neg c1, if_neg c2, if_pos c3, size_app, size_app]
    have e1 : ((⟨#[58]⟩ : ByteArray).size : Int) = 1 := rfl
    have := prt_size hn
    simp only; omega
  by_cases c4 : x.k = 4
  · rw [plV_4 c4]; unfold oneP; rw [if_neg c1, if_neg c2, if_neg c3, if_pos c4]
    have := bulk_size (s := x.t) (by omega)
    simp only; omega
  by_cases c6 : x.k = 6
  · rw [plV_6 c6]; unfold oneP; rw [if_neg c1, if_neg c2, if_neg c3, if_neg c4, if_pos c6, size_app, size_app, size_app]
    have e1 : ((⟨#[42]⟩ : ByteArray).size : Int) = 1 := rfl
    have := cat_size (l := x.l) (by omega)
    have h2 := lenS_len x.l
    have := prt_size (n := (x.l.length : Int)) (by unfold in64; omega)
    simp only; omega
  · rw [plV_5 c1 c2 c3 c4 c6]; unfold oneP
    simp only [show ¬(5 : Int) = 1 by decide, show ¬(5 : Int) = 2 by decide, show ¬(5 : Int) = 3 by decide, show ¬(5 : Int) = 4 by decide, show ¬(5 : Int) = 6 by decide, if_false]
    have e1 : ((⟨#[36, 45, 49, 13, 10]⟩ : ByteArray).size : Int) = 5 := rfl
    omega
theorem enc_size {l : List RV} (h : lenL l ≤ 100000) (hn : ∀ x ∈ l, in64 x.n) : ((encV l).size : Int) ≤ 60 * lenL l := by
  induction l with
  | nil => exact Int.le_of_lt_add_one (by decide)
  | cons x l ih =>
    have e : lenL (x :: l) = lenV x + lenL l := by simp [lenL]
    have := one_size (x := x) (by omega) (hn x (by simp))
    have := ih (by omega) (fun y hy => hn y (by simp [hy]))
    unfold encV at this ⊢
    rw [List.map_cons, catB_cons, size_app]; omega
/-- A reply that is not too long. -/
def okP (x : Rep) : Prop := x.l.ok 1 ∧ lenV x.v ≤ 100000
theorem okP_t {x : Rep} (h : okP x) : x.t.size ≤ 100000 := by have := h.2; unfold lenV at this; have e : x.v.t = x.t := rfl; rw [e] at this; omega
theorem okP_l {x : Rep} (h : okP x) : x.l.l.length ≤ 100000 := by have := h.2; unfold lenV at this; have e : x.v.l = x.l.l := rfl; rw [e] at this; have := lenS_len x.l.l; omega
theorem set_li {s : ByteArray} {i b : Int} (h0 : 0 ≤ i) (h : (bi s)[i.toNat]? = some b) : (((bi s).map li).take i.toNat ++ (bi s).drop i.toNat).set i.toNat (li b) = ((bi s).map li).take (i + 1).toNat ++ (bi s).drop (i + 1).toNat := by
  rw [take_li h0 h]
  have hlt := (List.getElem?_eq_some_iff.1 h).1
  have hl : (((bi s).map li).take i.toNat).length = i.toNat := by rw [List.length_take, List.length_map]; omega
  rw [List.set_append_right _ _ (by omega), hl, Nat.sub_self, List.drop_eq_getElem_cons hlt, List.set_cons_zero, List.append_assoc, show (i + 1).toNat = i.toNat + 1 by omega]; rfl
theorem get_li {s : ByteArray} {r : Rw Int} {i : Int} (h0 : 0 ≤ i) (hi : i < s.size) (hr : r.l = ((bi s).map li).take i.toNat ++ (bi s).drop i.toNat) : (bi s)[i.toNat]? = some (r.get i) ∧ 0 ≤ r.get i ∧ r.get i < 256 := by
  have hlt : i.toNat < (bi s).length := by rw [bi_len]; omega
  have hl : (((bi s).map li).take i.toNat).length = i.toNat := by rw [List.length_take, List.length_map]; omega
  have e : r.get i = (bi s)[i.toNat] := by
    unfold Rw.get
    rw [hr, List.getD_eq_getElem?_getD, List.getElem?_append_right (by omega), hl, Nat.sub_self, List.getElem?_drop, Nat.add_zero, List.getElem?_eq_getElem hlt]; rfl
  rw [e]
  exact ⟨List.getElem?_eq_getElem hlt, isB_bi s _ (List.getElem_mem hlt)⟩
theorem len_li {s : ByteArray} {i : Int} (h0 : 0 ≤ i) (h : i ≤ s.size) : (((((bi s).map li).take i.toNat ++ (bi s).drop i.toNat)).length : Int) = s.size := by
  rw [List.length_append, List.length_take, List.length_map, List.length_drop, bi_len]; omega
theorem end_li (s : ByteArray) : ((bi s).map li).take s.size ++ (bi s).drop s.size = (bi s).map li := by
  rw [take_all, List.drop_of_length_le (by rw [bi_len]; exact Nat.le_refl _), List.append_nil]
theorem take_eq {a b : Rw ByteArray} {i : Int} (h0 : 0 ≤ i) (h1 : i < a.l.length) (h2 : i < b.l.length) (hE : a.l.take i.toNat = b.l.take i.toNat) (hg : a.get i = b.get i) : a.l.take (i + 1).toNat = b.l.take (i + 1).toNat := by
  obtain ⟨ha, ea⟩ := get_lt h0 h1
  obtain ⟨hb, eb⟩ := get_lt h0 h2
  rw [show (i + 1).toNat = i.toNat + 1 by omega, List.take_add_one, List.take_add_one, hE, List.getElem?_eq_getElem ha, List.getElem?_eq_getElem hb, ← ea, ← eb, hg]
theorem same_v {x y : Rep} {i : Int} (hk : x.k = y.k) (ht : x.t = y.t) (hn : x.n = y.n) (hl : (x.l.l.length : Int) = y.l.l.length) (hE : x.l.l.take i.toNat = y.l.l.take i.toNat) (hi : (x.l.l.length : Int) ≤ i) : x.v = y.v := by
  rw [List.take_of_length_le (by omega), List.take_of_length_le (by omega)] at hE
  unfold Rep.v
  rw [hk, ht, hn, hE]
theorem lenV_pl (v : RV) : lenV (plV v) ≤ lenV v := by
  have h0 : lenS [] = 0 := rfl
  have e0 : em.size = 0 := rfl
  have hl := lineB_size v.t
  by_cases h1 : v.k = 1 ∨ v.k = 2
  · rw [plV_1 h1]; unfold lenV; simp only; omega
  by_cases h3 : v.k = 3
  · rw [plV_3 h3]; unfold lenV; simp only; omega
  by_cases h4 : v.k = 4
  · rw [plV_4 h4]; unfold lenV; simp only; omega
  by_cases h6 : v.k = 6
  · rw [plV_6 h6]; unfold lenV; simp only; omega
  · rw [plV_5 (fun h => h1 (.inl h)) (fun h => h1 (.inr h)) h3 h4 h6]; unfold lenV; simp only; omega
theorem n_pl {v : RV} (h : in64 v.n) : in64 (plV v).n := by
  have h0 : in64 0 := by unfold in64; omega
  by_cases h1 : v.k = 1 ∨ v.k = 2
  · rw [plV_1 h1]; exact h0
  by_cases h3 : v.k = 3
  · rw [plV_3 h3]; exact h
  by_cases h4 : v.k = 4
  · rw [plV_4 h4]; exact h0
  by_cases h6 : v.k = 6
  · rw [plV_6 h6]; exact h0
  · rw [plV_5 (fun h => h1 (.inl h)) (fun h => h1 (.inr h)) h3 h4 h6]; exact h0
theorem okP_pl {x y : Rep} (e : y.v = plV x.v) (k : y.l.ok 1) (h : okP x) : okP y := ⟨k, by rw [e]; exact Nat.le_trans (lenV_pl _) h.2⟩
theorem pl_len {x y : Rep} (e : y.v = plV x.v) (h : okP x) : y.l.l.length ≤ 140737488355328 := by
  have h1 := lenV_pl x.v
  rw [← e] at h1
  have h2 := h.2
  have h3 := lenS_len y.l.l
  have h4 : 1 + y.t.size + lenS y.l.l = lenV y.v := rfl
  omega
theorem one_1 {y : RV} (h : y.k = 1) : oneP y = (⟨#[43]⟩ : ByteArray) ++ y.t ++ e2 := by unfold oneP; rw [if_pos h]
theorem one_2 {y : RV} (h : y.k = 2) : oneP y = (⟨#[45]⟩ : ByteArray) ++ y.t ++ e2 := by unfold oneP; rw [if_neg (by omega), if_pos h]
theorem one_3 {y : RV} (h : y.k = 3) : oneP y = (⟨#[58]⟩ : ByteArray) ++ prt y.n ++ e2 := by unfold oneP; rw [if_neg (by omega), if_neg (by omega), if_pos h]
theorem one_4 {y : RV} (h : y.k = 4) : oneP y = bulkB y.t := by unfold oneP; rw [if_neg (by omega), if_neg (by omega), if_neg (by omega), if_pos h]
theorem one_6 {y : RV} (h : y.k = 6) : oneP y = (⟨#[42]⟩ : ByteArray) ++ prt y.l.length ++ e2 ++ catB (y.l.map bulkB) := by unfold oneP; rw [if_neg (by omega), if_neg (by omega), if_neg (by omega), if_neg (by omega), if_pos h]
theorem one_5 {y : RV} (h1 : ¬y.k = 1) (h2 : ¬y.k = 2) (h3 : ¬y.k = 3) (h4 : ¬y.k = 4) (h6 : ¬y.k = 6) : oneP y = (⟨#[36, 45, 49, 13, 10]⟩ : ByteArray) := by unfold oneP; rw [if_neg h1, if_neg h2, if_neg h3, if_neg h4, if_neg h6]
theorem lenS_take (l : List ByteArray) (n : Nat) : lenS (l.take n) ≤ lenS l := by
  induction l generalizing n with
  | nil => simp
  | cons x l ih =>
    cases n with
    | zero => simp [lenS]
    | succ n =>
      have := ih n
      simp only [lenS, List.take_succ_cons, List.map_cons, List.sum_cons] at this ⊢; omega
theorem cat_take {r : Rw ByteArray} {i : Int} (h0 : 0 ≤ i) (h1 : i < r.l.length) : catB ((r.l.take (i + 1).toNat).map bulkB) = catB ((r.l.take i.toNat).map bulkB) ++ bulkB (r.get i) := by
  obtain ⟨ha, ea⟩ := get_lt h0 h1
  rw [show (i + 1).toNat = i.toNat + 1 by omega, List.take_add_one, List.getElem?_eq_getElem ha, ← ea, List.map_append]
  exact catB_app _ _
theorem get_size {r : Rw ByteArray} {i : Int} (h0 : 0 ≤ i) (h1 : i < r.l.length) : 1 + (r.get i).size ≤ lenS r.l := by
  obtain ⟨ha, ea⟩ := get_lt h0 h1
  rw [ea]; exact lenS_mem (List.getElem_mem ha)
theorem cat_take_size (l : List ByteArray) (n : Nat) (h : lenS l ≤ 1000000) : ((catB ((l.take n).map bulkB)).size : Int) ≤ 26 * lenS l := by
  have h1 := lenS_take l n
  have := cat_size (l := l.take n) (by omega)
  omega
theorem okP_s {x : Rep} (h : okP x) : lenS x.l.l ≤ 100000 := by have := h.2; unfold lenV at this; have e : x.v.l = x.l.l := rfl; rw [e] at this; omega
/-- A row of replies. -/
def okR (M : Nat) (r : Rw Rep) : Prop := r.ok 4 ∧ (∀ x ∈ r.l, x.l.ok 1 ∧ in64 x.n) ∧ lenL (r.l.map Rep.v) ≤ M
theorem okR_get {M : Nat} {r : Rw Rep} {i : Int} (h : okR M r) (hM : M ≤ 100000) (h0 : 0 ≤ i) (h1 : i < r.l.length) : okP (r.get i) ∧ in64 (r.get i).n := by
  obtain ⟨ha, ea⟩ := get_lt h0 h1
  have hm : r.get i ∈ r.l := by rw [ea]; exact List.getElem_mem ha
  have := lenL_mem (List.mem_map_of_mem (f := Rep.v) hm)
  exact ⟨⟨(h.2.1 _ hm).1, by have := h.2.2; omega⟩, (h.2.1 _ hm).2⟩
theorem okR_in {M : Nat} {r : Rw Rep} (h : okR M r) : ∀ v ∈ r.l.map Rep.v, in64 v.n := by
  intro v hv
  obtain ⟨x, hx, rfl⟩ := List.mem_map.1 hv
  exact (h.2.1 x hx).2
theorem lenL_take (l : List RV) (n : Nat) : lenL (l.take n) ≤ lenL l := by
  induction l generalizing n with
  | nil => simp
  | cons x l ih =>
    cases n with
    | zero => simp [lenL]
    | succ n =>
      have := ih n
      simp only [lenL, List.take_succ_cons, List.map_cons, List.sum_cons] at this ⊢; omega
theorem take_v {r : Rw Rep} {i : Int} (h0 : 0 ≤ i) (h1 : i < r.l.length) : (r.l.take (i + 1).toNat).map Rep.v = (r.l.take i.toNat).map Rep.v ++ [(r.get i).v] := by
  obtain ⟨ha, ea⟩ := get_lt h0 h1
  rw [show (i + 1).toNat = i.toNat + 1 by omega, List.take_add_one, List.getElem?_eq_getElem ha, ← ea, List.map_append]; rfl
theorem enc_take_size {M : Nat} {r : Rw Rep} (h : okR M r) (hM : M ≤ 100000) (n : Nat) : ((encV ((r.l.take n).map Rep.v)).size : Int) ≤ 6000000 := by
  have h1 := lenL_take (r.l.map Rep.v) n
  have h2 := h.2.2
  rw [List.map_take]
  have := enc_size (l := (r.l.map Rep.v).take n) (by omega) (fun x hx => okR_in h x (List.mem_of_mem_take hx))
  omega
theorem take_s {r : Rw ByteArray} {i : Int} (h0 : 0 ≤ i) (h1 : i < r.l.length) : lenS (r.l.take (i + 1).toNat) = lenS (r.l.take i.toNat) + (1 + (r.get i).size) := by
  obtain ⟨ha, ea⟩ := get_lt h0 h1
  rw [show (i + 1).toNat = i.toNat + 1 by omega, List.take_add_one, List.getElem?_eq_getElem ha, ← ea]
  exact lenS_app _ _
theorem lenL_v {r : Rw Rep} {i : Int} (h0 : 0 ≤ i) (h1 : i < r.l.length) : lenL ((r.l.take (i + 1).toNat).map Rep.v) = lenL ((r.l.take i.toNat).map Rep.v) + (1 + (r.get i).t.size + lenS (r.get i).l.l) := by
  rw [take_v h0 h1]; exact lenL_app _ _
theorem okR_ok {M : Nat} {r : Rw Rep} {i : Int} (h : okR M r) (h0 : 0 ≤ i) (h1 : i < r.l.length) : (r.get i).l.ok 1 := by
  obtain ⟨ha, ea⟩ := get_lt h0 h1
  rw [ea]; exact (h.2.1 _ (List.getElem_mem ha)).1
theorem okR_two {r : Rw Rep} {a b : Rep} (h : r.l = [a, b]) (h4 : r.ok 4) (ha : a.l.ok 1 ∧ in64 a.n) (hb : b.l.ok 1 ∧ in64 b.n) (hl : lenV a.v + lenV b.v ≤ 2000000) : okR 2000000 r := by
  refine ⟨h4, ?_, ?_⟩
  · rw [h]; intro x hx; simp only [List.mem_cons, List.not_mem_nil, or_false] at hx; rcases hx with rfl | rfl
    · exact ha
    · exact hb
  · rw [h]; simp only [lenL, List.map_cons, List.map_nil, List.sum_cons, List.sum_nil]; omega
theorem okR_one {r : Rw Rep} {a : Rep} (h : r.l = [a]) (h4 : r.ok 4) (ha : okP a) (hn : in64 a.n) : okR 100000 r := by
  refine ⟨h4, ?_, ?_⟩
  · rw [h]; intro x hx; simp only [List.mem_cons, List.not_mem_nil, or_false] at hx; subst hx; exact ⟨ha.1, hn⟩
  · rw [h]; have := ha.2; simp only [lenL, List.map_cons, List.map_nil, List.sum_cons, List.sum_nil]; omega
theorem lenL_two {r : Rw Rep} {a b : Rep} (h : r.l = [a, b]) : lenL (r.l.map Rep.v) = lenV a.v + lenV b.v := by
  rw [h]; simp [lenL]
theorem lenV_len (a : Rep) : a.l.l.length ≤ lenV a.v := by
  have := lenS_len a.l.l
  have e : lenV a.v = 1 + a.t.size + lenS a.l.l := rfl
  omega
theorem prt_5 : prt (-5) = (⟨#[45, 53]⟩ : ByteArray) := by
  unfold prt pr
  rw [if_pos (by omega), show (-(-5 : Int)).toNat = 5 from rfl, dg_lt (by omega)]; rfl
def rep5 : RV := ⟨3, em, -5, []⟩
def rep0 : RV := ⟨5, em, 0, []⟩
theorem known_enc : encV [rep5, rep0] = (⟨#[58, 45, 53, 13, 10, 36, 45, 49, 13, 10]⟩ : ByteArray) := by
  have e1 : oneV rep5 = (⟨#[58, 45, 53, 13, 10]⟩ : ByteArray) := by
    unfold oneV
    rw [plV_3 (x := rep5) rfl, one_3 rfl, show (RV.mk rep5.k em rep5.n []).n = -5 from rfl, prt_5]; rfl
  have e2 : oneV rep0 = (⟨#[36, 45, 49, 13, 10]⟩ : ByteArray) := by
    unfold oneV
    rw [plV_5 (x := rep0) (by decide) (by decide) (by decide) (by decide) (by decide)]; rfl
  unfold encV
  rw [List.map_cons, List.map_cons, List.map_nil, e1, e2]; rfl
theorem need_size {env : List Atom} {x : X} {b : ByteArray} (hx : x.den env = aS b) (h : (b.size : Int) ≤ 9223372036854775807) : (Nd.tru (.cmp .leq (.size x) (.int 9223372036854775807))).ok env := by
  show vb (X.den env (.cmp .leq (.size x) (.int 9223372036854775807))).1 = true
  simp only [X.den, hx, vi_int, vs_string, cmpD, vb_bool, decide_eq_true_eq]
  exact h
theorem den_cat {env : List Atom} {x y : X} {a b : ByteArray} (hx : x.den env = aS a) (hy : y.den env = aS b) : (X.cat x y).den env = aS (a ++ b) := by
  simp only [X.den, hx, hy, vs_string]
theorem den_str {env : List Atom} (l : List UInt8) : (X.str l).den env = aS ⟨l.toArray⟩ := rfl
end Go.Proofs.YtbcbjgomnhajdaaDoorK
end

section
set_option linter.unusedSimpArgs false
set_option linter.unusedVariables false
namespace Go.Proofs.YtbcbjgomnhajdaaDoorK
open Go Go.Proofs.YtbcbjgomnhajdaaDoorV Go.Proofs.YtbcbjgomnhajdaaDoorK
theorem split_13 : ∀ {a a' r r' : List UInt8}, (∀ c ∈ a, c ≠ 13) → (∀ c ∈ a', c ≠ 13) → a ++ 13 :: r = a' ++ 13 :: r' → a = a' ∧ r = r'
  | [], [], r, r', _, _, h => ⟨rfl, by injection h⟩
  | [], c :: a', r, r', _, h2, h => by
    injection h with h _
    exact absurd h.symm (h2 c (by simp))
  | c :: a, [], r, r', h1, _, h => by
    injection h with h _
    exact absurd h (h1 c (by simp))
  | c :: a, c' :: a', r, r', h1, h2, h => by
    injection h with h h3
    obtain ⟨e1, e2⟩ := split_13 (fun x hx => h1 x (by simp [hx])) (fun x hx => h2 x (by simp [hx])) h3
    exact ⟨by rw [h, e1], e2⟩
theorem dg_13 (m : Nat) : ∀ c ∈ dg m, c ≠ 13 := fun c hc e => by
  have := dg_dig m c hc
  subst e; unfold dig at this; simp at this
theorem split_dg {m m' : Nat} {r r' : List UInt8} (h : dg m ++ 13 :: r = dg m' ++ 13 :: r') : m = m' ∧ r = r' := by
  obtain ⟨e1, e2⟩ := split_13 (dg_13 m) (dg_13 m') h
  exact ⟨by rw [← vl_dg m, ← vl_dg m', e1], e2⟩
theorem pr_nat (m : Nat) : pr (m : Int) = dg m := by unfold pr; rw [if_neg (by omega)]; rfl
theorem ls_e2 : ls e2 = [13, 10] := rfl
theorem ls_prt (n : Int) : ls (prt n) = pr n := rfl
theorem ls_bulk (s : ByteArray) (R : List UInt8) : ls (bulkB s) ++ R = 36 :: (dg s.size ++ 13 :: 10 :: (ls s ++ 13 :: 10 :: R)) := by
  unfold bulkB
  rw [ls_app, ls_app, ls_app, ls_app, ls_e2, ls_prt, pr_nat, show ls (⟨#[36]⟩ : ByteArray) = [36] from rfl]
  simp
theorem bulk_inj {s s' : ByteArray} {R R' : List UInt8} (h : ls (bulkB s) ++ R = ls (bulkB s') ++ R') : s = s' ∧ R = R' := by
  rw [ls_bulk, ls_bulk] at h
  injection h with _ h
  obtain ⟨e1, h⟩ := split_dg h
  injection h with _ h
  obtain ⟨e2, h⟩ := List.append_inj h (by rw [← size_ls, ← size_ls, e1])
  injection h with _ h
  injection h with _ h
  exact ⟨ls_inj e2, h⟩
theorem cat_inj : ∀ {l l' : List ByteArray} {R R' : List UInt8}, l.length = l'.length → ls (catB (l.map bulkB)) ++ R = ls (catB (l'.map bulkB)) ++ R' → l = l' ∧ R = R'
  | [], [], _, _, _, h => ⟨rfl, by simpa using h⟩
  | [], _ :: _, _, _, hl, _ => by simp at hl
  | _ :: _, [], _, _, hl, _ => by simp at hl
  | x :: l, y :: l', R, R', hl, h => by
    rw [List.map_cons, List.map_cons, catB_cons, catB_cons, ls_app, ls_app, List.append_assoc, List.append_assoc] at h
    obtain ⟨e1, h2⟩ := bulk_inj h
    obtain ⟨e2, h3⟩ := cat_inj (by simpa using hl) h2
    exact ⟨by rw [e1, e2], h3⟩
/-- What a plain reply is. -/
def isP (y : RV) : Prop := (y.k = 1 ∨ y.k = 2) ∧ y.n = 0 ∧ y.l = [] ∨ y.k = 3 ∧ y.t = em ∧ y.l = [] ∨ y.k = 4 ∧ y.n = 0 ∧ y.l = [] ∨ y.k = 6 ∧ y.t = em ∧ y.n = 0 ∨ y.k = 5 ∧ y.t = em ∧ y.n = 0 ∧ y.l = []
theorem isP_pl (v : RV) : isP (plV v) := by
  unfold isP
  by_cases h1 : v.k = 1 ∨ v.k = 2
  · rw [plV_1 h1]; exact .inl ⟨h1, rfl, rfl⟩
  by_cases h3 : v.k = 3
  · rw [plV_3 h3]; exact .inr (.inl ⟨h3, rfl, rfl⟩)
  by_cases h4 : v.k = 4
  · rw [plV_4 h4]; exact .inr (.inr (.inl ⟨h4, rfl, rfl⟩))
  by_cases h6 : v.k = 6
  · rw [plV_6 h6]; exact .inr (.inr (.inr (.inl ⟨h6, rfl, rfl⟩)))
  · rw [plV_5 (fun h => h1 (.inl h)) (fun h => h1 (.inr h)) h3 h4 h6]; exact .inr (.inr (.inr (.inr ⟨rfl, rfl, rfl, rfl⟩)))
/-- A plain reply's bytes, by its kind. -/
def bs (y : RV) : List UInt8 := ls (oneP y)
theorem bs_1 {y : RV} (h : y.k = 1) : bs y = 43 :: (ls y.t ++ [13, 10]) := by unfold bs; rw [one_1 h, ls_app, ls_app]; rfl
theorem bs_2 {y : RV} (h : y.k = 2) : bs y = 45 :: (ls y.t ++ [13, 10]) := by unfold bs; rw [one_2 h, ls_app, ls_app]; rfl
theorem bs_3 {y : RV} (h : y.k = 3) : bs y = 58 :: (pr y.n ++ [13, 10]) := by unfold bs; rw [one_3 h, ls_app, ls_app]; rfl
theorem bs_4 {y : RV} (h : y.k = 4) : bs y = 36 :: (dg y.t.size ++ 13 :: 10 :: (ls y.t ++ [13, 10])) := by unfold bs; rw [one_4 h, ← List.append_nil (ls (bulkB y.t)), ls_bulk]
theorem bs_6 {y : RV} (h : y.k = 6) : bs y = 42 :: (dg y.l.length ++ 13 :: 10 :: ls (catB (y.l.map bulkB))) := by
  unfold bs; rw [one_6 h, ls_app, ls_app, ls_app, ls_prt, pr_nat, ls_e2, show ls (⟨#[42]⟩ : ByteArray) = [42] from rfl]; simp
theorem bs_5 {y : RV} (h : y.k = 5) : bs y = [36, 45, 49, 13, 10] := by unfold bs; rw [one_5 (by omega) (by omega) (by omega) (by omega) (by omega)]; rfl
theorem cons_ne {a b : UInt8} {l m : List UInt8} (h : a ≠ b) : ¬a :: l = b :: m := fun e => by injection e with e _; exact h e
theorem dg_45 {m : Nat} {r r' : List UInt8} : ¬36 :: (dg m ++ r) = 36 :: 45 :: r' := by
  intro h
  injection h with _ h
  cases hd : dg m with
  | nil => exact dg_ne m hd
  | cons c l =>
    have := dg_dig m c (by rw [hd]; simp)
    rw [hd] at h
    injection h with h _
    subst h
    exact dig_45 this rfl
def hd1 (y : RV) : UInt8 := if y.k = 1 then 43 else if y.k = 2 then 45 else if y.k = 3 then 58 else if y.k = 6 then 42 else 36
theorem tail_inj {a b : List UInt8} (h : a ++ [13, 10] = b ++ [13, 10]) : a = b := (List.append_inj' h rfl).1
theorem oneP_inj {x y : RV} (hx : isP x) (hy : isP y) (h : oneP x = oneP y) : x = y := by
  have h : bs x = bs y := congrArg ls h
  obtain ⟨k, t, n, l⟩ := x
  obtain ⟨k', t', n', l'⟩ := y
  rcases hx with ⟨rfl | rfl, rfl, rfl⟩ | ⟨rfl, rfl, rfl⟩ | ⟨rfl, rfl, rfl⟩ | ⟨rfl, rfl, rfl⟩ | ⟨rfl, rfl, rfl, rfl⟩ <;> rcases hy with ⟨rfl | rfl, rfl, rfl⟩ | ⟨rfl, rfl, rfl⟩ | ⟨rfl, rfl, rfl⟩ | ⟨rfl, rfl, rfl⟩ | ⟨rfl, rfl, rfl, rfl⟩ <;>
    first | rw [bs_1 rfl] at h | rw [bs_2 rfl] at h | rw [bs_3 rfl] at h | rw [bs_4 rfl] at h | rw [bs_6 rfl] at h | rw [bs_5 rfl] at h
  all_goals first | rfl | skip
  all_goals (first | rw [bs_1 rfl] at h | rw [bs_2 rfl] at h | rw [bs_3 rfl] at h | rw [bs_4 rfl] at h | rw [bs_6 rfl] at h | rw [bs_5 rfl] at h)
  all_goals first | exact absurd h (cons_ne (by decide)) | exact absurd h dg_45 | exact absurd h.symm dg_45 | skip
  · injection h with _ h
    have e := ls_inj (tail_inj h)
    simp only at e; subst e; rfl
  · injection h with _ h
    have e := ls_inj (tail_inj h)
    simp only at e; subst e; rfl
  · injection h with _ h
    have e := pr_inj (tail_inj h)
    simp only at e; subst e; rfl
  · injection h with _ h
    obtain ⟨_, h⟩ := split_dg h
    injection h with _ h
    have e := ls_inj (tail_inj h)
    simp only at e; subst e; rfl
  · injection h with _ h
    obtain ⟨e, h⟩ := split_dg h
    injection h with _ h
    obtain ⟨e2, _⟩ := cat_inj (R := []) (R' := []) e (by simpa using h)
    simp only at e2
    rw [e2]
theorem enc_one (v : RV) : encV [v] = oneV v := by
  unfold encV
  rw [List.map_cons, List.map_nil, catB_cons, catB_nil]; exact app_nil _
theorem enc_pl (v : RV) : encV [plV v] = encV [v] := by rw [enc_one, enc_one]; unfold oneV; rw [plV_plV]
theorem enc_iff (u v : RV) : encV [u] = encV [v] ↔ plV u = plV v := by
  rw [enc_one, enc_one]
  exact ⟨fun h => oneP_inj (isP_pl u) (isP_pl v) h, fun h => by unfold oneV; rw [h]⟩
/-- What the walks' leaves lean on beside. -/
theorem ve : type_of% (And.intro @vn_rw (And.intro @va_rw (And.intro @isNone_f (And.intro @isNone_t (And.intro @vi_cell_I (And.intro @vi_cell_E0 (And.intro @vi_cell_E1 (And.intro @vi_cell_A0 (And.intro @vi_cell_A1 (And.intro @vi_cell_A2 (And.intro @vb_ite (And.intro @vi_ite (And.intro @vi_cell_P0 (And.intro @vs_cell_P1 (And.intro @vi_cell_P2 (And.intro @vs_cell_S (And.intro @vi_cell_B (And.intro @seq_b (@byD_rw))))))))))))))))))) := And.intro @vn_rw (And.intro @va_rw (And.intro @isNone_f (And.intro @isNone_t (And.intro @vi_cell_I (And.intro @vi_cell_E0 (And.intro @vi_cell_E1 (And.intro @vi_cell_A0 (And.intro @vi_cell_A1 (And.intro @vi_cell_A2 (And.intro @vb_ite (And.intro @vi_ite (And.intro @vi_cell_P0 (And.intro @vs_cell_P1 (And.intro @vi_cell_P2 (And.intro @vs_cell_S (And.intro @vi_cell_B (And.intro @seq_b (@byD_rw))))))))))))))))))
end Go.Proofs.YtbcbjgomnhajdaaDoorK
end

section
set_option linter.unusedSimpArgs false
set_option linter.unusedVariables false
namespace Go.Proofs.YtbcbjgomnhajdaaDoorK
open Go Go.Proofs.YtbcbjgomnhajdaaDoorV Go.Proofs.YtbcbjgomnhajdaaDoorK
theorem rw_of {α : Type} {e : α → List Atom} {l : List LK} {Q : α → Prop} (hf : ∀ row, FitsAll l row → ∃ x, row = e x ∧ Q x) {s : Sl} (h : slOk l s) : ∃ r : Rw α, s.atom = Rw.atom e r ∧ r.z = l.length ∧ ∀ x ∈ r.l, Q x := by
  obtain ⟨_, els, h1, h2, h3⟩ := h
  have key : ∀ (L : List (List Atom)), (∀ (i : Nat) row, L[i]? = some row → FitsAll l row) → ∃ xs : List α, L = xs.map e ∧ ∀ x ∈ xs, Q x := by
    intro L
    induction L with
    | nil => exact fun _ => ⟨[], rfl, by simp⟩
    | cons row L ih =>
      intro hL
      obtain ⟨x, rfl, hx⟩ := hf row (hL 0 row rfl)
      obtain ⟨xs, rfl, hxs⟩ := ih (fun i row h => hL (i + 1) row (by simpa using h))
      exact ⟨x :: xs, rfl, fun y hy => by rcases List.mem_cons.1 hy with rfl | hy; exact hx; exact hxs y hy⟩
  obtain ⟨xs, rfl, hxs⟩ := key els h3
  refine ⟨⟨s.a, s.c, l.length, xs⟩, ?_, rfl, hxs⟩
  cases s
  simp only [Sl.atom, Rw.atom] at h1 h2 ⊢
  subst h1
  rw [← h2, List.length_map]
theorem str_in {a : Atom} (h : Fits (.slc [.str]) a) : ∃ r : Rw ByteArray, a = Rw.atom eS r ∧ r.ok 1 := by
  obtain ⟨s, rfl, h2⟩ := fits_slc h
  obtain ⟨r, h3, h4, _⟩ := rw_of (e := eS) (Q := fun _ => True) (fun row hr => by
    obtain ⟨_, _, rfl, f0, g0⟩ := fits_cons hr
    obtain ⟨s, rfl, _⟩ := fits_str f0
    obtain rfl := fits_nil g0
    exact ⟨s, rfl, trivial⟩) h2
  exact ⟨r, h3, .inr h4⟩
theorem i64_of {n : Int} (h : IntKind.i64.min ≤ n ∧ n ≤ IntKind.i64.max) : in64 n := by
  have e1 : IntKind.i64.min = -9223372036854775808 := rfl
  have e2 : IntKind.i64.max = 9223372036854775807 := rfl
  unfold in64; omega
def kP : List LK := [.int .i64, .str, .int .i64, .slc [.str]]
theorem rep_in {row : List Atom} (h : FitsAll kP row) : ∃ x : Rep, row = eP x ∧ x.l.ok 1 ∧ in64 x.n := by
  obtain ⟨_, _, rfl, f0, g0⟩ := fits_cons h
  obtain ⟨k, rfl, _⟩ := fits_int f0
  obtain ⟨_, _, rfl, f1, g1⟩ := fits_cons g0
  obtain ⟨t, rfl, _⟩ := fits_str f1
  obtain ⟨_, _, rfl, f2, g2⟩ := fits_cons g1
  obtain ⟨n, rfl, hn⟩ := fits_int f2
  obtain ⟨_, _, rfl, f3, g3⟩ := fits_cons g2
  obtain ⟨l, rfl, hl⟩ := str_in f3
  obtain rfl := fits_nil g3
  exact ⟨⟨k, t, n, l⟩, rfl, hl, i64_of hn⟩
theorem reps_in {a : Atom} (h : Fits (.slc kP) a) : ∃ r : Rw Rep, a = Rw.atom eP r ∧ r.ok 4 ∧ ∀ x ∈ r.l, x.l.ok 1 ∧ in64 x.n := by
  obtain ⟨s, rfl, h2⟩ := fits_slc h
  obtain ⟨r, h3, h4, h5⟩ := rw_of (e := eP) (Q := fun x => x.l.ok 1 ∧ in64 x.n) (fun row hr => rep_in hr) h2
  exact ⟨r, h3, .inr h4, h5⟩
/-! ### How much they hold -/
theorem bk_str {s : ByteArray} {n : Nat} (h : Bk (aS s) n) : s.size + 1 ≤ n := by
  generalize e : aS s = a at h
  cases h with
  | leaf v n h1 h2 => injection e with e _; exact h2 s e.symm
  | rows => cases e
theorem bk_int {x : Int} {n : Nat} (h : Bk (aI x) n) : 1 ≤ n := by
  generalize e : aI x = a at h
  cases h with
  | leaf v n h1 h2 => exact h1
  | rows => cases e
theorem bkAll_cons {a : Atom} {r : List Atom} {n : Nat} (h : BkAll (a :: r) n) : ∃ m k, n = m + k ∧ Bk a m ∧ BkAll r k := by
  cases h with
  | cons _ _ m k h1 h2 => exact ⟨m, k, rfl, h1, h2⟩
theorem rows_S : ∀ {l : List ByteArray} {n : Nat}, BkRows (l.map eS) n → lenS l ≤ n
  | [], _, _ => by simp [lenS]
  | s :: l, n, h => by
    rw [List.map_cons] at h
    generalize e : eS s = row at h
    cases h with
    | cons _ _ a b h1 h2 =>
      rw [← e] at h1
      obtain ⟨m, k, rfl, h3, _⟩ := bkAll_cons h1
      have := bk_str h3
      have := rows_S h2
      simp only [lenS, List.map_cons, List.sum_cons] at this ⊢; omega
theorem bk_S {r : Rw ByteArray} {n : Nat} (h : Bk (r.atom eS) n) : lenS r.l + 1 ≤ n := by
  unfold Rw.atom at h
  cases h with
  | rows _ _ _ n h => have := rows_S h; omega
theorem bk_rep {x : Rep} {n : Nat} {r : List Atom} (h : BkAll (aI x.k :: aS x.t :: aI x.n :: Rw.atom eS x.l :: r) n) : ∃ m k, n = m + k ∧ lenV x.v ≤ m ∧ BkAll r k := by
  obtain ⟨n1, m1, rfl, h1, h⟩ := bkAll_cons h
  obtain ⟨n2, m2, rfl, h2, h⟩ := bkAll_cons h
  obtain ⟨n3, m3, rfl, h3, h⟩ := bkAll_cons h
  obtain ⟨n4, m4, rfl, h4, h⟩ := bkAll_cons h
  have q1 := bk_int h1
  have q2 := bk_str h2
  have q4 := bk_S h4
  refine ⟨n1 + n2 + n3 + n4, m4, by omega, ?_, h⟩
  show 1 + x.t.size + lenS x.l.l ≤ _
  omega
theorem rows_P : ∀ {l : List Rep} {n : Nat}, BkRows (l.map eP) n → lenL (l.map Rep.v) ≤ n
  | [], _, _ => by simp [lenL]
  | x :: l, n, h => by
    rw [List.map_cons] at h
    generalize e : eP x = row at h
    cases h with
    | cons _ _ a b h1 h2 =>
      rw [← e] at h1
      obtain ⟨m, k, rfl, h3, _⟩ := bk_rep h1
      have := rows_P h2
      simp only [lenL, List.map_cons, List.sum_cons] at this ⊢; omega
theorem bk_P {r : Rw Rep} {n : Nat} (h : Bk (r.atom eP) n) : lenL (r.l.map Rep.v) + 1 ≤ n := by
  unfold Rw.atom at h
  cases h with
  | rows _ _ _ n h => have := rows_P h; omega
/-! ### The laws' inputs -/
def encA (x : Rw Rep × Rep × Rep) : List Atom := [Rw.atom eP x.1, aI x.2.1.k, aS x.2.1.t, aI x.2.1.n, Rw.atom eS x.2.1.l, aI x.2.2.k, aS x.2.2.t, aI x.2.2.n, Rw.atom eS x.2.2.l]
def encB (x : Rep × Rep) : List Atom := [aI x.1.k, aS x.1.t, aI x.1.n, Rw.atom eS x.1.l, aI x.2.k, aS x.2.t, aI x.2.n, Rw.atom eS x.2.l]
theorem one_in {ks : List LK} {r : List Atom} (h : FitsAll (.int .i64 :: .str :: .int .i64 :: .slc [.str] :: ks) r) : ∃ (x : Rep) (r' : List Atom), r = aI x.k :: aS x.t :: aI x.n :: Rw.atom eS x.l :: r' ∧ x.l.ok 1 ∧ in64 x.n ∧ FitsAll ks r' := by
  obtain ⟨_, _, rfl, f0, g0⟩ := fits_cons h
  obtain ⟨k, rfl, _⟩ := fits_int f0
  obtain ⟨_, _, rfl, f1, g1⟩ := fits_cons g0
  obtain ⟨t, rfl, _⟩ := fits_str f1
  obtain ⟨_, _, rfl, f2, g2⟩ := fits_cons g1
  obtain ⟨n, rfl, hn⟩ := fits_int f2
  obtain ⟨_, r', rfl, f3, g3⟩ := fits_cons g2
  obtain ⟨l, rfl, hl⟩ := str_in f3
  exact ⟨⟨k, t, n, l⟩, r', rfl, hl, i64_of hn, g3⟩
theorem inA (r : List Atom) (n : Nat) (h : FitsAll [.slc [.int .i64, .str, .int .i64, .slc [.str]], .int .i64, .str, .int .i64, .slc [.str], .int .i64, .str, .int .i64, .slc [.str]] r) (hb : BkAll r n) (hn : n ≤ 1048576) :
    ∃ x, r = encA x ∧ (okR 2000000 x.1 ∧ (x.2.1.l.ok 1 ∧ in64 x.2.1.n) ∧ (x.2.2.l.ok 1 ∧ in64 x.2.2.n) ∧ lenV x.2.1.v + lenV x.2.2.v ≤ 2000000) := by
  obtain ⟨_, _, rfl, f0, g0⟩ := fits_cons h
  obtain ⟨l, rfl, l1, l2⟩ := reps_in f0
  obtain ⟨a, _, rfl, a1, a2, g1⟩ := one_in g0
  obtain ⟨b, _, rfl, b1, b2, g2⟩ := one_in g1
  obtain rfl := fits_nil g2
  obtain ⟨n0, m0, rfl, h0, hb⟩ := bkAll_cons hb
  obtain ⟨n1, m1, rfl, h1, hb⟩ := bk_rep hb
  obtain ⟨n2, m2, rfl, h2, hb⟩ := bk_rep hb
  have := bk_P h0
  exact ⟨(l, a, b), rfl, ⟨l1, l2, by show lenL (l.l.map Rep.v) ≤ 2000000; omega⟩, ⟨a1, a2⟩, ⟨b1, b2⟩, by show lenV a.v + lenV b.v ≤ _; omega⟩
theorem inB (r : List Atom) (n : Nat) (h : FitsAll [.int .i64, .str, .int .i64, .slc [.str], .int .i64, .str, .int .i64, .slc [.str]] r) (hb : BkAll r n) (hn : n ≤ 1048576) :
    ∃ x, r = encB x ∧ ((x.1.l.ok 1 ∧ in64 x.1.n) ∧ (x.2.l.ok 1 ∧ in64 x.2.n) ∧ lenV x.1.v + lenV x.2.v ≤ 2000000) := by
  obtain ⟨a, _, rfl, a1, a2, g1⟩ := one_in h
  obtain ⟨b, _, rfl, b1, b2, g2⟩ := one_in g1
  obtain rfl := fits_nil g2
  obtain ⟨n1, m1, rfl, h1, hb⟩ := bk_rep hb
  obtain ⟨n2, m2, rfl, h2, hb⟩ := bk_rep hb
  exact ⟨(a, b), rfl, ⟨a1, a2⟩, ⟨b1, b2⟩, by show lenV a.v + lenV b.v ≤ _; omega⟩
end Go.Proofs.YtbcbjgomnhajdaaDoorK
end
