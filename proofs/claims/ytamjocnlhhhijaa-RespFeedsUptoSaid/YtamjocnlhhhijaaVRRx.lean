/- The reader: what its loop keeps, byte by byte; what one byte does. -/
import Derived.Test.YtamjocnlhhhijaaVRRp2
import Derived.Test.YtamjocnlhhhijaaVRRq1
import Derived.Test.YtamjocnlhhhijaaVRSpm
set_option linter.unusedSimpArgs false
set_option linter.unusedVariables false
namespace Go.Proofs.YtamjocnlhhhijaaK
open Go Go.Proofs.YtamjocnlhhhijaaV Go.Proofs.YtamjocnlhhhijaaK Go.Proofs.YtamjocnlhhhijaaK Go.Proofs.YtamjocnlhhhijaaS
/-- Bytes as numbers, and back. -/
def bI (l : Bs) : List Int := l.map fun c => (c.toNat : Int)
def bS (l : List Int) : Bs := l.map fun x => UInt8.ofNat x.toNat
theorem bI_bS {l : List Int} (h : isB l) : bI (bS l) = l := by
  unfold bI bS
  rw [List.map_map]
  conv => rhs; rw [← List.map_id l]
  refine List.map_congr_left fun x hx => ?_
  have := h x hx
  simp only [Function.comp, UInt8.toNat_ofNat', id]
  omega
theorem isB_bI (l : Bs) : isB (bI l) := by
  intro x hx
  obtain ⟨c, _, rfl⟩ := List.mem_map.1 hx
  have := c.toNat_lt
  omega
theorem bS_bI (l : Bs) : bS (bI l) = l := by
  unfold bI bS
  rw [List.map_map]
  conv => rhs; rw [← List.map_id l]
  refine List.map_congr_left fun x hx => ?_
  simp
theorem bI_app (a b : Bs) : bI (a ++ b) = bI a ++ bI b := List.map_append
theorem bI_len (a : Bs) : (bI a).length = a.length := List.length_map ..
theorem bS_len (a : List Int) : (bS a).length = a.length := List.length_map ..
theorem ls_ofBytes (l : Bs) : ls (ofBytes (bI l)) = l := by
  have h1 : bi (ofBytes (bI l)) = bI l := bi_ofBytes (isB_bI l)
  have h2 : ∀ a b : Bs, bI a = bI b → a = b := fun a b e => by rw [← bS_bI a, ← bS_bI b, e]
  exact h2 _ _ h1
/-- What the next step is. -/
def Now : Go.Proofs.YtamjocnlhhhijaaS.Sg → Atom → Prop
  | .star, x => cloB (some 40) [.int .u8 42, .fn 33] x = true
  | .num .cnt, x => cloB (some 41) [.int .i64 1, .fn 36, .int .i64 50, .self] x = true
  | .lf .cnt, x => cloB (some 40) [.int .u8 10, .fn 36] x = true
  | .dol, x => cloB (some 40) [.int .u8 36, .fn 43] x = true
  | .num .szd, x => cloB (some 41) [.int .i64 0, .fn 44, .int .i64 1000, .self] x = true
  | .lf .szd, x => cloB (some 40) [.int .u8 10, .fn 44] x = true
  | .byt, x => cloB (some 48) [] x = true
  | .cr, x => cloB (some 40) [.int .u8 13, .fn 46] x = true
  | .lf2, x => cloB (some 40) [.int .u8 10, .fn 47] x = true
theorem now_two {f g : FuncId} {cs cs' : List Cc} {x : Atom} (h1 : cloB (some f) cs x = true) (h2 : cloB (some g) cs' x = true) : f = g ∧ cs = cs' := by
  obtain ⟨a, b, e1⟩ := cloB_some h1
  obtain ⟨a', b', e2⟩ := cloB_some h2
  rw [e1] at e2
  simp only [Prod.mk.injEq, Value.func.injEq, Fn.func.injEq, D.clo.injEq] at e2
  exact ⟨e2.1.1, e2.2⟩
/-- Which step it is. -/
theorem now_of {σ τ : Go.Proofs.YtamjocnlhhhijaaS.Sg} {x : Atom} (h : Now σ x) (h2 : Now τ x) : σ = τ := by
  cases σ <;> (try (rename_i k; cases k)) <;> cases τ <;> (try (rename_i k; cases k)) <;> first
    | rfl
    | (have := now_two h h2; simp at this)
/-- Do the arguments that came count? -/
def hasA : Go.Proofs.YtamjocnlhhhijaaS.Sg → Bool
  | .star | .num .cnt | .lf .cnt => false
  | _ => true
def wS (l : List Bs) : Nat := (l.map fun a => 1 + a.length).sum
def wO (l : List (List Bs)) : Nat := (l.map fun a => 1 + wS a).sum
def Wt (m : Mc) : Nat := wO m.out + match m.σ with
  | .star | .num .cnt | .lf .cnt => 0
  | .dol | .num .szd | .lf .szd => wS m.args
  | .byt | .cr | .lf2 => wS m.args + m.arg.length
theorem wS_app (l : List Bs) (a : Bs) : wS (l ++ [a]) = wS l + (1 + a.length) := by simp [wS]
theorem wO_app (l : List (List Bs)) (a : List Bs) : wO (l ++ [a]) = wO l + (1 + wS a) := by simp [wO]
theorem wS_len (l : List Bs) : l.length ≤ wS l := by
  induction l with
  | nil => exact Nat.le_refl _
  | cons a l ih => simp only [wS, List.map_cons, List.sum_cons, List.length_cons] at ih ⊢; omega
theorem wO_len (l : List (List Bs)) : l.length ≤ wO l := by
  induction l with
  | nil => exact Nat.le_refl _
  | cons a l ih => simp only [wO, List.map_cons, List.sum_cons, List.length_cons] at ih ⊢; omega
/-- One byte, and one more that is left. -/
def stepZ (m : Mc) (z : Int) : Option Mc := Go.Proofs.YtamjocnlhhhijaaS.step { m with left := m.left + 1 } (UInt8.ofNat z.toNat)
theorem u8_eq {z : Int} (h0 : 0 ≤ z) (h1 : z < 256) (k : Nat) (hk : k < 256) : (UInt8.ofNat z.toNat = UInt8.ofNat k) ↔ z = k := by
  constructor
  · intro h
    have := congrArg UInt8.toNat h
    simp only [UInt8.toNat_ofNat'] at this
    omega
  · rintro rfl; rfl
theorem u8_n {z : Int} (h0 : 0 ≤ z) (h1 : z < 256) : (((UInt8.ofNat z.toNat).toNat : Nat) : Int) = z := by
  simp only [UInt8.toNat_ofNat']; omega
theorem u8_lt {z : Int} (h0 : 0 ≤ z) (h1 : z < 256) (k : Nat) (hk : k < 256) : (UInt8.ofNat z.toNat < UInt8.ofNat k) ↔ z < k := by
  rw [UInt8.lt_iff_toNat_lt]
  simp only [UInt8.toNat_ofNat']; omega
theorem lt_u8 {z : Int} (h0 : 0 ≤ z) (h1 : z < 256) (k : Nat) (hk : k < 256) : (UInt8.ofNat k < UInt8.ofNat z.toNat) ↔ (k : Int) < z := by
  rw [UInt8.lt_iff_toNat_lt]
  simp only [UInt8.toNat_ofNat']; omega
section
variable {m : Mc} {z n : Int} {sm : Bool} {k : Ks}
theorem sz_star (h0 : 0 ≤ z) (h1 : z < 256) (h : m.σ = .star) : stepZ m z = if z = 42 then some { m with left := m.left + 1, σ := .num .cnt, n := 0, some := false } else none := by
  unfold stepZ Go.Proofs.YtamjocnlhhhijaaS.step
  simp only [h]
  have : (UInt8.ofNat z.toNat = (42 : UInt8)) ↔ z = 42 := u8_eq h0 h1 42 (by omega)
  by_cases hz : z = 42
  · rw [if_pos hz, if_pos (this.2 hz)]
  · rw [if_neg hz, if_neg (fun e => hz (this.1 e))]
theorem sz_dol (h0 : 0 ≤ z) (h1 : z < 256) (h : m.σ = .dol) : stepZ m z = if z = 36 then some { m with left := m.left + 1, σ := .num .szd, n := 0, some := false } else none := by
  unfold stepZ Go.Proofs.YtamjocnlhhhijaaS.step
  simp only [h]
  have : (UInt8.ofNat z.toNat = (36 : UInt8)) ↔ z = 36 := u8_eq h0 h1 36 (by omega)
  by_cases hz : z = 36
  · rw [if_pos hz, if_pos (this.2 hz)]
  · rw [if_neg hz, if_neg (fun e => hz (this.1 e))]
theorem sz_lfc (h0 : 0 ≤ z) (h1 : z < 256) (h : m.σ = .lf .cnt) : stepZ m z = if z = 10 then some { m with left := m.left + 1, many := m.n, args := [], σ := .dol } else none := by
  unfold stepZ Go.Proofs.YtamjocnlhhhijaaS.step
  simp only [h]
  have : (UInt8.ofNat z.toNat = (10 : UInt8)) ↔ z = 10 := u8_eq h0 h1 10 (by omega)
  by_cases hz : z = 10
  · rw [if_pos hz, if_pos (this.2 hz)]
  · rw [if_neg hz, if_neg (fun e => hz (this.1 e))]
theorem sz_lfs (h0 : 0 ≤ z) (h1 : z < 256) (h : m.σ = .lf .szd) : stepZ m z = if z = 10 then some { m with left := m.left + 1, arg := [], σ := if m.n = 0 then .cr else .byt } else none := by
  unfold stepZ Go.Proofs.YtamjocnlhhhijaaS.step
  simp only [h]
  have : (UInt8.ofNat z.toNat = (10 : UInt8)) ↔ z = 10 := u8_eq h0 h1 10 (by omega)
  by_cases hz : z = 10
  · rw [if_pos hz, if_pos (this.2 hz)]
  · rw [if_neg hz, if_neg (fun e => hz (this.1 e))]
theorem sz_byt (h : m.σ = .byt) : stepZ m z = some { m with left := m.left + 1, arg := m.arg ++ [UInt8.ofNat z.toNat], σ := if ((m.arg ++ [UInt8.ofNat z.toNat]).length : Int) = m.n then .cr else .byt } := by
  unfold stepZ Go.Proofs.YtamjocnlhhhijaaS.step
  simp only [h]
theorem sz_cr (h0 : 0 ≤ z) (h1 : z < 256) (h : m.σ = .cr) : stepZ m z = if z = 13 then some { m with left := m.left + 1, σ := .lf2 } else none := by
  unfold stepZ Go.Proofs.YtamjocnlhhhijaaS.step
  simp only [h]
  have : (UInt8.ofNat z.toNat = (13 : UInt8)) ↔ z = 13 := u8_eq h0 h1 13 (by omega)
  by_cases hz : z = 13
  · rw [if_pos hz, if_pos (this.2 hz)]
  · rw [if_neg hz, if_neg (fun e => hz (this.1 e))]
theorem sz_lf2 (h0 : 0 ≤ z) (h1 : z < 256) (h : m.σ = .lf2) : stepZ m z = if z = 10 then (if ((m.args ++ [m.arg]).length : Int) < m.many then some { m with left := m.left + 1, args := m.args ++ [m.arg], σ := .dol }
      else some { m with args := m.args ++ [m.arg], out := m.out ++ [m.args ++ [m.arg]], left := 0, σ := .star }) else none := by
  unfold stepZ Go.Proofs.YtamjocnlhhhijaaS.step
  simp only [h]
  have : (UInt8.ofNat z.toNat = (10 : UInt8)) ↔ z = 10 := u8_eq h0 h1 10 (by omega)
  by_cases hz : z = 10
  · rw [if_pos hz, if_pos (this.2 hz)]
  · rw [if_neg hz, if_neg (fun e => hz (this.1 e))]
theorem sz_num (h0 : 0 ≤ z) (h1 : z < 256) (h : m.σ = .num k) (en : n = m.n) (es : sm = m.some) : stepZ m z = if z = 13 ∧ sm = true ∧ k.least ≤ n then some { m with left := m.left + 1, σ := .lf k }
    else if z < 48 ∨ 57 < z ∨ (sm = true ∧ n = 0) then none
    else if k.most < 10 * n + (z - 48) ∨ (10 * n + (z - 48) = 0 ∧ 0 < k.least) then none
    else some { m with left := m.left + 1, n := 10 * n + (z - 48), some := true } := by
  subst en; subst es
  unfold stepZ Go.Proofs.YtamjocnlhhhijaaS.step
  simp only [h]
  have e13 : (UInt8.ofNat z.toNat = (13 : UInt8)) ↔ z = 13 := u8_eq h0 h1 13 (by omega)
  have e48 : (UInt8.ofNat z.toNat < (48 : UInt8)) ↔ z < 48 := u8_lt h0 h1 48 (by omega)
  have e57 : ((57 : UInt8) < UInt8.ofNat z.toNat) ↔ 57 < z := lt_u8 h0 h1 57 (by omega)
  simp only [e13, e48, e57, u8_n h0 h1]
theorem num_none (h0 : 0 ≤ z) (h1 : z < 256) (h : m.σ = .num k) (en : n = m.n) (es : sm = m.some) (hA : ¬(z = 13 ∧ sm = true ∧ k.least ≤ n)) (hB : z < 48 ∨ 57 < z ∨ (sm = true ∧ n = 0) ∨ k.most < 10 * n + (z - 48) ∨ (10 * n + (z - 48) = 0 ∧ 0 < k.least)) : stepZ m z = none := by
  rw [sz_num h0 h1 h en es, if_neg hA]
  split
  · rfl
  · rename_i h2
    rw [if_pos]
    rcases hB with h3 | h3 | h3 | h3 | h3
    · exact absurd (.inl h3) h2
    · exact absurd (.inr (.inl h3)) h2
    · exact absurd (.inr (.inr h3)) h2
    · exact .inl h3
    · exact .inr h3
theorem num_dig (h0 : 0 ≤ z) (h1 : z < 256) (h : m.σ = .num k) (en : n = m.n) (es : sm = m.some) (hA : ¬(z = 13 ∧ sm = true ∧ k.least ≤ n)) (hB1 : 48 ≤ z) (hB2 : z ≤ 57) (hB3 : ¬(sm = true ∧ n = 0)) (hB4 : 10 * n + (z - 48) ≤ k.most) (hB5 : ¬(10 * n + (z - 48) = 0 ∧ 0 < k.least)) : stepZ m z = some { m with left := m.left + 1, n := 10 * n + (z - 48), some := true } := by
  rw [sz_num h0 h1 h en es, if_neg hA, if_neg, if_neg]
  · rintro (h3 | h3)
    · omega
    · exact hB5 h3
  · rintro (h3 | h3 | h3)
    · omega
    · omega
    · exact hB3 h3
theorem num_cr (h0 : 0 ≤ z) (h1 : z < 256) (h : m.σ = .num k) (en : n = m.n) (es : sm = m.some) (hA : z = 13 ∧ sm = true ∧ k.least ≤ n) : stepZ m z = some { m with left := m.left + 1, σ := .lf k } := by
  rw [sz_num h0 h1 h en es, if_pos hA]
end
theorem step_wt {m m' : Mc} {z : Int} (h0 : 0 ≤ z) (h1 : z < 256) (h : stepZ m z = some m') (hn : 0 ≤ m.n ∧ m.n ≤ 1000) : Wt m' ≤ Wt m + 2 ∧ m'.left ≤ m.left + 1 ∧ 0 ≤ m'.n ∧ m'.n ≤ 1000 := by
  cases hs : m.σ with
  | star =>
    rw [sz_star h0 h1 hs] at h
    split at h
    · injection h with h; subst h; simp [Wt, hs]
    · cases h
  | dol =>
    rw [sz_dol h0 h1 hs] at h
    split at h
    · injection h with h; subst h; simp [Wt, hs]
    · cases h
  | num k =>
    rw [sz_num h0 h1 hs rfl rfl] at h
    split at h
    · injection h with h; subst h; cases k <;> simp [Wt, hs] <;> omega
    · split at h
      · cases h
      · rename_i h2
        split at h
        · cases h
        · rename_i h3
          injection h with h; subst h
          cases k <;> simp [Wt, hs, Ks.most, Ks.least] at h3 ⊢ <;> omega
  | lf k =>
    cases k with
    | cnt =>
      rw [sz_lfc h0 h1 hs] at h
      split at h
      · injection h with h; subst h; simp [Wt, hs, wS]; omega
      · cases h
    | szd =>
      rw [sz_lfs h0 h1 hs] at h
      split at h
      · injection h with h; subst h
        by_cases hn0 : m.n = 0 <;> simp [Wt, hs, hn0] <;> omega
      · cases h
  | byt =>
    rw [sz_byt hs] at h
    injection h with h; subst h
    by_cases hn0 : ((m.arg ++ [UInt8.ofNat z.toNat]).length : Int) = m.n
    · simp only [Wt, hs, hn0, if_true]; simp; omega
    · simp only [Wt, hs, hn0, if_false]; simp; omega
  | cr =>
    rw [sz_cr h0 h1 hs] at h
    split at h
    · injection h with h; subst h; simp [Wt, hs]; omega
    · cases h
  | lf2 =>
    rw [sz_lf2 h0 h1 hs] at h
    split at h
    · split at h
      · injection h with h; subst h; simp only [Wt, hs, wS_app]; omega
      · injection h with h; subst h; simp only [Wt, hs, wS_app, wO_app]; omega
    · cases h
/-- What the reader's loop keeps. -/
structure RI (B : Bs) (k : Nat) (now : Atom) (left n : Int) (sm : Bool) (args : Atom) (many : Int) (arg : Rw Int) (out : Rw (Rw ByteArray)) (m : Mc) : Prop where
  run : res Go.Proofs.YtamjocnlhhhijaaS.start B = res m (B.drop k)
  kl : k ≤ B.length
  now : Now m.σ now
  left : left = m.left
  n : n = m.n
  sm : sm = m.some
  many : many = m.many
  args : hasA m.σ = true → ∃ r : Rw ByteArray, args = r.atom eS ∧ r.l.map ls = m.args ∧ r.ok 1
  arg : arg.l = bI m.arg ∧ arg.ok 1
  out : (vv out).map (List.map ls) = m.out ∧ okL out
  pos : 0 ≤ m.n ∧ m.n ≤ 1000
  wt : Wt m ≤ 2 * k
  lft : m.left ≤ k
section
variable {B : Bs} {k : Nat} {now args : Atom} {left n many : Int} {sm : Bool} {arg : Rw Int} {out : Rw (Rw ByteArray)} {m : Mc}
theorem RI.start {x : Atom} (h : cloB (some 40) [.int .u8 42, .fn 33] x = true) : RI B 0 x 0 0 false (Rw.atom eS Rw.nil) 0 Rw.nil Rw.nil Go.Proofs.YtamjocnlhhhijaaS.start :=
  ⟨rfl, Nat.zero_le _, h, rfl, rfl, rfl, rfl, fun h => by simp [Go.Proofs.YtamjocnlhhhijaaS.start, hasA] at h, ⟨rfl, .inl rfl⟩, ⟨rfl, .inl rfl, by simp [Rw.nil]⟩, by decide, by decide, by decide⟩
theorem RI.next (h : RI B k now left n sm args many arg out m) {z : Int} (hz : B[k]? = some (UInt8.ofNat z.toNat)) (h0 : 0 ≤ z) (h1 : z < 256) {m' : Mc} (hs : stepZ m z = some m') {now' args' : Atom} {left' n' many' : Int} {sm' : Bool} {arg' : Rw Int} {out' : Rw (Rw ByteArray)}
    (hN : Now m'.σ now') (hl : left' = m'.left) (hn : n' = m'.n) (hsm : sm' = m'.some) (hmany : many' = m'.many) (hA : hasA m'.σ = true → ∃ r : Rw ByteArray, args' = r.atom eS ∧ r.l.map ls = m'.args ∧ r.ok 1)
    (harg : arg'.l = bI m'.arg ∧ arg'.ok 1) (hout : (vv out').map (List.map ls) = m'.out ∧ okL out') : RI B (k + 1) now' left' n' sm' args' many' arg' out' m' := by
  obtain ⟨w1, w2, w3, w4⟩ := step_wt h0 h1 hs h.pos
  have hlt := (List.getElem?_eq_some_iff.1 hz).1
  have h2 := h.wt
  have h3 := h.lft
  refine ⟨?_, hlt, hN, hl, hn, hsm, hmany, hA, harg, hout, ⟨w3, w4⟩, by omega, by omega⟩
  rw [h.run, List.drop_eq_getElem_cons hlt, res]
  have e : B[k] = UInt8.ofNat z.toNat := by
    have := List.getElem?_eq_getElem hlt
    rw [hz] at this
    injection this with this
    exact this.symm
  rw [e]
  unfold stepZ at hs
  rw [hs]
theorem RI.next' (h : RI B k now left n sm args many arg out m) {z : Int} (hz : B[k]? = some (UInt8.ofNat z.toNat)) (h0 : 0 ≤ z) (h1 : z < 256) {k' : Nat} (hk : k' = k + 1) {m' : Mc} (hs : stepZ m z = some m') {now' args' : Atom} {left' n' many' : Int} {sm' : Bool} {arg' : Rw Int} {out' : Rw (Rw ByteArray)}
    (hN : Now m'.σ now') (hl : left' = m'.left) (hn : n' = m'.n) (hsm : sm' = m'.some) (hmany : many' = m'.many) (hA : hasA m'.σ = true → ∃ r : Rw ByteArray, args' = r.atom eS ∧ r.l.map ls = m'.args ∧ r.ok 1)
    (harg : arg'.l = bI m'.arg ∧ arg'.ok 1) (hout : (vv out').map (List.map ls) = m'.out ∧ okL out') : RI B k' now' left' n' sm' args' many' arg' out' m' := by
  rw [hk]; exact h.next hz h0 h1 hs hN hl hn hsm hmany hA harg hout
theorem RI.wrong (h : RI B k now left n sm args many arg out m) {z : Int} (hz : B[k]? = some (UInt8.ofNat z.toNat)) (hs : stepZ m z = none) : res Go.Proofs.YtamjocnlhhhijaaS.start B = (m.out, 0, true) := by
  have hlt := (List.getElem?_eq_some_iff.1 hz).1
  rw [h.run, List.drop_eq_getElem_cons hlt, res]
  have e : B[k] = UInt8.ofNat z.toNat := by
    have := List.getElem?_eq_getElem hlt
    rw [hz] at this
    injection this with this
    exact this.symm
  rw [e]
  unfold stepZ at hs
  rw [hs]
theorem RI.done (h : RI B k now left n sm args many arg out m) (hk : B.length ≤ k) : res Go.Proofs.YtamjocnlhhhijaaS.start B = (m.out, m.left, false) := by
  rw [h.run, List.drop_eq_nil_of_le hk]; rfl
end
/-! ### What is told of all -/
theorem vdc : (∀ env f cs x, X.den env (.clo f cs x) = (.bool (cloB f cs (x.den env)), .leaf)) ∧ (∀ env x, X.den env (.raw x) = ((x.den env).1, .leaf)) := ⟨fun _ _ _ _ => rfl, fun _ _ => rfl⟩
theorem vx : type_of% (And.intro vd (And.intro ve vdc)) := And.intro vd (And.intro ve vdc)
theorem vlen : type_of% (And.intro (@List.length_cons.{0}) (And.intro (@List.length_nil.{0}) (And.intro (@List.length_append.{0}) (@List.length_set.{0})))) := And.intro (@List.length_cons.{0}) (And.intro (@List.length_nil.{0}) (And.intro (@List.length_append.{0}) (@List.length_set.{0})))
def clen (l : List (List ByteArray)) : Int := (l.map fun a => ((cmdB a).size : Int)).sum
structure wholeP (b : Rw Int) (x : Rw (Rw ByteArray)) (n e : Int) : Prop where
  ok : okL x
  out : (vv x).map (List.map ls) = (res Go.Proofs.YtamjocnlhhhijaaS.start (bS b.l)).1
  n : n = clen (vv x)
  e : e = if (res Go.Proofs.YtamjocnlhhhijaaS.start (bS b.l)).2.2 then 7 else 0
theorem clen_app (l : List (List ByteArray)) (a : List ByteArray) : clen (l ++ [a]) = clen l + ((cmdB a).size : Int) := by simp [clen]
theorem clen_pos (l : List (List ByteArray)) : 0 ≤ clen l := by
  induction l with
  | nil => exact Int.le_refl _
  | cons a l ih => simp only [clen, List.map_cons, List.sum_cons] at ih ⊢; omega
theorem clen_take (l : List (List ByteArray)) (k : Nat) : clen (l.take k) ≤ clen l := by
  induction l generalizing k with
  | nil => simp
  | cons a l ih =>
    cases k with
    | zero => exact clen_pos _
    | succ k => have := ih k; simp only [clen, List.take_succ_cons, List.map_cons, List.sum_cons] at this ⊢; omega
theorem vv_take {r : Rw (Rw ByteArray)} {i : Int} (h0 : 0 ≤ i) (h1 : i < r.l.length) : (vv r).take (i + 1).toNat = (vv r).take i.toNat ++ [(r.get i).l] := by
  unfold vv
  rw [← List.map_take, take_g h0 h1, List.map_append, List.map_take]; rfl
theorem lenS_wS (l : List ByteArray) : lenS l = wS (l.map ls) := by
  unfold lenS wS
  rw [List.map_map]
  congr 1
theorem cmd_size {l : List ByteArray} (h : lenS l ≤ 100000) : ((cmdB l).size : Int) ≤ 26 * (1 + lenS l) := by
  have h1 := cat_size (l := l) (by omega)
  have h2 := lenS_len l
  have h3 := prt_size (n := (l.length : Int)) (by unfold in64; omega)
  have e1 : ((⟨#[42]⟩ : ByteArray).size : Int) = 1 := rfl
  have e3 : (e2.size : Int) = 2 := rfl
  unfold cmdB
  rw [size_app, size_app, size_app]; omega
theorem clen_le {l : List (List ByteArray)} (h : wO (l.map (List.map ls)) ≤ 100000) : clen l ≤ 26 * wO (l.map (List.map ls)) := by
  induction l with
  | nil => exact Int.le_refl _
  | cons a l ih =>
    simp only [clen, wO, List.map_cons, List.sum_cons] at ih h ⊢
    have h1 := lenS_wS a
    have h2 := cmd_size (l := a) (by omega)
    have := ih (by omega)
    omega
theorem wO_mem {l : List (List ByteArray)} {a : List ByteArray} (h : a ∈ l) : 1 + lenS a ≤ wO (l.map (List.map ls)) := by
  induction l with
  | nil => cases h
  | cons b l ih =>
    simp only [wO, List.map_cons, List.sum_cons] at ih ⊢
    have := lenS_wS b
    rcases List.mem_cons.1 h with rfl | h
    · omega
    · have := ih h; omega
theorem vv_mem {r : Rw (Rw ByteArray)} {x : Rw ByteArray} (h : x ∈ r.l) : x.l ∈ vv r := List.mem_map.2 ⟨x, h, rfl⟩
theorem bS_get {r : Rw Int} {i : Int} (h0 : 0 ≤ i) (h1 : i < r.l.length) : (bS r.l)[i.toNat]? = some (UInt8.ofNat (r.get i).toNat) := by
  unfold bS Rw.get
  rw [List.getElem?_map, List.getD_eq_getElem?_getD, List.getElem?_eq_getElem (by omega)]; rfl
theorem known_res : res Go.Proofs.YtamjocnlhhhijaaS.start [42, 50, 13, 10, 36, 51, 13, 10, 71, 69, 84, 13, 10, 36, 49, 13, 10, 97, 13, 10, 42, 48] = ([[[71, 69, 84], [97]]], 0, true) := by decide
theorem known_get {r : Rw (Rw ByteArray)} (h : (vv r).map (List.map ls) = [[[71, 69, 84], [97]]]) : r.l.length = 1 ∧ (r.get 0).l = [⟨#[71, 69, 84]⟩, ⟨#[97]⟩] := by
  unfold vv at h
  match hr : r.l with
  | [] => rw [hr] at h; simp at h
  | [x] =>
    rw [hr] at h
    simp only [List.map_cons, List.map_nil, List.cons.injEq, and_true] at h
    refine ⟨rfl, ?_⟩
    have e : r.get 0 = x := by unfold Rw.get; rw [hr]; rfl
    rw [e]
    match hx : x.l with
    | [] => rw [hx] at h; simp at h
    | [a] => rw [hx] at h; simp at h
    | [a, b] =>
      rw [hx] at h
      simp only [List.map_cons, List.map_nil, List.cons.injEq, and_true] at h
      obtain ⟨h1, h2⟩ := h
      have ea : a = ⟨#[71, 69, 84]⟩ := by apply ByteArray.ext; apply Array.ext'; exact h1
      have eb : b = ⟨#[97]⟩ := by apply ByteArray.ext; apply Array.ext'; exact h2
      rw [ea, eb]
    | a :: b :: c :: l => rw [hx] at h; simp at h
  | x :: y :: l => rw [hr] at h; simp at h
theorem new_wpS {cs : Nat → Sig × Con} {Post : List Atom → Prop} {env : List Atom} {L : List (List Atom → Prop)} {α : Type} {sz : Nat} {rows : List (List S)} {t : T} (e : α → List Atom) (xs : List α) (hx : rows.map (List.map (S.atom env)) = xs.map e) (h : ∀ g c, t.wp cs Post (env ++ [Rw.atom e ⟨some ⟨g, 0, none⟩, c, sz, xs⟩]) L) : (T.new sz rows t).wp cs Post env L := by
  intro g
  have hl : rows.length = xs.length := by have := congrArg List.length hx; simpa using this
  have := h g xs.length
  simp only [Rw.atom] at this
  rw [hx, hl]; exact this
end Go.Proofs.YtamjocnlhhhijaaK
