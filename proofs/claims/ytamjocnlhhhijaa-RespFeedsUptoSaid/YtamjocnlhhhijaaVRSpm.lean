/- Commands, byte by byte: a machine that takes bytes reads what a parser reads of them all. Plain lists, no program. Commands: the machine's whole run. A number's digits, by the machine and by their value. -/
import Derived.Test.YtamjocnlhhhijaaVR2p
set_option linter.unusedSimpArgs false
set_option linter.unusedVariables false
section
set_option linter.unusedSimpArgs false
set_option linter.unusedVariables false
namespace Go.Proofs.YtamjocnlhhhijaaS
abbrev Bs := List UInt8
/-- What follows a number: how many arguments there are, or how many bytes one has. -/
inductive Ks where
  | cnt
  | szd
def Ks.least : Ks → Int
  | .cnt => 1
  | .szd => 0
def Ks.most : Ks → Int
  | .cnt => 50
  | .szd => 1000
inductive Sg where
  | star
  | num (k : Ks)
  | lf (k : Ks)
  | dol
  | byt
  | cr
  | lf2
/-- The machine: its step, the number that is read, whether it has a digit, how many arguments there are to be, those that are whole, the one that is read, the commands that came, the bytes that are left. -/
structure Mc where
  σ : Sg
  n : Int
  some : Bool
  many : Int
  args : List Bs
  arg : Bs
  out : List (List Bs)
  left : Nat
def start : Mc := ⟨.star, 0, false, 0, [], [], [], 0⟩
/-- A byte; none: it is wrong. -/
def step (m : Mc) (c : UInt8) : Option Mc := match m.σ with
  | .star => if c = 42 then some { m with σ := .num .cnt, n := 0, some := false } else none
  | .num k => if c = 13 ∧ m.some = true ∧ k.least ≤ m.n then some { m with σ := .lf k }
    else if c < 48 ∨ 57 < c ∨ (m.some = true ∧ m.n = 0) then none
    else if k.most < 10 * m.n + ((c.toNat : Int) - 48) ∨ (10 * m.n + ((c.toNat : Int) - 48) = 0 ∧ 0 < k.least) then none
    else some { m with n := 10 * m.n + ((c.toNat : Int) - 48), some := true }
  | .lf .cnt => if c = 10 then some { m with many := m.n, args := [], σ := .dol } else none
  | .lf .szd => if c = 10 then some { m with arg := [], σ := if m.n = 0 then .cr else .byt } else none
  | .dol => if c = 36 then some { m with σ := .num .szd, n := 0, some := false } else none
  | .byt => some { m with arg := m.arg ++ [c], σ := if ((m.arg ++ [c]).length : Int) = m.n then .cr else .byt }
  | .cr => if c = 13 then some { m with σ := .lf2 } else none
  | .lf2 => if c = 10 then
      (if ((m.args ++ [m.arg]).length : Int) < m.many then some { m with args := m.args ++ [m.arg], σ := .dol }
      else some { m with args := m.args ++ [m.arg], out := m.out ++ [m.args ++ [m.arg]], left := 0, σ := .star })
    else none
/-- Bytes: the commands that came, how many bytes are left, whether it is wrong. -/
def res : Mc → Bs → List (List Bs) × Nat × Bool
  | m, [] => (m.out, m.left, false)
  | m, c :: l => match step { m with left := m.left + 1 } c with
    | none => (m.out, 0, true)
    | some m' => res m' l
/-- The machine behind bytes. -/
def run : Mc → Bs → Option Mc
  | m, [] => some m
  | m, c :: l => match step { m with left := m.left + 1 } c with
    | none => none
    | some m' => run m' l
/-! ### The parser -/
inductive P3 (α : Type) where
  | short
  | wrong
  | ok (a : α) (r : Bs)
def endP (n : Int) : Bs → P3 Int
  | [] => .short
  | d :: r => if d = 10 then .ok n r else .wrong
def numP (k : Ks) : Int → Bool → Bs → P3 Int
  | _, _, [] => .short
  | n, s, c :: l => if c = 13 ∧ s = true ∧ k.least ≤ n then endP n l
    else if c < 48 ∨ 57 < c ∨ (s = true ∧ n = 0) then .wrong
    else if k.most < 10 * n + ((c.toNat : Int) - 48) ∨ (10 * n + ((c.toNat : Int) - 48) = 0 ∧ 0 < k.least) then .wrong
    else numP k (10 * n + ((c.toNat : Int) - 48)) true l
def lineP (sign : UInt8) (k : Ks) : Bs → P3 Int
  | [] => .short
  | c :: l => if c = sign then numP k 0 false l else .wrong
/-- So many bytes, and an end. -/
def bytP : Nat → Bs → P3 Bs
  | 0, [] => .short
  | 0, c :: l => if c = 13 then (match endP 0 l with
      | .short => .short
      | .wrong => .wrong
      | .ok _ r => .ok [] r) else .wrong
  | _ + 1, [] => .short
  | n + 1, c :: l => match bytP n l with
    | .short => .short
    | .wrong => .wrong
    | .ok a r => .ok (c :: a) r
def argP (l : Bs) : P3 Bs := match lineP 36 .szd l with
  | .short => .short
  | .wrong => .wrong
  | .ok n r => bytP n.toNat r
def argsP : Nat → Bs → P3 (List Bs)
  | 0, l => .ok [] l
  | k + 1, l => match argP l with
    | .short => .short
    | .wrong => .wrong
    | .ok a r => match argsP k r with
      | .short => .short
      | .wrong => .wrong
      | .ok as r2 => .ok (a :: as) r2
def cmdP (l : Bs) : P3 (List Bs) := match lineP 42 .cnt l with
  | .short => .short
  | .wrong => .wrong
  | .ok n r => argsP n.toNat r
/-! ### The machine reads what the parser reads -/
/-- What comes of a piece: cut short, wrong, or the machine behind it. -/
def after {α : Type} (m : Mc) (l : Bs) (next : α → Bs → List (List Bs) × Nat × Bool) : P3 α → List (List Bs) × Nat × Bool
  | .short => (m.out, m.left + l.length, false)
  | .wrong => (m.out, 0, true)
  | .ok a r => next a r
theorem res_num (k : Ks) : ∀ (l : Bs) (m : Mc), m.σ = .num k → res m l = after m l (fun n r => match k with
    | .cnt => res { m with n := n, some := true, many := n, args := [], σ := .dol, left := m.left + (l.length - r.length) } r
    | .szd => res { m with n := n, some := true, arg := [], σ := if n = 0 then .cr else .byt, left := m.left + (l.length - r.length) } r) (numP k m.n m.some l)
  | [], m, h => by simp [res, numP, after]
  | c :: l, m, h => by
    rw [res]
    simp only [step, h, numP]
    by_cases h1 : c = 13 ∧ m.some = true ∧ k.least ≤ m.n
    · rw [if_pos h1, if_pos h1]
      simp only []
      cases l with
      | nil => simp [res, endP, after]
      | cons d r =>
        rw [res]
        have hs : m.some = true := h1.2.1
        cases k with
        | cnt =>
          simp only [step, endP]
          by_cases h2 : d = 10
          · rw [if_pos h2, if_pos h2]; simp only [after, List.length_cons]
            congr 1
            rw [← hs]; congr 1; omega
          · rw [if_neg h2, if_neg h2]; simp only [after]
        | szd =>
          simp only [step, endP]
          by_cases h2 : d = 10
          · rw [if_pos h2, if_pos h2]; simp only [after, List.length_cons]
            congr 1
            rw [← hs]; congr 1; omega
          · rw [if_neg h2, if_neg h2]; simp only [after]
    · rw [if_neg h1, if_neg h1]
      by_cases h2 : c < 48 ∨ 57 < c ∨ (m.some = true ∧ m.n = 0)
      · rw [if_pos h2, if_pos h2]; simp only [after]
      · rw [if_neg h2, if_neg h2]
        by_cases h3 : k.most < 10 * m.n + ((c.toNat : Int) - 48) ∨ (10 * m.n + ((c.toNat : Int) - 48) = 0 ∧ 0 < k.least)
        · rw [if_pos h3, if_pos h3]; simp only [after]
        · rw [if_neg h3, if_neg h3]
          simp only []
          rw [res_num k l _ rfl]
          simp only []
          cases hq : numP k (10 * m.n + ((c.toNat : Int) - 48)) true l with
          | short => simp only [after, List.length_cons]; congr 2; omega
          | wrong => simp only [after]
          | ok n r =>
            have hl : r.length ≤ l.length := numP_len hq
            cases k with
            | cnt => simp only [after, List.length_cons]; congr 2; omega
            | szd => simp only [after, List.length_cons]; congr 2; omega
where
  numP_len {k : Ks} : ∀ {l r : Bs} {n n' : Int} {s : Bool}, numP k n s l = .ok n' r → r.length ≤ l.length
  | [], r, n, n', s, h => by simp [numP] at h
  | c :: l, r, n, n', s, h => by
    rw [numP] at h
    split at h
    · cases l with
      | nil => simp [endP] at h
      | cons d l =>
        rw [endP] at h
        split at h
        · injection h with _ h; subst h; simp; omega
        · cases h
    · split at h
      · cases h
      · split at h
        · cases h
        · have := numP_len h; simp; omega
end Go.Proofs.YtamjocnlhhhijaaS
end

section
set_option linter.unusedSimpArgs false
set_option linter.unusedVariables false
namespace Go.Proofs.YtamjocnlhhhijaaS
/-- An argument is whole. -/
def ended (m : Mc) (a : Bs) : Mc := if ((m.args ++ [a]).length : Int) < m.many then { m with arg := a, args := m.args ++ [a], σ := .dol }
  else { m with arg := a, args := m.args ++ [a], out := m.out ++ [m.args ++ [a]], left := 0, σ := .star }
/-- So many bytes more. -/
def more (m : Mc) (k : Nat) : Mc := { m with left := m.left + k }
theorem numP_pos {k : Ks} : ∀ {l r : Bs} {n n' : Int} {s : Bool}, 0 ≤ n → numP k n s l = .ok n' r → k.least ≤ n' ∧ 0 ≤ n'
  | [], r, n, n', s, h0, h => by simp [numP] at h
  | c :: l, r, n, n', s, h0, h => by
    rw [numP] at h
    split at h
    · rename_i h1
      cases l with
      | nil => simp [endP] at h
      | cons d l =>
        rw [endP] at h
        split at h
        · injection h with h2 _; subst h2; exact ⟨h1.2.2, h0⟩
        · cases h
    · rename_i h1
      split at h
      · cases h
      · rename_i h2
        split at h
        · cases h
        · have h48 : ¬c < 48 := fun h3 => h2 (.inl h3)
          have : 48 ≤ c.toNat := by
            have := UInt8.not_lt.1 h48
            exact UInt8.le_iff_toNat_le.1 this
          exact numP_pos (by omega) h
theorem numP_lt {k : Ks} {l r : Bs} {n n' : Int} {s : Bool} (h : numP k n s l = .ok n' r) : r.length ≤ l.length := res_num.numP_len h
theorem lineP_lt {sign : UInt8} {k : Ks} {l r : Bs} {n : Int} (h : lineP sign k l = .ok n r) : r.length < l.length := by
  cases l with
  | nil => cases h
  | cons c l =>
    rw [lineP] at h
    split at h
    · have := numP_lt h; simp; omega
    · cases h
theorem lineP_pos {sign : UInt8} {k : Ks} {l r : Bs} {n : Int} (h : lineP sign k l = .ok n r) : k.least ≤ n ∧ 0 ≤ n := by
  cases l with
  | nil => cases h
  | cons c l =>
    rw [lineP] at h
    split at h
    · exact numP_pos (by omega) h
    · cases h
/-- The end of an argument. -/
theorem res_cr : ∀ (l : Bs) (m : Mc), m.σ = .cr → res m l = after m l (fun _ r => res (ended (more m (l.length - r.length)) m.arg) r) (bytP 0 l)
  | [], m, h => by simp [res, bytP, after]
  | c :: l, m, h => by
    rw [res, bytP]
    simp only [step, h]
    by_cases h1 : c = 13
    · rw [if_pos h1, if_pos h1]
      simp only []
      cases l with
      | nil => simp [res, endP, after]
      | cons d r =>
        rw [res]
        simp only [step, endP]
        by_cases h2 : d = 10
        · rw [if_pos h2, if_pos h2]
          simp only [after, more, ended, List.length_cons, show r.length + 1 + 1 - r.length = 2 by omega]
          by_cases h3 : ((m.args ++ [m.arg]).length : Int) < m.many
          · rw [if_pos h3, if_pos h3]
          · rw [if_neg h3, if_neg h3]
        · rw [if_neg h2, if_neg h2]; simp only [after]
    · rw [if_neg h1, if_neg h1]; simp only [after]
theorem bytP_len : ∀ (n : Nat) {l r a : Bs}, bytP n l = .ok a r → r.length + 2 + n ≤ l.length ∧ a.length = n
  | 0, [], r, a, h => by cases h
  | 0, c :: l, r, a, h => by
    rw [bytP] at h
    split at h
    · cases l with
      | nil => simp [endP] at h
      | cons d l =>
        rw [endP] at h
        by_cases h2 : d = 10
        · rw [if_pos h2] at h; simp only [] at h; injection h with h3 h4; subst h3; subst h4; simp
        · rw [if_neg h2] at h; cases h
    · cases h
  | n + 1, [], r, a, h => by cases h
  | n + 1, c :: l, r, a, h => by
    rw [bytP] at h
    cases hq : bytP n l with
    | short => rw [hq] at h; cases h
    | wrong => rw [hq] at h; cases h
    | ok a' r' =>
      rw [hq] at h; simp only [] at h; injection h with h3 h4; subst h3; subst h4
      have := bytP_len n hq
      simp; omega
/-- Bytes. -/
theorem res_byt : ∀ (l : Bs) (m : Mc) (k : Nat), m.σ = .byt → (m.arg.length : Int) + (k + 1) = m.n → res m l = after m l (fun a r => res (ended (more m (l.length - r.length)) (m.arg ++ a)) r) (bytP (k + 1) l)
  | [], m, k, h, hk => by simp [res, bytP, after]
  | c :: l, m, k, h, hk => by
    rw [res, bytP]
    simp only [step, h]
    cases k with
    | zero =>
      rw [if_pos (by simp; omega), res_cr l _ rfl]
      simp only []
      cases hq : bytP 0 l with
      | short => simp only [after, List.length_cons]; congr 2; omega
      | wrong => simp only [after]
      | ok a r =>
        have hl := bytP_len 0 hq
        obtain rfl : a = [] := List.eq_nil_of_length_eq_zero hl.2
        simp only [after, more, ended, List.length_cons]
        rw [show m.left + 1 + (l.length - r.length) = m.left + (l.length + 1 - r.length) by omega]
        rfl
    | succ k =>
      rw [if_neg (by simp; omega), res_byt l _ k rfl (by simp; omega)]
      simp only []
      cases hq : bytP (k + 1) l with
      | short => simp only [after, List.length_cons]; congr 2; omega
      | wrong => simp only [after]
      | ok a r =>
        have hl := bytP_len (k + 1) hq
        simp only [after, more, ended, List.length_cons, List.append_assoc, List.singleton_append]
        rw [show m.left + 1 + (l.length - r.length) = m.left + (l.length + 1 - r.length) by omega]
        rfl
theorem argP_len {l r a : Bs} (h : argP l = .ok a r) : r.length + 2 < l.length := by
  unfold argP at h
  cases hq : lineP 36 .szd l with
  | short => rw [hq] at h; cases h
  | wrong => rw [hq] at h; cases h
  | ok n r1 =>
    rw [hq] at h
    have h1 := lineP_lt hq
    have h2 := bytP_len _ h
    omega
/-- An argument, whatever the machine held. -/
theorem res_arg (l : Bs) (m : Mc) (h : m.σ = .dol) : res m l = after m l (fun a r => res (ended { more m (l.length - r.length) with n := a.length, some := true } a) r) (argP l) := by
  cases l with
  | nil => simp [res, argP, lineP, after]
  | cons c l =>
    rw [res]
    simp only [step, h]
    unfold argP
    rw [lineP]
    by_cases h1 : c = 36
    · rw [if_pos h1, if_pos h1]
      simp only []
      rw [res_num .szd l _ rfl]
      simp only []
      cases hq : numP .szd 0 false l with
      | short => simp only [after, List.length_cons]; congr 2; omega
      | wrong => simp only [after]
      | ok n r =>
        have hl := numP_lt hq
        obtain ⟨_, h0⟩ := numP_pos (by omega) hq
        simp only [after]
        by_cases hn : n = 0
        · subst hn
          rw [if_pos rfl, res_cr r _ rfl]
          simp only [show (0 : Int).toNat = 0 from rfl]
          cases hb : bytP 0 r with
          | short => simp only [after, List.length_cons]; congr 2; omega
          | wrong => simp only [after]
          | ok a r2 =>
            have h2 := bytP_len 0 hb
            obtain rfl : a = [] := List.eq_nil_of_length_eq_zero h2.2
            simp only [after, more, List.length_cons, List.length_nil]
            rw [show m.left + 1 + (l.length - r.length) + (r.length - r2.length) = m.left + (l.length + 1 - r2.length) by omega]
            rfl
        · obtain ⟨k, hk⟩ : ∃ k : Nat, n = (k : Int) + 1 := ⟨(n - 1).toNat, by omega⟩
          subst hk
          rw [if_neg hn, res_byt r _ k rfl (by simp)]
          simp only [show ((k : Int) + 1).toNat = k + 1 by omega]
          cases hb : bytP (k + 1) r with
          | short => simp only [after, List.length_cons]; congr 2; omega
          | wrong => simp only [after]
          | ok a r2 =>
            have h2 := bytP_len (k + 1) hb
            simp only [after, more, List.length_cons, List.nil_append, h2.2]
            rw [show m.left + 1 + (l.length - r.length) + (r.length - r2.length) = m.left + (l.length + 1 - r2.length) by omega]
            rfl
    · rw [if_neg h1, if_neg h1]; simp only [after]
theorem argsP_len : ∀ (k : Nat) {l r : Bs} {as : List Bs}, argsP k l = .ok as r → r.length ≤ l.length ∧ as.length = k
  | 0, l, r, as, h => by injection h with h1 h2; subst h1; subst h2; exact ⟨Nat.le_refl _, rfl⟩
  | k + 1, l, r, as, h => by
    rw [argsP] at h
    cases ha : argP l with
    | short => rw [ha] at h; cases h
    | wrong => rw [ha] at h; cases h
    | ok a r1 =>
      rw [ha] at h
      simp only [] at h
      cases hq : argsP k r1 with
      | short => rw [hq] at h; cases h
      | wrong => rw [hq] at h; cases h
      | ok as' r2 =>
        rw [hq] at h
        simp only [] at h
        injection h with h1 h2
        subst h1; subst h2
        have e1 := argP_len ha
        have e2 := argsP_len k hq
        simp; omega
/-- All commands that bytes begin with; how many are left; whether they are wrong. -/
def whl : Nat → List (List Bs) → Bs → List (List Bs) × Nat × Bool
  | 0, out, l => (out, l.length, false)
  | _ + 1, out, [] => (out, 0, false)
  | f + 1, out, c :: l => match cmdP (c :: l) with
    | .short => (out, (c :: l).length, false)
    | .wrong => (out, 0, true)
    | .ok as r => whl f (out ++ [as]) r
theorem res_args_len (F : List (List Bs) → Bs → List (List Bs) × Nat × Bool) (N : Nat) (hF : ∀ (m : Mc) (l : Bs), l.length ≤ N → m.σ = .star → m.left = 0 → res m l = F m.out l) :
    ∀ (k : Nat) (l : Bs) (m : Mc), m.σ = .dol → (m.args.length : Int) + (k + 1) = m.many → l.length ≤ N → res m l = after m l (fun as r => F (m.out ++ [m.args ++ as]) r) (argsP (k + 1) l) := by
  intro k
  induction k with
  | zero =>
    intro l m h hm hN
    rw [res_arg l m h, argsP]
    cases ha : argP l with
    | short => simp only [after]
    | wrong => simp only [after]
    | ok a r =>
      have hl := argP_len ha
      simp only [after, argsP]
      unfold ended
      rw [if_neg (by simp [more]; omega)]
      exact hF _ _ (by omega) rfl rfl
  | succ k ih =>
    intro l m h hm hN
    rw [res_arg l m h, argsP]
    cases ha : argP l with
    | short => simp only [after]
    | wrong => simp only [after]
    | ok a r =>
      have hl := argP_len ha
      simp only [after]
      unfold ended
      rw [if_pos (by simp [more]; omega), ih r _ rfl (by simp [more]; omega) (by omega)]
      cases hq : argsP (k + 1) r with
      | short => simp only [after, more]; congr 2; omega
      | wrong => simp only [after, more]
      | ok as r2 => simp only [after, more, List.append_assoc, List.singleton_append]
theorem cmdP_lt {l r : Bs} {as : List Bs} (h : cmdP l = .ok as r) : r.length < l.length := by
  unfold cmdP at h
  cases hq : lineP 42 .cnt l with
  | short => rw [hq] at h; cases h
  | wrong => rw [hq] at h; cases h
  | ok n r1 =>
    rw [hq] at h
    have h1 := lineP_lt hq
    have h2 := argsP_len _ h
    omega
/-- THE WHOLE: the machine, fed bytes from a command's begin, tells what the parser tells. -/
theorem res_whl : ∀ (f : Nat) (l : Bs) (m : Mc), l.length ≤ f → m.σ = .star → m.left = 0 → res m l = whl f m.out l := by
  intro f
  induction f with
  | zero =>
    intro l m hf h h0
    obtain rfl : l = [] := List.eq_nil_of_length_eq_zero (by omega)
    simp [res, whl, h0]
  | succ f ih =>
    intro l m hf h h0
    cases l with
    | nil => simp [res, whl, h0]
    | cons c l =>
      rw [res, whl]
      simp only [step, h]
      unfold cmdP
      rw [lineP]
      by_cases h1 : c = 42
      · rw [if_pos h1, if_pos h1]
        simp only []
        rw [res_num .cnt l _ rfl]
        simp only []
        cases hq : numP .cnt 0 false l with
        | short => simp only [after, List.length_cons, h0]; congr 2; omega
        | wrong => simp only [after]
        | ok n r =>
          have hl := numP_lt hq
          obtain ⟨h2, h3⟩ := numP_pos (by omega) hq
          have h2 : 1 ≤ n := h2
          obtain ⟨k, hk⟩ : ∃ k : Nat, n = (k : Int) + 1 := ⟨(n - 1).toNat, by omega⟩
          subst hk
          simp only [after]
          rw [res_args_len (fun out l => whl f out l) f (fun m l hN hs hl0 => ih l m hN hs hl0) k r _ rfl (by simp) (by simp at hf; omega)]
          simp only [show ((k : Int) + 1).toNat = k + 1 by omega]
          cases hb : argsP (k + 1) r with
          | short => simp only [after, List.length_cons, h0]; congr 2; omega
          | wrong => simp only [after]
          | ok as r2 => simp only [after, List.nil_append]
      · rw [if_neg h1, if_neg h1]
end Go.Proofs.YtamjocnlhhhijaaS
end

section
set_option linter.unusedSimpArgs false
set_option linter.unusedVariables false
namespace Go.Proofs.YtamjocnlhhhijaaS
open Go.Proofs.YtamjocnlhhhijaaK
/-- Digits, one by one. -/
def okrun (k : Ks) : Int → Bool → Bs → Option Int
  | n, _, [] => some n
  | n, s, c :: l => if s = true ∧ n = 0 then none
    else if k.most < 10 * n + ((c.toNat : Int) - 48) ∨ (10 * n + ((c.toNat : Int) - 48) = 0 ∧ 0 < k.least) then none
    else okrun k (10 * n + ((c.toNat : Int) - 48)) true l
theorem dig_lt {c : UInt8} (h : dig c) : ¬c = 13 ∧ ¬c < 48 ∧ ¬57 < c := by
  unfold dig at h
  refine ⟨fun e => by subst e; simp at h, fun e => ?_, fun e => ?_⟩
  · have := UInt8.lt_iff_toNat_lt.1 e; simp at this; omega
  · have := UInt8.lt_iff_toNat_lt.1 e; simp at this; omega
theorem numP_run (k : Ks) : ∀ (ds : Bs) (n : Int) (s : Bool) (r : Bs), (∀ c ∈ ds, dig c) → numP k n s (ds ++ r) = match okrun k n s ds with
    | none => .wrong
    | some n' => numP k n' (s || !ds.isEmpty) r
  | [], n, s, r, _ => by simp [okrun]
  | c :: ds, n, s, r, h => by
    obtain ⟨h1, h2, h3⟩ := dig_lt (h c List.mem_cons_self)
    rw [List.cons_append, numP, if_neg (fun h => h1 h.1), okrun]
    by_cases h4 : s = true ∧ n = 0
    · rw [if_pos (.inr (.inr h4)), if_pos h4]
    · rw [if_neg (by rintro (h | h | h); exact h2 h; exact h3 h; exact h4 h), if_neg h4]
      by_cases h5 : k.most < 10 * n + ((c.toNat : Int) - 48) ∨ (10 * n + ((c.toNat : Int) - 48) = 0 ∧ 0 < k.least)
      · rw [if_pos h5, if_pos h5]
      · rw [if_neg h5, if_neg h5, numP_run k ds _ true r (fun x hx => h x (List.mem_cons_of_mem _ hx))]
        simp
/-- With a digit that is no nought ahead: just while it is not too much. -/
theorem okrun_pos (k : Ks) : ∀ (ds : Bs) (m : Nat), 1 ≤ m → (∀ c ∈ ds, dig c) → okrun k m true ds = if ds = [] ∨ ((vl0 m ds : Nat) : Int) ≤ k.most then some ((vl0 m ds : Nat) : Int) else none
  | [], m, hm, _ => by simp [okrun, vl0]
  | c :: ds, m, hm, h => by
    have hd := h c List.mem_cons_self
    unfold dig at hd
    rw [okrun, if_neg (fun h => by have := h.2; omega)]
    have e : 10 * (m : Int) + ((c.toNat : Int) - 48) = ((10 * m + (c.toNat - 48) : Nat) : Int) := by omega
    have ev : vl0 m (c :: ds) = vl0 (10 * m + (c.toNat - 48)) ds := rfl
    have hge := vl0_ge (10 * m + (c.toNat - 48)) ds
    rw [e]
    by_cases h5 : k.most < ((10 * m + (c.toNat - 48) : Nat) : Int)
    · rw [if_pos (.inl h5), if_neg]
      rintro (h6 | h6)
      · cases h6
      · rw [ev] at h6; omega
    · rw [if_neg (by rintro (h6 | h6); exact h5 h6; omega), okrun_pos k ds _ (by omega) (fun x hx => h x (List.mem_cons_of_mem _ hx)), ev]
      by_cases h7 : ds = []
      · subst h7
        rw [if_pos (.inl rfl), if_pos (.inr (by show ((10 * m + (c.toNat - 48) : Nat) : Int) ≤ _; omega))]
      · by_cases h8 : ((vl0 (10 * m + (c.toNat - 48)) ds : Nat) : Int) ≤ k.most
        · rw [if_pos (.inr h8), if_pos (.inr h8)]
        · rw [if_neg (by rintro (h | h); exact h7 h; exact h8 h), if_neg (by rintro (h | h); cases h; exact h8 h)]
/-- Digits that may be a number: the one that they print. -/
def mayN (k : Ks) (ds : Bs) : Prop := ds ≠ [] ∧ k.least ≤ (vl ds : Int) ∧ (vl ds : Int) ≤ k.most ∧ dg (vl ds) = ds
theorem vl0_cons (m : Nat) (c : UInt8) (ds : Bs) : vl0 m (c :: ds) = vl0 (10 * m + (c.toNat - 48)) ds := by unfold vl0; rw [List.foldl_cons]
theorem dg_pos (ds : Bs) : ∀ (m : Nat), 1 ≤ m → (∀ c ∈ ds, dig c) → dg (vl0 m ds) = dg m ++ ds := by
  induction ds with
  | nil =>
    intro m _ _
    have e : vl0 m [] = m := rfl
    rw [List.append_nil, e]
  | cons c ds ih =>
    intro m hm h
    have hd := h c List.mem_cons_self
    unfold dig at hd
    rw [vl0_cons, ih _ (by omega) (fun x hx => h x (List.mem_cons_of_mem _ hx)), dg_ten m (c.toNat - 48) hm (by omega)]
    have : ch (c.toNat - 48) = c := UInt8.toNat_inj.1 (by rw [ch_nat (by omega)]; omega)
    rw [this, List.append_assoc, List.singleton_append]
theorem okrun_all (k : Ks) {ds : Bs} (hne : ds ≠ []) (h : ∀ c ∈ ds, dig c) : (mayN k ds → okrun k 0 false ds = some (vl ds : Int)) ∧ (¬mayN k ds → okrun k 0 false ds = none) := by
  cases ds with
  | nil => exact absurd rfl hne
  | cons c ds =>
    have hd := h c List.mem_cons_self
    unfold dig at hd
    have hr := fun x hx => h x (List.mem_cons_of_mem _ hx)
    have hL : k.least = 0 ∨ k.least = 1 := by cases k; exact .inr rfl; exact .inl rfl
    have hM : 9 ≤ k.most := by cases k <;> decide
    rw [okrun, if_neg (fun h => by have := h.1; cases this)]
    have e : 10 * (0 : Int) + ((c.toNat : Int) - 48) = ((c.toNat - 48 : Nat) : Int) := by omega
    rw [e]
    have ev : vl (c :: ds) = vl0 (c.toNat - 48) ds := by unfold vl; rw [vl0_cons]; simp
    by_cases hc : c.toNat = 48
    · have e0 : c.toNat - 48 = 0 := by omega
      rw [e0] at ev ⊢
      by_cases hl : 0 < k.least
      · rw [if_pos (.inr ⟨rfl, hl⟩)]
        refine ⟨fun hm => ?_, fun _ => rfl⟩
        exfalso
        obtain ⟨_, h1, _, h3⟩ := hm
        cases ds with
        | nil => rw [ev] at h1; simp [vl0] at h1; omega
        | cons d ds => exact no_nought hc h3
      · rw [if_neg (by rintro (h1 | h1); (simp at h1; omega); exact hl h1.2)]
        cases ds with
        | nil =>
          refine ⟨fun _ => by rw [ev]; simp [okrun, vl0], fun hm => ?_⟩
          exfalso
          apply hm
          refine ⟨by simp, by rw [ev]; simp [vl0]; omega, by rw [ev]; simp [vl0]; omega, ?_⟩
          rw [ev]
          show dg 0 = [c]
          rw [dg_lt (by omega), show ch 0 = c from UInt8.toNat_inj.1 (by rw [ch_nat (by omega)]; omega)]
        | cons d ds =>
          rw [okrun, if_pos ⟨rfl, rfl⟩]
          exact ⟨fun hm => (no_nought hc hm.2.2.2).elim, fun _ => rfl⟩
    · rw [if_neg (by rintro (h1 | h1) <;> omega), okrun_pos k ds _ (by omega) hr, ← ev]
      have hdg : dg (vl (c :: ds)) = c :: ds := by
        rw [ev, dg_pos ds _ (by omega) hr, dg_lt (by omega), show ch (c.toNat - 48) = c from UInt8.toNat_inj.1 (by rw [ch_nat (by omega)]; omega)]; rfl
      have hpos : 1 ≤ vl (c :: ds) := by rw [ev]; have := vl0_ge (c.toNat - 48) ds; omega
      refine ⟨fun hm => by rw [if_pos (.inr hm.2.2.1)], fun hm => ?_⟩
      rw [if_neg]
      rintro (h1 | h1)
      · subst h1
        exact hm ⟨by simp, by omega, by rw [ev]; show ((c.toNat - 48 : Nat) : Int) ≤ _; omega, hdg⟩
      · exact hm ⟨by simp, by omega, h1, hdg⟩
where
  no_nought {c d : UInt8} {ds : Bs} (hc : c.toNat = 48) (h : dg (vl (c :: d :: ds)) = c :: d :: ds) : False := by
    by_cases hm : vl (c :: d :: ds) < 10
    · rw [dg_lt hm] at h; simp at h
    · obtain ⟨c', r', e, h1, _⟩ := dg_head (vl (c :: d :: ds)) (by omega)
      rw [e] at h
      injection h with h2 _
      exact h1 (by rw [h2]; exact UInt8.toNat_inj.1 hc)
theorem not_dig {c : UInt8} (h : ¬dig c) : c < 48 ∨ 57 < c := by
  unfold dig at h
  rcases Nat.lt_or_ge c.toNat 48 with h1 | h1
  · exact .inl (UInt8.lt_iff_toNat_lt.2 h1)
  · exact .inr (UInt8.lt_iff_toNat_lt.2 (by show 57 < c.toNat; omega))
theorem mayN_len {k : Ks} {ds : Bs} (h : mayN k ds) : ds.length ≤ 4 := by
  have hM : k.most ≤ 1000 := by cases k <;> decide
  have := dg_len 3 (vl ds) (by have := h.2.2.1; omega)
  rw [h.2.2.2] at this; exact this
theorem lineP_of (sign : UInt8) (k : Ks) {ds r : Bs} (hd : ∀ c ∈ ds, dig c) (hr : r = [] ∨ (∃ c r', r = c :: r' ∧ ¬dig c) ∨ ds.length = 5) :
    (mayN k ds → lineP sign k (sign :: (ds ++ r)) = match r with
      | [] => .short
      | c :: r' => if c = 13 then endP (vl ds) r' else .wrong) ∧ (¬mayN k ds → lineP sign k (sign :: (ds ++ r)) = if ds = [] ∧ r = [] then .short else .wrong) := by
  rw [lineP, if_pos rfl, numP_run k ds 0 false r hd]
  by_cases hne : ds = []
  · subst hne
    refine ⟨fun h => absurd rfl h.1, fun _ => ?_⟩
    simp only [okrun]
    cases r with
    | nil => rw [numP, if_pos (by simp)]
    | cons c r' =>
      have hc : ¬dig c := by
        rcases hr with h | ⟨c', r2, h, h2⟩ | h
        · cases h
        · injection h with h3 _; subst h3; exact h2
        · simp at h
      rw [numP, if_neg (fun h => by have := h.2.1; simp at this), if_pos (by rcases not_dig hc with h | h; exact .inl h; exact .inr (.inl h)), if_neg (fun h => by have := h.2; cases this)]
  · obtain ⟨h1, h2⟩ := okrun_all k hne hd
    refine ⟨fun hm => ?_, fun hm => ?_⟩
    · rw [h1 hm]
      simp only []
      have hs : (false || !ds.isEmpty) = true := by cases ds; exact absurd rfl hne; rfl
      rw [hs]
      cases r with
      | nil => rw [numP]
      | cons c r' =>
        have hc : ¬dig c := by
          rcases hr with h | ⟨c', r2, h, h2⟩ | h
          · cases h
          · injection h with h3 _; subst h3; exact h2
          · have := mayN_len hm; omega
        rw [numP]
        simp only []
        by_cases h13 : c = 13
        · rw [if_pos (by simp [h13, hm.2.1]), if_pos h13]
        · rw [if_neg (fun h => h13 h.1), if_neg h13, if_pos (by rcases not_dig hc with h | h; exact .inl h; exact .inr (.inl h))]
    · rw [h2 hm, if_neg (fun h => hne h.1)]
end Go.Proofs.YtamjocnlhhhijaaS
end
