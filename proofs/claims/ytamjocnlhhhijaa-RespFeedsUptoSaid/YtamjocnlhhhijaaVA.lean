/- Vcg, part 1: a symbolic executor of the model's code (my own; no file of the kit): values, expressions, the tree, the run. Vcg, part 2: the run of an operation, a region, a piece of code, on symbolic values. Vcg, part 3: what a symbolic state says of a frame and a world; values. Vcg, part 4: the Bool equalities are equalities; tests that are known; the values of operations. Vcg, part 5: an operation that yields a value. Vcg, part 6: an operation that yields a value, all of them. Vcg, part 7: loads, stores, new blocks, calls. -/
import Derived.WalkKit
import Derived.KernelRfl
import Derived.Laws.AppendOwn
import Derived.Laws.OwnMore
import Derived.Lib.AppendStr
import Derived.Laws.StructEq
set_option linter.unusedSimpArgs false
set_option linter.unusedVariables false
namespace Go.Proofs.YtamjocnlhhhijaaV
open Go

/-! ### Ghosts, atoms -/
/-- What a box holds that a function value has captured: a number, a function, that value itself. -/
inductive Cc where
  | int (k : IntKind) (z : Int)
  | fn (f : FuncId)
  | self
def Cc.eq : Cc → Cc → Bool
  | .int k z, .int k' z' => k == k' && z == z'
  | .fn f, .fn g => f == g
  | .self, .self => true
  | _, _ => false
/-- What a value reads as: nothing is told, or a slice's elements, cell by cell; or what a function value's boxes hold. -/
inductive D where
  | leaf
  | rows (sz : Nat) (els : List (List (Value × D)))
  | clo (cs : List Cc)
abbrev Atom := Value × D
def D.els : D → List (List Atom) | .rows _ e => e | _ => []
def vi : Value → Int | .int _ n => n | _ => 0
def vb : Value → Bool | .bool b => b | _ => false
def vs : Value → ByteArray | .string s => s | _ => ByteArray.empty
def va : Value → Option Addr | .slice a _ _ => a | _ => none
def vn : Value → Nat | .slice _ n _ => n | _ => 0
def vc : Value → Nat | .slice _ _ c => c | _ => 0
@[simp] theorem vi_int (k : IntKind) (n : Int) : vi (.int k n) = n := rfl
@[simp] theorem vb_bool (b : Bool) : vb (.bool b) = b := rfl
@[simp] theorem vs_string (s : ByteArray) : vs (.string s) = s := rfl
@[simp] theorem vn_slice (a : Option Addr) (n c : Nat) : vn (.slice a n c) = n := rfl
@[simp] theorem va_slice (a : Option Addr) (n c : Nat) : va (.slice a n c) = a := rfl
def atom0 : Atom := (.bool false, .leaf)
def eqL {α : Type} (e : α → α → Bool) : List α → List α → Bool
  | [], [] => true
  | a :: l, b :: m => e a b && eqL e l m
  | _, _ => false
/-- Is this atom that function, its boxes so? No function and no boxes: is it nil? No function and some: it is whatever it is. -/
def cloB : Option FuncId → List Cc → Atom → Bool
  | some f, cs, (.func (.func g) _ _, .clo cs') => g == f && eqL Cc.eq cs cs'
  | none, [], (.nilFunc, _) => true
  | none, _ :: _, _ => true
  | _, _, _ => false
/-- What a function value has captured. -/
def capAt : Value → Nat → Value
  | .func _ _ caps, j => caps.getD j Go.undef
  | _, _ => Go.undef

/-! ### Expressions -/
inductive X where
  | at (i : Nat)
  | int (z : Int)
  | bool (b : Bool)
  | str (l : List UInt8)
  | nil (sz : Nat)
  | ar (op : BinOp) (k : IntKind) (x y : X)
  | neg (k : IntKind) (x : X)
  | wrap (k : IntKind) (x : X)
  | cmp (op : BinOp) (x y : X)
  | mn (x y : X)
  | mx (x y : X)
  | not (x : X)
  | ite (c x y : X)
  | beq (x y : X)
  | len (x : X)
  | size (x : X)
  | cell (s i : X) (j : Nat)
  | byte (s i : X)
  | sub (s i j : X)
  | cat (s t : X)
  | seq (s t : X)
  | slt (s t : X)
  | nilp (x : X)
  | cap (x : X)
  | ifn (x : X)
  | chr (x : X)
  | sob (x : X)
  | rsub (z : Nat) (s a b : X)
  | clo (f : Option FuncId) (cs : List Cc) (x : X)
  | raw (x : X)

def bitsD (k : IntKind) (f : BitVec k.bits → BitVec k.bits → BitVec k.bits) (a b : Int) : Int := k.wrap (f (BitVec.ofInt k.bits a) (BitVec.ofInt k.bits b)).toNat
def quoD (k : IntKind) (a b : Int) : Int := k.wrap (a.tdiv b)
def remD (a b : Int) : Int := a.tmod b
def arD (op : BinOp) (k : IntKind) (a b : Int) : Int :=
  match op with
  | .add => k.wrap (a + b)
  | .sub => k.wrap (a - b)
  | .mul => k.wrap (a * b)
  | .quo => quoD k a b
  | .rem => remD a b
  | .shl => k.wrap (a * 2 ^ (min b.toNat k.bits))
  | .shr => a.fdiv (2 ^ (min b.toNat k.bits))
  | .and => bitsD k (· &&& ·) a b
  | .or => bitsD k (· ||| ·) a b
  | .xor => bitsD k (· ^^^ ·) a b
  | .andNot => bitsD k (fun x y => x &&& ~~~y) a b
  | _ => 0
def cmpD (op : BinOp) (a b : Int) : Bool :=
  match op with
  | .eql => a == b
  | .neq => a != b
  | .lss => a < b
  | .leq => a ≤ b
  | .gtr => a > b
  | .geq => a ≥ b
  | _ => false
def mnD (a b : Int) : Int := if b < a then b else a
def mxD (a b : Int) : Int := if b > a then b else a
theorem mnD_eq (a b : Int) : mnD a b = min a b := by unfold mnD; omega
theorem mxD_eq (a b : Int) : mxD a b = max a b := by unfold mxD; omega
def cellD (a : Atom) (i : Int) (j : Nat) : Atom := ((a.2.els.getD i.toNat []).getD j atom0)
def updD (d : D) (i o : Nat) (row : List Atom) : D := match d with
  | .rows sz e => .rows sz (e.modify i fun r => r.take o ++ row ++ r.drop (o + row.length))
  | _ => .leaf
def isNilI : Value → Bool | .nilIface => true | _ => false
/-- The bytes of a row of bytes. -/
def byD (d : D) : ByteArray := ⟨(d.els.map fun r => UInt8.ofNat (vi (r.getD 0 atom0).1).toNat).toArray⟩
/-- A row of bytes. -/
def ofB (s : ByteArray) : List (List Atom) := s.data.toList.map fun b => [(.int .u8 b.toNat, .leaf)]
/-- Part of a slice. -/
def subA (z : Nat) (a : Atom) (l h : Nat) : Atom :=
  (.slice (if vc a.1 = l then va a.1 else (va a.1).map (·.add (l * z))) (h - l) (vc a.1 - l), match a.2 with
    | .rows sz els => if l ≤ h ∧ h ≤ els.length ∧ (els.length = 0 ∨ z = sz) then .rows sz ((els.take h).drop l) else .leaf
    | _ => .leaf)
def X.den (env : List Atom) : X → Atom
  | .at i => env.getD i atom0
  | .int z => (.int .i64 z, .leaf)
  | .bool b => (.bool b, .leaf)
  | .str l => (.string ⟨l.toArray⟩, .leaf)
  | .nil sz => (.slice none 0 0, .rows sz [])
  | .ar op k x y => (.int k (arD op k (vi (x.den env).1) (vi (y.den env).1)), .leaf)
  | .neg k x => (.int k (k.wrap (0 - vi (x.den env).1)), .leaf)
  | .wrap k x => (.int k (k.wrap (vi (x.den env).1)), .leaf)
  | .cmp op x y => (.bool (cmpD op (vi (x.den env).1) (vi (y.den env).1)), .leaf)
  | .mn x y => (.int .i64 (mnD (vi (x.den env).1) (vi (y.den env).1)), .leaf)
  | .mx x y => (.int .i64 (mxD (vi (x.den env).1) (vi (y.den env).1)), .leaf)
  | .not x => (.bool (!vb (x.den env).1), .leaf)
  | .ite c x y => if vb (c.den env).1 then x.den env else y.den env
  | .beq x y => (.bool (vb (x.den env).1 == vb (y.den env).1), .leaf)
  | .len x => (.int .i64 (vn (x.den env).1), .leaf)
  | .size x => (.int .i64 (vs (x.den env).1).size, .leaf)
  | .cell s i j => cellD (s.den env) (vi (i.den env).1) j
  | .byte s i => (.int .u8 (((vs (s.den env).1)[(vi (i.den env).1).toNat]?.map (·.toNat)).getD 0 : Nat), .leaf)
  | .sub s i j => (.string ((vs (s.den env).1).extract (vi (i.den env).1).toNat (vi (j.den env).1).toNat), .leaf)
  | .cat s t => (.string (vs (s.den env).1 ++ vs (t.den env).1), .leaf)
  | .seq s t => (.bool ((vs (s.den env).1).toList == (vs (t.den env).1).toList), .leaf)
  | .slt s t => (.bool (Op.bytesLess (vs (s.den env).1).toList (vs (t.den env).1).toList), .leaf)
  | .nilp x => (.bool (va (x.den env).1).isNone, .leaf)
  | .cap x => (.int .i64 (vc (x.den env).1), .leaf)
  | .ifn x => (.bool (isNilI (x.den env).1), .leaf)
  | .chr x => (.string ⟨#[UInt8.ofNat (vi (x.den env).1).toNat]⟩, .leaf)
  | .sob x => (.string (byD (x.den env).2), .leaf)
  | .rsub z s a b => subA z (s.den env) (vi (a.den env).1).toNat (vi (b.den env).1).toNat
  | .clo f cs x => (.bool (cloB f cs (x.den env)), .leaf)
  | .raw x => ((x.den env).1, .leaf)

def X.eq : X → X → Bool
  | .at i, .at j => i == j
  | .int a, .int b => a == b
  | .bool a, .bool b => a == b
  | .str a, .str b => a == b
  | .nil a, .nil b => a == b
  | .ar o k x y, .ar o' k' x' y' => o == o' && k == k' && x.eq x' && y.eq y'
  | .neg k x, .neg k' x' => k == k' && x.eq x'
  | .wrap k x, .wrap k' x' => k == k' && x.eq x'
  | .cmp o x y, .cmp o' x' y' => o == o' && x.eq x' && y.eq y'
  | .mn x y, .mn x' y' => x.eq x' && y.eq y'
  | .mx x y, .mx x' y' => x.eq x' && y.eq y'
  | .not x, .not x' => x.eq x'
  | .ite c x y, .ite c' x' y' => c.eq c' && x.eq x' && y.eq y'
  | .beq x y, .beq x' y' => x.eq x' && y.eq y'
  | .len x, .len x' => x.eq x'
  | .size x, .size x' => x.eq x'
  | .cell x y j, .cell x' y' j' => x.eq x' && y.eq y' && j == j'
  | .byte x y, .byte x' y' => x.eq x' && y.eq y'
  | .sub c x y, .sub c' x' y' => c.eq c' && x.eq x' && y.eq y'
  | .cat x y, .cat x' y' => x.eq x' && y.eq y'
  | .seq x y, .seq x' y' => x.eq x' && y.eq y'
  | .slt x y, .slt x' y' => x.eq x' && y.eq y'
  | .nilp x, .nilp x' => x.eq x'
  | .cap x, .cap x' => x.eq x'
  | .ifn x, .ifn x' => x.eq x'
  | .chr x, .chr x' => x.eq x'
  | .sob x, .sob x' => x.eq x'
  | .rsub z s a b, .rsub z' s' a' b' => z == z' && s.eq s' && a.eq a' && b.eq b'
  | .clo f cs x, .clo f' cs' x' => f == f' && eqL Cc.eq cs cs' && x.eq x'
  | .raw x, .raw x' => x.eq x'
  | _, _ => false
def X.bnd (n : Nat) : X → Bool
  | .at i => i < n
  | .int _ | .bool _ | .str _ | .nil _ => true
  | .neg _ x | .wrap _ x | .not x | .len x | .size x | .nilp x | .cap x | .ifn x | .chr x | .sob x | .clo _ _ x | .raw x => x.bnd n
  | .ar _ _ x y | .cmp _ x y | .mn x y | .mx x y | .beq x y | .cell x y _ | .byte x y | .cat x y | .seq x y | .slt x y => x.bnd n && y.bnd n
  | .ite c x y | .sub c x y => c.bnd n && x.bnd n && y.bnd n
  | .rsub _ s a b => s.bnd n && a.bnd n && b.bnd n
/-- None of these atoms is in it. -/
def X.avoid (l : List Nat) : X → Bool
  | .at i => l.all (· != i)
  | .int _ | .bool _ | .str _ | .nil _ | .raw _ => true
  | .neg _ x | .wrap _ x | .not x | .len x | .size x | .nilp x | .cap x | .ifn x | .chr x | .sob x | .clo _ _ x => x.avoid l
  | .ar _ _ x y | .cmp _ x y | .mn x y | .mx x y | .beq x y | .cell x y _ | .byte x y | .cat x y | .seq x y | .slt x y => x.avoid l && y.avoid l
  | .ite c x y | .sub c x y => c.avoid l && x.avoid l && y.avoid l
  | .rsub _ s a b => s.avoid l && a.avoid l && b.avoid l
def X.isAt (i : Nat) : X → Bool
  | .at j => i == j
  | _ => false

/-! ### Symbolic values -/
inductive S where
  | junk
  | undef
  | int (k : IntKind) (x : X)
  | bool (x : X)
  | str (x : X)
  | slc (x : X)
  | any (x : X)
  | ptr (b off : Nat)
  | eptr (s i : X) (sz off : Nat)
  | fn (f : FuncId) (caps : List Nat)
  | cst (v : Value)
  | mp (b : Nat)
  | bsl (b off len cap : Nat)
  | cptr (f : FuncId) (cs : List Cc) (x : X) (j : Nat)
inductive TV where
  | s (x : S)
  | agg (l : List S)
inductive SV where
  | one (t : TV)
  | tup (l : List TV)
def S.den (env : List Atom) (η : List Nat) : S → Value
  | .junk | .undef => Go.undef
  | .int k x => .int k (vi (x.den env).1)
  | .bool x => .bool (vb (x.den env).1)
  | .str x => .string (vs (x.den env).1)
  | .slc x | .any x => (x.den env).1
  | .ptr b off => .pointer (some ⟨η.getD b 0, off, none⟩)
  | .eptr s i sz off => .pointer ((va (s.den env).1).map (·.add ((vi (i.den env).1).toNat * sz + off)))
  | .fn f caps => .func (.func f) #[] (caps.map (fun b => Value.pointer (some ⟨η.getD b 0, 0, none⟩))).toArray
  | .cst v => v
  | .mp b => .map (some (η.getD b 0))
  | .bsl b off len cap => .slice (some ⟨η.getD b 0, off, none⟩) len cap
  | .cptr _ _ x j => capAt (x.den env).1 j
def TV.den (env : List Atom) (η : List Nat) : TV → Value
  | .s x => x.den env η
  | .agg l => .agg (l.map (S.den env η)).toArray
def SV.den (env : List Atom) (η : List Nat) : SV → Value
  | .one t => t.den env η
  | .tup l => .tuple (l.map (TV.den env η)).toArray
/-- A leaf as an atom, with its ghost. -/
def S.atom (env : List Atom) : S → Atom
  | .slc x | .any x => x.den env
  | s => (s.den env [], .leaf)
def S.pureB : S → Bool
  | .int _ _ | .bool _ | .str _ | .slc _ | .any _ => true
  | .cst v => match v with
    | .nilFunc | .nilIface | .pointer none | .map none => true
    | _ => false
  | _ => false
def S.bnd (n : Nat) : S → Bool
  | .int _ x | .bool x | .str x | .slc x | .any x => x.bnd n
  | .eptr s i _ _ => s.bnd n && i.bnd n
  | .cptr _ _ x _ => x.bnd n
  | _ => true
/-- What of it is read in memory has none of these atoms. -/
def S.avoid (l : List Nat) : S → Bool
  | .slc x | .any x => x.avoid l
  | _ => true
def TV.bnd (n : Nat) : TV → Bool
  | .s x => x.bnd n
  | .agg l => l.all (S.bnd n)
def SV.bnd (n : Nat) : SV → Bool
  | .one t => t.bnd n
  | .tup l => l.all (TV.bnd n)

/-! ### Kinds of leaves -/
inductive RK where
  | int (k : IntKind)
  | bool
  | str
  | slc
  | any
  | ifc
def RK.ok : RK → Value → Prop
  | .int k, v => ∃ n, v = .int k n
  | .bool, v => ∃ b, v = .bool b
  | .str, v => ∃ s, v = .string s
  | .slc, v => ∃ a n c, v = .slice a n c
  | .any, v => v.oneCell' = true
  | .ifc, v => v = .nilIface ∨ ∃ t x, v = .iface t x
def RK.S : RK → X → S
  | .int k, x => .int k x
  | .bool, x => .bool x
  | .str, x => .str x
  | .slc, x => .slc x
  | .any, x => .any x
  | .ifc, x => .any x
def KindsOk : List RK → List Atom → Prop
  | [], [] => True
  | k :: ks, a :: as => k.ok a.1 ∧ KindsOk ks as
  | _, _ => False

/-! ### Needs, the tree -/
inductive Nd where
  | tru (x : X)
  | kind (k : RK) (x : X)
  | row (x : X)
  | sz (x : X) (z : Nat)
  | bytes (x : X)
  | szz (x : X) (z : Nat)
def Nd.ok (env : List Atom) : Nd → Prop
  | .tru x => vb (x.den env).1 = true
  | .kind k x => k.ok (x.den env).1
  | .row x => ∃ z e, (x.den env).2 = .rows z e
  | .sz x z => ∃ e, (x.den env).2 = .rows z e
  | .bytes x => ∃ (z : Nat) (s : ByteArray), (x.den env).2 = .rows z (ofB s) ∧ (ofB s = [] ∨ z = 1)
  | .szz x z => ∃ z' e, (x.den env).2 = .rows z' e ∧ (e = [] ∨ z' = z)
/-- A contract's outside: the function, the shapes of its arguments (none: one cell), of its result (is it a tuple?), the kinds of the result's leaves. -/
structure Sig where
  f : FuncId
  ash : List (Option Nat)
  tup : Bool
  rsh : List (Option Nat)
  res : List RK
  own : List (Nat × TypeId × Nat)
/-- A contract's inside. -/
structure Con where
  pre : List Atom → Prop
  post : List Atom → List Atom → Prop

/-! ### The run -/
/-- A block of our own: cells; or a map of constant keys. -/
structure Blk where
  cells : List S
  ty : TypeId
  mp : Option (IntKind × List Int)
structure St where
  n : Nat
  tmps : List SV
  blks : List Blk
  known : List (X × Bool)
  own : List (Nat × TypeId × Nat)
  dead : List Nat
inductive T where
  | clo (f : Option FuncId) (cs : List Cc) (t : T)
  | ret (l : List S)
  | br (x : X) (t f : T)
  | need (d : Nd) (t : T)
  | call (i : Nat) (args : List S) (t : T)
  | new (sz : Nat) (rows : List (List S)) (t : T)
  | app (s x : X) (sz : Nat) (t : T)
  | apps (s x : X) (t : T)
  | sto (s i : X) (o : Nat) (row : List S) (t : T)
  | loop (ks : List RK) (init : List S) (body : T)
  | again (lvl : Nat) (l : List S)
  | pop (n : Nat) (t : T)
  | both (t f : T)
  | fin (st : St)
  | bad (n : Nat)

def T.wp (cs : Nat → Sig × Con) (Post : List Atom → Prop) : T → List Atom → List (List Atom → Prop) → Prop
  | .clo f cl t, env, L => ∀ x : Atom, x.1.oneCell' = true → cloB f cl x = true → t.wp cs Post (env ++ [x]) L
  | .ret l, env, _ => Post (l.map (S.atom env))
  | .br x t f, env, L => (vb (x.den env).1 = true → t.wp cs Post env L) ∧ (vb (x.den env).1 = false → f.wp cs Post env L)
  | .need d t, env, L => d.ok env ∧ t.wp cs Post env L
  | .call i args t, env, L => (cs i).2.pre (args.map (S.atom env)) ∧ ∀ outs, KindsOk (cs i).1.res outs → (cs i).2.post (args.map (S.atom env)) outs → t.wp cs Post (env ++ outs) L
  | .new sz rows t, env, L => ∀ g : Nat, t.wp cs Post (env ++ [(.slice (some ⟨g, 0, none⟩) rows.length rows.length, .rows sz (rows.map (List.map (S.atom env))))]) L
  | .app s x sz t, env, L => ∀ a c, t.wp cs Post (env ++ [(.slice a ((s.den env).2.els.length + (x.den env).2.els.length) c, .rows sz ((s.den env).2.els ++ (x.den env).2.els))]) L
  | .apps s x t, env, L => ∀ a c, t.wp cs Post (env ++ [(.slice a ((s.den env).2.els.length + (vs (x.den env).1).size) c, .rows 1 ((s.den env).2.els ++ ofB (vs (x.den env).1)))]) L
  | .sto s i o row t, env, L => t.wp cs Post (env ++ [((s.den env).1, updD (s.den env).2 (vi (i.den env).1).toNat o (row.map (S.atom env)))]) L
  | .loop ks init body, env, L => ∃ (I : List Atom → Prop) (μ : List Atom → Nat), I (init.map (S.atom env)) ∧
      ∀ as, KindsOk ks as → I as → body.wp cs Post (env ++ as) (L ++ [fun bs => I bs ∧ μ bs < μ as])
  | .again j l, env, L => (L.getD j (fun _ => False)) (l.map (S.atom env))
  | .pop n t, env, L => t.wp cs Post env (L.take n)
  | .both t f, env, L => t.wp cs Post env L ∧ f.wp cs Post env L
  | .fin _, _, _ => False
  | .bad _, _, _ => False

def St.look (st : St) (x : X) : Option Bool := (st.known.find? (fun p => p.1.eq x)).map (·.2)
/-! ### Equality, told by a Bool -/
def S.eq : S → S → Bool
  | .junk, .junk | .undef, .undef => true
  | .int k x, .int k' y => k == k' && x.eq y
  | .bool x, .bool y | .str x, .str y | .slc x, .slc y | .any x, .any y => x.eq y
  | .ptr b o, .ptr b' o' => b == b' && o == o'
  | .eptr s i z o, .eptr s' i' z' o' => s.eq s' && i.eq i' && z == z' && o == o'
  | .fn f l, .fn f' l' => f == f' && l == l'
  | .cst .nilFunc, .cst .nilFunc => true
  | .cst .nilIface, .cst .nilIface => true
  | .cst (.pointer none), .cst (.pointer none) => true
  | .cst (.map none), .cst (.map none) => true
  | .mp b, .mp b' => b == b'
  | .bsl b o l c, .bsl b' o' l' c' => b == b' && o == o' && l == l' && c == c'
  | .cptr f cs x j, .cptr f' cs' x' j' => f == f' && eqL Cc.eq cs cs' && x.eq x' && j == j'
  | _, _ => false
def TV.eq : TV → TV → Bool
  | .s a, .s b => a.eq b
  | .agg l, .agg m => eqL S.eq l m
  | _, _ => false
def SV.eq : SV → SV → Bool
  | .one a, .one b => a.eq b
  | .tup l, .tup m => eqL TV.eq l m
  | _, _ => false
def Blk.eq (a b : Blk) : Bool := eqL S.eq a.cells b.cells && a.ty == b.ty && a.mp == b.mp
def kEq (a b : X × Bool) : Bool := a.1.eq b.1 && a.2 == b.2
def St.eq (a b : St) : Bool := a.n == b.n && eqL SV.eq a.tmps b.tmps && eqL Blk.eq a.blks b.blks && eqL kEq a.known b.known && a.own == b.own && a.dead == b.dead
def RK.eq : RK → RK → Bool
  | .int k, .int k' => k == k'
  | .bool, .bool | .str, .str | .slc, .slc | .any, .any | .ifc, .ifc => true
  | _, _ => false
def Nd.eq : Nd → Nd → Bool
  | .tru x, .tru y => x.eq y
  | .kind k x, .kind k' y => k.eq k' && x.eq y
  | .row x, .row y => x.eq y
  | .sz x z, .sz y z' => x.eq y && z == z'
  | .bytes x, .bytes y => x.eq y
  | .szz x z, .szz y z' => x.eq y && z == z'
  | _, _ => false
def T.eq : T → T → Bool
  | .br x t f, .br x' t' f' => x.eq x' && t.eq t' && f.eq f'
  | .need d t, .need d' t' => d.eq d' && t.eq t'
  | .call i l t, .call i' l' t' => i == i' && eqL S.eq l l' && t.eq t'
  | .new z r t, .new z' r' t' => z == z' && eqL (eqL S.eq) r r' && t.eq t'
  | .app s x z t, .app s' x' z' t' => s.eq s' && x.eq x' && z == z' && t.eq t'
  | .apps s x t, .apps s' x' t' => s.eq s' && x.eq x' && t.eq t'
  | .sto s i o r t, .sto s' i' o' r' t' => s.eq s' && i.eq i' && o == o' && eqL S.eq r r' && t.eq t'
  | .clo f cs t, .clo f' cs' t' => f == f' && eqL Cc.eq cs cs' && t.eq t'
  | .fin a, .fin b => a.eq b
  | .bad n, .bad m => n == m
  | _, _ => false
/-- What follows behind the ends. -/
def T.bind (k : St → T) : T → T
  | .clo f cs t => .clo f cs (t.bind k)
  | .br x t f => .br x (t.bind k) (f.bind k)
  | .need d t => .need d (t.bind k)
  | .call i l t => .call i l (t.bind k)
  | .new sz rows t => .new sz rows (t.bind k)
  | .app s x z t => .app s x z (t.bind k)
  | .apps s x t => .apps s x (t.bind k)
  | .sto s i o r t => .sto s i o r (t.bind k)
  | .fin st => k st
  | .loop ks l t => .loop ks l (t.bind k)
  | .ret l => .ret l
  | .again j l => .again j l
  | .pop n t => .pop n (t.bind k)
  | .both t f => .both (t.bind k) (f.bind k)
  | .bad n => .bad n
def cstV : Value → Option SV
  | .int k n => some (.one (.s (.int k (.int n))))
  | .bool b => some (.one (.s (.bool (.bool b))))
  | .string s => some (.one (.s (.str (.str s.data.toList))))
  | .slice none 0 0 => some (.one (.s (.slc (.nil 0))))
  | .nilFunc => some (.one (.s (.cst .nilFunc)))
  | .nilIface => some (.one (.s (.cst .nilIface)))
  | .pointer none => some (.one (.s (.cst (.pointer none))))
  | .map none => some (.one (.s (.cst (.map none))))
  | _ => none
def cstS (v : Value) : Option S := match cstV v with
  | some (.one (.s x)) => some x
  | _ => none
def St.ev (st : St) : Operand → Option SV
  | .tmp t => match st.tmps[t]? with
    | some (.one (.s .junk)) => none
    | x => x
  | .const v => cstV v
  | .func f => some (.one (.s (.fn f [])))
  | .global _ => none
def allSome {α : Type} : List (Option α) → Option (List α)
  | [] => some []
  | none :: _ => none
  | some a :: r => (allSome r).map (a :: ·)
def TV.cells : TV → List S
  | .s x => [x]
  | .agg l => l
def SV.cells : SV → List S
  | .one t => t.cells
  | .tup _ => []
def SV.one? : SV → Option S
  | .one (.s x) => some x
  | _ => none
def isAggB (P : Program) (t : TypeId) : Option Bool := match P.underlying t with
  | some (.struct _) | some (.array _ _) => some true
  | some _ => some false
  | none => none
def sizeO (P : Program) (t : TypeId) : Option Nat := (P.info? t).map (·.size)
def zeroO (P : Program) (t : TypeId) : Option (List S) := match (P.info? t).bind (·.zero) with
  | some v => allSome (v.cells.toList.map cstS)
  | none => none
/-- The kinds of a type's cells. -/
def leafKinds (P : Program) : Nat → TypeId → Option (List RK)
  | 0, _ => none
  | d + 1, t => match P.underlying t with
    | some (.int k) => some [.int k]
    | some .bool => some [.bool]
    | some .string => some [.str]
    | some (.slice _) => some [.slc]
    | some (.interface _) => some [.ifc]
    | some (.struct fs) => (allSome (fs.toList.map fun f => leafKinds P d f.type)).map List.flatten
    | some (.array n e) => (leafKinds P d e).map fun l => (List.replicate n l).flatten
    | _ => none
def okCell : S → Bool
  | .junk | .undef | .cptr _ _ _ _ => false
  | .cst v => v.oneCell'
  | _ => true
def okCells (l : List S) : Bool := l.all okCell
/-- Its pointers are to the first n blocks. -/
def S.pb (n : Nat) : S → Bool
  | .ptr b _ | .mp b | .bsl b _ _ _ => b < n
  | .fn _ l => l.all (· < n)
  | _ => true
def TV.pb (n : Nat) : TV → Bool
  | .s x => x.pb n
  | .agg l => l.all (S.pb n)
def SV.pb (n : Nat) : SV → Bool
  | .one t => t.pb n
  | .tup l => l.all (TV.pb n)
def St.pbnd (st : St) : Bool := st.tmps.all (SV.pb st.blks.length) && st.blks.all (fun b => b.cells.all (S.pb st.blks.length))
/-- Part of an aggregate. -/
def partS (P : Program) (t : TypeId) (l : List S) (off : Nat) : Option SV :=
  match isAggB P t, sizeO P t with
  | some true, some n => if (l.drop off).length < n then none else some (.one (.agg ((l.drop off).take n)))
  | some false, _ => match l[off]? with
    | some x => some (.one (.s x))
    | none => none
  | _, _ => none
def fillS (place : Nat → Option (Nat × Nat)) (cells : List S) : List (Nat × List S) → Option (List S)
  | [] => some cells
  | (i, v) :: rest => match place i with
    | none => none
    | some (off, size) => if v.length != size || cells.length < off + v.length then none else fillS place (cells.take off ++ v ++ cells.drop (off + v.length)) rest
end Go.Proofs.YtamjocnlhhhijaaV

namespace Go.Proofs.YtamjocnlhhhijaaV
open Go

def St.put (st : St) (d : Option Tmp) (v : SV) : St := match d with
  | some i => { st with tmps := st.tmps.set i v }
  | none => st
def undefV : SV := .one (.s .undef)
def junkV : SV := .one (.s .junk)
def St.tells (st : St) : X → Option Bool
  | .bool b => some b
  | .not x => (st.tells x).map (!·)
  | x => st.look x
def St.knows (st : St) (x : X) (b : Bool) : St := { st with known := (x, b) :: st.known }
/-- A test: decided, or both ways. -/
def seBr (st : St) : X → (St → T) → (St → T) → T
  | .not y, kt, kf => seBr st y kf kt
  | x, kt, kf => match st.tells x with
    | some true => kt st
    | some false => kf st
    | none => .br x (kt (st.knows x true)) (kf (st.knows x false))
def needs (st : St) : List Nd → (St → T) → T
  | [], k => k st
  | .tru x :: r, k => match st.tells x with
    | some true => needs st r k
    | _ => .need (.tru x) (needs (st.knows x true) r k)
  | d :: r, k => .need d (needs st r k)
abbrev R (α : Type) := Option (List Nd × α)

def isCmp : BinOp → Bool
  | .eql | .neq | .lss | .leq | .gtr | .geq => true
  | _ => false
def isAr : BinOp → Bool
  | .add | .sub | .mul | .and | .or | .xor | .andNot => true
  | _ => false
def cmpX (op : BinOp) (x y : X) : X := match x, y with
  | .int a, .int b => .bool (cmpD op a b)
  | _, _ => .cmp op x y
def arX (op : BinOp) (k : IntKind) (x y : X) : X := match x, y with
  | .int a, .int b => .int (arD op k a b)
  | _, _ => .ar op k x y
def ansS (op : BinOp) (ds : List Nd) (x : X) : R SV := if op == .eql then some (ds, .one (.s (.bool x))) else if op == .neq then some (ds, .one (.s (.bool (.not x)))) else none
/-- A thing against nil: it is none. -/
def nilS (P : Program) (op : BinOp) (t : TypeId) (p q : S) : R SV :=
  match P.underlying t, p, q with
  | some (.slice _), .slc x, .slc (.nil _) => ansS op [.kind .slc x] (.nilp x)
  | some (.func _ _ _), .fn _ _, .cst .nilFunc => ansS op [] (.bool false)
  | some (.func _ _ _), .cst .nilFunc, .cst .nilFunc => ansS op [] (.bool true)
  | some (.pointer _), .ptr _ _, .cst (.pointer none) => ansS op [] (.bool false)
  | some (.pointer _), .cst (.pointer none), .cst (.pointer none) => ansS op [] (.bool true)
  | _, _, _ => none
/-- What this function value is known to be. -/
def cloK (x : X) : List (X × Bool) → Option (FuncId × List Cc)
  | [] => none
  | (q, b) :: r => match q with
    | .clo (some f) cs y => if b && y.eq x then some (f, cs) else cloK x r
    | _ => cloK x r
/-- A function value that is known, against nil. -/
def nilC (P : Program) (st : St) (op : BinOp) (t : TypeId) : S → S → R SV
  | .any x, .cst .nilFunc => match P.underlying t, cloK x st.known with
    | some (.func _ _ _), some _ => ansS op [] (.bool false)
    | _, _ => none
  | _, _ => none
def binS (P : Program) (op : BinOp) (t : TypeId) : S → S → R SV
  | .int k x, .int k' y =>
    if op == .shl || op == .shr then some ([.tru (cmpX .geq y (.int 0))], .one (.s (.int k (.ar op k x y)))) else
    if k != k' then none else
    if isAr op then some ([], .one (.s (.int k (arX op k x y)))) else
    if op == .quo || op == .rem then some ([.tru (cmpX .neq y (.int 0))], .one (.s (.int k (.ar op k x y)))) else
    if isCmp op then some ([], .one (.s (.bool (cmpX op x y)))) else none
  | .bool x, .bool y => match P.underlying t with
    | some .bool => if op == .eql then some ([], .one (.s (.bool (.beq x y)))) else if op == .neq then some ([], .one (.s (.bool (.not (.beq x y))))) else none
    | _ => none
  | .str x, .str y => match op with
    | .eql => some ([], .one (.s (.bool (.seq x y))))
    | .neq => some ([], .one (.s (.bool (.not (.seq x y)))))
    | .lss => some ([], .one (.s (.bool (.slt x y))))
    | .geq => some ([], .one (.s (.bool (.not (.slt x y)))))
    | .add => some ([.tru (.cmp .leq (.size (.cat x y)) (.int 9223372036854775807))], .one (.s (.str (.cat x y))))
    | _ => none
  | p, q => nilS P op t p q
/-- '==' of two cells of a type. -/
def eqCell (P : Program) (t : TypeId) : S → S → Option X
  | .int k x, .int k' y => match P.underlying t with
    | some (.int _) => if k == k' then some (cmpX .eql x y) else none
    | _ => none
  | .bool x, .bool y => match P.underlying t with
    | some .bool => some (.beq x y)
    | _ => none
  | .str x, .str y => match P.underlying t with
    | some .string => some (.seq x y)
    | _ => none
  | _, _ => none
def andX : X → X → X
  | x, .bool true => x
  | x, y => .ite x y (.bool false)
/-- '==' of two structs, field by field. -/
def eqFs (P : Program) (l m : List S) : List Field → Option X
  | [] => some (.bool true)
  | f :: fs => match f.name == "_", isAggB P f.type, l[f.offset]?, m[f.offset]?, eqFs P l m fs with
    | false, some false, some a, some b, some r => (eqCell P f.type a b).map fun x => andX x r
    | _, _, _, _, _ => none
def eqAgg (P : Program) (t : TypeId) (l m : List S) : Option X := match P.underlying t with
  | some (.struct fs) => if P.stoodInHeld t == false && P.eqGuardType P.depth t == false then eqFs P l m fs.toList else none
  | _ => none
def lenX : X → X
  | .nil _ => .int 0
  | x => .len x
def mnmx (mx : Bool) : S → List SV → Option S
  | s, [] => some s
  | .int k x, .one (.s (.int _ y)) :: r => mnmx mx (.int k (if mx then .mx x y else .mn x y)) r
  | _, _ => none
def capsOf : List SV → Option (List Nat)
  | [] => some []
  | .one (.s (.ptr b 0)) :: r => (capsOf r).map (b :: ·)
  | _ => none
def partOf (i : Nat) : SV → Option (Nat × List S)
  | .one t => if okCells t.cells then some (i, t.cells) else none
  | .tup _ => none
/-- What lies in memory is what is told of it: ours, or nobody's. -/
def rowOk (st : St) (s : X) : Bool := s.avoid st.dead && (st.own.any (fun o => s.isAt o.1) || s.avoid (st.own.map (·.1)))
def live (st : St) (s : X) : Bool := s.avoid st.dead && s.avoid (st.own.map (·.1))
/-- The index lies in the row. -/
def inRow (s i : X) : List Nd := [.kind .slc s, .row s, .tru (cmpX .leq (.int 0) i), .tru (.cmp .lss i (.len s))]
def ifcNil : Operand → Bool
  | .const .nilIface => true
  | _ => false
/-- A string of these bytes. -/
def chrs : List S → Option X
  | [] => some (.str [])
  | .int .u8 x :: r => (chrs r).map fun y => .cat (.chr x) y
  | _ => none
/-- A bound, where there is one. -/
def optI (st : St) : Option Operand → Option (Option X)
  | none => some none
  | some x => match st.ev x with
    | some (.one (.s (.int _ x))) => some (some x)
    | _ => none
/-- An operation that yields a value whatever the world, and leaves it. -/
def seVal (P : Program) (st : St) : Op → R SV
  | .move x | .assign x => (st.ev x).map fun v => ([], v)
  | .pick c a b => match st.ev c with
    | some (.one (.s (.bool x))) => match st.tells x with
      | some true => (st.ev a).map fun v => ([], v)
      | some false => (st.ev b).map fun v => ([], v)
      | none => match st.ev a, st.ev b with
        | some (.one (.s (.bool y))), some (.one (.s (.bool z))) => some ([], .one (.s (.bool (.ite x y z))))
        | _, _ => none
    | _ => none
  | .binOp op t x y _ => if ifcNil y then match P.underlying t, st.ev x with
      | some (.interface _), some (.one (.s (.any x))) => ansS op [.kind .ifc x] (.ifn x)
      | _, _ => none
    else match st.ev x, st.ev y with
    | some (.one (.s a)), some (.one (.s b)) => match nilC P st op t a b with
      | some r => some r
      | none => binS P op t a b
    | some (.one (.agg l)), some (.one (.agg m)) => match op, eqAgg P t l m with
      | .eql, some e => some ([], .one (.s (.bool e)))
      | .neq, some e => some ([], .one (.s (.bool (.not e))))
      | _, _ => none
    | _, _ => none
  | .unOp op _ x => match op, st.ev x with
    | .not, some (.one (.s (.bool x))) => some ([], .one (.s (.bool (.not x))))
    | .neg, some (.one (.s (.int k x))) => some ([], .one (.s (.int k (.neg k x))))
    | _, _ => none
  | .convert s d x => match P.underlying s, P.underlying d, st.ev x with
    | some _, some (.int k), some (.one (.s (.int _ x))) => some ([], .one (.s (.int k (.wrap k x))))
    | _, _, _ => none
  | .slice t x lo hi mx => match P.underlying t, st.ev x, optI st lo, optI st hi, mx with
    | some .string, some (.one (.s (.str s))), some lo, some hi, none =>
      let l := lo.getD (.int 0)
      let h := hi.getD (.size s)
      some ([.tru (cmpX .leq (.int 0) l), .tru (cmpX .leq l h), .tru (cmpX .leq h (.size s))], .one (.s (.str (.sub s l h))))
    | some (.slice e), some (.one (.s (.slc s))), some lo, some hi, none => match sizeO P e with
      | some z => if live st s then
          let l := lo.getD (.int 0)
          let h := hi.getD (.len s)
          some ([.kind .slc s, .szz s z, .tru (cmpX .leq (.int 0) l), .tru (cmpX .leq l h), .tru (cmpX .leq h (.len s))], .one (.s (.slc (.rsub z s l h)))) else none
      | none => none
    | some (.array n e), some (.one (.s (.ptr b o))), some lo, some hi, none => match sizeO P e, (lo.getD (.int 0)), (hi.getD (.int n)) with
      | some z, .int l, .int h => if 0 ≤ l ∧ l ≤ h ∧ h ≤ n then some ([], .one (.s (.bsl b (if n = l.toNat then o else o + l.toNat * z) (h.toNat - l.toNat) (n - l.toNat)))) else none
      | _, _, _ => none
    | _, _, _, _, _ => none
  | .fieldAddr t x f => match P.underlying t with
    | some (.struct fs) => match fs[f]? with
      | some fd => match sizeO P fd.type with
        | some (_ + 1) => match st.ev x with
          | some (.one (.s (.ptr b o))) => some ([], .one (.s (.ptr b (o + fd.offset))))
          | some (.one (.s (.eptr s i z o))) => if rowOk st s then some (inRow s i, .one (.s (.eptr s i z (o + fd.offset)))) else none
          | _ => none
        | _ => none
      | none => none
    | _ => none
  | .field t x f => match P.underlying t with
    | some (.struct fs) => match fs[f]?, st.ev x with
      | some fd, some (.one (.agg l)) => (partS P fd.type l fd.offset).map fun v => ([], v)
      | _, _ => none
    | _ => none
  | .extract t j => match st.ev t with
    | some (.tup l) => (l[j]?).map fun v => ([], .one v)
    | _ => none
  | .nilCheck x => match st.ev x with
    | some (.one (.s (.ptr b o))) => some ([], .one (.s (.ptr b o)))
    | _ => none
  | .indexAddr t x ix => match P.underlying t with
    | some (.slice e) => match st.ev x, st.ev ix, sizeO P e with
      | some (.one (.s (.slc s))), some (.one (.s (.int _ i))), some z => if rowOk st s then some (inRow s i, .one (.s (.eptr s i z 0))) else none
      | _, _, _ => none
    | some (.array n e) => match st.ev x, st.ev ix, sizeO P e with
      | some (.one (.s (.ptr b o))), some (.one (.s (.int _ (.int i)))), some z => if 0 ≤ i ∧ i < n then some ([], .one (.s (.ptr b (o + i.toNat * z)))) else none
      | _, _, _ => none
    | _ => none
  | .index t x ix => match P.underlying t with
    | some (.array n e) => match st.ev x, st.ev ix, sizeO P e with
      | some (.one (.agg l)), some (.one (.s (.int _ (.int i)))), some z => if 0 ≤ i ∧ i < n then (partS P e l (i.toNat * z)).map fun v => ([], v) else none
      | _, _, _ => none
    | some .string => match st.ev x, st.ev ix with
      | some (.one (.s (.str s))), some (.one (.s (.int _ i))) => some ([.tru (cmpX .leq (.int 0) i), .tru (.cmp .lss i (.size s))], .one (.s (.int .u8 (.byte s i))))
      | _, _ => none
    | _ => none
  | .build t parts => match zeroO P t, allSome (parts.toList.map fun p => (st.ev p.2).bind (partOf p.1)) with
    | some z, some ps => match P.underlying t with
      | some (.struct fs) => match allSome (fs.toList.map fun fd => (sizeO P fd.type).map fun n => (fd.offset, n)) with
        | some pl => (fillS (fun i => pl[i]?) z ps).map fun l => ([], .one (.agg l))
        | none => none
      | some (.array _ e) => match sizeO P e with
        | some n => (fillS (fun i => some (i * n, n)) z ps).map fun l => ([], .one (.agg l))
        | none => none
      | _ => none
    | _, _ => none
  | .makeFunc (.func f) first captured => if first.size == 0 then ((allSome (captured.toList.map st.ev)).bind capsOf).map fun l => ([], .one (.s (.fn f l))) else none
  | .call c => match c.callee with
    | .builtin .len => match c.argTypes[0]?, c.args.toList with
      | some t, [x] => match P.underlying t, st.ev x with
        | some (.slice _), some (.one (.s (.slc s))) => some ([.kind .slc s], .one (.s (.int .i64 (lenX s))))
        | some .string, some (.one (.s (.str s))) => some ([], .one (.s (.int .i64 (.size s))))
        | some (.array n _), some _ => some ([], .one (.s (.int .i64 (.int n))))
        | _, _ => none
      | _, _ => none
    | .builtin .min => match allSome (c.args.toList.map st.ev) with
      | some (.one (.s a) :: r) => (mnmx false a r).map fun s => ([], .one (.s s))
      | _ => none
    | .builtin .max => match allSome (c.args.toList.map st.ev) with
      | some (.one (.s a) :: r) => (mnmx true a r).map fun s => ([], .one (.s s))
      | _ => none
    | _ => none
  | _ => none
/-- Where a load reads: a block of our own, or a row that came in. -/
inductive Src where
  | blk (b : Nat)
  | row (s i : X)
  | own (j : Nat)
def srcOf (st : St) (s i : X) : Option Src := if live st s then some (.row s i) else match s with
  | .at j => if (st.own.map (·.1)).contains j && s.avoid st.dead then some (.own j) else none
  | _ => none
def cellsAt (s i : X) (o : Nat) : List RK → List (Nd × S)
  | [] => []
  | k :: r => (.kind k (.cell s i o), k.S (.cell s i o)) :: cellsAt s i (o + 1) r
/-- What a box holds. -/
def ccS (x : X) : Cc → S
  | .int k z => .int k (.int z)
  | .fn g => .fn g []
  | .self => .any x
def seCap (P : Program) (st : St) (t : TypeId) (f : FuncId) (cs : List Cc) (x : X) (j : Nat) : Option (List Nd × SV × Src) := match cs[j]? with
  | some c => if live st x then match isAggB P t, sizeO P t with
      | some true, some 1 => some ([.tru (.clo (some f) cs x)], .one (.agg [ccS x c]), .row x (.int 0))
      | some false, _ => some ([.tru (.clo (some f) cs x)], .one (.s (ccS x c)), .row x (.int 0))
      | _, _ => none
    else none
  | none => none
def seLoad (P : Program) (st : St) (t : TypeId) (x : Operand) : Option (List Nd × SV × Src) := match st.ev x with
  | some (.one (.s (.cptr f cs x j))) => seCap P st t f cs x j
  | some (.one (.s (.ptr b o))) => match st.blks[b]? with
    | some bl => if bl.mp.isSome then none else match isAggB P t, sizeO P t with
      | some true, some n => if n ≤ (bl.cells.drop o).length && okCells ((bl.cells.drop o).take n) then some ([], .one (.agg ((bl.cells.drop o).take n)), .blk b) else none
      | some false, _ => match bl.cells[o]? with
        | some .junk => none
        | some c => some ([], .one (.s c), .blk b)
        | none => none
      | _, _ => none
    | none => none
  | some (.one (.s (.eptr s i z o))) => match leafKinds P 20 t with
    | some ks => match srcOf st s i with
      | some src => if ks.length + o ≤ z && sizeO P t == some ks.length then
          let l := cellsAt s i o ks
          match isAggB P t with
          | some true => some (inRow s i ++ .sz s z :: l.map (·.1), .one (.agg (l.map (·.2))), src)
          | some false => match l with
            | [(d, c)] => some (inRow s i ++ [.sz s z, d], .one (.s c), src)
            | _ => none
          | none => none
        else none
      | none => none
    | none => none
  | _ => none
/-- How a call of what a variable holds is run: in the caller's own state. -/
abbrev Hnd := St → FuncId → List S → List SV → (St → SV → T) → T
/-- A range over a function's yield: its atom, and how a call of it is run. -/
abbrev Yh := Option (Nat × (Nat → St → List SV → (St → SV → T) → T))
def noY : Yh := none
structure Sg where
  l : List Sig
  H : Nat → Hnd
  gh : List (FuncId × List S)
  clos : List (FuncId × List Cc)
  Y : Yh
  HY : Yh → Nat → Hnd
def noH : Nat → Hnd := fun _ _ g _ _ _ => .bad (2000 + g)
def noHY : Yh → Nat → Hnd := fun _ => noH
def ptrS (caps : List Nat) : List S := caps.map fun b => .ptr b 0
def cptrs (f : FuncId) (cs : List Cc) (x : X) : List S := (List.range cs.length).map fun j => .cptr f cs x j
/-- A call of a function value: of what is known of it, or of what it may be. -/
def seCloL (sigs : Sg) (lv : Nat) (x : X) (vs : List SV) (k : St → SV → T) : List (FuncId × List Cc) → St → T
  | [], _ => .bad 70
  | (g, cs) :: r, st => seBr st (.clo (some g) cs x) (fun st => sigs.H lv st g (cptrs g cs x) vs k) (fun st => seCloL sigs lv x vs k r st)
def seClo (sigs : Sg) (lv : Nat) (st : St) (x : X) (vs : List SV) (k : St → SV → T) : T :=
  if live st x && x.bnd st.n then match cloK x st.known with
    | some (g, cs) => sigs.H lv st g (cptrs g cs x) vs k
    | none => seCloL sigs lv x vs k sigs.clos st
  else .bad 70
def findSig (f : FuncId) : List Sig → Nat → Option (Nat × Sig)
  | [], _ => none
  | s :: r, i => if s.f == f then some (i, s) else findSig f r (i + 1)
/-- Arguments, as leaves, if they have the shapes. -/
def flatArgs : List (Option Nat) → List SV → Option (List S)
  | [], [] => some []
  | none :: ss, .one (.s x) :: vs => (flatArgs ss vs).map (x :: ·)
  | some n :: ss, .one (.agg l) :: vs => if l.length == n then (flatArgs ss vs).map (l ++ ·) else none
  | _, _ => none
/-- What a function is handed beside its arguments: nothing that the call sees. -/
def ghOf : List (FuncId × List S) → FuncId → List S
  | [], _ => []
  | x :: r, g => if x.1 == g then x.2 else ghOf r g
def argsOf (sigs : Sg) (g : FuncId) (sg : Sig) (vs : List SV) : Option (List S) := (flatArgs sg.ash vs).map (· ++ ghOf sigs.gh g)
/-- Leaves as values of the shapes. -/
def shapeS : List (Option Nat) → List S → List TV
  | [], _ => []
  | none :: ss, x :: l => .s x :: shapeS ss l
  | none :: _, [] => []
  | some n :: ss, l => .agg (l.take n) :: shapeS ss (l.drop n)
def atomsFrom : Nat → List RK → List S
  | _, [] => []
  | n, k :: ks => k.S (.at n) :: atomsFrom (n + 1) ks
def resSV (sg : Sig) (l : List S) : Option SV := match sg.tup, shapeS sg.rsh l with
  | true, vs => some (.tup vs)
  | false, [v] => some (.one v)
  | false, _ => none
def St.bnd (st : St) : Bool := st.tmps.all (SV.bnd st.n) && st.blks.all (fun b => b.cells.all (S.bnd st.n)) && st.known.all (fun p => p.1.bnd st.n) && st.own.all (fun o => o.1 < st.n) && st.dead.all (· < st.n)
/-- These leaves are handed on: what of them was ours is nobody's. -/
def useS (st : St) (ls : List S) : Option St := if ls.all (S.avoid st.dead) then some { st with own := st.own.filter (fun o => ls.all (S.avoid [o.1])) } else none
/-- New atoms; those of them that are ours. -/
def ownRes (st : St) (k : Nat) (l : List (Nat × TypeId × Nat)) : St := { st with n := st.n + k, own := st.own ++ l.map fun p => (st.n + p.1, p.2) }
/-- A slice of ours, or nil, is taken. -/
def ownTok (st : St) (e : TypeId) (z : Nat) : X → Option St
  | .at i => if st.own.contains (i, e, z) then some { st with own := st.own.erase (i, e, z), dead := i :: st.dead } else none
  | .nil _ => some st
  | _ => none
def bytesO (P : Program) (t : TypeId) : Option Nat := (P.info? t).map (·.bytes)
def S.sub1 (j n : Nat) : S → S
  | .slc (.at i) => if i == j then .slc (.at n) else .slc (.at i)
  | .eptr (.at i) x z o => if i == j then .eptr (.at n) x z o else .eptr (.at i) x z o
  | s => s
def TV.sub1 (j n : Nat) : TV → TV
  | .s x => .s (x.sub1 j n)
  | .agg l => .agg (l.map (S.sub1 j n))
def SV.sub1 (j n : Nat) : SV → SV
  | .one t => .one (t.sub1 j n)
  | .tup l => .tup (l.map (TV.sub1 j n))
/-- Where the j-th atom stood as a slice, the n-th one, the same slice with other elements, stands. -/
def St.sub1 (st : St) (j n : Nat) : St := { st with tmps := st.tmps.map (SV.sub1 j n), blks := st.blks.map fun b => { b with cells := b.cells.map (S.sub1 j n) } }
/-- What a map of constant keys gives. -/
def lookS (st : St) (x : X) (k : St → Option S → T) : List (Int × S) → T
  | [] => k st none
  | (c, s) :: r => seBr st (cmpX .eql x (.int c)) (fun st => k st (some s)) (fun st => lookS st x k r)
def cycS (z : List S) (n : Nat) : List S := (List.range n).map fun i => z.getD (i % z.length) .junk
def chunkS (sz n : Nat) (l : List S) : List (List S) := (List.range n).map fun i => (l.drop (i * sz)).take sz
/-- Which of a contract's results are ours: slices, each told once. -/
def ownFit (sg : Sig) : Bool := sg.own.all (fun p => match sg.res[p.1]? with
  | some .slc => true
  | _ => false)
/-- A call that hands nothing back but numbers, bools, strings: what is handed to it stays ours. -/
def plainK : RK → Bool
  | .int _ | .bool | .str => true
  | _ => false
def lend (sg : Sig) : Bool := sg.own.isEmpty && sg.res.all plainK
def passS (st : St) (sg : Sig) (ls : List S) : Option St := match useS st ls with
  | some st1 => some (if lend sg then st else st1)
  | none => none
/-- What writes, or may: a store, an append, a call of what a variable holds. -/
def isStore : Op → Bool
  | .store .. | .mapUpdate .. | .insert .. => true
  | .call c => (match c.callee with
    | .value (.tmp _) => true
    | .value _ => c.args.size == 0
    | .builtin .append => true
    | _ => false)
  | _ => false
/-- The zero value of a type of one cell. -/
def zero1 (P : Program) (t : TypeId) : Option S := match (P.info? t).bind (·.zero) with
  | some v => cstS v
  | none => none
def zero8 (P : Program) (e : TypeId) : Bool := match (P.info? e).bind (·.zero) with
  | some (.int .u8 0) => true
  | _ => false
/-- An append. -/
def seAppend (P : Program) (st : St) (dst : Option Tmp) (tys : List TypeId) (vs : List SV) (k : St → T) : T :=
  match tys, vs with
  | [t, tx], [.one (.s (.slc s)), .one (.s x)] => match P.underlying t with
    | some (.slice e) => match sizeO P e, bytesO P e, zeroO P e with
      | some z, some by', some zs => if 0 < z && 0 < by' && zs.length == z then
          match useS st [x] with
          | some st1 => match ownTok st1 e z s, x with
            | some st2, .slc x => if t == tx then needs st2 [.row s, .kind .slc x, .szz x z, .tru (.cmp .leq (.len s) (.int (70368744177664 / by'))), .tru (.cmp .leq (.len x) (.int (70368744177664 / by')))] (fun st => if st.bnd then .app s x z (k (St.put (ownRes st 1 [(0, e, z)]) dst (.one (.s (.slc (.at st.n)))))) else .bad 51) else .bad 51
            | some st2, .str x => match P.underlying tx, P.underlying e with
              | some .string, some (.int .u8) => if by' == 1 && z == 1 && zero8 P e then needs st2 [.row s, .tru (.cmp .leq (.len s) (.int 70368744177664)), .tru (.cmp .leq (.size x) (.int 70368744177664))] (fun st => if st.bnd then .apps s x (k (St.put (ownRes st 1 [(0, e, z)]) dst (.one (.s (.slc (.at st.n)))))) else .bad 52) else .bad 52
              | _, _ => .bad 53
            | _, _ => .bad 54
          | none => .bad 55
        else .bad 56
      | _, _, _ => .bad 57
    | _ => .bad 58
  | _, _ => .bad 59
/-- A store into a slice of ours. -/
def seSto (P : Program) (st : St) (t : TypeId) (s i : X) (z off : Nat) (v : List S) (k : St → T) : T :=
  match s with
  | .at j => match st.own.find? (fun o => o.1 == j), useS st v with
    | some (_, e, z'), some st1 => if z == z' && rowOk st1 s && st1.own.contains (j, e, z) && sizeO P t == some v.length && off + v.length ≤ z && v.all S.pureB && okCells v then
        needs st1 (inRow s i ++ [.sz s z]) (fun st => if st.bnd then .sto s i off v (k (St.sub1 (ownRes { st with own := st.own.erase (j, e, z), dead := j :: st.dead } 1 [(0, e, z)]) j st.n)) else .bad 45) else .bad 45
    | _, _ => .bad 46
  | _ => .bad 47
/-- An operation, whatever it is; what follows behind it. 'al': what a name calls may be run inside; 'lv': how many loops stand around it. -/
def seOp (P : Program) (sigs : Sg) (al : Bool) (lv : Nat) (st : St) (o : Oper) (k : St → T) : T :=
  match seVal P st o.op with
  | some (ds, v) => needs st ds (fun st => k (st.put o.dst v))
  | none => match o.op with
    | .load t x => match seLoad P st t x with
      | some (ds, v, _) => needs st ds (fun st => k (st.put o.dst v))
      | none => .bad 1
    | .alloc t => match zeroO P t with
      | some z => if st.pbnd && z.all (S.pb st.blks.length) then k (St.put { st with blks := st.blks ++ [⟨z, t, none⟩] } o.dst (.one (.s (.ptr st.blks.length 0)))) else .bad 2
      | none => .bad 2
    | .box t x => match st.ev x with
      | some (.one v) => if okCells v.cells && st.pbnd && v.cells.all (S.pb st.blks.length) then k (St.put { st with blks := st.blks ++ [⟨v.cells, t, none⟩] } o.dst (.one (.s (.ptr st.blks.length 0)))) else .bad 3
      | _ => .bad 3
    | .store t a x => match st.ev a, st.ev x with
      | some (.one (.s (.ptr b off))), some (.one v) => match st.blks[b]? with
        | some bl => if sizeO P t == some v.cells.length && off + v.cells.length ≤ bl.cells.length && okCells v.cells && o.dst.isNone && bl.mp.isNone then
            k { st with blks := st.blks.set b ⟨bl.cells.take off ++ v.cells ++ bl.cells.drop (off + v.cells.length), bl.ty, none⟩ } else .bad 4
        | none => .bad 4
      | some (.one (.s (.eptr s i z off))), some (.one v) => if o.dst.isNone then seSto P st t s i z off v.cells k else .bad 4
      | _, _ => .bad 4
    | .call c => match c.callee with
      | .value f => match st.ev f, allSome (c.args.toList.map st.ev) with
        | some (.one (.s (.fn g caps))), some vs => match caps, findSig g sigs.l 0 with
          | [], some (i, sg) => match argsOf sigs g sg vs, resSV sg (atomsFrom st.n sg.res) with
            | some l, some v => match passS st sg l with
              | some st1 => if l.all S.pureB && st1.bnd && ownFit sg then .call i l (k (St.put (ownRes st1 sg.res.length sg.own) o.dst v)) else .bad 5
              | none => .bad 44
            | _, _ => .bad (1000 + g)
          | _, _ => match f with
            | .tmp _ => sigs.H lv st g (ptrS caps) vs (fun st v => k (st.put o.dst v))
            | _ => if al then sigs.H lv st g (ptrS caps) vs (fun st v => k (st.put o.dst v)) else .bad (2000 + g)
        | some (.one (.s (.any x))), some vs => match f with
          | .tmp _ => seClo sigs lv st x vs (fun st v => k (st.put o.dst v))
          | _ => .bad 6
        | _, _ => .bad 6
      | .builtin .append => match allSome (c.args.toList.map st.ev) with
        | some vs => seAppend P st o.dst c.argTypes.toList vs k
        | none => .bad 7
      | _ => .bad 7
    | .buildSlice t len parts => match P.underlying t with
      | some (.slice e) => match sizeO P e, zeroO P e, allSome (parts.toList.map fun p => (st.ev p.2).bind (partOf p.1)) with
        | some sz, some z, some ps => match fillS (fun i => some (i * sz, sz)) (cycS z (len * sz)) ps with
          | some l => match useS st l with
            | some st1 => if decide (0 < sz ∧ len * sz ≤ 16777216) && z.length == sz && l.length == len * sz && l.all S.pureB && st1.bnd then .new sz (chunkS sz len l) (k (St.put (ownRes st1 1 [(0, e, sz)]) o.dst (.one (.s (.slc (.at st.n)))))) else .bad 8
            | none => .bad 8
          | none => .bad 8
        | _, _, _ => .bad 8
      | _ => .bad 8
    | .slice _ x _ _ _ => match st.ev x with
      | some (.one (.s (.slc s))) => match useS st [.slc s] with
        | some st1 => match seVal P st1 o.op with
          | some (ds, v) => needs st1 ds (fun st => k (st.put o.dst v))
          | none => .bad 48
        | none => .bad 48
      | _ => .bad 48
    | .convert s d x => if s == d then match P.underlying s, st.ev x with
        | some (.slice e), some (.one (.s (.slc (.at i)))) => match P.underlying e with
          | some (.int .u8) => if al && st.own.contains (i, e, 1) then needs st [.row (.at i), .kind .slc (.at i), .tru (.not (.nilp (.at i)))] (fun st => k (st.put o.dst (.one (.s (.slc (.at i)))))) else .bad 49
          | _ => .bad 49
        | _, _ => .bad 49
      else match P.underlying s, P.underlying d, st.ev x with
      | some _, some (.slice e), some (.one (.s (.str x))) => match P.underlying e, sizeO P e with
        | some (.int .u8), some 1 => needs st [.tru (.cmp .leq (.size x) (.int 70368744177664))] (fun st => if st.bnd then .apps (.nil 1) x (k (St.put (ownRes st 1 [(0, e, 1)]) o.dst (.one (.s (.slc (.at st.n)))))) else .bad 49)
        | _, _ => .bad 49
      | some (.slice e), some .string, some (.one (.s (.slc x))) => match P.underlying e with
        | some (.int .u8) => if rowOk st x then needs st [.kind .slc x, .bytes x] (fun st => k (st.put o.dst (.one (.s (.str (.sob x)))))) else .bad 50
        | _ => .bad 50
      | some (.slice e), some .string, some (.one (.s (.bsl b off len _))) => match P.underlying e, st.blks[b]? with
        | some (.int .u8), some bl => match chrs ((bl.cells.drop off).take len) with
          | some x => if off + len ≤ bl.cells.length && bl.mp.isNone then k (st.put o.dst (.one (.s (.str x)))) else .bad 50
          | none => .bad 50
        | _, _ => .bad 50
      | _, _, _ => .bad 49
    | .makeMap t none => match P.underlying t with
      | some (.map key _) => match P.underlying key with
        | some (.int q) => if st.pbnd then k (St.put { st with blks := st.blks ++ [⟨[], t, some (q, [])⟩] } o.dst (.one (.s (.mp st.blks.length)))) else .bad 63
        | _ => .bad 63
      | _ => .bad 63
    | .mapUpdate t m key x | .insert t m key x => match P.underlying t, st.ev m, st.ev key, st.ev x with
      | some (.map kt _), some (.one (.s (.mp b))), some (.one (.s (.int q (.int c)))), some (.one (.s x)) => match P.underlying kt, st.blks[b]? with
        | some (.int _), some bl => match bl.mp with
          | some (q', keys) => if q == q' && !(keys.contains c) && okCell x && o.dst.isNone && keys.length == bl.cells.length && st.pbnd && x.pb st.blks.length then k { st with blks := st.blks.set b ⟨bl.cells ++ [x], bl.ty, some (q, keys ++ [c])⟩ } else .bad 64
          | none => .bad 64
        | _, _ => .bad 64
      | _, _, _, _ => .bad 64
    | .lookup t m key ok => match P.underlying t, st.ev m, st.ev key with
      | some (.map kt et), some (.one (.s (.mp b))), some (.one (.s (.int q x))) => match P.underlying kt, st.blks[b]?, zero1 P et with
        | some (.int _), some bl, some z => match bl.mp with
          | some (q', keys) => if q == q' && keys.length == bl.cells.length then
              lookS st x (fun st r => k (st.put o.dst (if ok then .tup [.s (r.getD z), .s (.bool (.bool r.isSome))] else .one (.s (r.getD z))))) (keys.zip bl.cells) else .bad 65
          | none => .bad 65
        | _, _, _ => .bad 65
      | _, _, _ => .bad 65
    | _ => .bad 8
/-- The guard ahead of it. -/
def seGuard (ops : Array Oper) (st : St) (o : Oper) (perform skip : St → T) : T :=
  match o.guard with
  | none => perform st
  | some (j, want) => match (ops[j]?).bind (·.dst) with
    | none => .bad 9
    | some d => match st.tmps[d]? with
      | some (.one (.s (.bool x))) => if want then seBr st x perform skip else seBr st x skip perform
      | some (.one (.s .undef)) => skip st
      | _ => .bad 9
/-- Is this a call of yield? -/
def yieldOf (st : St) (o : Oper) : Yh → Option ((Nat → St → List SV → (St → SV → T) → T) × List SV)
  | none => none
  | some (y, h) => match o.op with
    | .call c => match c.callee with
      | .value f => match st.ev f, allSome (c.args.toList.map st.ev) with
        | some (.one (.s (.any (.at i)))), some vs => if i == y then some (h, vs) else none
        | _, _ => none
      | _ => none
    | _ => none
def seOpY (P : Program) (sigs : Sg) (lv : Nat) (st : St) (o : Oper) (k : St → T) : T := match yieldOf st o sigs.Y with
  | some (h, vs) => h lv st vs (fun st v => k (st.put o.dst v))
  | none => seOp P sigs true lv st o k
def seSeq (P : Program) (sigs : Sg) (lv : Nat) (ops : Array Oper) : List Oper → St → (St → T) → T
  | [], st, k => k st
  | o :: r, st, k => seGuard ops st o (fun st => seOpY P sigs lv st o (fun st => seSeq P sigs lv ops r st k)) (fun st => seSeq P sigs lv ops r (st.put o.dst undefV) k)
/-- The order of a region that draws it: number and mode (0: a value; 1: a load; 2: whatever else, the one that may come up); 'fork': several may come up: whichever does. -/
inductive Plan where
  | nil
  | step (i m : Nat) (r : Plan)
  | fork (p q : Plan)
  | lbs (l : List Nat) (r : Plan)
/-- A region that draws its order, by its plan. 'bs': how many blocks there were ahead of it; 'cl': nothing has been stored; 'n0': how many atoms. -/
def seDraw (P : Program) (sigs : Sg) (lv : Nat) (ops : Array Oper) (bs n0 : Nat) (o0 : List Nat) : Plan → Bool → St → (St → T) → T
  | .nil, _, st, k => k st
  | .fork p q, cl, st, k => if (seDraw P sigs lv ops bs n0 o0 p cl st .fin).eq (seDraw P sigs lv ops bs n0 o0 q cl st .fin) then seDraw P sigs lv ops bs n0 o0 p cl st k else .both (seDraw P sigs lv ops bs n0 o0 p cl st k) (seDraw P sigs lv ops bs n0 o0 q cl st k)
  | .lbs _ _, _, _, _ => .bad 67
  | .step i m r, cl, st, k => match ops[i]? with
    | none => .bad 20
    | some o => match m with
      | 0 => seGuard ops st o
          (fun st => match seVal P st o.op with
            | some (ds, v) => needs st ds (fun st => seDraw P sigs lv ops bs n0 o0 r cl (st.put o.dst v) k)
            | none => .bad 21)
          (fun st => seDraw P sigs lv ops bs n0 o0 r cl (st.put o.dst undefV) k)
      | 1 => if cl then seGuard ops st o
          (fun st => match o.op with
            | .load t x => match seLoad P st t x with
              | some (ds, v, .blk b) => if b < bs then needs st ds (fun st => seDraw P sigs lv ops bs n0 o0 r cl (st.put o.dst v) k) else .bad 22
              | some (ds, v, .row s _) => if s.bnd n0 && s.avoid o0 then needs st ds (fun st => seDraw P sigs lv ops bs n0 o0 r cl (st.put o.dst v) k) else .bad 23
              | some (ds, v, .own j) => if j < n0 then needs st ds (fun st => seDraw P sigs lv ops bs n0 o0 r cl (st.put o.dst v) k) else .bad 23
              | none => .bad 24
            | _ => .bad 25)
          (fun st => seDraw P sigs lv ops bs n0 o0 r cl (st.put o.dst undefV) k) else .bad 29
      | _ => seGuard ops st o
          (fun st => seOp P sigs (isStore o.op) lv st o (fun st => seDraw P sigs lv ops bs n0 o0 r (cl && !isStore o.op) st k))
          (fun st => seDraw P sigs lv ops bs n0 o0 r cl (st.put o.dst undefV) k)
def eqBlk (x y : Blk) : Bool := eqL S.eq x.cells y.cells && x.ty == y.ty && x.mp == y.mp
/-- These blocks stand as they stood; so does what is ours. -/
def keeps (lb : List Nat) (st st' : St) : Bool := st'.own == st.own && st'.dead == st.dead && lb.all fun b => match st.blks[b]?, st'.blks[b]? with
  | some x, some y => eqBlk x y
  | _, _ => false
/-- A region that draws its order and holds calls that are run inside (mode 3): loads are of the blocks 'lb', which these leave as they are, and of rows that came in. -/
def seDrawL (P : Program) (sigs : Sg) (lv : Nat) (ops : Array Oper) (lb : List Nat) (bs n0 : Nat) (o0 : List Nat) : Plan → Bool → St → (St → T) → T
  | .nil, _, st, k => k st
  | .fork _ _, _, _, _ => .bad 67
  | .lbs _ _, _, _, _ => .bad 67
  | .step i m r, cl, st, k => match ops[i]? with
    | none => .bad 20
    | some o => match m with
      | 0 => seGuard ops st o
          (fun st => match seVal P st o.op with
            | some (ds, v) => needs st ds (fun st => seDrawL P sigs lv ops lb bs n0 o0 r cl (st.put o.dst v) k)
            | none => .bad 21)
          (fun st => seDrawL P sigs lv ops lb bs n0 o0 r cl (st.put o.dst undefV) k)
      | 1 => if cl then seGuard ops st o
          (fun st => match o.op with
            | .load t x => match seLoad P st t x with
              | some (ds, v, .blk b) => if lb.contains b && decide (b < bs) then needs st ds (fun st => seDrawL P sigs lv ops lb bs n0 o0 r cl (st.put o.dst v) k) else .bad 22
              | some (ds, v, .row s _) => if s.bnd n0 && s.avoid o0 then needs st ds (fun st => seDrawL P sigs lv ops lb bs n0 o0 r cl (st.put o.dst v) k) else .bad 23
              | _ => .bad 24
            | _ => .bad 25)
          (fun st => seDrawL P sigs lv ops lb bs n0 o0 r cl (st.put o.dst undefV) k) else .bad 29
      | 3 => if cl then seGuard ops st o
          (fun st => if st.blks.all (fun b => b.cells.all (S.bnd st.n)) && st.pbnd then seOp P sigs true lv st o (fun st2 => if keeps lb st st2 then seDrawL P sigs lv ops lb bs n0 o0 r cl st2 k else .bad 66) else .bad 66)
          (fun st => seDrawL P sigs lv ops lb bs n0 o0 r cl (st.put o.dst undefV) k) else .bad 68
      | _ => seGuard ops st o
          (fun st => seOp P sigs (isStore o.op) lv st o (fun st => seDrawL P sigs lv ops lb bs n0 o0 r (cl && !isStore o.op) st k))
          (fun st => seDrawL P sigs lv ops lb bs n0 o0 r cl (st.put o.dst undefV) k)
/-- How a piece of code is left. -/
inductive Ex where
  | normal
  | exit (id : Nat)
  | ret
/-- A loop: its slots and cells that go on round by round; or so many rounds at most, each walked. -/
inductive LA where
  | inv (slots : List Nat) (cells : List (Nat × Nat))
  | invo (slots : List Nat) (cells : List (Nat × Nat)) (own : List (Nat × TypeId × Nat)) (keep : Bool)
  | invp (slots : List Nat) (cells : List (Nat × Nat)) (own : List (Nat × TypeId × Nat)) (keep : Bool)
  | invj (junk slots : List Nat) (cells : List (Nat × Nat)) (own : List (Nat × TypeId × Nat)) (keep : Bool)
  | rounds (n : Nat)
/-- So many rounds at most. -/
def seRounds (body : St → (Ex → St → T) → T) : Nat → St → (Ex → St → T) → T
  | 0, _, _ => .bad 38
  | n + 1, st, k => body st (fun e st' => match e with
    | .normal => seRounds body n st' k
    | e => k e st')
/-- What is told of a function's regions and loops: each drawing region's plan, each loop's slots and cells that go on round by round. -/
structure Ann where
  plans : List (Nat × Plan)
  loops : List LA
def planOf (id : Nat) : List (Nat × Plan) → Option Plan
  | [] => none
  | (j, p) :: r => if j == id then some p else planOf id r
/-- The slots that code writes. -/
def dstsOf : Code → List Nat
  | .region _ ops _ => ops.toList.filterMap (·.dst)
  | .seq a b => dstsOf a ++ dstsOf b
  | .cond _ a b => dstsOf a ++ dstsOf b
  | .block _ c | .loop c | .scope c => dstsOf c
  | _ => []
def loopsIn : Code → Nat
  | .seq a b => loopsIn a + loopsIn b
  | .cond _ a b => loopsIn a + loopsIn b
  | .block _ c | .scope c => loopsIn c
  | .loop c => loopsIn c + 1
  | _ => 0
/-- Code of a round: regions in the text's order. -/
def seCodeR (P : Program) (sigs : Sg) (lv : Nat) : Code → St → (St → T) → T
  | .skip, st, k => k st
  | .region _ ops dr, st, k => if dr then .bad 72 else seSeq P sigs lv ops ops.toList st k
  | .seq a b, st, k => seCodeR P sigs lv a st (fun st => seCodeR P sigs lv b st k)
  | .block _ c, st, k => seCodeR P sigs lv c st k
  | _, _, _ => .bad 72
def setTmps (tm : List SV) : List Tmp → List SV → List SV
  | p :: ps, v :: vs => setTmps (tm.set p v) ps vs
  | _, _ => tm
/-- A round: a call of yield by what 'st0' ranges over. -/
def yH (P : Program) (sigs : Sg) (ps : List Tmp) (asn body : Code) (st0 : St) : Yh := some (st0.n, fun lv st vs k =>
  if vs.length == ps.length && st.bnd && st.pbnd then
    seCodeR P { sigs with Y := noY } lv asn { st with tmps := setTmps st0.tmps ps vs } (fun st1 =>
      seCodeR P { sigs with Y := noY } lv body st1 (fun st2 => k { st2 with tmps := st.tmps } (.one (.s (.bool (.bool true))))))
  else .bad 73)
def kindS : S → Option RK
  | .int k _ => some (.int k)
  | .bool _ => some .bool
  | .str _ => some .str
  | .slc _ => some .slc
  | .any _ => some .any
  | .cst .nilFunc => some .any
  | _ => none
/-- The leaves of a loop's head: slots, then cells. -/
def headLeaves (st : St) (a : List Nat × List (Nat × Nat)) : Option (List S) :=
  allSome (a.1.map (fun i => (st.tmps[i]?).bind SV.one?) ++ a.2.map (fun p => (st.blks[p.1]?).bind (fun b => b.cells[p.2]?)))
def setCells (bl : List Blk) : List (Nat × Nat) → List S → List Blk
  | (b, o) :: ps, s :: ss => setCells (match bl[b]? with
    | some x => bl.set b ⟨x.cells.set o s, x.ty, x.mp⟩
    | none => bl) ps ss
  | _, _ => bl
def setSlots (tm : List SV) : List Nat → List S → List SV
  | i :: is, s :: ss => setSlots (tm.set i (.one (.s s))) is ss
  | _, _ => tm
def junkSlots (tm : List SV) : List Nat → List SV
  | [] => tm
  | i :: is => junkSlots (tm.set i junkV) is
/-- The same value, whatever is told of it. -/
def sameVal (x s : S) : Bool := x.eq s || (match x, s with
  | .slc (.raw y), .slc z => y.eq z
  | _, _ => false)
/-- A leaf at a loop's head (h) and the leaf that stands there now (s): the same, or a letter of the head's, which is told by 'ls'. -/
def coverS (n0 : Nat) (ks : List RK) (ls : List S) (h s : S) : Bool :=
  (h.bnd n0 && h.eq s) || (match h with
    | .int _ (.at i) | .bool (.at i) | .str (.at i) | .slc (.at i) | .any (.at i) => n0 ≤ i && (match ks[i - n0]?, ls[i - n0]? with
      | some k, some x => h.eq (k.S (.at i)) && sameVal x s
      | _, _ => false)
    | _ => false)
def coverTV (n0 : Nat) (ks : List RK) (ls : List S) : TV → TV → Bool
  | .s a, .s b => coverS n0 ks ls a b
  | .agg l, .agg m => eqL (coverS n0 ks ls) l m
  | _, _ => false
def coverSV (n0 : Nat) (ks : List RK) (ls : List S) : SV → SV → Bool
  | .one (.s .junk), _ => true
  | .one a, .one b => coverTV n0 ks ls a b
  | _, _ => false
def coverBlks (n0 : Nat) (ks : List RK) (ls : List S) : List Blk → List Blk → Bool
  | [], _ => true
  | a :: l, b :: m => a.ty == b.ty && a.mp == b.mp && eqL (coverS n0 ks ls) a.cells b.cells && coverBlks n0 ks ls l m
  | _, _ => false
def kindsFit : List RK → List S → Bool
  | [], [] => true
  | k :: ks, s :: ss => (match kindS s with
    | some k' => k.eq k'
    | none => false) && kindsFit ks ss
  | _, _ => false
/-- Leaves that are told to be ours are taken; what is left of ours. -/
def takeOwn (ls : List S) : List (Nat × TypeId × Nat) → List (Nat × TypeId × Nat) → Option (List (Nat × TypeId × Nat))
  | own, [] => some own
  | own, (j, e, z) :: r => match ls[j]? with
    | some (.slc (.at k)) => if own.contains (k, e, z) then takeOwn ls (own.erase (k, e, z)) r else none
    | some (.slc (.nil _)) => takeOwn ls own r
    | some (.slc (.raw _)) => takeOwn ls own r
    | _ => none
/-- Leaves that are to be ours, and aren't: nothing is told of their elements. -/
def rawLs (st : St) (ows : List (Nat × TypeId × Nat)) (ls : List S) : List S := ls.zipIdx.map fun p => match ows.find? (fun o => o.1 == p.2) with
  | some o => match p.1 with
    | .slc (.at k) => if st.own.contains (k, o.2.1, o.2.2) then p.1 else .slc (.raw (.at k))
    | .slc (.nil _) => p.1
    | .slc x => .slc (.raw x)
    | s => s
  | none => p.1
def otherLs (ls : List S) (ows : List (Nat × TypeId × Nat)) : List S := (ls.zipIdx.filter fun p => !(ows.map (·.1)).contains p.2).map (·.1)
/-- All leaves are handed on, some of them as ours: what is left of ours. -/
def settle (st : St) (ls : List S) (ows : List (Nat × TypeId × Nat)) : Option (List (Nat × TypeId × Nat)) := match useS st (otherLs ls ows) with
  | some st1 => takeOwn ls st1.own ows
  | none => none
def toks (ls : List S) (ows : List (Nat × TypeId × Nat)) : List Nat := ows.filterMap fun p => match (ls[p.1]? : Option S) with
  | some (S.slc (X.at k)) => some k
  | _ => none
def sublB : List (Nat × TypeId × Nat) → List (Nat × TypeId × Nat) → Bool
  | [], _ => true
  | _ :: _, [] => false
  | a :: l, b :: m => if a == b then sublB l m else sublB (a :: l) m
/-- What is told of a loop's head: slots, cells, those leaves that are ours, what else is. -/
structure Hd where
  sl : List Nat
  ce : List (Nat × Nat)
  ows : List (Nat × TypeId × Nat)
  kept : List (Nat × TypeId × Nat)
  jk : List Nat
/-- What a call gave whole is not kept. -/
def oneSV : SV → SV
  | .one a => .one a
  | _ => junkV
/-- The head's state, its letters as 'ls' tells, is what stands there now. -/
def covers (n0 : Nat) (ks : List RK) (ls : List S) (h : Hd) (hd st : St) : Bool :=
  hd.n == n0 + ks.length && kindsFit ks ls && ls.all S.pureB && hd.pbnd && hd.known.all (fun p => p.1.bnd n0) && eqL (coverSV n0 ks ls) hd.tmps st.tmps && coverBlks n0 ks ls hd.blks st.blks
    && hd.own == h.kept ++ h.ows.map (fun p => (n0 + p.1, p.2)) && hd.dead.all (· < n0) && h.kept.all (fun o => o.1 < n0) && h.ows.all (fun p => p.1 < ls.length)
    && (match settle st ls h.ows with
      | some rem => sublB h.kept rem && (toks ls h.ows).all (fun k => n0 ≤ k || hd.dead.contains k) && st.dead.all (fun d => n0 ≤ d || hd.dead.contains d)
      | none => false)
/-- What else stands for a slice of ours has its letter. -/
def renOwn (n : Nat) (ls0 : List S) : List (Nat × TypeId × Nat) → List SV → List SV
  | [], tm => tm
  | p :: r, tm => match ls0[p.1]? with
    | some (.slc (.at k)) => (renOwn n ls0 r tm).map (SV.sub1 k (n + p.1))
    | _ => renOwn n ls0 r tm
/-- The state at a loop's head: what goes on has letters of its own. -/
def headSt (st : St) (c : Code) (h : Hd) (ls0 : List S) (ks : List RK) : St :=
  let ls := atomsFrom st.n ks
  { n := st.n + ks.length, tmps := setSlots (renOwn st.n ls0 h.ows (junkSlots (st.tmps.map oneSV) (dstsOf c ++ h.jk))) h.sl (ls.take h.sl.length), blks := setCells st.blks h.ce (ls.drop h.sl.length), known := st.known,
    own := h.kept ++ h.ows.map (fun p => (st.n + p.1, p.2)), dead := st.dead ++ toks ls0 h.ows }
/-- A loop's slots, cells, leaves that are ours; is the rest kept? -/
def LA.head : LA → Option (List Nat × List (Nat × Nat) × List (Nat × TypeId × Nat) × Bool)
  | .inv sl ce => some (sl, ce, [], false)
  | .invo sl ce ows k => some (sl, ce, ows, k)
  | .invp sl ce ows k => some (sl, ce, ows, k)
  | .invj _ sl ce ows k => some (sl, ce, ows, k)
  | .rounds _ => none
/-- Slots that the loop lets go. -/
def LA.junk : LA → List Nat
  | .invj j _ _ _ _ => j
  | _ => []
/-- Is a first round tried, whether the loop ends there? -/
def LA.probe : LA → Bool
  | .invp _ _ _ _ => true
  | _ => false
def T.noBad : T → Bool
  | .clo _ _ t => t.noBad
  | .br _ t f => t.noBad && f.noBad
  | .need _ t => t.noBad
  | .call _ _ t => t.noBad
  | .new _ _ t => t.noBad
  | .app _ _ _ t => t.noBad
  | .apps _ _ t => t.noBad
  | .sto _ _ _ _ t => t.noBad
  | .loop _ _ t => t.noBad
  | .pop _ t => t.noBad
  | .both t f => t.noBad && f.noBad
  | .bad _ => false
  | _ => true
/-- Slices that must be seen to be some. -/
def slcAll : List S → List Nd
  | [] => []
  | .slc x :: l => .kind .slc x :: slcAll l
  | _ :: l => slcAll l
def needAll : List Nd → T → T
  | [], t => t
  | d :: r, t => .need d (needAll r t)
/-- A piece of code; 'lp': the number of its first loop; 'lv': how many loops stand around it. -/
def seCode (P : Program) (sigs : Sg) (an : Ann) : Code → Nat → Nat → St → (Ex → St → T) → T
  | .skip, _, _, st, k => k .normal st
  | .label _, _, _, st, k => k .normal st
  | .region id ops dr, _, lv, st, k => if dr then match planOf id an.plans with
      | some (.lbs lb p) => seDrawL P sigs lv ops lb st.blks.length st.n (st.own.map (·.1)) p true st (k .normal)
      | some p => seDraw P sigs lv ops st.blks.length st.n (st.own.map (·.1)) p true st (k .normal)
      | none => .bad 30
    else seSeq P sigs lv ops ops.toList st (k .normal)
  | .seq a b, lp, lv, st, k => seCode P sigs an a lp lv st (fun e st => match e with
    | .normal => seCode P sigs an b (lp + loopsIn a) lv st k
    | e => k e st)
  | .cond c a b, lp, lv, st, k => match st.ev c with
    | some (.one (.s (.bool x))) => seBr st x (fun st => seCode P sigs an a lp lv st k) (fun st => seCode P sigs an b (lp + loopsIn a) lv st k)
    | _ => .bad 31
  | .block id c, lp, lv, st, k => seCode P sigs an c lp lv st (fun e st => match e with
    | .exit j => if j == id then k .normal st else k (.exit j) st
    | e => k e st)
  | .scope c, lp, lv, st, k => seCode P sigs an c lp lv st k
  | .exit id, _, _, st, k => k (.exit id) st
  | .ret, _, _, st, k => k .ret st
  | .rangeFunc g ps asn body, _, lv, st, k => match st.ev g with
    | some (.one (.s (.fn gf caps))) => if st.bnd && st.pbnd && caps.all (· < st.blks.length) && st.tmps.all (fun v => match v with
          | .one (.s .junk) => false
          | _ => true) then
        .clo none [.self] (sigs.HY (yH P sigs ps.toList asn body st) lv { st with n := st.n + 1 } gf (ptrS caps) [.one (.s (.any (.at st.n)))] (fun st' _ => k .normal { st' with tmps := st.tmps }))
      else .bad 71
    | _ => .bad 71
  | .loop c, lp, lv, st, k => match an.loops[lp]? with
    | none => .bad 32
    | some (.rounds n) => seRounds (fun st k => seCode P sigs an c (lp + 1) lv st k) n st k
    | some la => if la.probe && (seRounds (fun st k => seCode P sigs an c (lp + 1) lv st k) 1 st (fun _ _ => .ret [])).noBad then seRounds (fun st k => seCode P sigs an c (lp + 1) lv st k) 1 st k else match la.head with
      | none => .bad 32
      | some (sl, ce, ows, keep) => match (headLeaves st (sl, ce)).map (rawLs st ows) with
        | none => .bad 33
        | some ls => match allSome (ls.map kindS), settle st ls ows with
          | some ks, some rem =>
            let h : Hd := ⟨sl, ce, ows, if keep then rem else [], la.junk⟩
            if covers st.n ks ls h (headSt st c h ls ks) st then
              needAll (slcAll ls) <| .loop ks ls (seCode P sigs an c (lp + 1) (lv + 1) (headSt st c h ls ks) (fun e st' => match e with
                | .normal => match (headLeaves st' (sl, ce)).map (rawLs st' ows) with
                  | some bs => if covers st.n ks bs h (headSt st c h ls ks) st' then needAll (slcAll bs) (.again lv bs) else .bad 35
                  | none => .bad 35
                | e => .pop lv (k e st')))
            else .bad 36
          | _, _ => .bad 34
  | _, _, _, _, _ => .bad 37
/-- The end of a call: its results, as leaves. -/
def resTV (P : Program) (st : St) : ResultVar → Option TV
  | .tmp t => match st.ev (.tmp t) with
    | some (.one v) => some v
    | _ => none
  | .cell a t => match seLoad P st t (.tmp a) with
    | some (_, .one v, .blk _) => some v
    | _ => none
def fits : List (Option Nat) → List TV → Bool
  | [], [] => true
  | none :: r, .s _ :: l => fits r l
  | some n :: r, .agg c :: l => c.length == n && fits r l
  | _, _ => false
def seRet (P : Program) (fn : Func) (sg : Sig) (st : St) : T :=
  match allSome (fn.results.toList.map (resTV P st)) with
  | some vs =>
    let ls := (vs.map TV.cells).flatten
    if fits sg.rsh vs && (sg.tup == (vs.length != 1)) && ls.all S.pureB && ls.length == sg.res.length && (ls.zip sg.res).all (fun p => match kindS p.1 with
        | some k => RK.eq p.2 k || (match p.2 with | .any => true | _ => false)
        | none => match p.2 with | .any => true | _ => false) && ownFit sg && (settle st ls sg.own).isSome then needAll (slcAll ls) (.ret ls) else .bad 40
  | none => .bad 41
def startSt (fn : Func) (sg : Sig) (pk : List RK) : St :=
  { n := pk.length, tmps := (shapeS sg.ash (atomsFrom 0 pk)).map SV.one ++ List.replicate (fn.ntmps - sg.ash.length) undefV, blks := [], known := [], own := [], dead := [] }
/-- A call within a call: the callee's code in the caller's state; so much is told of each callee. -/
structure Inl where
  f : FuncId
  fn : Func
  c : Code
  an : Ann
def inlOf (f : FuncId) : List Inl → Option Inl
  | [] => none
  | x :: r => if x.f == f then some x else inlOf f r
def retSV (P : Program) (fn : Func) (st : St) : Option SV := match allSome (fn.results.toList.map (resTV P st)) with
  | some [v] => some (.one v)
  | some vs => some (.tup vs)
  | none => none
def inSt (fn : Func) (st : St) (caps : List S) (vs : List SV) : St :=
  { st with tmps := (vs ++ caps.map fun s => SV.one (.s s)) ++ List.replicate (fn.ntmps - (vs.length + caps.length)) undefV }
/-- The caller's state behind a call within a call: the callee's blocks go, where nothing leads there any more. -/
def backSt (st st' : St) (v : SV) : St :=
  if v.pb st.blks.length && (st'.blks.take st.blks.length).all (fun b => b.cells.all (S.pb st.blks.length)) then { st' with tmps := st.tmps, blks := st'.blks.take st.blks.length } else { st' with tmps := st.tmps }
/-- A box of a function value that is handed back holds so much. -/
def ccOf (v : S) (st : St) (b : Nat) : Option Cc := match st.blks[b]? with
  | some bl => if bl.mp.isNone then match bl.cells with
      | [s] => if s.eq v then some .self else match s with
        | .int k (.int z) => some (.int k z)
        | .fn g [] => some (.fn g)
        | _ => none
      | _ => none
    else none
  | none => none
/-- Behind a call within a call; a function value whose boxes hold so much is handed back as an atom. -/
def retK (st st' : St) (v : SV) (k : St → SV → T) : T := match v with
  | .one (.agg [.fn g caps]) => match allSome (caps.map (ccOf (.fn g caps) st')) with
    | some cs => if caps.all (fun b => st.blks.length ≤ b) && (st'.blks.take st.blks.length).all (fun b => b.cells.all (S.pb st.blks.length)) && st'.bnd then
        .clo (some g) cs (k { st' with n := st'.n + 1, tmps := st.tmps, blks := st'.blks.take st.blks.length, known := (.clo (some g) cs (.at st'.n), true) :: st'.known } (.one (.agg [.any (.at st'.n)])))
      else k (backSt st st' v) v
    | none => k (backSt st st' v) v
  | _ => k (backSt st st' v) v
def inH (P : Program) (inl : List Inl) (inner : Sg) : Nat → Hnd := fun lv st g caps vs k => match inlOf g inl with
  | none => .bad (2000 + g)
  | some x => if st.bnd && st.pbnd && vs.all (SV.bnd st.n) && vs.all (SV.pb st.blks.length) && caps.all (S.bnd st.n) && caps.all (S.pb st.blks.length) then
      seCode P inner x.an x.c 0 lv (inSt x.fn st caps vs) (fun e st' => match e with
        | .exit _ => .bad 43
        | _ => match retSV P x.fn st' with
          | some v => retK st st' v k
          | none => .bad 61)
    else .bad 62
/-- A whole function. -/
def seFn (P : Program) (sigs : Sg) (an : Ann) (fn : Func) (sg : Sig) (pk : List RK) : T :=
  match fn.body with
  | none => .bad 42
  | some c => seCode P sigs an c 0 0 (startSt fn sg pk) (fun e st => match e with
    | .exit _ => .bad 43
    | _ => seRet P fn sg st)
end Go.Proofs.YtamjocnlhhhijaaV

namespace Go.Proofs.YtamjocnlhhhijaaV
open Go Go.RowKit

/-- What a box of the function value 'v' holds. -/
def Cc.val (v : Value) : Cc → Value
  | .int k z => .int k z
  | .fn g => .func (.func g) #[] #[]
  | .self => v
def boxP (bs : List Nat) : Array Value := (bs.map fun b => Value.pointer (some ⟨b, 0, none⟩)).toArray
inductive Rd (m : Addr → Option Value) : Value → D → Prop
  | leaf (v : Value) : Rd m v .leaf
  | nil (sz : Nat) : Rd m (.slice none 0 0) (.rows sz [])
  | rows (a : Addr) (c sz : Nat) (els : List (List Atom))
      (hz : ∀ (i : Nat) (row : List Atom), els[i]? = some row → row.length = sz)
      (hc : ∀ (i j : Nat) (row : List Atom) (x : Atom), els[i]? = some row → row[j]? = some x → m (a.add (i * sz + j)) = some x.1)
      (h1 : ∀ (i j : Nat) (row : List Atom) (x : Atom), els[i]? = some row → row[j]? = some x → x.1.oneCell' = true)
      (hd : ∀ (i j : Nat) (row : List Atom) (x : Value) (d : D), els[i]? = some row → row[j]? = some (x, d) → Rd m x d)
      (hcap : els.length ≤ c) :
      Rd m (.slice (some a) els.length c) (.rows sz els)
  | clo (f : FuncId) (bs : List Nat) (cs : List Cc) (hl : bs.length = cs.length)
      (hc : ∀ (j b : Nat) (c : Cc), bs[j]? = some b → cs[j]? = some c → m ⟨b, 0, none⟩ = some (c.val (.func (.func f) #[] (boxP bs)))) :
      Rd m (.func (.func f) #[] (boxP bs)) (.clo cs)
theorem Rd.mono {m m' : Addr → Option Value} (h : ∀ a v, m a = some v → m' a = some v) {v : Value} {d : D} (r : Rd m v d) : Rd m' v d := by
  induction r with
  | leaf v => exact .leaf v
  | nil sz => exact .nil sz
  | rows a c sz els hz hc h1 _ hcap ih => exact .rows a c sz els hz (fun i j row x hi hj => h _ _ (hc i j row x hi hj)) h1 ih hcap
  | clo f bs cs hl hc => exact .clo f bs cs hl fun j b c hb hc' => h _ _ (hc j b c hb hc')
def Good (m : Addr → Option Value) (x : Atom) : Prop := Rd m x.1 x.2 ∧ x.1.oneCell' = true
theorem Good.mono {m m' : Addr → Option Value} (h : ∀ a v, m a = some v → m' a = some v) {x : Atom} (g : Good m x) : Good m' x := ⟨g.1.mono h, g.2⟩
theorem good0 (m : Addr → Option Value) : Good m atom0 := ⟨.leaf _, rfl⟩
/-- What is true of any atom: one cell, good elements. -/
def Elt (m : Addr → Option Value) (x : Atom) : Prop := x.1.oneCell' = true ∧ ∀ row ∈ x.2.els, ∀ y ∈ row, Good m y
theorem Elt.mono {m m' : Addr → Option Value} (h : ∀ a v, m a = some v → m' a = some v) {x : Atom} (g : Elt m x) : Elt m' x := ⟨g.1, fun r hr y hy => (g.2 r hr y hy).mono h⟩
theorem Good.elt {m : Addr → Option Value} {x : Atom} (g : Good m x) : Elt m x := by
  obtain ⟨g, g1⟩ := g
  refine ⟨g1, ?_⟩
  obtain ⟨v, d⟩ := x
  cases g with
  | leaf => simp [D.els]
  | nil => simp [D.els]
  | clo => simp [D.els]
  | rows a c sz els hz hc h1 hd =>
    intro row hrow y hy
    obtain ⟨i, hi⟩ := List.getElem?_of_mem hrow
    obtain ⟨j, hj⟩ := List.getElem?_of_mem hy
    exact ⟨hd _ _ _ _ _ hi hj, h1 _ _ _ _ hi hj⟩
theorem elt0 (m : Addr → Option Value) : Elt m atom0 := (good0 m).elt
theorem elt_leaf (m : Addr → Option Value) {v : Value} (h : v.oneCell' = true) : Elt m (v, .leaf) := ⟨h, by simp [D.els]⟩
theorem good_leaf (m : Addr → Option Value) {v : Value} (h : v.oneCell' = true) : Good m (v, .leaf) := ⟨.leaf v, h⟩
theorem good_cell {m : Addr → Option Value} {a : Atom} (h : Elt m a) (i : Int) (j : Nat) : Good m (cellD a i j) := by
  unfold cellD
  cases h2 : a.2.els[i.toNat]? with
  | none => simpa [List.getD_eq_getElem?_getD, h2] using good0 m
  | some row =>
    cases h3 : row[j]? with
    | none => simpa [List.getD_eq_getElem?_getD, h2, h3] using good0 m
    | some x => simp only [List.getD_eq_getElem?_getD, h2, h3, Option.getD_some]; exact h.2 _ (List.mem_of_getElem? h2) _ (List.mem_of_getElem? h3)
theorem elt_sub {m : Addr → Option Value} {a : Atom} (h : Elt m a) (z l k : Nat) : Elt m (subA z a l k) := by
  refine ⟨rfl, ?_⟩
  unfold subA
  obtain ⟨v, d⟩ := a
  cases d with
  | leaf => simp [D.els]
  | clo => simp [D.els]
  | rows sz els =>
    simp only
    split
    · intro row hrow
      simp only [D.els] at hrow
      exact h.2 row (List.mem_of_mem_take (List.mem_of_mem_drop hrow))
    · simp [D.els]
theorem good_sub {m : Addr → Option Value} {a : Atom} (h : Good m a) (z l k : Nat) : Good m (subA z a l k) := by
  refine ⟨?_, rfl⟩
  obtain ⟨h, _⟩ := h
  obtain ⟨v, d⟩ := a
  unfold subA
  cases h with
  | leaf => exact .leaf _
  | clo => exact .leaf _
  | nil sz =>
    show Rd m (.slice (if 0 = l then none else (none : Option Addr).map (·.add (l * z))) (k - l) (0 - l)) (if l ≤ k ∧ k ≤ ([] : List (List Atom)).length ∧ (([] : List (List Atom)).length = 0 ∨ z = sz) then D.rows sz (List.drop l (List.take k [])) else D.leaf)
    by_cases hc : l ≤ k ∧ k ≤ ([] : List (List Atom)).length ∧ (([] : List (List Atom)).length = 0 ∨ z = sz)
    · rw [if_pos hc]
      obtain ⟨c1, c2, c3⟩ := hc
      simp only [List.length_nil] at c2
      obtain rfl : k = 0 := by omega
      obtain rfl : l = 0 := by omega
      simpa [va] using Rd.nil (m := m) sz
    · rw [if_neg hc]; exact .leaf _
  | rows p c sz els hz hc h1 hd hcap =>
    show Rd m (.slice (if c = l then some p else (some p).map (·.add (l * z))) (k - l) (c - l)) (if l ≤ k ∧ k ≤ els.length ∧ (els.length = 0 ∨ z = sz) then D.rows sz (List.drop l (List.take k els)) else D.leaf)
    by_cases hcnd : l ≤ k ∧ k ≤ els.length ∧ (els.length = 0 ∨ z = sz)
    · rw [if_pos hcnd]
      obtain ⟨c1, c2, c3⟩ := hcnd
      have hlen : ((els.take k).drop l).length = k - l := by simp; omega
      by_cases hemp : k - l = 0
      · have he : (els.take k).drop l = [] := by apply List.eq_nil_of_length_eq_zero; omega
        rw [he, hemp]
        by_cases hcl : c = l
        · rw [if_pos hcl]
          have := Rd.rows (m := m) p (c - l) sz [] (by simp) (by simp) (by simp) (by simp) (by simp)
          simpa using this
        · rw [if_neg hcl, Option.map_some]
          have := Rd.rows (m := m) (p.add (l * z)) (c - l) sz [] (by simp) (by simp) (by simp) (by simp) (by simp)
          simpa using this
      · obtain rfl : z = sz := by
          rcases c3 with h | h
          · omega
          · exact h
        have hget : ∀ (i : Nat) (row : List Atom), ((els.take k).drop l)[i]? = some row → els[l + i]? = some row ∧ l + i < k := by
          intro i row hi
          rw [List.getElem?_drop, List.getElem?_take] at hi
          split at hi
          · rename_i hlt; exact ⟨hi, hlt⟩
          · cases hi
        have hnl : ¬ c = l := by omega
        rw [if_neg hnl, Option.map_some]
        have := Rd.rows (m := m) (p.add (l * z)) (c - l) z ((els.take k).drop l) (fun i row hi => hz _ _ (hget i row hi).1)
          (fun i j row x hi hj => by
            have h3 := hc _ _ _ _ (hget i row hi).1 hj
            have e : (p.add (l * z)).add (i * z + j) = p.add ((l + i) * z + j) := by
              have e1 : (l + i) * z + j = l * z + (i * z + j) := by rw [Nat.add_mul, Nat.add_assoc]
              rw [e1]
              generalize l * z = u1
              generalize i * z + j = u2
              unfold Addr.add
              by_cases q1 : u1 = 0 <;> by_cases q2 : u2 = 0 <;> simp [q1, q2, Nat.add_assoc]
            rw [e]; exact h3)
          (fun i j row x hi hj => h1 _ _ _ _ (hget i row hi).1 hj) (fun i j row x d hi hj => hd _ _ _ _ _ (hget i row hi).1 hj) (by rw [hlen]; omega)
        rw [hlen] at this
        exact this
    · rw [if_neg hcnd]; exact .leaf _
theorem getD_get {env : List Atom} {i : Nat} {x : Atom} (h : env[i]? = some x) : env.getD i atom0 = x := by simp [List.getD_eq_getElem?_getD, h]
theorem X.elt {m : Addr → Option Value} {env : List Atom} (hg : ∀ x ∈ env, Elt m x) (x : X) : Elt m (x.den env) := by
  induction x with
  | «at» i =>
    simp only [X.den, List.getD_eq_getElem?_getD]
    cases h : env[i]? with
    | none => exact elt0 m
    | some y => exact hg y (List.mem_of_getElem? h)
  | nil sz => exact (show Good m _ from ⟨.nil sz, rfl⟩).elt
  | ite c x y _ ihx ihy => simp only [X.den]; split <;> assumption
  | cell s i j ihs _ => exact (good_cell ihs _ _).elt
  | rsub z s a b ihs _ _ => exact elt_sub ihs _ _ _
  | raw x ih => exact ⟨ih.1, by simp [X.den, D.els]⟩
  | _ => exact elt_leaf m rfl
theorem X.good {m : Addr → Option Value} {env : List Atom} {D O : List Nat} (hg : ∀ i x, env[i]? = some x → Elt m x ∧ (i ∉ D → i ∉ O → Good m x)) (x : X) (h1 : x.avoid D = true) (h2 : x.avoid O = true) : Good m (x.den env) := by
  have he : ∀ x ∈ env, Elt m x := fun x hx => by obtain ⟨i, hi⟩ := List.getElem?_of_mem hx; exact (hg i x hi).1
  induction x with
  | «at» i =>
    simp only [X.den, List.getD_eq_getElem?_getD]
    simp only [X.avoid, List.all_eq_true, bne_iff_ne, ne_eq] at h1 h2
    cases h : env[i]? with
    | none => exact good0 m
    | some y => exact (hg i y h).2 (fun q => h1 i q rfl) (fun q => h2 i q rfl)
  | nil sz => exact ⟨.nil sz, rfl⟩
  | ite c x y _ ihx ihy =>
    simp only [X.avoid, Bool.and_eq_true] at h1 h2
    simp only [X.den]; split
    · exact ihx h1.1.2 h2.1.2
    · exact ihy h1.2 h2.2
  | cell s i j _ _ => exact good_cell (X.elt he s) _ _
  | rsub z s a b ihs _ _ =>
    simp only [X.avoid, Bool.and_eq_true] at h1 h2
    exact good_sub (ihs h1.1.1 h2.1.1) _ _ _
  | raw x _ => exact ⟨.leaf _, (X.elt he x).1⟩
  | _ => exact good_leaf m rfl
def flat (els : List (List Atom)) : List Value := (els.map (List.map (·.1))).flatten
/-- A row of the call's own: its frozen range is none, or lies behind its cells. -/
def okRow (w : World) (g : Nat) (cur : Array Value) (e : TypeId) : Prop := ∃ fz : Nat × Nat, w.heap[g]? = some (.cells cur e fz) ∧ (fz.1 = fz.2 ∨ cur.size ≤ fz.1)
theorem okRow.old {w : World} {g : Nat} {cur : Array Value} {e : TypeId} (h : w.heap[g]? = some (.cells cur e (0, 0))) : okRow w g cur e := ⟨(0, 0), h, .inl rfl⟩
theorem okRow.lt {w : World} {g : Nat} {cur : Array Value} {e : TypeId} (h : okRow w g cur e) : g < w.heap.size := by
  obtain ⟨fz, h, _⟩ := h
  exact (Array.getElem?_eq_some_iff.1 h).1
theorem okRow.set {w : World} {g : Nat} {cur new : Array Value} {e : TypeId} (h : okRow w g cur e) (hs : new.size = cur.size) : okRow (w.setRow g new) g new e := by
  obtain ⟨fz, h, hf⟩ := h
  exact ⟨fz, setRow_heap w g cur new e fz h, by rw [hs]; exact hf⟩
theorem store_row (P : Program) (g o : Nat) (t : TypeId) : ∀ (vs : List Value) (i : Nat) (cur : Array Value) (w : World), okRow w g cur t → o + i + vs.length ≤ cur.size → (∀ v ∈ vs, v.oneCell' = true) →
    (storeCells ⟨g, o, none⟩ vs i).run P w = .ok () (w.setRow g (cur.toList.take (o + i) ++ vs ++ cur.toList.drop (o + i + vs.length)).toArray)
  | [], i, cur, w, hg, _, _ => by
    obtain ⟨fz, hg, _⟩ := hg
    simp only [storeCells, List.append_nil, List.length_nil, Nat.add_zero, List.take_append_drop, Array.toArray_toList]
    rw [setRow_self w g cur t fz hg]
    rfl
  | v :: rest, i, cur, w, hok, hl, h1 => by
    obtain ⟨fz, hg, hfz⟩ := id hok
    have hi : o + i < cur.size := by simp at hl; omega
    have hadd : (⟨g, o, none⟩ : Addr).add i = ⟨g, o + i, none⟩ := by unfold Addr.add; split <;> simp_all
    have hcell : w.cell? ⟨g, o + i, none⟩ = some cur[o + i] := by simp [World.cell?, hg, hi]
    have hfro : w.frozen? ⟨g, o + i, none⟩ = false := by
      obtain ⟨lo, hi'⟩ := fz
      simp only [World.frozen?, hg, Bool.and_eq_false_iff, decide_eq_false_iff_not]
      simp only at hfz
      omega
    have hst : (store ((⟨g, o, none⟩ : Addr).add i) v).run P w = .ok () (w.setRow g (cur.setIfInBounds (o + i) v)) := by
      rw [hadd, run_store P w _ v _ (h1 v (by simp)), hcell]
      simp [hfro, setCell_eq_setRow w g (o + i) cur t fz v hg]
    have ih := store_row P g o t rest (i + 1) (cur.setIfInBounds (o + i) v) (w.setRow g (cur.setIfInBounds (o + i) v)) (hok.set (by simp)) (by simp at hl ⊢; omega) (fun x hx => h1 x (by simp [hx]))
    simp only [storeCells, Sem.run_bind, hst, Result.andThen_ok, ih, setRow_setRow]
    congr 3
    have e := list_seg_step cur.toList (o + i) v rest (by simp at hl ⊢; omega)
    simpa [Array.toList_setIfInBounds, Nat.add_assoc] using e
def ownsX (w : World) (base : Nat) (e : TypeId) (size : Nat) (v : Value) (n : Nat) (xs : List Value) : Prop :=
  xs.length = n * size ∧
  ((v = .slice none 0 0 ∧ n = 0) ∨
   ∃ g cap cur, v = .slice (some ⟨g, 0, none⟩) n cap ∧ base ≤ g ∧ okRow w g cur e ∧ n ≤ cap ∧ cap ≤ maxLen ∧ cur.size = cap * size ∧ cur.toList.take (n * size) = xs)
section
variable {w : World} {base : Nat} {e : TypeId} {size : Nat} {v : Value} {n : Nat} {xs : List Value}
theorem ownsX_of (h : w.ownsRow base e size v n xs) : ownsX w base e size v n xs := by
  refine ⟨h.1, ?_⟩
  rcases h.2 with hn | ⟨g, cap, cur, hv, hb, hg, rest⟩
  · exact .inl hn
  · exact .inr ⟨g, cap, cur, hv, hb, .old hg, rest⟩
theorem ownsX_nil (w : World) (base : Nat) (e : TypeId) (size : Nat) : ownsX w base e size (.slice none 0 0) 0 [] := ⟨by simp, .inl ⟨rfl, rfl⟩⟩
theorem ownsX.lt (h : ownsX w base e size v n xs) : ∀ k, v.ownBlock = some k → base ≤ k ∧ k < w.heap.size := by
  intro k hk
  rcases h.2 with ⟨rfl, _⟩ | ⟨g, cap, cur, rfl, hb, hg, _⟩
  · simp [Value.ownBlock] at hk
  · simp [Value.ownBlock] at hk
    subst hk
    exact ⟨hb, hg.lt⟩
theorem ownsX.kept {w' : World} {row : Option Nat} (h : ownsX w base e size v n xs) (hg : w.grownBy w' row) (hne : v.ownBlock = none ∨ v.ownBlock ≠ row) : ownsX w' base e size v n xs := by
  refine ⟨h.1, ?_⟩
  rcases h.2 with hn | ⟨g, cap, cur, rfl, hb, hgg, rest⟩
  · exact .inl hn
  · refine .inr ⟨g, cap, cur, rfl, hb, ?_, rest⟩
    obtain ⟨fz, h1, h2⟩ := id hgg
    exact ⟨fz, by rw [hg.block g hgg.lt (by simpa [Value.ownBlock] using hne)]; exact h1, h2⟩
theorem ownsX.cells (h : ownsX w base e size v n xs) {g : Nat} (hg : v.ownBlock = some g) : ∀ j u, xs[j]? = some u → w.cell? ((⟨g, 0, none⟩ : Addr).add j) = some u := by
  intro j u hu
  rcases h.2 with ⟨rfl, _⟩ | ⟨g', cap, cur, rfl, _, hgg, _, _, _, htake⟩
  · simp [Value.ownBlock] at hg
  · simp [Value.ownBlock] at hg
    subst hg
    obtain ⟨fz, hgg, _⟩ := hgg
    have hadd : (⟨g', 0, none⟩ : Addr).add j = ⟨g', j, none⟩ := by unfold Addr.add; split <;> simp_all
    rw [hadd]
    rw [← htake, List.getElem?_take] at hu
    split at hu
    · simp only [World.cell?, hgg]; simpa using hu
    · cases hu
theorem run_append_owned_noneX {P : Program} (base : Nat) (t ty e : TypeId) (i : TypeInfo) (size : Nat) (ht : P.underlying t = some (.slice e)) (hi : P.info? e = some i)
    (v : Value) (n : Nat) (xs : List Value) (hown : ownsX w base e size v n xs) :
    (Builtin.append_ #[t, t] ty #[v, .slice none 0 0]).run P w = .ok v w := by
  rcases hown.2 with ⟨rfl, rfl⟩ | ⟨g, cap, cur, rfl, _, _, hnc, _⟩
  · simp [Builtin.append_, run_underlying ht, sizeOf, typeInfo, hi, Builtin.lenOf, Builtin.firstCells]
  · simp [Builtin.append_, run_underlying ht, sizeOf, typeInfo, hi, Builtin.lenOf, Builtin.firstCells, hnc, storeCells]
theorem run_append_roomX {P : Program} (t ty e : TypeId) (i : TypeInfo) (ht : P.underlying t = some (.slice e)) (hi : P.info? e = some i)
    (g sLen sCap : Nat) (cur : Array Value) (hg : okRow w g cur e)
    (a : Addr) (m c : Nat) (news : List Value) (hl : news.length = m * i.size) (hnews : ∀ j u, news[j]? = some u → w.cell? (a.add j) = some u) (h1 : ∀ u ∈ news, u.oneCell' = true)
    (hroom : sLen + m ≤ sCap) (hfit : sLen * i.size + news.length ≤ cur.size) :
    (Builtin.append_ #[t, t] ty #[.slice (some ⟨g, 0, none⟩) sLen sCap, .slice (some a) m c]).run P w =
      .ok (.slice (some ⟨g, 0, none⟩) (sLen + m) sCap) (w.setRow g (cur.toList.take (sLen * i.size) ++ news ++ cur.toList.drop (sLen * i.size + news.length)).toArray) := by
  have hf := run_firstCells_some (P := P) w i.size m a m c news hl hnews
  have hst := store_row P g (sLen * i.size) e news 0 cur w hg (by simpa using hfit) h1
  simp only [Nat.add_zero] at hst
  simp [Builtin.append_, run_underlying ht, sizeOf, typeInfo, hi, Builtin.lenOf, hroom, hf, Addr.add_lit, hst]
theorem run_append_room_stringX {P : Program} (t u ty e : TypeId) (i : TypeInfo) (ht : P.underlying t = some (.slice e)) (hu : P.underlying u = some .string) (hi : P.info? e = some i) (hs1 : i.size = 1)
    (g sLen sCap : Nat) (cur : Array Value) (hg : okRow w g cur e) (s : ByteArray)
    (hroom : sLen + s.size ≤ sCap) (hfit : sLen + s.size ≤ cur.size) :
    (Builtin.append_ #[t, u] ty #[.slice (some ⟨g, 0, none⟩) sLen sCap, .string s]).run P w =
      .ok (.slice (some ⟨g, 0, none⟩) (sLen + s.size) sCap) (w.setRow g (cur.toList.take sLen ++ Go.Lib.strCells s ++ cur.toList.drop (sLen + s.size)).toArray) := by
  have hf := Go.Lib.run_firstCells_string (P := P) w 1 s
  have hst := store_row P g sLen e (Go.Lib.strCells s) 0 cur w hg (by simpa [Go.Lib.strCells_length] using hfit) (Go.Lib.strCells_oneCell s)
  simp only [Nat.add_zero, Go.Lib.strCells_length] at hst
  simp [Builtin.append_, run_underlying ht, run_underlying hu, sizeOf, typeInfo, hi, hs1, Builtin.lenOf, hroom, hf, Addr.add_lit, hst]
end
/-- A slice of the call's own. -/
def OwnAs (m : Addr → Option Value) (w : World) (base : Nat) (a : Atom) (e : TypeId) (sz : Nat) : Prop :=
  ∃ z els, a.2 = .rows z els ∧ (els ≠ [] → z = sz) ∧ (∀ row ∈ els, row.length = sz) ∧ (∀ row ∈ els, ∀ x ∈ row, Good m x) ∧ ownsX w base e sz a.1 els.length (flat els)
/-- .. or one of which nothing is told. -/
def OwnAt (m : Addr → Option Value) (w : World) (base : Nat) (a : Atom) (e : TypeId) (sz : Nat) : Prop := a.2 = .leaf ∨ OwnAs m w base a e sz
/-- The block of it. -/
def ownB (a : Atom) : Option Nat := match a.2 with
  | .rows _ _ => a.1.ownBlock
  | _ => none
theorem ownB_of {a : Atom} {z : Nat} {els : List (List Atom)} (h : a.2 = .rows z els) : ownB a = a.1.ownBlock := by unfold ownB; rw [h]
theorem ownB_leaf {a : Atom} (h : a.2 = .leaf) : ownB a = none := by unfold ownB; rw [h]
theorem OwnAt.as {m : Addr → Option Value} {w : World} {base : Nat} {a : Atom} {e : TypeId} {sz : Nat} (h : OwnAt m w base a e sz) (hr : ∃ z els, a.2 = .rows z els) : OwnAs m w base a e sz := by
  rcases h with h | h
  · obtain ⟨z, els, e⟩ := hr; rw [h] at e; cases e
  · exact h
theorem OwnAt.lt {m : Addr → Option Value} {w : World} {base : Nat} {a : Atom} {e : TypeId} {sz : Nat} (h : OwnAt m w base a e sz) : ∀ g, ownB a = some g → base ≤ g ∧ g < w.heap.size := by
  intro g hg
  rcases h with h | ⟨z, els, q1, _, _, _, q5⟩
  · rw [ownB_leaf h] at hg; cases hg
  · rw [ownB_of q1] at hg; exact q5.lt g hg
theorem OwnAs.lt {m : Addr → Option Value} {w : World} {base : Nat} {a : Atom} {e : TypeId} {sz : Nat} (h : OwnAs m w base a e sz) : ∀ g, a.1.ownBlock = some g → base ≤ g ∧ g < w.heap.size := by
  obtain ⟨z, els, _, _, _, _, q5⟩ := h; exact q5.lt
def blkOf (env : List Atom) (o : Nat × TypeId × Nat) : Option Nat := ownB (env.getD o.1 atom0)
def Apart (env : List Atom) (o o' : Nat × TypeId × Nat) : Prop := ∀ g, blkOf env o = some g → blkOf env o' ≠ some g
def Blk.obj (env : List Atom) (η : List Nat) (b : Blk) : Obj := match b.mp with
  | none => .cells (b.cells.map (S.den env η)).toArray b.ty (0, 0)
  | some (q, ks) => .map ((ks.zip b.cells).zipIdx.map fun p => ⟨.int q p.1.1, p.1.2.den env η, p.2⟩).toArray ks.length
/-- Where the call began: the world, what is read of it. -/
structure Base where
  w : World
  m : Addr → Option Value
  pr : Nat → Option Obj
  ys : List (SV × Value)
/-- A loop's record over a function, its block for deferred calls. -/
def bookB : Obj → Bool
  | .loop _ | .deferred _ => true
  | _ => false
def markD (D : Nat) : Deferred := { target := .collected D, args := #[] }
/-- The book-keeping of ranges over functions: this frame's marks; what lies elsewhere and stays; values that stay. -/
structure Books (w0 : Base) (env : List Atom) (η : List Nat) (dl : List Deferred) (w : World) : Prop where
  md : ∃ ds : List Nat, dl = ds.map markD ∧ (ds.Nodup ∧ ∀ D ∈ ds, w0.pr D = none ∧ w0.w.heap.size ≤ D) ∧ ∀ D ∈ ds, w.heap[D]? = some (.deferred (some []))
  kp : ∀ g o, w0.pr g = some o → bookB o = true ∧ w.heap[g]? = some o
  ys : ∀ p ∈ w0.ys, p.1.den env η = p.2 ∧ p.1.bnd env.length = true ∧ p.1.pb η.length = true
structure Rel (w0 : Base) (st : St) (env : List Atom) (η : List Nat) (m : Addr → Option Value) (a : Act) (w : World) : Prop where
  hn : env.length = st.n
  hs : a.tmps.size = st.tmps.length
  ht : ∀ (i : Nat) v, st.tmps[i]? = some v → v = junkV ∨ a.tmps[i]? = some (v.den env η)
  hd : Books w0 env η a.defers w
  he : η.length = st.blks.length
  hnd : η.Nodup
  hb : ∀ (i : Nat) bl, st.blks[i]? = some bl → w.heap[η.getD i 0]? = some (bl.obj env η)
  hge : ∀ g ∈ η, w0.w.heap.size ≤ g
  hB : Below w0.w.heap.size w0.w w
  hm : ∀ ad v, m ad = some v → w.cell? ad = some v ∧ ad.block ∉ η
  hm0 : ∀ ad v, m ad = some v → ad.block < w0.w.heap.size → w0.m ad = some v
  hg : ∀ i x, env[i]? = some x → Elt m x ∧ (i ∉ st.dead → i ∉ st.own.map (·.1) → Good m x)
  ho : ∀ o ∈ st.own, ∃ x, env[o.1]? = some x ∧ OwnAt m w w0.w.heap.size x o.2.1 o.2.2
  hod : st.own.Pairwise (Apart env)
  hom : ∀ o ∈ st.own, ∀ g, blkOf env o = some g → g ∉ η ∧ ∀ ad v, m ad = some v → ad.block ≠ g
  hk : ∀ p ∈ st.known, vb (p.1.den env).1 = p.2

section
variable {w0 : Base} {w : World} {st : St} {env : List Atom} {η : List Nat} {m : Addr → Option Value} {a : Act}
theorem Rel.elt (hr : Rel w0 st env η m a w) : ∀ x ∈ env, Elt m x := fun x hx => by obtain ⟨i, hi⟩ := List.getElem?_of_mem hx; exact (hr.hg i x hi).1
theorem cstV_den {v : Value} {s : SV} (h : cstV v = some s) : s.den env η = v := by
  unfold cstV at h
  split at h <;> first
    | (injection h with h; subst h; simp [SV.den, TV.den, S.den, X.den, vi, vb, vs]; done)
    | (cases h; done)
theorem Rel.ev (hr : Rel w0 st env η m a w) {x : Operand} {v : SV} (h : st.ev x = some v) : a.eval x = v.den env η := by
  cases x with
  | tmp t =>
    simp only [St.ev] at h
    have h' : st.tmps[t]? = some v ∧ v ≠ junkV := by
      split at h
      · cases h
      · rename_i hne; exact ⟨h, fun e => hne (by rw [h, e]; rfl)⟩
    rcases hr.ht t v h'.1 with e | e
    · exact absurd e h'.2
    · simp [Act.eval, Array.getD_eq_getD_getElem?, e]
  | const v' => exact (cstV_den h).symm
  | global g => simp [St.ev] at h
  | func f => simp only [St.ev, Option.some.injEq] at h; subst h; simp [Act.eval, SV.den, TV.den, S.den]
theorem look_sound (hk : ∀ p ∈ st.known, vb (p.1.den env).1 = p.2) (hq : ∀ x y : X, x.eq y = true → x = y) {x : X} {b : Bool} (h : st.look x = some b) : vb (x.den env).1 = b := by
  unfold St.look at h
  cases hf : st.known.find? (fun p => p.1.eq x) with
  | none => rw [hf] at h; cases h
  | some p =>
    rw [hf] at h
    simp only [Option.map_some, Option.some.injEq] at h
    have h1 := hq _ _ (by simpa using List.find?_some hf)
    have h2 := hk p (List.mem_of_find?_eq_some hf)
    rw [← h1, h2, h]
end
end Go.Proofs.YtamjocnlhhhijaaV

namespace Go.Proofs.YtamjocnlhhhijaaV
open Go Go.RowKit

theorem eqL_of {α : Type} {e : α → α → Bool} (he : ∀ a b, e a b = true → a = b) : ∀ {l m : List α}, eqL e l m = true → l = m
  | [], [], _ => rfl
  | a :: l, b :: m, h => by
    simp only [eqL, Bool.and_eq_true] at h
    rw [he _ _ h.1, eqL_of he h.2]
  | [], _ :: _, h => by simp [eqL] at h
  | _ :: _, [], h => by simp [eqL] at h
theorem Cc.eq_of {x y : Cc} (h : x.eq y = true) : x = y := by
  cases x <;> cases y <;> simp only [Cc.eq, Bool.and_eq_true, beq_iff_eq, Bool.false_eq_true] at h
  · obtain ⟨rfl, rfl⟩ := h; rfl
  · subst h; rfl
  · rfl
theorem ccL_of {l m : List Cc} (h : eqL Cc.eq l m = true) : l = m := eqL_of (fun _ _ => Cc.eq_of) h
theorem Cc.eq_refl (x : Cc) : x.eq x = true := by cases x <;> simp [Cc.eq]
theorem ccL_refl : ∀ l : List Cc, eqL Cc.eq l l = true
  | [] => rfl
  | c :: l => by simp only [eqL, Cc.eq_refl, ccL_refl l, Bool.and_self]
theorem X.eq_of {x y : X} (h : x.eq y = true) : x = y := by
  induction x generalizing y <;> cases y <;> simp only [X.eq, Bool.and_eq_true, beq_iff_eq, Bool.false_eq_true] at h
  case ar.ar ih1 ih2 _ _ _ _ => obtain ⟨⟨⟨rfl, rfl⟩, h1⟩, h2⟩ := h; rw [ih1 h1, ih2 h2]
  case neg.neg ih _ _ => obtain ⟨rfl, h1⟩ := h; rw [ih h1]
  case wrap.wrap ih _ _ => obtain ⟨rfl, h1⟩ := h; rw [ih h1]
  case cmp.cmp ih1 ih2 _ _ _ => obtain ⟨⟨rfl, h1⟩, h2⟩ := h; rw [ih1 h1, ih2 h2]
  case not.not ih _ => rw [ih h]
  case len.len ih _ => rw [ih h]
  case size.size ih _ => rw [ih h]
  case ite.ite ih1 ih2 ih3 _ _ _ => obtain ⟨⟨h1, h2⟩, h3⟩ := h; rw [ih1 h1, ih2 h2, ih3 h3]
  case sub.sub ih1 ih2 ih3 _ _ _ => obtain ⟨⟨h1, h2⟩, h3⟩ := h; rw [ih1 h1, ih2 h2, ih3 h3]
  case cell.cell ih1 ih2 _ _ _ => obtain ⟨⟨h1, h2⟩, rfl⟩ := h; rw [ih1 h1, ih2 h2]
  case mn.mn ih1 ih2 _ _ => rw [ih1 h.1, ih2 h.2]
  case mx.mx ih1 ih2 _ _ => rw [ih1 h.1, ih2 h.2]
  case beq.beq ih1 ih2 _ _ => rw [ih1 h.1, ih2 h.2]
  case byte.byte ih1 ih2 _ _ => rw [ih1 h.1, ih2 h.2]
  case cat.cat ih1 ih2 _ _ => rw [ih1 h.1, ih2 h.2]
  case seq.seq ih1 ih2 _ _ => rw [ih1 h.1, ih2 h.2]
  case slt.slt ih1 ih2 _ _ => rw [ih1 h.1, ih2 h.2]
  case nilp.nilp ih _ => rw [ih h]
  case cap.cap ih _ => rw [ih h]
  case ifn.ifn ih _ => rw [ih h]
  case chr.chr ih _ => rw [ih h]
  case sob.sob ih _ => rw [ih h]
  case rsub.rsub ih1 ih2 ih3 _ _ _ _ => obtain ⟨⟨⟨rfl, h1⟩, h2⟩, h3⟩ := h; rw [ih1 h1, ih2 h2, ih3 h3]
  case clo.clo ih _ _ _ => obtain ⟨⟨rfl, h1⟩, h2⟩ := h; rw [ccL_of h1, ih h2]
  case raw.raw ih _ => rw [ih h]
  all_goals rw [h]
theorem S.eq_of {x y : S} (h : x.eq y = true) : x = y := by
  unfold S.eq at h
  split at h <;> (try simp only [Bool.and_eq_true, beq_iff_eq, Bool.false_eq_true] at h)
  all_goals first
    | rfl
    | (rw [X.eq_of h]; done)
    | (obtain ⟨rfl, rfl⟩ := h; rfl)
    | (subst h; rfl)
    | (obtain ⟨⟨⟨rfl, rfl⟩, rfl⟩, rfl⟩ := h; rfl)
    | (obtain ⟨rfl, h⟩ := h; rw [X.eq_of h]; done)
    | (obtain ⟨⟨⟨h1, h2⟩, rfl⟩, rfl⟩ := h; rw [X.eq_of h1, X.eq_of h2])
    | (obtain ⟨⟨⟨rfl, h1⟩, h2⟩, rfl⟩ := h; rw [ccL_of h1, X.eq_of h2])
theorem TV.eq_of {x y : TV} (h : x.eq y = true) : x = y := by
  cases x <;> cases y <;> simp only [TV.eq, Bool.false_eq_true] at h
  · rw [S.eq_of h]
  · rw [eqL_of (fun _ _ => S.eq_of) h]
theorem SV.eq_of {x y : SV} (h : x.eq y = true) : x = y := by
  cases x <;> cases y <;> simp only [SV.eq, Bool.false_eq_true] at h
  · rw [TV.eq_of h]
  · rw [eqL_of (fun _ _ => TV.eq_of) h]
theorem Blk.eq_of {x y : Blk} (h : x.eq y = true) : x = y := by
  cases x; cases y
  simp only [Blk.eq, Bool.and_eq_true, beq_iff_eq] at h
  rw [eqL_of (fun _ _ => S.eq_of) h.1.1, h.1.2, h.2]
theorem kEq_of {x y : X × Bool} (h : kEq x y = true) : x = y := by
  cases x; cases y
  simp only [kEq, Bool.and_eq_true, beq_iff_eq] at h
  rw [X.eq_of h.1, h.2]
theorem St.eq_of {x y : St} (h : x.eq y = true) : x = y := by
  cases x; cases y
  simp only [St.eq, Bool.and_eq_true, beq_iff_eq] at h
  obtain ⟨⟨⟨⟨⟨h1, h2⟩, h3⟩, h4⟩, h5⟩, h6⟩ := h
  rw [h5, h6, h1, eqL_of (fun _ _ => SV.eq_of) h2, eqL_of (fun _ _ => Blk.eq_of) h3, eqL_of (fun _ _ => kEq_of) h4]
theorem RK.eq_of {x y : RK} (h : x.eq y = true) : x = y := by
  cases x <;> cases y <;> simp only [RK.eq, beq_iff_eq, Bool.false_eq_true] at h <;> first | rfl | rw [h]
theorem Nd.eq_of {x y : Nd} (h : x.eq y = true) : x = y := by
  cases x <;> cases y <;> simp only [Nd.eq, Bool.and_eq_true, beq_iff_eq, Bool.false_eq_true] at h
  · rw [X.eq_of h]
  · rw [RK.eq_of h.1, X.eq_of h.2]
  · rw [X.eq_of h]
  · rw [X.eq_of h.1, h.2]
  · rw [X.eq_of h]
  · rw [X.eq_of h.1, h.2]
theorem T.eq_of {x y : T} (h : x.eq y = true) : x = y := by
  induction x generalizing y <;> cases y <;> simp only [T.eq, Bool.and_eq_true, beq_iff_eq, Bool.false_eq_true] at h
  case br.br ih1 ih2 _ _ _ => obtain ⟨⟨h1, h2⟩, h3⟩ := h; rw [X.eq_of h1, ih1 h2, ih2 h3]
  case need.need ih _ _ => rw [Nd.eq_of h.1, ih h.2]
  case call.call ih _ _ _ => obtain ⟨⟨h1, h2⟩, h3⟩ := h; rw [h1, eqL_of (fun _ _ => S.eq_of) h2, ih h3]
  case new.new ih _ _ _ => obtain ⟨⟨h1, h2⟩, h3⟩ := h; rw [h1, eqL_of (fun _ _ => eqL_of (fun _ _ => S.eq_of)) h2, ih h3]
  case app.app ih _ _ _ _ => obtain ⟨⟨⟨h1, h2⟩, h3⟩, h4⟩ := h; rw [X.eq_of h1, X.eq_of h2, h3, ih h4]
  case apps.apps ih _ _ _ => obtain ⟨⟨h1, h2⟩, h4⟩ := h; rw [X.eq_of h1, X.eq_of h2, ih h4]
  case sto.sto ih _ _ _ _ _ => obtain ⟨⟨⟨⟨h1, h2⟩, h3⟩, h4⟩, h5⟩ := h; rw [X.eq_of h1, X.eq_of h2, h3, eqL_of (fun _ _ => S.eq_of) h4, ih h5]
  case clo.clo ih _ _ _ => obtain ⟨⟨rfl, h1⟩, h2⟩ := h; rw [ccL_of h1, ih h2]
  case fin.fin => rw [St.eq_of h]
  case bad.bad => rw [h]
/-- The same state, but for what is known. -/
structure Same (st' st : St) : Prop where
  n : st'.n = st.n
  tmps : st'.tmps = st.tmps
  blks : st'.blks = st.blks
  own : st'.own = st.own
  dead : st'.dead = st.dead
theorem Same.refl (st : St) : Same st st := ⟨rfl, rfl, rfl, rfl, rfl⟩

section
variable {w0 : Base} {w : World} {st : St} {env : List Atom} {η : List Nat} {m : Addr → Option Value} {a : Act} {P : Program}
theorem St.tells_sound (hk : ∀ p ∈ st.known, vb (p.1.den env).1 = p.2) {x : X} : ∀ {b : Bool}, st.tells x = some b → vb (x.den env).1 = b := by
  induction x with
  | bool c => intro b h; simp only [St.tells, Option.some.injEq] at h; subst h; rfl
  | not x ih =>
    intro b h
    simp only [St.tells] at h
    cases hx : st.tells x with
    | none => rw [hx] at h; cases h
    | some c => rw [hx] at h; simp only [Option.map_some, Option.some.injEq] at h; show (!vb (x.den env).1) = b; rw [ih hx, h]
  | _ => intro b h; exact look_sound hk (fun _ _ => X.eq_of) h
/-- A test: either way is told. -/
theorem seBr_sound {cs : Nat → Sig × Con} {Post : List Atom → Prop} {L : List (List Atom → Prop)} {x : X} : ∀ {kt kf : St → T} {C : Prop}, (∀ p ∈ st.known, vb (p.1.den env).1 = p.2) →
    (seBr st x kt kf).wp cs Post env L →
    (∀ st', Same st' st → (∀ p ∈ st'.known, vb (p.1.den env).1 = p.2) → vb (x.den env).1 = true → (kt st').wp cs Post env L → C) →
    (∀ st', Same st' st → (∀ p ∈ st'.known, vb (p.1.den env).1 = p.2) → vb (x.den env).1 = false → (kf st').wp cs Post env L → C) → C := by
  have main : ∀ (x : X) {kt kf : St → T} {C : Prop}, (∀ p ∈ st.known, vb (p.1.den env).1 = p.2) →
      (match st.tells x with
        | some true => kt st
        | some false => kf st
        | none => T.br x (kt (st.knows x true)) (kf (st.knows x false))).wp cs Post env L →
      (∀ st', Same st' st → (∀ p ∈ st'.known, vb (p.1.den env).1 = p.2) → vb (x.den env).1 = true → (kt st').wp cs Post env L → C) →
      (∀ st', Same st' st → (∀ p ∈ st'.known, vb (p.1.den env).1 = p.2) → vb (x.den env).1 = false → (kf st').wp cs Post env L → C) → C := by
    intro x kt kf C hk h ht hf
    have kn : ∀ b, vb (x.den env).1 = b → ∀ p ∈ (st.knows x b).known, vb (p.1.den env).1 = p.2 := by
      intro b hb p hp
      simp only [St.knows, List.mem_cons] at hp
      rcases hp with rfl | hp
      · exact hb
      · exact hk p hp
    split at h
    · rename_i e; exact ht st (.refl st) hk (St.tells_sound hk e) h
    · rename_i e; exact hf st (.refl st) hk (St.tells_sound hk e) h
    · cases hb : vb (x.den env).1 with
      | true => exact ht (st.knows x true) ⟨rfl, rfl, rfl, rfl, rfl⟩ (kn _ hb) hb (h.1 hb)
      | false => exact hf (st.knows x false) ⟨rfl, rfl, rfl, rfl, rfl⟩ (kn _ hb) hb (h.2 hb)
  induction x with
  | not y ih =>
    intro kt kf C hk h ht hf
    refine ih hk h (fun st' h1 h4 h5 => hf st' h1 h4 ?_) (fun st' h1 h4 h5 => ht st' h1 h4 ?_)
    · show (!vb (y.den env).1) = false; rw [h5]; rfl
    · show (!vb (y.den env).1) = true; rw [h5]; rfl
  | _ => intro kt kf C hk h ht hf; exact main _ hk h ht hf
theorem needs_sound {cs : Nat → Sig × Con} {Post : List Atom → Prop} {L : List (List Atom → Prop)} {k : St → T} : ∀ {ds : List Nd} {st : St}, (∀ p ∈ st.known, vb (p.1.den env).1 = p.2) →
    (needs st ds k).wp cs Post env L →
    (∀ d ∈ ds, d.ok env) ∧ ∃ st', Same st' st ∧ (∀ p ∈ st'.known, vb (p.1.den env).1 = p.2) ∧ (k st').wp cs Post env L
  | [], st, hk, h => ⟨fun _ h => absurd h (by simp), st, .refl st, hk, h⟩
  | .tru x :: r, st, hk, h => by
    simp only [needs] at h
    split at h
    · rename_i e
      obtain ⟨h1, st', h2⟩ := needs_sound hk h
      refine ⟨fun d hd => ?_, st', h2⟩
      rcases List.mem_cons.1 hd with rfl | hd
      · exact St.tells_sound hk e
      · exact h1 d hd
    · obtain ⟨hx, h⟩ := h
      have kn : ∀ p ∈ (st.knows x true).known, vb (p.1.den env).1 = p.2 := by
        intro p hp
        simp only [St.knows, List.mem_cons] at hp
        rcases hp with rfl | hp
        · exact hx
        · exact hk p hp
      obtain ⟨h1, st', h2, h3⟩ := needs_sound kn h
      refine ⟨fun d hd => ?_, st', ⟨h2.n, h2.tmps, h2.blks, h2.own, h2.dead⟩, h3⟩
      rcases List.mem_cons.1 hd with rfl | hd
      · exact hx
      · exact h1 d hd
  | .kind y x :: r, st, hk, h => by
    obtain ⟨hx, h⟩ := h
    obtain ⟨h1, st', h2⟩ := needs_sound (ds := r) hk h
    refine ⟨fun d hd => ?_, st', h2⟩
    rcases List.mem_cons.1 hd with rfl | hd
    · exact hx
    · exact h1 d hd
  | .row x :: r, st, hk, h => by
    obtain ⟨hx, h⟩ := h
    obtain ⟨h1, st', h2⟩ := needs_sound (ds := r) hk h
    refine ⟨fun d hd => ?_, st', h2⟩
    rcases List.mem_cons.1 hd with rfl | hd
    · exact hx
    · exact h1 d hd
  | .sz x z :: r, st, hk, h => by
    obtain ⟨hx, h⟩ := h
    obtain ⟨h1, st', h2⟩ := needs_sound (ds := r) hk h
    refine ⟨fun d hd => ?_, st', h2⟩
    rcases List.mem_cons.1 hd with rfl | hd
    · exact hx
    · exact h1 d hd
  | .szz x z :: r, st, hk, h => by
    obtain ⟨hx, h⟩ := h
    obtain ⟨h1, st', h2⟩ := needs_sound (ds := r) hk h
    refine ⟨fun d hd => ?_, st', h2⟩
    rcases List.mem_cons.1 hd with rfl | hd
    · exact hx
    · exact h1 d hd
  | .bytes x :: r, st, hk, h => by
    obtain ⟨hx, h⟩ := h
    obtain ⟨h1, st', h2⟩ := needs_sound (ds := r) hk h
    refine ⟨fun d hd => ?_, st', h2⟩
    rcases List.mem_cons.1 hd with rfl | hd
    · exact hx
    · exact h1 d hd
end
end Go.Proofs.YtamjocnlhhhijaaV

namespace Go.Proofs.YtamjocnlhhhijaaV
open Go Go.RowKit

section
variable {w0 : Base} {w : World} {st : St} {env : List Atom} {η : List Nat} {m : Addr → Option Value} {a : Act} {P : Program}
theorem S.den_one {s : S} (hg : ∀ x ∈ env, Elt m x) (h : okCell s = true) : (s.den env η).oneCell' = true := by
  cases s with
  | junk => simp [okCell] at h
  | undef => simp [okCell] at h
  | cptr _ _ _ _ => simp [okCell] at h
  | slc x => exact (X.elt hg x).1
  | any x => exact (X.elt hg x).1
  | cst v => exact h
  | _ => rfl
theorem run_underlying_some {t : TypeId} {d : TypeDesc} (h : P.underlying t = some d) (w : World) : (underlying t).run P w = .ok d w := by
  simp [underlying, h]
theorem run_sizeOf_some {t : TypeId} {n : Nat} (h : sizeO P t = some n) (w : World) : (sizeOf t).run P w = .ok n w := by
  unfold sizeO at h
  cases hi : P.info? t with
  | none => rw [hi] at h; cases h
  | some i => rw [hi] at h; simp only [Option.map_some, Option.some.injEq] at h; simp [sizeOf, typeInfo, hi, h]
theorem run_isAgg_some {t : TypeId} {b : Bool} (h : isAggB P t = some b) (w : World) : (isAgg t).run P w = .ok b w := by
  unfold isAggB at h
  cases hu : P.underlying t with
  | none => rw [hu] at h; cases h
  | some d =>
    rw [hu] at h
    simp only [isAgg, Sem.run_bind, run_underlying_some hu, Result.andThen_ok]
    cases d <;> simp only [Option.some.injEq] at h <;> subst h <;> rfl
theorem run_part {t : TypeId} {l : List S} {off : Nat} {v : SV} (h : partS P t l off = some v) (w : World) : (part t (l.map (S.den env η)).toArray off).run P w = .ok (v.den env η) w := by
  unfold partS at h
  split at h
  · rename_i n hA hn
    split at h
    · cases h
    · rename_i hlen
      injection h with h
      subst h
      simp only [part, Sem.run_bind, run_isAgg_some hA, run_sizeOf_some hn, Result.andThen_ok, SV.den, TV.den, if_true, Sem.run_pure, List.map_take, List.map_drop]
      congr 2
      apply Array.ext'
      simp
  · rename_i hA
    split at h
    · rename_i x hx
      injection h with h
      subst h
      simp [part, run_isAgg_some hA, SV.den, TV.den, hx]
    · cases h
  · cases h
theorem eqGuard_int {op : BinOp} {t : TypeId} {x y : Operand} {k k' : IntKind} {p q : Int} (w : World) : (eqGuard op t x y (.int k p) (.int k' q)).run P w = .ok () w := by
  unfold eqGuard; split <;> simp
theorem eqGuard_bool {op : BinOp} {t : TypeId} {x y : Operand} {p q : Bool} (w : World) : (eqGuard op t x y (.bool p) (.bool q)).run P w = .ok () w := by
  unfold eqGuard; split <;> simp
theorem eqGuard_str {op : BinOp} {t : TypeId} {x y : Operand} {p q : ByteArray} (w : World) : (eqGuard op t x y (.string p) (.string q)).run P w = .ok () w := by
  unfold eqGuard; split <;> simp
theorem cmpX_den (op : BinOp) (x y : X) : vb ((cmpX op x y).den env).1 = cmpD op (vi (x.den env).1) (vi (y.den env).1) := by
  unfold cmpX
  split <;> rfl
theorem arX_den (op : BinOp) (k : IntKind) (x y : X) : vi ((arX op k x y).den env).1 = arD op k (vi (x.den env).1) (vi (y.den env).1) := by
  unfold arX
  split <;> rfl
theorem intCmp_run {op : BinOp} (h : isCmp op = true) (x y : Int) (w : World) : (Op.intCmp op x y).run P w = .ok (.bool (cmpD op x y)) w := by
  cases op <;> simp [isCmp] at h <;> rfl
theorem ar_run {op : BinOp} (h : isAr op = true) (k : IntKind) (t : TypeId) (x y : Int) (w : World) : (binOp op t (.int k x) (.int k y)).run P w = .ok (.int k (arD op k x y)) w := by
  cases op <;> simp [isAr] at h <;> simp [binOp, Op.intArith, Op.intBits, arD, bitsD]
theorem cmp_run {op : BinOp} (h : isCmp op = true) (k : IntKind) (t : TypeId) (x y : Int) (w : World) : (binOp op t (.int k x) (.int k y)).run P w = .ok (.bool (cmpD op x y)) w := by
  have := intCmp_run (P := P) h x y w
  cases op <;> simp [isCmp] at h <;> simpa [binOp] using this
theorem div_run {op : BinOp} (h : (op == .quo || op == .rem) = true) (k : IntKind) (t : TypeId) (x y : Int) (hy : cmpD .neq y 0 = true) (w : World) : (binOp op t (.int k x) (.int k y)).run P w = .ok (.int k (arD op k x y)) w := by
  have hy' : y ≠ 0 := by simpa [cmpD] using hy
  cases op <;> simp at h <;> simp [binOp, Op.intDiv, arD, quoD, remD, hy']
theorem sh_run {op : BinOp} (h : (op == .shl || op == .shr) = true) (k k' : IntKind) (t : TypeId) (x y : Int) (hy : cmpD .geq y 0 = true) (w : World) : (binOp op t (.int k x) (.int k' y)).run P w = .ok (.int k (arD op k x y)) w := by
  have hy' : ¬ y < 0 := by simp [cmpD] at hy; omega
  cases op <;> simp at h <;> simp [binOp, Op.shift, arD, hy']
theorem run_equalIn_bool (d : Nat) {t : TypeId} (hu : P.underlying t = some .bool) (p q : Bool) (w : World) : (Op.equalIn (d + 1) t (.bool p) (.bool q)).run P w = .ok (p == q) w := by
  unfold Op.equalIn
  simp only [Sem.run_bind, run_underlying_some hu, Result.andThen_ok, Sem.run_pure]
theorem run_equal_bool {t : TypeId} (hu : P.underlying t = some .bool) (p q : Bool) (w : World) : (Op.equal t (.bool p) (.bool q)).run P w = .ok (p == q) w := run_equalIn_bool 9999 hu p q w
theorem eql_bool_run {t : TypeId} (hu : P.underlying t = some .bool) (p q : Bool) (w : World) : (binOp .eql t (.bool p) (.bool q)).run P w = .ok (.bool (p == q)) w := by
  show (do pure (.bool (← Op.equal t (.bool p) (.bool q))) : Sem Value).run P w = _
  rw [Sem.run_bind, run_equal_bool hu]; rfl
theorem neq_bool_run {t : TypeId} (hu : P.underlying t = some .bool) (p q : Bool) (w : World) : (binOp .neq t (.bool p) (.bool q)).run P w = .ok (.bool (!(p == q))) w := by
  show (do pure (.bool (!(← Op.equal t (.bool p) (.bool q)))) : Sem Value).run P w = _
  rw [Sem.run_bind, run_equal_bool hu]; rfl
theorem run_eqs {op : BinOp} {t : TypeId} {p q : Value} {b : Bool} (hop : op = .eql ∨ op = .neq) (x y : Operand) (w : World) (hgd : (eqGuard op t x y p q).run P w = .ok () w) (hb : ∀ op, (op = .eql ∨ op = .neq) → binOp op t p q = (if op = .eql then (do pure (.bool (← Op.equal t p q))) else (do pure (.bool (!(← Op.equal t p q))))))
    (he : (Op.equal t p q).run P w = .ok b w) : (do eqGuard op t x y p q; binOp op t p q : Sem Value).run P w = .ok (.bool (if op = .eql then b else !b)) w := by
  rw [Sem.run_bind, hgd, Result.andThen_ok, hb op hop]
  rcases hop with rfl | rfl
  · simp only [if_true, Sem.run_bind, he, Result.andThen_ok, Sem.run_pure]
  · simp only [reduceCtorEq, if_false, Sem.run_bind, he, Result.andThen_ok, Sem.run_pure]
theorem run_equalIn_sliceNil (d : Nat) {t e : TypeId} (hu : P.underlying t = some (.slice e)) (a : Option Addr) (n c : Nat) (w : World) : (Op.equalIn (d + 1) t (.slice a n c) (.slice none 0 0)).run P w = .ok a.isNone w := by
  unfold Op.equalIn
  simp only [Sem.run_bind, run_underlying_some hu, Result.andThen_ok]
  cases a <;> rfl
theorem run_equalIn_func (d : Nat) {t : TypeId} {as bs : Array TypeId} {c : Bool} (hu : P.underlying t = some (.func as bs c)) (f : Fn) (x y : Array Value) (w : World) : (Op.equalIn (d + 1) t (.func f x y) .nilFunc).run P w = .ok false w := by
  unfold Op.equalIn
  simp only [Sem.run_bind, run_underlying_some hu, Result.andThen_ok]; rfl
theorem run_equalIn_func0 (d : Nat) {t : TypeId} {as bs : Array TypeId} {c : Bool} (hu : P.underlying t = some (.func as bs c)) (w : World) : (Op.equalIn (d + 1) t .nilFunc .nilFunc).run P w = .ok true w := by
  unfold Op.equalIn
  simp only [Sem.run_bind, run_underlying_some hu, Result.andThen_ok]; rfl
theorem run_equalIn_ptr (d : Nat) {t e : TypeId} (hu : P.underlying t = some (.pointer e)) (p : Option Addr) (w : World) : (Op.equalIn (d + 1) t (.pointer p) (.pointer none)).run P w = .ok p.isNone w := by
  unfold Op.equalIn
  simp only [Sem.run_bind, run_underlying_some hu, Result.andThen_ok]
  cases p <;> rfl
theorem run_equalIn_ifc (d : Nat) {t : TypeId} {l : Array (String × TypeId)} (hu : P.underlying t = some (.interface l)) {v : Value} (hv : v = .nilIface ∨ ∃ t x, v = .iface t x) (w : World) : (Op.equalIn (d + 1) t v .nilIface).run P w = .ok (isNilI v) w := by
  unfold Op.equalIn
  simp only [Sem.run_bind, run_underlying_some hu, Result.andThen_ok]
  rcases hv with rfl | ⟨a, b, rfl⟩ <;> rfl
theorem ansS_key {op : BinOp} {ds' ds : List Nd} {e : X} {v : SV} (hh : ansS op ds' e = some (ds, v)) :
    ds' = ds ∧ (op = .eql ∨ op = .neq) ∧ v.den env η = .bool (if op = .eql then vb (e.den env).1 else !vb (e.den env).1) := by
  unfold ansS at hh
  split at hh
  · rename_i ho
    have ho : op = .eql := by simpa using ho
    subst ho
    injection hh with hh
    injection hh with h1 h2
    subst h1; subst h2
    exact ⟨rfl, .inl rfl, by simp [SV.den, TV.den, S.den]⟩
  · split at hh
    · rename_i ho
      have ho : op = .neq := by simpa using ho
      subst ho
      injection hh with hh
      injection hh with h1 h2
      subst h1; subst h2
      exact ⟨rfl, .inr rfl, by simp [SV.den, TV.den, S.den, X.den]⟩
    · cases hh
theorem nilS_sound {op : BinOp} {t : TypeId} {p q : S} {ds : List Nd} {v : SV} (h : nilS P op t p q = some (ds, v)) (hds : ∀ d ∈ ds, d.ok env) (x y : Operand) (w : World) :
    (do eqGuard op t x y (p.den env η) (q.den env η); binOp op t (p.den env η) (q.den env η) : Sem Value).run P w = .ok (v.den env η) w := by
  unfold nilS at h
  split at h
  · rename_i e x' z hu
    obtain ⟨rfl, hop, hv⟩ := ansS_key (env := env) (η := η) h
    obtain ⟨a, n, c, hk⟩ := hds (.kind .slc x') List.mem_cons_self
    rw [hv]
    simp only [S.den, X.den, hk, vb, va]
    refine run_eqs hop x y w (by rcases hop with rfl | rfl <;> rfl) (fun o ho => by rcases ho with rfl | rfl <;> rfl) ?_
    exact run_equalIn_sliceNil 9999 hu a n c w
  · rename_i hu
    obtain ⟨rfl, hop, hv⟩ := ansS_key (env := env) (η := η) h
    rw [hv]
    simp only [S.den, X.den, vb]
    refine run_eqs hop x y w (by rcases hop with rfl | rfl <;> rfl) (fun o ho => by rcases ho with rfl | rfl <;> rfl) ?_
    exact run_equalIn_func 9999 hu _ _ _ w
  · rename_i hu
    obtain ⟨rfl, hop, hv⟩ := ansS_key (env := env) (η := η) h
    rw [hv]
    simp only [S.den, X.den, vb]
    refine run_eqs hop x y w (by rcases hop with rfl | rfl <;> rfl) (fun o ho => by rcases ho with rfl | rfl <;> rfl) ?_
    exact run_equalIn_func0 9999 hu w
  · rename_i hu
    obtain ⟨rfl, hop, hv⟩ := ansS_key (env := env) (η := η) h
    rw [hv]
    simp only [S.den, X.den, vb]
    refine run_eqs hop x y w (by rcases hop with rfl | rfl <;> rfl) (fun o ho => by rcases ho with rfl | rfl <;> rfl) ?_
    exact run_equalIn_ptr 9999 hu _ w
  · rename_i hu
    obtain ⟨rfl, hop, hv⟩ := ansS_key (env := env) (η := η) h
    rw [hv]
    simp only [S.den, X.den, vb]
    refine run_eqs hop x y w (by rcases hop with rfl | rfl <;> rfl) (fun o ho => by rcases ho with rfl | rfl <;> rfl) ?_
    exact run_equalIn_ptr 9999 hu _ w
  · cases h
/-- What an atom is that is known to be a function. -/
theorem cloB_some {f : FuncId} {cs : List Cc} {x : Atom} (h : cloB (some f) cs x = true) : ∃ fi ca, x = (.func (.func f) fi ca, .clo cs) := by
  obtain ⟨v, d⟩ := x
  unfold cloB at h
  split at h
  · rename_i f' cs' g fi ca cs'' e1 e2
    simp only [Bool.and_eq_true, beq_iff_eq] at h
    obtain ⟨rfl, h⟩ := h
    obtain rfl := ccL_of h
    cases e1
    exact ⟨fi, ca, e2⟩
  · rename_i e _; cases e
  · rename_i e; cases e
  · cases h
theorem cloB_of (f : FuncId) (cs : List Cc) (fi ca : Array Value) : cloB (some f) cs (.func (.func f) fi ca, .clo cs) = true := by simp [cloB, ccL_refl]
theorem cloK_sound {x : X} {f : FuncId} {cs : List Cc} : ∀ {l : List (X × Bool)}, (∀ p ∈ l, vb (p.1.den env).1 = p.2) → cloK x l = some (f, cs) → cloB (some f) cs (x.den env) = true
  | [], _, h => by simp [cloK] at h
  | (q, b) :: r, hk, h => by
    have ih := cloK_sound (x := x) (f := f) (cs := cs) (l := r) (fun p hp => hk p (List.mem_cons_of_mem _ hp))
    unfold cloK at h
    split at h
    · rename_i g cs' y
      split at h
      · rename_i hc
        simp only [Bool.and_eq_true] at hc
        obtain ⟨rfl, he⟩ := hc
        obtain rfl := X.eq_of he
        simp only [Option.some.injEq, Prod.mk.injEq] at h
        obtain ⟨rfl, rfl⟩ := h
        exact hk _ List.mem_cons_self
      · exact ih h
    · exact ih h
theorem nilC_sound {op : BinOp} {t : TypeId} {p q : S} {ds : List Nd} {v : SV} (hk : ∀ p ∈ st.known, vb (p.1.den env).1 = p.2) (h : nilC P st op t p q = some (ds, v)) (x y : Operand) (w : World) :
    (do eqGuard op t x y (p.den env η) (q.den env η); binOp op t (p.den env η) (q.den env η) : Sem Value).run P w = .ok (v.den env η) w := by
  unfold nilC at h
  split at h
  · split at h
    · rename_i x' _ _ _ c hu hc
      obtain ⟨f, cs⟩ := c
      obtain ⟨rfl, hop, hv⟩ := ansS_key (env := env) (η := η) h
      obtain ⟨fi, ca, e⟩ := cloB_some (cloK_sound hk hc)
      rw [hv]
      simp only [S.den, e, X.den, vb]
      refine run_eqs hop x y w (by rcases hop with rfl | rfl <;> rfl) (fun o ho => by rcases ho with rfl | rfl <;> rfl) ?_
      exact run_equalIn_func 9999 hu _ _ _ w
    · cases h
  · cases h
theorem binS_sound {op : BinOp} {t : TypeId} {p q : S} {ds : List Nd} {v : SV} (h : binS P op t p q = some (ds, v)) (hds : ∀ d ∈ ds, d.ok env) (x y : Operand) (w : World) :
    (do eqGuard op t x y (p.den env η) (q.den env η); binOp op t (p.den env η) (q.den env η) : Sem Value).run P w = .ok (v.den env η) w := by
  unfold binS at h
  split at h
  · simp only [S.den, Sem.run_bind, eqGuard_int, Result.andThen_ok]
    split at h
    · rename_i hop
      simp only [Option.some.injEq, Prod.mk.injEq] at h
      obtain ⟨rfl, rfl⟩ := h
      have h1 := hds _ List.mem_cons_self
      simp only [Nd.ok, cmpX_den] at h1
      rw [sh_run hop _ _ _ _ _ h1]; rfl
    · split at h
      · cases h
      · rename_i hk
        simp only [bne_iff_ne, ne_eq, Decidable.not_not] at hk
        subst hk
        split at h
        · rename_i hop
          simp only [Option.some.injEq, Prod.mk.injEq] at h
          obtain ⟨rfl, rfl⟩ := h
          rw [ar_run hop]; simp only [SV.den, TV.den, S.den, arX_den]
        · split at h
          · rename_i hop
            simp only [Option.some.injEq, Prod.mk.injEq] at h
            obtain ⟨rfl, rfl⟩ := h
            have h1 := hds _ List.mem_cons_self
            simp only [Nd.ok, cmpX_den] at h1
            rw [div_run hop _ _ _ _ h1]; rfl
          · split at h
            · rename_i hop
              simp only [Option.some.injEq, Prod.mk.injEq] at h
              obtain ⟨rfl, rfl⟩ := h
              rw [cmp_run hop]; simp only [SV.den, TV.den, S.den, cmpX_den]
            · cases h
  · simp only [S.den, Sem.run_bind, eqGuard_bool, Result.andThen_ok]
    split at h
    · rename_i hu
      split at h
      · rename_i hop
        simp only [Option.some.injEq, Prod.mk.injEq] at h
        obtain ⟨rfl, rfl⟩ := h
        obtain rfl : op = .eql := by simpa using hop
        rw [eql_bool_run hu]; rfl
      · split at h
        · rename_i hop
          simp only [Option.some.injEq, Prod.mk.injEq] at h
          obtain ⟨rfl, rfl⟩ := h
          obtain rfl : op = .neq := by simpa using hop
          rw [neq_bool_run hu]; rfl
        · cases h
    · cases h
  · simp only [S.den, Sem.run_bind, eqGuard_str, Result.andThen_ok]
    split at h
    · simp only [Option.some.injEq, Prod.mk.injEq] at h
      obtain ⟨rfl, rfl⟩ := h
      simp [binOp, Op.stringOp, SV.den, TV.den, S.den, X.den, vb]
    · simp only [Option.some.injEq, Prod.mk.injEq] at h
      obtain ⟨rfl, rfl⟩ := h
      simp [binOp, Op.stringOp, SV.den, TV.den, S.den, X.den, vb]
    · simp only [Option.some.injEq, Prod.mk.injEq] at h
      obtain ⟨rfl, rfl⟩ := h
      simp [binOp, Op.stringOp, SV.den, TV.den, S.den, X.den, vb]
    · simp only [Option.some.injEq, Prod.mk.injEq] at h
      obtain ⟨rfl, rfl⟩ := h
      simp [binOp, Op.stringOp, SV.den, TV.den, S.den, X.den, vb]
    · simp only [Option.some.injEq, Prod.mk.injEq] at h
      obtain ⟨rfl, rfl⟩ := h
      have h1 := hds _ List.mem_cons_self
      simp only [Nd.ok, X.den, vb_bool, vi_int, vs_string, cmpD, ByteArray.size_append, decide_eq_true_eq] at h1
      simp only [binOp, Op.stringOp, SV.den, TV.den, S.den, X.den, vs_string]
      rw [if_neg (by rw [show IntKind.i64.max = 9223372036854775807 by decide]; exact Int.not_lt.mpr h1)]
      rfl
    · cases h
  · exact nilS_sound h hds x y w
theorem run_equalIn_int (d : Nat) {t : TypeId} {k0 : IntKind} (hu : P.underlying t = some (.int k0)) (k : IntKind) (p q : Int) (w : World) : (Op.equalIn (d + 1) t (.int k p) (.int k q)).run P w = .ok (p == q) w := by
  unfold Op.equalIn
  simp only [Sem.run_bind, run_underlying_some hu, Result.andThen_ok, if_true, Sem.run_pure]
theorem run_equalIn_str (d : Nat) {t : TypeId} (hu : P.underlying t = some .string) (p q : ByteArray) (w : World) : (Op.equalIn (d + 1) t (.string p) (.string q)).run P w = .ok (p == q) w := by
  unfold Op.equalIn
  simp only [Sem.run_bind, run_underlying_some hu, Result.andThen_ok, Sem.run_pure]
theorem eqCell_sound {t : TypeId} {p q : S} {x : X} (h : eqCell P t p q = some x) (d : Nat) (w : World) : (Op.equalIn (d + 1) t (p.den env η) (q.den env η)).run P w = .ok (vb (x.den env).1) w := by
  unfold eqCell at h
  split at h
  · split at h
    · rename_i hu
      split at h
      · rename_i hk
        have hk : _ = _ := beq_iff_eq.1 hk
        subst hk
        injection h with h
        subst h
        simp only [S.den, run_equalIn_int d hu, cmpX_den]; rfl
      · cases h
    · cases h
  · split at h
    · rename_i hu
      injection h with h
      subst h
      simp only [S.den, run_equalIn_bool d hu]; rfl
    · cases h
  · split at h
    · rename_i hu
      injection h with h
      subst h
      simp only [S.den, run_equalIn_str d hu, beq_toListBytes]; rfl
    · cases h
  · cases h
theorem andX_den (x y : X) : vb ((andX x y).den env).1 = (vb (x.den env).1 && vb (y.den env).1) := by
  unfold andX
  split
  · simp [X.den]
  · simp only [X.den]
    split <;> simp_all [X.den]
theorem part_one {t : TypeId} (hA : isAggB P t = some false) {l : List S} {off : Nat} {s : S} (h : l[off]? = some s) (w : World) : (part t (l.map (S.den env η)).toArray off).run P w = .ok (s.den env η) w := by
  simp [part, run_isAgg_some hA, h]
theorem eqFs_sound {l m : List S} (d : Nat) (w : World) : ∀ {fs : List Field} {x : X}, eqFs P l m fs = some x → (Op.eqFields (d + 1) (l.map (S.den env η)).toArray (m.map (S.den env η)).toArray fs).run P w = .ok (vb (x.den env).1) w
  | [], x, h => by simp only [eqFs, Option.some.injEq] at h; subst h; rfl
  | f :: fs, x, h => by
    simp only [eqFs] at h
    split at h
    · rename_i a b r hn hA ha hb hr
      cases he : eqCell P f.type a b with
      | none => rw [he] at h; cases h
      | some e =>
        rw [he] at h
        simp only [Option.map_some, Option.some.injEq] at h
        subst h
        have hn' : f.name ≠ "_" := by simpa using hn
        simp only [Op.eqFields, if_pos hn', Sem.run_bind, part_one hA ha, part_one hA hb, Result.andThen_ok, eqCell_sound (env := env) (η := η) he d w, andX_den]
        cases hx : vb (e.den env).1 with
        | false => simp
        | true => simpa using eqFs_sound d w hr
    · cases h
theorem eqAgg_sound {t : TypeId} {l m : List S} {x : X} (h : eqAgg P t l m = some x) (w : World) : (Op.equal t (.agg (l.map (S.den env η)).toArray) (.agg (m.map (S.den env η)).toArray)).run P w = .ok (vb (x.den env).1) w ∧ P.eqGuardType P.depth t = false := by
  unfold eqAgg at h
  split at h
  · rename_i fs hu
    split at h
    · rename_i hc
      simp only [Bool.and_eq_true, beq_iff_eq] at hc
      refine ⟨?_, hc.2⟩
      have hf : P.fieldsOf t = fs := by simp [Program.fieldsOf, hu]
      show (Op.equalIn (9999 + 1) t _ _).run P w = _
      rw [run_equalIn_struct (P := P) w 9999 t _ _ (by rw [hf]; exact hu) hc.1, hf]
      exact eqFs_sound 9998 w h
    · cases h
  · cases h
theorem mnmx_sound {mxB : Bool} : ∀ {l : List SV} {s r : S} {k : IntKind} {p : X}, s = .int k p → mnmx mxB s l = some r → ∀ w, ((l.map (SV.den env η)).foldlM (if mxB then Builtin.max2 else Builtin.min2) (s.den env η)).run P w = .ok (r.den env η) w
  | [], s, r, k, p, _, h, w => by simp only [mnmx, Option.some.injEq] at h; subst h; simp
  | x :: l, s, r, k, p, e, h, w => by
    unfold mnmx at h
    split at h
    · rename_i hl; cases hl
    · rename_i k1 p1 k' q l1 hl
      obtain ⟨rfl, rfl⟩ := List.cons.inj hl
      simp only [List.map_cons, List.foldlM_cons, Sem.run_bind]
      have h1 : ((if mxB then Builtin.max2 else Builtin.min2) (S.den env η (.int k1 p1)) (SV.den env η (.one (.s (.int k' q))))).run P w = .ok (S.den env η (.int k1 (if mxB = true then p1.mx q else p1.mn q))) w := by
        cases mxB <;> rfl
      rw [h1]
      exact mnmx_sound rfl h w
    · cases h
theorem allSome_map {α β : Type} {f : α → Option β} : ∀ {l : List α} {r : List β}, allSome (l.map f) = some r → r.length = l.length ∧ ∀ (i : Nat) x, l[i]? = some x → ∃ y, f x = some y ∧ r[i]? = some y
  | [], r, h => by simp only [List.map_nil, allSome, Option.some.injEq] at h; subst h; simp
  | x :: l, r, h => by
    simp only [List.map_cons] at h
    cases hx : f x with
    | none => rw [hx] at h; simp [allSome] at h
    | some y =>
      rw [hx] at h
      simp only [allSome] at h
      cases hl : allSome (l.map f) with
      | none => rw [hl] at h; cases h
      | some r' =>
        rw [hl] at h
        simp only [Option.map_some, Option.some.injEq] at h
        subst h
        obtain ⟨h1, h2⟩ := allSome_map hl
        refine ⟨by simp [h1], fun i z hz => ?_⟩
        cases i with
        | zero => simp only [List.getElem?_cons_zero, Option.some.injEq] at hz; subst hz; exact ⟨y, hx, rfl⟩
        | succ i => exact h2 i z hz
theorem allSome_den {α β γ : Type} {f : α → Option β} {g : α → γ} {d : β → γ} (hfg : ∀ x y, f x = some y → g x = d y) : ∀ {l : List α} {r : List β}, allSome (l.map f) = some r → l.map g = r.map d := by
  intro l r h
  obtain ⟨h1, h2⟩ := allSome_map h
  apply List.ext_getElem?
  intro i
  simp only [List.getElem?_map]
  cases hx : l[i]? with
  | none =>
    have : l.length ≤ i := List.getElem?_eq_none_iff.1 hx
    rw [List.getElem?_eq_none_iff.2 (by omega)]; rfl
  | some x =>
    obtain ⟨y, hy, hr⟩ := h2 i x hx
    rw [hr]
    simp [hfg x y hy]
theorem Rel.evs (hr : Rel w0 st env η m a w) {l : List Operand} {vs : List SV} (h : allSome (l.map st.ev) = some vs) : l.map a.eval = vs.map (SV.den env η) :=
  allSome_den (fun _ _ hx => hr.ev hx) h
theorem capsOf_sound : ∀ {l : List SV} {bs : List Nat}, capsOf l = some bs → l.map (SV.den env η) = bs.map (fun b => Value.pointer (some ⟨η.getD b 0, 0, none⟩))
  | [], bs, h => by simp only [capsOf, Option.some.injEq] at h; subst h; rfl
  | x :: l, bs, h => by
    unfold capsOf at h
    split at h
    · rename_i hx; cases hx
    · rename_i b r hx
      obtain ⟨rfl, rfl⟩ := List.cons.inj hx
      cases hl : capsOf l with
      | none => rw [hl] at h; cases h
      | some bs' =>
        rw [hl] at h
        simp only [Option.map_some, Option.some.injEq] at h
        subst h
        simp only [List.map_cons, capsOf_sound hl]; rfl
    · cases h
theorem fill_sound {place : Nat → Option (Nat × Nat)} : ∀ {ps : List (Nat × List S)} {cells r : List S} {qs : List (Nat × Value)}, fillS place cells ps = some r → qs.length = ps.length →
    (∀ (i : Nat) p q, ps[i]? = some p → qs[i]? = some q → q.1 = p.1 ∧ q.2.cells = (p.2.map (S.den env η)).toArray) →
    Instr.fill place (cells.map (S.den env η)).toArray qs = some (r.map (S.den env η)).toArray
  | [], cells, r, qs, h, hl, _ => by
    simp only [fillS, Option.some.injEq] at h
    subst h
    cases qs with
    | nil => rfl
    | cons q qs => simp at hl
  | (i, v) :: ps, cells, r, qs, h, hl, hq => by
    cases qs with
    | nil => simp at hl
    | cons q qs =>
      obtain ⟨i', v'⟩ := q
      obtain ⟨e1, e2⟩ := hq 0 _ _ rfl rfl
      simp only at e1 e2
      subst e1
      simp only [fillS] at h
      simp only [Instr.fill]
      cases hp : place i' with
      | none => rw [hp] at h; cases h
      | some os =>
        obtain ⟨off, size⟩ := os
        rw [hp] at h
        simp only at h ⊢
        split at h
        · cases h
        · rename_i hc
          simp only [Bool.or_eq_true, bne_iff_ne, decide_eq_true_eq, not_or, ne_eq, Decidable.not_not, Nat.not_lt] at hc
          have hs : v'.cells.size = v.length := by rw [e2]; simp
          rw [if_neg (by rw [hs]; simp; omega)]
          have h2 := fill_sound h (by simpa using hl) (fun i p q h1 h2 => hq (i + 1) p q h1 h2)
          rw [← h2]
          congr 1
          rw [e2]
          exact foldl_set v cells off (by omega)
      where
  foldl_set (v cells : List S) (off : Nat) (h : off + v.length ≤ cells.length) :
      (v.map (S.den env η)).toArray.zipIdx.foldl (fun cs (c, j) => cs.setIfInBounds (off + j) c) (cells.map (S.den env η)).toArray = ((cells.take off ++ v ++ cells.drop (off + v.length)).map (S.den env η)).toArray := by
    have key : ∀ (u : List Value) (n : Nat) (cs : List Value), off + n + u.length ≤ cs.length → (u.zipIdx n).foldl (fun cs (p : Value × Nat) => cs.setIfInBounds (off + p.2) p.1) cs.toArray = (cs.take (off + n) ++ u ++ cs.drop (off + n + u.length)).toArray := by
      intro u
      induction u with
      | nil => intro n cs _; simp
      | cons x u ih =>
        intro n cs hl
        simp only [List.length_cons] at hl
        have := ih (n + 1) (cs.set (off + n) x) (by simp; omega)
        simp only [List.zipIdx_cons, List.foldl_cons]
        rw [List.setIfInBounds_toArray, this]
        congr 1
        rw [List.drop_set_of_lt (by omega)]
        have e3 : (cs.set (off + n) x).take (off + (n + 1)) = cs.take (off + n) ++ [x] := by
          rw [← Nat.add_assoc, List.take_add_one, List.take_set_of_le (Nat.le_refl _)]
          congr 1
          rw [List.getElem?_set_self (by omega)]
          rfl
        rw [e3]
        simp only [List.append_assoc, List.cons_append, List.nil_append, List.length_cons]
        rw [show off + (n + 1) + u.length = off + n + (u.length + 1) by omega]
    have := key (v.map (S.den env η)) 0 (cells.map (S.den env η)) (by simp; omega)
    simp only [Nat.add_zero, List.length_map] at this
    rw [← Array.foldl_toList]
    simp only [Array.toList_zipIdx]
    rw [this]
    congr 1
    simp [List.map_take, List.map_drop]
end
end Go.Proofs.YtamjocnlhhhijaaV

namespace Go.Proofs.YtamjocnlhhhijaaV
open Go Go.RowKit

section
variable {w0 : Base} {w : World} {st : St} {env : List Atom} {η : List Nat} {m : Addr → Option Value} {a : Act} {P : Program}
theorem Addr.add_add (p : Addr) (i j : Nat) : (p.add i).add j = p.add (i + j) := by
  unfold Addr.add
  by_cases h1 : i = 0 <;> by_cases h2 : j = 0 <;> simp [h1, h2, Nat.add_assoc]
/-- What a row's index gives. -/
theorem rowOk_cases {s : X} (h : rowOk st s = true) : (live st s = true) ∨ ∃ o ∈ st.own, s = .at o.1 := by
  simp only [rowOk, Bool.and_eq_true, Bool.or_eq_true] at h
  obtain ⟨h1, h2 | h2⟩ := h
  · right
    obtain ⟨o, ho, hi⟩ := List.any_eq_true.1 h2
    cases s <;> simp [X.isAt] at hi
    exact ⟨o, ho, by rw [hi]⟩
  · left; simp only [live, h1, h2, Bool.and_self]
theorem Rel.live (hr : Rel w0 st env η m a w) {s : X} (h : live st s = true) : Good m (s.den env) := by
  simp only [Go.Proofs.YtamjocnlhhhijaaV.live, Bool.and_eq_true] at h
  exact X.good hr.hg s h.1 h.2
theorem Rel.own (hr : Rel w0 st env η m a w) {o : Nat × TypeId × Nat} (ho : o ∈ st.own) : OwnAt m w w0.w.heap.size ((X.at o.1).den env) o.2.1 o.2.2 := by
  obtain ⟨x, hx, h⟩ := hr.ho o ho
  have : (X.at o.1).den env = x := getD_get hx
  rw [this]; exact h
theorem inRow_ok {s i : X} (hr : Rel w0 st env η m a w) (hk : rowOk st s = true) (h : ∀ d ∈ inRow s i, d.ok env) : ∃ (p : Addr) (n c sz : Nat) (els : List (List Atom)),
    (s.den env) = (.slice (some p) n c, .rows sz els) ∧ n = els.length ∧ 0 ≤ vi (i.den env).1 ∧ vi (i.den env).1 < n := by
  have h1 : Nd.ok env (.kind .slc s) := h _ (by simp [inRow])
  have h2 : Nd.ok env (.row s) := h _ (by simp [inRow])
  have h3 : Nd.ok env (.tru (cmpX .leq (.int 0) i)) := h _ (by simp [inRow])
  have h4 : Nd.ok env (.tru (.cmp .lss i (.len s))) := h _ (by simp [inRow])
  obtain ⟨p, n, c, h1⟩ := h1
  obtain ⟨sz, els, h2⟩ := h2
  simp only [Nd.ok, cmpX_den, X.den, vi_int, cmpD] at h3
  replace h3 := of_decide_eq_true h3
  simp only [Nd.ok, X.den, vi_int, cmpD, h1, vn_slice, vb_bool, decide_eq_true_eq] at h4
  rcases rowOk_cases hk with hl | ⟨o, ho, rfl⟩
  · have hr := (hr.live hl).1
    rw [h1, h2] at hr
    cases hr with
    | nil => omega
    | rows p c sz els hz hc h5 hd => exact ⟨p, _, c, sz, els, Prod.ext h1 h2, rfl, h3, h4⟩
  · obtain ⟨z, els', e1, e2, e3, e4, e5⟩ := (hr.own ho).as ⟨_, _, h2⟩
    rw [h2] at e1
    injection e1 with e0 e1
    subst e1
    rcases e5.2 with ⟨e6, e7⟩ | ⟨g, cap, cur, e6, _⟩
    · rw [h1] at e6
      injection e6 with _ e6 _
      omega
    · rw [h1] at e6
      injection e6 with q1 q2 q3
      subst q1; subst q2; subst q3
      exact ⟨_, _, _, _, _, Prod.ext h1 h2, rfl, h3, h4⟩
theorem run_fieldPlace {p : Addr} {f : Field} {n : Nat} (h : sizeO P f.type = some (n + 1)) (w : World) : (fieldPlace p f).run P w = .ok (p.add f.offset) w := by
  simp [fieldPlace, run_sizeOf_some h]
theorem call_builtin {o : Oper} {c : Call} {b : Builtin} (ho : o.op = .call c) (hc : c.callee = .builtin b) : execOp a.eval o = builtin b c.argTypes o.type (c.args.map fun | .const _ => true | _ => false) (c.args.map a.eval) := by
  unfold execOp
  rw [ho]
  simp only [resolve, hc, invoke]
  rfl
theorem mapM_allSome {α β : Type} {f : α → Option β} : ∀ {l : List α} {r : List β}, allSome (l.map f) = some r → l.mapM f = some r
  | [], r, h => by simp only [List.map_nil, allSome, Option.some.injEq] at h; subst h; rfl
  | x :: l, r, h => by
    simp only [List.map_cons] at h
    cases hx : f x with
    | none => rw [hx] at h; simp [allSome] at h
    | some y =>
      rw [hx] at h
      simp only [allSome] at h
      cases hl : allSome (l.map f) with
      | none => rw [hl] at h; cases h
      | some r' =>
        rw [hl] at h
        simp only [Option.map_some, Option.some.injEq] at h
        subst h
        simp [List.mapM_cons, hx, mapM_allSome hl]
theorem info_of_size {t : TypeId} {n : Nat} (h : sizeO P t = some n) : ∃ i, P.info? t = some i ∧ i.size = n := by
  unfold sizeO at h
  cases hi : P.info? t with
  | none => rw [hi] at h; cases h
  | some i => rw [hi] at h; simp only [Option.map_some, Option.some.injEq] at h; exact ⟨i, rfl, h⟩
theorem zero_info {t : TypeId} {z : List S} (h : zeroO P t = some z) : ∃ i v, P.info? t = some i ∧ i.zero = some v ∧ v.cells = (z.map (S.den env η)).toArray := by
  unfold zeroO at h
  cases hi : P.info? t with
  | none => rw [hi] at h; cases h
  | some i =>
    rw [hi] at h
    simp only [Option.bind_some] at h
    cases hz : i.zero with
    | none => rw [hz] at h; cases h
    | some v =>
      rw [hz] at h
      refine ⟨i, v, rfl, hz, ?_⟩
      have h1 := allSome_den (g := fun v : Value => v) (d := S.den env η) (fun x y hx => ?_) h
      · rw [List.map_id'] at h1
        rw [← h1]
      · unfold cstS at hx
        split at hx
        · rename_i s hs
          injection hx with hx
          subst hx
          exact (cstV_den (env := env) (η := η) hs).symm
        · cases hx
theorem zero_run {t : TypeId} {i : TypeInfo} {v : Value} (hi : P.info? t = some i) (hz : i.zero = some v) (w : World) : (zeroValue t).run P w = .ok v w := by
  simp [zeroValue, typeInfo, hi, hz]
theorem some_inj2 {α β : Type} {a c : α} {b d : β} (h : some (a, b) = some (c, d)) : a = c ∧ b = d := by
  injection h with h; exact Prod.mk.inj h
theorem map_inj {α : Type} {f : α → List Nd × SV} {o : Option α} {ds : List Nd} {v : SV} (h : o.map f = some (ds, v)) : ∃ x, o = some x ∧ f x = (ds, v) := by
  cases o with
  | none => cases h
  | some x => exact ⟨x, rfl, by injection h⟩
theorem TV.cells_den {t : TV} (hg : ∀ x ∈ env, Elt m x) (h : okCells t.cells = true) : (t.den env η).cells = (t.cells.map (S.den env η)).toArray := by
  cases t with
  | agg l => rfl
  | s x =>
    have h1 : okCell x = true := by simpa [okCells, TV.cells] using h
    have h2 := S.den_one (η := η) hg h1
    show (x.den env η).cells = #[x.den env η]
    cases hx : x.den env η <;> simp [hx, Value.oneCell'] at h2 <;> rfl
theorem mm_run {mxB : Bool} {s r : S} {l : List SV} (h : mnmx mxB s l = some r) (w : World) : ((l.map (SV.den env η)).foldlM (if mxB then Builtin.max2 else Builtin.min2) (s.den env η)).run P w = .ok (r.den env η) w := by
  cases l with
  | nil => simp only [mnmx, Option.some.injEq] at h; subst h; simp
  | cons x l =>
    have : ∃ k p, s = .int k p := by
      unfold mnmx at h
      split at h
      · cases ‹_ :: _ = []›
      · exact ⟨_, _, rfl⟩
      · cases h
    obtain ⟨k, p, rfl⟩ := this
    exact mnmx_sound rfl h w
theorem run_sliceBound {x : Value} {y : Nat} {code : BoundsCode} {k : IntKind} {i : Int} (hx : x = .int k i) (h0 : 0 ≤ i) (h1 : i ≤ y) (w : World) : (Instr.sliceBound x y code).run P w = .ok i.toNat w := by
  subst hx
  simp [Instr.sliceBound, asIntOf, h0, h1]
theorem run_sliceBounds {w : World} (sl : Bool) (len cap : Nat) {lo hi : Option Value} {l h : Int} (hlo : (lo = none ∧ l = 0) ∨ ∃ k, lo = some (.int k l)) (hhi : (hi = none ∧ h = len) ∨ ∃ k, hi = some (.int k h))
    (h0 : 0 ≤ l) (h1 : l ≤ h) (h2 : h ≤ cap) : (Instr.sliceBounds sl len cap lo hi none).run P w = .ok (l.toNat, h.toNat, cap) w := by
  unfold Instr.sliceBounds
  have h3 : l ≤ ((h.toNat : Nat) : Int) := by omega
  rcases hlo with ⟨rfl, rfl⟩ | ⟨k, rfl⟩ <;> rcases hhi with ⟨rfl, rfl⟩ | ⟨k', rfl⟩
  · simp
  · simp [run_sliceBound (P := P) rfl (by omega : 0 ≤ h) h2]
  · simp [run_sliceBound (P := P) rfl h0 (by simpa using h3 : l ≤ (len : Nat))]
  · simp [run_sliceBound (P := P) rfl (by omega : 0 ≤ h) h2, run_sliceBound (P := P) rfl h0 h3]
theorem Rel.optI_lo (hr : Rel w0 st env η m a w) {lo : Option Operand} {r : Option X} (h : optI st lo = some r) : (lo.map a.eval = none ∧ vi ((r.getD (.int 0)).den env).1 = 0) ∨ ∃ k, lo.map a.eval = some (.int k (vi ((r.getD (.int 0)).den env).1)) := by
  unfold optI at h
  split at h
  · injection h with h; subst h; left; exact ⟨rfl, rfl⟩
  · split at h
    · rename_i x hx
      injection h with h; subst h
      right
      exact ⟨_, by rw [Option.map_some, hr.ev hx]; rfl⟩
    · cases h
theorem Rel.optI_hi (hr : Rel w0 st env η m a w) {hi : Option Operand} {r : Option X} {d : X} {n : Int} (h : optI st hi = some r) (hd : vi (d.den env).1 = n) : (hi.map a.eval = none ∧ vi ((r.getD d).den env).1 = n) ∨ ∃ k, hi.map a.eval = some (.int k (vi ((r.getD d).den env).1)) := by
  unfold optI at h
  split at h
  · injection h with h; subst h; left; exact ⟨rfl, hd⟩
  · split at h
    · rename_i x hx
      injection h with h; subst h
      right
      exact ⟨_, by rw [Option.map_some, hr.ev hx]; rfl⟩
    · cases h
theorem lenX_den (x : X) : vi ((lenX x).den env).1 = vn (x.den env).1 := by cases x <;> rfl
theorem seVal_sound (hr : Rel w0 st env η m a w) {o : Oper} {ds : List Nd} {v : SV} (h : seVal P st o.op = some (ds, v)) (hds : ∀ d ∈ ds, d.ok env) (w' : World) :
    (execOp a.eval o).run P w' = .ok (.value (v.den env η)) w' := by
  cases ho : o.op with
  | move x =>
    rw [ho] at h
    obtain ⟨v', hv, e⟩ := map_inj h
    obtain ⟨rfl, rfl⟩ := Prod.mk.inj e
    simp only [execOp, ho, Sem.run_pure, hr.ev hv]
  | assign x =>
    rw [ho] at h
    obtain ⟨v', hv, e⟩ := map_inj h
    obtain ⟨rfl, rfl⟩ := Prod.mk.inj e
    simp only [execOp, ho, Sem.run_pure, hr.ev hv]
  | pick c x y =>
    rw [ho] at h
    simp only [seVal] at h
    split at h
    · rename_i x' hc
      have ec := hr.ev hc
      simp only [SV.den, TV.den, S.den] at ec
      split at h
      · rename_i ht
        obtain ⟨v', hv, e⟩ := map_inj h
        obtain ⟨rfl, rfl⟩ := Prod.mk.inj e
        simp [execOp, ho, ec, asBool, St.tells_sound hr.hk ht, hr.ev hv]
      · rename_i ht
        obtain ⟨v', hv, e⟩ := map_inj h
        obtain ⟨rfl, rfl⟩ := Prod.mk.inj e
        simp [execOp, ho, ec, asBool, St.tells_sound hr.hk ht, hr.ev hv]
      · split at h
        · rename_i y' z' hy hz
          obtain ⟨rfl, rfl⟩ := some_inj2 h
          have ey := hr.ev hy
          have ez := hr.ev hz
          simp only [SV.den, TV.den, S.den] at ey ez
          simp only [execOp, ho, ec, asBool, ey, ez, Sem.run_bind, Sem.run_pure, Result.andThen_ok, SV.den, TV.den, S.den, X.den]
          split <;> rfl
        · cases h
    · cases h
  | binOp op t x y yt =>
    rw [ho] at h
    simp only [seVal] at h
    split at h
    case isTrue hnil =>
      obtain rfl : y = .const .nilIface := by
        unfold ifcNil at hnil
        split at hnil
        · rfl
        · cases hnil
      split at h
      · rename_i l x' hu hx
        have ex := hr.ev hx
        simp only [SV.den, TV.den, S.den] at ex
        obtain ⟨rfl, hop, hv⟩ := ansS_key (env := env) (η := η) h
        have hk : RK.ifc.ok (x'.den env).1 := hds (.kind .ifc x') List.mem_cons_self
        have hg : (eqGuard op t x (.const .nilIface) (a.eval x) .nilIface).run P w' = .ok () w' := by
          rw [ex]
          rcases hk with e | ⟨a, b, e⟩ <;> rw [e] <;> rcases hop with rfl | rfl <;> first | rfl | (unfold eqGuard; simp)
        have := run_eqs (P := P) (t := t) (p := a.eval x) (q := .nilIface) (b := isNilI (a.eval x)) hop x (.const .nilIface) w' hg (fun o ho => by rw [ex]; rcases hk with e | ⟨a, b, e⟩ <;> rw [e] <;> rcases ho with rfl | rfl <;> rfl) (run_equalIn_ifc 9999 hu (by rw [ex]; exact hk) w')
        simp only [execOp, ho, Sem.run_bind] at this ⊢
        rw [show a.eval (.const .nilIface) = .nilIface from rfl, this, hv, ex]; rfl
      · cases h
    split at h
    · rename_i p q hx hy
      have ex := hr.ev hx
      have ey := hr.ev hy
      simp only [SV.den, TV.den] at ex ey
      split at h
      · rename_i r hn
        injection h with h
        subst h
        have := nilC_sound (η := η) hr.hk hn x y w'
        simp only [execOp, ho, ex, ey, Sem.run_bind] at this ⊢
        rw [this]; rfl
      have := binS_sound (η := η) h hds x y w'
      simp only [execOp, ho, ex, ey, Sem.run_bind] at this ⊢
      rw [this]; rfl
    · rename_i l m' hx hy
      have ex := hr.ev hx
      have ey := hr.ev hy
      simp only [SV.den, TV.den] at ex ey
      split at h
      · rename_i e he
        obtain ⟨rfl, rfl⟩ := some_inj2 h
        obtain ⟨h1, h2⟩ := eqAgg_sound (env := env) (η := η) he w'
        have hg : (eqGuard .eql t x y (a.eval x) (a.eval y)).run P w' = .ok () w' := by
          rw [ex, ey]; simp [eqGuard, h2]
        have hb : (binOp .eql t (a.eval x) (a.eval y)).run P w' = .ok (.bool (vb (e.den env).1)) w' := by
          rw [ex, ey]
          show (do pure (.bool (← Op.equal t _ _)) : Sem Value).run P w' = _
          rw [Sem.run_bind, h1]; rfl
        simp only [execOp, ho, Sem.run_bind, hg, hb, Result.andThen_ok]; rfl
      · rename_i e he
        obtain ⟨rfl, rfl⟩ := some_inj2 h
        obtain ⟨h1, h2⟩ := eqAgg_sound (env := env) (η := η) he w'
        have hg : (eqGuard .neq t x y (a.eval x) (a.eval y)).run P w' = .ok () w' := by
          rw [ex, ey]; simp [eqGuard, h2]
        have hb : (binOp .neq t (a.eval x) (a.eval y)).run P w' = .ok (.bool (!vb (e.den env).1)) w' := by
          rw [ex, ey]
          show (do pure (.bool (!(← Op.equal t _ _))) : Sem Value).run P w' = _
          rw [Sem.run_bind, h1]; rfl
        simp only [execOp, ho, Sem.run_bind, hg, hb, Result.andThen_ok]; rfl
      · cases h
    · cases h
  | unOp op t x =>
    rw [ho] at h
    simp only [seVal] at h
    split at h
    · rename_i x' hx
      obtain ⟨rfl, rfl⟩ := some_inj2 h
      have ex := hr.ev hx
      simp only [SV.den, TV.den, S.den] at ex
      simp [execOp, ho, ex, Op.unary, SV.den, TV.den, S.den, X.den]
    · rename_i k x' hx
      obtain ⟨rfl, rfl⟩ := some_inj2 h
      have ex := hr.ev hx
      simp only [SV.den, TV.den, S.den] at ex
      simp [execOp, ho, ex, Op.unary, Op.intArith, SV.den, TV.den, S.den, X.den]
    · cases h
  | convert s d x =>
    rw [ho] at h
    simp only [seVal] at h
    split at h
    · rename_i k x' hs hu hx
      obtain ⟨rfl, rfl⟩ := some_inj2 h
      have ex := hr.ev hx
      simp only [SV.den, TV.den, S.den] at ex
      simp only [execOp, ho, ex, convert, Sem.run_bind, run_underlying_some hs, run_underlying_some hu, Result.andThen_ok]
      rfl
    · cases h
  | fieldAddr t x f =>
    rw [ho] at h
    simp only [seVal] at h
    split at h
    · rename_i fs hu
      split at h
      · rename_i fd hf
        split at h
        · rename_i n hn
          split at h
          · rename_i b off hx
            obtain ⟨rfl, rfl⟩ := some_inj2 h
            have ex := hr.ev hx
            simp only [SV.den, TV.den, S.den] at ex
            simp only [execOp, ho, ex, Instr.fieldAt, Sem.run_bind, run_underlying_some hu, Result.andThen_ok, hf, Instr.sureAddr, Sem.run_pure, run_fieldPlace hn, SV.den, TV.den, S.den]
            unfold Addr.add
            split <;> simp_all
          · rename_i s i z off hx
            split at h
            case isFalse => cases h
            rename_i hrow
            obtain ⟨rfl, rfl⟩ := some_inj2 h
            obtain ⟨p, n', c, sz, els, e1, _⟩ := inRow_ok hr hrow hds
            have ex := hr.ev hx
            simp only [SV.den, TV.den, S.den, e1, va_slice, Option.map_some] at ex
            simp only [execOp, ho, ex, Instr.fieldAt, Sem.run_bind, run_underlying_some hu, Result.andThen_ok, hf, Instr.sureAddr, Sem.run_pure, run_fieldPlace hn, SV.den, TV.den, S.den, e1, va_slice, Option.map_some, Addr.add_add, Nat.add_assoc]
          · cases h
        · cases h
      · cases h
    · cases h
  | field t x f =>
    rw [ho] at h
    simp only [seVal] at h
    split at h
    · rename_i fs hu
      split at h
      · rename_i fd l hf hx
        obtain ⟨v', hv, e⟩ := map_inj h
        obtain ⟨rfl, rfl⟩ := Prod.mk.inj e
        have ex := hr.ev hx
        simp only [SV.den, TV.den] at ex
        simp only [execOp, ho, ex, Instr.field, Sem.run_bind, run_underlying_some hu, Result.andThen_ok, hf, asAgg, Sem.run_pure, run_part hv]
      · cases h
    · cases h
  | extract t j =>
    rw [ho] at h
    simp only [seVal] at h
    split at h
    · rename_i l hx
      obtain ⟨v', hv, e⟩ := map_inj h
      obtain ⟨rfl, rfl⟩ := Prod.mk.inj e
      have ex := hr.ev hx
      simp only [SV.den] at ex
      simp [execOp, ho, ex, Instr.extract, hv, SV.den]
    · cases h
  | nilCheck x =>
    rw [ho] at h
    simp only [seVal] at h
    split at h
    · rename_i b off hx
      obtain ⟨rfl, rfl⟩ := some_inj2 h
      have ex := hr.ev hx
      simp only [SV.den, TV.den, S.den] at ex
      simp [execOp, ho, ex, SV.den, TV.den, S.den]
    · cases h
  | indexAddr t x ix =>
    rw [ho] at h
    simp only [seVal] at h
    split at h
    · rename_i e hu
      split at h
      · rename_i s k i z hx hi hz
        split at h
        case isFalse => cases h
        rename_i hrow
        obtain ⟨rfl, rfl⟩ := some_inj2 h
        obtain ⟨p, n', c, sz, els, e1, e2, e3, e4⟩ := inRow_ok hr hrow hds
        have ex := hr.ev hx
        have ei := hr.ev hi
        simp only [SV.den, TV.den, S.den, e1] at ex ei
        simp only [execOp, ho, ex, ei, Instr.indexAt, asIntOf, Sem.run_bind, run_underlying_some hu, Result.andThen_ok, Sem.run_pure, SV.den, TV.den, S.den, e1, va_slice, Option.map_some, Nat.add_zero]
        simp [e3, e4, run_sizeOf_some hz]
      · cases h
    · rename_i n e hu
      split at h
      · rename_i b off k i z hx hi hz
        split at h
        · rename_i hb
          obtain ⟨rfl, rfl⟩ := some_inj2 h
          have ex := hr.ev hx
          have ei := hr.ev hi
          simp only [SV.den, TV.den, S.den, X.den, vi_int] at ex ei
          simp only [execOp, ho, ex, ei, Instr.indexAt, asIntOf, Sem.run_bind, run_underlying_some hu, Result.andThen_ok, Sem.run_pure, SV.den, TV.den, S.den, Instr.sureAddr]
          simp only [hb, and_self, if_true, run_sizeOf_some hz, Sem.run_bind, Result.andThen_ok, Sem.run_pure]
          unfold Addr.add
          split <;> simp_all
        · cases h
      · cases h
    · cases h
  | index t x ix =>
    rw [ho] at h
    simp only [seVal] at h
    split at h
    · rename_i n e hu
      split at h
      · rename_i l k i z hx hi hz
        split at h
        · rename_i hb
          obtain ⟨v', hv, e⟩ := map_inj h
          obtain ⟨rfl, rfl⟩ := Prod.mk.inj e
          have ex := hr.ev hx
          have ei := hr.ev hi
          simp only [SV.den, TV.den, S.den, X.den, vi_int] at ex ei
          simp only [execOp, ho, ex, ei, Instr.index, asIntOf, Sem.run_bind, run_underlying_some hu, Result.andThen_ok, Sem.run_pure]
          simp only [hb, and_self, if_true, run_sizeOf_some hz, Sem.run_bind, Result.andThen_ok, run_part hv]
        · cases h
      · cases h
    · rename_i hu
      split at h
      · rename_i s k i hx hi
        obtain ⟨rfl, rfl⟩ := some_inj2 h
        have h3 : Nd.ok env (.tru (cmpX .leq (.int 0) i)) := hds _ (by simp)
        have h4 : Nd.ok env (.tru (.cmp .lss i (.size s))) := hds _ (by simp)
        simp only [Nd.ok, cmpX_den, X.den, vi_int, cmpD] at h3
        simp only [Nd.ok, X.den, vi_int, cmpD, vb_bool] at h4
        replace h3 := of_decide_eq_true h3
        replace h4 := of_decide_eq_true h4
        have ex := hr.ev hx
        have ei := hr.ev hi
        simp only [SV.den, TV.den, S.den] at ex ei
        have h5 : (vi (i.den env).1).toNat < (vs (s.den env).1).size := by omega
        simp only [execOp, ho, ex, ei, Instr.index, asIntOf, Sem.run_bind, run_underlying_some hu, Result.andThen_ok, Sem.run_pure, h3, if_true, SV.den, TV.den, S.den, X.den]
        simp [h5]
      · cases h
    · cases h
  | build t parts =>
    rw [ho] at h
    simp only [seVal] at h
    split at h
    · rename_i z ps hz hps
      obtain ⟨it, zv, h1, h2, h3⟩ := zero_info (env := env) (η := η) hz
      have hfill : ∀ {place : Nat → Option (Nat × Nat)} {l : List S}, fillS place z ps = some l → Instr.fill place zv.cells (parts.map fun (i, x) => (i, a.eval x)).toList = some (l.map (S.den env η)).toArray := by
        intro place l hl
        rw [h3]
        refine fill_sound hl ?_ ?_
        · rw [(allSome_map hps).1]; simp
        · intro i p q hp hq
          simp only [Array.toList_map, List.getElem?_map] at hq
          cases hx : parts.toList[i]? with
          | none => rw [hx] at hq; cases hq
          | some px =>
            rw [hx] at hq
            simp only [Option.map_some, Option.some.injEq] at hq
            obtain ⟨y, hy, hy2⟩ := (allSome_map hps).2 i px hx
            rw [hp] at hy2
            obtain rfl := Option.some.inj hy2
            cases hv : st.ev px.2 with
            | none => rw [hv] at hy; cases hy
            | some v' =>
              rw [hv] at hy
              simp only [Option.bind_some] at hy
              cases v' with
              | tup l => cases hy
              | one t =>
                simp only [partOf] at hy
                split at hy
                · rename_i hok
                  injection hy with hy
                  subst hy
                  subst hq
                  exact ⟨rfl, by rw [hr.ev hv]; exact TV.cells_den hr.elt hok⟩
                · cases hy
      split at h
      · rename_i fs hu
        split at h
        · rename_i pl hpl
          obtain ⟨l, hl, e⟩ := map_inj h
          obtain ⟨rfl, rfl⟩ := Prod.mk.inj e
          have hb : P.built t (parts.map fun (i, x) => (i, a.eval x)).toList = some (l.map (S.den env η)).toArray := by
            have := mapM_allSome hpl
            simp only [sizeO, Option.map_map, Function.comp_def] at this
            simp only [Program.built, h1, hu, h2, this]
            have := hfill hl
            simpa using this
          simp only [execOp, ho, Sem.run_bind, run_build w' t _ _ hb]; rfl
        · cases h
      · rename_i n e hu
        split at h
        · rename_i sz hsz
          obtain ⟨l, hl, e'⟩ := map_inj h
          obtain ⟨rfl, rfl⟩ := Prod.mk.inj e'
          obtain ⟨ie, hie, rfl⟩ := info_of_size hsz
          have hb : P.built t (parts.map fun (i, x) => (i, a.eval x)).toList = some (l.map (S.den env η)).toArray := by
            simp only [Program.built, h1, hu, h2, hie]
            exact hfill hl
          simp only [execOp, ho, Sem.run_bind, run_build w' t _ _ hb]; rfl
        · cases h
      · cases h
    · cases h
  | makeFunc fn first captured =>
    rw [ho] at h
    cases fn with
    | func f =>
      simp only [seVal] at h
      split at h
      · rename_i h0
        obtain ⟨l, hl, e⟩ := map_inj h
        obtain ⟨rfl, rfl⟩ := Prod.mk.inj e
        cases hcs : allSome (captured.toList.map st.ev) with
        | none => rw [hcs] at hl; cases hl
        | some vs =>
          rw [hcs] at hl
          simp only [Option.bind_some] at hl
          have e1 := hr.evs hcs
          have e2 := capsOf_sound (env := env) (η := η) hl
          have e3 : first = #[] := by simpa using h0
          subst e3
          simp only [execOp, ho, Instr.makeFunc, Sem.run_bind, Sem.run_pure, Result.andThen_ok, SV.den, TV.den, S.den]
          rw [e2] at e1
          have e4 : Array.map a.eval captured = (l.map fun b => Value.pointer (some ⟨η.getD b 0, 0, none⟩)).toArray := by
            apply Array.ext'
            rw [Array.toList_map, e1]
          rw [e4, Array.map_empty]
      · cases h
    | _ => simp [seVal] at h
  | call c =>
    rw [ho] at h
    simp only [seVal] at h
    split at h
    · rename_i hc
      rw [call_builtin ho hc]
      split at h
      · rename_i t x ht hargs
        have hal : c.args = #[x] := by apply Array.ext'; simpa using hargs
        split at h
        · rename_i e s hu hx
          obtain ⟨rfl, rfl⟩ := some_inj2 h
          have ex := hr.ev hx
          obtain ⟨p, n, c', hk⟩ := (hds (.kind .slc s) (by simp))
          simp only [SV.den, TV.den, S.den, hk] at ex
          simp [builtin, Builtin.len_, ht, hal, ex, run_underlying_some hu, goInt, SV.den, TV.den, S.den, lenX_den, hk]
        · rename_i s hu hx
          obtain ⟨rfl, rfl⟩ := some_inj2 h
          have ex := hr.ev hx
          simp only [SV.den, TV.den, S.den] at ex
          simp [builtin, Builtin.len_, ht, hal, ex, run_underlying_some hu, goInt, SV.den, TV.den, S.den, X.den]
        · rename_i n e v' hu hx
          obtain ⟨rfl, rfl⟩ := some_inj2 h
          simp [builtin, Builtin.len_, ht, hal, run_underlying_some hu, goInt, SV.den, TV.den, S.den, X.den]
        · cases h
      · cases h
    · rename_i hc
      rw [call_builtin ho hc]
      split at h
      · rename_i s l hl
        obtain ⟨r, hm, e⟩ := map_inj h
        obtain ⟨rfl, rfl⟩ := Prod.mk.inj e
        have h1 := hr.evs hl
        have h2 := mm_run (P := P) (env := env) (η := η) hm w'
        have h3 : (c.args.map a.eval).toList = SV.den env η (.one (.s s)) :: l.map (SV.den env η) := by rw [Array.toList_map, h1]; rfl
        simp only [builtin, Builtin.min_, h3, Sem.run_bind]
        simp only [SV.den, TV.den]
        rw [show (List.foldlM Builtin.min2 (s.den env η) (l.map (SV.den env η))).run P w' = _ from h2]; rfl
      · cases h
    · rename_i hc
      rw [call_builtin ho hc]
      split at h
      · rename_i s l hl
        obtain ⟨r, hm, e⟩ := map_inj h
        obtain ⟨rfl, rfl⟩ := Prod.mk.inj e
        have h1 := hr.evs hl
        have h2 := mm_run (P := P) (env := env) (η := η) hm w'
        have h3 : (c.args.map a.eval).toList = SV.den env η (.one (.s s)) :: l.map (SV.den env η) := by rw [Array.toList_map, h1]; rfl
        simp only [builtin, Builtin.max_, h3, Sem.run_bind]
        simp only [SV.den, TV.den]
        rw [show (List.foldlM Builtin.max2 (s.den env η) (l.map (SV.den env η))).run P w' = _ from h2]; rfl
      · cases h
    · cases h
  | slice t x lo hi mx =>
    rw [ho] at h
    simp only [seVal] at h
    split at h
    · rename_i s lo' hi' hu hx hlo hhi
      obtain ⟨rfl, rfl⟩ := some_inj2 h
      have ex := hr.ev hx
      simp only [SV.den, TV.den, S.den] at ex
      have h1 : Nd.ok env (.tru (cmpX .leq (.int 0) (lo'.getD (.int 0)))) := hds _ (by simp)
      have h2 : Nd.ok env (.tru (cmpX .leq (lo'.getD (.int 0)) (hi'.getD (.size s)))) := hds _ (by simp)
      have h3 : Nd.ok env (.tru (cmpX .leq (hi'.getD (.size s)) (.size s))) := hds _ (by simp)
      simp only [Nd.ok, cmpX_den, X.den, vi_int, cmpD] at h1 h2 h3
      replace h1 := of_decide_eq_true h1
      replace h2 := of_decide_eq_true h2
      replace h3 := of_decide_eq_true h3
      have hb := run_sliceBounds (P := P) (w := w') false (vs (s.den env).1).size (vs (s.den env).1).size (hr.optI_lo hlo) (hr.optI_hi (d := .size s) hhi rfl) h1 h2 h3
      simp only [execOp, ho, Instr.sliceAt, Sem.run_bind, run_underlying_some hu, Result.andThen_ok, Instr.slice, ex, Option.map_none, Option.isSome_none, Bool.false_eq_true, if_false, hb, Sem.run_pure]
      rfl
    · rename_i e s lo' hi' hu hx hlo hhi
      split at h
      · rename_i z hz
        split at h
        case isFalse => cases h
        rename_i hlive
        obtain ⟨rfl, rfl⟩ := some_inj2 h
        have ex := hr.ev hx
        simp only [SV.den, TV.den, S.den] at ex
        have h0 : Nd.ok env (.kind .slc s) := hds _ (by simp)
        have hrow : Nd.ok env (.szz s z) := hds _ (by simp)
        have h1 : Nd.ok env (.tru (cmpX .leq (.int 0) (lo'.getD (.int 0)))) := hds _ (by simp)
        have h2 : Nd.ok env (.tru (cmpX .leq (lo'.getD (.int 0)) (hi'.getD (.len s)))) := hds _ (by simp)
        have h3 : Nd.ok env (.tru (cmpX .leq (hi'.getD (.len s)) (.len s))) := hds _ (by simp)
        simp only [Nd.ok, cmpX_den, X.den, vi_int, cmpD] at h1 h2 h3
        replace h1 := of_decide_eq_true h1
        replace h2 := of_decide_eq_true h2
        replace h3 := of_decide_eq_true h3
        obtain ⟨p, n, c, h0⟩ := h0
        obtain ⟨z', els, hrow, _⟩ := hrow
        have hnc : n ≤ c := by
          have hg := (hr.live hlive).1
          rw [h0, hrow] at hg
          cases hg with
          | nil => exact Nat.le_refl _
          | rows _ _ _ _ _ _ _ _ hcap => exact hcap
        simp only [h0, vn_slice] at h3
        have hb := run_sliceBounds (P := P) (w := w') true n c (hr.optI_lo hlo) (hr.optI_hi (d := .len s) hhi (by simp only [X.den, h0, vn_slice, vi_int])) h1 h2 (by omega)
        rw [h0] at ex
        simp only [execOp, ho, Instr.sliceAt, Sem.run_bind, run_underlying_some hu, Result.andThen_ok, Instr.slice, ex, Option.map_none, hb, Sem.run_pure, run_sizeOf_some hz, SV.den, TV.den, S.den, X.den, subA, h0, va_slice, vi_int]
        simp only [vc]; rfl
      · cases h
    · rename_i n e b off lo' hi' hu hx hlo hhi
      split at h
      · rename_i z l hh hz hl hh'
        split at h
        · rename_i hb0
          obtain ⟨rfl, rfl⟩ := some_inj2 h
          obtain ⟨q1, q2, q3⟩ := hb0
          have ex := hr.ev hx
          simp only [SV.den, TV.den, S.den] at ex
          have hb := run_sliceBounds (P := P) (w := w') false n n (l := l) (h := hh) (by have := hr.optI_lo hlo; rw [hl] at this; exact this) (by have := hr.optI_hi (d := .int n) hhi rfl; rw [hh'] at this; exact this) q1 q2 q3
          simp only [execOp, ho, Instr.sliceAt, Sem.run_bind, run_underlying_some hu, Result.andThen_ok, ex, Instr.sureAddr, Option.map_none, hb, Sem.run_pure, run_sizeOf_some hz, SV.den, TV.den, S.den]
          congr 4
          by_cases q4 : n = l.toNat
          · simp [q4]
          · simp only [q4, if_false]
            unfold Addr.add
            split
            · rename_i q5; simp [q5]
            · rfl
        · cases h
      · cases h
    · cases h
  | _ => rw [ho] at h; simp [seVal] at h
end
end Go.Proofs.YtamjocnlhhhijaaV

namespace Go.Proofs.YtamjocnlhhhijaaV
open Go Go.RowKit

section
variable {w0 : Base} {w : World} {st : St} {env : List Atom} {η : List Nat} {m : Addr → Option Value} {a : Act} {P : Program}
theorem RK.S_den {k : RK} {x : X} (h : k.ok (x.den env).1) : (k.S x).den env η = (x.den env).1 := by
  cases k with
  | int k => obtain ⟨n, h⟩ := h; simp [RK.S, S.den, h]
  | bool => obtain ⟨n, h⟩ := h; simp [RK.S, S.den, h]
  | str => obtain ⟨n, h⟩ := h; simp [RK.S, S.den, h]
  | slc => rfl
  | any => rfl
  | ifc => rfl
theorem add_mk (g o j : Nat) : (⟨g, o, none⟩ : Addr).add j = ⟨g, o + j, none⟩ := by
  unfold Addr.add; split <;> simp_all
theorem loadVar_agg {t : TypeId} {n : Nat} (hA : isAggB P t = some true) (hn : sizeO P t = some n) {p : Addr} {vs : List Value} (hl : vs.length = n) {w : World} (h : ∀ (j : Nat) v, vs[j]? = some v → w.cell? (p.add j) = some v) :
    (loadVar t p).run P w = .ok (.agg vs.toArray) w := by
  subst hl
  simp only [loadVar, Sem.run_bind, run_isAgg_some hA, Result.andThen_ok, if_true, run_sizeOf_some hn, run_loadCells_list w p vs h, Sem.run_pure]
theorem loadVar_one {t : TypeId} (hA : isAggB P t = some false) {p : Addr} {v : Value} {w : World} (h : w.cell? p = some v) : (loadVar t p).run P w = .ok v w := by
  simp [loadVar, run_isAgg_some hA, h]
theorem exec_load {o : Oper} {t : TypeId} {x : Operand} (ho : o.op = .load t x) {p : Addr} (hx : a.eval x = .pointer (some p)) {w : World} {v : Value} (h : (loadVar t p).run P w = .ok v w) :
    (execOp a.eval o).run P w = .ok (.value v) w := by
  simp [execOp, ho, hx, Instr.loadAt, Instr.sureAddr, h]
theorem cells_cell {w : World} {g : Nat} {l : List S} {t : TypeId} (h : w.heap[g]? = some (.cells (l.map (S.den env η)).toArray t (0, 0))) (o : Nat) : w.cell? ⟨g, o, none⟩ = (l[o]?).map (S.den env η) := by
  simp [World.cell?, h]
theorem seCap_src {t : TypeId} {f : FuncId} {cs : List Cc} {x : X} {j : Nat} {ds : List Nd} {v : SV} {src : Src} (h : seCap P st t f cs x j = some (ds, v, src)) : src = .row x (.int 0) ∧ live st x = true := by
  unfold seCap at h
  split at h
  · split at h
    · rename_i hl
      split at h
      · simp only [Option.some.injEq, Prod.mk.injEq] at h; exact ⟨h.2.2.symm, hl⟩
      · simp only [Option.some.injEq, Prod.mk.injEq] at h; exact ⟨h.2.2.symm, hl⟩
      · cases h
    · cases h
  · cases h
theorem ccS_den (x : X) (c : Cc) : (ccS x c).den env η = c.val (x.den env).1 := by
  cases c with
  | int k z => rfl
  | fn g => simp [ccS, S.den, Cc.val]
  | self => rfl
/-- A box of a function value. -/
theorem load_cap (hr : Rel w0 st env η m a w) {o : Oper} {t : TypeId} {px : Operand} (ho : o.op = .load t px) {f : FuncId} {cs : List Cc} {x : X} {j : Nat} (hx : st.ev px = some (.one (.s (.cptr f cs x j)))) {ds : List Nd} {v : SV} {src : Src} (h : seCap P st t f cs x j = some (ds, v, src))
    (hds : ∀ d ∈ ds, d.ok env) {m1 : Addr → Option Value} (hs : Good m1 (x.den env)) {w' : World} (hw : ∀ ad u, m1 ad = some u → w'.cell? ad = some u) : (execOp a.eval o).run P w' = .ok (.value (v.den env η)) w' := by
  have ex := hr.ev hx
  simp only [SV.den, TV.den, S.den] at ex
  unfold seCap at h
  split at h
  case h_2 => cases h
  rename_i c hc
  split at h
  case isFalse => cases h
  have key : Nd.ok env (.tru (.clo (some f) cs x)) → ∃ p, a.eval px = .pointer (some p) ∧ w'.cell? p = some ((ccS x c).den env η) := by
    intro hd
    obtain ⟨fi, ca, e⟩ := cloB_some (show cloB (some f) cs (x.den env) = true from hd)
    have hs1 := hs.1
    rw [e] at hs1
    cases hs1 with
    | clo _ bs _ hl hcc =>
      have hlt : j < bs.length := by rw [hl]; exact (List.getElem?_eq_some_iff.1 hc).1
      have hb := List.getElem?_eq_getElem hlt
      refine ⟨⟨bs[j], 0, none⟩, ?_, ?_⟩
      · rw [ex, e]
        simp [capAt, boxP, hlt]
      · rw [ccS_den, e]
        exact hw _ _ (hcc j _ c hb hc)
  split at h
  · rename_i hA hn
    simp only [Option.some.injEq, Prod.mk.injEq] at h
    obtain ⟨rfl, rfl, rfl⟩ := h
    obtain ⟨p, h1, h2⟩ := key (hds _ (by simp))
    refine exec_load ho h1 ?_
    simp only [SV.den, TV.den, List.map_cons, List.map_nil]
    refine loadVar_agg hA hn (vs := [(ccS x c).den env η]) rfl ?_
    intro k u hk
    cases k with
    | zero =>
      simp only [List.getElem?_cons_zero, Option.some.injEq] at hk
      subst hk
      rw [show p.add 0 = p by simp [Addr.add]]; exact h2
    | succ k => simp at hk
  · rename_i hA
    simp only [Option.some.injEq, Prod.mk.injEq] at h
    obtain ⟨rfl, rfl, rfl⟩ := h
    obtain ⟨p, h1, h2⟩ := key (hds _ (by simp))
    exact exec_load ho h1 (loadVar_one hA h2)
  · cases h
theorem load_var (hr : Rel w0 st env η m a w) {t : TypeId} {x : Operand} {ds : List Nd} {v : SV} {b : Nat} (h : seLoad P st t x = some (ds, v, .blk b)) {w' : World}
    (hw : w'.heap[η.getD b 0]? = w.heap[η.getD b 0]?) : ∃ p, a.eval x = .pointer (some p) ∧ (loadVar t p).run P w' = .ok (v.den env η) w' := by
  unfold seLoad at h
  split at h
  · cases (seCap_src h).1
  · rename_i b' off hx
    have ex := hr.ev hx
    simp only [SV.den, TV.den, S.den] at ex
    split at h
    · rename_i bl hbl
      have hb := hr.hb b' bl hbl
      split at h
      case isTrue => cases h
      rename_i hmp
      have hmp : bl.mp = none := by simpa using hmp
      simp only [Blk.obj, hmp] at hb
      split at h
      · rename_i n hA hn
        split at h
        · rename_i hc
          simp only [Option.some.injEq, Prod.mk.injEq, Src.blk.injEq] at h
          obtain ⟨rfl, rfl, rfl⟩ := h
          simp only [Bool.and_eq_true, decide_eq_true_eq, List.length_drop] at hc
          rw [← hw] at hb
          refine ⟨_, ex, ?_⟩
          simp only [SV.den, TV.den]
          refine loadVar_agg hA hn (by simp; omega) ?_
          intro j u hj
          rw [add_mk, cells_cell hb]
          simp only [List.getElem?_map, List.getElem?_take, List.getElem?_drop] at hj
          split at hj
          · exact hj
          · cases hj
        · cases h
      · rename_i hA
        split at h
        · cases h
        · rename_i c hc hcell
          simp only [Option.some.injEq, Prod.mk.injEq, Src.blk.injEq] at h
          obtain ⟨rfl, rfl, rfl⟩ := h
          rw [← hw] at hb
          refine ⟨_, ex, loadVar_one hA ?_⟩
          rw [cells_cell hb, hcell]; rfl
        · cases h
      · cases h
    · cases h
  · split at h
    · split at h
      · rename_i src hsrc
        have hne : src ≠ .blk b := by
          intro e; subst e
          unfold srcOf at hsrc
          split at hsrc
          · cases hsrc
          · split at hsrc
            · split at hsrc <;> cases hsrc
            · cases hsrc
        split at h
        · simp only at h
          split at h
          · simp only [Option.some.injEq, Prod.mk.injEq] at h; exact absurd h.2.2 hne
          · split at h
            · simp only [Option.some.injEq, Prod.mk.injEq] at h; exact absurd h.2.2 hne
            · cases h
          · cases h
        · cases h
      · cases h
    · cases h
  · cases h
theorem load_blk (hr : Rel w0 st env η m a w) {o : Oper} {t : TypeId} {x : Operand} (ho : o.op = .load t x) {ds : List Nd} {v : SV} {b : Nat} (h : seLoad P st t x = some (ds, v, .blk b)) {w' : World}
    (hw : w'.heap[η.getD b 0]? = w.heap[η.getD b 0]?) : (execOp a.eval o).run P w' = .ok (.value (v.den env η)) w' := by
  obtain ⟨p, h1, h2⟩ := load_var hr h hw
  exact exec_load ho h1 h2
theorem cellsAt_get {s i : X} : ∀ {ks : List RK} {o j : Nat} {k : RK}, ks[j]? = some k → (cellsAt s i o ks)[j]? = some (.kind k (.cell s i (o + j)), k.S (.cell s i (o + j)))
  | [], _, _, _, h => by simp at h
  | k' :: ks, o, 0, k, h => by simp only [List.getElem?_cons_zero, Option.some.injEq] at h; subst h; rfl
  | k' :: ks, o, j + 1, k, h => by
    simp only [List.getElem?_cons_succ] at h
    simp only [cellsAt, List.getElem?_cons_succ]
    rw [cellsAt_get h]
    simp [Nat.add_assoc, Nat.add_comm 1 j]
theorem cellsAt_length {s i : X} : ∀ {ks : List RK} {o : Nat}, (cellsAt s i o ks).length = ks.length
  | [], _ => rfl
  | _ :: ks, o => by simp [cellsAt, cellsAt_length]
theorem row_cell {s i : X} {p : Addr} {n c sz : Nat} {els : List (List Atom)} (e1 : s.den env = (.slice (some p) n c, .rows sz els)) (e2 : n = els.length) (h0 : 0 ≤ vi (i.den env).1) (h1 : vi (i.den env).1 < n)
    {m : Addr → Option Value} (hr : Rd m (s.den env).1 (s.den env).2) {j : Nat} (hj : j < sz) : m (p.add ((vi (i.den env).1).toNat * sz + j)) = some ((X.cell s i j).den env).1 := by
  rw [e1] at hr
  cases hr with
  | rows _ _ _ _ hz hc _ _ _ =>
    have hlt : (vi (i.den env).1).toNat < els.length := by omega
    have hrow : els[(vi (i.den env).1).toNat]? = some els[(vi (i.den env).1).toNat] := List.getElem?_eq_getElem hlt
    have hlen := hz _ _ hrow
    have hat : (els[(vi (i.den env).1).toNat])[j]? = some (els[(vi (i.den env).1).toNat])[j] := List.getElem?_eq_getElem (by omega)
    rw [hc _ _ _ _ hrow hat]
    simp [X.den, e1, cellD, D.els, List.getD_eq_getElem?_getD, hrow, hat]
theorem flat_get {sz : Nat} : ∀ {els : List (List Atom)}, (∀ row ∈ els, row.length = sz) → ∀ {i : Nat} {row : List Atom} {j : Nat} {x : Atom}, els[i]? = some row → row[j]? = some x → (flat els)[i * sz + j]? = some x.1
  | [], _, i, row, j, x, h, _ => by simp at h
  | r :: els, hz, 0, row, j, x, h, hj => by
    simp only [List.getElem?_cons_zero, Option.some.injEq] at h
    subst h
    have hl := (List.getElem?_eq_some_iff.1 hj).1
    simp only [flat, List.map_cons, List.flatten_cons, Nat.zero_mul, Nat.zero_add]
    rw [List.getElem?_append_left (by simpa using hl), List.getElem?_map, hj]; rfl
  | r :: els, hz, i + 1, row, j, x, h, hj => by
    simp only [List.getElem?_cons_succ] at h
    have hr := hz r List.mem_cons_self
    have := flat_get (fun q hq => hz q (List.mem_cons_of_mem _ hq)) h hj
    simp only [flat, List.map_cons, List.flatten_cons]
    rw [List.getElem?_append_right (by simp [hr, Nat.succ_mul]; omega)]
    rw [show (i + 1) * sz + j - (r.map (·.1)).length = i * sz + j by simp [hr, Nat.succ_mul]; omega]
    exact this
theorem flat_length {sz : Nat} : ∀ {els : List (List Atom)}, (∀ row ∈ els, row.length = sz) → (flat els).length = els.length * sz
  | [], _ => by simp [flat]
  | r :: els, hz => by
    have := flat_length (fun q hq => hz q (List.mem_cons_of_mem _ hq)) (els := els)
    simp only [flat, List.map_cons, List.flatten_cons, List.length_append, List.length_map, List.length_cons] at this ⊢
    rw [this, hz r List.mem_cons_self, Nat.succ_mul]; omega
theorem flat_append (a b : List (List Atom)) : flat (a ++ b) = flat a ++ flat b := by simp [flat]
/-- A cell of a slice of ours. -/
theorem own_cell {w1 : World} {base : Nat} {e : TypeId} {sz' : Nat} {s i : X} {p : Addr} {n c sz : Nat} {els : List (List Atom)} (e1 : s.den env = (.slice (some p) n c, .rows sz els)) (e2 : n = els.length) (h0 : 0 ≤ vi (i.den env).1) (h1 : vi (i.den env).1 < n)
    (hr : OwnAt m w1 base (s.den env) e sz') {j : Nat} (hj : j < sz) : w1.cell? (p.add ((vi (i.den env).1).toNat * sz + j)) = some ((X.cell s i j).den env).1 := by
  obtain ⟨z, els', q1, q2, q3, q4, q5⟩ := hr.as ⟨_, _, by rw [e1]⟩
  rw [e1] at q1 q5
  injection q1 with q0 q1
  subst q0; subst q1
  have hlt : (vi (i.den env).1).toNat < els.length := by omega
  have hne : els ≠ [] := by intro e; subst e; simp at hlt
  obtain rfl := q2 hne
  have hrow : els[(vi (i.den env).1).toNat]? = some els[(vi (i.den env).1).toNat] := List.getElem?_eq_getElem hlt
  have hlen := q3 _ (List.mem_of_getElem? hrow)
  have hat : (els[(vi (i.den env).1).toNat])[j]? = some (els[(vi (i.den env).1).toNat])[j] := List.getElem?_eq_getElem (by omega)
  have hb : ∃ g, (Value.slice (some p) n c).ownBlock = some g ∧ p = ⟨g, 0, none⟩ := by
    rcases q5.2 with ⟨e, _⟩ | ⟨g, cap, cur, e, _⟩
    · cases e
    · injection e with e _ _
      injection e with e
      exact ⟨g, by rw [e]; rfl, e⟩
  obtain ⟨g, hb, rfl⟩ := hb
  rw [q5.cells hb _ _ (flat_get q3 hrow hat)]
  simp [X.den, e1, cellD, D.els, List.getD_eq_getElem?_getD, hrow, hat]
theorem srcOf_rowOk {s i : X} {src : Src} (h : srcOf st s i = some src) : rowOk st s = true ∧ ((src = .row s i ∧ live st s = true) ∨ ∃ o ∈ st.own, s = .at o.1 ∧ src = .own o.1) := by
  unfold srcOf at h
  split at h
  · rename_i hl
    injection h with h
    have hl' := hl
    simp only [live, Bool.and_eq_true] at hl'
    exact ⟨by simp [rowOk, hl'.1, hl'.2], .inl ⟨h.symm, hl⟩⟩
  · split at h
    · rename_i j
      split at h
      · rename_i hc
        injection h with h
        simp only [Bool.and_eq_true, List.contains_iff_mem, List.mem_map] at hc
        obtain ⟨⟨o, ho, rfl⟩, hd⟩ := hc
        refine ⟨?_, .inr ⟨o, ho, rfl, h.symm⟩⟩
        simp only [rowOk, hd, Bool.true_and, Bool.or_eq_true]
        left
        exact List.any_eq_true.2 ⟨o, ho, by simp [X.isAt]⟩
      · cases h
    · cases h
theorem load_slc (hr : Rel w0 st env η m a w) {o : Oper} {t : TypeId} {x : Operand} (ho : o.op = .load t x) {ds : List Nd} {v : SV} {src : Src} (h : seLoad P st t x = some (ds, v, src)) (hne : ∀ b, src ≠ .blk b) (hnc : ∀ f cs x' j, st.ev x ≠ some (.one (.s (.cptr f cs x' j)))) (hds : ∀ d ∈ ds, d.ok env)
    {w' : World} (hw : ∀ (s i : X) (p : Addr) (n c sz : Nat) (els : List (List Atom)), srcOf st s i = some src → s.den env = (.slice (some p) n c, .rows sz els) → n = els.length → 0 ≤ vi (i.den env).1 → vi (i.den env).1 < n → ∀ j, j < sz → w'.cell? (p.add ((vi (i.den env).1).toNat * sz + j)) = some ((X.cell s i j).den env).1) :
    (execOp a.eval o).run P w' = .ok (.value (v.den env η)) w' := by
  unfold seLoad at h
  split at h
  · rename_i hx; exact absurd hx (hnc _ _ _ _)
  · split at h
    · split at h
      · cases h
      · split at h
        · split at h
          · simp only [Option.some.injEq, Prod.mk.injEq] at h; exact absurd h.2.2.symm (hne _)
          · cases h
        · split at h
          · cases h
          · simp only [Option.some.injEq, Prod.mk.injEq] at h; exact absurd h.2.2.symm (hne _)
          · cases h
        · cases h
    · cases h
  · rename_i s' i' z off hx
    have ex := hr.ev hx
    split at h
    · rename_i ks hks
      split at h
      case h_2 => cases h
      rename_i src' hsrc
      split at h
      · rename_i hlen
        simp only [Bool.and_eq_true, decide_eq_true_eq, beq_iff_eq] at hlen
        obtain ⟨hlen, hsize⟩ := hlen
        simp only at h
        have fin : ∀ {ds' : List Nd}, src' = src → (∀ d ∈ inRow s' i', d.ok env) → Nd.ok env (.sz s' z) →
            ∃ p, a.eval x = .pointer (some p) ∧ ∀ (j : Nat) k, ks[j]? = some k → w'.cell? (p.add j) = some ((X.cell s' i' (off + j)).den env).1 := by
          intro ds' he h1 h2
          subst he
          obtain ⟨p, n, c, sz, els, e1, e2, e3, e4⟩ := inRow_ok hr (srcOf_rowOk hsrc).1 h1
          obtain ⟨els', e5⟩ := h2
          rw [e1] at e5
          simp only [D.rows.injEq] at e5
          obtain ⟨rfl, rfl⟩ := e5
          simp only [SV.den, TV.den, S.den, e1, va_slice, Option.map_some] at ex
          refine ⟨_, ex, fun j k hj => ?_⟩
          have hjl : j < ks.length := (List.getElem?_eq_some_iff.1 hj).1
          rw [Addr.add_add, Nat.add_assoc]
          exact hw _ _ _ _ _ _ _ hsrc e1 e2 e3 e4 _ (by omega)
        split at h
        · rename_i hA
          simp only [Option.some.injEq, Prod.mk.injEq] at h
          obtain ⟨rfl, rfl, rfl⟩ := h
          obtain ⟨p, ep, hc⟩ := fin (ds' := []) rfl (fun d hd => hds d (by simp [hd])) (hds _ (by simp))
          refine exec_load ho ep ?_
          simp only [SV.den, TV.den]
          refine loadVar_agg hA hsize (by simp [cellsAt_length]) ?_
          intro j u hj
          simp only [List.getElem?_map] at hj
          cases hk : ks[j]? with
          | none =>
            have : (cellsAt s' i' off ks)[j]? = none := by rw [List.getElem?_eq_none_iff, cellsAt_length]; exact List.getElem?_eq_none_iff.1 hk
            rw [this] at hj; cases hj
          | some k =>
            rw [cellsAt_get hk] at hj
            simp only [Option.map_some, Option.some.injEq] at hj
            rw [hc j k hk, ← hj]
            rw [RK.S_den]
            have : Nd.kind k (.cell s' i' (off + j)) ∈ (cellsAt s' i' off ks).map (·.1) := List.mem_map.2 ⟨_, List.mem_of_getElem? (cellsAt_get hk), rfl⟩
            exact hds _ (by simp only [List.mem_append, List.mem_cons]; exact .inr (.inr this))
        · rename_i hA
          split at h
          · rename_i d c hl
            simp only [Option.some.injEq, Prod.mk.injEq] at h
            obtain ⟨rfl, rfl, rfl⟩ := h
            obtain ⟨p, ep, hc⟩ := fin (ds' := []) rfl (fun d hd => hds d (by simp [hd])) (hds _ (by simp))
            refine exec_load ho ep (loadVar_one hA ?_)
            cases ks with
            | nil => simp [cellsAt] at hl
            | cons k ks =>
              simp only [cellsAt, List.cons.injEq, Prod.mk.injEq] at hl
              obtain ⟨⟨rfl, rfl⟩, _⟩ := hl
              have h1 := hc 0 k rfl
              have h2 : p.add 0 = p := by simp [Addr.add]
              rw [h2] at h1
              rw [h1]
              simp only [SV.den, TV.den]
              have h3 : Nd.ok env (.kind k (.cell s' i' off)) := hds _ (by simp)
              rw [RK.S_den h3]; rfl
          · cases h
        · cases h
      · cases h
    · cases h
  · cases h
theorem load_row (hr : Rel w0 st env η m a w) {o : Oper} {t : TypeId} {x : Operand} (ho : o.op = .load t x) {ds : List Nd} {v : SV} {s i : X} (h : seLoad P st t x = some (ds, v, .row s i)) (hds : ∀ d ∈ ds, d.ok env)
    {m1 : Addr → Option Value} (hs : Good m1 (s.den env)) {w' : World} (hw : ∀ ad u, m1 ad = some u → w'.cell? ad = some u) : (execOp a.eval o).run P w' = .ok (.value (v.den env η)) w' := by
  by_cases hcp : ∃ f cs x' j, st.ev x = some (.one (.s (.cptr f cs x' j)))
  · obtain ⟨f, cs, x', j, hx⟩ := hcp
    have h' := h
    simp only [seLoad, hx] at h'
    have e := (seCap_src h').1
    injection e with e1 e2
    subst e1
    exact load_cap hr ho hx h' hds hs hw
  refine load_slc hr ho h (fun b e => by cases e) (fun f cs x' j e => hcp ⟨f, cs, x', j, e⟩) hds fun s' i' p n c sz els hsrc e1 e2 e3 e4 j hj => ?_
  rcases (srcOf_rowOk hsrc).2 with ⟨e, _⟩ | ⟨o, _, _, e⟩
  · injection e with q1 q2
    subst q1; subst q2
    exact hw _ _ (row_cell e1 e2 e3 e4 hs.1 hj)
  · cases e
theorem load_own (hr : Rel w0 st env η m a w) {o : Oper} {t : TypeId} {x : Operand} (ho : o.op = .load t x) {ds : List Nd} {v : SV} {k : Nat} (h : seLoad P st t x = some (ds, v, .own k)) (hds : ∀ d ∈ ds, d.ok env)
    {w' : World} (hw : ∀ o ∈ st.own, o.1 = k → ∀ g, blkOf env o = some g → w'.heap[g]? = w.heap[g]?) : (execOp a.eval o).run P w' = .ok (.value (v.den env η)) w' := by
  have hcp : ∀ f cs x' j, st.ev x ≠ some (.one (.s (.cptr f cs x' j))) := by
    intro f cs x' j hx
    simp only [seLoad, hx] at h
    cases (seCap_src h).1
  refine load_slc hr ho h (fun b e => by cases e) hcp hds fun s' i' p n c sz els hsrc e1 e2 e3 e4 j hj => ?_
  rcases (srcOf_rowOk hsrc).2 with ⟨e, _⟩ | ⟨o, ho, rfl, e⟩
  · cases e
  · injection e with e
    have h1 := hr.own ho
    rw [← own_cell e1 e2 e3 e4 h1 hj]
    have hb : ∃ g, blkOf env o = some g ∧ p = ⟨g, 0, none⟩ := by
      obtain ⟨z, els', q1, q2, q3, q4, q5⟩ := h1.as ⟨_, _, by rw [e1]⟩
      have e5 : (X.at o.1).den env = env.getD o.1 atom0 := rfl
      rw [e1] at q5
      rcases q5.2 with ⟨e, _⟩ | ⟨g, cap, cur, e, _⟩
      · cases e
      · injection e with e _ _
        injection e with e
        refine ⟨g, ?_, e⟩
        unfold blkOf
        rw [← e5, e1, ownB_of rfl, e]; rfl
    obtain ⟨g, hb, rfl⟩ := hb
    exact World.cell?_of_block (by
      have : ((⟨g, 0, none⟩ : Addr).add ((vi (i'.den env).1).toNat * sz + j)).block = g := by unfold Addr.add; split <;> rfl
      rw [this]
      exact hw o ho e.symm g hb)
end
end Go.Proofs.YtamjocnlhhhijaaV
