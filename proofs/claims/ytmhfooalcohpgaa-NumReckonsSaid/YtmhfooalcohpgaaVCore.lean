/- Vcg, part 1: a symbolic executor of the model's code (my own; no file of the kit): values, expressions, the tree, the run. -/
import Derived.WalkKit
import Derived.KernelRfl
namespace Go.Proofs.YtmhfooalcohpgaaV
open Go

/-! ### Ghosts, atoms -/
/-- What a value reads as: nothing is told, or a slice's elements, cell by cell. -/
inductive D where
  | leaf
  | rows (sz : Nat) (els : List (List (Value × D)))
abbrev Atom := Value × D
def D.els : D → List (List Atom) | .rows _ e => e | .leaf => []
def vi : Value → Int | .int _ n => n | _ => 0
def vb : Value → Bool | .bool b => b | _ => false
def vs : Value → ByteArray | .string s => s | _ => ByteArray.empty
def va : Value → Option Addr | .slice a _ _ => a | _ => none
def vn : Value → Nat | .slice _ n _ => n | _ => 0
def vc : Value → Nat | .slice _ _ c => c | _ => 0
@[simp] theorem vi_int (k : IntKind) (n : Int) : vi (.int k n) = n := rfl
@[simp] theorem vb_bool (b : Bool) : vb (.bool b) = b := rfl
@[simp] theorem vs_string (s : ByteArray) : vs (.string s) = s := rfl
@[simp] theorem vn_slice (a : Option Addr) (n c : Nat) : vn (.slice a n c) = n := rfl
@[simp] theorem va_slice (a : Option Addr) (n c : Nat) : va (.slice a n c) = a := rfl
def atom0 : Atom := (.bool false, .leaf)

/-! ### Expressions -/
inductive X where
  | at (i : Nat)
  | int (z : Int)
  | bool (b : Bool)
  | str (l : List UInt8)
  | nil (sz : Nat)
  | ar (op : BinOp) (k : IntKind) (x y : X)
  | neg (k : IntKind) (x : X)
  | wrap (k : IntKind) (x : X)
  | cmp (op : BinOp) (x y : X)
  | mn (x y : X)
  | mx (x y : X)
  | not (x : X)
  | ite (c x y : X)
  | beq (x y : X)
  | len (x : X)
  | size (x : X)
  | cell (s i : X) (j : Nat)
  | byte (s i : X)
  | sub (s i j : X)
  | cat (s t : X)
  | seq (s t : X)
  | slt (s t : X)

def bitsD (k : IntKind) (f : BitVec k.bits → BitVec k.bits → BitVec k.bits) (a b : Int) : Int := k.wrap (f (BitVec.ofInt k.bits a) (BitVec.ofInt k.bits b)).toNat
def quoD (k : IntKind) (a b : Int) : Int := k.wrap (a.tdiv b)
def remD (a b : Int) : Int := a.tmod b
def arD (op : BinOp) (k : IntKind) (a b : Int) : Int :=
  match op with
  | .add => k.wrap (a + b)
  | .sub => k.wrap (a - b)
  | .mul => k.wrap (a * b)
  | .quo => quoD k a b
  | .rem => remD a b
  | .shl => k.wrap (a * 2 ^ (min b.toNat k.bits))
  | .shr => a.fdiv (2 ^ (min b.toNat k.bits))
  | .and => bitsD k (· &&& ·) a b
  | .or => bitsD k (· ||| ·) a b
  | .xor => bitsD k (· ^^^ ·) a b
  | .andNot => bitsD k (fun x y => x &&& ~~~y) a b
  | _ => 0
def cmpD (op : BinOp) (a b : Int) : Bool :=
  match op with
  | .eql => a == b
  | .neq => a != b
  | .lss => a < b
  | .leq => a ≤ b
  | .gtr => a > b
  | .geq => a ≥ b
  | _ => false
def mnD (a b : Int) : Int := if b < a then b else a
def mxD (a b : Int) : Int := if b > a then b else a
theorem mnD_eq (a b : Int) : mnD a b = min a b := by unfold mnD; omega
theorem mxD_eq (a b : Int) : mxD a b = max a b := by unfold mxD; omega
def cellD (a : Atom) (i : Int) (j : Nat) : Atom := ((a.2.els.getD i.toNat []).getD j atom0)
def X.den (env : List Atom) : X → Atom
  | .at i => env.getD i atom0
  | .int z => (.int .i64 z, .leaf)
  | .bool b => (.bool b, .leaf)
  | .str l => (.string ⟨l.toArray⟩, .leaf)
  | .nil sz => (.slice none 0 0, .rows sz [])
  | .ar op k x y => (.int k (arD op k (vi (x.den env).1) (vi (y.den env).1)), .leaf)
  | .neg k x => (.int k (k.wrap (0 - vi (x.den env).1)), .leaf)
  | .wrap k x => (.int k (k.wrap (vi (x.den env).1)), .leaf)
  | .cmp op x y => (.bool (cmpD op (vi (x.den env).1) (vi (y.den env).1)), .leaf)
  | .mn x y => (.int .i64 (mnD (vi (x.den env).1) (vi (y.den env).1)), .leaf)
  | .mx x y => (.int .i64 (mxD (vi (x.den env).1) (vi (y.den env).1)), .leaf)
  | .not x => (.bool (!vb (x.den env).1), .leaf)
  | .ite c x y => if vb (c.den env).1 then x.den env else y.den env
  | .beq x y => (.bool (vb (x.den env).1 == vb (y.den env).1), .leaf)
  | .len x => (.int .i64 (vn (x.den env).1), .leaf)
  | .size x => (.int .i64 (vs (x.den env).1).size, .leaf)
  | .cell s i j => cellD (s.den env) (vi (i.den env).1) j
  | .byte s i => (.int .u8 (((vs (s.den env).1)[(vi (i.den env).1).toNat]?.map (·.toNat)).getD 0 : Nat), .leaf)
  | .sub s i j => (.string ((vs (s.den env).1).extract (vi (i.den env).1).toNat (vi (j.den env).1).toNat), .leaf)
  | .cat s t => (.string (vs (s.den env).1 ++ vs (t.den env).1), .leaf)
  | .seq s t => (.bool ((vs (s.den env).1).toList == (vs (t.den env).1).toList), .leaf)
  | .slt s t => (.bool (Op.bytesLess (vs (s.den env).1).toList (vs (t.den env).1).toList), .leaf)

def X.eq : X → X → Bool
  | .at i, .at j => i == j
  | .int a, .int b => a == b
  | .bool a, .bool b => a == b
  | .str a, .str b => a == b
  | .nil a, .nil b => a == b
  | .ar o k x y, .ar o' k' x' y' => o == o' && k == k' && x.eq x' && y.eq y'
  | .neg k x, .neg k' x' => k == k' && x.eq x'
  | .wrap k x, .wrap k' x' => k == k' && x.eq x'
  | .cmp o x y, .cmp o' x' y' => o == o' && x.eq x' && y.eq y'
  | .mn x y, .mn x' y' => x.eq x' && y.eq y'
  | .mx x y, .mx x' y' => x.eq x' && y.eq y'
  | .not x, .not x' => x.eq x'
  | .ite c x y, .ite c' x' y' => c.eq c' && x.eq x' && y.eq y'
  | .beq x y, .beq x' y' => x.eq x' && y.eq y'
  | .len x, .len x' => x.eq x'
  | .size x, .size x' => x.eq x'
  | .cell x y j, .cell x' y' j' => x.eq x' && y.eq y' && j == j'
  | .byte x y, .byte x' y' => x.eq x' && y.eq y'
  | .sub c x y, .sub c' x' y' => c.eq c' && x.eq x' && y.eq y'
  | .cat x y, .cat x' y' => x.eq x' && y.eq y'
  | .seq x y, .seq x' y' => x.eq x' && y.eq y'
  | .slt x y, .slt x' y' => x.eq x' && y.eq y'
  | _, _ => false
def X.bnd (n : Nat) : X → Bool
  | .at i => i < n
  | .int _ | .bool _ | .str _ | .nil _ => true
  | .neg _ x | .wrap _ x | .not x | .len x | .size x => x.bnd n
  | .ar _ _ x y | .cmp _ x y | .mn x y | .mx x y | .beq x y | .cell x y _ | .byte x y | .cat x y | .seq x y | .slt x y => x.bnd n && y.bnd n
  | .ite c x y | .sub c x y => c.bnd n && x.bnd n && y.bnd n

/-! ### Symbolic values -/
inductive S where
  | junk
  | undef
  | int (k : IntKind) (x : X)
  | bool (x : X)
  | str (x : X)
  | slc (x : X)
  | any (x : X)
  | ptr (b off : Nat)
  | eptr (s i : X) (sz off : Nat)
  | fn (f : FuncId) (caps : List Nat)
  | cst (v : Value)
inductive TV where
  | s (x : S)
  | agg (l : List S)
inductive SV where
  | one (t : TV)
  | tup (l : List TV)
def S.den (env : List Atom) (η : List Nat) : S → Value
  | .junk | .undef => Go.undef
  | .int k x => .int k (vi (x.den env).1)
  | .bool x => .bool (vb (x.den env).1)
  | .str x => .string (vs (x.den env).1)
  | .slc x | .any x => (x.den env).1
  | .ptr b off => .pointer (some ⟨η.getD b 0, off, none⟩)
  | .eptr s i sz off => .pointer ((va (s.den env).1).map (·.add ((vi (i.den env).1).toNat * sz + off)))
  | .fn f caps => .func (.func f) #[] (caps.map (fun b => Value.pointer (some ⟨η.getD b 0, 0, none⟩))).toArray
  | .cst v => v
def TV.den (env : List Atom) (η : List Nat) : TV → Value
  | .s x => x.den env η
  | .agg l => .agg (l.map (S.den env η)).toArray
def SV.den (env : List Atom) (η : List Nat) : SV → Value
  | .one t => t.den env η
  | .tup l => .tuple (l.map (TV.den env η)).toArray
/-- A leaf as an atom, with its ghost. -/
def S.atom (env : List Atom) : S → Atom
  | .slc x | .any x => x.den env
  | s => (s.den env [], .leaf)
def S.pureB : S → Bool
  | .int _ _ | .bool _ | .str _ | .slc _ | .any _ => true
  | .cst v => match v with
    | .nilFunc | .nilIface | .pointer none | .map none => true
    | _ => false
  | _ => false
def S.bnd (n : Nat) : S → Bool
  | .int _ x | .bool x | .str x | .slc x | .any x => x.bnd n
  | .eptr s i _ _ => s.bnd n && i.bnd n
  | _ => true
def TV.bnd (n : Nat) : TV → Bool
  | .s x => x.bnd n
  | .agg l => l.all (S.bnd n)
def SV.bnd (n : Nat) : SV → Bool
  | .one t => t.bnd n
  | .tup l => l.all (TV.bnd n)

/-! ### Kinds of leaves -/
inductive RK where
  | int (k : IntKind)
  | bool
  | str
  | slc
  | any
def RK.ok : RK → Value → Prop
  | .int k, v => ∃ n, v = .int k n
  | .bool, v => ∃ b, v = .bool b
  | .str, v => ∃ s, v = .string s
  | .slc, v => ∃ a n c, v = .slice a n c
  | .any, v => v.oneCell' = true
def RK.S : RK → X → S
  | .int k, x => .int k x
  | .bool, x => .bool x
  | .str, x => .str x
  | .slc, x => .slc x
  | .any, x => .any x
def KindsOk : List RK → List Atom → Prop
  | [], [] => True
  | k :: ks, a :: as => k.ok a.1 ∧ KindsOk ks as
  | _, _ => False

/-! ### Needs, the tree -/
inductive Nd where
  | tru (x : X)
  | kind (k : RK) (x : X)
  | row (x : X)
  | sz (x : X) (z : Nat)
def Nd.ok (env : List Atom) : Nd → Prop
  | .tru x => vb (x.den env).1 = true
  | .kind k x => k.ok (x.den env).1
  | .row x => ∃ z e, (x.den env).2 = .rows z e
  | .sz x z => ∃ e, (x.den env).2 = .rows z e
/-- A contract's outside: the function, the shapes of its arguments (none: one cell), of its result (is it a tuple?), the kinds of the result's leaves. -/
structure Sig where
  f : FuncId
  ash : List (Option Nat)
  tup : Bool
  rsh : List (Option Nat)
  res : List RK
/-- A contract's inside. -/
structure Con where
  pre : List Atom → Prop
  post : List Atom → List Atom → Prop

/-! ### The run -/
structure Blk where
  cells : List S
  ty : TypeId
structure St where
  n : Nat
  tmps : List SV
  blks : List Blk
  known : List (X × Bool)
inductive T where
  | ret (l : List S)
  | br (x : X) (t f : T)
  | need (d : Nd) (t : T)
  | call (i : Nat) (args : List S) (t : T)
  | loop (ks : List RK) (init : List S) (body : T)
  | again (lvl : Nat) (l : List S)
  | pop (n : Nat) (t : T)
  | fin (st : St)
  | bad (n : Nat)

def T.wp (cs : Nat → Sig × Con) (Post : List Atom → Prop) : T → List Atom → List (List Atom → Prop) → Prop
  | .ret l, env, _ => Post (l.map (S.atom env))
  | .br x t f, env, L => (vb (x.den env).1 = true → t.wp cs Post env L) ∧ (vb (x.den env).1 = false → f.wp cs Post env L)
  | .need d t, env, L => d.ok env ∧ t.wp cs Post env L
  | .call i args t, env, L => (cs i).2.pre (args.map (S.atom env)) ∧ ∀ outs, KindsOk (cs i).1.res outs → (cs i).2.post (args.map (S.atom env)) outs → t.wp cs Post (env ++ outs) L
  | .loop ks init body, env, L => ∃ (I : List Atom → Prop) (μ : List Atom → Nat), I (init.map (S.atom env)) ∧
      ∀ as, KindsOk ks as → I as → body.wp cs Post (env ++ as) (L ++ [fun bs => I bs ∧ μ bs < μ as])
  | .again j l, env, L => (L.getD j (fun _ => False)) (l.map (S.atom env))
  | .pop n t, env, L => t.wp cs Post env (L.take n)
  | .fin _, _, _ => False
  | .bad _, _, _ => False

def St.look (st : St) (x : X) : Option Bool := (st.known.find? (fun p => p.1.eq x)).map (·.2)
/-! ### Equality, told by a Bool -/
def S.eq : S → S → Bool
  | .junk, .junk | .undef, .undef => true
  | .int k x, .int k' y => k == k' && x.eq y
  | .bool x, .bool y | .str x, .str y | .slc x, .slc y | .any x, .any y => x.eq y
  | .ptr b o, .ptr b' o' => b == b' && o == o'
  | .eptr s i z o, .eptr s' i' z' o' => s.eq s' && i.eq i' && z == z' && o == o'
  | .fn f l, .fn f' l' => f == f' && l == l'
  | .cst .nilFunc, .cst .nilFunc => true
  | .cst .nilIface, .cst .nilIface => true
  | .cst (.pointer none), .cst (.pointer none) => true
  | .cst (.map none), .cst (.map none) => true
  | _, _ => false
def eqL {α : Type} (e : α → α → Bool) : List α → List α → Bool
  | [], [] => true
  | a :: l, b :: m => e a b && eqL e l m
  | _, _ => false
def TV.eq : TV → TV → Bool
  | .s a, .s b => a.eq b
  | .agg l, .agg m => eqL S.eq l m
  | _, _ => false
def SV.eq : SV → SV → Bool
  | .one a, .one b => a.eq b
  | .tup l, .tup m => eqL TV.eq l m
  | _, _ => false
def Blk.eq (a b : Blk) : Bool := eqL S.eq a.cells b.cells && a.ty == b.ty
def kEq (a b : X × Bool) : Bool := a.1.eq b.1 && a.2 == b.2
def St.eq (a b : St) : Bool := a.n == b.n && eqL SV.eq a.tmps b.tmps && eqL Blk.eq a.blks b.blks && eqL kEq a.known b.known
def RK.eq : RK → RK → Bool
  | .int k, .int k' => k == k'
  | .bool, .bool | .str, .str | .slc, .slc | .any, .any => true
  | _, _ => false
def Nd.eq : Nd → Nd → Bool
  | .tru x, .tru y => x.eq y
  | .kind k x, .kind k' y => k.eq k' && x.eq y
  | .row x, .row y => x.eq y
  | .sz x z, .sz y z' => x.eq y && z == z'
  | _, _ => false
def T.eq : T → T → Bool
  | .br x t f, .br x' t' f' => x.eq x' && t.eq t' && f.eq f'
  | .need d t, .need d' t' => d.eq d' && t.eq t'
  | .call i l t, .call i' l' t' => i == i' && eqL S.eq l l' && t.eq t'
  | .fin a, .fin b => a.eq b
  | _, _ => false
/-- What follows behind the ends. -/
def T.bind (k : St → T) : T → T
  | .br x t f => .br x (t.bind k) (f.bind k)
  | .need d t => .need d (t.bind k)
  | .call i l t => .call i l (t.bind k)
  | .fin st => k st
  | .loop ks l t => .loop ks l t
  | .ret l => .ret l
  | .again j l => .again j l
  | .pop n t => .pop n t
  | .bad n => .bad n
def cstV : Value → Option SV
  | .int k n => some (.one (.s (.int k (.int n))))
  | .bool b => some (.one (.s (.bool (.bool b))))
  | .string s => some (.one (.s (.str (.str s.data.toList))))
  | .slice none 0 0 => some (.one (.s (.slc (.nil 0))))
  | .nilFunc => some (.one (.s (.cst .nilFunc)))
  | .nilIface => some (.one (.s (.cst .nilIface)))
  | .pointer none => some (.one (.s (.cst (.pointer none))))
  | .map none => some (.one (.s (.cst (.map none))))
  | _ => none
def cstS (v : Value) : Option S := match cstV v with
  | some (.one (.s x)) => some x
  | _ => none
def St.ev (st : St) : Operand → Option SV
  | .tmp t => match st.tmps[t]? with
    | some (.one (.s .junk)) => none
    | x => x
  | .const v => cstV v
  | .func f => some (.one (.s (.fn f [])))
  | .global _ => none
def allSome {α : Type} : List (Option α) → Option (List α)
  | [] => some []
  | none :: _ => none
  | some a :: r => (allSome r).map (a :: ·)
def TV.cells : TV → List S
  | .s x => [x]
  | .agg l => l
def SV.cells : SV → List S
  | .one t => t.cells
  | .tup _ => []
def SV.one? : SV → Option S
  | .one (.s x) => some x
  | _ => none
def isAggB (P : Program) (t : TypeId) : Option Bool := match P.underlying t with
  | some (.struct _) | some (.array _ _) => some true
  | some _ => some false
  | none => none
def sizeO (P : Program) (t : TypeId) : Option Nat := (P.info? t).map (·.size)
def zeroO (P : Program) (t : TypeId) : Option (List S) := match (P.info? t).bind (·.zero) with
  | some v => allSome (v.cells.toList.map cstS)
  | none => none
/-- The kinds of a type's cells. -/
def leafKinds (P : Program) : Nat → TypeId → Option (List RK)
  | 0, _ => none
  | d + 1, t => match P.underlying t with
    | some (.int k) => some [.int k]
    | some .bool => some [.bool]
    | some .string => some [.str]
    | some (.slice _) => some [.slc]
    | some (.struct fs) => (allSome (fs.toList.map fun f => leafKinds P d f.type)).map List.flatten
    | some (.array n e) => (leafKinds P d e).map fun l => (List.replicate n l).flatten
    | _ => none
def okCell : S → Bool
  | .junk | .undef => false
  | .cst v => v.oneCell'
  | _ => true
def okCells (l : List S) : Bool := l.all okCell
/-- Its pointers are to the first n blocks. -/
def S.pb (n : Nat) : S → Bool
  | .ptr b _ => b < n
  | .fn _ l => l.all (· < n)
  | _ => true
def TV.pb (n : Nat) : TV → Bool
  | .s x => x.pb n
  | .agg l => l.all (S.pb n)
def SV.pb (n : Nat) : SV → Bool
  | .one t => t.pb n
  | .tup l => l.all (TV.pb n)
def St.pbnd (st : St) : Bool := st.tmps.all (SV.pb st.blks.length) && st.blks.all (fun b => b.cells.all (S.pb st.blks.length))
/-- Part of an aggregate. -/
def partS (P : Program) (t : TypeId) (l : List S) (off : Nat) : Option SV :=
  match isAggB P t, sizeO P t with
  | some true, some n => if (l.drop off).length < n then none else some (.one (.agg ((l.drop off).take n)))
  | some false, _ => match l[off]? with
    | some x => some (.one (.s x))
    | none => none
  | _, _ => none
def fillS (place : Nat → Option (Nat × Nat)) (cells : List S) : List (Nat × List S) → Option (List S)
  | [] => some cells
  | (i, v) :: rest => match place i with
    | none => none
    | some (off, size) => if v.length != size || cells.length < off + v.length then none else fillS place (cells.take off ++ v ++ cells.drop (off + v.length)) rest
end Go.Proofs.YtmhfooalcohpgaaV
