/- Vcg, part 2: the run of an operation, a region, a piece of code, on symbolic values. -/
import Derived.Test.YtmhfooalcohpgaaVCore
namespace Go.Proofs.YtmhfooalcohpgaaV
open Go

def St.put (st : St) (d : Option Tmp) (v : SV) : St := match d with
  | some i => { st with tmps := st.tmps.set i v }
  | none => st
def undefV : SV := .one (.s .undef)
def junkV : SV := .one (.s .junk)
def St.tells (st : St) : X → Option Bool
  | .bool b => some b
  | .not x => (st.tells x).map (!·)
  | x => st.look x
def St.knows (st : St) (x : X) (b : Bool) : St := { st with known := (x, b) :: st.known }
/-- A test: decided, or both ways. -/
def seBr (st : St) : X → (St → T) → (St → T) → T
  | .not y, kt, kf => seBr st y kf kt
  | x, kt, kf => match st.tells x with
    | some true => kt st
    | some false => kf st
    | none => .br x (kt (st.knows x true)) (kf (st.knows x false))
def needs (st : St) : List Nd → (St → T) → T
  | [], k => k st
  | .tru x :: r, k => match st.tells x with
    | some true => needs st r k
    | _ => .need (.tru x) (needs (st.knows x true) r k)
  | d :: r, k => .need d (needs st r k)
abbrev R (α : Type) := Option (List Nd × α)

def isCmp : BinOp → Bool
  | .eql | .neq | .lss | .leq | .gtr | .geq => true
  | _ => false
def isAr : BinOp → Bool
  | .add | .sub | .mul | .and | .or | .xor | .andNot => true
  | _ => false
def cmpX (op : BinOp) (x y : X) : X := match x, y with
  | .int a, .int b => .bool (cmpD op a b)
  | _, _ => .cmp op x y
def arX (op : BinOp) (k : IntKind) (x y : X) : X := match x, y with
  | .int a, .int b => .int (arD op k a b)
  | _, _ => .ar op k x y
def binS (P : Program) (op : BinOp) (t : TypeId) : S → S → R SV
  | .int k x, .int k' y =>
    if op == .shl || op == .shr then some ([.tru (cmpX .geq y (.int 0))], .one (.s (.int k (.ar op k x y)))) else
    if k != k' then none else
    if isAr op then some ([], .one (.s (.int k (arX op k x y)))) else
    if op == .quo || op == .rem then some ([.tru (cmpX .neq y (.int 0))], .one (.s (.int k (.ar op k x y)))) else
    if isCmp op then some ([], .one (.s (.bool (cmpX op x y)))) else none
  | .bool x, .bool y => match P.underlying t with
    | some .bool => if op == .eql then some ([], .one (.s (.bool (.beq x y)))) else if op == .neq then some ([], .one (.s (.bool (.not (.beq x y))))) else none
    | _ => none
  | .str x, .str y => match op with
    | .eql => some ([], .one (.s (.bool (.seq x y))))
    | .neq => some ([], .one (.s (.bool (.not (.seq x y)))))
    | .lss => some ([], .one (.s (.bool (.slt x y))))
    | .geq => some ([], .one (.s (.bool (.not (.slt x y)))))
    | .add => some ([.tru (.cmp .leq (.size (.cat x y)) (.int 9223372036854775807))], .one (.s (.str (.cat x y))))
    | _ => none
  | _, _ => none
/-- '==' of two cells of a type. -/
def eqCell (P : Program) (t : TypeId) : S → S → Option X
  | .int k x, .int k' y => match P.underlying t with
    | some (.int _) => if k == k' then some (cmpX .eql x y) else none
    | _ => none
  | .bool x, .bool y => match P.underlying t with
    | some .bool => some (.beq x y)
    | _ => none
  | .str x, .str y => match P.underlying t with
    | some .string => some (.seq x y)
    | _ => none
  | _, _ => none
def andX : X → X → X
  | x, .bool true => x
  | x, y => .ite x y (.bool false)
/-- '==' of two structs, field by field. -/
def eqFs (P : Program) (l m : List S) : List Field → Option X
  | [] => some (.bool true)
  | f :: fs => match f.name == "_", isAggB P f.type, l[f.offset]?, m[f.offset]?, eqFs P l m fs with
    | false, some false, some a, some b, some r => (eqCell P f.type a b).map fun x => andX x r
    | _, _, _, _, _ => none
def eqAgg (P : Program) (t : TypeId) (l m : List S) : Option X := match P.underlying t with
  | some (.struct fs) => if P.stoodInHeld t == false && P.eqGuardType P.depth t == false then eqFs P l m fs.toList else none
  | _ => none
def mnmx (mx : Bool) : S → List SV → Option S
  | s, [] => some s
  | .int k x, .one (.s (.int _ y)) :: r => mnmx mx (.int k (if mx then .mx x y else .mn x y)) r
  | _, _ => none
def capsOf : List SV → Option (List Nat)
  | [] => some []
  | .one (.s (.ptr b 0)) :: r => (capsOf r).map (b :: ·)
  | _ => none
def partOf (i : Nat) : SV → Option (Nat × List S)
  | .one t => if okCells t.cells then some (i, t.cells) else none
  | .tup _ => none
/-- The index lies in the row. -/
def inRow (s i : X) : List Nd := [.kind .slc s, .row s, .tru (cmpX .leq (.int 0) i), .tru (.cmp .lss i (.len s))]
/-- An operation that yields a value whatever the world, and leaves it. -/
def seVal (P : Program) (st : St) : Op → R SV
  | .move x | .assign x => (st.ev x).map fun v => ([], v)
  | .pick c a b => match st.ev c with
    | some (.one (.s (.bool x))) => match st.tells x with
      | some true => (st.ev a).map fun v => ([], v)
      | some false => (st.ev b).map fun v => ([], v)
      | none => match st.ev a, st.ev b with
        | some (.one (.s (.bool y))), some (.one (.s (.bool z))) => some ([], .one (.s (.bool (.ite x y z))))
        | _, _ => none
    | _ => none
  | .binOp op t x y _ => match st.ev x, st.ev y with
    | some (.one (.s a)), some (.one (.s b)) => binS P op t a b
    | some (.one (.agg l)), some (.one (.agg m)) => match op, eqAgg P t l m with
      | .eql, some e => some ([], .one (.s (.bool e)))
      | .neq, some e => some ([], .one (.s (.bool (.not e))))
      | _, _ => none
    | _, _ => none
  | .unOp op _ x => match op, st.ev x with
    | .not, some (.one (.s (.bool x))) => some ([], .one (.s (.bool (.not x))))
    | .neg, some (.one (.s (.int k x))) => some ([], .one (.s (.int k (.neg k x))))
    | _, _ => none
  | .convert s d x => match P.underlying s, P.underlying d, st.ev x with
    | some _, some (.int k), some (.one (.s (.int _ x))) => some ([], .one (.s (.int k (.wrap k x))))
    | _, _, _ => none
  | .fieldAddr t x f => match P.underlying t with
    | some (.struct fs) => match fs[f]? with
      | some fd => match sizeO P fd.type with
        | some (_ + 1) => match st.ev x with
          | some (.one (.s (.ptr b o))) => some ([], .one (.s (.ptr b (o + fd.offset))))
          | some (.one (.s (.eptr s i z o))) => some (inRow s i, .one (.s (.eptr s i z (o + fd.offset))))
          | _ => none
        | _ => none
      | none => none
    | _ => none
  | .field t x f => match P.underlying t with
    | some (.struct fs) => match fs[f]?, st.ev x with
      | some fd, some (.one (.agg l)) => (partS P fd.type l fd.offset).map fun v => ([], v)
      | _, _ => none
    | _ => none
  | .extract t j => match st.ev t with
    | some (.tup l) => (l[j]?).map fun v => ([], .one v)
    | _ => none
  | .nilCheck x => match st.ev x with
    | some (.one (.s (.ptr b o))) => some ([], .one (.s (.ptr b o)))
    | _ => none
  | .indexAddr t x ix => match P.underlying t with
    | some (.slice e) => match st.ev x, st.ev ix, sizeO P e with
      | some (.one (.s (.slc s))), some (.one (.s (.int _ i))), some z => some (inRow s i, .one (.s (.eptr s i z 0)))
      | _, _, _ => none
    | some (.array n e) => match st.ev x, st.ev ix, sizeO P e with
      | some (.one (.s (.ptr b o))), some (.one (.s (.int _ (.int i)))), some z => if 0 ≤ i ∧ i < n then some ([], .one (.s (.ptr b (o + i.toNat * z)))) else none
      | _, _, _ => none
    | _ => none
  | .index t x ix => match P.underlying t with
    | some (.array n e) => match st.ev x, st.ev ix, sizeO P e with
      | some (.one (.agg l)), some (.one (.s (.int _ (.int i)))), some z => if 0 ≤ i ∧ i < n then (partS P e l (i.toNat * z)).map fun v => ([], v) else none
      | _, _, _ => none
    | some .string => match st.ev x, st.ev ix with
      | some (.one (.s (.str s))), some (.one (.s (.int _ i))) => some ([.tru (cmpX .leq (.int 0) i), .tru (.cmp .lss i (.size s))], .one (.s (.int .u8 (.byte s i))))
      | _, _ => none
    | _ => none
  | .build t parts => match zeroO P t, allSome (parts.toList.map fun p => (st.ev p.2).bind (partOf p.1)) with
    | some z, some ps => match P.underlying t with
      | some (.struct fs) => match allSome (fs.toList.map fun fd => (sizeO P fd.type).map fun n => (fd.offset, n)) with
        | some pl => (fillS (fun i => pl[i]?) z ps).map fun l => ([], .one (.agg l))
        | none => none
      | some (.array _ e) => match sizeO P e with
        | some n => (fillS (fun i => some (i * n, n)) z ps).map fun l => ([], .one (.agg l))
        | none => none
      | _ => none
    | _, _ => none
  | .makeFunc (.func f) first captured => if first.size == 0 then ((allSome (captured.toList.map st.ev)).bind capsOf).map fun l => ([], .one (.s (.fn f l))) else none
  | .call c => match c.callee with
    | .builtin .len => match c.argTypes[0]?, c.args.toList with
      | some t, [x] => match P.underlying t, st.ev x with
        | some (.slice _), some (.one (.s (.slc s))) => some ([.kind .slc s], .one (.s (.int .i64 (.len s))))
        | some .string, some (.one (.s (.str s))) => some ([], .one (.s (.int .i64 (.size s))))
        | some (.array n _), some _ => some ([], .one (.s (.int .i64 (.int n))))
        | _, _ => none
      | _, _ => none
    | .builtin .min => match allSome (c.args.toList.map st.ev) with
      | some (.one (.s a) :: r) => (mnmx false a r).map fun s => ([], .one (.s s))
      | _ => none
    | .builtin .max => match allSome (c.args.toList.map st.ev) with
      | some (.one (.s a) :: r) => (mnmx true a r).map fun s => ([], .one (.s s))
      | _ => none
    | _ => none
  | _ => none
/-- Where a load reads: a block of our own, or a row that came in. -/
inductive Src where
  | blk (b : Nat)
  | row (s i : X)
def cellsAt (s i : X) (o : Nat) : List RK → List (Nd × S)
  | [] => []
  | k :: r => (.kind k (.cell s i o), k.S (.cell s i o)) :: cellsAt s i (o + 1) r
def seLoad (P : Program) (st : St) (t : TypeId) (x : Operand) : Option (List Nd × SV × Src) := match st.ev x with
  | some (.one (.s (.ptr b o))) => match st.blks[b]? with
    | some bl => match isAggB P t, sizeO P t with
      | some true, some n => if n ≤ (bl.cells.drop o).length && okCells ((bl.cells.drop o).take n) then some ([], .one (.agg ((bl.cells.drop o).take n)), .blk b) else none
      | some false, _ => match bl.cells[o]? with
        | some .junk => none
        | some c => some ([], .one (.s c), .blk b)
        | none => none
      | _, _ => none
    | none => none
  | some (.one (.s (.eptr s i z o))) => match leafKinds P 20 t with
    | some ks => if ks.length + o ≤ z && sizeO P t == some ks.length then
        let l := cellsAt s i o ks
        match isAggB P t with
        | some true => some (inRow s i ++ .sz s z :: l.map (·.1), .one (.agg (l.map (·.2))), .row s i)
        | some false => match l with
          | [(d, c)] => some (inRow s i ++ [.sz s z, d], .one (.s c), .row s i)
          | _ => none
        | none => none
      else none
    | none => none
  | _ => none
/-- How a call of what a variable holds is run: in the caller's own state. -/
abbrev Hnd := St → FuncId → List Nat → List SV → (St → SV → T) → T
structure Sg where
  l : List Sig
  H : Hnd
def noH : Hnd := fun _ g _ _ _ => .bad (2000 + g)
def findSig (f : FuncId) : List Sig → Nat → Option (Nat × Sig)
  | [], _ => none
  | s :: r, i => if s.f == f then some (i, s) else findSig f r (i + 1)
/-- Arguments, as leaves, if they have the shapes. -/
def flatArgs : List (Option Nat) → List SV → Option (List S)
  | [], [] => some []
  | none :: ss, .one (.s x) :: vs => (flatArgs ss vs).map (x :: ·)
  | some n :: ss, .one (.agg l) :: vs => if l.length == n then (flatArgs ss vs).map (l ++ ·) else none
  | _, _ => none
/-- Leaves as values of the shapes. -/
def shapeS : List (Option Nat) → List S → List TV
  | [], _ => []
  | none :: ss, x :: l => .s x :: shapeS ss l
  | none :: _, [] => []
  | some n :: ss, l => .agg (l.take n) :: shapeS ss (l.drop n)
def atomsFrom : Nat → List RK → List S
  | _, [] => []
  | n, k :: ks => k.S (.at n) :: atomsFrom (n + 1) ks
def resSV (sg : Sig) (l : List S) : Option SV := match sg.tup, shapeS sg.rsh l with
  | true, vs => some (.tup vs)
  | false, [v] => some (.one v)
  | false, _ => none
def St.bnd (st : St) : Bool := st.tmps.all (SV.bnd st.n) && st.blks.all (fun b => b.cells.all (S.bnd st.n)) && st.known.all (fun p => p.1.bnd st.n)
/-- What writes, or may: a store, a call of what a variable holds. -/
def isStore : Op → Bool
  | .store .. => true
  | .call c => (match c.callee with
    | .value (.tmp _) => true
    | _ => false)
  | _ => false
/-- An operation, whatever it is; what follows behind it. -/
def seOp (P : Program) (sigs : Sg) (st : St) (o : Oper) (k : St → T) : T :=
  match seVal P st o.op with
  | some (ds, v) => needs st ds (fun st => k (st.put o.dst v))
  | none => match o.op with
    | .load t x => match seLoad P st t x with
      | some (ds, v, _) => needs st ds (fun st => k (st.put o.dst v))
      | none => .bad 1
    | .alloc t => match zeroO P t with
      | some z => if st.pbnd && z.all (S.pb st.blks.length) then k (St.put { st with blks := st.blks ++ [⟨z, t⟩] } o.dst (.one (.s (.ptr st.blks.length 0)))) else .bad 2
      | none => .bad 2
    | .box t x => match st.ev x with
      | some (.one v) => if okCells v.cells && st.pbnd && v.cells.all (S.pb st.blks.length) then k (St.put { st with blks := st.blks ++ [⟨v.cells, t⟩] } o.dst (.one (.s (.ptr st.blks.length 0)))) else .bad 3
      | _ => .bad 3
    | .store t a x => match st.ev a, st.ev x with
      | some (.one (.s (.ptr b off))), some (.one v) => match st.blks[b]? with
        | some bl => if sizeO P t == some v.cells.length && off + v.cells.length ≤ bl.cells.length && okCells v.cells && o.dst.isNone then
            k { st with blks := st.blks.set b ⟨bl.cells.take off ++ v.cells ++ bl.cells.drop (off + v.cells.length), bl.ty⟩ } else .bad 4
        | none => .bad 4
      | _, _ => .bad 4
    | .call c => match c.callee with
      | .value f => match st.ev f, allSome (c.args.toList.map st.ev) with
        | some (.one (.s (.fn g caps))), some vs => match caps, findSig g sigs.l 0 with
          | [], some (i, sg) => match flatArgs sg.ash vs, resSV sg (atomsFrom st.n sg.res) with
            | some l, some v => if l.all S.pureB && st.bnd then .call i l (k (St.put { st with n := st.n + sg.res.length } o.dst v)) else .bad 5
            | _, _ => .bad (1000 + g)
          | _, _ => match f with
            | .tmp _ => sigs.H st g caps vs (fun st v => k (st.put o.dst v))
            | _ => .bad (2000 + g)
        | _, _ => .bad 6
      | _ => .bad 7
    | _ => .bad 8
/-- The guard ahead of it. -/
def seGuard (ops : Array Oper) (st : St) (o : Oper) (perform skip : St → T) : T :=
  match o.guard with
  | none => perform st
  | some (j, want) => match (ops[j]?).bind (·.dst) with
    | none => .bad 9
    | some d => match st.tmps[d]? with
      | some (.one (.s (.bool x))) => if want then seBr st x perform skip else seBr st x skip perform
      | some (.one (.s .undef)) => skip st
      | _ => .bad 9
def seSeq (P : Program) (sigs : Sg) (ops : Array Oper) : List Oper → St → (St → T) → T
  | [], st, k => k st
  | o :: r, st, k => seGuard ops st o (fun st => seOp P sigs st o (fun st => seSeq P sigs ops r st k)) (fun st => seSeq P sigs ops r (st.put o.dst undefV) k)
/-- The order of a region that draws it: number and mode (0: a value; 1: a load; 2: whatever else, the one that may come up); 'fork': several may come up: whichever does. -/
inductive Plan where
  | nil
  | step (i m : Nat) (r : Plan)
  | fork (p q : Plan)
/-- A region that draws its order, by its plan. 'bs': how many blocks there were ahead of it; 'cl': nothing has been stored; 'n0': how many atoms. -/
def seDraw (P : Program) (sigs : Sg) (ops : Array Oper) (bs n0 : Nat) : Plan → Bool → St → (St → T) → T
  | .nil, _, st, k => k st
  | .fork p q, cl, st, k => if (seDraw P sigs ops bs n0 p cl st .fin).eq (seDraw P sigs ops bs n0 q cl st .fin) then seDraw P sigs ops bs n0 p cl st k else .bad 27
  | .step i m r, cl, st, k => match ops[i]? with
    | none => .bad 20
    | some o => match m with
      | 0 => seGuard ops st o
          (fun st => match seVal P st o.op with
            | some (ds, v) => needs st ds (fun st => seDraw P sigs ops bs n0 r cl (st.put o.dst v) k)
            | none => .bad 21)
          (fun st => seDraw P sigs ops bs n0 r cl (st.put o.dst undefV) k)
      | 1 => if cl then seGuard ops st o
          (fun st => match o.op with
            | .load t x => match seLoad P st t x with
              | some (ds, v, .blk b) => if b < bs then needs st ds (fun st => seDraw P sigs ops bs n0 r cl (st.put o.dst v) k) else .bad 22
              | some (ds, v, .row s _) => if s.bnd n0 then needs st ds (fun st => seDraw P sigs ops bs n0 r cl (st.put o.dst v) k) else .bad 23
              | none => .bad 24
            | _ => .bad 25)
          (fun st => seDraw P sigs ops bs n0 r cl (st.put o.dst undefV) k) else .bad 29
      | _ => seGuard ops st o
          (fun st => seOp P sigs st o (fun st => seDraw P sigs ops bs n0 r (cl && !isStore o.op) st k))
          (fun st => seDraw P sigs ops bs n0 r cl (st.put o.dst undefV) k)
/-- How a piece of code is left. -/
inductive Ex where
  | normal
  | exit (id : Nat)
  | ret
/-- A loop: its slots and cells that go on round by round; or so many rounds at most, each walked. -/
inductive LA where
  | inv (slots : List Nat) (cells : List (Nat × Nat))
  | rounds (n : Nat)
/-- So many rounds at most. -/
def seRounds (body : St → (Ex → St → T) → T) : Nat → St → (Ex → St → T) → T
  | 0, _, _ => .bad 38
  | n + 1, st, k => body st (fun e st' => match e with
    | .normal => seRounds body n st' k
    | e => k e st')
/-- What is told of a function's regions and loops: each drawing region's plan, each loop's slots and cells that go on round by round. -/
structure Ann where
  plans : List (Nat × Plan)
  loops : List LA
def planOf (id : Nat) : List (Nat × Plan) → Option Plan
  | [] => none
  | (j, p) :: r => if j == id then some p else planOf id r
/-- The slots that code writes. -/
def dstsOf : Code → List Nat
  | .region _ ops _ => ops.toList.filterMap (·.dst)
  | .seq a b => dstsOf a ++ dstsOf b
  | .cond _ a b => dstsOf a ++ dstsOf b
  | .block _ c | .loop c | .scope c => dstsOf c
  | _ => []
def loopsIn : Code → Nat
  | .seq a b => loopsIn a + loopsIn b
  | .cond _ a b => loopsIn a + loopsIn b
  | .block _ c | .scope c => loopsIn c
  | .loop c => loopsIn c + 1
  | _ => 0
def kindS : S → Option RK
  | .int k _ => some (.int k)
  | .bool _ => some .bool
  | .str _ => some .str
  | .slc _ => some .slc
  | .any _ => some .any
  | _ => none
/-- The leaves of a loop's head: slots, then cells. -/
def headLeaves (st : St) (a : List Nat × List (Nat × Nat)) : Option (List S) :=
  allSome (a.1.map (fun i => (st.tmps[i]?).bind SV.one?) ++ a.2.map (fun p => (st.blks[p.1]?).bind (fun b => b.cells[p.2]?)))
def setCells (bl : List Blk) : List (Nat × Nat) → List S → List Blk
  | (b, o) :: ps, s :: ss => setCells (match bl[b]? with
    | some x => bl.set b ⟨x.cells.set o s, x.ty⟩
    | none => bl) ps ss
  | _, _ => bl
def setSlots (tm : List SV) : List Nat → List S → List SV
  | i :: is, s :: ss => setSlots (tm.set i (.one (.s s))) is ss
  | _, _ => tm
def junkSlots (tm : List SV) : List Nat → List SV
  | [] => tm
  | i :: is => junkSlots (tm.set i junkV) is
/-- A leaf at a loop's head (h) and the leaf that stands there now (s): the same, or a letter of the head's, which is told by 'ls'. -/
def coverS (n0 : Nat) (ks : List RK) (ls : List S) (h s : S) : Bool :=
  (h.bnd n0 && h.eq s) || (match h with
    | .int _ (.at i) | .bool (.at i) | .str (.at i) | .slc (.at i) | .any (.at i) => n0 ≤ i && (match ks[i - n0]?, ls[i - n0]? with
      | some k, some x => h.eq (k.S (.at i)) && x.eq s
      | _, _ => false)
    | _ => false)
def coverTV (n0 : Nat) (ks : List RK) (ls : List S) : TV → TV → Bool
  | .s a, .s b => coverS n0 ks ls a b
  | .agg l, .agg m => eqL (coverS n0 ks ls) l m
  | _, _ => false
def coverSV (n0 : Nat) (ks : List RK) (ls : List S) : SV → SV → Bool
  | .one (.s .junk), _ => true
  | .one a, .one b => coverTV n0 ks ls a b
  | _, _ => false
def coverBlks (n0 : Nat) (ks : List RK) (ls : List S) : List Blk → List Blk → Bool
  | [], _ => true
  | a :: l, b :: m => a.ty == b.ty && eqL (coverS n0 ks ls) a.cells b.cells && coverBlks n0 ks ls l m
  | _, _ => false
def kindsFit : List RK → List S → Bool
  | [], [] => true
  | k :: ks, s :: ss => (match kindS s with
    | some k' => k.eq k'
    | none => false) && kindsFit ks ss
  | _, _ => false
/-- The head's state, its letters as 'ls' tells, is what stands there now. -/
def covers (n0 : Nat) (ks : List RK) (ls : List S) (hd st : St) : Bool :=
  hd.n == n0 + ks.length && kindsFit ks ls && ls.all S.pureB && hd.pbnd && hd.known.all (fun p => p.1.bnd n0) && eqL (coverSV n0 ks ls) hd.tmps st.tmps && coverBlks n0 ks ls hd.blks st.blks
/-- The state at a loop's head: what goes on has letters of its own. -/
def headSt (st : St) (c : Code) (a : List Nat × List (Nat × Nat)) (ks : List RK) : St :=
  let ls := atomsFrom st.n ks
  { n := st.n + ks.length, tmps := setSlots (junkSlots st.tmps (dstsOf c)) a.1 (ls.take a.1.length), blks := setCells st.blks a.2 (ls.drop a.1.length), known := st.known }
/-- Slices that must be seen to be some. -/
def slcAll : List S → List Nd
  | [] => []
  | .slc x :: l => .kind .slc x :: slcAll l
  | _ :: l => slcAll l
def needAll : List Nd → T → T
  | [], t => t
  | d :: r, t => .need d (needAll r t)
/-- A piece of code; 'lp': the number of its first loop; 'lv': how many loops stand around it. -/
def seCode (P : Program) (sigs : Sg) (an : Ann) : Code → Nat → Nat → St → (Ex → St → T) → T
  | .skip, _, _, st, k => k .normal st
  | .label _, _, _, st, k => k .normal st
  | .region id ops dr, _, _, st, k => if dr then match planOf id an.plans with
      | some p => seDraw P sigs ops st.blks.length st.n p true st (k .normal)
      | none => .bad 30
    else seSeq P sigs ops ops.toList st (k .normal)
  | .seq a b, lp, lv, st, k => seCode P sigs an a lp lv st (fun e st => match e with
    | .normal => seCode P sigs an b (lp + loopsIn a) lv st k
    | e => k e st)
  | .cond c a b, lp, lv, st, k => match st.ev c with
    | some (.one (.s (.bool x))) => seBr st x (fun st => seCode P sigs an a lp lv st k) (fun st => seCode P sigs an b (lp + loopsIn a) lv st k)
    | _ => .bad 31
  | .block id c, lp, lv, st, k => seCode P sigs an c lp lv st (fun e st => match e with
    | .exit j => if j == id then k .normal st else k (.exit j) st
    | e => k e st)
  | .scope c, lp, lv, st, k => seCode P sigs an c lp lv st k
  | .exit id, _, _, st, k => k (.exit id) st
  | .ret, _, _, st, k => k .ret st
  | .loop c, lp, lv, st, k => match an.loops[lp]? with
    | none => .bad 32
    | some (.rounds n) => seRounds (fun st k => seCode P sigs an c (lp + 1) lv st k) n st k
    | some (.inv sl ce) => match headLeaves st (sl, ce) with
      | none => .bad 33
      | some ls => match allSome (ls.map kindS) with
        | none => .bad 34
        | some ks => if covers st.n ks ls (headSt st c (sl, ce) ks) st then
            needAll (slcAll ls) <| .loop ks ls (seCode P sigs an c (lp + 1) (lv + 1) (headSt st c (sl, ce) ks) (fun e st' => match e with
              | .normal => match headLeaves st' (sl, ce) with
                | some bs => if covers st.n ks bs (headSt st c (sl, ce) ks) st' then needAll (slcAll bs) (.again lv bs) else .bad 35
                | none => .bad 35
              | e => .pop lv (k e st')))
          else .bad 36
  | _, _, _, _, _ => .bad 37
/-- The end of a call: its results, as leaves. -/
def resTV (P : Program) (st : St) : ResultVar → Option TV
  | .tmp t => match st.ev (.tmp t) with
    | some (.one v) => some v
    | _ => none
  | .cell a t => match seLoad P st t (.tmp a) with
    | some (_, .one v, .blk _) => some v
    | _ => none
def fits : List (Option Nat) → List TV → Bool
  | [], [] => true
  | none :: r, .s _ :: l => fits r l
  | some n :: r, .agg c :: l => c.length == n && fits r l
  | _, _ => false
def seRet (P : Program) (fn : Func) (sg : Sig) (st : St) : T :=
  match allSome (fn.results.toList.map (resTV P st)) with
  | some vs =>
    let ls := (vs.map TV.cells).flatten
    if fits sg.rsh vs && (sg.tup == (vs.length != 1)) && ls.all S.pureB && ls.length == sg.res.length && (ls.zip sg.res).all (fun p => match kindS p.1 with
        | some k => RK.eq p.2 k || (match p.2 with | .any => true | _ => false)
        | none => match p.2 with | .any => true | _ => false) then needAll (slcAll ls) (.ret ls) else .bad 40
  | none => .bad 41
def startSt (fn : Func) (sg : Sig) (pk : List RK) : St :=
  { n := pk.length, tmps := (shapeS sg.ash (atomsFrom 0 pk)).map SV.one ++ List.replicate (fn.ntmps - sg.ash.length) undefV, blks := [], known := [] }
/-- A call within a call: the callee's code in the caller's state; so much is told of each callee. -/
structure Inl where
  f : FuncId
  fn : Func
  c : Code
  an : Ann
def inlOf (f : FuncId) : List Inl → Option Inl
  | [] => none
  | x :: r => if x.f == f then some x else inlOf f r
def retSV (P : Program) (fn : Func) (st : St) : Option SV := match allSome (fn.results.toList.map (resTV P st)) with
  | some [v] => some (.one v)
  | some vs => some (.tup vs)
  | none => none
def inSt (fn : Func) (st : St) (caps : List Nat) (vs : List SV) : St :=
  { st with tmps := (vs ++ caps.map fun b => SV.one (.s (.ptr b 0))) ++ List.replicate (fn.ntmps - (vs.length + caps.length)) undefV }
def inH (P : Program) (inl : List Inl) (inner : Sg) : Hnd := fun st g caps vs k => match inlOf g inl with
  | none => .bad (2000 + g)
  | some x => if st.bnd && st.pbnd && vs.all (SV.bnd st.n) && vs.all (SV.pb st.blks.length) && caps.all (· < st.blks.length) && loopsIn x.c == 0 then
      seCode P inner x.an x.c 0 0 (inSt x.fn st caps vs) (fun e st' => match e with
        | .exit _ => .bad 43
        | _ => match retSV P x.fn st' with
          | some v => k { st' with tmps := st.tmps } v
          | none => .bad 61)
    else .bad 62
/-- A whole function. -/
def seFn (P : Program) (sigs : Sg) (an : Ann) (fn : Func) (sg : Sig) (pk : List RK) : T :=
  match fn.body with
  | none => .bad 42
  | some c => seCode P sigs an c 0 0 (startSt fn sg pk) (fun e st => match e with
    | .exit _ => .bad 43
    | _ => seRet P fn sg st)
end Go.Proofs.YtmhfooalcohpgaaV
