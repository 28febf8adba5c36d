/-
  The clean machine, part C: its operations, its code, its evaluator by fuel.
-/
import Derived.Test.YtmppoknfekdbbaaDoorCmXB
namespace Go.Proofs.YtmppoknfekdbbaaDoor.Cm

/-- An operand. -/
inductive CX where
  | t (n : Nat)
  | c (v : CVal)
  deriving Inhabited

def CX.ev (tmps : List CVal) : CX → CVal
  | .t n => tmps.getD n .undef
  | .c v => v

/-- The slot of what was left out. -/
def CVal.un : CVal := .tuple []

/-- The library's calls without a body that the clean machine knows. -/
inductive Ext where
  | atomicLoad (k : IntKind)
  | atomicStore (k : IntKind)
  | atomicAdd (k : IntKind)
  | atomicCas (k : IntKind)
  deriving DecidableEq, Inhabited

/-- Of which kind two values are that are held against each other. -/
inductive TK where
  | bool | ptr | slice | map | func | iface
  deriving DecidableEq, Inhabited

/-- Plain kinds, and the kinds of keys. -/
inductive PK where
  | bool | int | str
  deriving DecidableEq, Inhabited

inductive LK where
  | str | slice | map
  deriving DecidableEq, Inhabited

inductive KT where
  | one (k : PK)
  | flat (ks : List PK)
  deriving Inhabited

inductive COp where
  | move (x : CX)
  | pick (c a b : CX)
  | new (zero : List CVal)
  | box (x : CX)
  | build (zero : List CVal) (parts : List (Nat × Nat × CX))
  | buildSlice (zero : List CVal) (len : Nat) (parts : List (Nat × Nat × CX))
  | load (agg : Bool) (n : Nat) (x : CX)
  | store (n : Nat) (a x : CX)
  | nilCheck (x : CX)
  | bin (op : BinOp) (x y : CX)
  | eq (tk : TK) (neg : Bool) (x y : CX)
  | eqS (ks : List PK) (neg : Bool) (x y : CX)
  | un (op : UnOp) (x : CX)
  | conv (k : IntKind) (x : CX)
  | bytesOf (x : CX)
  | strOf (x : CX)
  | iface (t : TypeId) (x : CX)
  | func (f : FuncId) (first cap : List CX)
  | newMap
  | makeSlice (zero : List CVal) (bytes : Nat) (l c : CX)
  | sliceStr (x : CX) (lo hi : Option CX)
  | slice (sz : Nat) (x : CX) (lo hi mx : Option CX)
  | sliceArr (n sz : Nat) (x : CX) (lo hi mx : Option CX)
  | fieldAddr (off : Nat) (x : CX)
  | part (agg : Bool) (off n : Nat) (x : CX)
  | indexAddr (sz : Nat) (x i : CX)
  | indexAddrArr (len sz : Nat) (x i : CX)
  | indexArr (len : Nat) (agg : Bool) (sz : Nat) (x i : CX)
  | indexStr (x i : CX)
  | lookup (kt : KT) (zero : CVal) (ok : Bool) (m k : CX)
  | mapUpdate (kt : KT) (m k v : CX)
  | extract (x : CX) (i : Nat)
  | len (k : LK) (x : CX)
  | append (sz bytes : Nat) (s x : CX)
  | copy (sz : Nat) (d s : CX)
  | delete (kt : KT) (m k : CX)
  | maxmin (isMax : Bool) (x : CX) (xs : List CX)
  | call (f : CX) (args : List CX)
  | defer (f : CX) (args : List CX)
  | ext (e : Ext) (args : List CX)
  | rangeStr (x : CX)
  | nextStr (x : CX)
  /-- What the clean machine does not know: nothing is told of a run that comes here. -/
  | dead
  deriving Inhabited

inductive CRes where
  | val (v : CVal)
  | enter (f : FuncId) (args : List CVal)
  | defer (f : FuncId) (args : List CVal)
  deriving Inhabited

/-- '==' of two values of a kind: bools; or one of the two is nil. -/
def keq : TK → CVal → CVal → Option Bool
  | .bool, .bool a, .bool b => some (a == b)
  | .ptr, .nilPtr, .nilPtr => some true
  | .ptr, .nilPtr, .ptr .. | .ptr, .ptr .., .nilPtr => some false
  | .slice, .nilSlice, .nilSlice => some true
  | .slice, .nilSlice, .slice .. | .slice, .slice .., .nilSlice => some false
  | .map, .nilMap, .nilMap => some true
  | .map, .nilMap, .map _ | .map, .map _, .nilMap => some false
  | .func, .nilFunc, .nilFunc => some true
  | .func, .nilFunc, .func .. | .func, .func .., .nilFunc => some false
  | .iface, .nilIface, .nilIface => some true
  | .iface, .nilIface, .iface .. | .iface, .iface .., .nilIface => some false
  | _, _, _ => none

/-- '==' of two plain values: whole numbers, bools, strings. -/
def peq : PK → CVal → CVal → Option Bool
  | .bool, .bool a, .bool b => some (a == b)
  | .int, .int k a, .int k' b => if k = k' then some (a == b) else none
  | .str, .str a, .str b => some (a == b)
  | _, _, _ => none

def peqs : List PK → List CVal → List CVal → Option Bool
  | [], [], [] => some true
  | k :: ks, a :: as, b :: bs => match peq k a b with
    | some true => peqs ks as bs
    | r => r
  | _, _, _ => none

/-- '==' of two keys. -/
def keyeq : KT → CVal → CVal → Option Bool
  | .one k, a, b => peq k a b
  | .flat ks, .agg as, .agg bs => peqs ks as bs
  | _, _, _ => none

/-- Is it a key at all? -/
def keyok : KT → CVal → Bool
  | .one .bool, .bool _ | .one .int, .int .. | .one .str, .str _ => true
  | .flat ks, .agg as => as.length == ks.length && as.all CVal.one
  | _, _ => false

def findK (kt : KT) (k : CVal) : List (CVal × CVal) → Nat → Option (Option (Nat × CVal))
  | [], _ => some none
  | e :: es, i => match keyeq kt k e.1 with
    | some true => some (some (i, e.2))
    | some false => findK kt k es (i + 1)
    | none => none

def bytesLt : List UInt8 → List UInt8 → Bool
  | _, [] => false
  | [], _ :: _ => true
  | a :: x, b :: y => a < b || (a == b && bytesLt x y)

def intBin (op : BinOp) (k : IntKind) (x y : Int) : Option CVal :=
  match op with
  | .add => some (.int k (k.wrap (x + y)))
  | .sub => some (.int k (k.wrap (x - y)))
  | .mul => some (.int k (k.wrap (x * y)))
  | .quo => if y = 0 then none else some (.int k (k.wrap (x.tdiv y)))
  | .rem => if y = 0 then none else some (.int k (x.tmod y))
  | .and => some (.int k (k.wrap ((BitVec.ofInt k.bits x &&& BitVec.ofInt k.bits y).toNat)))
  | .or => some (.int k (k.wrap ((BitVec.ofInt k.bits x ||| BitVec.ofInt k.bits y).toNat)))
  | .xor => some (.int k (k.wrap ((BitVec.ofInt k.bits x ^^^ BitVec.ofInt k.bits y).toNat)))
  | .andNot => some (.int k (k.wrap ((BitVec.ofInt k.bits x &&& ~~~ BitVec.ofInt k.bits y).toNat)))
  | .eql => some (.bool (x == y))
  | .neq => some (.bool (x != y))
  | .lss => some (.bool (x < y))
  | .leq => some (.bool (x ≤ y))
  | .gtr => some (.bool (x > y))
  | .geq => some (.bool (x ≥ y))
  | _ => none

def strBin (op : BinOp) (x y : List UInt8) : Option CVal :=
  match op with
  | .add => if x.length + y.length ≤ 281474976710656 then some (.str (x ++ y)) else none
  | .eql => some (.bool (x == y))
  | .neq => some (.bool !(x == y))
  | .lss => some (.bool (bytesLt x y))
  | .leq => some (.bool (bytesLt x y || x == y))
  | .gtr => some (.bool !(bytesLt x y || x == y))
  | .geq => some (.bool !(bytesLt x y))
  | _ => none

def shiftBin (op : BinOp) (k : IntKind) (x y : Int) : Option CVal :=
  if y < 0 then none else
  match op with
  | .shl => some (.int k (k.wrap (x * 2 ^ (min y.toNat k.bits))))
  | .shr => some (.int k (x.fdiv (2 ^ (min y.toNat k.bits))))
  | _ => none

def binC (op : BinOp) : CVal → CVal → Option CVal
  | .int k a, .int k' b =>
    match op with
    | .shl | .shr => shiftBin op k a b
    | _ => if k = k' then intBin op k a b else none
  | .str a, .str b => strBin op a b
  | _, _ => none

def unC (op : UnOp) : CVal → Option CVal
  | .int k n => match op with
    | .neg => some (.int k (k.wrap (0 - n)))
    | .xor => some (.int k (k.wrap ((BitVec.ofInt k.bits (if k.signed then -1 else k.max) ^^^ BitVec.ofInt k.bits n).toNat)))
    | _ => none
  | .bool b => match op with
    | .not => some (.bool !b)
    | _ => none
  | _ => none

/-- A value's cells, if all of them are known. -/
def CVal.cellsOf : CVal → Option (List CVal)
  | .agg cs => if cs.all CVal.one then some cs else none
  | .undef | .tuple _ => none
  | v => some [v]

/-- The parts laid into the zero value's cells. -/
def fillC : List CVal → List (Nat × Nat × CVal) → Option (List CVal)
  | cs, [] => some cs
  | cs, (off, n, v) :: rest => match v.cellsOf with
    | some us => if us.length = n ∧ off + n ≤ cs.length then fillC (putCells cs off us) rest else none
    | none => none

def asNat : CVal → Option Nat
  | .int _ n => if 0 ≤ n then some n.toNat else none
  | _ => none

/-- The bounds of a slice expression: low, high, max. -/
def boundsC (len cap : Nat) (lo hi mx : Option CVal) : Option (Nat × Nat × Nat) :=
  match (match mx with | some v => asNat v | none => some cap) with
  | none => none
  | some m =>
    if m ≤ cap then
      match (match hi, mx with | some v, _ => asNat v | none, none => some len | none, some _ => none) with
      | none => none
      | some b =>
        if b ≤ m then
          match (match lo with | some v => asNat v | none => some 0) with
          | none => none
          | some a => if a ≤ b then some (a, b, m) else none
        else none
    else none

def byteC : CVal → Option UInt8
  | .int .u8 n => some (UInt8.ofNat n.toNat)
  | _ => none

def bytesC : List CVal → Option (List UInt8)
  | [] => some []
  | v :: vs => match byteC v, bytesC vs with
    | some b, some bs => some (b :: bs)
    | _, _ => none

def repC (n : Nat) (zero : List CVal) : List CVal := match n with
  | 0 => []
  | n + 1 => zero ++ repC n zero

/-- How many elements, and their cells (so many each). -/
def srcC (h : Heap) (sz : Nat) : CVal → Option (Nat × List CVal)
  | .nilSlice => some (0, [])
  | .str s => if sz = 1 then some (s.length, s.map fun b => .int .u8 b.toNat) else none
  | .slice j p m _ =>
    if m = 0 then some (0, []) else
    match h.get j with
    | some (.cells us _ _) => if ((us.drop p).take (m * sz)).length = m * sz then some (m, (us.drop p).take (m * sz)) else none
    | _ => none
  | _ => none

def appendC (h : Heap) (sz bytes : Nat) (s x : CVal) : Option (CVal × Heap) :=
  match srcC h sz x with
  | none => none
  | some (n, new) =>
    if new.all CVal.one then
    match s with
    | .nilSlice =>
      if n = 0 then some (.nilSlice, h)
      else if n * bytes ≤ 1099511627776 then some (.slice h.next 0 n n, h.new (.cells new true (some sz))) else none
    | .slice i o l c =>
      if n = 0 then some (.slice i o l c, h) else
      match h.get i with
      | some (.cells vs wr opn) =>
        if l + n ≤ c then
          if wr = true ∧ o + (l + n) * sz ≤ vs.length then some (.slice i o (l + n) c, h.set i (.cells (putCells vs (o + l * sz) new) true opn)) else none
        else if (l + n) * bytes ≤ 1099511627776 ∧ ((vs.drop o).take (l * sz)).length = l * sz then
          match opn with
          | none => some (.slice h.next 0 (l + n) (l + n), h.new (.cells ((vs.drop o).take (l * sz) ++ new) true (some sz)))
          | some sz' =>
            if wr = true ∧ sz' = sz ∧ o + c * sz ≤ vs.length then some (.slice h.next 0 (l + n) (l + n), (h.kill i).new (.cells ((vs.drop o).take (l * sz) ++ new) true (some sz)))
            else none
        else none
      | _ => none
    | _ => none
    else none

/-- A slice of a block that may be longer than known has no third index. -/
def exactC (h : Heap) (i : Nat) : Bool := match h.get i with
  | some (.cells _ _ none) => true
  | _ => false

def maxC (isMax : Bool) : CVal → CVal → Option CVal
  | .int k a, .int k' b => if k = k' then some (.int k (if isMax then (if b > a then b else a) else (if b < a then b else a))) else none
  | _, _ => none

def foldC (isMax : Bool) : CVal → List CVal → Option CVal
  | v, [] => some v
  | v, u :: us => match maxC isMax v u with
    | some w => foldC isMax w us
    | none => none

def extC (h : Heap) : Ext → List CVal → Option (CVal × Heap)
  | .atomicLoad k, [.ptr i o] => match h.get i with
    | some (.cells vs _ _) => match vs[o]? with
      | some (.int k' n) => if k = k' then some (.int k n, h) else none
      | _ => none
    | _ => none
  | .atomicStore k, [.ptr i o, .int k2 n] => match h.get i with
    | some (.cells vs true opn) => if k = k2 ∧ o < vs.length then some (.tuple [], h.set i (.cells (vs.set o (.int k n)) true opn)) else none
    | _ => none
  | .atomicAdd k, [.ptr i o, .int k2 d] => match h.get i with
    | some (.cells vs true opn) => match vs[o]? with
      | some (.int k' n) => if k = k' ∧ k = k2 then some (.int k (k.wrap (n + d)), h.set i (.cells (vs.set o (.int k (k.wrap (n + d)))) true opn)) else none
      | _ => none
    | _ => none
  | .atomicCas k, [.ptr i o, .int k2 a, .int k3 b] => match h.get i with
    | some (.cells vs true opn) => match vs[o]? with
      | some (.int k' n) => if k = k' ∧ k = k2 ∧ k = k3 then (if n = a then some (.bool true, h.set i (.cells (vs.set o (.int k b)) true opn)) else some (.bool false, h)) else none
      | _ => none
    | _ => none
  | _, _ => none

def partC (agg : Bool) (off n : Nat) (cs : List CVal) : Option CVal :=
  if agg then (if off + n ≤ cs.length then some (.agg ((cs.drop off).take n)) else none) else cs[off]?

/-- A map's entries. -/
def mapC (h : Heap) : CVal → Option (List (CVal × CVal))
  | .nilMap => some []
  | .map i => match h.get i with
    | some (.map es _) => some es
    | _ => none
  | _ => none

def cop (o : COp) (a : List CVal) (h : Heap) : Option (CRes × Heap) :=
  match o with
  | .dead => none
  | .move x => some (.val (x.ev a), h)
  | .pick c x y => match c.ev a with
    | .bool b => some (.val (if b then x.ev a else y.ev a), h)
    | _ => none
  | .new zero => some (.val (.ptr h.next 0), h.new (.cells zero true none))
  | .box x => match (x.ev a).cellsOf with
    | some cs => some (.val (.ptr h.next 0), h.new (.cells cs true none))
    | none => none
  | .build zero parts => match fillC zero (parts.map fun p => (p.1, p.2.1, p.2.2.ev a)) with
    | some cs => some (.val (.agg cs), h)
    | none => none
  | .buildSlice zero len parts => match fillC (repC len zero) (parts.map fun p => (p.1, p.2.1, p.2.2.ev a)) with
    | some cs => if cs.all CVal.one = true then some (.val (.slice h.next 0 len len), h.new (.cells cs true none)) else none
    | none => none
  | .load agg n x => match x.ev a with
    | .ptr i off => match h.get i with
      | some (.cells vs _ _) =>
        if agg then (if ((vs.drop off).take n).length = n then some (.val (.agg ((vs.drop off).take n)), h) else none)
        else match vs[off]? with
          | some v => some (.val v, h)
          | none => none
      | _ => none
    | _ => none
  | .store n p x => match p.ev a, (x.ev a).cellsOf with
    | .ptr i off, some us => match h.get i with
      | some (.cells vs true opn) => if us.length = n ∧ off + n ≤ vs.length then some (.val .un, h.set i (.cells (putCells vs off us) true opn)) else none
      | _ => none
    | _, _ => none
  | .nilCheck x => match x.ev a with
    | .undef | .nilPtr | .nilIface | .nilFunc | .iface .. => none
    | v => some (.val v, h)
  | .bin op x y => match binC op (x.ev a) (y.ev a) with
    | some v => some (.val v, h)
    | none => none
  | .eq tk neg x y => match keq tk (x.ev a) (y.ev a) with
    | some b => some (.val (.bool (if neg then !b else b)), h)
    | none => none
  | .eqS ks neg x y => match x.ev a, y.ev a with
    | .agg as, .agg bs => match peqs ks as bs with
      | some b => some (.val (.bool (if neg then !b else b)), h)
      | none => none
    | _, _ => none
  | .un op x => match unC op (x.ev a) with
    | some v => some (.val v, h)
    | none => none
  | .conv k x => match x.ev a with
    | .int _ n => some (.val (.int k (k.wrap n)), h)
    | _ => none
  | .bytesOf x => match x.ev a with
    | .str s => if s.length ≤ 1099511627776 then some (.val (.slice h.next 0 s.length s.length), h.new (.cells (s.map fun b => .int .u8 b.toNat) true (some 1))) else none
    | _ => none
  | .strOf x => match x.ev a with
    | .nilSlice => some (.val (.str []), h)
    | .slice i o l _ => if l = 0 then some (.val (.str []), h) else match h.get i with
      | some (.cells vs _ _) => match bytesC ((vs.drop o).take l) with
        | some bs => if bs.length = l then some (.val (.str bs), h) else none
        | none => none
      | _ => none
    | _ => none
  | .iface t x => some (.val (.iface t (x.ev a)), h)
  | .func f first cap => some (.val (.func f (first.map (·.ev a)) (cap.map (·.ev a))), h)
  | .newMap => some (.val (.map h.next), h.new (.map [] true))
  | .makeSlice zero bytes l c => match asNat (l.ev a), asNat (c.ev a) with
    | some ln, some cn => if ln ≤ cn ∧ cn * bytes ≤ 1099511627776 ∧ cn ≤ 1099511627776 then some (.val (.slice h.next 0 ln cn), h.new (.cells (repC cn zero) true none)) else none
    | _, _ => none
  | .sliceStr x lo hi => match x.ev a with
    | .str s => match boundsC s.length s.length (lo.map (·.ev a)) (hi.map (·.ev a)) none with
      | some (l, b, _) => some (.val (.str ((s.drop l).take (b - l))), h)
      | none => none
    | _ => none
  | .slice sz x lo hi mx => match x.ev a with
    | .nilSlice => match boundsC 0 0 (lo.map (·.ev a)) (hi.map (·.ev a)) (mx.map (·.ev a)) with
      | some _ => some (.val .nilSlice, h)
      | none => none
    | .slice i o len cap =>
      if mx.isSome = true ∧ exactC h i = false then none else
      match boundsC len cap (lo.map (·.ev a)) (hi.map (·.ev a)) (mx.map (·.ev a)) with
      | some (l, b, m) => some (.val (.slice i (o + l * sz) (b - l) (m - l)), h)
      | none => none
    | _ => none
  | .sliceArr n sz x lo hi mx => match x.ev a with
    | .ptr i o =>
      if exactC h i = false then none else
      match boundsC n n (lo.map (·.ev a)) (hi.map (·.ev a)) (mx.map (·.ev a)) with
      | some (l, b, m) => some (.val (.slice i (o + l * sz) (b - l) (m - l)), h)
      | none => none
    | _ => none
  | .fieldAddr off x => match x.ev a with
    | .ptr i o => some (.val (.ptr i (o + off)), h)
    | _ => none
  | .part agg off n x => match x.ev a with
    | .agg cs => match partC agg off n cs with
      | some v => some (.val v, h)
      | none => none
    | _ => none
  | .indexAddr sz x i => match x.ev a, asNat (i.ev a) with
    | .slice b o l _, some j => if j < l then some (.val (.ptr b (o + j * sz)), h) else none
    | _, _ => none
  | .indexAddrArr len sz x i => match x.ev a, asNat (i.ev a) with
    | .ptr b o, some j => if j < len then some (.val (.ptr b (o + j * sz)), h) else none
    | _, _ => none
  | .indexArr len agg sz x i => match x.ev a, asNat (i.ev a) with
    | .agg cs, some j => if j < len then (match partC agg (j * sz) sz cs with
      | some v => some (.val v, h)
      | none => none) else none
    | _, _ => none
  | .indexStr x i => match x.ev a, asNat (i.ev a) with
    | .str s, some j => match s[j]? with
      | some b => some (.val (.int .u8 b.toNat), h)
      | none => none
    | _, _ => none
  | .lookup kt zero ok m k =>
    if keyok kt (k.ev a) = false then none else
    match mapC h (m.ev a) with
    | none => none
    | some es => match findK kt (k.ev a) es 0 with
      | some (some (_, v)) => some (.val (if ok then .tuple [v, .bool true] else v), h)
      | some none => some (.val (if ok then .tuple [zero, .bool false] else zero), h)
      | none => none
  | .mapUpdate kt m k v =>
    if keyok kt (k.ev a) = false then none else
    match m.ev a with
    | .map i => match h.get i with
      | some (.map es true) => match findK kt (k.ev a) es 0 with
        | some (some (j, _)) => some (.val .un, h.set i (.map (es.set j (k.ev a, v.ev a)) true))
        | some none => some (.val .un, h.set i (.map (es ++ [(k.ev a, v.ev a)]) true))
        | none => none
      | _ => none
    | _ => none
  | .extract x i => match x.ev a with
    | .tuple vs => match vs[i]? with
      | some v => some (.val v, h)
      | none => none
    | _ => none
  | .len k x => match k, x.ev a with
    | .str, .str s => some (.val (.int .i64 s.length), h)
    | .slice, .nilSlice => some (.val (.int .i64 0), h)
    | .slice, .slice _ _ l _ => some (.val (.int .i64 l), h)
    | .map, .nilMap => some (.val (.int .i64 0), h)
    | .map, .map i => match h.get i with
      | some (.map es _) => some (.val (.int .i64 es.length), h)
      | _ => none
    | _, _ => none
  | .append sz bytes s x => match appendC h sz bytes (s.ev a) (x.ev a) with
    | some (v, h') => some (.val v, h')
    | none => none
  | .copy sz d s => match d.ev a with
    | .nilSlice => match s.ev a with
      | .nilSlice | .slice .. | .str _ => some (.val (.int .i64 0), h)
      | _ => none
    | .slice i o l _ => match srcC h sz (s.ev a) with
      | some (n, cs) =>
        if min n l = 0 then some (.val (.int .i64 0), h) else
        match h.get i with
        | some (.cells vs true opn) => if o + l * sz ≤ vs.length ∧ cs.all CVal.one = true then some (.val (.int .i64 (min n l : Nat)), h.set i (.cells (putCells vs o (cs.take (min n l * sz))) true opn)) else none
        | _ => none
      | none => none
    | _ => none
  | .delete kt m k =>
    if keyok kt (k.ev a) = false then none else
    match m.ev a with
    | .nilMap => some (.val .un, h)
    | .map i => match h.get i with
      | some (.map es true) => match findK kt (k.ev a) es 0 with
        | some (some (j, _)) => some (.val .un, h.set i (.map (es.eraseIdx j) true))
        | some none => some (.val .un, h)
        | none => none
      | _ => none
    | _ => none
  | .maxmin isMax x xs => match foldC isMax (x.ev a) (xs.map (·.ev a)) with
    | some v => some (.val v, h)
    | none => none
  | .call f args => match f.ev a with
    | .func g first cap => some (.enter g (first ++ args.map (·.ev a) ++ cap), h)
    | _ => none
  | .defer f args => match f.ev a with
    | .func g first cap => some (.defer g (first ++ args.map (·.ev a) ++ cap), h)
    | _ => none
  | .ext e args => match extC h e (args.map (·.ev a)) with
    | some (v, h') => some (.val v, h')
    | none => none
  | .rangeStr x => match x.ev a with
    | .str s => some (.val (.ptr h.next 0), h.new (.iter s 0))
    | _ => none
  | .nextStr x => match x.ev a with
    | .ptr i 0 => match h.get i with
      | some (.iter s pos) =>
        if pos < s.length then
          match Utf8.decode ⟨s.toArray⟩ pos with
          | (c, width) => some (.val (.tuple [.bool true, .int .i64 pos, .int .i32 c]), h.set i (.iter s (pos + width)))
        else some (.val (.tuple [.bool false]), h)
      | _ => none
    | _ => none

/-! ### What only makes a new object -/

/-- The value and the object, where the object is to get that id. -/
def allocC (op : COp) (a : List CVal) (id : Nat) : Option (CVal × CObj) := match op with
  | .new zero => some (.ptr id 0, .cells zero true none)
  | .box x => match (x.ev a).cellsOf with
    | some cs => some (.ptr id 0, .cells cs true none)
    | none => none
  | .buildSlice zero len parts => match fillC (repC len zero) (parts.map fun p => (p.1, p.2.1, p.2.2.ev a)) with
    | some cs => if cs.all CVal.one = true then some (.slice id 0 len len, .cells cs true none) else none
    | none => none
  | .newMap => some (.map id, .map [] true)
  | .makeSlice zero bytes l c => match asNat (l.ev a), asNat (c.ev a) with
    | some ln, some cn => if ln ≤ cn ∧ cn * bytes ≤ 1099511627776 ∧ cn ≤ 1099511627776 then some (.slice id 0 ln cn, .cells (repC cn zero) true none) else none
    | _, _ => none
  | _ => none

def isA : COp → Bool
  | .new _ | .box _ | .buildSlice .. | .newMap | .makeSlice .. => true
  | _ => false

theorem cop_alloc {op : COp} (ho : isA op = true) {a : List CVal} {h : Heap} {r : CRes} {h' : Heap} (e : cop op a h = some (r, h')) : ∃ v obj, allocC op a h.next = some (v, obj) ∧ r = .val v ∧ h' = h.new obj := by
  cases op <;> simp [isA] at ho
  case new zero => simp [cop] at e; obtain ⟨rfl, rfl⟩ := e; exact ⟨_, _, rfl, rfl, rfl⟩
  case newMap => simp [cop] at e; obtain ⟨rfl, rfl⟩ := e; exact ⟨_, _, rfl, rfl, rfl⟩
  case box x =>
    simp only [cop] at e
    split at e
    · next cs hcs => simp at e; obtain ⟨rfl, rfl⟩ := e; exact ⟨_, _, by simp only [allocC, hcs], rfl, rfl⟩
    · simp at e
  case buildSlice zero len parts =>
    simp only [cop] at e
    split at e
    · next cs hcs =>
      split at e
      · next h1 => simp at e; obtain ⟨rfl, rfl⟩ := e; exact ⟨_, _, by simp only [allocC, hcs]; rw [if_pos h1], rfl, rfl⟩
      · simp at e
    · simp at e
  case makeSlice zero bytes l c =>
    simp only [cop] at e
    split at e
    · next ln cn hl hc =>
      split at e
      · next h1 => simp at e; obtain ⟨rfl, rfl⟩ := e; exact ⟨_, _, by simp only [allocC, hl, hc]; rw [if_pos h1], rfl, rfl⟩
      · simp at e
    · simp at e

/-! ### Code -/

structure COper where
  dst : Option Nat
  op : COp
  guard : Option (Nat × Bool)
  deriving Inhabited

/-- An operation of a region whose order is drawn: it does nothing but read (it is looked at where the heap stands as before the items of 'ks'); it makes an object; or it does what it wants. -/
inductive DK where
  | quiet (ks : List Nat)
  | alloc (aid : Nat)
  | eff
  deriving Inhabited

structure DIt where
  ix : Nat
  c : COper
  kind : DK
  deriving Inhabited

inductive CCode where
  | skip
  | region (ops : List COper)
  | draw (its : List DIt) (n : Nat)
  | seq (a b : CCode)
  | cond (c : CX) (a b : CCode)
  | block (id : Nat) (body : CCode)
  | loop (body : CCode)
  | exit (id : Nat)
  | ret
  | wipe (slots : List Nat)
  | goto (l : Nat)
  /-- The body runs; by a goto to one of the labels it goes on with what stands there. -/
  | scope (body : CCode) (rests : List (Nat × CCode))
  deriving Inhabited

inductive CExit where
  | normal
  | exit (id : Nat)
  | ret
  | goto (l : Nat)
  deriving Inhabited

def findRest (l : Nat) : List (Nat × CCode) → Option CCode
  | [] => none
  | (l', r) :: rs => if l' == l then some r else findRest l rs

structure Fr where
  tmps : List CVal
  defers : List (FuncId × List CVal)
  deriving Inhabited

def Fr.put (a : Fr) (d : Option Nat) (v : CVal) : Fr := match d with
  | some d => { a with tmps := a.tmps.set d v }
  | none => a

abbrev CallFn := FuncId → List CVal → Heap → Option (CVal × Heap)

/-- Is the operation wanted? -/
def wantC (a : List CVal) : Option (Nat × Bool) → Option Bool
  | none => some true
  | some (t, want) => match a.getD t .undef with
    | .bool b => some (b == want)
    | .tuple [] => some false
    | _ => none

/-- Its value, and what it defers. -/
def evOp1 (call : CallFn) (o : COper) (a : List CVal) (h : Heap) : Option (CVal × List (FuncId × List CVal) × Heap) :=
  match wantC a o.guard with
  | none => none
  | some false => some (.un, [], h)
  | some true => match cop o.op a h with
    | none => none
    | some (.val v, h') => some (v, [], h')
    | some (.enter f args, h') => match call f args h' with
      | some (v, h'') => some (v, [], h'')
      | none => none
    | some (.defer f args, h') => some (.un, [(f, args)], h')

def Fr.done (a : Fr) (d : Option Nat) (v : CVal) (ds : List (FuncId × List CVal)) : Fr := { a with defers := ds ++ a.defers }.put d v

def evOper (call : CallFn) (o : COper) (a : Fr) (h : Heap) : Option (Fr × Heap) :=
  match evOp1 call o a.tmps h with
  | some (v, ds, h') => some (a.done o.dst v ds, h')
  | none => none

def evOps (call : CallFn) : List COper → Fr → Heap → Option (Fr × Heap)
  | [], a, h => some (a, h)
  | o :: os, a, h => match evOper call o a h with
    | some (a', h') => evOps call os a' h'
    | none => none

/-! A drawn region: the items in one order that its order allows; the objects' ids are set apart beforehand; what is only read must be the same wherever it may be read. -/

def noCall : CallFn := fun _ _ _ => none

def stepD (call : CallFn) (base : Nat) (it : DIt) (a : Fr) (h : Heap) : Option (Fr × Heap) :=
  match it.kind with
  | .quiet _ => match evOp1 noCall it.c a.tmps h with
    | some (v, [], _) => some (a.put it.c.dst v, h)
    | _ => none
  | .alloc aid => match it.c.guard, allocC it.c.op a.tmps (base + aid) with
    | none, some (v, obj) => some (a.put it.c.dst v, h.set (base + aid) obj)
    | _, _ => none
  | .eff => evOper call it.c a h

def evD (call : CallFn) (base : Nat) : List DIt → Fr → Heap → Option (Fr × Heap × List (Fr × Heap))
  | [], a, h => some (a, h, [(a, h)])
  | it :: its, a, h => match stepD call base it a h with
    | some (a₁, h₁) => match evD call base its a₁ h₁ with
      | some (a', h', hs) => some (a', h', (a, h) :: hs)
      | none => none
    | none => none

def checkQ (c : COper) (a out : List CVal) (hs : List (Fr × Heap)) (k : Nat) : Bool := match hs[k]? with
  | some g => match evOp1 noCall c a g.2 with
    | some (v, [], _) => match c.dst with
      | some d => CVal.beq v (out.getD d .undef)
      | none => true
    | _ => false
  | none => false

def checkD (out : List CVal) (hs : List (Fr × Heap)) : List DIt → List (Fr × Heap) → Bool
  | [], _ => true
  | it :: its, s :: ss => (match it.kind with
    | .quiet ks => ks.all (checkQ it.c s.1.tmps out hs)
    | _ => true) && checkD out hs its ss
  | _ :: _, [] => false

def Fr.wipe (a : Fr) : List Nat → Fr
  | [] => a
  | t :: ts => Fr.wipe { a with tmps := a.tmps.set t .undef } ts

def evCode (call : CallFn) : Nat → CCode → Fr → Heap → Option (CExit × Fr × Heap)
  | 0, _, _, _ => none
  | n + 1, c, a, h => match c with
    | .skip => some (.normal, a, h)
    | .region ops => match evOps call ops a h with
      | some (a', h') => some (.normal, a', h')
      | none => none
    | .draw its k => match evD call h.next its a { h with next := h.next + k } with
      | some (a', h', hs) => if checkD a'.tmps hs its hs then some (.normal, a', h') else none
      | none => none
    | .seq x y => match evCode call n x a h with
      | some (.normal, a', h') => evCode call n y a' h'
      | r => r
    | .cond c x y => match c.ev a.tmps with
      | .bool true => evCode call n x a h
      | .bool false => evCode call n y a h
      | _ => none
    | .block id b => match evCode call n b a h with
      | some (.exit id', a', h') => if id' = id then some (.normal, a', h') else some (.exit id', a', h')
      | r => r
    | .loop b => match evCode call n b a h with
      | some (.normal, a', h') => evCode call n (.loop b) a' h'
      | r => r
    | .exit id => some (.exit id, a, h)
    | .ret => some (.ret, a, h)
    | .wipe ts => some (.normal, a.wipe ts, h)
    | .goto l => some (.goto l, a, h)
    | .scope b rests => match evCode call n b a h with
      | some (.goto l, a', h') => match findRest l rests with
        | some r => evCode call n (.scope r rests) a' h'
        | none => none
      | r => r

inductive CRV where
  | tmp (t : Nat)
  | cell (a : Nat) (agg : Bool) (n : Nat)
  deriving Inhabited

structure CFunc where
  ntmps : Nat
  results : List CRV
  code : CCode
  deriving Inhabited

def resC (a : List CVal) (h : Heap) : CRV → Option CVal
  | .tmp t => some (a.getD t .undef)
  | .cell t agg n => match cop (.load agg n (.t t)) a h with
    | some (.val v, _) => some v
    | _ => none

def resultsC (a : List CVal) (h : Heap) : List CRV → Option (List CVal)
  | [] => some []
  | r :: rs => match resC a h r, resultsC a h rs with
    | some v, some vs => some (v :: vs)
    | _, _ => none

def runDefers (call : CallFn) : List (FuncId × List CVal) → Heap → Option Heap
  | [], h => some h
  | (f, args) :: ds, h => match call f args h with
    | some (_, h') => runDefers call ds h'
    | none => none

def frame₀ (fn : CFunc) (args : List CVal) : Fr := { tmps := args ++ List.replicate (fn.ntmps - args.length) .un, defers := [] }

def packC : List CVal → CVal
  | [v] => v
  | vs => .tuple vs

def evBody (call calld : CallFn) (n : Nat) (fn : CFunc) (args : List CVal) (h : Heap) : Option (CVal × Heap) :=
  match evCode call n fn.code (frame₀ fn args) h with
  | some (.exit _, _, _) => none
  | some (.goto _, _, _) => none
  | some (_, a, h') =>
    match runDefers calld a.defers h' with
    | some h'' => match resultsC a.tmps h'' fn.results with
      | some vs => some (packC vs, h'')
      | none => none
    | none => none
  | none => none

/-- A deferred call: the body itself defers nothing. -/
def evBodyD (call : CallFn) (n : Nat) (fn : CFunc) (args : List CVal) (h : Heap) : Option (CVal × Heap) :=
  match evCode call n fn.code (frame₀ fn args) h with
  | some (.exit _, _, _) => none
  | some (.goto _, _, _) => none
  | some (_, a, h') =>
    match a.defers with
    | [] => match resultsC a.tmps h' fn.results with
      | some vs => some (packC vs, h')
      | none => none
    | _ => none
  | none => none

/-- The functions: the text of each; or what is known of it otherwise. -/
structure Tab where
  code : FuncId → Option CFunc
  prim : FuncId → Option (List CVal → Heap → Option (CVal × Heap))

def callF (T : Tab) : Nat → CallFn
  | 0, _, _, _ => none
  | n + 1, f, args, h => match T.prim f with
    | some p => p args h
    | none => match T.code f with
      | some fn => evBody (callF T n) (fun g as h => match T.code g with | some gn => evBodyD (callF T n) n gn as h | none => none) n fn args h
      | none => none

end Go.Proofs.YtmppoknfekdbbaaDoor.Cm
