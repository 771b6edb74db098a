/- An abstract, deterministic machine for a part of the language: values over abstract blocks, a heap of blocks, operations, code; what a call comes to, as a predicate on what holds behind it. Conditions: none; definitions and small laws alone. -/
import GoSem.Dispatch
import Derived.Attr
set_option linter.all false
namespace Go.Ab

/-- A value: as the model's, over abstract blocks; 'un': nothing is known. A slice bears how many cells an element has. -/
inductive V where
  | bool (b : Bool)
  | int (k : IntKind) (n : Int)
  | flt (k : FloatKind) (bits : Nat)
  | str (s : ByteArray)
  | ptr (a : Option (Nat × Nat))
  | sl (a : Option (Nat × Nat)) (len cap esz : Nat)
  | map (r : Option Nat)
  | fn (g : Nat) (first caps : List V)
  | nilfn
  | ifc (t : Nat) (v : V)
  | nilifc
  | agg (l : List V)
  | tup (l : List V)
  | un
  deriving Inhabited

def V.cells : V → List V
  | .agg l => l
  | .un => []
  | v => [v]

inductive Obj where
  | cells (l : List V) (wr : Bool)
  | map (es : List (V × V))
  | dead
  deriving Inhabited

structure Heap where
  next : Nat
  get : Nat → Obj

def Heap.put (H : Heap) (b : Nat) (o : Obj) : Heap := ⟨H.next, fun x => if x = b then o else H.get x⟩
def Heap.new (H : Heap) (o : Obj) : Heap := ⟨H.next + 1, fun x => if x = H.next then o else H.get x⟩

inductive Opd where
  | t (n : Nat)
  | c (v : V)
  | f (g : Nat)
  deriving Inhabited

/-- What '==' is asked of. -/
inductive BK where
  | num
  | bool
  | ptr
  | slice
  | func
  | ifc
  | agg (fs : List (Nat × BK))
  deriving Inhabited

inductive AOp where
  | mv (x : Opd)
  | pick (c a b : Opd)
  | bin (op : BinOp) (k : BK) (x y : Opd)
  | un (op : UnOp) (x : Opd)
  | conv (k : IntKind) (x : Opd)
  | load (n : Option Nat) (a : Opd)
  | store (n : Nat) (a x : Opd)
  | alloc (z : List V)
  | box (n : Nat) (x : Opd)
  | build (z : List V) (parts : List (Nat × Nat × Opd))
  | bslice (esz : Nat) (z : List V) (len : Nat) (parts : List (Nat × Opd))
  | mkslice (esz ebytes : Nat) (z : List V) (len cap : Opd)
  | slice (esz : Nat) (x : Opd) (lo hi mx : Option Opd)
  | substr (x : Opd) (lo hi : Option Opd)
  | fad (off : Nat) (x : Opd)
  | fld (off : Nat) (n : Option Nat) (x : Opd)
  | iad (arr : Option Nat) (esz : Nat) (x i : Opd)
  | idx (arr : Option Nat) (esz : Nat) (n : Option Nat) (x i : Opd)
  | nilck (x : Opd)
  | ext (i : Nat) (x : Opd)
  | mkifc (t : Nat) (x : Opd)
  | mkfn (g : Nat) (first caps : List Opd)
  | len (arr : Option Nat) (x : Opd)
  | slen (x : Opd)
  | append (esz ebytes : Nat) (x y : Opd)
  | copy (esz : Nat) (x y : Opd)
  | mm (max : Bool) (xs : List Opd)
  | call (f : Opd) (args : List Opd)
  | dfr (f : Opd) (args : List Opd)
  | pan (x : Opd)
  deriving Inhabited

structure AOper where
  dst : Option Nat
  op : AOp
  g : Option (Nat × Bool) := none
  ix : Nat := 0
  re : List Nat := []
  deriving Inhabited

inductive Cd where
  | skip
  | reg (draw : Bool) (live : List Nat) (ops : List AOper)
  | seq (a b : Cd)
  | cond (c : Opd) (x y : Cd)
  | block (id : Nat) (c : Cd)
  | loop (live : List Nat) (c : Cd)
  | exit (id : Nat)
  | ret
  deriving Inhabited

inductive ARes where
  | t (n : Nat)
  | cell (n : Nat) (sz : Option Nat)
  deriving Inhabited

structure AFun where
  np : Nat
  nt : Nat
  nodef : Bool := true
  res : List ARes
  body : Cd
  deriving Inhabited

structure Fr where
  tm : List (Nat × V)
  ds : List (Nat × List V)
  deriving Inhabited

def look : List (Nat × V) → Nat → Option V
  | [], _ => none
  | (t, v) :: r, n => if t = n then some v else look r n

def Fr.get (fr : Fr) (n : Nat) : Option V := look fr.tm n
def Fr.put (fr : Fr) (d : Option Nat) (v : V) : Fr :=
  match d with
  | some t => ⟨(t, v) :: fr.tm, fr.ds⟩
  | none => fr
def keepL (tm : List (Nat × V)) : List Nat → List (Nat × V)
  | [] => []
  | t :: r => match look tm t with
    | some v => (t, v) :: keepL tm r
    | none => keepL tm r
def Fr.keep (fr : Fr) (l : List Nat) : Fr := ⟨keepL fr.tm l, fr.ds⟩

def opd (fr : Fr) : Opd → Option V
  | .t n => fr.get n
  | .c v => some v
  | .f g => some (.fn g [] [])

def opds (fr : Fr) : List Opd → Option (List V)
  | [] => some []
  | x :: r => match opd fr x, opds fr r with
    | some v, some l => some (v :: l)
    | _, _ => none

def bitop (op : BinOp) (k : IntKind) (x y : Int) : Int :=
  let a := BitVec.ofInt k.bits x
  let b := BitVec.ofInt k.bits y
  match op with
  | .and => k.wrap (a &&& b).toNat
  | .or => k.wrap (a ||| b).toNat
  | .xor => k.wrap (a ^^^ b).toNat
  | _ => k.wrap (a &&& ~~~b).toNat

def shl (k : IntKind) (x y : Int) : Int := k.wrap (x * 2 ^ (min y.toNat k.bits))
def shr (k : IntKind) (x y : Int) : Int := x.fdiv (2 ^ (min y.toNat k.bits))

def cmp (op : BinOp) (x y : Int) : Option Bool :=
  match op with
  | .eql => some (decide (x = y))
  | .neq => some (decide (x ≠ y))
  | .lss => some (decide (x < y))
  | .leq => some (decide (x ≤ y))
  | .gtr => some (decide (y < x))
  | .geq => some (decide (y ≤ x))
  | _ => none

def arith (op : BinOp) (k : IntKind) (x y : Int) : Option V :=
  match op with
  | .add => some (.int k (k.wrap (x + y)))
  | .sub => some (.int k (k.wrap (x - y)))
  | .mul => some (.int k (k.wrap (x * y)))
  | .quo => if y = 0 then none else some (.int k (k.wrap (x.tdiv y)))
  | .rem => if y = 0 then none else some (.int k (x.tmod y))
  | .and => some (.int k (bitop .and k x y))
  | .or => some (.int k (bitop .or k x y))
  | .xor => some (.int k (bitop .xor k x y))
  | .andNot => some (.int k (bitop .andNot k x y))
  | .shl => none
  | .shr => none
  | op => (cmp op x y).map .bool

def eqs (x y : V) : BK → Option Bool
  | .num => match x, y with
    | .int k a, .int k' b => if k = k' then some (decide (a = b)) else none
    | .str a, .str b => some (decide (a = b))
    | _, _ => none
  | .bool => match x, y with
    | .bool a, .bool b => some (a == b)
    | _, _ => none
  | .ptr => match x, y with
    | .ptr none, .ptr b => some b.isNone
    | .ptr a, .ptr none => some a.isNone
    | _, _ => none
  | .slice => match x, y with
    | .sl none _ _ _, .sl b _ _ _ => some b.isNone
    | .sl a _ _ _, .sl none _ _ _ => some a.isNone
    | _, _ => none
  | .func => match x, y with
    | .nilfn, .nilfn => some true
    | .nilfn, .fn _ _ _ => some false
    | .fn _ _ _, .nilfn => some false
    | _, _ => none
  | .ifc => match x, y with
    | .nilifc, .ifc _ _ => some false
    | .ifc _ _, .nilifc => some false
    | _, _ => none
  | .agg _ => none

/-- '==' of structs all of whose parts are numbers, bools. -/
def eqAgg (xs ys : List V) : List (Nat × BK) → Option Bool
  | [] => some true
  | (o, k) :: r => match xs[o]?, ys[o]? with
    | some a, some b => match eqs a b k with
      | some c => (eqAgg xs ys r).map fun d => c && d
      | none => none
    | _, _ => none

def equals (x y : V) (k : BK) : Option Bool :=
  match k, x, y with
  | .agg fs, .agg xs, .agg ys => eqAgg xs ys fs
  | .agg _, _, _ => none
  | k, x, y => eqs x y k

def bin (op : BinOp) (k : BK) (x y : V) : Option V :=
  match k with
  | .num => match x, y with
    | .int k a, .int k' b =>
      match op with
      | .shl => if b < 0 then none else some (.int k (shl k a b))
      | .shr => if b < 0 then none else some (.int k (shr k a b))
      | op => if k = k' then arith op k a b else none
    | .str a, .str b => match op with
      | .eql => some (.bool (decide (a.toList = b.toList)))
      | .neq => some (.bool (decide (a.toList ≠ b.toList)))
      | _ => none
    | _, _ => none
  | k => match op with
    | .eql => (equals x y k).map .bool
    | .neq => (equals x y k).map fun b => .bool !b
    | _ => none

def unop (op : UnOp) (x : V) : Option V :=
  match op, x with
  | .neg, .int k n => some (.int k (k.wrap (0 - n)))
  | .xor, .int k n => some (.int k (bitop .xor k (if k.signed then -1 else k.max) n))
  | .not, .bool b => some (.bool !b)
  | _, _ => none

def mm2 (mx : Bool) (x y : V) : Option V :=
  match x, y with
  | .int k a, .int k' b => if k = k' then some (.int k (if mx then (if b > a then b else a) else (if b < a then b else a))) else none
  | _, _ => none
def mms (mx : Bool) : V → List V → Option V
  | v, [] => some v
  | v, y :: r => match mm2 mx v y with
    | some z => mms mx z r
    | none => none

/-- 'n' cells of a row from 'o' on. -/
def piece (l : List V) (o n : Nat) : Option (List V) := if o + n ≤ l.length then some ((l.drop o).take n) else none
/-- cells written over a row from 'o' on. -/
def over (l : List V) (o : Nat) (vs : List V) : List V := l.take o ++ vs ++ l.drop (o + vs.length)

/-- A part of a struct, of an array. -/
def partV (cs : List V) (o : Nat) : Option Nat → Option V
  | none => cs[o]?
  | some n => (piece cs o n).map .agg

def rd (H : Heap) (n : Option Nat) (b o : Nat) : Option V :=
  match H.get b with
  | .cells l _ => match n with
    | none => l[o]?
    | some n => (piece l o n).map .agg
  | _ => none

def one : V → Bool
  | .agg _ => false
  | .tup _ => false
  | .un => false
  | _ => true

def wr (H : Heap) (b o : Nat) (vs : List V) : Option Heap :=
  match H.get b with
  | .cells l true => if o + vs.length ≤ l.length then (if vs.all one then some (H.put b (.cells (over l o vs) true)) else none) else none
  | _ => none

def fillA : List V → List (Nat × Nat × V) → Option (List V)
  | cells, [] => some cells
  | cells, (o, n, v) :: r => if v.cells.length = n ∧ o + n ≤ cells.length then fillA (over cells o v.cells) r else none

def reps (z : List V) : Nat → List V
  | 0 => []
  | n + 1 => z ++ reps z n

def parts3 (fr : Fr) : List (Nat × Nat × Opd) → Option (List (Nat × Nat × V))
  | [] => some []
  | (o, n, x) :: r => match opd fr x, parts3 fr r with
    | some v, some l => some ((o, n, v) :: l)
    | _, _ => none

def parts2 (fr : Fr) (esz : Nat) : List (Nat × Opd) → Option (List (Nat × Nat × V))
  | [] => some []
  | (i, x) :: r => match opd fr x, parts2 fr esz r with
    | some v, some l => some ((i * esz, esz, v) :: l)
    | _, _ => none

def bound (x : Option V) (d y : Nat) : Option Nat :=
  match x with
  | none => some d
  | some (.int _ i) => if 0 ≤ i ∧ i ≤ y then some i.toNat else none
  | some _ => none

def optd (fr : Fr) : Option Opd → Option (Option V)
  | none => some none
  | some x => (opd fr x).map some

/-- The cells that an operation lays in a new block, and the value that it yields of the block. -/
def fresh (fr : Fr) : AOp → Option (List V × (Nat → V))
  | .alloc z => some (z, fun b => .ptr (some (b, 0)))
  | .box n x => match opd fr x with
    | some v => if v.cells.length = n then some (v.cells, fun b => .ptr (some (b, 0))) else none
    | none => none
  | .bslice esz z len ps => match parts2 fr esz ps with
    | some l => match fillA (reps z len) l with
      | some cs => some (cs, fun b => .sl (some (b, 0)) len len esz)
      | none => none
    | none => none
  | .mkslice esz eb z len cap => match opd fr len, opd fr cap with
    | some (.int _ l), some (.int _ c) =>
      if 0 ≤ l ∧ l ≤ c ∧ c ≤ 9223372036854775807 ∧ c * eb ≤ 281474976710656 then some (reps z c.toNat, fun b => .sl (some (b, 0)) l.toNat c.toNat esz) else none
    | _, _ => none
  | _ => none

def growOk (a : Option (Nat × Nat)) (need eb : Nat) : Bool :=
  match a with
  | none => decide (need * eb ≤ 281474976710656)
  | some _ => decide ((2 * need + 1024) * eb ≤ 281474976710656)

/-- The cells of a slice's, or a string's, first n elements. -/
def firsts (H : Heap) (esz : Nat) : V → Option (Nat × List V)
  | .sl none _ _ _ => some (0, [])
  | .sl (some (b, o)) len _ e => if e = esz then (match H.get b with
    | .cells l _ => (piece l o (len * esz)).map fun cs => (len, cs)
    | _ => if len * esz = 0 then some (len, []) else none) else none
  | .str s => if esz = 1 then some (s.size, s.data.toList.map fun b => .int .u8 b.toNat) else none
  | _ => none

def app (H : Heap) (esz eb : Nat) (x y : V) : Option (V × Heap) :=
  match x, firsts H esz y with
  | .sl a len cap e, some (n, new) =>
    if a.isSome && e != esz then none else
    if new.all one then
    if len + n ≤ cap then
      match a with
      | some (b, o) => if new.isEmpty then some (.sl (some (b, o)) (len + n) cap esz, H) else (wr H b (o + len * esz) new).map fun H' => (.sl (some (b, o)) (len + n) cap esz, H')
      | none => some (.sl none 0 0 0, H)
    else if growOk a (len + n) eb then
      match a with
      | none => if len = 0 then some (.sl (some (H.next, 0)) n n esz, H.new (.cells new true)) else none
      | some (b, o) => match H.get b with
        | .cells l true => match piece l o (len * esz) with
          | some old => some (.sl (some (H.next, 0)) (len + n) (len + n) esz, (H.put b .dead).new (.cells (old ++ new) true))
          | none => none
        | _ => none
    else none
    else none
  | _, _ => none

def cpy (H : Heap) (esz : Nat) (x y : V) : Option (V × Heap) :=
  match x, firsts H esz y with
  | .sl a dlen _ e, some (n, new) =>
    if a.isSome && e != esz then none else
    let m := min n dlen
    match a with
    | none => some (.int .i64 0, H)
    | some (b, o) => if m * esz = 0 then some (.int .i64 m, H) else (wr H b o (new.take (m * esz))).map fun H' => (.int .i64 m, H')
  | _, _ => none

def step (fr : Fr) (H : Heap) : AOp → Option (V × Heap)
  | .mv x => (opd fr x).map fun v => (v, H)
  | .pick c a b => match opd fr c with
    | some (.bool t) => (if t then opd fr a else opd fr b).map fun v => (v, H)
    | _ => none
  | .bin op k x y => match opd fr x, opd fr y with
    | some a, some b => (bin op k a b).map fun v => (v, H)
    | _, _ => none
  | .un op x => match opd fr x with
    | some a => (unop op a).map fun v => (v, H)
    | none => none
  | .conv k x => match opd fr x with
    | some (.int _ n) => some (.int k (k.wrap n), H)
    | _ => none
  | .load n a => match opd fr a with
    | some (.ptr (some (b, o))) => (rd H n b o).map fun v => (v, H)
    | _ => none
  | .store n a x => match opd fr a, opd fr x with
    | some (.ptr (some (b, o))), some v => if v.cells.length = n then (wr H b o v.cells).map fun H' => (.un, H') else none
    | _, _ => none
  | .build z ps => match parts3 fr ps with
    | some l => (fillA z l).map fun cs => (.agg cs, H)
    | none => none
  | .slice esz x lo hi mx => match opd fr x, optd fr lo, optd fr hi, optd fr mx with
    | some (.sl a len cap e), some lo, some hi, some mx =>
      if a.isSome && e != esz then none else
      match bound mx cap cap with
      | some m => match bound hi len m with
        | some h => match bound lo 0 h with
          | some l => match a with
            | some (b, o) => some (.sl (some (b, o + l * esz)) (h - l) (m - l) esz, H)
            | none => some (.sl none 0 0 0, H)
          | none => none
        | none => none
      | none => none
    | _, _, _, _ => none
  | .substr x lo hi => match opd fr x, optd fr lo, optd fr hi with
    | some (.str s), some lo, some hi =>
      match bound hi s.size s.size with
      | some h => match bound lo 0 h with
        | some l => some (.str (s.extract l h), H)
        | none => none
      | none => none
    | _, _, _ => none
  | .fad off x => match opd fr x with
    | some (.ptr (some (b, o))) => some (.ptr (some (b, o + off)), H)
    | _ => none
  | .fld off n x => match opd fr x with
    | some (.agg cs) => (partV cs off n).map fun v => (v, H)
    | _ => none
  | .iad arr esz x i => match opd fr x, opd fr i with
    | some (.ptr (some (b, o))), some (.int _ j) => match arr with
      | some n => if 0 ≤ j ∧ j < n then some (.ptr (some (b, o + j.toNat * esz)), H) else none
      | none => none
    | some (.sl (some (b, o)) len _ e), some (.int _ j) => match arr with
      | none => if e = esz then (if 0 ≤ j ∧ j < len then some (.ptr (some (b, o + j.toNat * esz)), H) else none) else none
      | some _ => none
    | _, _ => none
  | .idx arr esz n x i => match opd fr x, opd fr i with
    | some (.agg cs), some (.int _ j) => match arr with
      | some m => if 0 ≤ j ∧ j < m then (partV cs (j.toNat * esz) n).map fun v => (v, H) else none
      | none => none
    | some (.str s), some (.int _ j) => match arr with
      | none => if 0 ≤ j then (s[j.toNat]?).map fun b => (.int .u8 b.toNat, H) else none
      | some _ => none
    | _, _ => none
  | .nilck x => match opd fr x with
    | some (.ptr (some a)) => some (.ptr (some a), H)
    | _ => none
  | .ext i x => match opd fr x with
    | some (.tup l) => l[i]?.map fun v => (v, H)
    | _ => none
  | .mkifc t x => (opd fr x).map fun v => (.ifc t v, H)
  | .mkfn g first caps => match opds fr first, opds fr caps with
    | some a, some b => some (.fn g a b, H)
    | _, _ => none
  | .len (some n) x => (opd fr x).map fun _ => (.int .i64 n, H)
  | .len none x => match opd fr x with
    | some (.sl _ n _ _) => some (.int .i64 n, H)
    | _ => none
  | .slen x => match opd fr x with
    | some (.str s) => some (.int .i64 s.size, H)
    | _ => none
  | .append esz eb x y => match opd fr x, opd fr y with
    | some a, some b => app H esz eb a b
    | _, _ => none
  | .copy esz x y => match opd fr x, opd fr y with
    | some a, some b => cpy H esz a b
    | _, _ => none
  | .mm mx xs => match opds fr xs with
    | some (v :: r) => (mms mx v r).map fun v => (v, H)
    | _ => none
  | .call _ _ => none
  | .dfr _ _ => none
  | .pan _ => none
  | o => match fresh fr o with
    | some (cs, v) => some (v H.next, H.new (.cells cs true))
    | none => none


inductive Out where
  | ret (v : V)
  | pan (v : V)

inductive Ex where
  | normal
  | exit (id : Nat)
  | ret
  | pan (v : V)

/-- A test, kept closed: simp does not look behind it. -/
def gif (b : Bool) (A B : Prop) : Prop := if b = true then A else B

abbrev CallT := Nat → List V → Heap → (Out → Heap → Prop) → Prop
abbrev Post := Ex → Fr → Heap → Prop

def callee (fr : Fr) (f : Opd) (args : List Opd) : Option (Nat × List V) :=
  match opd fr f, opds fr args with
  | some (.fn g first caps), some l => some (g, first ++ l ++ caps)
  | _, _ => none

/-- One operation: what is asked behind it. -/
def evOp (C : CallT) (fr : Fr) (H : Heap) (o : AOper) (K : Fr → Heap → Prop) (X : V → Heap → Prop) : Prop :=
  match o.op with
  | .call f args => match callee fr f args with
    | some (g, l) => C g l H fun out H' => match out with
      | .ret v => K (fr.put o.dst v) H'
      | .pan v => X v H'
    | none => False
  | .dfr f args => match callee fr f args with
    | some (g, l) => K ⟨(fr.put o.dst .un).tm, (g, l) :: fr.ds⟩ H
    | none => False
  | .pan x => match opd fr x with
    | some (.ifc t v) => X (.ifc t v) H
    | _ => False
  | p => match step fr H p with
    | some (v, H') => K (fr.put o.dst v) H'
    | none => False

def evOps (C : CallT) (X : Fr → V → Heap → Prop) (K : Fr → Heap → Prop) : List AOper → Fr → Heap → Prop
  | [], fr, H => K fr H
  | o :: r, fr, H =>
    match o.g with
    | none => evOp C fr H o (evOps C X K r) (X fr)
    | some (t, want) => match fr.get t with
      | some (.bool b) => gif (b == want) (evOp C fr H o (evOps C X K r) (X fr)) (evOps C X K r (fr.put o.dst (.tup [])) H)
      | some (.tup []) => evOps C X K r (fr.put o.dst (.tup [])) H
      | _ => False

/-- In a region that draws its order: an operation that another order may carry out later would read, make the same then. -/
def recheck (fr : Fr) (H : Heap) (y : AOper) : Prop :=
  match y.dst with
  | none => False
  | some t => match fresh fr y.op with
    | some (cs, mk) => ∃ b, fr.get t = some (mk b) ∧ H.get b = .cells cs true
    | none => ∃ v, fr.get t = some v ∧ step fr H y.op = some (v, H)

def rechecks (fr : Fr) (H : Heap) (re : List Nat) : List AOper → Prop
  | [] => True
  | y :: acc => (if re.contains y.ix then ((match y.g with | some (t, want) => (fr.get t = some (.bool !want) ∨ fr.get t = some (.tup [])) | none => False) ∨ recheck fr H y) else True) ∧ rechecks fr H re acc

/-- A region that draws its order, in its canonical order. -/
def evD (C : CallT) (X : Fr → V → Heap → Prop) (K : Fr → Heap → Prop) : List AOper → List AOper → Fr → Heap → Prop
  | _, [], fr, H => K fr H
  | acc, o :: r, fr, H =>
    match o.g with
    | none => evOp C fr H o (fun fr' H' => (o.re = [] ∨ rechecks fr' H' o.re acc) ∧ evD C X K (o :: acc) r fr' H') (X fr)
    | some (t, want) => match fr.get t with
      | some (.bool b) => gif (b == want) (evOp C fr H o (fun fr' H' => (o.re = [] ∨ rechecks fr' H' o.re acc) ∧ evD C X K (o :: acc) r fr' H') (X fr)) (evD C X K (o :: acc) r (fr.put o.dst (.tup [])) H)
      | some (.tup []) => evD C X K (o :: acc) r (fr.put o.dst (.tup [])) H
      | _ => False

/-- Rounds: the least predicate that holds where a round leads into it, or out. -/
def Iter (F : Fr → Heap → Post → Prop) (Q : Post) (fr : Fr) (H : Heap) : Prop :=
  ∀ I : Fr → Heap → Prop, (∀ fr H, F fr H (fun e fr' H' => match e with | .normal => I fr' H' | e => Q e fr' H') → I fr H) → I fr H

def wpC (C : CallT) : Cd → Post → Fr → Heap → Prop
  | .skip, Q, fr, H => Q .normal fr H
  | .reg false live ops, Q, fr, H => evOps C (fun fr v H => Q (.pan v) ⟨[], fr.ds⟩ H) (fun fr H => Q .normal (fr.keep live) H) ops fr H
  | .reg true live ops, Q, fr, H => evD C (fun fr v H => Q (.pan v) ⟨[], fr.ds⟩ H) (fun fr H => Q .normal (fr.keep live) H) [] ops fr H
  | .seq a b, Q, fr, H => wpC C a (fun e fr' H' => match e with | .normal => wpC C b Q fr' H' | e => Q e fr' H') fr H
  | .cond c x y, Q, fr, H => match opd fr c with
    | some (.bool b) => gif b (wpC C x Q fr H) (wpC C y Q fr H)
    | _ => False
  | .block id c, Q, fr, H => wpC C c (fun e fr' H' => match e with | .exit i => if i = id then Q .normal fr' H' else Q (.exit i) fr' H' | e => Q e fr' H') fr H
  | .loop live c, Q, fr, H => Iter (fun fr H Q => wpC C c Q (fr.keep live) H) Q fr H
  | .exit id, Q, fr, H => Q (.exit id) fr H
  | .ret, Q, fr, H => Q .ret fr H

def resOf (fr : Fr) (H : Heap) : List ARes → Option (List V)
  | [] => some []
  | .t n :: r => match fr.get n, resOf fr H r with
    | some v, some l => some (v :: l)
    | _, _ => none
  | .cell n sz :: r => match fr.get n, resOf fr H r with
    | some (.ptr (some (b, o))), some l => (rd H sz b o).map fun v => v :: l
    | _, _ => none

def bundle : List V → V
  | [v] => v
  | l => .tup l

/-- The deferred calls, one behind the other; none of them may panic. -/
def evDs (nd : Nat → Bool) (C : CallT) (K : Heap → Prop) : List (Nat × List V) → Heap → Prop
  | [], H => K H
  | (g, l) :: r, H => nd g = true ∧ C g l H fun out H' => match out with
    | .ret _ => evDs nd C K r H'
    | .pan _ => False

def frame0 : Nat → List V → List (Nat × V)
  | _, [] => []
  | n, v :: r => (n, v) :: frame0 (n + 1) r

def body (nd : Nat → Bool) (F : AFun) (C : CallT) (l : List V) (H : Heap) (Q : Out → Heap → Prop) : Prop :=
  l.length = F.np ∧ wpC C F.body (fun e fr H' => match e with
    | .normal => (F.nodef = true → fr.ds = []) ∧ evDs nd C (fun H'' => match resOf fr H'' F.res with | some vs => Q (.ret (bundle vs)) H'' | none => False) fr.ds H'
    | .ret => (F.nodef = true → fr.ds = []) ∧ evDs nd C (fun H'' => match resOf fr H'' F.res with | some vs => Q (.ret (bundle vs)) H'' | none => False) fr.ds H'
    | .pan v => fr.ds = [] ∧ Q (.pan v) H'
    | .exit _ => False) ⟨frame0 0 l, []⟩ H

abbrev Prog := Nat → Option AFun

def ndOf (P : Prog) (g : Nat) : Bool := match P g with
  | some F => F.nodef
  | none => false

def evG (P : Prog) (C : CallT) : CallT := fun g l H Q => match P g with
  | some F => body (ndOf P) F C l H Q
  | none => False

/-- What a call comes to: the least that holds where its body comes to it. -/
def Call (P : Prog) : CallT := fun g l H Q =>
  ∀ I : CallT, (∀ g l H Q, evG P I g l H Q → I g l H Q) → I g l H Q

end Go.Ab
