/- An abstract, deterministic machine for a part of the language: values over abstract blocks, a heap of blocks, operations, code; what a call comes to, as a predicate on what holds behind it. Conditions: none; definitions and small laws alone. -/
import GoSem.Dispatch
import Derived.Attr
import Derived.Laws.Sem
import Derived.Orders
import Derived.ChangeKeysEq
set_option linter.all false
namespace Go.Ab

/-- A value: as the model's, over abstract blocks; 'un': nothing is known. A slice bears how many cells an element has. -/
inductive V where
  | bool (b : Bool)
  | int (k : IntKind) (n : Int)
  | flt (k : FloatKind) (bits : Nat)
  | str (s : ByteArray)
  | ptr (a : Option (Nat × Nat))
  | sl (a : Option (Nat × Nat)) (len cap esz : Nat)
  | map (r : Option Nat)
  | fn (g : Nat) (first caps : List V)
  | nilfn
  | ifc (t : Nat) (v : V)
  | nilifc
  | agg (l : List V)
  | tup (l : List V)
  | un
  deriving Inhabited

def V.cells : V → List V
  | .agg l => l
  | .un => []
  | v => [v]

inductive Obj where
  | cells (l : List V) (wr : Bool)
  | map (es : List (Int × V))
  | iter (m since : Nat) (seen : List Nat)
  | dead
  deriving Inhabited

structure Heap where
  next : Nat
  get : Nat → Obj

def Heap.put (H : Heap) (b : Nat) (o : Obj) : Heap := ⟨H.next, fun x => if x = b then o else H.get x⟩
def Heap.new (H : Heap) (o : Obj) : Heap := ⟨H.next + 1, fun x => if x = H.next then o else H.get x⟩

inductive Opd where
  | t (n : Nat)
  | c (v : V)
  | f (g : Nat)
  deriving Inhabited

/-- What '==' is asked of. -/
inductive BK where
  | num
  | bool
  | ptr
  | slice
  | func
  | ifc
  | agg (fs : List (Nat × BK))
  deriving Inhabited

/-- Maps whose keys are ints. -/
inductive MOp where
  | mk
  | look (z : V) (ok : Bool) (m k : Opd)
  | upd (m k v : Opd)
  | range (m : Opd)
  | next (it : Opd)
  | entry (it : Opd)
  | app2 (esz eb : Nat) (x y : Opd)
  deriving Inhabited

inductive AOp where
  | mv (x : Opd)
  | pick (c a b : Opd)
  | bin (op : BinOp) (k : BK) (x y : Opd)
  | un (op : UnOp) (x : Opd)
  | conv (k : IntKind) (x : Opd)
  | load (n : Option Nat) (a : Opd)
  | store (n : Nat) (a x : Opd)
  | alloc (z : List V)
  | box (n : Nat) (x : Opd)
  | build (z : List V) (parts : List (Nat × Nat × Opd))
  | bslice (esz : Nat) (z : List V) (len : Nat) (parts : List (Nat × Opd))
  | mkslice (esz ebytes : Nat) (z : List V) (len cap : Opd)
  | slice (esz : Nat) (x : Opd) (lo hi mx : Option Opd)
  | substr (x : Opd) (lo hi : Option Opd)
  | fad (off : Nat) (x : Opd)
  | fld (off : Nat) (n : Option Nat) (x : Opd)
  | iad (arr : Option Nat) (esz : Nat) (x i : Opd)
  | idx (arr : Option Nat) (esz : Nat) (n : Option Nat) (x i : Opd)
  | nilck (x : Opd)
  | ext (i : Nat) (x : Opd)
  | mkifc (t : Nat) (x : Opd)
  | mkfn (g : Nat) (first caps : List Opd)
  | len (arr : Option Nat) (x : Opd)
  | slen (x : Opd)
  | asrt (t : Nat) (x : Opd)
  | isnil (ne : Bool) (x : Opd)
  | append (esz ebytes : Nat) (x y : Opd)
  | copy (esz : Nat) (x y : Opd)
  | mm (max : Bool) (xs : List Opd)
  | call (f : Opd) (args : List Opd)
  | dfr (f : Opd) (args : List Opd)
  | pan (x : Opd)
  | mp (q : MOp)
  deriving Inhabited

structure AOper where
  dst : Option Nat
  op : AOp
  g : Option (Nat × Bool) := none
  ix : Nat := 0
  re : List Nat := []
  deriving Inhabited

inductive Cd where
  | skip
  | reg (draw : Bool) (live : List Nat) (ops : List AOper)
  | seq (a b : Cd)
  | cond (c : Opd) (x y : Cd)
  | block (id : Nat) (c : Cd)
  | loop (live : List Nat) (c : Cd)
  | exit (id : Nat)
  | ret
  | scope (c : Cd)
  | gscope (a : Cd) (l : Nat) (live : List Nat) (b : Cd)
  | goto (l : Nat)
  | recov (d : Nat) (c : Cd)
  | orc
  deriving Inhabited

inductive ARes where
  | t (n : Nat)
  | cell (n : Nat) (sz : Option Nat)
  deriving Inhabited

structure AFun where
  np : Nat
  nt : Nat
  nodef : Bool := true
  res : List ARes
  body : Cd
  deriving Inhabited

structure Fr where
  tm : List (Nat × V)
  ds : List (Nat × List V)
  deriving Inhabited

def look : List (Nat × V) → Nat → Option V
  | [], _ => none
  | (t, v) :: r, n => if t = n then some v else look r n

def Fr.get (fr : Fr) (n : Nat) : Option V := look fr.tm n
def Fr.put (fr : Fr) (d : Option Nat) (v : V) : Fr :=
  match d with
  | some t => ⟨(t, v) :: fr.tm, fr.ds⟩
  | none => fr
def keepL (tm : List (Nat × V)) : List Nat → List (Nat × V)
  | [] => []
  | t :: r => match look tm t with
    | some v => (t, v) :: keepL tm r
    | none => keepL tm r
def Fr.keep (fr : Fr) (l : List Nat) : Fr := ⟨keepL fr.tm l, fr.ds⟩

def opd (fr : Fr) : Opd → Option V
  | .t n => fr.get n
  | .c v => some v
  | .f g => some (.fn g [] [])

def opds (fr : Fr) : List Opd → Option (List V)
  | [] => some []
  | x :: r => match opd fr x, opds fr r with
    | some v, some l => some (v :: l)
    | _, _ => none

def bitop (op : BinOp) (k : IntKind) (x y : Int) : Int :=
  let a := BitVec.ofInt k.bits x
  let b := BitVec.ofInt k.bits y
  match op with
  | .and => k.wrap (a &&& b).toNat
  | .or => k.wrap (a ||| b).toNat
  | .xor => k.wrap (a ^^^ b).toNat
  | _ => k.wrap (a &&& ~~~b).toNat

def shl (k : IntKind) (x y : Int) : Int := k.wrap (x * 2 ^ (min y.toNat k.bits))
def shr (k : IntKind) (x y : Int) : Int := x.fdiv (2 ^ (min y.toNat k.bits))

def cmp (op : BinOp) (x y : Int) : Option Bool :=
  match op with
  | .eql => some (decide (x = y))
  | .neq => some (decide (x ≠ y))
  | .lss => some (decide (x < y))
  | .leq => some (decide (x ≤ y))
  | .gtr => some (decide (y < x))
  | .geq => some (decide (y ≤ x))
  | _ => none

def arith (op : BinOp) (k : IntKind) (x y : Int) : Option V :=
  match op with
  | .add => some (.int k (k.wrap (x + y)))
  | .sub => some (.int k (k.wrap (x - y)))
  | .mul => some (.int k (k.wrap (x * y)))
  | .quo => if y = 0 then none else some (.int k (k.wrap (x.tdiv y)))
  | .rem => if y = 0 then none else some (.int k (x.tmod y))
  | .and => some (.int k (bitop .and k x y))
  | .or => some (.int k (bitop .or k x y))
  | .xor => some (.int k (bitop .xor k x y))
  | .andNot => some (.int k (bitop .andNot k x y))
  | .shl => none
  | .shr => none
  | op => (cmp op x y).map .bool

def eqs (x y : V) : BK → Option Bool
  | .num => match x, y with
    | .int k a, .int k' b => if k = k' then some (decide (a = b)) else none
    | .str a, .str b => some (decide (a = b))
    | _, _ => none
  | .bool => match x, y with
    | .bool a, .bool b => some (a == b)
    | _, _ => none
  | .ptr => match x, y with
    | .ptr none, .ptr b => some b.isNone
    | .ptr a, .ptr none => some a.isNone
    | _, _ => none
  | .slice => match x, y with
    | .sl none _ _ _, .sl b _ _ _ => some b.isNone
    | .sl a _ _ _, .sl none _ _ _ => some a.isNone
    | _, _ => none
  | .func => match x, y with
    | .nilfn, .nilfn => some true
    | .nilfn, .fn _ _ _ => some false
    | .fn _ _ _, .nilfn => some false
    | _, _ => none
  | .ifc => match x, y with
    | .nilifc, .ifc _ _ => some false
    | .ifc _ _, .nilifc => some false
    | _, _ => none
  | .agg _ => none

def eqF (x y : V) : BK → Option Bool
  | .num => match x, y with
    | .int k a, .int k' b => if k = k' then some (decide (a = b)) else none
    | _, _ => none
  | .bool => match x, y with
    | .bool a, .bool b => some (a == b)
    | _, _ => none
  | _ => none

/-- '==' of structs all of whose parts are numbers, bools. -/
def eqAgg (xs ys : List V) : List (Nat × BK) → Option Bool
  | [] => some true
  | (o, k) :: r => match xs[o]?, ys[o]? with
    | some a, some b => match eqF a b k with
      | some c => (eqAgg xs ys r).map fun d => c && d
      | none => none
    | _, _ => none

def equals (x y : V) (k : BK) : Option Bool :=
  match k, x, y with
  | .agg fs, .agg xs, .agg ys => eqAgg xs ys fs
  | .agg _, _, _ => none
  | k, x, y => eqs x y k

def bin (op : BinOp) (k : BK) (x y : V) : Option V :=
  match k with
  | .num => match x, y with
    | .int k a, .int k' b =>
      match op with
      | .shl => if b < 0 then none else some (.int k (shl k a b))
      | .shr => if b < 0 then none else some (.int k (shr k a b))
      | op => if k = k' then arith op k a b else none
    | .str a, .str b => match op with
      | .eql => some (.bool (decide (a.toList = b.toList)))
      | .neq => some (.bool (decide (a.toList ≠ b.toList)))
      | _ => none
    | _, _ => none
  | k => match op with
    | .eql => (equals x y k).map .bool
    | .neq => (equals x y k).map fun b => .bool !b
    | _ => none

def unop (op : UnOp) (x : V) : Option V :=
  match op, x with
  | .neg, .int k n => some (.int k (k.wrap (0 - n)))
  | .xor, .int k n => some (.int k (bitop .xor k (if k.signed then -1 else k.max) n))
  | .not, .bool b => some (.bool !b)
  | _, _ => none

def mm2 (mx : Bool) (x y : V) : Option V :=
  match x, y with
  | .int k a, .int k' b => if k = k' then some (.int k (if mx then (if b > a then b else a) else (if b < a then b else a))) else none
  | _, _ => none
def mms (mx : Bool) : V → List V → Option V
  | v, [] => some v
  | v, y :: r => match mm2 mx v y with
    | some z => mms mx z r
    | none => none

/-- 'n' cells of a row from 'o' on. -/
def piece (l : List V) (o n : Nat) : Option (List V) := if o + n ≤ l.length then some ((l.drop o).take n) else none
/-- cells written over a row from 'o' on. -/
def over (l : List V) (o : Nat) (vs : List V) : List V := l.take o ++ vs ++ l.drop (o + vs.length)

/-- A part of a struct, of an array. -/
def partV (cs : List V) (o : Nat) : Option Nat → Option V
  | none => cs[o]?
  | some n => (piece cs o n).map .agg

def rd (H : Heap) (n : Option Nat) (b o : Nat) : Option V :=
  match H.get b with
  | .cells l _ => match n with
    | none => l[o]?
    | some n => (piece l o n).map .agg
  | _ => none

def one : V → Bool
  | .agg _ => false
  | .tup _ => false
  | .un => false
  | _ => true

def wr (H : Heap) (b o : Nat) (vs : List V) : Option Heap :=
  match H.get b with
  | .cells l true => if o + vs.length ≤ l.length then (if vs.all one then some (H.put b (.cells (over l o vs) true)) else none) else none
  | _ => none

def fillA : List V → List (Nat × Nat × V) → Option (List V)
  | cells, [] => some cells
  | cells, (o, n, v) :: r => if v.cells.length = n ∧ o + n ≤ cells.length then fillA (over cells o v.cells) r else none

def reps (z : List V) : Nat → List V
  | 0 => []
  | n + 1 => z ++ reps z n

def parts3 (fr : Fr) : List (Nat × Nat × Opd) → Option (List (Nat × Nat × V))
  | [] => some []
  | (o, n, x) :: r => match opd fr x, parts3 fr r with
    | some v, some l => some ((o, n, v) :: l)
    | _, _ => none

def parts2 (fr : Fr) (esz : Nat) : List (Nat × Opd) → Option (List (Nat × Nat × V))
  | [] => some []
  | (i, x) :: r => match opd fr x, parts2 fr esz r with
    | some v, some l => some ((i * esz, esz, v) :: l)
    | _, _ => none

def bound (x : Option V) (d y : Nat) : Option Nat :=
  match x with
  | none => some d
  | some (.int _ i) => if 0 ≤ i ∧ i ≤ y then some i.toNat else none
  | some _ => none

def optd (fr : Fr) : Option Opd → Option (Option V)
  | none => some none
  | some x => (opd fr x).map some

/-- The cells that an operation lays in a new block, and the value that it yields of the block. -/
def fresh (fr : Fr) : AOp → Option (List V × (Nat → V))
  | .alloc z => some (z, fun b => .ptr (some (b, 0)))
  | .box n x => match opd fr x with
    | some v => if v.cells.length = n then some (v.cells, fun b => .ptr (some (b, 0))) else none
    | none => none
  | .bslice esz z len ps => match parts2 fr esz ps with
    | some l => match fillA (reps z len) l with
      | some cs => some (cs, fun b => .sl (some (b, 0)) len len esz)
      | none => none
    | none => none
  | .mkslice esz eb z len cap => match opd fr len, opd fr cap with
    | some (.int _ l), some (.int _ c) =>
      if 0 ≤ l ∧ l ≤ c ∧ c ≤ 9223372036854775807 ∧ c * eb ≤ 281474976710656 then some (reps z c.toNat, fun b => .sl (some (b, 0)) l.toNat c.toNat esz) else none
    | _, _ => none
  | _ => none

def growOk (a : Option (Nat × Nat)) (need eb : Nat) : Bool :=
  match a with
  | none => decide (need * eb ≤ 281474976710656)
  | some _ => decide ((need + need / 4 + 1024) * eb ≤ 281474976710656)

/-- The cells of a slice's, or a string's, first n elements. -/
def firsts (H : Heap) (esz : Nat) : V → Option (Nat × List V)
  | .sl none _ _ _ => some (0, [])
  | .sl (some (b, o)) len _ e => if e = esz then (match H.get b with
    | .cells l _ => (piece l o (len * esz)).map fun cs => (len, cs)
    | _ => if len * esz = 0 then some (len, []) else none) else none
  | .str s => if esz = 1 then some (s.size, s.data.toList.map fun b => .int .u8 b.toNat) else none
  | _ => none

def app (H : Heap) (esz eb : Nat) (x y : V) : Option (V × Heap) :=
  match x, firsts H esz y with
  | .sl a len cap e, some (n, new) =>
    if a.isSome && e != esz then none else
    if new.all one then
    if len + n ≤ cap then
      match a with
      | some (b, o) => if new.isEmpty then some (.sl (some (b, o)) (len + n) cap esz, H) else (wr H b (o + len * esz) new).map fun H' => (.sl (some (b, o)) (len + n) cap esz, H')
      | none => some (.sl none 0 0 0, H)
    else if growOk a (len + n) eb then
      match a with
      | none => if len = 0 then some (.sl (some (H.next, 0)) n n esz, H.new (.cells new true)) else none
      | some (b, o) => match H.get b with
        | .cells l true => match piece l o (len * esz) with
          | some old => some (.sl (some (H.next, 0)) (len + n) (len + n) esz, (H.put b .dead).new (.cells (old ++ new) true))
          | none => none
        | _ => none
    else none
    else none
  | _, _ => none

def cpy (H : Heap) (esz : Nat) (x y : V) : Option (V × Heap) :=
  match x, firsts H esz y with
  | .sl a dlen _ e, some (n, new) =>
    if a.isSome && e != esz then none else
    let m := min n dlen
    match a with
    | none => some (.int .i64 0, H)
    | some (b, o) => if m * esz = 0 then some (.int .i64 m, H) else (wr H b o (new.take (m * esz))).map fun H' => (.int .i64 m, H')
  | _, _ => none

def step (fr : Fr) (H : Heap) : AOp → Option (V × Heap)
  | .mv x => (opd fr x).map fun v => (v, H)
  | .pick c a b => match opd fr c with
    | some (.bool t) => (if t then opd fr a else opd fr b).map fun v => (v, H)
    | _ => none
  | .bin op k x y => match opd fr x, opd fr y with
    | some a, some b => (bin op k a b).map fun v => (v, H)
    | _, _ => none
  | .un op x => match opd fr x with
    | some a => (unop op a).map fun v => (v, H)
    | none => none
  | .conv k x => match opd fr x with
    | some (.int _ n) => some (.int k (k.wrap n), H)
    | _ => none
  | .load n a => match opd fr a with
    | some (.ptr (some (b, o))) => (rd H n b o).map fun v => (v, H)
    | _ => none
  | .store n a x => match opd fr a, opd fr x with
    | some (.ptr (some (b, o))), some v => if v.cells.length = n then (wr H b o v.cells).map fun H' => (.un, H') else none
    | _, _ => none
  | .build z ps => match parts3 fr ps with
    | some l => (fillA z l).map fun cs => (.agg cs, H)
    | none => none
  | .slice esz x lo hi mx => match opd fr x, optd fr lo, optd fr hi, optd fr mx with
    | some (.sl a len cap e), some lo, some hi, some mx =>
      if a.isSome && e != esz then none else
      match bound mx cap cap with
      | some m => match bound hi len m with
        | some h => match bound lo 0 h with
          | some l => match a with
            | some (b, o) => some (.sl (some (b, o + l * esz)) (h - l) (m - l) esz, H)
            | none => some (.sl none 0 0 0, H)
          | none => none
        | none => none
      | none => none
    | _, _, _, _ => none
  | .substr x lo hi => match opd fr x, optd fr lo, optd fr hi with
    | some (.str s), some lo, some hi =>
      match bound hi s.size s.size with
      | some h => match bound lo 0 h with
        | some l => some (.str (s.extract l h), H)
        | none => none
      | none => none
    | _, _, _ => none
  | .fad off x => match opd fr x with
    | some (.ptr (some (b, o))) => some (.ptr (some (b, o + off)), H)
    | _ => none
  | .fld off n x => match opd fr x with
    | some (.agg cs) => (partV cs off n).map fun v => (v, H)
    | _ => none
  | .iad arr esz x i => match opd fr x, opd fr i with
    | some (.ptr (some (b, o))), some (.int _ j) => match arr with
      | some n => if 0 ≤ j ∧ j < n then some (.ptr (some (b, o + j.toNat * esz)), H) else none
      | none => none
    | some (.sl (some (b, o)) len _ e), some (.int _ j) => match arr with
      | none => if e = esz then (if 0 ≤ j ∧ j < len then some (.ptr (some (b, o + j.toNat * esz)), H) else none) else none
      | some _ => none
    | _, _ => none
  | .idx arr esz n x i => match opd fr x, opd fr i with
    | some (.agg cs), some (.int _ j) => match arr with
      | some m => if 0 ≤ j ∧ j < m then (partV cs (j.toNat * esz) n).map fun v => (v, H) else none
      | none => none
    | some (.str s), some (.int _ j) => match arr with
      | none => if 0 ≤ j then (s[j.toNat]?).map fun b => (.int .u8 b.toNat, H) else none
      | some _ => none
    | _, _ => none
  | .nilck x => match opd fr x with
    | some (.ptr (some a)) => some (.ptr (some a), H)
    | _ => none
  | .ext i x => match opd fr x with
    | some (.tup l) => l[i]?.map fun v => (v, H)
    | _ => none
  | .mkifc t x => (opd fr x).map fun v => (.ifc t v, H)
  | .mkfn g first caps => match opds fr first, opds fr caps with
    | some a, some b => some (.fn g a b, H)
    | _, _ => none
  | .len (some n) x => (opd fr x).map fun _ => (.int .i64 n, H)
  | .len none x => match opd fr x with
    | some (.sl _ n _ _) => some (.int .i64 n, H)
    | _ => none
  | .slen x => match opd fr x with
    | some (.str s) => some (.int .i64 s.size, H)
    | _ => none
  | .asrt t x => match opd fr x with
    | some (.ifc t' v) => if t' = t then some (.tup [v, .bool true], H) else none
    | _ => none
  | .isnil ne x => match opd fr x with
    | some .nilifc => some (.bool (!ne), H)
    | some (.ifc _ _) => some (.bool ne, H)
    | _ => none
  | .append esz eb x y => match opd fr x, opd fr y with
    | some a, some b => app H esz eb a b
    | _, _ => none
  | .copy esz x y => match opd fr x, opd fr y with
    | some a, some b => cpy H esz a b
    | _, _ => none
  | .mm mx xs => match opds fr xs with
    | some (v :: r) => (mms mx v r).map fun v => (v, H)
    | _ => none
  | .call _ _ => none
  | .dfr _ _ => none
  | .pan _ => none
  | .mp _ => none
  | o => match fresh fr o with
    | some (cs, v) => some (v H.next, H.new (.cells cs true))
    | none => none


inductive Out where
  | ret (v : V)
  | pan (v : V)

inductive Ex where
  | normal
  | exit (id : Nat)
  | ret
  | pan (v : V)
  | goto (l : Nat)

/-- A test, kept closed: simp does not look behind it. -/
def gif (b : Bool) (A B : Prop) : Prop := if b = true then A else B

abbrev CallT := Nat → List V → Heap → (Out → Heap → Prop) → Prop
abbrev Post := Ex → Fr → Heap → Prop

def callee (fr : Fr) (f : Opd) (args : List Opd) : Option (Nat × List V) :=
  match opd fr f, opds fr args with
  | some (.fn g first caps), some l => some (g, first ++ l ++ caps)
  | _, _ => none

def mget : List (Int × V) → Int → Option V
  | [], _ => none
  | (k, v) :: r, n => if n = k then some v else mget r n
def mput : List (Int × V) → Int → V → List (Int × V)
  | [], n, v => [(n, v)]
  | (k, u) :: r, n, v => if n = k then (k, v) :: r else (k, u) :: mput r n v

/-- An operation on a map: what is asked behind it. Which entry comes next is open; no map grows while it is ranged over. (app2: a list that fills its block is appended to; whether there is room behind it is open: what is behind is asked of both.) -/
def evM (fr : Fr) (H : Heap) (d : Option Nat) (q : MOp) (K : Fr → Heap → Prop) : Prop :=
  match q with
  | .mk => K (fr.put d (.map (some H.next))) (H.new (.map []))
  | .look z ok m k => match opd fr m, opd fr k with
    | some (.map (some r)), some (.int .i64 n) => (match H.get r with
      | .map es => (match mget es n with
        | some v => K (fr.put d (if ok then .tup [v, .bool true] else v)) H
        | none => K (fr.put d (if ok then .tup [z, .bool false] else z)) H)
      | _ => False)
    | _, _ => False
  | .upd m k v => match opd fr m, opd fr k, opd fr v with
    | some (.map (some r)), some (.int .i64 n), some v => (match H.get r with
      | .map es => K (fr.put d .un) (H.put r (.map (mput es n v)))
      | _ => False)
    | _, _, _ => False
  | .range m => match opd fr m with
    | some (.map (some r)) => (match H.get r with
      | .map es => K (fr.put d (.ptr (some (H.next, 0)))) (H.new (.iter r es.length []))
      | _ => False)
    | _ => False
  | .next it => match opd fr it with
    | some (.ptr (some (b, 0))) => (match H.get b with
      | .iter r since seen => (match H.get r with
        | .map es => es.length = since ∧ ((∀ i, i < es.length → i ∈ seen) → K (fr.put d (.tup [.bool false])) H) ∧
            ∀ i e, es[i]? = some e → i ∉ seen → K (fr.put d (.tup [.bool true, .int .i64 e.1, e.2])) (H.put b (.iter r since (seen ++ [i])))
        | _ => False)
      | _ => False)
    | _ => False
  | .entry it => match opd fr it with
    | some (.ptr (some (b, 0))) => (match H.get b with
      | .iter r since seen => (match H.get r, seen.getLast? with
        | .map es, some i => (match es[i]? with
          | some e => es.length = since ∧ K (fr.put d (.tup [.int .i64 e.1, e.2])) H
          | none => False)
        | _, _ => False)
      | _ => False)
    | _ => False
  | .app2 esz eb x y => match opd fr x, opd fr y with
    | some (.sl (some (b, o)) len cap e), some Y => (match firsts H esz Y, H.get b with
      | some (n, new), .cells l true => e = esz ∧ 0 < len ∧ cap = len ∧ 0 < n ∧ o + len * esz = l.length ∧ new.all one = true ∧ growOk (some (b, o)) (len + n) eb = true ∧
          K (fr.put d (.sl (some (b, o)) (len + n) (len + n) esz)) (H.put b (.cells (l ++ new) true)) ∧
          K (fr.put d (.sl (some (H.next, 0)) (len + n) (len + n) esz)) (H.new (.cells (l.drop o ++ new) true))
      | _, _ => False)
    | _, _ => False

/-- One operation: what is asked behind it. -/
def evOp (C : CallT) (fr : Fr) (H : Heap) (o : AOper) (K : Fr → Heap → Prop) (X : V → Heap → Prop) : Prop :=
  match o.op with
  | .call f args => match callee fr f args with
    | some (g, l) => C g l H fun out H' => match out with
      | .ret v => K (fr.put o.dst v) H'
      | .pan v => X v H'
    | none => False
  | .dfr f args => match callee fr f args with
    | some (g, l) => K ⟨(fr.put o.dst .un).tm, (g, l) :: fr.ds⟩ H
    | none => False
  | .pan x => match opd fr x with
    | some (.ifc t v) => X (.ifc t v) H
    | _ => False
  | .mp q => evM fr H o.dst q K
  | p => match step fr H p with
    | some (v, H') => K (fr.put o.dst v) H'
    | none => False

def evOps (C : CallT) (X : Fr → V → Heap → Prop) (K : Fr → Heap → Prop) : List AOper → Fr → Heap → Prop
  | [], fr, H => K fr H
  | o :: r, fr, H =>
    match o.g with
    | none => evOp C fr H o (evOps C X K r) (X fr)
    | some (t, want) => match fr.get t with
      | some (.bool b) => gif (b == want) (evOp C fr H o (evOps C X K r) (X fr)) (evOps C X K r (fr.put o.dst (.tup [])) H)
      | some (.tup []) => evOps C X K r (fr.put o.dst (.tup [])) H
      | _ => False

/-- In a region that draws its order: an operation that another order may carry out later would read, make the same then. -/
def recheck (fr : Fr) (H : Heap) (y : AOper) : Prop :=
  match y.dst with
  | none => False
  | some t => match fresh fr y.op with
    | some (cs, mk) => ∃ b, fr.get t = some (mk b) ∧ H.get b = .cells cs true
    | none => ∃ v, fr.get t = some v ∧ step fr H y.op = some (v, H)

def rechecks (fr : Fr) (H : Heap) (re : List Nat) : List AOper → Prop
  | [] => True
  | y :: acc => (if re.contains y.ix then ((match y.g with | some (t, want) => (fr.get t = some (.bool !want) ∨ fr.get t = some (.tup [])) | none => False) ∨ recheck fr H y) else True) ∧ rechecks fr H re acc

/-- A region that draws its order, in its canonical order. -/
def evD (C : CallT) (X : Fr → V → Heap → Prop) (K : Fr → Heap → Prop) : List AOper → List AOper → Fr → Heap → Prop
  | _, [], fr, H => K fr H
  | acc, o :: r, fr, H =>
    match o.g with
    | none => evOp C fr H o (fun fr' H' => (o.re = [] ∨ rechecks fr' H' o.re acc) ∧ evD C X K (o :: acc) r fr' H') (X fr)
    | some (t, want) => match fr.get t with
      | some (.bool b) => gif (b == want) (evOp C fr H o (fun fr' H' => (o.re = [] ∨ rechecks fr' H' o.re acc) ∧ evD C X K (o :: acc) r fr' H') (X fr)) (evD C X K (o :: acc) r (fr.put o.dst (.tup [])) H)
      | some (.tup []) => evD C X K (o :: acc) r (fr.put o.dst (.tup [])) H
      | _ => False

/-- Rounds: the least predicate that holds where a round leads into it, or out. -/
def Iter (F : Fr → Heap → Post → Prop) (Q : Post) (fr : Fr) (H : Heap) : Prop :=
  ∀ I : Fr → Heap → Prop, (∀ fr H, F fr H (fun e fr' H' => match e with | .normal => I fr' H' | e => Q e fr' H') → I fr H) → I fr H

/-- No goto leads out. -/
def noG (Q : Post) : Post := fun e fr H => match e with | .goto _ => False | e => Q e fr H
/-- A goto to l leads to I. -/
def jmp (l : Nat) (I : Fr → Heap → Prop) (Q : Post) : Post := fun e fr H => match e with | .goto l' => l' = l ∧ I fr H | e => Q e fr H
def IterG (l : Nat) (F : Fr → Heap → Post → Prop) (Q : Post) (fr : Fr) (H : Heap) : Prop :=
  ∀ I : Fr → Heap → Prop, (∀ fr H, F fr H (jmp l I Q) → I fr H) → I fr H

/-- A slice of ints is sorted. -/
def srt (x : Option V) (H : Heap) (K : Heap → Prop) : Prop := ∃ a len cap e, x = some (.sl a len cap e) ∧
  ((len = 0 ∧ K H) ∨ ∃ (b o : Nat) (l : List V) (zs : List Int), 0 < len ∧ e = 1 ∧ a = some (b, o) ∧ H.get b = .cells l true ∧ zs.length = len ∧ zs.length < 4611686018427387904 ∧ o + len ≤ l.length ∧
    (∀ (i : Nat) (n : Int), zs[i]? = some n → l[o + i]? = some (.int .i64 n)) ∧ K (H.put b (.cells (over l o ((zs.mergeSort fun x y => decide (x ≤ y)).map (V.int .i64))) true)))

def wpC (C : CallT) : Cd → Post → Fr → Heap → Prop
  | .skip, Q, fr, H => Q .normal fr H
  | .reg false live ops, Q, fr, H => evOps C (fun fr v H => Q (.pan v) fr H) (fun fr H => Q .normal (fr.keep live) H) ops fr H
  | .reg true live ops, Q, fr, H => evD C (fun fr v H => Q (.pan v) ⟨[], fr.ds⟩ H) (fun fr H => Q .normal (fr.keep live) H) [] ops fr H
  | .seq a b, Q, fr, H => wpC C a (fun e fr' H' => match e with | .normal => wpC C b Q fr' H' | e => Q e fr' H') fr H
  | .cond c x y, Q, fr, H => match opd fr c with
    | some (.bool b) => gif b (wpC C x Q fr H) (wpC C y Q fr H)
    | _ => False
  | .block id c, Q, fr, H => wpC C c (fun e fr' H' => match e with | .exit i => if i = id then Q .normal fr' H' else Q (.exit i) fr' H' | e => Q e fr' H') fr H
  | .loop live c, Q, fr, H => Iter (fun fr H Q => wpC C c Q (fr.keep live) H) Q fr H
  | .exit id, Q, fr, H => Q (.exit id) fr H
  | .ret, Q, fr, H => Q .ret fr H
  | .scope c, Q, fr, H => wpC C c (noG Q) fr H
  | .gscope a l live b, Q, fr, H => wpC C a (fun e fr' H' => match e with | .normal => IterG l (fun fr H Q => wpC C b Q (fr.keep live) H) Q fr' H' | .goto _ => False | e => Q e fr' H') fr H
  | .goto l, Q, fr, H => Q (.goto l) fr H
  | .recov _ _, _, _, _ => False
  | .orc, Q, fr, H => srt (fr.get 0) H (fun H' => Q .ret fr H')

def resOf (fr : Fr) (H : Heap) : List ARes → Option (List V)
  | [] => some []
  | .t n :: r => match fr.get n, resOf fr H r with
    | some v, some l => some (v :: l)
    | _, _ => none
  | .cell n sz :: r => match fr.get n, resOf fr H r with
    | some (.ptr (some (b, o))), some l => (rd H sz b o).map fun v => v :: l
    | _, _ => none

def bundle : List V → V
  | [v] => v
  | l => .tup l

abbrev Prog := Nat → Option AFun

def ndOf (P : Prog) (g : Nat) : Bool := match P g with
  | some F => F.nodef
  | none => false

/-- A function that asks, first of all, what was panicked with. -/
def recOf (P : Prog) (g : Nat) : Option (AFun × Nat × Cd) := match P g with
  | some F => (match F.body with | .recov d c => some (F, d, c) | _ => none)
  | none => none

def frame0 : Nat → List V → List (Nat × V)
  | _, [] => []
  | n, v :: r => (n, v) :: frame0 (n + 1) r

/-- It is called, deferred: 'x' is what it is told. -/
def recB (C : CallT) (F : AFun) (d : Nat) (c : Cd) (x : V) (l : List V) (H : Heap) (K : Heap → Prop) : Prop :=
  l.length = F.np ∧ wpC C c (fun e fr H' => match e with
    | .normal => fr.ds = [] ∧ (∃ vs, resOf fr H' F.res = some vs) ∧ K H'
    | .ret => fr.ds = [] ∧ (∃ vs, resOf fr H' F.res = some vs) ∧ K H'
    | _ => False) ⟨(d, x) :: frame0 0 l, []⟩ H

/-- The deferred calls, one behind the other; none of them may panic. -/
def evDs (P : Prog) (C : CallT) (K : Heap → Prop) : List (Nat × List V) → Heap → Prop
  | [], H => K H
  | (g, l) :: r, H => match recOf P g with
    | some (F, d, c) => recB C F d c .nilifc l H (evDs P C K r)
    | none => ndOf P g = true ∧ C g l H fun out H' => match out with
      | .ret _ => evDs P C K r H'
      | .pan _ => False

/-- The deferred calls of a call that panics: one of them may ask what with; then it returns. -/
def evP (P : Prog) (C : CallT) (Q : Out → Heap → Prop) (K : Heap → Prop) (v : V) : List (Nat × List V) → Heap → Prop
  | [], H => Q (.pan v) H
  | (g, l) :: r, H => match recOf P g with
    | some (F, d, c) => recB C F d c v l H (evDs P C K r)
    | none => ndOf P g = true ∧ C g l H fun out H' => match out with
      | .ret _ => evP P C Q K v r H'
      | .pan _ => False

/-- What is told behind a body. -/
def resK (fr : Fr) (res : List ARes) (Q : Out → Heap → Prop) (H : Heap) : Prop := match resOf fr H res with | some vs => Q (.ret (bundle vs)) H | none => False

def body (P : Prog) (F : AFun) (C : CallT) (l : List V) (H : Heap) (Q : Out → Heap → Prop) : Prop :=
  l.length = F.np ∧ wpC C F.body (fun e fr H' => match e with
    | .normal => (F.nodef = true → fr.ds = []) ∧ evDs P C (resK fr F.res Q) fr.ds H'
    | .ret => (F.nodef = true → fr.ds = []) ∧ evDs P C (resK fr F.res Q) fr.ds H'
    | .pan v => (F.nodef = true → fr.ds = []) ∧ evP P C Q (resK fr F.res Q) v fr.ds H'
    | .exit _ => False
    | .goto _ => False) ⟨frame0 0 l, []⟩ H

def evG (P : Prog) (C : CallT) : CallT := fun g l H Q => match P g with
  | some F => body P F C l H Q
  | none => False

/-- What a call comes to: the least that holds where its body comes to it. -/
def Call (P : Prog) : CallT := fun g l H Q =>
  ∀ I : CallT, (∀ g l H Q, evG P I g l H Q → I g l H Q) → I g l H Q

end Go.Ab
/- What a call comes to grows with what is asked behind it; a call is what its body comes to; a loop is its first round and the loop. Conditions: none. -/
namespace Go.Ab

def CLe (C C' : CallT) : Prop := ∀ g l H Q Q', (∀ o H', Q o H' → Q' o H') → C g l H Q → C' g l H Q'

theorem gif_mono {b : Bool} {A B A' B' : Prop} (hA : A → A') (hB : B → B') (h : gif b A B) : gif b A' B' := by
  unfold gif at *; split <;> rename_i hb
  · rw [if_pos hb] at h; exact hA h
  · rw [if_neg hb] at h; exact hB h

theorem evM_mono {fr : Fr} {H : Heap} {d : Option Nat} {q : MOp} {K K' : Fr → Heap → Prop} (hK : ∀ fr H, K fr H → K' fr H) (h : evM fr H d q K) : evM fr H d q K' := by
  cases q <;> simp only [evM] at h ⊢
  case mk => exact hK _ _ h
  case look z ok m k =>
    split at h
    · split at h
      · split at h
        · exact hK _ _ h
        · exact hK _ _ h
      · exact h
    · exact h
  case upd m k v =>
    split at h
    · split at h
      · exact hK _ _ h
      · exact h
    · exact h
  case range m =>
    split at h
    · split at h
      · exact hK _ _ h
      · exact h
    · exact h
  case next it =>
    split at h
    · split at h
      · split at h
        · exact ⟨h.1, fun k => hK _ _ (h.2.1 k), fun i e he hi => hK _ _ (h.2.2 i e he hi)⟩
        · exact h
      · exact h
    · exact h
  case entry it =>
    split at h
    · split at h
      · split at h
        · split at h
          · exact ⟨h.1, hK _ _ h.2⟩
          · exact h
        · exact h
      · exact h
    · exact h
  case app2 esz eb x y =>
    split at h
    · split at h
      · exact ⟨h.1, h.2.1, h.2.2.1, h.2.2.2.1, h.2.2.2.2.1, h.2.2.2.2.2.1, h.2.2.2.2.2.2.1, hK _ _ h.2.2.2.2.2.2.2.1, hK _ _ h.2.2.2.2.2.2.2.2⟩
      · exact h
    · exact h

theorem evOp_mono {C C' : CallT} (hC : CLe C C') {fr : Fr} {H : Heap} {o : AOper} {K K' : Fr → Heap → Prop} {X X' : V → Heap → Prop}
    (hK : ∀ fr H, K fr H → K' fr H) (hX : ∀ v H, X v H → X' v H) (h : evOp C fr H o K X) : evOp C' fr H o K' X' := by
  obtain ⟨dst, op, g⟩ := o
  cases op <;> simp only [evOp] at h ⊢
  case call f args =>
    split at h
    · rename_i g l hc
      refine hC _ _ _ _ _ (fun o H' ho => ?_) h
      cases o with
      | ret v => exact hK _ _ ho
      | pan v => exact hX _ _ ho
    · exact h
  case dfr f args =>
    split at h
    · exact hK _ _ h
    · exact h
  case pan x =>
    split at h
    · exact hX _ _ h
    · exact h
  case mp q => exact evM_mono hK h
  all_goals (split at h; exact hK _ _ h; exact h)

theorem evOps_mono {C C' : CallT} (hC : CLe C C') {K K' : Fr → Heap → Prop} {X X' : Fr → V → Heap → Prop}
    (hK : ∀ fr H, K fr H → K' fr H) (hX : ∀ fr v H, X fr v H → X' fr v H) : ∀ (l : List AOper) (fr : Fr) (H : Heap), evOps C X K l fr H → evOps C' X' K' l fr H
  | [], _, _, h => hK _ _ h
  | o :: r, fr, H, h => by
    have ih := evOps_mono hC hK hX r
    unfold evOps at h ⊢
    split at h
    · exact evOp_mono hC ih (hX fr) h
    · split at h
      · exact gif_mono (evOp_mono hC ih (hX fr)) (ih _ _) h
      · exact ih _ _ h
      · exact h

theorem evD_mono {C C' : CallT} (hC : CLe C C') {K K' : Fr → Heap → Prop} {X X' : Fr → V → Heap → Prop}
    (hK : ∀ fr H, K fr H → K' fr H) (hX : ∀ fr v H, X fr v H → X' fr v H) : ∀ (l acc : List AOper) (fr : Fr) (H : Heap), evD C X K acc l fr H → evD C' X' K' acc l fr H
  | [], _, _, _, h => hK _ _ h
  | o :: r, acc, fr, H, h => by
    have ih := evD_mono hC hK hX r (o :: acc)
    unfold evD at h ⊢
    split at h
    · exact evOp_mono hC (fun _ _ hk => ⟨hk.1, ih _ _ hk.2⟩) (hX fr) h
    · split at h
      · exact gif_mono (evOp_mono hC (fun _ _ hk => ⟨hk.1, ih _ _ hk.2⟩) (hX fr)) (ih _ _) h
      · exact ih _ _ h
      · exact h

theorem Iter_mono {F F' : Fr → Heap → Post → Prop} {Q Q' : Post} (hF : ∀ fr H Q Q', (∀ e fr H, Q e fr H → Q' e fr H) → F fr H Q → F' fr H Q')
    (hQ : ∀ e fr H, Q e fr H → Q' e fr H) {fr : Fr} {H : Heap} (h : Iter F Q fr H) : Iter F' Q' fr H := by
  intro I hI
  refine h I fun fr H hf => hI fr H (hF _ _ _ _ (fun e fr' H' he => ?_) hf)
  cases e <;> first | exact he | exact hQ _ _ _ he

theorem jmp_mono {l : Nat} {I I' : Fr → Heap → Prop} {Q Q' : Post} (hI : ∀ fr H, I fr H → I' fr H) (hQ : ∀ e fr H, Q e fr H → Q' e fr H) : ∀ e fr H, jmp l I Q e fr H → jmp l I' Q' e fr H := fun e fr H h => by
  cases e <;> first | exact hQ _ _ _ h | exact ⟨h.1, hI _ _ h.2⟩
theorem IterG_mono {l : Nat} {F F' : Fr → Heap → Post → Prop} {Q Q' : Post} (hF : ∀ fr H Q Q', (∀ e fr H, Q e fr H → Q' e fr H) → F fr H Q → F' fr H Q')
    (hQ : ∀ e fr H, Q e fr H → Q' e fr H) {fr : Fr} {H : Heap} (h : IterG l F Q fr H) : IterG l F' Q' fr H := by
  intro I hI
  exact h I fun fr H hf => hI fr H (hF _ _ _ _ (jmp_mono (fun _ _ h => h) hQ) hf)
theorem srt_mono {x : Option V} {H : Heap} {K K' : Heap → Prop} (hK : ∀ H, K H → K' H) (h : srt x H K) : srt x H K' := by
  obtain ⟨a, len, cap, e, hx, h⟩ := h
  refine ⟨a, len, cap, e, hx, ?_⟩
  rcases h with ⟨h1, h2⟩ | ⟨b, o, l, zs, h1, h2, h3, h4, h5, h6, h7, h8, h9⟩
  · exact .inl ⟨h1, hK _ h2⟩
  · exact .inr ⟨b, o, l, zs, h1, h2, h3, h4, h5, h6, h7, h8, hK _ h9⟩
theorem wpC_mono {C C' : CallT} (hC : CLe C C') : ∀ (c : Cd) {Q Q' : Post} (_ : ∀ e fr H, Q e fr H → Q' e fr H) (fr : Fr) (H : Heap), wpC C c Q fr H → wpC C' c Q' fr H
  | .skip, _, _, hQ, _, _, h => hQ _ _ _ h
  | .reg false _ _, _, _, hQ, _, _, h => evOps_mono hC (fun _ _ h => hQ _ _ _ h) (fun _ _ _ h => hQ _ _ _ h) _ _ _ h
  | .reg true _ _, _, _, hQ, _, _, h => evD_mono hC (fun _ _ h => hQ _ _ _ h) (fun _ _ _ h => hQ _ _ _ h) _ _ _ _ h
  | .seq a b, _, _, hQ, _, _, h => wpC_mono hC a (fun e fr' H' he => by
      cases e
      case normal => exact wpC_mono hC b hQ _ _ he
      all_goals exact hQ _ _ _ he) _ _ h
  | .cond c x y, Q, Q', hQ, fr, H, h => by
      unfold wpC at h ⊢
      split at h
      · exact gif_mono (wpC_mono hC x hQ _ _) (wpC_mono hC y hQ _ _) h
      · exact h
  | .block id c, _, _, hQ, _, _, h => wpC_mono hC c (fun e fr' H' he => by
      cases e
      case exit i =>
        dsimp only at he ⊢
        split
        · rename_i hi; rw [if_pos hi] at he; exact hQ _ _ _ he
        · rename_i hi; rw [if_neg hi] at he; exact hQ _ _ _ he
      all_goals exact hQ _ _ _ he) _ _ h
  | .loop live c, _, _, hQ, fr, H, h => Iter_mono (F := fun fr H Q => wpC C c Q (fr.keep live) H) (F' := fun fr H Q => wpC C' c Q (fr.keep live) H) (fun _ _ _ _ hq hf => wpC_mono hC c hq _ _ hf) hQ h
  | .exit _, _, _, hQ, _, _, h => hQ _ _ _ h
  | .ret, _, _, hQ, _, _, h => hQ _ _ _ h
  | .scope c, _, _, hQ, _, _, h => wpC_mono hC c (fun e _ _ he => by cases e <;> first | exact hQ _ _ _ he | exact he) _ _ h
  | .gscope a l live b, _, _, hQ, _, _, h => wpC_mono hC a (fun e fr' H' he => by
      cases e
      case normal => exact IterG_mono (F := fun fr H Q => wpC C b Q (fr.keep live) H) (F' := fun fr H Q => wpC C' b Q (fr.keep live) H) (fun _ _ _ _ hq hf => wpC_mono hC b hq _ _ hf) hQ he
      case goto l => exact he
      all_goals exact hQ _ _ _ he) _ _ h
  | .goto _, _, _, hQ, _, _, h => hQ _ _ _ h
  | .recov _ _, _, _, _, _, _, h => h.elim
  | .orc, _, _, hQ, _, _, h => srt_mono (fun _ hk => hQ _ _ _ hk) h

theorem recB_mono {C C' : CallT} (hC : CLe C C') {F : AFun} {d : Nat} {c : Cd} {x : V} {l : List V} {H : Heap} {K K' : Heap → Prop} (hK : ∀ H, K H → K' H) (h : recB C F d c x l H K) : recB C' F d c x l H K' :=
  ⟨h.1, wpC_mono hC c (fun e fr H he => by
    cases e
    case normal => exact ⟨he.1, he.2.1, hK _ he.2.2⟩
    case ret => exact ⟨he.1, he.2.1, hK _ he.2.2⟩
    all_goals exact he) _ _ h.2⟩
theorem evDs_mono {P : Prog} {C C' : CallT} (hC : CLe C C') {K K' : Heap → Prop} (hK : ∀ H, K H → K' H) : ∀ (l : List (Nat × List V)) (H : Heap), evDs P C K l H → evDs P C' K' l H
  | [], _, h => hK _ h
  | (g, l) :: r, H, h => by
    unfold evDs at h ⊢
    split at h
    · exact recB_mono hC (fun H h => evDs_mono hC hK r H h) h
    · exact ⟨h.1, hC _ _ _ _ _ (fun o H' ho => by
        cases o
        case ret v => exact evDs_mono hC hK r _ ho
        case pan v => exact ho) h.2⟩
theorem evP_mono {P : Prog} {C C' : CallT} (hC : CLe C C') {Q Q' : Out → Heap → Prop} {K K' : Heap → Prop} {v : V} (hQ : ∀ o H, Q o H → Q' o H) (hK : ∀ H, K H → K' H) : ∀ (l : List (Nat × List V)) (H : Heap), evP P C Q K v l H → evP P C' Q' K' v l H
  | [], _, h => hQ _ _ h
  | (g, l) :: r, H, h => by
    unfold evP at h ⊢
    split at h
    · exact recB_mono hC (fun H h => evDs_mono hC hK r H h) h
    · exact ⟨h.1, hC _ _ _ _ _ (fun o H' ho => by
        cases o
        case ret v => exact evP_mono hC hQ hK r _ ho
        case pan v => exact ho) h.2⟩
theorem resK_mono {fr : Fr} {res : List ARes} {Q Q' : Out → Heap → Prop} (hQ : ∀ o H, Q o H → Q' o H) (H : Heap) (h : resK fr res Q H) : resK fr res Q' H := by
  unfold resK at *
  revert h
  cases resOf fr H res with
  | none => exact id
  | some vs => exact hQ _ _

theorem body_mono {P : Prog} {F : AFun} {C C' : CallT} (hC : CLe C C') {l : List V} {H : Heap} {Q Q' : Out → Heap → Prop} (hQ : ∀ o H, Q o H → Q' o H)
    (h : body P F C l H Q) : body P F C' l H Q' := by
  refine ⟨h.1, wpC_mono hC _ (fun e fr' H' he => ?_) _ _ h.2⟩
  cases e
  case pan v => exact ⟨he.1, evP_mono hC hQ (resK_mono hQ) _ _ he.2⟩
  case exit i => exact he
  case goto l => exact he
  all_goals exact ⟨he.1, evDs_mono hC (resK_mono hQ) _ _ he.2⟩

theorem evG_mono {P : Prog} {C C' : CallT} (hC : CLe C C') : CLe (evG P C) (evG P C') := by
  intro g l H Q Q' hQ h
  unfold evG at *
  split at h
  · exact body_mono hC hQ h
  · exact h

theorem Call_le (P : Prog) : CLe (Call P) (Call P) := by
  intro g l H Q Q' hQ h
  refine h (fun g l H Q => ∀ Q', (∀ o H, Q o H → Q' o H) → Call P g l H Q') (fun g l H Q hb Q' hQ => ?_) Q' hQ
  intro I hI
  refine hI _ _ _ _ (evG_mono (fun g l H Q Q' hQ hi => ?_) _ _ _ _ _ hQ hb)
  exact hi Q' hQ I hI

theorem Call_mono {P : Prog} {g : Nat} {l : List V} {H : Heap} {Q Q' : Out → Heap → Prop} (h : Call P g l H Q) (hQ : ∀ o H', Q o H' → Q' o H') : Call P g l H Q' :=
  Call_le P g l H Q Q' hQ h

theorem Call_of {P : Prog} {g : Nat} {l : List V} {H : Heap} {Q : Out → Heap → Prop} (h : evG P (Call P) g l H Q) : Call P g l H Q := by
  intro I hI
  refine hI _ _ _ _ (evG_mono (fun g l H Q Q' hQ hc => ?_) _ _ _ _ _ (fun _ _ h => h) h)
  exact Call_mono hc hQ I hI

theorem Call_iff {P : Prog} {g : Nat} {l : List V} {H : Heap} {Q : Out → Heap → Prop} : Call P g l H Q ↔ evG P (Call P) g l H Q :=
  ⟨fun h => h (evG P (Call P)) (fun g l H Q hb => evG_mono (C := evG P (Call P)) (C' := Call P) (fun _ _ _ _ _ hQ hc => Call_mono (Call_of hc) hQ) g l H Q Q (fun _ _ h => h) hb), Call_of⟩

theorem Iter_of {F : Fr → Heap → Post → Prop} (hF : ∀ fr H Q Q', (∀ e fr H, Q e fr H → Q' e fr H) → F fr H Q → F fr H Q') {Q : Post} {fr : Fr} {H : Heap}
    (h : F fr H (fun e fr' H' => match e with | .normal => Iter F Q fr' H' | e => Q e fr' H')) : Iter F Q fr H := by
  intro I hI
  refine hI _ _ (hF _ _ _ _ (fun e fr' H' he => ?_) h)
  cases e <;> first | exact he | exact he I hI

/-- A function's call, from its body. -/
theorem call_body {P : Prog} {g : Nat} {F : AFun} {l : List V} {H : Heap} {Q : Out → Heap → Prop} (hg : P g = some F) (h : body P F (Call P) l H Q) : Call P g l H Q :=
  Call_of (by unfold evG; rw [hg]; exact h)

/-- A loop, from one round. -/
theorem wp_loop_round {P : Prog} {c : Cd} {live : List Nat} {Q : Post} {fr : Fr} {H : Heap}
    (h : wpC (Call P) c (fun e fr' H' => match e with | .normal => wpC (Call P) (.loop live c) Q fr' H' | e => Q e fr' H') (fr.keep live) H) : wpC (Call P) (.loop live c) Q fr H :=
  Iter_of (F := fun fr H Q => wpC (Call P) c Q (fr.keep live) H) (fun _ _ _ _ hq hf => wpC_mono (Call_le P) c hq _ _ hf) h

/-- A loop, by a relation and a measure. -/
theorem wp_loop_inv {P : Prog} {c : Cd} {live : List Nat} {Q : Post} (I : Nat → Fr → Heap → Prop)
    (round : ∀ n fr H, I n fr H → wpC (Call P) c (fun e fr' H' => match e with | .normal => ∃ m, m < n ∧ I m fr' H' | e => Q e fr' H') (fr.keep live) H) :
    ∀ n fr H, I n fr H → wpC (Call P) (.loop live c) Q fr H := by
  intro n
  induction n using Nat.strongRecOn with
  | _ n ih =>
    intro fr H hi
    refine wp_loop_round (wpC_mono (Call_le P) c (fun e fr' H' he => ?_) _ _ (round n fr H hi))
    cases e <;> first | exact he | (obtain ⟨m, hm, hI⟩ := he; exact ih m hm _ _ hI)

/-- A label, jumped back to while something gets smaller. -/
theorem iterG_inv {P : Prog} {l : Nat} {live : List Nat} {b : Cd} {Q : Post} (I : Nat → Fr → Heap → Prop)
    (round : ∀ n fr H, I n fr H → wpC (Call P) b (jmp l (fun fr' H' => ∃ m, m < n ∧ I m fr' H') Q) (fr.keep live) H) :
    ∀ n fr H, I n fr H → IterG l (fun fr H Q => wpC (Call P) b Q (fr.keep live) H) Q fr H := by
  intro n
  induction n using Nat.strongRecOn with
  | _ n ih =>
    intro fr H h J hJ
    exact hJ fr H (wpC_mono (Call_le P) b (jmp_mono (fun fr' H' ⟨m, hm, hi⟩ => ih m hm fr' H' hi J hJ) fun _ _ _ h => h) _ _ (round n fr H h))
theorem wp_mono {P : Prog} {c : Cd} {Q Q' : Post} {fr : Fr} {H : Heap} (h : wpC (Call P) c Q fr H) (hQ : ∀ e fr H, Q e fr H → Q' e fr H) : wpC (Call P) c Q' fr H :=
  wpC_mono (Call_le P) c hQ _ _ h

theorem gif_of {b : Bool} {A B : Prop} (hA : b = true → A) (hB : b = false → B) : gif b A B := by
  unfold gif; cases b <;> simp_all
theorem gif_true (A B : Prop) : gif true A B = A := by simp [gif]
theorem gif_false (A B : Prop) : gif false A B = B := by simp [gif]

end Go.Ab
/- How an abstract value, an abstract heap stand to the model's: the relations, and what keeps them. Conditions: none. -/
namespace Go.Ab

structure Lk where
  φ : Nat → FuncId
  τ : Nat → TypeId
  dom : Nat → Bool

abbrev Im := Nat → Option (Nat × Nat × Nat)

mutual
def Rel (L : Lk) (ι : Im) : V → Value → Prop
  | .bool b, w => w = .bool b
  | .int k n, w => w = .int k n
  | .flt k b, w => w = .float k b
  | .str s, w => w = .string s
  | .ptr none, w => w = .pointer none
  | .ptr (some (b, o)), w => ∃ c p z, ι b = some (c, p, z) ∧ w = .pointer (some ⟨c, p + o, none⟩)
  | .sl none len cap _, w => len = 0 ∧ cap = 0 ∧ w = .slice none 0 0
  | .sl (some (b, o)) len cap e, w => len ≤ cap ∧ ∃ A cap', w = .slice (some A) len cap' ∧ cap ≤ cap' ∧ (0 < cap' → ∃ c p z q, ι b = some (c, p, z) ∧ A = ⟨c, q, none⟩ ∧ q + cap' * e ≤ z ∧ (0 < cap → q = p + o))
  | .map none, w => w = .map none
  | .map (some r), w => ∃ c z, ι r = some (c, 0, z) ∧ w = .map (some c)
  | .fn g f c, w => ∃ fs cs, w = .func (.func (L.φ g)) fs cs ∧ L.dom g = true ∧ RelL L ι f fs.toList ∧ RelL L ι c cs.toList
  | .nilfn, w => w = .nilFunc
  | .ifc t v, w => ∃ x, w = .iface (L.τ t) x ∧ Rel L ι v x
  | .nilifc, w => w = .nilIface
  | .agg l, w => ∃ vs : Array Value, w = .agg vs ∧ RelL L ι l vs.toList
  | .tup l, w => ∃ vs : Array Value, w = .tuple vs ∧ RelL L ι l vs.toList
  | .un, _ => True
def RelL (L : Lk) (ι : Im) : List V → List Value → Prop
  | [], ws => ws = []
  | v :: r, ws => ∃ w s, ws = w :: s ∧ Rel L ι v w ∧ RelL L ι r s
end

def ILe (ι ι' : Im) : Prop := ∀ b x, ι b = some x → ι' b = some x
theorem ILe.refl (ι : Im) : ILe ι ι := fun _ _ h => h
theorem ILe.trans {a b c : Im} (h : ILe a b) (k : ILe b c) : ILe a c := fun x y e => k x y (h x y e)

mutual
theorem Rel.mono {L : Lk} {ι ι' : Im} (h : ILe ι ι') : ∀ (v : V) (w : Value), Rel L ι v w → Rel L ι' v w
  | .bool b, w, r => r
  | .int k n, w, r => r
  | .flt k b, w, r => r
  | .str s, w, r => r
  | .ptr none, w, r => r
  | .ptr (some (b, o)), w, ⟨c, p, z, e, r⟩ => ⟨c, p, z, h _ _ e, r⟩
  | .sl none len cap _, w, r => r
  | .sl (some (b, o)) len cap e, w, ⟨hl, A, cap', e1, hc, r⟩ => ⟨hl, A, cap', e1, hc, fun hp => let ⟨c, p, z, q, e2, r2⟩ := r hp; ⟨c, p, z, q, h _ _ e2, r2⟩⟩
  | .map none, w, r => r
  | .map (some x), w, ⟨c, z, e, r⟩ => ⟨c, z, h _ _ e, r⟩
  | .fn g f c, w, ⟨fs, cs, e, d, r, s⟩ => ⟨fs, cs, e, d, RelL.mono h f _ r, RelL.mono h c _ s⟩
  | .nilfn, w, r => r
  | .ifc t v, w, ⟨x, e, r⟩ => ⟨x, e, Rel.mono h v x r⟩
  | .nilifc, w, r => r
  | .agg l, w, ⟨vs, e, r⟩ => ⟨vs, e, RelL.mono h l _ r⟩
  | .tup l, w, ⟨vs, e, r⟩ => ⟨vs, e, RelL.mono h l _ r⟩
  | .un, _, _ => trivial
theorem RelL.mono {L : Lk} {ι ι' : Im} (h : ILe ι ι') : ∀ (v : List V) (w : List Value), RelL L ι v w → RelL L ι' v w
  | [], w, r => r
  | v :: l, w, ⟨x, s, e, r, t⟩ => ⟨x, s, e, Rel.mono h v x r, RelL.mono h l s t⟩
end

theorem RelL.length {L : Lk} {ι : Im} : ∀ {v : List V} {w : List Value}, RelL L ι v w → v.length = w.length
  | [], w, r => by rw [show w = [] from r]; rfl
  | _ :: _, _, ⟨_, _, e, _, t⟩ => by rw [e, List.length_cons, List.length_cons, t.length]

theorem RelL.get {L : Lk} {ι : Im} : ∀ {v : List V} {w : List Value} {i : Nat} {x : V}, RelL L ι v w → v[i]? = some x → ∃ y, w[i]? = some y ∧ Rel L ι x y
  | _ :: _, _, 0, _, ⟨y, s, e, r, _⟩, h => by
    rw [List.getElem?_cons_zero] at h; cases h; exact ⟨y, by rw [e]; rfl, r⟩
  | _ :: _, _, i + 1, _, ⟨y, s, e, _, t⟩, h => by
    rw [List.getElem?_cons_succ] at h
    obtain ⟨z, hz, hr⟩ := t.get h
    exact ⟨z, by rw [e]; exact hz, hr⟩

theorem RelL.of_get {L : Lk} {ι : Im} : ∀ {v : List V} {w : List Value}, v.length = w.length → (∀ (i : Nat) (x : V), v[i]? = some x → ∃ y, w[i]? = some y ∧ Rel L ι x y) → RelL L ι v w
  | [], [], _, _ => rfl
  | v :: l, y :: s, hl, h => by
    obtain ⟨y', e, r⟩ := h 0 v rfl
    cases e
    refine ⟨y, s, rfl, r, RelL.of_get (by simpa using hl) fun i x hx => ?_⟩
    obtain ⟨z, hz, hr⟩ := h (i + 1) x (by simpa using hx)
    exact ⟨z, by simpa using hz, hr⟩

theorem RelL.append {L : Lk} {ι : Im} : ∀ {v v' : List V} {w w' : List Value}, RelL L ι v w → RelL L ι v' w' → RelL L ι (v ++ v') (w ++ w')
  | [], _, _, _, h, k => by rw [show _ = [] from h]; exact k
  | _ :: _, _, _, _, ⟨y, s, e, r, t⟩, k => ⟨y, s ++ _, by rw [e]; rfl, r, t.append k⟩

theorem RelL.take {L : Lk} {ι : Im} : ∀ {v : List V} {w : List Value} (n : Nat), RelL L ι v w → RelL L ι (v.take n) (w.take n)
  | [], _, n, h => by rw [show _ = [] from h]; simp [RelL]
  | _ :: _, _, 0, _ => rfl
  | _ :: _, _, n + 1, ⟨y, s, e, r, t⟩ => ⟨y, s.take n, by rw [e]; rfl, r, t.take n⟩

theorem RelL.drop {L : Lk} {ι : Im} : ∀ {v : List V} {w : List Value} (n : Nat), RelL L ι v w → RelL L ι (v.drop n) (w.drop n)
  | [], _, n, h => by rw [show _ = [] from h]; simp [RelL]
  | _ :: _, _, 0, h => h
  | _ :: _, _, n + 1, ⟨y, s, e, r, t⟩ => by rw [e]; exact t.drop n

/-- A value's cells, if their number is told and is not 0. -/
theorem Rel.cells {L : Lk} {ι : Im} {v : V} {w : Value} (h : Rel L ι v w) (hn : 0 < v.cells.length) : RelL L ι v.cells w.cells.toList := by
  cases v with
  | agg l => obtain ⟨vs, rfl, r⟩ := h; exact r
  | un => simp [V.cells] at hn
  | ptr a => cases a with
    | none => exact ⟨w, [], by cases h; rfl, h, rfl⟩
    | some a => obtain ⟨c, p, z, e, rfl⟩ := h; exact ⟨_, [], rfl, ⟨c, p, z, e, rfl⟩, rfl⟩
  | sl a len cap e => cases a with
    | none => exact ⟨w, [], by rw [h.2.2]; rfl, h, rfl⟩
    | some a => obtain ⟨hl, A, cap', rfl, r⟩ := h; exact ⟨_, [], rfl, ⟨hl, A, cap', rfl, r⟩, rfl⟩
  | map a => cases a with
    | none => exact ⟨w, [], by cases h; rfl, h, rfl⟩
    | some a => obtain ⟨c, z, e, rfl⟩ := h; exact ⟨_, [], rfl, ⟨c, z, e, rfl⟩, rfl⟩
  | fn g f c => obtain ⟨fs, cs, rfl, r⟩ := h; exact ⟨_, [], rfl, ⟨fs, cs, rfl, r⟩, rfl⟩
  | ifc t x => obtain ⟨y, rfl, r⟩ := h; exact ⟨_, [], rfl, ⟨y, rfl, r⟩, rfl⟩
  | tup l => obtain ⟨vs, rfl, r⟩ := h; exact ⟨_, [], rfl, ⟨vs, rfl, r⟩, rfl⟩
  | _ => cases h; exact ⟨_, [], rfl, rfl, rfl⟩

theorem Rel.one {L : Lk} {ι : Im} {v : V} {w : Value} (h : Rel L ι v w) (ho : one v = true) : w.oneCell' = true := by
  cases v with
  | agg l => cases ho
  | un => cases ho
  | tup l => cases ho
  | ptr a => cases a with
    | none => cases h; rfl
    | some a => obtain ⟨c, p, z, e, rfl⟩ := h; rfl
  | sl a len cap e => cases a with
    | none => rw [h.2.2]; rfl
    | some a => obtain ⟨hl, A, cap', rfl, r⟩ := h; rfl
  | map a => cases a with
    | none => cases h; rfl
    | some a => obtain ⟨c, z, e, rfl⟩ := h; rfl
  | fn g f c => obtain ⟨fs, cs, rfl, r⟩ := h; rfl
  | ifc t x => obtain ⟨y, rfl, r⟩ := h; rfl
  | _ => cases h; rfl

/-- Entries of a map, in their order. -/
def RelE (L : Lk) (ι : Im) : List (Int × V) → List MapEntry → Prop
  | [], ws => ws = []
  | (k, v) :: r, ws => ∃ e s, ws = e :: s ∧ e.key = .int .i64 k ∧ Rel L ι v e.val ∧ RelE L ι r s

theorem RelE.mono {L : Lk} {ι ι' : Im} (h : ILe ι ι') : ∀ (v : List (Int × V)) (w : List MapEntry), RelE L ι v w → RelE L ι' v w
  | [], _, r => r
  | (_, _) :: l, _, ⟨x, s, e, r, t, u⟩ => ⟨x, s, e, r, Rel.mono h _ _ t, RelE.mono h l s u⟩

/-- How a block stands to the model's. -/
def Okay (L : Lk) (ι : Im) (p z : Nat) : Obj → Option Go.Obj → Prop
  | .cells l wr, x => ∃ arr ty fz, x = some (.cells arr ty fz) ∧ arr.size = z ∧ p + l.length ≤ z ∧ (wr = true → fz.2 ≤ fz.1) ∧ ∀ i v, l[i]? = some v → ∃ v', arr[p + i]? = some v' ∧ Rel L ι v v'
  | .map es, x => ∃ es' : Array MapEntry, x = some (.map es' es'.size) ∧ RelE L ι es es'.toList ∧ ∀ (i : Nat) (e : MapEntry), es'[i]? = some e → e.born = i
  | .iter m since seen, x => p = 0 ∧ ∃ c zz seen', x = some (.mapIter (some c) since seen' since) ∧ ι m = some (c, 0, zz) ∧ seen'.toList = seen
  | .dead, _ => True

theorem Okay.mono {L : Lk} {ι ι' : Im} (h : ILe ι ι') {p z : Nat} {o : Obj} {x : Option Go.Obj} (r : Okay L ι p z o x) : Okay L ι' p z o x := by
  cases o with
  | cells l wr =>
    obtain ⟨arr, ty, fz, e, e2, e3, e4, e5⟩ := r
    exact ⟨arr, ty, fz, e, e2, e3, e4, fun i v hv => let ⟨v', h1, h2⟩ := e5 i v hv; ⟨v', h1, Rel.mono h _ _ h2⟩⟩
  | map es => obtain ⟨es', e, r, hb⟩ := r; exact ⟨es', e, RelE.mono h _ _ r, hb⟩
  | iter m since seen => obtain ⟨h0, c, zz, seen', e, hm, hs⟩ := r; exact ⟨h0, c, zz, seen', e, h _ _ hm, hs⟩
  | dead => trivial

def RO (H : Heap) (b : Nat) : Prop := ∃ l, H.get b = .cells l false

structure Sim (L : Lk) (ι : Im) (H : Heap) (w : World) : Prop where
  dn : ∀ b, H.next ≤ b → H.get b = .dead
  nx : ∀ b, H.next ≤ b → ι b = none
  lt : ∀ b c p z, ι b = some (c, p, z) → c < w.heap.size
  ok : ∀ b c p z, ι b = some (c, p, z) → Okay L ι p z (H.get b) w.heap[c]?
  inj : ∀ b b' c p z p' z', ι b = some (c, p, z) → ι b' = some (c, p', z') → H.get b ≠ .dead → H.get b' ≠ .dead → ¬ RO H b → b = b'

structure Ext (ι : Im) (H : Heap) (w : World) (ι' : Im) (H' : Heap) (w' : World) : Prop where
  le : ILe ι ι'
  hs : w.heap.size ≤ w'.heap.size
  hn : H.next ≤ H'.next
  ro : ∀ b l, b < H.next → H.get b = .cells l false → H'.get b = .cells l false
  new : ∀ b c p z, ι b = none → ι' b = some (c, p, z) → w.heap.size ≤ c ∨ ∃ b0 p0 z0, ι b0 = some (c, p0, z0) ∧ ¬ RO H b0
  kept : ∀ c, c < w.heap.size → (∀ b p z, ι b = some (c, p, z) → RO H b) → w'.heap[c]? = w.heap[c]?
  dom : ∀ b, b < H.next → ι b = none → ι' b = none
  os : w'.os = w.os
  tape : w'.tape = w.tape
  output : w'.output = w.output

theorem Ext.refl (ι : Im) (H : Heap) (w : World) : Ext ι H w ι H w :=
  ⟨ILe.refl _, Nat.le_refl _, Nat.le_refl _, fun _ _ _ h => h, (fun _ _ _ _ h k => by rw [h] at k; cases k), fun _ _ _ => rfl, fun _ _ h => h, rfl, rfl, rfl⟩

theorem Ext.trans {L : Lk} {ι ι' ι'' : Im} {H H' H'' : Heap} {w w' w'' : World} (s : Sim L ι H w) (s' : Sim L ι' H' w') (h : Ext ι H w ι' H' w') (k : Ext ι' H' w' ι'' H'' w'') : Ext ι H w ι'' H'' w'' := by
  have low : ∀ b c p z, ι b = some (c, p, z) → b < H.next := fun b c p z e => by
    rcases Nat.lt_or_ge b H.next with hb | hb
    · exact hb
    · rw [s.nx b hb] at e; cases e
  have back : ∀ b c p z, ι' b = some (c, p, z) → ¬ RO H' b → w.heap.size ≤ c ∨ ∃ b0 p0 z0, ι b0 = some (c, p0, z0) ∧ ¬ RO H b0 := fun b c p z e hr => by
    cases hb : ι b with
    | none => exact h.new b c p z hb e
    | some x =>
      have := h.le b x hb
      rw [e] at this
      cases this
      refine .inr ⟨b, p, z, hb, fun ⟨l, hl⟩ => hr ⟨l, h.ro b l (low b _ _ _ hb) hl⟩⟩
  refine ⟨h.le.trans k.le, Nat.le_trans h.hs k.hs, Nat.le_trans h.hn k.hn, fun b l hb hl => k.ro b l (Nat.lt_of_lt_of_le hb h.hn) (h.ro b l hb hl), fun b c p z e e' => ?_, fun c hc hk => ?_,
    fun b hb e => k.dom b (Nat.lt_of_lt_of_le hb h.hn) (h.dom b hb e), k.os.trans h.os, k.tape.trans h.tape, k.output.trans h.output⟩
  · cases hb : ι' b with
    | some x =>
      have := k.le b x hb
      rw [e'] at this
      cases this
      exact h.new b c p z e hb
    | none =>
      rcases k.new b c p z hb e' with h1 | ⟨b0, p0, z0, h1, h2⟩
      · exact .inl (Nat.le_trans h.hs h1)
      · exact back b0 c p0 z0 h1 h2
  · rw [k.kept c (Nat.lt_of_lt_of_le hc h.hs) (fun b p z e => ?_), h.kept c hc hk]
    rcases Classical.em (RO H' b) with hr | hr
    · exact hr
    · rcases back b c p z e hr with h1 | ⟨b0, p0, z0, h1, h2⟩
      · omega
      · exact absurd (hk b0 p0 z0 h1) h2

/-- The temporaries. -/
def FrRel (L : Lk) (ι : Im) (fr : Fr) (tmps : Array Value) : Prop := ∀ t v, fr.get t = some v → ∃ v', tmps[t]? = some v' ∧ Rel L ι v v'

theorem FrRel.mono {L : Lk} {ι ι' : Im} (h : ILe ι ι') {fr : Fr} {tmps : Array Value} (r : FrRel L ι fr tmps) : FrRel L ι' fr tmps :=
  fun t v hv => let ⟨v', h1, h2⟩ := r t v hv; ⟨v', h1, Rel.mono h _ _ h2⟩

theorem FrRel.put {L : Lk} {ι : Im} {fr : Fr} {tmps : Array Value} (r : FrRel L ι fr tmps) {d : Nat} {v : V} {w : Value} (hd : d < tmps.size) (hv : Rel L ι v w) :
    FrRel L ι (fr.put (some d) v) (tmps.setIfInBounds d w) := by
  intro t x hx
  simp only [Fr.get, Fr.put, look] at hx
  split at hx
  · rename_i hdt
    cases hx
    subst hdt
    exact ⟨w, by simp [hd], hv⟩
  · rename_i hdt
    obtain ⟨v', h1, h2⟩ := r t x hx
    exact ⟨v', by rw [Array.getElem?_setIfInBounds_ne hdt]; exact h1, h2⟩

theorem look_keepL {tm : List (Nat × V)} : ∀ {l : List Nat} {t : Nat} {v : V}, look (keepL tm l) t = some v → look tm t = some v
  | [], _, _, h => by cases h
  | a :: l, t, v, h => by
    unfold keepL at h
    split at h
    · rename_i x hx
      simp only [look] at h
      split at h
      · rename_i e; cases h; subst e; exact hx
      · exact look_keepL h
    · exact look_keepL h

theorem FrRel.keep {L : Lk} {ι : Im} {fr : Fr} {tmps : Array Value} (r : FrRel L ι fr tmps) (l : List Nat) : FrRel L ι (fr.keep l) tmps :=
  fun t v hv => r t v (look_keepL hv)

end Go.Ab
/- Loads, stores, new blocks: what they do to the model's world and to the abstract heap, side by side. Conditions: none. -/
namespace Go.Ab
variable {L : Lk} {ι : Im} {H : Heap} {w : World} {P : Program}

theorem add_at (c q i : Nat) : Addr.add ⟨c, q, none⟩ i = ⟨c, q + i, none⟩ := by
  unfold Addr.add; split
  · rename_i h; subst h; rfl
  · rfl

theorem cell_at {arr : Array Value} {ty : TypeId} {fz : Nat × Nat} {c : Nat} (h : w.heap[c]? = some (.cells arr ty fz)) (o : Nat) : w.cell? ⟨c, o, none⟩ = arr[o]? := by
  simp [World.cell?, h]

theorem frozen_at {arr : Array Value} {ty : TypeId} {fz : Nat × Nat} {c : Nat} (h : w.heap[c]? = some (.cells arr ty fz)) (hz : fz.2 ≤ fz.1) (o : Nat) : w.frozen? ⟨c, o, none⟩ = false := by
  simp only [World.frozen?, h]; simp; omega

theorem run_load_some {a : Addr} {v : Value} (h : w.cell? a = some v) : (load a).run P w = .ok v w := by simp [h]

theorem run_loadCellsFrom (c q : Nat) : ∀ (n i : Nat) (acc : Array Value) (l : List Value), l.length = n → (∀ j v, l[j]? = some v → w.cell? ⟨c, q + (i + j), none⟩ = some v) →
    (loadCellsFrom ⟨c, q, none⟩ i n acc).run P w = .ok (acc ++ l.toArray) w
  | 0, i, acc, l, hl, _ => by
    have : l = [] := List.eq_nil_of_length_eq_zero hl
    subst this
    simp [loadCellsFrom]
  | n + 1, i, acc, [], hl, _ => by simp at hl
  | n + 1, i, acc, x :: l, hl, h => by
    have h0 := h 0 x rfl
    simp only [loadCellsFrom, Sem.run_bind, add_at]
    rw [run_load_some (by simpa using h0)]
    simp only [Result.andThen_ok]
    rw [run_loadCellsFrom c q n (i + 1) (acc.push x) l (by simpa using hl) (fun j v hv => by
      have := h (j + 1) v (by simpa using hv)
      rw [show q + (i + (j + 1)) = q + (i + 1 + j) by omega] at this; exact this)]
    simp

theorem run_loadCells (c q n : Nat) (l : List Value) (hl : l.length = n) (h : ∀ (j : Nat) (v : Value), l[j]? = some v → w.cell? ⟨c, q + j, none⟩ = some v) :
    (loadCells ⟨c, q, none⟩ n).run P w = .ok l.toArray w := by
  unfold loadCells
  rw [run_loadCellsFrom c q n 0 #[] l hl (by simpa using h)]
  simp

/-- A list written over a row. -/
def stA (arr : Array Value) (q : Nat) : List Value → Array Value
  | [] => arr
  | v :: r => stA (arr.setIfInBounds q v) (q + 1) r

theorem stA_size : ∀ (l : List Value) (arr : Array Value) (q : Nat), (stA arr q l).size = arr.size
  | [], _, _ => rfl
  | _ :: l, _, _ => by rw [stA, stA_size l]; simp

theorem stA_get : ∀ (l : List Value) (arr : Array Value) (q j : Nat), q + l.length ≤ arr.size → (stA arr q l)[j]? = if q ≤ j ∧ j < q + l.length then l[j - q]? else arr[j]?
  | [], arr, q, j, _ => by rw [stA, if_neg (by simp)]
  | v :: l, arr, q, j, h => by
    rw [stA, stA_get l _ _ _ (by simp at h ⊢; omega)]
    simp only [List.length_cons] at h ⊢
    by_cases h1 : q = j
    · subst h1
      rw [if_neg (by omega), if_pos (by omega)]
      have : q < arr.size := by omega
      simp [this]
    · by_cases h2 : q + 1 ≤ j ∧ j < q + 1 + l.length
      · rw [if_pos h2, if_pos (by omega), show j - q = (j - (q + 1)) + 1 by omega, List.getElem?_cons_succ]
      · rw [if_neg h2, if_neg (by omega), Array.getElem?_setIfInBounds_ne h1]

def stW (w : World) (c q : Nat) : List Value → World
  | [] => w
  | v :: r => stW (w.setCell ⟨c, q, none⟩ v) c (q + 1) r

theorem setCell_heap {arr : Array Value} {ty : TypeId} {fz : Nat × Nat} {c : Nat} (h : w.heap[c]? = some (.cells arr ty fz)) (q : Nat) (v : Value) :
    (w.setCell ⟨c, q, none⟩ v).heap[c]? = some (.cells (arr.setIfInBounds q v) ty fz) := by
  simp [World.setCell, Array.getElem?_modify, h]

theorem setCell_other {c k : Nat} (q : Nat) (v : Value) (hk : k ≠ c) : (w.setCell ⟨c, q, none⟩ v).heap[k]? = w.heap[k]? := by
  simp only [World.setCell, Array.getElem?_modify]; rw [if_neg (by omega)]

theorem stW_heap : ∀ (l : List Value) (w : World) {arr : Array Value} {ty : TypeId} {fz : Nat × Nat} {c : Nat} (q : Nat), w.heap[c]? = some (.cells arr ty fz) →
    (stW w c q l).heap[c]? = some (.cells (stA arr q l) ty fz)
  | [], _, _, _, _, _, _, h => h
  | v :: l, w, _, _, _, _, q, h => stW_heap l _ (q + 1) (setCell_heap h q v)

theorem stW_other : ∀ (l : List Value) (w : World) {c k : Nat} (q : Nat), k ≠ c → (stW w c q l).heap[k]? = w.heap[k]?
  | [], _, _, _, _, _ => rfl
  | v :: l, w, _, _, q, hk => by rw [stW, stW_other l _ (q + 1) hk, setCell_other q v hk]

theorem stW_same : ∀ (l : List Value) (w : World) (c q : Nat), (stW w c q l).heap.size = w.heap.size ∧ (stW w c q l).os = w.os ∧ (stW w c q l).tape = w.tape ∧ (stW w c q l).output = w.output
  | [], _, _, _ => ⟨rfl, rfl, rfl, rfl⟩
  | v :: l, w, c, q => by
    obtain ⟨h1, h2, h3, h4⟩ := stW_same l (w.setCell ⟨c, q, none⟩ v) c (q + 1)
    exact ⟨h1.trans (by simp [World.setCell]), h2, h3, h4⟩

theorem run_storeCells (c q : Nat) : ∀ (l : List Value) (w : World) {arr : Array Value} {ty : TypeId} {fz : Nat × Nat} (i : Nat), w.heap[c]? = some (.cells arr ty fz) → fz.2 ≤ fz.1 →
    q + i + l.length ≤ arr.size → (∀ v ∈ l, v.oneCell' = true) → (storeCells ⟨c, q, none⟩ l i).run P w = .ok () (stW w c (q + i) l)
  | [], w, _, _, _, i, _, _, _, _ => rfl
  | v :: l, w, arr, ty, fz, i, h, hz, hl, ho => by
    simp only [List.length_cons] at hl
    have hc : w.cell? ⟨c, q + i, none⟩ = some arr[q + i] := by rw [cell_at h]; simp
    rw [storeCells, Sem.run_bind, add_at, run_store P w _ v .plain (ho v (by simp)), hc]
    simp only [frozen_at h hz, Bool.false_eq_true, if_false, Result.andThen_ok]
    rw [run_storeCells c q l _ (i + 1) (setCell_heap h (q + i) v) hz (by simp; omega) (fun x hx => ho x (by simp [hx]))]
    rfl

/-! ### A load -/
theorem Sim.row {l : List V} {wr : Bool} {b c p z : Nat} (s : Sim L ι H w) (hb : ι b = some (c, p, z)) (hg : H.get b = .cells l wr) :
    ∃ arr ty fz, w.heap[c]? = some (.cells arr ty fz) ∧ arr.size = z ∧ p + l.length ≤ z ∧ (wr = true → fz.2 ≤ fz.1) ∧ ∀ (i : Nat) (v : V), l[i]? = some v → ∃ v', arr[p + i]? = some v' ∧ Rel L ι v v' := by
  have := s.ok b c p z hb; rw [hg] at this; exact this

theorem Sim.load1 {v : V} {b c p z o : Nat} (s : Sim L ι H w) (hb : ι b = some (c, p, z)) (h : rd H none b o = some v) : ∃ v', w.cell? ⟨c, p + o, none⟩ = some v' ∧ Rel L ι v v' := by
  unfold rd at h
  split at h
  · rename_i l wr hg
    obtain ⟨arr, ty, fz, e, _, _, _, h5⟩ := s.row hb hg
    obtain ⟨v', e1, e2⟩ := h5 o v h
    exact ⟨v', by rw [cell_at e]; exact e1, e2⟩
  · cases h

/-- What stands in the model's block where the abstract one has a piece. -/
theorem Sim.piece {l cs : List V} {wr : Bool} {b c p z o n : Nat} (s : Sim L ι H w) (hb : ι b = some (c, p, z)) (hg : H.get b = .cells l wr) (h : piece l o n = some cs) :
    ∃ ws : List Value, RelL L ι cs ws ∧ ws.length = n ∧ ∀ (j : Nat) (v : Value), ws[j]? = some v → w.cell? ⟨c, p + o + j, none⟩ = some v := by
  unfold Ab.piece at h
  split at h
  · rename_i hlen
    cases h
    obtain ⟨arr, ty, fz, e, e2, e3, _, h5⟩ := s.row hb hg
    have hget : ∀ (j : Nat), j < n → ((List.drop (p + o) arr.toList).take n)[j]? = arr[p + o + j]? := fun j hj => by
      rw [List.getElem?_take, if_pos hj, List.getElem?_drop, Array.getElem?_toList]
    have hl : ((List.drop (p + o) arr.toList).take n).length = n := by simp; omega
    refine ⟨(List.drop (p + o) arr.toList).take n, RelL.of_get (by rw [hl]; simp; omega) (fun i x hx => ?_), hl, fun j v hv => ?_⟩
    · have hi : i < n := by
        rcases Nat.lt_or_ge i n with h | h
        · exact h
        · rw [List.getElem?_take, if_neg (by omega)] at hx; cases hx
      rw [List.getElem?_take, if_pos hi, List.getElem?_drop] at hx
      obtain ⟨v', e1, e2⟩ := h5 _ _ hx
      exact ⟨v', by rw [hget i hi, Nat.add_assoc]; exact e1, e2⟩
    · have hj : j < n := by
        rcases Nat.lt_or_ge j n with h | h
        · exact h
        · rw [List.getElem?_eq_none (by omega)] at hv; cases hv
      rw [cell_at e, ← hget j hj]; exact hv
  · cases h

theorem Sim.loadN {v : V} {b c p z o n : Nat} (s : Sim L ι H w) (hb : ι b = some (c, p, z)) (h : rd H (some n) b o = some v) :
    ∃ arr : Array Value, (loadCells ⟨c, p + o, none⟩ n).run P w = .ok arr w ∧ Rel L ι v (.agg arr) := by
  unfold rd at h
  split at h
  · rename_i l wr hg
    simp only [Option.map_eq_some_iff] at h
    obtain ⟨cs, hp, rfl⟩ := h
    obtain ⟨ws, h1, h2, h3⟩ := s.piece hb hg hp
    exact ⟨ws.toArray, run_loadCells c (p + o) n ws h2 h3, ws.toArray, rfl, by simpa using h1⟩
  · cases h

/-! ### A store -/
theorem over_get (l vs : List V) (o j : Nat) (h : o + vs.length ≤ l.length) : (over l o vs)[j]? = if o ≤ j ∧ j < o + vs.length then vs[j - o]? else l[j]? := by
  unfold over
  by_cases h1 : j < o
  · rw [if_neg (by omega), List.append_assoc, List.getElem?_append_left (by simp; omega), List.getElem?_take, if_pos h1]
  · by_cases h2 : j < o + vs.length
    · rw [if_pos (by omega), List.getElem?_append_left (by simp; omega), List.getElem?_append_right (by simp; omega)]
      congr 1; simp; omega
    · rw [if_neg (by omega), List.getElem?_append_right (by simp; omega), List.getElem?_drop]
      congr 1; simp; omega

theorem over_length (l vs : List V) (o : Nat) (h : o + vs.length ≤ l.length) : (over l o vs).length = l.length := by
  unfold over; simp; omega

theorem not_ro {l : List V} {b : Nat} (h : H.get b = .cells l true) : ¬ RO H b := fun ⟨l', e⟩ => by rw [h] at e; cases e

theorem Sim.put {l vs : List V} {ws : List Value} {b c p z o : Nat} (s : Sim L ι H w) (hb : ι b = some (c, p, z)) (hg : H.get b = .cells l true) (hl : o + vs.length ≤ l.length)
    (hr : RelL L ι vs ws) : Sim L ι (H.put b (.cells (over l o vs) true)) (stW w c (p + o) ws) ∧ Ext ι H w ι (H.put b (.cells (over l o vs) true)) (stW w c (p + o) ws) := by
  obtain ⟨arr, ty, fz, e, e2, e3, e4, h5⟩ := s.row hb hg
  obtain ⟨w1, w2, w3, w4⟩ := stW_same ws w c (p + o)
  have hlen := hr.length
  have hlive : H.get b ≠ .dead := by rw [hg]; intro h; cases h
  have hget : ∀ x, (H.put b (.cells (over l o vs) true)).get x = if x = b then .cells (over l o vs) true else H.get x := fun _ => rfl
  refine ⟨⟨fun x hx => by
      have : x ≠ b := fun hxb => by subst hxb; rw [s.nx x hx] at hb; cases hb
      rw [hget, if_neg this]; exact s.dn x hx, fun x hx => s.nx x hx, fun x c' p' z' hx => by rw [w1]; exact s.lt x c' p' z' hx, fun x c' p' z' hx => ?_, fun x y c' p1 z1 p2 z2 hx hy lx ly lr => ?_⟩,
    ⟨ILe.refl _, by rw [w1]; exact Nat.le_refl _, Nat.le_refl _, fun x lx _ hx => ?_, (fun x _ _ _ h1 h2 => by rw [h1] at h2; cases h2), fun k hk hro => ?_, fun _ _ h => h, w2, w3, w4⟩⟩
  · rw [hget]
    by_cases hxb : x = b
    · subst hxb
      rw [hb] at hx; cases hx
      rw [if_pos rfl]
      refine ⟨stA arr (p + o) ws, ty, fz, stW_heap ws w (p + o) e, by rw [stA_size, e2], by rw [over_length l vs o hl]; exact e3, e4, fun i v hv => ?_⟩
      rw [stA_get ws arr (p + o) _ (by omega)]
      rw [over_get l vs o i hl] at hv
      by_cases hi : o ≤ i ∧ i < o + vs.length
      · rw [if_pos hi] at hv
        rw [if_pos (by omega), show p + i - (p + o) = i - o by omega]
        exact hr.get hv
      · rw [if_neg hi] at hv
        rw [if_neg (by omega)]
        exact h5 i v hv
    · rw [if_neg hxb]
      have h0 := s.ok x c' p' z' hx
      by_cases hcc : c' = c
      · subst hcc
        cases hgx : H.get x with
        | dead => trivial
        | cells l' wr' => exact absurd (s.inj b x c' p z p' z' hb hx hlive (by rw [hgx]; intro h; cases h) (not_ro hg)).symm hxb
        | map es => exact absurd (s.inj b x c' p z p' z' hb hx hlive (by rw [hgx]; intro h; cases h) (not_ro hg)).symm hxb
        | iter m since seen => exact absurd (s.inj b x c' p z p' z' hb hx hlive (by rw [hgx]; intro h; cases h) (not_ro hg)).symm hxb
      · rw [stW_other ws w (p + o) hcc]; exact h0
  · have live : ∀ x, (H.put b (.cells (over l o vs) true)).get x ≠ .dead → H.get x ≠ .dead := fun x hx => by
      rw [hget] at hx
      by_cases hxb : x = b
      · subst hxb; exact hlive
      · rw [if_neg hxb] at hx; exact hx
    refine s.inj x y c' p1 z1 p2 z2 hx hy (live x lx) (live y ly) (fun ⟨l', e⟩ => ?_)
    by_cases hxb : x = b
    · subst hxb; exact not_ro hg ⟨l', e⟩
    · exact lr ⟨l', by rw [hget, if_neg hxb]; exact e⟩
  · rw [hget]
    by_cases hxb : x = b
    · subst hxb; rw [hg] at hx; cases hx
    · rw [if_neg hxb]; exact hx
  · refine stW_other ws w (p + o) (fun hkc => ?_)
    subst hkc
    obtain ⟨l', hl'⟩ := hro b p z hb
    rw [hg] at hl'; cases hl'

/-! ### A new block -/
def upd (ι : Im) (b c p z : Nat) : Im := fun x => if x = b then some (c, p, z) else ι x

theorem ILe.upd {b c p z : Nat} (h : ι b = none) : ILe ι (upd ι b c p z) := fun x y e => by
  unfold Ab.upd; by_cases hx : x = b
  · subst hx; rw [h] at e; cases e
  · rw [if_neg hx]; exact e

def pushW (w : World) (arr : Array Value) (ty : TypeId) : World := { w with heap := w.heap.push (.cells arr ty) }

theorem pushW_old (arr : Array Value) (ty : TypeId) {k : Nat} (h : k < w.heap.size) : (pushW w arr ty).heap[k]? = w.heap[k]? := by
  show (w.heap.push _)[k]? = _; rw [Array.getElem?_push, if_neg (by omega)]
theorem pushW_new (arr : Array Value) (ty : TypeId) : (pushW w arr ty).heap[w.heap.size]? = some (.cells arr ty) := by
  show (w.heap.push _)[w.heap.size]? = _; simp

/-- A block that the heap has, and the world had not: it is laid now. -/
theorem Sim.lay {l : List V} {b : Nat} {arr : Array Value} {ι0 : Im} {H0 : Heap} {w0 : World} (ty : TypeId) (s0 : Sim L ι0 H0 w0) (s : Sim L ι H w) (x0 : Ext ι0 H0 w0 ι H w) (h0 : H0.next ≤ b) (hb : ι b = none)
    (hn : b < H.next) (hg : H.get b = .cells l true) (hl : l.length ≤ arr.size) (hr : ∀ (i : Nat) (v : V), l[i]? = some v → ∃ v', arr[i]? = some v' ∧ Rel L ι v v') :
    Sim L (upd ι b w.heap.size 0 arr.size) H (pushW w arr ty) ∧ Ext ι0 H0 w0 (upd ι b w.heap.size 0 arr.size) H (pushW w arr ty) := by
  have hle : ILe ι (Ab.upd ι b w.heap.size 0 arr.size) := ILe.upd hb
  have hsz : (pushW w arr ty).heap.size = w.heap.size + 1 := by simp [pushW]
  have hold : ∀ x c p z, x ≠ b → Ab.upd ι b w.heap.size 0 arr.size x = some (c, p, z) → ι x = some (c, p, z) := fun x c p z hx e => by
    unfold Ab.upd at e; rw [if_neg hx] at e; exact e
  have hnew : Ab.upd ι b w.heap.size 0 arr.size b = some (w.heap.size, 0, arr.size) := by unfold Ab.upd; rw [if_pos rfl]
  refine ⟨⟨s.dn, fun x hx => ?_, fun x c p z e => ?_, fun x c p z e => ?_, fun x y c p1 z1 p2 z2 ex ey lx ly lr => ?_⟩,
    ⟨x0.le.trans hle, Nat.le_trans x0.hs (by omega), x0.hn, x0.ro, fun x c p z e e' => ?_, fun k hk hro => ?_, fun x hx e => ?_, x0.os, x0.tape, x0.output⟩⟩
  · have hxb : x ≠ b := by omega
    unfold Ab.upd; rw [if_neg hxb]; exact s.nx x hx
  · rw [hsz]
    by_cases hx : x = b
    · subst hx; rw [hnew] at e; cases e; omega
    · have := s.lt x c p z (hold x c p z hx e); omega
  · by_cases hx : x = b
    · subst hx; rw [hnew] at e; cases e
      rw [hg]
      refine ⟨arr, ty, (0, 0), pushW_new arr ty, rfl, by omega, fun _ => Nat.le_refl _, fun i v hv => ?_⟩
      obtain ⟨v', h1, h2⟩ := hr i v hv
      exact ⟨v', by rw [Nat.zero_add]; exact h1, Rel.mono hle _ _ h2⟩
    · have e0 := hold x c p z hx e
      rw [pushW_old arr ty (s.lt x c p z e0)]
      exact (s.ok x c p z e0).mono hle
  · by_cases hx : x = b
    · subst hx
      rw [hnew] at ex; cases ex
      by_cases hy : y = x
      · exact hy.symm
      · have := s.lt y _ _ _ (hold y _ _ _ hy ey); omega
    · have ex0 := hold x _ _ _ hx ex
      by_cases hy : y = b
      · subst hy
        rw [hnew] at ey; cases ey
        have := s.lt x _ _ _ ex0; omega
      · exact s.inj x y c p1 z1 p2 z2 ex0 (hold y _ _ _ hy ey) lx ly lr
  · by_cases hx : x = b
    · subst hx; rw [hnew] at e'; cases e'; exact .inl x0.hs
    · exact x0.new x c p z e (hold x c p z hx e')
  · rw [pushW_old arr ty (Nat.lt_of_lt_of_le hk x0.hs)]; exact x0.kept k hk hro
  · have hx2 : x ≠ b := by omega
    unfold Ab.upd; rw [if_neg hx2]; exact x0.dom x hx e

/-- A new block on the heap alone. -/
theorem Sim.ghost (s : Sim L ι H w) (o : Obj) : Sim L ι (H.new o) w ∧ Ext ι H w ι (H.new o) w := by
  have hget : ∀ x, x < H.next → (H.new o).get x = H.get x := fun x hx => by
    show (if x = H.next then o else H.get x) = _; rw [if_neg (by omega)]
  have low : ∀ b x, ι b = some x → b < H.next := fun b x e => by
    rcases Nat.lt_or_ge b H.next with hb | hb
    · exact hb
    · rw [s.nx b hb] at e; cases e
  refine ⟨⟨fun b hb => by
      have hn : (H.new o).next = H.next + 1 := rfl
      show (if b = H.next then o else H.get b) = _
      rw [if_neg (by omega)]; exact s.dn b (by omega), fun b hb => s.nx b (by have : (H.new o).next = H.next + 1 := rfl; omega), s.lt, fun b c p z e => by rw [hget b (low b _ e)]; exact s.ok b c p z e,
    fun x y c p1 z1 p2 z2 ex ey lx ly lr => ?_⟩, ⟨ILe.refl _, Nat.le_refl _, Nat.le_succ _, fun b l hb hl => by rw [hget b hb]; exact hl, (fun b c p z e e' => by rw [e] at e'; cases e'),
    fun _ _ _ => rfl, fun _ _ h => h, rfl, rfl, rfl⟩⟩
  rw [hget x (low x _ ex)] at lx
  rw [hget y (low y _ ey)] at ly
  exact s.inj x y c p1 z1 p2 z2 ex ey lx ly (fun ⟨l', e⟩ => lr ⟨l', by rw [hget x (low x _ ex)]; exact e⟩)

theorem new_get (o : Obj) : (H.new o).get H.next = o := by show (if H.next = H.next then o else _) = o; rw [if_pos rfl]

/-- Both at once. -/
theorem Sim.fresh {l : List V} {arr : Array Value} (ty : TypeId) (s : Sim L ι H w) (hl : l.length ≤ arr.size)
    (hr : ∀ (i : Nat) (v : V), l[i]? = some v → ∃ v', arr[i]? = some v' ∧ Rel L ι v v') :
    Sim L (upd ι H.next w.heap.size 0 arr.size) (H.new (.cells l true)) (pushW w arr ty) ∧ Ext ι H w (upd ι H.next w.heap.size 0 arr.size) (H.new (.cells l true)) (pushW w arr ty) := by
  obtain ⟨s1, x1⟩ := s.ghost (.cells l true)
  exact Sim.lay (b := H.next) ty s s1 x1 (Nat.le_refl _) (s.nx _ (Nat.le_refl _)) (Nat.lt_succ_self _) (new_get _) hl hr

/-- A block dies. -/
theorem Sim.kill (s : Sim L ι H w) {b : Nat} {l : List V} (hg : H.get b = .cells l true) : Sim L ι (H.put b .dead) w ∧ Ext ι H w ι (H.put b .dead) w := by
  have hget : ∀ x, (H.put b .dead).get x = if x = b then .dead else H.get x := fun _ => rfl
  refine ⟨⟨fun x hx => by
      rw [hget]
      by_cases hxb : x = b
      · rw [if_pos hxb]
      · rw [if_neg hxb]; exact s.dn x hx, s.nx, s.lt, fun x c p z e => ?_, fun x y c p1 z1 p2 z2 ex ey lx ly lr => ?_⟩, ⟨ILe.refl _, Nat.le_refl _, Nat.le_refl _, fun x lx _ hx => ?_, (fun x c p z e e' => by rw [e] at e'; cases e'),
    fun _ _ _ => rfl, fun _ _ h => h, rfl, rfl, rfl⟩⟩
  · rw [hget]; by_cases hx : x = b
    · rw [if_pos hx]; trivial
    · rw [if_neg hx]; exact s.ok x c p z e
  · rw [hget] at lx ly
    by_cases hx : x = b
    · rw [if_pos hx] at lx; exact absurd rfl lx
    · by_cases hy : y = b
      · rw [if_pos hy] at ly; exact absurd rfl ly
      · rw [if_neg hx] at lx; rw [if_neg hy] at ly; exact s.inj x y c p1 z1 p2 z2 ex ey lx ly (fun ⟨l', e⟩ => lr ⟨l', by rw [hget, if_neg hx]; exact e⟩)
  · rw [hget]; by_cases hxb : x = b
    · subst hxb; rw [hg] at hx; cases hx
    · rw [if_neg hxb]; exact hx

/-- A row that grows where it stands: its block dies, another one has its place and what is written behind. -/
theorem Sim.grow {l old new : List V} {ws : List Value} {b c p z o q n : Nat} (s : Sim L ι H w) (hb : ι b = some (c, p, z)) (hg : H.get b = .cells l true) (hp : Ab.piece l o n = some old)
    (hq : 0 < n → q = p + o) (hz : q + n + new.length ≤ z) (hr : RelL L ι new ws) :
    Sim L (upd ι H.next c q z) ((H.put b .dead).new (.cells (old ++ new) true)) (stW w c (q + n) ws) ∧
      Ext ι H w (upd ι H.next c q z) ((H.put b .dead).new (.cells (old ++ new) true)) (stW w c (q + n) ws) := by
  obtain ⟨arr, ty, fz, e, e2, e3, e4, h5⟩ := s.row hb hg
  obtain ⟨w1, w2, w3, w4⟩ := stW_same ws w c (q + n)
  have hlen := hr.length
  have hlive : H.get b ≠ .dead := by rw [hg]; intro h; cases h
  have hnx := s.nx H.next (Nat.le_refl _)
  have hle : ILe ι (upd ι H.next c q z) := ILe.upd hnx
  have low : ∀ b x, ι b = some x → b < H.next := fun b x e => by
    rcases Nat.lt_or_ge b H.next with hb | hb
    · exact hb
    · rw [s.nx b hb] at e; cases e
  have hbn := low b _ hb
  have hold : ∀ x y, x ≠ H.next → upd ι H.next c q z x = some y → ι x = some y := fun x y hx e => by
    unfold Ab.upd at e; rw [if_neg hx] at e; exact e
  have hnew : upd ι H.next c q z H.next = some (c, q, z) := by unfold Ab.upd; rw [if_pos rfl]
  have hget : ∀ x, ((H.put b .dead).new (.cells (old ++ new) true)).get x = if x = H.next then .cells (old ++ new) true else if x = b then .dead else H.get x := fun _ => rfl
  have hol : old.length = n ∧ ∀ i, i < n → old[i]? = l[o + i]? := by
    unfold Ab.piece at hp; split at hp
    · cases hp; refine ⟨by simp; omega, fun i hi => by rw [List.getElem?_take, if_pos hi, List.getElem?_drop]⟩
    · cases hp
  refine ⟨⟨fun x hx => by
      have h : ((H.put b .dead).new (.cells (old ++ new) true)).next = H.next + 1 := rfl
      rw [hget, if_neg (by omega)]
      by_cases hxb : x = b
      · rw [if_pos hxb]
      · rw [if_neg hxb]; exact s.dn x (by omega), fun x hx => ?_, fun x c' p' z' ex => ?_, fun x c' p' z' ex => ?_, fun x y c' p1 z1 p2 z2 ex ey lx ly lr => ?_⟩,
    ⟨hle, by rw [w1]; exact Nat.le_refl _, Nat.le_succ _, fun x lx hxn hx => ?_, fun x c' p' z' h1 h2 => ?_, fun k hk hro => ?_, fun x hx hxn => ?_, w2, w3, w4⟩⟩
  · have h : ((H.put b .dead).new (.cells (old ++ new) true)).next = H.next + 1 := rfl
    unfold Ab.upd; rw [if_neg (by omega)]; exact s.nx x (by omega)
  · rw [w1]
    by_cases hx : x = H.next
    · subst hx; rw [hnew] at ex; cases ex; exact s.lt b _ _ _ hb
    · exact s.lt x _ _ _ (hold x _ hx ex)
  · rw [hget]
    by_cases hx : x = H.next
    · subst hx; rw [hnew] at ex; cases ex
      rw [if_pos rfl]
      refine ⟨stA arr (q + n) ws, ty, fz, stW_heap ws w (q + n) e, by rw [stA_size, e2], by rw [List.length_append, hol.1]; omega, fun _ => e4 rfl, fun i v hv => ?_⟩
      rw [stA_get ws arr (q + n) _ (by omega)]
      by_cases hi : i < n
      · rw [List.getElem?_append_left (by omega), hol.2 i hi] at hv
        have hqq := hq (by omega)
        rw [if_neg (by omega)]
        obtain ⟨v', h1, h2⟩ := h5 _ _ hv
        exact ⟨v', by rw [← h1, hqq, Nat.add_assoc], Rel.mono hle _ _ h2⟩
      · rw [List.getElem?_append_right (by omega), hol.1] at hv
        have hi2 : i - n < new.length := by
          rcases Nat.lt_or_ge (i - n) new.length with h | h
          · exact h
          · rw [List.getElem?_eq_none h] at hv; cases hv
        rw [if_pos (by omega), show q + i - (q + n) = i - n by omega]
        obtain ⟨v', h1, h2⟩ := hr.get hv
        exact ⟨v', h1, Rel.mono hle _ _ h2⟩
    · rw [if_neg hx]
      have ex0 := hold x _ hx ex
      by_cases hxb : x = b
      · rw [if_pos hxb]; trivial
      · rw [if_neg hxb]
        have h0 := s.ok x c' p' z' ex0
        by_cases hcc : c' = c
        · subst hcc
          cases hgx : H.get x with
          | dead => trivial
          | cells l' wr' => exact absurd (s.inj b x c' p z p' z' hb ex0 hlive (by rw [hgx]; intro h; cases h) (not_ro hg)).symm hxb
          | map es => exact absurd (s.inj b x c' p z p' z' hb ex0 hlive (by rw [hgx]; intro h; cases h) (not_ro hg)).symm hxb
          | iter m since seen => exact absurd (s.inj b x c' p z p' z' hb ex0 hlive (by rw [hgx]; intro h; cases h) (not_ro hg)).symm hxb
        · rw [stW_other ws w (q + n) hcc]; exact h0.mono hle
  · rw [hget] at lx ly
    by_cases hx : x = H.next
    · subst hx
      rw [hnew] at ex; cases ex
      by_cases hy : y = H.next
      · exact hy.symm
      · rw [if_neg hy] at ly
        by_cases hyb : y = b
        · rw [if_pos hyb] at ly; exact absurd rfl ly
        · rw [if_neg hyb] at ly
          exact absurd (s.inj b y _ p z _ _ hb (hold y _ hy ey) hlive ly (not_ro hg)).symm hyb
    · rw [if_neg hx] at lx
      have ex0 := hold x _ hx ex
      by_cases hxb : x = b
      · rw [if_pos hxb] at lx; exact absurd rfl lx
      · rw [if_neg hxb] at lx
        by_cases hy : y = H.next
        · subst hy; rw [hnew] at ey; cases ey
          exact absurd (s.inj b x _ p z _ _ hb ex0 hlive lx (not_ro hg)).symm hxb
        · rw [if_neg hy] at ly
          by_cases hyb : y = b
          · rw [if_pos hyb] at ly; exact absurd rfl ly
          · rw [if_neg hyb] at ly
            exact s.inj x y c' p1 z1 p2 z2 ex0 (hold y _ hy ey) lx ly (fun ⟨l', e⟩ => lr ⟨l', by rw [hget, if_neg hx, if_neg hxb]; exact e⟩)
  · rw [hget, if_neg (by omega)]
    by_cases hxb : x = b
    · subst hxb; rw [hg] at hx; cases hx
    · rw [if_neg hxb]; exact hx
  · by_cases hx : x = H.next
    · subst hx; rw [hnew] at h2; cases h2
      exact .inr ⟨b, p, z, hb, fun ⟨l', hl'⟩ => by rw [hg] at hl'; cases hl'⟩
    · rw [hold x _ hx h2] at h1; cases h1
  · refine stW_other ws w (q + n) (fun hkc => ?_)
    subst hkc
    obtain ⟨l', hl'⟩ := hro b p z hb
    rw [hg] at hl'; cases hl'
  · unfold Ab.upd; rw [if_neg (by omega)]; exact hxn

/-! ### Objects that are no rows of cells -/
def pushO (w : World) (x : Go.Obj) : World := { w with heap := w.heap.push x }
theorem pushO_old (x : Go.Obj) {k : Nat} (h : k < w.heap.size) : (pushO w x).heap[k]? = w.heap[k]? := by
  show (w.heap.push _)[k]? = _; rw [Array.getElem?_push, if_neg (by omega)]
theorem pushO_new (x : Go.Obj) : (pushO w x).heap[w.heap.size]? = some x := by
  show (w.heap.push _)[w.heap.size]? = _; simp
theorem Sim.freshO {o : Obj} {x : Go.Obj} (s : Sim L ι H w) (hok : ∀ ι', ILe ι ι' → Okay L ι' 0 1 o (some x)) :
    Sim L (upd ι H.next w.heap.size 0 1) (H.new o) (pushO w x) ∧ Ext ι H w (upd ι H.next w.heap.size 0 1) (H.new o) (pushO w x) := by
  obtain ⟨s1, x1⟩ := s.ghost o
  have hb := s.nx _ (Nat.le_refl H.next)
  have hle : ILe ι (Ab.upd ι H.next w.heap.size 0 1) := ILe.upd hb
  have hsz : (pushO w x).heap.size = w.heap.size + 1 := by simp [pushO]
  have hold : ∀ y c p z, y ≠ H.next → Ab.upd ι H.next w.heap.size 0 1 y = some (c, p, z) → ι y = some (c, p, z) := fun y c p z hx e => by
    unfold Ab.upd at e; rw [if_neg hx] at e; exact e
  have hnew : Ab.upd ι H.next w.heap.size 0 1 H.next = some (w.heap.size, 0, 1) := by unfold Ab.upd; rw [if_pos rfl]
  refine ⟨⟨s1.dn, fun y hx => ?_, fun y c p z e => ?_, fun y c p z e => ?_, fun y y' c p1 z1 p2 z2 ex ey lx ly lr => ?_⟩,
    ⟨x1.le.trans hle, Nat.le_trans x1.hs (by omega), x1.hn, x1.ro, fun y c p z e e' => ?_, fun k hk hro => ?_, fun y hx e => ?_, x1.os, x1.tape, x1.output⟩⟩
  · have hxb : y ≠ H.next := by have : (H.new o).next = H.next + 1 := rfl; omega
    unfold Ab.upd; rw [if_neg hxb]; exact s1.nx y hx
  · rw [hsz]
    by_cases hx : y = H.next
    · subst hx; rw [hnew] at e; cases e; omega
    · have := s1.lt y c p z (hold y c p z hx e); omega
  · by_cases hx : y = H.next
    · subst hx; rw [hnew] at e; cases e
      rw [new_get, pushO_new]
      exact hok _ hle
    · have e0 := hold y c p z hx e
      rw [pushO_old x (s1.lt y c p z e0)]
      exact (s1.ok y c p z e0).mono hle
  · by_cases hx : y = H.next
    · subst hx
      rw [hnew] at ex; cases ex
      by_cases hy : y' = H.next
      · exact hy.symm
      · have := s1.lt y' _ _ _ (hold y' _ _ _ hy ey); omega
    · have ex0 := hold y _ _ _ hx ex
      by_cases hy : y' = H.next
      · subst hy
        rw [hnew] at ey; cases ey
        have := s1.lt y _ _ _ ex0; omega
      · exact s1.inj y y' c p1 z1 p2 z2 ex0 (hold y' _ _ _ hy ey) lx ly lr
  · by_cases hx : y = H.next
    · subst hx; rw [hnew] at e'; cases e'; exact .inl x1.hs
    · exact x1.new y c p z e (hold y c p z hx e')
  · exact pushO_old x (Nat.lt_of_lt_of_le hk x1.hs)
  · have hx2 : y ≠ H.next := by omega
    unfold Ab.upd; rw [if_neg hx2]; exact x1.dom y hx e
def setO (w : World) (c : Nat) (x : Go.Obj) : World := { w with heap := w.heap.setIfInBounds c x }
theorem setO_same {c : Nat} {x : Go.Obj} (h : c < w.heap.size) : (setO w c x).heap[c]? = some x := by
  show (w.heap.setIfInBounds c x)[c]? = _
  rw [Array.getElem?_setIfInBounds, if_pos rfl, if_pos h]
theorem setO_other {c k : Nat} {x : Go.Obj} (h : k ≠ c) : (setO w c x).heap[k]? = w.heap[k]? := by
  show (w.heap.setIfInBounds c x)[k]? = _
  rw [Array.getElem?_setIfInBounds, if_neg (fun e => h e.symm)]
theorem Sim.setObj {o' : Obj} {x : Go.Obj} {b c p z : Nat} (s : Sim L ι H w) (hb : ι b = some (c, p, z)) (hlive : H.get b ≠ .dead) (hro : ¬ RO H b) (hro' : ∀ l, o' ≠ .cells l false) (hok : Okay L ι p z o' (some x)) :
    Sim L ι (H.put b o') (setO w c x) ∧ Ext ι H w ι (H.put b o') (setO w c x) := by
  have hc := s.lt _ _ _ _ hb
  have hget : ∀ y, (H.put b o').get y = if y = b then o' else H.get y := fun _ => rfl
  have hsz : (setO w c x).heap.size = w.heap.size := by simp [setO]
  refine ⟨⟨fun y hx => by
      have : y ≠ b := fun hxb => by subst hxb; rw [s.nx y hx] at hb; cases hb
      rw [hget, if_neg this]; exact s.dn y hx, fun y hx => s.nx y hx, fun y c' p' z' hx => by rw [hsz]; exact s.lt y c' p' z' hx, fun y c' p' z' hx => ?_, fun y y' c' p1 z1 p2 z2 hx hy lx ly lr => ?_⟩,
    ⟨ILe.refl _, by rw [hsz]; exact Nat.le_refl _, Nat.le_refl _, fun y ly _ hx => ?_, (fun y _ _ _ h1 h2 => by rw [h1] at h2; cases h2), fun k hk hrk => ?_, fun _ _ h => h, rfl, rfl, rfl⟩⟩
  · rw [hget]
    by_cases hxb : y = b
    · subst hxb
      rw [hb] at hx; cases hx
      rw [if_pos rfl, setO_same hc]
      exact hok
    · rw [if_neg hxb]
      have h0 := s.ok y c' p' z' hx
      by_cases hcc : c' = c
      · subst hcc
        have key : H.get y ≠ .dead → False := fun hl => hxb (s.inj b y c' p z p' z' hb hx hlive hl hro).symm
        cases hgx : H.get y with
        | dead => trivial
        | cells l' wr' => exact (key (by rw [hgx]; intro h; cases h)).elim
        | map es => exact (key (by rw [hgx]; intro h; cases h)).elim
        | iter m since seen => exact (key (by rw [hgx]; intro h; cases h)).elim
      · rw [setO_other hcc]; exact h0
  · have live : ∀ y, (H.put b o').get y ≠ .dead → H.get y ≠ .dead := fun y hx => by
      rw [hget] at hx
      by_cases hxb : y = b
      · subst hxb; exact hlive
      · rw [if_neg hxb] at hx; exact hx
    refine s.inj y y' c' p1 z1 p2 z2 hx hy (live y lx) (live y' ly) (fun ⟨l', e⟩ => ?_)
    by_cases hxb : y = b
    · subst hxb; exact hro ⟨l', e⟩
    · exact lr ⟨l', by rw [hget, if_neg hxb]; exact e⟩
  · rw [hget]
    by_cases hxb : y = b
    · subst hxb; exact absurd ⟨_, hx⟩ hro
    · rw [if_neg hxb]; exact hx
  · refine setO_other (fun hkc => ?_)
    subst hkc
    exact hro (hrk b p z hb)
end Go.Ab
/- Which operation of the model an abstract one stands for (a check by program), and that it does what the abstract one says: operations that only compute or read. Conditions: none. -/
namespace Go.Ab
variable {L : Lk} {ι : Im} {H : Heap} {w : World} {P : Program}

mutual
def ckV (L : Lk) : V → Value → Bool
  | .bool b, .bool c => b == c
  | .int k n, .int k' m => decide (k = k') && decide (n = m)
  | .flt k n, .float k' m => decide (k = k') && n == m
  | .str s, .string t => decide (s = t)
  | .ptr none, .pointer none => true
  | .sl none l c _, .slice none l' c' => l == 0 && c == 0 && l' == 0 && c' == 0
  | .map none, .map none => true
  | .nilfn, .nilFunc => true
  | .nilifc, .nilIface => true
  | .ifc t v, .iface u x => L.τ t == u && ckV L v x
  | .agg l, .agg vs => ckVL L l vs.toList
  | .tup l, .tuple vs => ckVL L l vs.toList
  | _, _ => false
def ckVL (L : Lk) : List V → List Value → Bool
  | [], [] => true
  | v :: l, x :: s => ckV L v x && ckVL L l s
  | _, _ => false
end

mutual
theorem ckV_rel (L : Lk) (ι : Im) : ∀ (v : V) (x : Value), ckV L v x = true → Rel L ι v x
  | .bool b, x, h => by cases x <;> simp [ckV] at h; subst h; rfl
  | .int k n, x, h => by cases x <;> simp [ckV] at h; obtain ⟨rfl, rfl⟩ := h; rfl
  | .flt k n, x, h => by cases x <;> simp [ckV] at h; obtain ⟨rfl, rfl⟩ := h; rfl
  | .str s, x, h => by cases x <;> simp [ckV] at h; subst h; rfl
  | .ptr none, x, h => by cases x with
    | pointer a => cases a with
      | none => rfl
      | some a => simp [ckV] at h
    | _ => simp [ckV] at h
  | .ptr (some a), x, h => by cases x <;> simp [ckV] at h
  | .sl none l c e, x, h => by cases x with
    | slice a l' c' => cases a with
      | none => simp [ckV] at h; obtain ⟨⟨⟨h1, h2⟩, h3⟩, h4⟩ := h; subst h1 h2 h3 h4; exact ⟨rfl, rfl, rfl⟩
      | some a => simp [ckV] at h
    | _ => simp [ckV] at h
  | .sl (some a) l c e, x, h => by cases x <;> simp [ckV] at h
  | .map none, x, h => by cases x with
    | map a => cases a with
      | none => rfl
      | some a => simp [ckV] at h
    | _ => simp [ckV] at h
  | .map (some a), x, h => by cases x <;> simp [ckV] at h
  | .fn g f c, x, h => by cases x <;> simp [ckV] at h
  | .nilfn, x, h => by cases x <;> simp [ckV] at h; rfl
  | .ifc t v, x, h => by
    cases x <;> simp [ckV] at h
    obtain ⟨h1, h2⟩ := h
    exact ⟨_, by rw [h1], ckV_rel L ι v _ h2⟩
  | .nilifc, x, h => by cases x <;> simp [ckV] at h; rfl
  | .agg l, x, h => by
    cases x <;> simp [ckV] at h
    exact ⟨_, rfl, ckVL_rel L ι l _ h⟩
  | .tup l, x, h => by
    cases x <;> simp [ckV] at h
    exact ⟨_, rfl, ckVL_rel L ι l _ h⟩
  | .un, x, h => trivial
theorem ckVL_rel (L : Lk) (ι : Im) : ∀ (v : List V) (x : List Value), ckVL L v x = true → RelL L ι v x
  | [], [], _ => rfl
  | [], _ :: _, h => by simp [ckVL] at h
  | v :: l, [], h => by simp [ckVL] at h
  | v :: l, x :: s, h => by
    simp [ckVL] at h
    exact ⟨x, s, rfl, ckV_rel L ι v x h.1, ckVL_rel L ι l s h.2⟩
end

def ckOpd (L : Lk) : Opd → Operand → Bool
  | .t n, .tmp m => n == m
  | .c v, .const x => ckV L v x
  | .f g, .func f => L.dom g && L.φ g == f
  | _, _ => false

def ckOpds (L : Lk) : List Opd → List Operand → Bool
  | [], [] => true
  | x :: r, y :: s => ckOpd L x y && ckOpds L r s
  | _, _ => false

theorem opd_rel {fr : Fr} {a : Act} (hf : FrRel L ι fr a.tmps) {x : Opd} {y : Operand} {v : V} (hc : ckOpd L x y = true) (h : opd fr x = some v) : Rel L ι v (a.eval y) := by
  cases x with
  | t n =>
    cases y <;> simp [ckOpd] at hc
    subst hc
    obtain ⟨v', h1, h2⟩ := hf n v h
    simp only [Act.eval, Array.getD_eq_getD_getElem?, h1, Option.getD_some]; exact h2
  | c u =>
    cases y <;> simp [ckOpd] at hc
    cases h
    exact ckV_rel L ι _ _ hc
  | f g =>
    cases y <;> simp [ckOpd] at hc
    cases h
    exact ⟨#[], #[], by simp [Act.eval, hc.2], hc.1, rfl, rfl⟩

theorem opds_rel {fr : Fr} {a : Act} (hf : FrRel L ι fr a.tmps) : ∀ {xs : List Opd} {ys : List Operand} {vs : List V}, ckOpds L xs ys = true → opds fr xs = some vs → RelL L ι vs (ys.map a.eval)
  | [], [], vs, _, h => by cases h; rfl
  | [], _ :: _, _, hc, _ => by simp [ckOpds] at hc
  | _ :: _, [], _, hc, _ => by simp [ckOpds] at hc
  | x :: xs, y :: ys, vs, hc, h => by
    simp [ckOpds] at hc
    simp only [opds] at h
    split at h
    · rename_i v l h1 h2
      cases h
      exact ⟨_, _, rfl, opd_rel hf hc.1 h1, opds_rel hf hc.2 h2⟩
    · cases h

/-! ### The tables of types -/
theorem r_und {t : TypeId} {d : TypeDesc} (h : P.underlying t = some d) : (underlying t).run P w = .ok d w := by simp [underlying, h]
theorem r_info {t : TypeId} {i : TypeInfo} (h : P.info? t = some i) : (typeInfo t).run P w = .ok i w := by simp [typeInfo, h]
theorem r_size {t : TypeId} {i : TypeInfo} (h : P.info? t = some i) : (sizeOf t).run P w = .ok i.size w := by simp [sizeOf, r_info h]
theorem r_zero {t : TypeId} {i : TypeInfo} {z : Value} (h : P.info? t = some i) (hz : i.zero = some z) : (zeroValue t).run P w = .ok z w := by simp [zeroValue, r_info h, hz]
def aggD : TypeDesc → Bool
  | .struct _ => true
  | .array _ _ => true
  | _ => false
theorem r_isAgg {t : TypeId} {d : TypeDesc} (h : P.underlying t = some d) : (isAgg t).run P w = .ok (aggD d) w := by
  unfold isAgg; rw [Sem.run_bind, r_und h]
  cases d <;> rfl

def ckAgg (P : Program) (t : TypeId) (n : Option Nat) : Bool :=
  match P.underlying t with
  | some d => match n with
    | none => !aggD d
    | some n => aggD d && (P.info? t).any fun i => i.size == n
  | none => false

def ckSize (P : Program) (t : TypeId) (n : Nat) : Bool := decide (0 < n) && (P.info? t).any fun i => i.size == n
theorem ckSize_spec {t : TypeId} {n : Nat} (h : ckSize P t n = true) : 0 < n ∧ ∃ i, P.info? t = some i ∧ i.size = n := by
  simp only [ckSize, Bool.and_eq_true, decide_eq_true_eq, Option.any_eq_true, beq_iff_eq] at h; exact h

def isIntD : TypeDesc → Option IntKind
  | .int k => some k
  | _ => none

def ckFs (P : Program) : List (Nat × BK) → List Field → Bool
  | [], [] => true
  | (o, k) :: r, f :: g => o == f.offset && f.name != "_" && (match P.underlying f.type, k with | some (.int _), .num => true | some .bool, .bool => true | _, _ => false) && ckFs P r g
  | _, _ => false

def ckBK (P : Program) (t : TypeId) : BK → Bool
  | .num => true
  | .bool => match P.underlying t with | some .bool => true | _ => false
  | .ptr => match P.underlying t with | some (.pointer _) => true | _ => false
  | .slice => match P.underlying t with | some (.slice _) => true | _ => false
  | .func => match P.underlying t with | some (.func _ _ _) => true | _ => false
  | .ifc => match P.underlying t with | some (.interface _) => true | _ => false
  | .agg fs => match P.underlying t with | some (.struct g) => ckFs P fs g.toList && !P.stoodInHeld t && !P.eqGuardType P.depth t | _ => false

/-- The slice type's element: how many cells, and bytes, it has. -/
def ckEl (P : Program) (t : TypeId) (esz : Nat) : Bool :=
  match P.underlying t with
  | some (.slice e) => (P.info? e).any fun i => i.size == esz
  | _ => false
theorem ckEl_spec {t : TypeId} {n : Nat} (h : ckEl P t n = true) : ∃ e i, P.underlying t = some (.slice e) ∧ P.info? e = some i ∧ i.size = n := by
  unfold ckEl at h; split at h
  · rename_i e he; simp only [Option.any_eq_true, beq_iff_eq] at h; obtain ⟨i, h1, h2⟩ := h; exact ⟨e, i, he, h1, h2⟩
  · cases h

def ckOpt (L : Lk) : Option Opd → Option Operand → Bool
  | none, none => true
  | some x, some y => ckOpd L x y
  | _, _ => false

/-- 'len': of a slice (none), an array (its length). -/
def ckLen (L : Lk) (P : Program) (arr : Option Nat) (x : Opd) (c : Go.Call) : Bool :=
  match c.callee, c.args.toList, c.argTypes.toList with
  | .builtin .len, [x'], [t] => ckOpd L x x' && (match P.underlying t, arr with
      | some (.slice _), none => true
      | some (.array m _), some n => n == m
      | _, _ => false)
  | _, _, _ => false

def ckSlen (L : Lk) (P : Program) (x : Opd) (c : Go.Call) : Bool :=
  match c.callee, c.args.toList, c.argTypes.toList with
  | .builtin .len, [x'], [t] => ckOpd L x x' && (match P.underlying t with | some .string => true | _ => false)
  | _, _, _ => false

def ckMM (L : Lk) (mx : Bool) (xs : List Opd) (c : Go.Call) : Bool :=
  match c.callee with
  | .builtin .max => mx && ckOpds L xs c.args.toList
  | .builtin .min => !mx && ckOpds L xs c.args.toList
  | _ => false

/-- Operations that compute, or read: which of the model's they stand for. -/
def ckQ (L : Lk) (P : Program) : AOp → Op → Bool
  | .mv x, .move y => ckOpd L x y
  | .mv x, .assign y => ckOpd L x y
  | .pick c a b, .pick c' a' b' => ckOpd L c c' && ckOpd L a a' && ckOpd L b b'
  | .bin op k x y, .binOp op' t x' y' _ => decide (op = op') && ckBK P t k && ckOpd L x x' && ckOpd L y y'
  | .un op x, .unOp op' _ x' => decide (op = op') && ckOpd L x x'
  | .conv k x, .convert src dst x' => (match P.underlying src, P.underlying dst with | some (.int _), some (.int k') => decide (k = k') | _, _ => false) && ckOpd L x x'
  | .load n a, .load t a' => ckAgg P t n && ckOpd L a a'
  | .fad off x, .fieldAddr s x' f => (match P.underlying s with
      | some (.struct fs) => (fs[f]?).any fun fl => fl.offset == off && (P.info? fl.type).any fun i => i.size != 0
      | _ => false) && ckOpd L x x'
  | .fld off n x, .field s x' f => (match P.underlying s with
      | some (.struct fs) => (fs[f]?).any fun fl => fl.offset == off && ckAgg P fl.type n
      | _ => false) && ckOpd L x x'
  | .iad none esz x i, .indexAddr t x' i' => ckEl P t esz && ckOpd L x x' && ckOpd L i i'
  | .iad (some m) esz x i, .indexAddr t x' i' => (match P.underlying t with
      | some (.array n e) => n == m && (P.info? e).any fun i => i.size == esz
      | _ => false) && ckOpd L x x' && ckOpd L i i'
  | .idx none _ _ x i, .index t x' i' => (match P.underlying t with | some .string => true | _ => false) && ckOpd L x x' && ckOpd L i i'
  | .idx (some m) esz n x i, .index t x' i' => (match P.underlying t with
      | some (.array k e) => k == m && ckAgg P e n && (P.info? e).any fun i => i.size == esz
      | _ => false) && ckOpd L x x' && ckOpd L i i'
  | .slice esz x lo hi mx, .slice t x' lo' hi' mx' => ckEl P t esz && ckOpd L x x' && ckOpt L lo lo' && ckOpt L hi hi' && ckOpt L mx mx' && (hi.isSome || mx.isNone)
  | .substr x lo hi, .slice t x' lo' hi' none => (match P.underlying t with | some .string => true | _ => false) && ckOpd L x x' && ckOpt L lo lo' && ckOpt L hi hi'
  | .nilck x, .nilCheck x' => ckOpd L x x'
  | .ext i x, .extract x' j => i == j && ckOpd L x x'
  | .mkifc t x, .makeInterface t' x' => L.τ t == t' && (match P.underlying t' with | some (.interface _) => false | some _ => true | none => false) && ckOpd L x x'
  | .asrt t x, .typeAssert x' _ t' ok => ok && L.τ t == t' && (match P.underlying t' with | some (.interface _) => false | some _ => true | none => false) && ckOpd L x x'
  | .isnil ne x, .binOp op t x' y' _ => (match y' with | .const .nilIface => true | _ => false) && decide (op = if ne then .neq else .eql) && ckBK P t .ifc && ckOpd L x x'
  | .mkfn g first caps, .makeFunc (.func f) first' caps' => L.dom g && L.φ g == f && ckOpds L first first'.toList && ckOpds L caps caps'.toList
  | .len arr x, .call c => ckLen L P arr x c
  | .slen x, .call c => ckSlen L P x c
  | .mm mx xs, .call c => ckMM L mx xs c
  | .build z ps, .build t parts => (match P.underlying t, (P.info? t).bind (·.zero) with
      | some (.struct fs), some zv => ckVL L z zv.cells.toList && (ps.length == parts.size) && ((ps.zip parts.toList).all fun ((o, n, x), (i, y)) => ckOpd L x y && (fs[i]?).any fun f => f.offset == o && ckSize P f.type n) &&
          fs.all fun f => (P.info? f.type).isSome
      | some (.array _ e), some zv => ckVL L z zv.cells.toList && (P.info? e).isSome && (ps.length == parts.size) && ((ps.zip parts.toList).all fun ((o, n, x), (i, y)) => ckOpd L x y && o == i * n && ckSize P e n)
      | _, _ => false)
  | _, _ => false

/-- What an operation that leaves the world as it is comes to. -/
def Yld (P : Program) (o : Oper) (a : Act) (w : World) (v : Value) : Prop := (execOp a.eval o).run P w = .ok (.value v) w

section
variable {fr : Fr} {a : Act} (hf : FrRel L ι fr a.tmps)
include hf

theorem q_mv {x : Opd} {y : Operand} {v : V} {d : Option Tmp} {ty : TypeId} {pos : String} {af : Array Edge} {g : Option (Nat × Bool)} (hc : ckOpd L x y = true) (h : opd fr x = some v) :
    ∃ v', Yld P ⟨d, .move y, ty, pos, af, g⟩ a w v' ∧ Rel L ι v v' := ⟨_, rfl, opd_rel hf hc h⟩

theorem q_asg {x : Opd} {y : Operand} {v : V} {d : Option Tmp} {ty : TypeId} {pos : String} {af : Array Edge} {g : Option (Nat × Bool)} (hc : ckOpd L x y = true) (h : opd fr x = some v) :
    ∃ v', Yld P ⟨d, .assign y, ty, pos, af, g⟩ a w v' ∧ Rel L ι v v' := ⟨_, rfl, opd_rel hf hc h⟩
end

theorem bool_ok {a b : Bool} (h : a = b) : (Result.ok (Value.bool a) w : Result Value) = .ok (.bool b) w := by rw [h]

theorem cmp_sound {op : BinOp} {x y : Int} {b : Bool} (h : cmp op x y = some b) : (Op.intCmp op x y).run P w = .ok (.bool b) w := by
  cases op
  case eql => cases h; exact bool_ok (by rw [Bool.eq_iff_iff]; simp)
  case neq => cases h; exact bool_ok (by rw [Bool.eq_iff_iff]; simp)
  case lss => cases h; rfl
  case leq => cases h; rfl
  case gtr => cases h; rfl
  case geq => cases h; rfl
  all_goals cases h

theorem bitop_sound {op : BinOp} {k : IntKind} {x y : Int} (h : op = .and ∨ op = .or ∨ op = .xor ∨ op = .andNot) : (Op.intBits op k x y).run P w = .ok (.int k (bitop op k x y)) w := by
  rcases h with rfl | rfl | rfl | rfl <;> rfl

theorem arith_sound {op : BinOp} {k : IntKind} {x y : Int} {v : V} {t : TypeId} (h1 : op ≠ .shl) (h2 : op ≠ .shr) (h : arith op k x y = some v) :
    ∃ v', (binOp op t (.int k x) (.int k y)).run P w = .ok v' w ∧ Rel L ι v v' := by
  cases op
  case shl => exact absurd rfl h1
  case shr => exact absurd rfl h2
  case add => cases h; exact ⟨_, by simp [binOp, Op.intArith], rfl⟩
  case sub => cases h; exact ⟨_, by simp [binOp, Op.intArith], rfl⟩
  case mul => cases h; exact ⟨_, by simp [binOp, Op.intArith], rfl⟩
  case quo =>
    simp only [arith] at h
    split at h
    · cases h
    · rename_i h0; cases h; exact ⟨_, by simp [binOp, Op.intDiv, h0], rfl⟩
  case rem =>
    simp only [arith] at h
    split at h
    · cases h
    · rename_i h0; cases h; exact ⟨_, by simp [binOp, Op.intDiv, h0], rfl⟩
  case and => cases h; exact ⟨_, by simp only [binOp, ne_eq, not_true_eq_false, if_false]; exact bitop_sound (by simp), rfl⟩
  case or => cases h; exact ⟨_, by simp only [binOp, ne_eq, not_true_eq_false, if_false]; exact bitop_sound (by simp), rfl⟩
  case xor => cases h; exact ⟨_, by simp only [binOp, ne_eq, not_true_eq_false, if_false]; exact bitop_sound (by simp), rfl⟩
  case andNot => cases h; exact ⟨_, by simp only [binOp, ne_eq, not_true_eq_false, if_false]; exact bitop_sound (by simp), rfl⟩
  all_goals
    simp only [arith, Option.map_eq_some_iff] at h
    obtain ⟨b, hb, rfl⟩ := h
    exact ⟨_, by simp only [binOp, ne_eq, not_true_eq_false, if_false]; exact cmp_sound hb, rfl⟩

theorem eqGuard_pure {op : BinOp} {t : TypeId} {x y : Operand} {a b : Value} (h1 : ∀ l, a ≠ .agg l) (h2 : a ≠ .nilIface ∨ b ≠ .nilIface) : (eqGuard op t x y a b).run P w = .ok () w := by
  have key : (match a, b with
    | .nilIface, .nilIface => False
    | .agg _, .agg _ => False
    | _, _ => True) := by cases a <;> cases b <;> first | trivial | exact absurd rfl (h1 _) | (simp at h2)
  cases op <;> first | rfl | (unfold eqGuard; revert key; cases a <;> cases b <;> intro key <;> first | rfl | exact key.elim)


/-- What a value of an abstract kind is not. -/
theorem Rel.noAgg {v : V} {x : Value} (h : Rel L ι v x) (hv : ∀ l, v ≠ .agg l) (hu : v ≠ .un) : ∀ l, x ≠ .agg l := by
  intro l e; subst e
  cases v with
  | agg l => exact hv l rfl
  | un => exact hu rfl
  | ptr a => cases a with | none => cases h | some a => obtain ⟨c, p, z, _, e⟩ := h; cases e
  | sl a _ _ _ => cases a with | none => cases h.2.2 | some a => obtain ⟨_, A, cap', e, _⟩ := h; cases e
  | map a => cases a with | none => cases h | some a => obtain ⟨c, z, _, e⟩ := h; cases e
  | fn g f c => obtain ⟨_, _, e, _⟩ := h; cases e
  | ifc t v => obtain ⟨_, e, _⟩ := h; cases e
  | tup l => obtain ⟨_, e, _⟩ := h; cases e
  | _ => cases h

theorem equalIn_bool {t : TypeId} {a b : Bool} (ht : P.underlying t = some .bool) : (Op.equal t (.bool a) (.bool b)).run P w = .ok (a == b) w := by
  unfold Op.equal Op.maxDepth Op.equalIn; rw [Sem.run_bind, r_und ht]; rfl

theorem eqs_sound {k : BK} {t : TypeId} {x y : V} {x' y' : Value} {b : Bool} (hk : ckBK P t k = true) (hn : k ≠ .num) (h : eqs x y k = some b) (hx : Rel L ι x x') (hy : Rel L ι y y') :
    (Op.equal t x' y').run P w = .ok b w ∧ (∀ l, x' ≠ .agg l) ∧ (x' ≠ .nilIface ∨ y' ≠ .nilIface) ∧ (∀ k n, x' ≠ .int k n) ∧ (∀ s, x' ≠ .string s) ∧ (∀ k n, x' ≠ .float k n) ∧ (∀ k n m, x' ≠ .complex k n m) := by
  cases k with
  | num => exact absurd rfl hn
  | agg fs => simp [eqs] at h
  | bool =>
    have ht : P.underlying t = some .bool := by
      revert hk; unfold ckBK; cases hu : P.underlying t with
      | none => intro hk; cases hk
      | some d => cases d <;> intro hk <;> first | rfl | cases hk
    simp only [eqs] at h
    split at h
    · cases h; cases hx; cases hy
      exact ⟨equalIn_bool ht, by simp⟩
    · cases h
  | ptr =>
    obtain ⟨e, ht⟩ : ∃ e, P.underlying t = some (.pointer e) := by
      revert hk; unfold ckBK; cases hu : P.underlying t with
      | none => intro hk; cases hk
      | some d => cases d <;> intro hk <;> first | exact ⟨_, rfl⟩ | cases hk
    simp only [eqs] at h
    split at h
    · rename_i b'
      cases h; cases hx
      refine ⟨?_, by simp⟩
      cases b' with
      | none => cases hy; unfold Op.equal Op.maxDepth Op.equalIn; rw [Sem.run_bind, r_und ht]; rfl
      | some a => obtain ⟨c, p, z, _, rfl⟩ := hy; unfold Op.equal Op.maxDepth Op.equalIn; rw [Sem.run_bind, r_und ht]; rfl
    · rename_i a' _
      cases h; cases hy
      cases a' with
      | none => cases hx; exact ⟨by unfold Op.equal Op.maxDepth Op.equalIn; rw [Sem.run_bind, r_und ht]; rfl, by simp⟩
      | some a => obtain ⟨c, p, z, _, rfl⟩ := hx; exact ⟨by unfold Op.equal Op.maxDepth Op.equalIn; rw [Sem.run_bind, r_und ht]; rfl, by simp⟩
    · cases h
  | slice =>
    obtain ⟨e, ht⟩ : ∃ e, P.underlying t = some (.slice e) := by
      revert hk; unfold ckBK; cases hu : P.underlying t with
      | none => intro hk; cases hk
      | some d => cases d <;> intro hk <;> first | exact ⟨_, rfl⟩ | cases hk
    simp only [eqs] at h
    split at h
    · rename_i b' _ _ _
      cases h; cases hx.2.2
      refine ⟨?_, by simp⟩
      cases b' with
      | none => cases hy.2.2; unfold Op.equal Op.maxDepth Op.equalIn; rw [Sem.run_bind, r_und ht]; rfl
      | some a => obtain ⟨_, A, cap', rfl, _⟩ := hy; unfold Op.equal Op.maxDepth Op.equalIn; rw [Sem.run_bind, r_und ht]; rfl
    · rename_i a' _ _ _ _ _ _ _
      cases h; cases hy.2.2
      cases a' with
      | none => cases hx.2.2; exact ⟨by unfold Op.equal Op.maxDepth Op.equalIn; rw [Sem.run_bind, r_und ht]; rfl, by simp⟩
      | some a => obtain ⟨_, A, cap', rfl, _⟩ := hx; exact ⟨by unfold Op.equal Op.maxDepth Op.equalIn; rw [Sem.run_bind, r_und ht]; rfl, by simp⟩
    · cases h
  | func =>
    obtain ⟨e1, e2, e3, ht⟩ : ∃ e1 e2 e3, P.underlying t = some (.func e1 e2 e3) := by
      revert hk; unfold ckBK; cases hu : P.underlying t with
      | none => intro hk; cases hk
      | some d => cases d <;> intro hk <;> first | exact ⟨_, _, _, rfl⟩ | cases hk
    simp only [eqs] at h
    split at h
    · cases h; cases hx; cases hy
      exact ⟨by unfold Op.equal Op.maxDepth Op.equalIn; rw [Sem.run_bind, r_und ht]; rfl, by simp⟩
    · cases h; cases hx; obtain ⟨_, _, rfl, _⟩ := hy
      exact ⟨by unfold Op.equal Op.maxDepth Op.equalIn; rw [Sem.run_bind, r_und ht]; rfl, by simp⟩
    · cases h; cases hy; obtain ⟨_, _, rfl, _⟩ := hx
      exact ⟨by unfold Op.equal Op.maxDepth Op.equalIn; rw [Sem.run_bind, r_und ht]; rfl, by simp⟩
    · cases h
  | ifc =>
    obtain ⟨e, ht⟩ : ∃ e, P.underlying t = some (.interface e) := by
      revert hk; unfold ckBK; cases hu : P.underlying t with
      | none => intro hk; cases hk
      | some d => cases d <;> intro hk <;> first | exact ⟨_, rfl⟩ | cases hk
    simp only [eqs] at h
    split at h
    · cases h; cases hx; obtain ⟨_, rfl, _⟩ := hy
      exact ⟨by unfold Op.equal Op.maxDepth Op.equalIn; rw [Sem.run_bind, r_und ht]; rfl, by simp⟩
    · cases h; cases hy; obtain ⟨_, rfl, _⟩ := hx
      exact ⟨by unfold Op.equal Op.maxDepth Op.equalIn; rw [Sem.run_bind, r_und ht]; rfl, by simp⟩
    · cases h

theorem binOp_eql {t : TypeId} {x y : Value} (h1 : ∀ k n, x ≠ .int k n) (h2 : ∀ s, x ≠ .string s) (h3 : ∀ k n, x ≠ .float k n) (h4 : ∀ k n m, x ≠ .complex k n m) :
    binOp .eql t x y = (Op.equal t x y >>= fun b => pure (Value.bool b)) := by
  cases x <;> first | rfl | exact absurd rfl (h1 _ _) | exact absurd rfl (h2 _) | exact absurd rfl (h3 _ _) | exact absurd rfl (h4 _ _ _) | (cases y <;> rfl)
theorem binOp_neq {t : TypeId} {x y : Value} (h1 : ∀ k n, x ≠ .int k n) (h2 : ∀ s, x ≠ .string s) (h3 : ∀ k n, x ≠ .float k n) (h4 : ∀ k n m, x ≠ .complex k n m) :
    binOp .neq t x y = (Op.equal t x y >>= fun b => pure (Value.bool !b)) := by
  cases x <;> first | rfl | exact absurd rfl (h1 _ _) | exact absurd rfl (h2 _) | exact absurd rfl (h3 _ _) | exact absurd rfl (h4 _ _ _) | (cases y <;> rfl)

theorem eqFs_sound (d : Nat) {ws vs : Array Value} {xs ys : List V} (hx : RelL L ι xs ws.toList) (hy : RelL L ι ys vs.toList) : ∀ (fs : List (Nat × BK)) (g : List Field) (b : Bool), ckFs P fs g = true → eqAgg xs ys fs = some b → (Op.eqFields (d + 1) ws vs g).run P w = .ok b w
  | [], [], b, _, h => by cases h; simp [Op.eqFields]
  | [], _ :: _, _, hk, _ => by cases hk
  | _ :: _, [], _, hk, _ => by simp [ckFs] at hk
  | (o, k) :: r, f :: g, b, hk, h => by
    simp only [ckFs, Bool.and_eq_true, beq_iff_eq, bne_iff_ne, ne_eq] at hk
    obtain ⟨⟨⟨rfl, hn⟩, hu⟩, hr⟩ := hk
    simp only [eqAgg] at h
    split at h
    · rename_i a c ha hc
      split at h
      · rename_i e he
        simp only [Option.map_eq_some_iff] at h
        obtain ⟨e', h', rfl⟩ := h
        obtain ⟨a', ha', ra⟩ := RelL.get hx ha
        obtain ⟨c', hc', rc⟩ := RelL.get hy hc
        have ih := eqFs_sound d hx hy r g e' hr h'
        have ha2 : ws[f.offset]? = some a' := by rw [← Array.getElem?_toList]; exact ha'
        have hc2 : vs[f.offset]? = some c' := by rw [← Array.getElem?_toList]; exact hc'
        have hpe : P.plainKey f.type = true ∧ (Op.equalIn (d + 1) f.type a' c').run P w = .ok e w := by
          revert hu
          cases ht : P.underlying f.type with
          | none => intro hu; cases hu
          | some td =>
            cases td <;> intro hu <;> try cases hu
            · cases k <;> try cases hu
              simp only [eqF] at he
              split at he
              · cases he; cases ra; cases rc
                exact ⟨by simp [Program.plainKey, ht], run_equalIn_bool w d f.type _ _ ht⟩
              · cases he
            · cases k <;> try cases hu
              simp only [eqF] at he
              split at he
              · split at he
                · rename_i hkk; subst hkk; cases he; cases ra; cases rc
                  refine ⟨by simp [Program.plainKey, ht], ?_⟩
                  rw [run_equalIn_int w d f.type _ _ _ _ ht]
                  rfl
                · cases he
              · cases he
        simp only [Op.eqFields, hn, ne_eq, not_false_eq_true, if_true, Sem.run_bind, run_part_plain w hpe.1 ha2, run_part_plain w hpe.1 hc2, hpe.2, Result.andThen_ok]
        cases e
        · simp
        · simpa using ih
      · cases h
    · cases h
theorem agg_sound {fs : List (Nat × BK)} {t : TypeId} {x y : V} {x' y' : Value} {b : Bool} {op : BinOp} {X Y : Operand} (hk : ckBK P t (.agg fs) = true) (h : equals x y (.agg fs) = some b) (hx : Rel L ι x x') (hy : Rel L ι y y') :
    (eqGuard op t X Y x' y').run P w = .ok () w ∧ (Op.equal t x' y').run P w = .ok b w ∧ (∀ k n, x' ≠ .int k n) ∧ (∀ s, x' ≠ .string s) ∧ (∀ k n, x' ≠ .float k n) ∧ (∀ k n m, x' ≠ .complex k n m) := by
  have hs : ∃ xs ys, x = .agg xs ∧ y = .agg ys := by
    cases x <;> first | (simp [equals] at h; done) | skip
    cases y <;> first | (simp [equals] at h; done) | exact ⟨_, _, rfl, rfl⟩
  obtain ⟨xs, ys, rfl, rfl⟩ := hs
  replace h : eqAgg xs ys fs = some b := h
  obtain ⟨ws, rfl, rx⟩ := hx
  obtain ⟨vs, rfl, ry⟩ := hy
  unfold ckBK at hk
  cases hu : P.underlying t with
  | none => rw [hu] at hk; cases hk
  | some td =>
    rw [hu] at hk
    cases td <;> try (simp at hk; done)
    rename_i g
    simp only [Bool.and_eq_true, Bool.not_eq_true'] at hk
    obtain ⟨⟨h1, h2⟩, h3⟩ := hk
    have hf : P.fieldsOf t = g := by simp [Program.fieldsOf, hu]
    refine ⟨?_, ?_, by simp, by simp, by simp, by simp⟩
    · cases op <;> first | rfl | simp [eqGuard, h3]
    · show (Op.equalIn (9998 + 1 + 1) t _ _).run P w = _
      rw [run_equalIn_struct w (9998 + 1) t ws vs (by rw [hf]; exact hu) h2, hf]
      exact eqFs_sound 9998 rx ry fs g.toList b h1 h
theorem bin_sound {op : BinOp} {k : BK} {t : TypeId} {x y v : V} {x' y' : Value} {X Y : Operand} (hk : ckBK P t k = true) (h : bin op k x y = some v) (hx : Rel L ι x x') (hy : Rel L ι y y') :
    ∃ v', (do eqGuard op t X Y x' y'; binOp op t x' y' : Sem Value).run P w = .ok v' w ∧ Rel L ι v v' := by
  have fin : ∀ {v' : Value}, (binOp op t x' y').run P w = .ok v' w → (∀ l, x' ≠ .agg l) → (x' ≠ .nilIface ∨ y' ≠ .nilIface) → (do eqGuard op t X Y x' y'; binOp op t x' y' : Sem Value).run P w = .ok v' w := by
    intro v' h1 h2 h3; rw [Sem.run_bind, eqGuard_pure h2 h3]; exact h1
  by_cases hn : k = .num
  · subst hn
    simp only [bin] at h
    split at h
    · rename_i k1 a k2 b
      cases hx; cases hy
      have e1 : ∀ l, (Value.int k1 a) ≠ .agg l := by simp
      have e2 : (Value.int k1 a) ≠ .nilIface ∨ (Value.int k2 b) ≠ .nilIface := by simp
      split at h
      · split at h
        · cases h
        · rename_i hb; cases h; exact ⟨_, fin (by simp [binOp, Op.shift, hb]; rfl) e1 e2, rfl⟩
      · split at h
        · cases h
        · rename_i hb; cases h; exact ⟨_, fin (by simp [binOp, Op.shift, hb]; rfl) e1 e2, rfl⟩
      · rename_i n1 n2
        split at h
        · rename_i hkk; subst hkk
          obtain ⟨v', h1, h2⟩ := arith_sound (L := L) (ι := ι) (P := P) (w := w) (t := t) n1 n2 h
          exact ⟨v', fin h1 e1 e2, h2⟩
        · cases h
    · rename_i a b
      cases hx; cases hy
      have e1 : ∀ l, (Value.string a) ≠ .agg l := by simp
      have e2 : (Value.string a) ≠ .nilIface ∨ (Value.string b) ≠ .nilIface := by simp
      split at h
      · cases h; refine ⟨_, fin (v' := .bool (decide (a.toList = b.toList))) ?_ e1 e2, rfl⟩
        show (Op.stringOp .eql a b).run P w = _
        unfold Op.stringOp; exact bool_ok (by rw [Bool.eq_iff_iff]; simp)
      · cases h; refine ⟨_, fin (v' := .bool (decide (a.toList ≠ b.toList))) ?_ e1 e2, rfl⟩
        show (Op.stringOp .neq a b).run P w = _
        unfold Op.stringOp; exact bool_ok (by rw [Bool.eq_iff_iff]; simp)
      · cases h
    · cases h
  by_cases hg : ∃ fs, k = .agg fs
  · obtain ⟨fs, rfl⟩ := hg
    cases op
    case eql =>
      have hb : bin .eql (.agg fs) x y = (equals x y (.agg fs)).map .bool := rfl
      rw [hb] at h
      simp only [Option.map_eq_some_iff] at h
      obtain ⟨b, h1, rfl⟩ := h
      obtain ⟨f1, f2, f4, f5, f6, f7⟩ := agg_sound (w := w) (op := .eql) (X := X) (Y := Y) hk h1 hx hy
      exact ⟨_, by rw [Sem.run_bind, f1]; show (binOp .eql t x' y').run P w = _; rw [binOp_eql f4 f5 f6 f7, Sem.run_bind, f2]; rfl, rfl⟩
    case neq =>
      have hb : bin .neq (.agg fs) x y = (equals x y (.agg fs)).map fun b => .bool !b := rfl
      rw [hb] at h
      simp only [Option.map_eq_some_iff] at h
      obtain ⟨b, h1, rfl⟩ := h
      obtain ⟨f1, f2, f4, f5, f6, f7⟩ := agg_sound (w := w) (op := .neq) (X := X) (Y := Y) hk h1 hx hy
      exact ⟨_, by rw [Sem.run_bind, f1]; show (binOp .neq t x' y').run P w = _; rw [binOp_neq f4 f5 f6 f7, Sem.run_bind, f2]; rfl, rfl⟩
    all_goals cases h
  · have he : ∀ b, equals x y k = some b → eqs x y k = some b := by
      intro b hb; cases k <;> first | exact hb | exact absurd ⟨_, rfl⟩ hg
    cases op
    case eql =>
      have hb : bin .eql k x y = (equals x y k).map .bool := by cases k <;> first | rfl | exact absurd rfl hn
      rw [hb] at h
      simp only [Option.map_eq_some_iff] at h
      obtain ⟨b, h1, rfl⟩ := h
      obtain ⟨f1, f2, f3, f4, f5, f6, f7⟩ := eqs_sound (w := w) hk hn (he b h1) hx hy
      exact ⟨_, fin (by rw [binOp_eql f4 f5 f6 f7, Sem.run_bind, f1]; rfl) f2 f3, rfl⟩
    case neq =>
      have hb : bin .neq k x y = (equals x y k).map fun b => .bool !b := by cases k <;> first | rfl | exact absurd rfl hn
      rw [hb] at h
      simp only [Option.map_eq_some_iff] at h
      obtain ⟨b, h1, rfl⟩ := h
      obtain ⟨f1, f2, f3, f4, f5, f6, f7⟩ := eqs_sound (w := w) hk hn (he b h1) hx hy
      exact ⟨_, fin (by rw [binOp_neq f4 f5 f6 f7, Sem.run_bind, f1]; rfl) f2 f3, rfl⟩
    all_goals (cases k <;> first | exact absurd rfl hn | cases h)

theorem unop_sound {op : UnOp} {x v : V} {x' : Value} (h : unop op x = some v) (hx : Rel L ι x x') : ∃ v', (Op.unary op x').run P w = .ok v' w ∧ Rel L ι v v' := by
  unfold unop at h
  split at h
  · cases h; cases hx; exact ⟨_, by simp [Op.unary, Op.intArith], rfl⟩
  · cases h; cases hx; exact ⟨_, by simp only [Op.unary]; exact bitop_sound (by simp), rfl⟩
  · cases h; cases hx; exact ⟨_, rfl, rfl⟩
  · cases h

end Go.Ab
/- An operation that computes or reads does what the abstract one says. Conditions: none. -/
namespace Go.Ab
variable {L : Lk} {ι : Im} {H : Heap} {w : World} {P : Program}

theorem and2 {a b : Bool} (h : (a && b) = true) : a = true ∧ b = true := by simpa using h

theorem bound_sound {x : Option V} {x' : Option Value} {d y n y' : Nat} {code : BoundsCode} (hr : ∀ v, x = some v → ∃ v', x' = some v' ∧ Rel L ι v v') (hn : x = none → x' = none) (h : bound x d y = some n) (hy : y ≤ y') :
    (x = none ∧ x' = none ∧ n = d) ∨ ∃ v', x' = some v' ∧ (Instr.sliceBound v' y' code).run P w = .ok n w ∧ n ≤ y := by
  unfold bound at h
  split at h
  · cases h; exact .inl ⟨rfl, hn rfl, rfl⟩
  · rename_i k i
    split at h
    · rename_i hi
      cases h
      obtain ⟨v', h1, h2⟩ := hr _ rfl
      cases h2
      refine .inr ⟨_, h1, ?_, by omega⟩
      unfold Instr.sliceBound
      simp only [asIntOf, Sem.run_bind, Sem.run_pure, Result.andThen_ok, Sem.run_ite]
      rw [if_pos (by omega)]
    · cases h
  · cases h

theorem bound_some_le {v : V} {d y n : Nat} (h : bound (some v) d y = some n) : n ≤ y := by
  cases v <;> simp only [bound] at h <;> first | (split at h <;> first | (cases h; omega) | cases h) | cases h

theorem bound_le {x : Option V} {d y n : Nat} (h : bound x d y = some n) (hd : d ≤ y) : n ≤ y := by
  cases x with
  | none => cases h; exact hd
  | some v => exact bound_some_le h

theorem optd_rel {fr : Fr} {a : Act} (hf : FrRel L ι fr a.tmps) {x : Option Opd} {y : Option Operand} {r : Option V} (hc : ckOpt L x y = true) (h : optd fr x = some r) :
    (∀ v, r = some v → ∃ v', y.map a.eval = some v' ∧ Rel L ι v v') ∧ (r = none → y.map a.eval = none) := by
  cases x with
  | none =>
    cases y with
    | none => cases h; exact ⟨(fun v e => by cases e), fun _ => rfl⟩
    | some y => simp [ckOpt] at hc
  | some x =>
    cases y with
    | none => simp [ckOpt] at hc
    | some y =>
      simp only [optd, Option.map_eq_some_iff] at h
      obtain ⟨v, h1, rfl⟩ := h
      exact ⟨(fun u e => by cases e; exact ⟨_, rfl, opd_rel hf hc h1⟩), (fun e => by cases e)⟩

theorem slice_bounds {lo hi mx : Option V} {lo' hi' mx' : Option Value} {len cap cap' m h l : Nat} (hcap : cap ≤ cap') (hlen : len ≤ cap)
    (l1 : ∀ v, lo = some v → ∃ v', lo' = some v' ∧ Rel L ι v v') (l2 : lo = none → lo' = none) (h1 : ∀ v, hi = some v → ∃ v', hi' = some v' ∧ Rel L ι v v') (h2 : hi = none → hi' = none)
    (m1 : ∀ v, mx = some v → ∃ v', mx' = some v' ∧ Rel L ι v v') (m2 : mx = none → mx' = none) (hm3 : hi = none → mx = none)
    (e1 : bound mx cap cap = some m) (e2 : bound hi len m = some h) (e3 : bound lo 0 h = some l) :
    ∃ m', (Instr.sliceBounds true len cap' lo' hi' mx').run P w = .ok (l, h, m') w ∧ l ≤ h ∧ h ≤ m ∧ m ≤ cap ∧ m ≤ m' ∧ m' ≤ cap' := by
  have hb3 : l ≤ h := bound_le e3 (Nat.zero_le _)
  have hlo : ∀ code, (match lo' with | some v => Instr.sliceBound v h code | none => pure 0 : Sem Nat).run P w = .ok l w := fun code => by
    rcases bound_sound (P := P) (w := w) (code := code) l1 l2 e3 (Nat.le_refl _) with ⟨_, h0, rfl⟩ | ⟨v', h0, hr, _⟩
    · rw [h0]; rfl
    · rw [h0]; exact hr
  cases mx with
  | none =>
    have hmx := m2 rfl
    subst hmx
    cases e1
    have hb2 : h ≤ cap := bound_le e2 hlen
    refine ⟨cap', ?_, hb3, hb2, Nat.le_refl _, hcap, Nat.le_refl _⟩
    unfold Instr.sliceBounds
    rcases bound_sound (P := P) (w := w) (code := .sliceAcap) h1 h2 e2 hcap with ⟨_, h0, rfl⟩ | ⟨v', h0, hr, _⟩
    · subst h0; simp only [Sem.run_bind, Sem.run_pure, Result.andThen_ok]
      have := hlo .sliceB
      cases lo' <;> simp_all
    · subst h0; simp only [Sem.run_bind, Sem.run_pure, Result.andThen_ok, if_true, hr]
      have := hlo .sliceB
      cases lo' <;> simp_all
  | some mv =>
    obtain ⟨mv', rfl, hmr⟩ := m1 _ rfl
    cases hi with
    | none => exact absurd (hm3 rfl) (by simp)
    | some hv =>
      obtain ⟨hv', rfl, hhr⟩ := h1 _ rfl
      have hbm : m ≤ cap := bound_some_le e1
      have hb2 : h ≤ m := bound_some_le e2
      refine ⟨m, ?_, hb3, hb2, hbm, Nat.le_refl _, by omega⟩
      unfold Instr.sliceBounds
      rcases bound_sound (P := P) (w := w) (code := .slice3Acap) m1 m2 e1 hcap with ⟨h0, _, _⟩ | ⟨v', h0, hr, _⟩
      · cases h0
      · cases h0
        rcases bound_sound (P := P) (w := w) (code := .slice3B) h1 h2 e2 (Nat.le_refl _) with ⟨h0, _, _⟩ | ⟨v'', h0, hr2, _⟩
        · cases h0
        · cases h0
          simp only [Sem.run_bind, Result.andThen_ok, if_true, hr, hr2]
          have := hlo .slice3C
          cases lo' <;> simp_all

theorem piece_rel {cs : List V} {vs : List Value} {o n : Nat} {l : List V} (h : RelL L ι cs vs) (hp : piece cs o n = some l) : RelL L ι l ((vs.drop o).take n) := by
  unfold piece at hp; split at hp
  · cases hp; exact (h.drop o).take n
  · cases hp

/-- 'part': a struct's, an array's part. -/
theorem part_sound {t : TypeId} {cs : List V} {vs : Array Value} {o : Nat} {n : Option Nat} {v : V} (hc : ckAgg P t n = true) (h : RelL L ι cs vs.toList)
    (hv : partV cs o n = some v) : ∃ v', (part t vs o).run P w = .ok v' w ∧ Rel L ι v v' := by
  unfold ckAgg at hc
  split at hc
  · rename_i d hd
    cases n with
    | none =>
      simp only [Bool.not_eq_true'] at hc
      obtain ⟨v', h1, h2⟩ := h.get hv
      refine ⟨v', ?_, h2⟩
      rw [Array.getElem?_toList] at h1
      unfold part; rw [Sem.run_bind, r_isAgg hd, hc]; simp [h1]
    | some n =>
      obtain ⟨ha, hi⟩ := and2 hc
      simp only [Option.any_eq_true, beq_iff_eq] at hi
      obtain ⟨i, hi1, hi2⟩ := hi
      simp only [partV, Option.map_eq_some_iff] at hv
      obtain ⟨l, hp, rfl⟩ := hv
      refine ⟨.agg (vs.extract o (o + n)), ?_, _, rfl, ?_⟩
      · unfold part; rw [Sem.run_bind, r_isAgg hd, ha]; simp [r_size hi1, hi2]
      · have := piece_rel h hp
        rw [Array.toList_extract, List.extract_eq_take_drop, show o + n - o = n by omega]; exact this
  · cases hc

theorem mm_sound {mx : Bool} : ∀ {r : List V} {ys : List Value} {x v : V} {x' : Value}, mms mx x r = some v → Rel L ι x x' → RelL L ι r ys →
    ∃ v', (ys.foldlM (if mx then Builtin.max2 else Builtin.min2) x').run P w = .ok v' w ∧ Rel L ι v v'
  | [], ys, x, v, x', h, hx, hr => by rw [show ys = [] from hr]; cases h; exact ⟨x', rfl, hx⟩
  | y :: r, ys, x, v, x', h, hx, ⟨y', s, e, hy, hr⟩ => by
    subst e
    simp only [mms] at h
    split at h
    · rename_i z hz
      unfold mm2 at hz
      split at hz
      · split at hz
        · rename_i hk; subst hk
          cases hz; cases hx; cases hy
          obtain ⟨v', h1, h2⟩ := mm_sound (mx := mx) h rfl hr
          refine ⟨v', ?_, h2⟩
          rw [List.foldlM_cons, Sem.run_bind]
          cases mx <;> simpa [Builtin.max2, Builtin.min2] using h1
        · cases hz
      · cases hz
    · cases h

/-- 'fill', over places that are told. -/
theorem over_rel {cells vs : List V} {ws xs : List Value} {o : Nat} (h : RelL L ι cells ws) (k : RelL L ι vs xs) : RelL L ι (over cells o vs) (ws.take o ++ xs ++ ws.drop (o + vs.length)) := by
  unfold over; exact ((h.take o).append k).append (h.drop _)

theorem foldl_set : ∀ (xs : List Value) (cells : Array Value) (o i : Nat), o + i + xs.length ≤ cells.size →
    ((xs.zipIdx i).foldl (fun cs (c, j) => cs.setIfInBounds (o + j) c) cells) = (cells.toList.take (o + i) ++ xs ++ cells.toList.drop (o + i + xs.length)).toArray
  | [], cells, o, i, _ => by simp
  | x :: xs, cells, o, i, h => by
    simp only [List.zipIdx_cons, List.foldl_cons, List.length_cons] at h ⊢
    rw [foldl_set xs _ o (i + 1) (by simp; omega)]
    congr 1
    simp only [Array.toList_setIfInBounds]
    have hlt : o + i < cells.toList.length := by simp; omega
    rw [List.drop_set, if_pos (by omega), ← Nat.add_assoc, List.take_add_one, List.take_set_of_le (Nat.le_refl _), List.getElem?_set_self hlt]
    simp only [Option.toList_some, List.append_assoc, List.singleton_append, List.cons_append, List.nil_append]
    rw [show o + i + 1 + xs.length = o + i + (xs.length + 1) by omega]

theorem fill_sound {place : Nat → Option (Nat × Nat)} : ∀ {ps : List (Nat × Nat × V)} {qs : List (Nat × Value)} {cells cs : List V} {arr : Array Value},
    ps.length = qs.length → (∀ (j : Nat) (o n : Nat) (v : V) (i : Nat) (x : Value), ps[j]? = some (o, n, v) → qs[j]? = some (i, x) → 0 < n ∧ place i = some (o, n) ∧ Rel L ι v x) →
    RelL L ι cells arr.toList → fillA cells ps = some cs → ∃ arr', Instr.fill place arr qs = some arr' ∧ RelL L ι cs arr'.toList
  | [], qs, cells, cs, arr, hl, _, hr, h => by
    have : qs = [] := List.eq_nil_of_length_eq_zero (by simpa using hl.symm)
    subst this; cases h; exact ⟨arr, rfl, hr⟩
  | (o, n, v) :: ps, [], cells, cs, arr, hl, _, _, _ => by simp at hl
  | (o, n, v) :: ps, (i, x) :: qs, cells, cs, arr, hl, hp, hr, h => by
    obtain ⟨hn, hpl, hv⟩ := hp 0 o n v i x rfl rfl
    simp only [fillA] at h
    split at h
    · rename_i hlen
      have hc := hv.cells (by omega)
      have hcl := hc.length
      have hal := hr.length
      have hxs : x.cells.size = n := by rw [← Array.length_toList, ← hcl, hlen.1]
      have hal' : cells.length = arr.size := by rw [hal, Array.length_toList]
      obtain ⟨arr', h1, h2⟩ := fill_sound (place := place) (ps := ps) (qs := qs) (cells := over cells o v.cells) (arr := (arr.toList.take o ++ x.cells.toList ++ arr.toList.drop (o + v.cells.length)).toArray)
        (by simpa using hl) (fun j o n v i x e1 e2 => hp (j + 1) o n v i x (by simpa using e1) (by simpa using e2)) (by simpa using over_rel hr hc) h
      refine ⟨arr', ?_, h2⟩
      rw [← h1]
      simp only [Instr.fill, hpl]
      rw [if_neg (by simp [hxs]; omega)]
      congr 1
      have := foldl_set x.cells.toList arr o 0 (by simp [hxs]; omega)
      rw [← Array.foldl_toList, Array.toList_zipIdx, this]
      simp [hcl]
    · cases h

end Go.Ab
