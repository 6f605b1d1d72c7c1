/- The abstract machine: values, blocks, and an executor that runs a function of the program on them; nothing is proved here. -/
import Derived.CallsIn
import Derived.OrdersIn

/-! ## The abstract machine: values, blocks, and an executor that runs a function of the program on them; nothing is proved here. -/
namespace Go.Hx

/-- An abstract value. Blocks are named by numbers of our own. -/
inductive AV where
  | bool (b : Bool)
  | int (k : IntKind) (n : Int)
  /-- some number of a kind, from lo to hi -/
  | rng (k : IntKind) (lo hi : Int)
  /-- some value of one cell -/
  | any
  | str (s : List UInt8)
  | ptr (b off : Nat)
  | nilptr
  | slice (b off len : Nat) (known : Bool) (c : Nat)
  | eslice
  | nilslice
  | map (b : Nat)
  | nilmap
  | fn (f : FuncId) (first cap : List AV)
  | yield (l : Nat)
  | nilfunc
  | iface (t : TypeId) (v : AV)
  | niliface
  | agg (l : List AV)
  | tup (l : List AV)
  /-- a value that came in: one cell -/
  | inp (k : Nat)
  deriving Inhabited

/-- A tree of slots. -/
inductive Tr (α : Type) where
  | nil
  | node (l : Tr α) (v : Option α) (r : Tr α)

namespace Tr
variable {α : Type}

def get : Tr α → Nat → Option α
  | .nil, _ => none
  | .node l v r, n => match n with
    | 0 => v
    | m + 1 => bif Nat.beq (m % 2) 0 then l.get (m / 2) else r.get (m / 2)

def mk (l : Tr α) (v : Option α) (r : Tr α) : Tr α :=
  match l with
  | .nil => match r with
    | .nil => .node .nil v .nil
    | .node rl rv rr => .node .nil v (.node rl rv rr)
  | .node ll lv lr => match r with
    | .nil => .node (.node ll lv lr) v .nil
    | .node rl rv rr => .node (.node ll lv lr) v (.node rl rv rr)

def setF : Nat → Tr α → Nat → Option α → Tr α
  | 0, t, _, _ => t
  | f + 1, t, n, x => match t with
    | .nil => match n with
      | 0 => mk .nil x .nil
      | m + 1 => bif Nat.beq (m % 2) 0 then mk (setF f .nil (m / 2) x) none .nil else mk .nil none (setF f .nil (m / 2) x)
    | .node l v r => match n with
      | 0 => mk l x r
      | m + 1 => bif Nat.beq (m % 2) 0 then mk (setF f l (m / 2) x) v r else mk l v (setF f r (m / 2) x)

def set (t : Tr α) (n : Nat) (x : α) : Tr α := setF (n + 1) t n (some x)
def del (t : Tr α) (n : Nat) : Tr α := setF (n + 1) t n none

def ofListFrom : List α → Nat → Tr α → Tr α
  | [], _, t => t
  | x :: l, n, t => ofListFrom l (n + 1) (t.set n x)
end Tr

abbrev Tm := Tr AV

/-- A block. 'cells l es': cells, of which l are known from the first on; es: the cells of an element. -/
inductive ABlk where
  | cells (l : List AV) (es : Nat)
  | map (es : List (AV × AV × Nat)) (clock : Nat)
  | iter (m : Option Nat) (since : Nat) (seen : List Nat) (stepped : Nat)
  | siter (s : List UInt8) (pos : Nat)
  | loop (state : LoopState) (pending : Option Code) (fn : FuncId) (tm : Tm) (n : Nat) (params : Array Tmp) (assign body : Code) (dfr : Nat)
  | dfr (shut : Bool)
  deriving Inhabited

structure AH where
  blk : Tr ABlk
  next : Nat

def AH.get (h : AH) (n : Nat) : Option ABlk := h.blk.get n
def AH.put (h : AH) (n : Nat) (b : ABlk) : AH := ⟨h.blk.set n b, h.next⟩
def AH.new (h : AH) (b : ABlk) : AH := ⟨h.blk.set h.next b, h.next + 1⟩
def AH.drop (h : AH) (n : Nat) : AH := ⟨h.blk.del n, h.next⟩

/-! ### from the model's values -/
def ofV1 : Value → Option AV
  | .bool b => some (.bool b)
  | .int k n => some (.int k n)
  | .string s => some (.str s.data.toList)
  | .pointer none => some .nilptr
  | .slice none len cap => match len, cap with
    | 0, 0 => some .nilslice
    | _, _ => none
  | .map none => some .nilmap
  | .nilFunc => some .nilfunc
  | .nilIface => some .niliface
  | _ => none

def mapO {α β : Type} (f : α → Option β) : List α → Option (List β)
  | [] => some []
  | x :: l => match f x with
    | none => none
    | some y => match mapO f l with
      | none => none
      | some ys => some (y :: ys)

def ofV : Value → Option AV
  | .agg cs => match mapO ofV1 cs.toList with
    | some l => some (.agg l)
    | none => none
  | .tuple cs => match cs.toList with
    | [] => some (.tup [])
    | _ => none
  | v => ofV1 v

def AV.cells : AV → List AV
  | .agg l => l
  | v => [v]

/-- one cell's value -/
def AV.one : AV → Bool
  | .agg _ => false
  | .tup _ => false
  | _ => true

/-! ### types -/
section
variable (P : Program)

def tsize (t : TypeId) : Option Nat := match P.info? t with
  | some i => some i.size
  | none => none
def tzero (t : TypeId) : Option AV := match P.info? t with
  | some i => match i.zero with
    | some z => ofV z
    | none => none
  | none => none

def isAggT (t : TypeId) : Option Bool := match P.underlying t with
  | some (.struct _) => some true
  | some (.array _ _) => some true
  | some _ => some false
  | none => none
end

/-! ### operations on integers -/
def arith (op : BinOp) (k : IntKind) (x y : Int) : Option AV :=
  match op with
  | .add => some (.int k (k.wrap (x + y)))
  | .sub => some (.int k (k.wrap (x - y)))
  | .mul => some (.int k (k.wrap (x * y)))
  | .quo => if y = 0 then none else some (.int k (k.wrap (x.tdiv y)))
  | .rem => if y = 0 then none else some (.int k (x.tmod y))
  | .and => some (.int k (k.wrap (BitVec.ofInt k.bits x &&& BitVec.ofInt k.bits y).toNat))
  | .or => some (.int k (k.wrap (BitVec.ofInt k.bits x ||| BitVec.ofInt k.bits y).toNat))
  | .xor => some (.int k (k.wrap (BitVec.ofInt k.bits x ^^^ BitVec.ofInt k.bits y).toNat))
  | .andNot => some (.int k (k.wrap (BitVec.ofInt k.bits x &&& ~~~(BitVec.ofInt k.bits y)).toNat))
  | .eql => some (.bool (x == y))
  | .neq => some (.bool (x != y))
  | .lss => some (.bool (decide (x < y)))
  | .leq => some (.bool (decide (x ≤ y)))
  | .gtr => some (.bool (decide (x > y)))
  | .geq => some (.bool (decide (x ≥ y)))
  | _ => none

def shift (op : BinOp) (k : IntKind) (x y : Int) : Option AV :=
  if y < 0 then none else
  match op with
  | .shl => some (.int k (k.wrap (x * 2 ^ (min y.toNat k.bits))))
  | .shr => some (.int k (x.fdiv (2 ^ (min y.toNat k.bits))))
  | _ => none

def kindEq (j k : IntKind) : Bool := decide (j = k)

/-- some number of a kind -/
def topA (k : IntKind) : AV := .rng k k.min k.max

/-- a comparison: true, false, or not to be told -/
def cmpR (yes no : Bool) : Option AV := if yes then some (.bool true) else if no then some (.bool false) else none

/-- an operation on numbers that are known to lie from a to b, from c to d -/
def rngArith (op : BinOp) (k : IntKind) (a b c d : Int) : Option AV :=
  match op with
  | .add | .sub | .mul | .and | .or | .xor | .andNot => some (topA k)
  | .lss => cmpR (decide (b < c)) (decide (d ≤ a))
  | .leq => cmpR (decide (b ≤ c)) (decide (d < a))
  | .gtr => cmpR (decide (d < a)) (decide (b ≤ c))
  | .geq => cmpR (decide (d ≤ a)) (decide (b < c))
  | .eql => cmpR false (decide (b < c) || decide (d < a))
  | .neq => cmpR (decide (b < c) || decide (d < a)) false
  | _ => none

def rngShift (op : BinOp) (k : IntKind) (y : Int) (a b : Int) : Option AV :=
  if y < 0 then none else
  match op with
  | .shl => some (topA k)
  | .shr => if decide (k.min ≤ a) && decide (b ≤ k.max) then some (topA k) else none
  | _ => none

def bytesLess : List UInt8 → List UInt8 → Bool
  | _, [] => false
  | [], _ :: _ => true
  | a :: x, b :: y => a < b || (a == b && bytesLess x y)

def strOp (op : BinOp) (x y : List UInt8) : Option AV :=
  match op with
  | .add => if ((x.length + y.length : Nat) : Int) > 9223372036854775807 then none else some (.str (x ++ y))
  | .eql => some (.bool (x == y))
  | .neq => some (.bool (!(x == y)))
  | .lss => some (.bool (bytesLess x y))
  | .leq => some (.bool (bytesLess x y || x == y))
  | .gtr => some (.bool (!(bytesLess x y || x == y)))
  | .geq => some (.bool (!bytesLess x y))
  | _ => none

/-! ### equality -/
def isIntT (P : Program) (t : TypeId) : Bool := match P.underlying t with
  | some (.int _) => true
  | _ => false

def aeq1 (P : Program) (t : TypeId) (x y : AV) : Option Bool :=
  match x, y with
  | .bool a, .bool b => match P.underlying t with
    | some .bool => some (a == b)
    | _ => none
  | .int j a, .int k b => if kindEq j k then (match P.underlying t with
      | some (.int _) => some (a == b)
      | _ => none) else none
  | .str a, .str b => match P.underlying t with
    | some .string => some (a == b)
    | _ => none
  | .nilptr, .nilptr => match P.underlying t with
    | some (.pointer _) => some true
    | _ => none
  | .nilptr, .ptr _ _ => match P.underlying t with
    | some (.pointer _) => some false
    | _ => none
  | .ptr _ _, .nilptr => match P.underlying t with
    | some (.pointer _) => some false
    | _ => none
  | .niliface, .niliface => match P.underlying t with
    | some (.interface _) => some true
    | _ => none
  | .niliface, .iface _ _ => match P.underlying t with
    | some (.interface _) => some false
    | _ => none
  | .iface _ _, .niliface => match P.underlying t with
    | some (.interface _) => some false
    | _ => none
  | .nilslice, .nilslice => match P.underlying t with
    | some (.slice _) => some true
    | _ => none
  | .nilslice, .slice _ _ _ _ _ => match P.underlying t with
    | some (.slice _) => some false
    | _ => none
  | .slice _ _ _ _ _, .nilslice => match P.underlying t with
    | some (.slice _) => some false
    | _ => none
  | _, _ => none

def eqInts : List AV → List AV → Option Bool
  | [], [] => some true
  | .int j a :: l, .int k b :: m => if kindEq j k then (if a == b then eqInts l m else
      (match eqInts l m with
       | some _ => some false
       | none => none)) else none
  | _, _ => none

/-- arrays of integers -/
def aeq (P : Program) (t : TypeId) (x y : AV) : Option Bool :=
  match x, y with
  | .agg l, .agg m => match P.underlying t with
    | some (.array n e) => if isIntT P e && Nat.beq l.length n && Nat.beq m.length n then (match tsize P e with
        | some 1 => eqInts l m
        | _ => none) else none
    | _ => none
  | _, _ => aeq1 P t x y

def isConst : Operand → Bool
  | .const _ => true
  | _ => false

def guardOK (P : Program) (t : TypeId) (ox oy : Operand) (x y : AV) : Bool :=
  match x, y with
  | .niliface, .niliface => isConst ox || isConst oy
  | .agg _, .agg _ => !(P.eqGuardType P.depth t)
  | .any, _ => false
  | .inp _, _ => false
  | _, .any => false
  | _, .inp _ => false
  | _, _ => true

def eqOp (P : Program) (op : BinOp) (t : TypeId) (ox oy : Operand) (x y : AV) : Option AV :=
  if guardOK P t ox oy x y then
    match op with
    | .eql => match aeq P t x y with
      | some b => some (.bool b)
      | none => none
    | .neq => match aeq P t x y with
      | some b => some (.bool (!b))
      | none => none
    | _ => none
  else none

def binOpA (P : Program) (op : BinOp) (t : TypeId) (ox oy : Operand) (x y : AV) : Option AV :=
  match x, y with
  | .int j a, .int k b => match op with
    | .shl => shift .shl j a b
    | .shr => shift .shr j a b
    | op => if kindEq j k then arith op j a b else none
  | .rng j a1 a2, .int k b => match op with
    | .shl => rngShift .shl j b a1 a2
    | .shr => rngShift .shr j b a1 a2
    | op => if kindEq j k then rngArith op j a1 a2 b b else none
  | .int j a, .rng k b1 b2 => match op with
    | .shl => none
    | .shr => none
    | op => if kindEq j k then rngArith op j a a b1 b2 else none
  | .rng j a1 a2, .rng k b1 b2 => match op with
    | .shl => none
    | .shr => none
    | op => if kindEq j k then rngArith op j a1 a2 b1 b2 else none
  | .str a, .str b => strOp op a b
  | x, y => eqOp P op t ox oy x y

def unOpA (op : UnOp) (x : AV) : Option AV :=
  match op, x with
  | .neg, .int k n => some (.int k (k.wrap (0 - n)))
  | .neg, .rng k _ _ => some (topA k)
  | .xor, .int k n => arith .xor k (if k.signed then -1 else k.max) n
  | .xor, .rng k _ _ => some (topA k)
  | .not, .bool b => some (.bool !b)
  | _, _ => none

/-! ### memory -/
def takeN {α : Type} : Nat → List α → Option (List α)
  | 0, _ => some []
  | _ + 1, [] => none
  | n + 1, x :: l => match takeN n l with
    | some m => some (x :: m)
    | none => none

def dropN {α : Type} : Nat → List α → Option (List α)
  | 0, l => some l
  | _ + 1, [] => none
  | n + 1, _ :: l => dropN n l

/-- cells laid over others, from a place on; all must be there -/
def splice : List AV → Nat → List AV → Option (List AV)
  | l, 0, vs => over l vs
  | [], _ + 1, _ => none
  | x :: l, n + 1, vs => match splice l n vs with
    | some m => some (x :: m)
    | none => none
where
  over : List AV → List AV → Option (List AV)
    | l, [] => some l
    | [], _ :: _ => none
    | _ :: l, v :: vs => match over l vs with
      | some m => some (v :: m)
      | none => none

def rd (h : AH) (b off n : Nat) : Option (List AV) :=
  match h.get b with
  | some (.cells l _) => match dropN off l with
    | some r => takeN n r
    | none => none
  | _ => none

def wr (h : AH) (b off : Nat) (vs : List AV) : Option AH :=
  match h.get b with
  | some (.cells l es) => match splice l off vs with
    | some m => some (h.put b (.cells m es))
    | none => none
  | _ => none

def allOne : List AV → Bool
  | [] => true
  | v :: l => v.one && allOne l

def loadA (P : Program) (h : AH) (t : TypeId) (p : AV) : Option AV :=
  match p with
  | .ptr b off => match isAggT P t with
    | some true => match tsize P t with
      | some n => match rd h b off n with
        | some l => some (.agg l)
        | none => none
      | none => none
    | some false => match rd h b off 1 with
      | some [v] => some v
      | _ => none
    | none => none
  | _ => none

def storeA (P : Program) (h : AH) (t : TypeId) (p v : AV) : Option AH :=
  match p with
  | .ptr b off => match tsize P t with
    | some n => if Nat.beq v.cells.length n && allOne v.cells then wr h b off v.cells else none
    | none => none
  | _ => none

/-- n elements of a slice -/
def elems (h : AH) (es n : Nat) (x : AV) : Option (List AV) :=
  match x with
  | .slice b off _ _ _ => rd h b off (n * es)
  | .eslice => if Nat.beq (n * es) 0 then some [] else none
  | .nilslice => if Nat.beq n 0 then some [] else none
  | .str s => if Nat.ble n s.length then some ((s.take n).map fun b => .int .u8 b.toNat) else none
  | _ => none

def lenA : AV → Option Nat
  | .slice _ _ n _ _ => some n
  | .eslice => some 0
  | .nilslice => some 0
  | .str s => some s.length
  | _ => none

/-- a value of one cell, or of several -/
def shapeOK : AV → Bool
  | .tup _ => false
  | _ => true

/-- the zero value has as many cells as the type -/
def zeroOK (P : Program) (t : TypeId) (n : Nat) : Bool := match tzero P t with
  | some z => shapeOK z && Nat.beq z.cells.length n
  | none => false

/-- append -/
def appendA (P : Program) (h : AH) (st : TypeId) (xt : Option TypeId) (s x : AV) : Option (AV × AH) :=
  match P.underlying st with
  | some (.slice e) => match P.info? e with
    | some i => match xt with
      | some xt => match P.underlying xt with
        | some (.int _) => none
        | none => none
        | some _ => match lenA x with
          | some n => match elems h i.size n x with
            | some new => if Nat.beq i.bytes 0 || !Nat.ble ((1000000 + n) * i.bytes) 140737488355328 || !allOne new || Nat.beq i.size 0 || !zeroOK P e i.size || !Nat.beq new.length (n * i.size) then none else
              match s with
              | .nilslice => if Nat.beq n 0 then some (.nilslice, h) else some (.slice h.next 0 n false 0, h.new (.cells new i.size))
              | .slice b off len true c =>
                if Nat.ble (len + n) c then
                  match wr h b (off + len * i.size) new with
                  | some h' => some (.slice b off (len + n) true c, h')
                  | none => none
                else if Nat.ble len 1000000 then match rd h b off (len * i.size) with
                  | some old => some (.slice h.next 0 (len + n) false 0, h.new (.cells (old ++ new) i.size))
                  | none => none
                else none
              | .slice b off len false 0 =>
                if Nat.beq off 0 then
                  if Nat.beq n 0 then some (.slice b off len false 0, h) else
                  if Nat.ble len 1000000 then match h.get b with
                    | some (.cells l es) => if Nat.beq es i.size then match takeN (len * es) l with
                      | some old => some (.slice h.next 0 (len + n) false 0, (h.drop b).new (.cells (old ++ new) es))
                      | none => none
                      else none
                    | _ => none
                  else none
                else none
              | .eslice => none
              | _ => none
            | none => none
          | none => none
      | none => none
    | none => none
  | _ => none

def copyA (P : Program) (h : AH) (dt : TypeId) (d x : AV) : Option (AV × AH) :=
  match P.underlying dt with
  | some (.slice e) => match tsize P e with
    | some es => match lenA d, lenA x with
      | some dn, some xn => match elems h es (min xn dn) x with
        | some new => if allOne new then (match d with
          | .slice b off _ _ _ => match wr h b off new with
            | some h' => some (.int .i64 (min xn dn : Nat), h')
            | none => none
          | .eslice => some (.int .i64 0, h)
          | .nilslice => some (.int .i64 0, h)
          | _ => none) else none
        | none => none
      | _, _ => none
    | none => none
  | _ => none

/-- the bounds of a cut -/
def bound (x : Option AV) (y : Nat) (d : Nat) : Option Nat :=
  match x with
  | none => some d
  | some (.int _ i) => if 0 ≤ i then (if Nat.ble i.toNat y then some i.toNat else none) else none
  | _ => none

def sliceA (P : Program) (t : TypeId) (x : AV) (lo hi mx : Option AV) : Option AV :=
  match P.underlying t with
  | some .string => match x, mx with
    | .str s, none => match bound hi s.length s.length with
      | some h => match bound lo h 0 with
        | some l => some (.str ((s.take h).drop l))
        | none => none
      | none => none
    | _, _ => none
  | some (.array n e) => match tsize P e, x with
    | some es, .ptr b off => match bound mx n n with
      | some m => match bound hi (if mx.isSome then m else n) n with
        | some h => match bound lo h 0 with
          | some l => if mx.isSome && hi.isNone then none else
            if Nat.beq m l then some (.slice b off (h - l) true (m - l)) else some (.slice b (off + l * es) (h - l) true (m - l))
          | none => none
        | none => none
      | none => none
    | _, _ => none
  | some (.slice e) => match tsize P e with
    | some es => match x with
      | .nilslice => match bound mx 0 0 with
        | some m => match bound hi 0 0 with
          | some h => match bound lo h 0 with
            | some _ => if mx.isSome && hi.isNone then none else if Nat.beq m 0 then some .nilslice else none
            | none => none
          | none => none
        | none => none
      | .eslice => match mx with
        | some _ => none
        | none => match bound hi 0 0 with
          | some h => match bound lo h 0 with
            | some _ => some .eslice
            | none => none
          | none => none
      | .slice b off len true c => match bound mx c c with
        | some m => match bound hi (if mx.isSome then m else c) len with
          | some h => match bound lo h 0 with
            | some l => if mx.isSome && hi.isNone then none else
              if Nat.beq m l then some (.slice b off (h - l) true (m - l)) else some (.slice b (off + l * es) (h - l) true (m - l))
            | none => none
          | none => none
        | none => none
      | .slice b off len false sk => match mx with
        | some mv => match bound (some mv) len len with
          | some m => match hi with
            | none => none
            | some hv => match bound (some hv) m m with
              | some h => match bound lo h 0 with
                | some l => if Nat.beq m l then some (.slice b off (h - l) true (m - l)) else some (.slice b (off + l * es) (h - l) true (m - l))
                | none => none
              | none => none
          | none => none
        | none => match bound hi len len with
          | some h => match bound lo h 0 with
            | some l => if Nat.beq l 0 then some (.slice b off h false sk) else
              if Nat.ble (l + 1) len then some (.slice b (off + l * es) (h - l) false (sk + l)) else
              if Nat.beq h l then some .eslice else none
            | none => none
          | none => none
      | _ => none
    | none => none
  | _ => none

def addI (off i es : Nat) : Nat := off + i * es

def indexAddrA (P : Program) (t : TypeId) (x i : AV) : Option AV :=
  match i with
  | .int _ i => if 0 ≤ i then match P.underlying t with
      | some (.array n e) => match tsize P e, x with
        | some es, .ptr b off => if Nat.ble (i.toNat + 1) n then some (.ptr b (off + i.toNat * es)) else none
        | _, _ => none
      | some (.slice e) => match tsize P e, x with
        | some es, .slice b off len _ _ => if Nat.ble (i.toNat + 1) len then some (.ptr b (off + i.toNat * es)) else none
        | _, _ => none
      | _ => none
    else none
  | _ => none

def partA (P : Program) (t : TypeId) (cs : List AV) (off : Nat) : Option AV :=
  match isAggT P t with
  | some true => match tsize P t with
    | some n => match dropN off cs with
      | some r => match takeN n r with
        | some l => some (.agg l)
        | none => none
      | none => none
    | none => none
  | some false => match dropN off cs with
    | some (v :: _) => some v
    | _ => none
  | none => none

def indexA (P : Program) (t : TypeId) (x i : AV) : Option AV :=
  match i with
  | .int _ i => if 0 ≤ i then match P.underlying t, x with
      | some (.array n e), .agg cs => if Nat.ble (i.toNat + 1) n then match tsize P e with
          | some es => partA P e cs (i.toNat * es)
          | none => none
        else none
      | some .string, .str s => match dropN i.toNat s with
        | some (b :: _) => some (.int .u8 b.toNat)
        | _ => none
      | _, _ => none
    else none
  | _ => none

def fieldAddrA (P : Program) (t : TypeId) (x : AV) (f : Nat) : Option AV :=
  match P.underlying t, x with
  | some (.struct fs), .ptr b off => match fs[f]? with
    | some fl => match tsize P fl.type with
      | some n => if Nat.beq n 0 then none else some (.ptr b (off + fl.offset))
      | none => none
    | none => none
  | _, _ => none

def fieldA (P : Program) (t : TypeId) (x : AV) (f : Nat) : Option AV :=
  match P.underlying t, x with
  | some (.struct fs), .agg cs => match fs[f]? with
    | some fl => partA P fl.type cs fl.offset
    | none => none
  | _, _ => none

/-- parts laid over zeros -/
def fillA (place : Nat → Option (Nat × Nat)) (cells : List AV) : List (Nat × AV) → Option (List AV)
  | [] => some cells
  | (i, v) :: rest => match place i with
    | none => none
    | some (off, size) => if Nat.beq v.cells.length size then match splice cells off v.cells with
        | some m => fillA place m rest
        | none => none
      else none

def placesA (P : Program) : List Field → Option (List (Nat × Nat))
  | [] => some []
  | f :: l => match tsize P f.type with
    | some n => match placesA P l with
      | some m => some ((f.offset, n) :: m)
      | none => none
    | none => none

/-- a part of a struct or an array: one cell, or several -/
def partsOK : List (Nat × AV) → Bool
  | [] => true
  | (_, .tup _) :: _ => false
  | _ :: l => partsOK l

def buildA (P : Program) (t : TypeId) (parts : List (Nat × AV)) : Option AV :=
  match tzero P t with
  | some z => if shapeOK z && partsOK parts then
    match P.underlying t with
    | some (.struct fs) => match placesA P fs.toList with
      | some places => match fillA (fun i => places[i]?) z.cells parts with
        | some l => some (.agg l)
        | none => none
      | none => none
    | some (.array _ e) => match tsize P e with
      | some es => match fillA (fun i => some (i * es, es)) z.cells parts with
        | some l => some (.agg l)
        | none => none
      | none => none
    | _ => none
    else none
  | none => none

def repL {α : Type} : Nat → List α → List α
  | 0, _ => []
  | n + 1, l => l ++ repL n l

/-- what an operation that makes a block of its own hands back, and the block: it is named n -/
def buildSliceA (P : Program) (n : Nat) (t : TypeId) (len : Nat) (parts : List (Nat × AV)) : Option (AV × ABlk) :=
  match P.underlying t with
  | some (.slice e) => match tsize P e, tzero P e with
    | some es, some z => if Nat.ble (len * es) 10000 && Nat.beq z.cells.length es && allOne z.cells && partsOK parts && !Nat.beq es 0 then
        match fillA (fun i => some (i * es, es)) (repL len z.cells) parts with
        | some l => if allOne l then some (.slice n 0 len true len, .cells l es) else none
        | none => none
      else none
    | _, _ => none
  | _ => none

def makeSliceA (P : Program) (n : Nat) (t : TypeId) (len cap : AV) : Option (AV × ABlk) :=
  match len, cap with
  | .int _ l, .int _ c => match P.underlying t with
    | some (.slice e) => match tsize P e, tzero P e, P.info? e with
      | some es, some z, some i => if decide (0 ≤ l) && decide (l ≤ c) && decide (c ≤ 100000) && Nat.ble i.bytes 100000 && Nat.beq z.cells.length es && allOne z.cells && !Nat.beq es 0 then
          some (.slice n 0 l.toNat true c.toNat, .cells (repL c.toNat z.cells) es)
        else none
      | _, _, _ => none
    | _ => none
  | _, _ => none

def strBytesA (P : Program) (n : Nat) (src dst : TypeId) (x : AV) : Option (AV × ABlk) :=
  match P.underlying src, P.underlying dst, x with
  | some .string, some (.slice e), .str s => match P.underlying e with
    | some (.int .u8) => match tsize P e with
      | some 1 => if Nat.ble s.length 1000000 then some (.slice n 0 s.length false 0, .cells (s.map fun b => .int .u8 b.toNat) 1) else none
      | _ => none
    | _ => none
  | _, _, _ => none

def bytesOf : List AV → Option (List UInt8)
  | [] => some []
  | .int .u8 n :: l => match bytesOf l with
    | some m => some (UInt8.ofNat n.toNat :: m)
    | none => none
  | _ => none

/-- what a conversion is: 0: between numbers, 1: it reads, 2: it makes a block, 3: all else -/
def convKind (P : Program) (src dst : TypeId) : Nat :=
  match P.underlying src, P.underlying dst with
  | some _, some (.int _) => 0
  | some .string, some .string => 0
  | some (.slice _), some .string => 1
  | some .string, some (.slice _) => 2
  | _, _ => 3

def convertP (P : Program) (src dst : TypeId) (x : AV) : Option AV :=
  match P.underlying src, P.underlying dst, x with
  | some _, some (.int k), .int _ n => some (.int k (k.wrap n))
  | some _, some (.int k), .rng _ _ _ => some (topA k)
  | some .string, some .string, .str s => some (.str s)
  | _, _, _ => none

def convertR (P : Program) (h : AH) (src dst : TypeId) (x : AV) : Option AV :=
  match P.underlying src, P.underlying dst, x with
  | some (.slice e), some .string, .slice b off len _ _ => match P.underlying e with
    | some (.int .u8) => match rd h b off len with
      | some l => match bytesOf l with
        | some s => some (.str s)
        | none => none
      | none => none
    | _ => none
  | some (.slice e), some .string, .nilslice => match P.underlying e with
    | some (.int .u8) => some (.str [])
    | _ => none
  | some (.slice e), some .string, .eslice => match P.underlying e with
    | some (.int .u8) => some (.str [])
    | _ => none
  | _, _, _ => none

/-- the mark behind the end of bytes that came of a constant -/
def convertX (P : Program) (h : AH) (src dst : TypeId) (x : AV) : Option (AV × AH) :=
  match P.underlying src, P.underlying dst, x with
  | some (.slice _), some (.slice e), .slice b off len kn c => if Nat.beq src dst then (match P.underlying e with
    | some (.int .u8) => match h.get b with
      | some (.cells _ _) => some (.slice b off len kn c, h)
      | _ => none
    | _ => none) else none
  | _, _, _ => none

/-! ### maps -/
/-- a list all of whose values are numbers, known or not -/
def intsB : List AV → Bool
  | [] => true
  | .int _ _ :: l => intsB l
  | _ => false

def keyOk (P : Program) (t : TypeId) (k : AV) : Bool :=
  match P.underlying t, k with
  | some (.int _), .int _ _ => true
  | some .string, .str _ => true
  | some (.array n e), .agg l => isIntT P e && Nat.beq l.length n && (match tsize P e with
    | some 1 => true
    | _ => false) && Nat.ble n 1000 && intsB l
  | _, _ => false

/-- where a key stands -/
def findA (P : Program) (t : TypeId) (k : AV) : List (AV × AV × Nat) → Nat → Option (Option (Nat × AV))
  | [], _ => some none
  | (k', v, _) :: es, i => match aeq P t k k' with
    | some true => some (some (i, v))
    | some false => findA P t k es (i + 1)
    | none => none

def setNth {α : Type} (f : α → α) : Nat → List α → List α
  | _, [] => []
  | 0, x :: l => f x :: l
  | n + 1, x :: l => x :: setNth f n l

def delNth {α : Type} : Nat → List α → List α
  | _, [] => []
  | 0, _ :: l => l
  | n + 1, x :: l => x :: delNth n l

def lookupA (P : Program) (h : AH) (t : TypeId) (m k : AV) (ok : Bool) : Option AV :=
  match P.underlying t with
  | some (.map kt et) => if keyOk P kt k then
      let es := match m with
        | .nilmap => some []
        | .map r => match h.get r with
          | some (.map es _) => some es
          | _ => none
        | _ => none
      match es with
      | some es => match findA P kt k es 0 with
        | some (some (_, v)) => some (if ok then .tup [v, .bool true] else v)
        | some none => match tzero P et with
          | some z => some (if ok then .tup [z, .bool false] else z)
          | none => none
        | none => none
      | none => none
    else none
  | _ => none

def mapUpdateA (P : Program) (h : AH) (t : TypeId) (m k v : AV) : Option AH :=
  match P.underlying t with
  | some (.map kt _) => if keyOk P kt k then match m with
      | .map r => match h.get r with
        | some (.map es clock) => match findA P kt k es 0 with
          | some (some (i, _)) => some (h.put r (.map (setNth (fun e => (k, v, e.2.2)) i es) clock))
          | some none => some (h.put r (.map (es ++ [(k, v, clock)]) (clock + 1)))
          | none => none
        | _ => none
      | _ => none
    else none
  | _ => none

def deleteA (P : Program) (h : AH) (t : TypeId) (m k : AV) : Option AH :=
  match P.underlying t with
  | some (.map kt _) => if keyOk P kt k then match m with
      | .nilmap => some h
      | .map r => match h.get r with
        | some (.map es clock) => match findA P kt k es 0 with
          | some (some (i, _)) => some (h.put r (.map (delNth i es) clock))
          | some none => some h
          | none => none
        | _ => none
      | _ => none
    else none
  | _ => none

def lenOp (P : Program) (h : AH) (t : TypeId) (x : AV) : Option AV :=
  match P.underlying t, x with
  | some .string, .str s => some (.int .i64 s.length)
  | some (.array n _), _ => some (.int .i64 n)
  | some (.slice _), .slice _ _ n _ _ => some (.int .i64 n)
  | some (.slice _), .nilslice => some (.int .i64 0)
  | some (.slice _), .eslice => some (.int .i64 0)
  | some (.map _ _), .nilmap => some (.int .i64 0)
  | some (.map _ _), .map r => match h.get r with
    | some (.map es _) => some (.int .i64 es.length)
    | _ => none
  | _, _ => none

def minA : AV → List AV → Option AV
  | x, [] => some x
  | .int j a, .int k b :: l => if kindEq j k then minA (.int j (if b < a then b else a)) l else none
  | _, _ => none

def maxA : AV → List AV → Option AV
  | x, [] => some x
  | .int j a, .int k b :: l => if kindEq j k then maxA (.int j (if a < b then b else a)) l else none
  | _, _ => none

def typeAssertA (P : Program) (x : AV) (t : TypeId) (ok : Bool) : Option AV :=
  match P.underlying t, x with
  | some (.interface _), _ => none
  | some _, .niliface => if ok then match tzero P t with
      | some z => some (.tup [z, .bool false])
      | none => none
    else none
  | some _, .iface d v => if Nat.beq d t then some (if ok then .tup [v, .bool true] else v) else
    if ok then match tzero P t with
      | some z => some (.tup [z, .bool false])
      | none => none
    else none
  | _, _ => none

def rangeA (P : Program) (h : AH) (t : TypeId) (x : AV) : Option (AV × AH) :=
  match P.underlying t, x with
  | some .string, .str s => some (.ptr h.next 0, h.new (.siter s 0))
  | some (.map _ _), .nilmap => some (.ptr h.next 0, h.new (.iter none 0 [] 0))
  | some (.map _ _), .map m => match h.get m with
    | some (.map _ clock) => some (.ptr h.next 0, h.new (.iter (some m) clock [] clock))
    | _ => none
  | _, _ => none

/-- a step over a map: of one entry at most, and nothing new -/
def nextA (h : AH) (x : AV) : Option (AV × AH) :=
  match x with
  | .ptr r 0 => match h.get r with
    | some (.iter none _ _ _) => some (.tup [.bool false], h)
    | some (.iter (some m) since seen stp) => match h.get m with
      | some (.map [] _) => match seen with
        | [] => some (.tup [.bool false], h)
        | _ => none
      | some (.map [(k, v, born)] clock) => match seen with
        | [] => if Nat.ble (born + 1) since then some (.tup [.bool true, k, v], h.put r (.iter (some m) since [born] clock)) else none
        | [b] => if Nat.beq b born && Nat.ble (born + 1) stp then some (.tup [.bool false], h) else none
        | _ => none
      | _ => none
    | _ => none
  | _ => none

end Go.Hx

/-! ## The executor: a function of the program run on abstract values; its parts are named so that each can be proved apart. -/
namespace Go.Hx

inductive Ex where
  | normal
  | exit (id : Nat)
  | goto (l : Nat)
  | ret

structure St where
  tm : Tm
  dfr : List Nat
  h : AH

structure Cx where
  fn : FuncId
  ro : Option Nat
  n : Nat

inductive Task where
  | code (c : Code) (cx : Cx) (s : St)
  | call (f : FuncId) (args : List AV) (h : AH)

inductive Res where
  | code (e : Ex) (s : St)
  | call (v : AV) (h : AH)

def Tm.at (tm : Tm) (t : Nat) : AV := match tm.get t with
  | some v => v
  | none => .tup []

def evalA (tm : Tm) : Operand → Option AV
  | .tmp t => some (Tm.at tm t)
  | .const v => ofV v
  | .global _ => none
  | .func f => some (.fn f [] [])

def evalL (tm : Tm) : List Operand → Option (List AV)
  | [] => some []
  | x :: l => match evalA tm x with
    | some v => match evalL tm l with
      | some vs => some (v :: vs)
      | none => none
    | none => none

def evalO (tm : Tm) : Option Operand → Option (Option AV)
  | none => some none
  | some x => match evalA tm x with
    | some v => some (some v)
    | none => none

def evalP (tm : Tm) : List (Nat × Operand) → Option (List (Nat × AV))
  | [] => some []
  | (i, x) :: l => match evalA tm x with
    | some v => match evalP tm l with
      | some vs => some ((i, v) :: vs)
      | none => none
    | none => none

inductive Out where
  | val (v : AV) (h : AH)
  | call (f : FuncId) (args : List AV)
  | round (l : Nat) (args : List AV)

def vh (h : AH) (v : Option AV) : Option Out := match v with
  | some v => some (.val v h)
  | none => none
def uh (h : Option AH) : Option Out := match h with
  | some h => some (.val (.tup []) h)
  | none => none
def ph (r : Option (AV × AH)) : Option Out := match r with
  | some (v, h) => some (.val v h)
  | none => none

def ah (h : AH) (r : Option (AV × ABlk)) : Option Out := match r with
  | some (v, b) => some (.val v (h.new b))
  | none => none

structure Env where
  P : Program
  ext : FuncId → List AV → Option AV
  sum : FuncId → List AV → AH → Option (Option (AV × AH))

section
variable (E : Env)

/-- operations that do not look at memory -/
def xpure (tm : Tm) (o : Oper) : Option AV :=
  match o.op with
  | .move x => evalA tm x
  | .assign x => evalA tm x
  | .pick c a b => match evalA tm c with
    | some (.bool t) => if t then evalA tm a else evalA tm b
    | _ => none
  | .nilCheck x => match evalA tm x with
    | some (.ptr b off) => some (.ptr b off)
    | some (.fn f a c) => some (.fn f a c)
    | some (.yield l) => some (.yield l)
    | _ => none
  | .binOp op t x y _ => match evalA tm x, evalA tm y with
    | some a, some b => binOpA E.P op t x y a b
    | _, _ => none
  | .unOp op _ x => match evalA tm x with
    | some a => unOpA op a
    | none => none
  | .sliceToArrayPointer t x => match E.P.underlying t, evalA tm x with
    | some (.array n _), some (.slice b off len _ _) => if Nat.ble n len then some (.ptr b off) else none
    | _, _ => none
  | .makeInterface t x => match E.P.underlying t with
    | some (.interface _) => none
    | some _ => match evalA tm x with
      | some v => some (.iface t v)
      | none => none
    | none => none
  | .makeFunc fn first cap => match fn with
    | .func f => match evalL tm first.toList, evalL tm cap.toList with
      | some a, some c => some (.fn f a c)
      | _, _ => none
    | _ => none
  | .slice t x lo hi mx => match evalA tm x, evalO tm lo, evalO tm hi, evalO tm mx with
    | some v, some l, some h, some m => sliceA E.P t v l h m
    | _, _, _, _ => none
  | .fieldAddr t x f => match evalA tm x with
    | some v => fieldAddrA E.P t v f
    | none => none
  | .field t x f => match evalA tm x with
    | some v => fieldA E.P t v f
    | none => none
  | .indexAddr t x i => match evalA tm x, evalA tm i with
    | some v, some i => indexAddrA E.P t v i
    | _, _ => none
  | .index t x i => match evalA tm x, evalA tm i with
    | some v, some i => indexA E.P t v i
    | _, _ => none
  | .build t parts => match evalP tm parts.toList with
    | some ps => buildA E.P t ps
    | none => none
  | .convert s d x => match evalA tm x with
    | some v => convertP E.P s d v
    | none => none
  | .typeAssert x _ t ok => match evalA tm x with
    | some v => typeAssertA E.P v t ok
    | none => none
  | .extract x i => match evalA tm x with
    | some (.tup vs) => vs[i]?
    | _ => none
  | .call { callee := .builtin .min, args, .. } => match evalL tm args.toList with
    | some (x :: l) => minA x l
    | _ => none
  | .call { callee := .builtin .max, args, .. } => match evalL tm args.toList with
    | some (x :: l) => maxA x l
    | _ => none
  | _ => none

def isPure (o : Oper) : Bool :=
  match o.op with
  | .move _ | .assign _ | .pick .. | .nilCheck _ | .binOp .. | .unOp .. | .sliceToArrayPointer .. | .makeInterface .. | .makeFunc .. | .slice .. | .fieldAddr .. | .field ..
  | .indexAddr .. | .index .. | .build .. | .typeAssert .. | .extract .. => true
  | .call { callee := .builtin .min, .. } | .call { callee := .builtin .max, .. } => true
  | .convert s d _ => Nat.beq (convKind E.P s d) 0
  | _ => false

/-- operations that look at memory and leave it -/
def xread (tm : Tm) (h : AH) (o : Oper) : Option AV :=
  match o.op with
  | .load t a => match evalA tm a with
    | some p => loadA E.P h t p
    | none => none
  | .lookup t m k ok => match evalA tm m, evalA tm k with
    | some m, some k => lookupA E.P h t m k ok
    | _, _ => none
  | .call { callee := .builtin .len, args, argTypes } => match argTypes.toList, evalL tm args.toList with
    | [t], some [x] => lenOp E.P h t x
    | _, _ => none
  | .convert s d x => match evalA tm x with
    | some v => convertR E.P h s d v
    | none => none
  | _ => none

def isRead (o : Oper) : Bool :=
  match o.op with
  | .load .. | .lookup .. => true
  | .call { callee := .builtin .len, .. } => true
  | .convert s d _ => Nat.beq (convKind E.P s d) 1
  | _ => false

/-- operations that make one block, and look at none: the block is named n -/
def xalloc (tm : Tm) (n : Nat) (o : Oper) : Option (AV × ABlk) :=
  match o.op with
  | .alloc t => match tzero E.P t, tsize E.P t with
    | some z, some es => if allOne z.cells then some (.ptr n 0, .cells z.cells es) else none
    | _, _ => none
  | .box t x => match evalA tm x, tsize E.P t with
    | some v, some es => if allOne v.cells then some (.ptr n 0, .cells v.cells es) else none
    | _, _ => none
  | .buildSlice t len parts => match evalP tm parts.toList with
    | some ps => buildSliceA E.P n t len ps
    | none => none
  | .convert s d x => match evalA tm x with
    | some v => strBytesA E.P n s d v
    | none => none
  | .makeMap _ none => some (.map n, .map [] 0)
  | .makeSlice t l c => match evalA tm l, evalA tm c with
    | some l, some c => makeSliceA E.P n t l c
    | _, _ => none
  | _ => none

def isAlloc (o : Oper) : Bool :=
  match o.op with
  | .alloc .. | .box .. | .buildSlice .. | .makeMap .. | .makeSlice .. => true
  | .convert s d _ => Nat.beq (convKind E.P s d) 2
  | _ => false

/-- all others -/
def xact (tm : Tm) (h : AH) (o : Oper) : Option Out :=
  match o.op with
  | .store t a v => match evalA tm a, evalA tm v with
    | some p, some v => uh (storeA E.P h t p v)
    | _, _ => none
  | .convert s d x => match evalA tm x with
    | some v => ph (convertX E.P h s d v)
    | none => none
  | .mapUpdate t m k v => match evalA tm m, evalA tm k, evalA tm v with
    | some m, some k, some v => uh (mapUpdateA E.P h t m k v)
    | _, _, _ => none
  | .range t x => match evalA tm x with
    | some v => ph (rangeA E.P h t v)
    | none => none
  | .next x false => match evalA tm x with
    | some v => ph (nextA h v)
    | none => none
  | .call { callee := .builtin .append, args, argTypes } => match argTypes.toList, evalL tm args.toList with
    | st :: xts, some [s, x] => ph (appendA E.P h st xts.head? s x)
    | _, _ => none
  | .call { callee := .builtin .copy, args, argTypes } => match argTypes.toList, evalL tm args.toList with
    | dt :: _, some [d, x] => ph (copyA E.P h dt d x)
    | _, _ => none
  | .call { callee := .builtin .delete, args, argTypes } => match argTypes.toList, evalL tm args.toList with
    | t :: _, some [m, k] => uh (deleteA E.P h t m k)
    | _, _ => none
  | .call { callee := .value f, args, .. } => match evalA tm f, evalL tm args.toList with
    | some (.fn g first cap), some args => match E.P.funcs[g]? with
      | some fn => match fn.body with
        | some _ => some (.call g (first ++ args ++ cap))
        | none => match E.ext g (first ++ args ++ cap) with
          | some v => some (.val v h)
          | none => none
      | none => none
    | some (.yield l), some args => some (.round l args)
    | _, _ => none
  | _ => none

def xop (tm : Tm) (h : AH) (o : Oper) : Option Out :=
  if isPure E o then vh h (xpure E tm o) else if isRead E o then vh h (xread E tm h o) else
  if isAlloc E o then ah h (xalloc E tm h.next o) else xact E tm h o

def putA (tm : Tm) (n : Nat) (dst : Option Tmp) (v : AV) : Option Tm :=
  match dst with
  | none => some tm
  | some d => if Nat.ble (d + 1) n then some (tm.set d v) else none

/-- is the operation wanted? -/
def wantedA (ops : Array Oper) (tm : Tm) (o : Oper) : Bool :=
  match o.guard with
  | none => true
  | some (j, want) => match ops[j]? with
    | some p => match p.dst with
      | some d => match Tm.at tm d with
        | .bool b => b == want
        | _ => false
      | none => false
    | none => false

def jumpOf : Ex → Option Code
  | .normal => none
  | .ret => some .ret
  | .exit id => some (.exit id)
  | .goto l => some (.goto l)

def setArgs : Tm → Nat → List Tmp → List AV → Option Tm
  | tm, _, [], [] => some tm
  | tm, n, p :: ps, v :: vs => if Nat.ble (p + 1) n then setArgs (tm.set p v) n ps vs else none
  | _, _, _, _ => none

/-- a round of a range over a function -/
def roundA (ih : Task → Option Res) (h : AH) (l : Nat) (args : List AV) : Option (AV × AH) :=
  match h.get l with
  | some (.loop _ _ fn tm n ps asg body _) => match setArgs tm n ps.toList args with
    | some tm => match ih (.code asg ⟨fn, some l, n⟩ ⟨tm, [], h⟩) with
      | some (.code .normal s) => match s.dfr with
        | [] => match s.h.get l with
          | some (.loop .ready pe fn2 tm2 n2 ps2 asg2 body2 d2) =>
            match ih (.code body ⟨fn, some l, n⟩ ⟨s.tm, [], s.h.put l (.loop .busy pe fn2 tm2 n2 ps2 asg2 body2 d2)⟩) with
            | some (.code e s2) => match s2.h.get l with
              | some (.loop .busy _ fn3 tm3 n3 ps3 asg3 body3 d3) =>
                some (.bool (jumpOf e).isNone, s2.h.put l (.loop (if (jumpOf e).isNone then .ready else .done) (jumpOf e) fn3 tm3 n3 ps3 asg3 body3 d3))
              | _ => none
            | _ => none
          | _ => none
        | _ => none
      | _ => none
    | none => none
  | _ => none

/-- what an operation comes to, calls carried out -/
def doneA (ih : Task → Option Res) (tm : Tm) (h : AH) (o : Oper) : Option (AV × AH) :=
  match xop E tm h o with
  | some (.val v h) => some (v, h)
  | some (.call f args) => match ih (.call f args h) with
    | some (.call v h) => some (v, h)
    | _ => none
  | some (.round l args) => roundA ih h l args
  | none => none

def stepA (ih : Task → Option Res) (ops : Array Oper) (tm : Tm) (h : AH) (o : Oper) : Option (AV × AH) :=
  if wantedA ops tm o then doneA E ih tm h o else some (.tup [], h)

def runOps (ih : Task → Option Res) (ops : Array Oper) (n : Nat) : List Oper → Tm → AH → Option (Tm × AH)
  | [], tm, h => some (tm, h)
  | o :: l, tm, h => match stepA E ih ops tm h o with
    | some (v, h) => match putA tm n o.dst v with
      | some tm => runOps ih ops n l tm h
      | none => none
    | none => none

/-! ### a region that draws its order -/
def bindsE (e : Edge) : Bool :=
  match e.ground with
  | .textOnly _ => false
  | .gcOnly _ => false
  | _ => true

def nthM : List Nat → Nat → Nat
  | [], _ => 0
  | x :: _, 0 => x
  | _ :: l, n + 1 => nthM l n

def orEdges (acc : List Nat) : List Edge → Nat
  | [] => 0
  | e :: l => bif bindsE e then Nat.lor (Nat.lor (2 ^ e.on) (nthM acc e.on)) (orEdges acc l) else orEdges acc l

def edgesBelow (i : Nat) : List Edge → Bool
  | [] => true
  | e :: l => (!bindsE e || Nat.ble (e.on + 1) i) && edgesBelow i l

/-- what must come ahead of each operation -/
def preFrom : List Oper → List Nat → List Nat
  | [], acc => acc
  | o :: l, acc => preFrom l (acc ++ [orEdges acc o.after.toList])

def pre (ops : List Oper) : List Nat := preFrom ops []

def isAct (o : Oper) : Bool := !isPure E o && !isRead E o

/-- the slots that an operation reads -/
def readsOf (ops : Array Oper) (o : Oper) : List Tmp :=
  (o.op.operands.toList.filterMap fun x => match x with
    | .tmp t => some t
    | _ => none) ++
  (match o.guard with
   | some (j, _) => (match ops[j]? with
     | some p => p.dst.toList
     | none => [])
   | none => [])

def memN (t : Nat) : List Nat → Bool
  | [] => false
  | x :: l => Nat.beq x t || memN t l

/-- of two operations, i ahead of j in the text, i not bound to come ahead: neither writes what the other reads or writes -/
def slotsOK (ops : Array Oper) (oi oj : Oper) : Bool :=
  (match oi.dst with
   | some d => !memN d (readsOf ops oj) && !(match oj.dst with
     | some e => Nat.beq d e
     | none => false)
   | none => true) &&
  (match oj.dst with
   | some e => !memN e (readsOf ops oi)
   | none => true)

/-- an operation as the order's laws see it: its number, what must come ahead, whether it makes a block that may be made at another time -/
structure Pt where
  i : Nat
  o : Oper
  pre : Nat
  float : Bool

def pairOK (ops : Array Oper) (p q : Pt) : Bool :=
  bif Nat.testBit q.pre p.i then !(p.float && isRead E q.o) else
  (!(isAct E p.o && !p.float && isAct E q.o && !q.float)) && slotsOK ops p.o q.o

def pairsWith (ops : Array Oper) (q : Pt) : List Pt → Bool
  | [] => true
  | p :: l => pairOK E ops p q && pairsWith ops q l

def allPairs (ops : Array Oper) : List Pt → List Pt → Bool
  | _, [] => true
  | seen, q :: l => pairsWith E ops q seen && edgesBelow q.i q.o.after.toList && allPairs ops (seen ++ [q]) l

/-- is an act not bound to another one, either way? -/
def loose (i m : Nat) : List Oper → List Nat → Nat → Bool
  | o :: l, n :: ns, j => (isAct E o && !Nat.beq i j && !Nat.testBit m j && !Nat.testBit n i) || loose i m l ns (j + 1)
  | _, _, _ => false

def points (all : List Oper) (ms : List Nat) : List Oper → List Nat → Nat → List Pt
  | o :: l, m :: ns, i => ⟨i, o, m, isAlloc E o && loose E i m all ms 0⟩ :: points all ms l ns (i + 1)
  | _, _, _ => []

def pts (ops : Array Oper) : List Pt := points E ops.toList (pre ops.toList) ops.toList (pre ops.toList) 0

def isMain (p : Pt) : Bool := isAct E p.o && !p.float

def regOK (ops : Array Oper) : Bool := allPairs E ops [] (pts E ops)

def floats : List Pt → Nat
  | [] => 0
  | p :: l => bif p.float then floats l + 1 else floats l

mutual
def AV.beq : AV → AV → Bool
  | .bool a, .bool b => a == b
  | .int j a, .int k b => kindEq j k && a == b
  | .rng j a b, .rng k c d => kindEq j k && a == c && b == d
  | .any, .any => true
  | .inp a, .inp b => Nat.beq a b
  | .str a, .str b => a == b
  | .ptr a b, .ptr c d => Nat.beq a c && Nat.beq b d
  | .nilptr, .nilptr => true
  | .slice a b c d e, .slice a' b' c' d' e' => Nat.beq a a' && Nat.beq b b' && Nat.beq c c' && d == d' && Nat.beq e e'
  | .eslice, .eslice => true
  | .nilslice, .nilslice => true
  | .map a, .map b => Nat.beq a b
  | .nilmap, .nilmap => true
  | .fn f a c, .fn g b d => Nat.beq f g && AV.beqs a b && AV.beqs c d
  | .yield a, .yield b => Nat.beq a b
  | .nilfunc, .nilfunc => true
  | .iface t v, .iface u w => Nat.beq t u && AV.beq v w
  | .niliface, .niliface => true
  | .agg a, .agg b => AV.beqs a b
  | .tup a, .tup b => AV.beqs a b
  | _, _ => false
def AV.beqs : List AV → List AV → Bool
  | [], [] => true
  | a :: l, b :: m => AV.beq a b && AV.beqs l m
  | _, _ => false
end

/-- a block that is made, and not yet laid in memory: the number of its operation, its name -/
structure Pend where
  i : Nat
  n : Nat
  b : ABlk

def due (m : Nat) : List Pend → List Pend
  | [] => []
  | x :: l => bif Nat.testBit m x.i then x :: due m l else due m l
def rest (m : Nat) : List Pend → List Pend
  | [] => []
  | x :: l => bif Nat.testBit m x.i then rest m l else x :: rest m l

def layAll (h : AH) : List Pend → Option AH
  | [] => some h
  | x :: l => match h.get x.n with
    | none => layAll (h.put x.n x.b) l
    | some _ => none

/-- where the text's order has come to: the next name, what is made and not yet laid, the slots, memory -/
structure CS where
  nm : Nat
  pend : List Pend
  tm : Tm
  h : AH

def cput (c : CS) (n : Nat) (d : Option Tmp) (v : AV) (nm : Nat) (pend : List Pend) (h : AH) : Option (AV × CS) :=
  match putA c.tm n d v with
  | some tm => some (v, ⟨nm, pend, tm, h⟩)
  | none => none

/-- the next operation in the text's order -/
def cstep (ih : Task → Option Res) (ops : Array Oper) (n : Nat) (p : Pt) (c : CS) : Option (AV × CS) :=
  if p.float then
    if wantedA ops c.tm p.o then
      match xalloc E c.tm c.nm p.o with
      | some (v, b) => cput c n p.o.dst v (c.nm + 1) (c.pend ++ [⟨p.i, c.nm, b⟩]) c.h
      | none => none
    else none
  else if isMain E p then
    match layAll c.h (due p.pre c.pend) with
    | some h1 => match stepA E ih ops c.tm h1 p.o with
      | some (v, h2) => cput c n p.o.dst v c.nm (rest p.pre c.pend) h2
      | none => none
    | none => none
  else match stepA E ih ops c.tm c.h p.o with
    | some (v, _) => cput c n p.o.dst v c.nm c.pend c.h
    | none => none

structure Ent where
  p : Pt
  c : CS
  v : AV

def csteps (ih : Task → Option Res) (ops : Array Oper) (n : Nat) : List Pt → CS → Option (List Ent × CS)
  | [], c => some ([], c)
  | p :: l, c => match cstep E ih ops n p c with
    | some (v, c') => match csteps ih ops n l c' with
      | some (es, r) => some (⟨p, c, v⟩ :: es, r)
      | none => none
    | none => none

/-- would the operation read the same of memory h? -/
def sameAt (ops : Array Oper) (e : Ent) (h : AH) : Bool :=
  bif wantedA ops e.c.tm e.p.o then (match xread E e.c.tm h e.p.o with
    | some v => AV.beq v e.v
    | none => false) else true

def mainsMask : List Pt → Nat
  | [] => 0
  | p :: l => bif isMain E p then Nat.lor (2 ^ p.i) (mainsMask l) else mainsMask l

/-- the operation reads the same wherever it may come up -/
def readOK (ops : Array Oper) (e : Ent) (need : Nat) (last : AH) : List Ent → Bool
  | [] => sameAt E ops e last
  | x :: l => bif isMain E x.p then
      (bif Nat.ble (need + 1) (2 ^ x.p.i) then sameAt E ops e x.c.h else true) && (bif Nat.testBit x.p.pre e.p.i then true else readOK ops e need last l)
    else readOK ops e need last l

def readersOK (ops : Array Oper) (mm : Nat) (last : AH) (all : List Ent) : List Ent → Bool
  | [] => true
  | e :: l => (bif isRead E e.p.o && !e.p.float && !isMain E e.p then readOK E ops e (Nat.land e.p.pre mm) last all else true) && readersOK ops mm last all l

def drawnA (ih : Task → Option Res) (ops : Array Oper) (n : Nat) (tm : Tm) (h : AH) : Option (Tm × AH) :=
  if regOK E ops then
    match csteps E ih ops n (pts E ops) ⟨h.next, [], tm, ⟨h.blk, h.next + floats (pts E ops)⟩⟩ with
    | some (es, c) => if Nat.ble c.nm (h.next + floats (pts E ops)) && readersOK E ops (mainsMask E (pts E ops)) c.h es es then
        match layAll c.h c.pend with
        | some h' => some (c.tm, h')
        | none => none
      else none
    | none => none
  else none

/-! ### results -/
def resultA (tm : Tm) (h : AH) : List ResultVar → Option (List AV)
  | [] => some []
  | .tmp t :: l => match resultA tm h l with
    | some vs => some (Tm.at tm t :: vs)
    | none => none
  | .cell a t :: l => match loadA E.P h t (Tm.at tm a) with
    | some v => match resultA tm h l with
      | some vs => some (v :: vs)
      | none => none
    | none => none

/-- the marks of ranges over functions among the deferred calls -/
def shutA : List Nat → AH → Option AH
  | [], h => some h
  | d :: l, h => match h.get d with
    | some (.dfr false) => shutA l (h.put d (.dfr true))
    | _ => none

def leaveA (fn : Func) (s : St) : Option Res :=
  match shutA s.dfr s.h with
  | some h => match resultA E s.tm h fn.results.toList with
    | some [v] => some (.call v h)
    | some vs => some (.call (.tup vs) h)
    | none => none
  | none => none

def rangeFn (ih : Task → Option Res) (cx : Cx) (s : St) (f : Operand) (ps : Array Tmp) (asg body : Code) : Option Res :=
  match evalA s.tm f with
  | some (.fn g first cap) => match E.P.funcs[g]? with
    | some fn => match fn.body with
      | some _ =>
        let r : Option (AH × List Nat × Nat) := match cx.ro with
          | none => some (s.h.new (.dfr false), s.h.next :: s.dfr, s.h.next)
          | some l0 => match s.h.get l0 with
            | some (.loop _ _ _ _ _ _ _ _ d) => some (s.h, s.dfr, d)
            | _ => none
        match r with
        | some (h1, ds, d) => match ih (.call g (first ++ [.yield h1.next] ++ cap) (h1.new (.loop .ready none cx.fn s.tm cx.n ps asg body d))) with
          | some (.call _ h3) => match h3.get h1.next with
            | some (.loop st pe fn2 tm2 n2 ps2 asg2 body2 d2) => match st with
              | .busy => none
              | _ => match pe with
                | none => some (.code .normal ⟨s.tm, ds, h3.put h1.next (.loop .exhausted pe fn2 tm2 n2 ps2 asg2 body2 d2)⟩)
                | some c => ih (.code c cx ⟨s.tm, ds, h3.put h1.next (.loop .exhausted pe fn2 tm2 n2 ps2 asg2 body2 d2)⟩)
            | _ => none
          | _ => none
        | none => none
      | none => none
    | none => none
  | _ => none

def body (ih : Task → Option Res) : Task → Option Res
  | .call f args h => match E.sum f args h with
    | some (some (v, h)) => some (.call v h)
    | some none => none
    | none => match E.P.funcs[f]? with
      | some fn => match fn.body with
        | some c => if Nat.ble args.length fn.ntmps then match ih (.code c ⟨f, none, fn.ntmps⟩ ⟨Tr.ofListFrom args 0 .nil, [], h⟩) with
          | some (.code .normal s) => leaveA E fn s
          | some (.code .ret s) => leaveA E fn s
          | _ => none
          else none
        | none => none
      | none => none
  | .code c cx s => match c with
    | .skip => some (.code .normal s)
    | .label _ => some (.code .normal s)
    | .seq a b => match ih (.code a cx s) with
      | some (.code .normal s) => ih (.code b cx s)
      | some (.code e s) => some (.code e s)
      | _ => none
    | .cond c a b => match evalA s.tm c with
      | some (.bool t) => if t then ih (.code a cx s) else ih (.code b cx s)
      | _ => none
    | .block id c => match ih (.code c cx s) with
      | some (.code (.exit id') s) => if Nat.beq id' id then some (.code .normal s) else some (.code (.exit id') s)
      | some (.code e s) => some (.code e s)
      | _ => none
    | .loop c => match ih (.code c cx s) with
      | some (.code .normal s) => ih (.code (.loop c) cx s)
      | some (.code e s) => some (.code e s)
      | _ => none
    | .exit id => some (.code (.exit id) s)
    | .goto l => some (.code (.goto l) s)
    | .ret => some (.code .ret s)
    | .region _ ops draw => if draw then (match drawnA E ih ops cx.n s.tm s.h with
        | some (tm, h) => some (.code .normal ⟨tm, s.dfr, h⟩)
        | none => none)
      else (match runOps E ih ops cx.n ops.toList s.tm s.h with
        | some (tm, h) => some (.code .normal ⟨tm, s.dfr, h⟩)
        | none => none)
    | .rangeFunc f ps asg body => rangeFn E ih cx s f ps asg body
    | _ => none

def run : Nat → Task → Option Res
  | 0, _ => none
  | n + 1, t => body E (run n) t
end

def h0 : AH := ⟨.nil, 0⟩

end Go.Hx
