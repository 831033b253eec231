/- Definitions of an interpreter of the loaded code over clean values: inline (frozen) slices, a clean heap for what is written, locals in the frame. -/
import GoSem.Step
import Derived.Laws.World
import Derived.Laws.Sem
import Derived.Calls
import Derived.Deep.MidRow
import Derived.Laws.StructEq
set_option linter.unusedVariables false
set_option linter.unusedSimpArgs false
set_option linter.unusedSectionVars false
namespace Go.V

/-- What is known of the capacity of a slice in the heap: just so great; or: it grew by append, and its memory has now so many known cells. -/
inductive Cap where
  | fix (c : Nat)
  | flex (ext : Nat)
  deriving DecidableEq, Inhabited
/-- What is known of an inline slice: it is nil; its capacity is its length; nothing. -/
inductive Q where
  | nil | exact | any
  deriving DecidableEq, Inhabited

inductive Val where
  | unk
  | bool (b : Bool)
  | int (k : IntKind) (n : Int)
  | str (s : List UInt8)
  | nilp
  | ptr (b off : Nat) (ext : Option Nat)
  | pin (cells : List Val) (off : Nat)
  | lv (cells : List Val)
  | loc (t off : Nat)
  | sl (b off len esz : Nat) (cap : Cap)
  | sli (cells : List Val) (len : Nat) (q : Q)
  | fn (f : FuncId) (cap : List Val)
  | yield (l : Nat)
  | nilf
  | map (b : Nat)
  | nilm
  | ifc (t : TypeId) (v : Val)
  | nili
  | agg (cs : List Val)
  | tup (vs : List Val)
  deriving Inhabited

mutual
def Val.beq : Val → Val → Bool
  | .unk, .unk => true
  | .bool a, .bool b => a == b
  | .int k a, .int k' b => decide (k = k') && a == b
  | .str a, .str b => a == b
  | .nilp, .nilp => true
  | .ptr a b e, .ptr c d f => a == c && b == d && e == f
  | .pin a b, .pin c d => Val.beqs a c && b == d
  | .lv a, .lv b => Val.beqs a b
  | .loc a b, .loc c d => a == c && b == d
  | .sl a b c d e, .sl a' b' c' d' e' => a == a' && b == b' && c == c' && d == d' && decide (e = e')
  | .sli a b c, .sli a' b' c' => Val.beqs a a' && b == b' && decide (c = c')
  | .fn a b, .fn c d => a == c && Val.beqs b d
  | .yield a, .yield b => a == b
  | .nilf, .nilf => true
  | .map a, .map b => a == b
  | .nilm, .nilm => true
  | .ifc a b, .ifc c d => a == c && Val.beq b d
  | .nili, .nili => true
  | .agg a, .agg b => Val.beqs a b
  | .tup a, .tup b => Val.beqs a b
  | _, _ => false
def Val.beqs : List Val → List Val → Bool
  | [], [] => true
  | a :: l, b :: m => Val.beq a b && Val.beqs l m
  | _, _ => false
end

mutual
/-- no loop of number m or above -/
def Val.noY (m : Nat) : Val → Bool
  | .yield l => l < m
  | .pin cs _ | .lv cs | .sli cs _ _ | .fn _ cs | .agg cs | .tup cs => Val.noYs m cs
  | .ifc _ v => v.noY m
  | _ => true
def Val.noYs (m : Nat) : List Val → Bool
  | [] => true
  | v :: l => v.noY m && Val.noYs m l
end

/-- A block of the heap: cells (flex: grown by append, it may lie elsewhere after the next one), or a map. -/
inductive Block where
  | cells (cs : List Val) (flex : Bool)
  | map (es : List (Val × Val))
  deriving Inhabited

def entriesBeq : List (Val × Val) → List (Val × Val) → Bool
  | [], [] => true
  | (a, b) :: l, (c, d) :: m => a.beq c && b.beq d && entriesBeq l m
  | _, _ => false
def Block.beq : Block → Block → Bool
  | .cells a f, .cells b g => Val.beqs a b && f == g
  | .map a, .map b => entriesBeq a b
  | _, _ => false

/-- A frame: the temporaries that are alive. -/
abbrev Fr := List (Nat × Val)
def Fr.get : Fr → Nat → Option Val
  | [], _ => none
  | (k, v) :: r, t => if k = t then some v else Fr.get r t
def Fr.put (fr : Fr) (t : Nat) (v : Val) : Fr := (t, v) :: fr
/-- the entries of the temporaries listed -/
def Fr.keep (fr : Fr) : List Nat → Fr
  | [] => []
  | t :: ts => match fr.get t with
    | some v => (t, v) :: Fr.keep fr ts
    | none => Fr.keep fr ts
/-- a place of local t is one no more -/
def unlocV (t : Nat) : Val → Val
  | .loc s o => if s = t then .unk else .loc s o
  | v => v
/-- without the places of a local that is laid anew -/
def Fr.unloc (t : Nat) : Fr → Fr
  | [] => []
  | (k, v) :: r => (k, unlocV t v) :: Fr.unloc t r
def Fr.puts (fr : Fr) : List (Nat × Val) → Fr
  | [] => fr
  | (t, v) :: l => Fr.puts (fr.put t v) l

/-- what a frame answers -/
abbrev G := Nat → Option Val

structure LoopRec where
  fn : FuncId
  fr : Fr
  params : Array Tmp
  assign : Code
  body : Code
  busy : Bool
  /-- its round has come so far that it is marked -/
  begun : Bool
  done : Bool
  pending : Option Code

structure St where
  H : List Block
  L : List LoopRec

inductive Mode where | drop | keep
  deriving DecidableEq

/-- What the interpreter is told of a program. -/
structure Env where
  P : Program
  /-- the cells of package-level variables that are never written -/
  glob : Nat → Option (List Val)
  mode : FuncId → Mode
  /-- temporaries whose variable lies in the heap -/
  esc : FuncId → List Nat
  /-- what is alive behind a region -/
  lo : FuncId → Nat → Option (List Nat)
  /-- what is alive at the head of the loop in a block -/
  lh : FuncId → Nat → Option (List Nat)
  /-- functions by a contract proved apart -/
  native : FuncId → Option (List Val → St → Option (Val × St))

def Env.size (E : Env) (t : TypeId) : Option Nat := (E.P.info? t).map (·.size)
def Env.und (E : Env) (t : TypeId) : Option TypeDesc := E.P.underlying t

def ofConst1 : Value → Option Val
  | .bool b => some (.bool b)
  | .int k n => some (.int k n)
  | .string s => some (.str s.data.toList)
  | .pointer none => some .nilp
  | .slice none 0 0 => some (.sli [] 0 .nil)
  | .map none => some .nilm
  | .nilFunc => some .nilf
  | .nilIface => some .nili
  | _ => none
def ofConsts : List Value → Option (List Val)
  | [] => some []
  | v :: l => match ofConst1 v, ofConsts l with
    | some a, some b => some (a :: b)
    | _, _ => none
def ofConst : Value → Option Val
  | .agg cs => (ofConsts cs.toList).map .agg
  | v => ofConst1 v

def Val.first : Val → Bool
  | .lv _ | .loc _ _ | .unk => false
  | _ => true

/-- may a value be stored? -/
def Val.sto : Val → Bool
  | .lv _ | .loc _ _ | .unk | .tup _ => false
  | _ => true

/-- an operand as it lies -/
def raw (E : Env) (g : G) : Operand → Option Val
  | .tmp t => g t
  | .const v => ofConst v
  | .global x => (E.glob x).map fun cs => .pin cs 0
  | .func f => some (.fn f [])

/-- an operand as a value of its own -/
def ev (E : Env) (g : G) (o : Operand) : Option Val :=
  match raw E g o with
  | some v => if v.first then some v else none
  | none => none

def evs (E : Env) (g : G) : List Operand → Option (List Val)
  | [] => some []
  | o :: l => match ev E g o, evs E g l with
    | some a, some b => some (a :: b)
    | _, _ => none

/-- a place in memory -/
inductive Place where
  | inl (cells : List Val) (off : Nat)
  | lcl (t off : Nat)
  | hp (b off : Nat) (ext : Option Nat)

def place (E : Env) (g : G) (o : Operand) : Option Place :=
  match o with
  | .tmp t => match g t with
    | some (.lv _) => some (.lcl t 0)
    | some (.loc s off) => some (.lcl s off)
    | some (.pin cs off) => some (.inl cs off)
    | some (.ptr b off e) => some (.hp b off e)
    | _ => none
  | .global x => (E.glob x).map fun cs => .inl cs 0
  | _ => none

def Place.add : Place → Nat → Place
  | .inl cs o, n => .inl cs (o + n)
  | .lcl t o, n => .lcl t (o + n)
  | .hp b o e, n => .hp b (o + n) e
def Place.val : Place → Val
  | .inl cs o => .pin cs o
  | .lcl t o => .loc t o
  | .hp b o e => .ptr b o e

/-- the cells of a block, if what is known of it still holds -/
def hcells (S : St) (b : Nat) (e : Option Nat) : Option (List Val) :=
  match S.H[b]?, e with
  | some (.cells cs false), none => some cs
  | some (.cells cs true), some n => if cs.length = n then some cs else none
  | _, _ => none
def setCells (S : St) (b : Nat) (e : Option Nat) (cs : List Val) : St := { S with H := S.H.set b (.cells cs e.isSome) }
def Cap.ext : Cap → Option Nat
  | .fix _ => none
  | .flex n => some n

/-- the cells of a place's memory -/
def cellsAt (g : G) (S : St) : Place → Option (List Val)
  | .inl cs _ => some cs
  | .lcl t _ => match g t with
    | some (.lv cs) => some cs
    | _ => none
  | .hp b _ e => hcells S b e
def Place.off : Place → Nat
  | .inl _ o | .lcl _ o | .hp _ o _ => o

def isAggT : TypeDesc → Bool
  | .struct _ | .array _ _ => true
  | _ => false

/-- n cells from a place on -/
def cut (cs : List Val) (off n : Nat) : Option (List Val) :=
  if off + n ≤ cs.length then some ((cs.drop off).take n) else none

/-- a value of a type out of cells -/
def ofCells (d : TypeDesc) (cs : List Val) (off n : Nat) : Option Val :=
  if isAggT d then (cut cs off n).map .agg else cs[off]?

def Val.cells : Val → List Val
  | .agg cs => cs
  | v => [v]

/-- cells put over cells -/
def over (cs : List Val) (off : Nat) (new : List Val) : Option (List Val) :=
  if off + new.length ≤ cs.length then some (cs.take off ++ new ++ cs.drop (off + new.length)) else none

/-- What an operation touches, as the look on open orders asks. -/
inductive Cls where
  | pure
  | rl (t : Nat)
  | wl (t : Nat)
  | rh
  | eh
  | bad
  deriving DecidableEq

/-- What an operation comes to: a value (none: Go's empty tuple), what it does to locals, the new state; a local is laid; a call. -/
inductive Res where
  | val (v : Option Val) (c : Cls) (ups : List (Nat × Val)) (S : St)
  | laid (cs : List Val)
  | call (f : FuncId) (args : List Val)
  | yld (l : Nat) (args : List Val)

def Place.reads : Place → Cls
  | .inl _ _ => .pure
  | .lcl t _ => .rl t
  | .hp _ _ _ => .rh

def storeAt (g : G) (S : St) (p : Place) (new : List Val) : Option (Cls × List (Nat × Val) × St) :=
  match p with
  | .inl _ _ => none
  | .lcl t off => match g t with
    | some (.lv cs) => (over cs off new).map fun cs' => (.wl t, [(t, .lv cs')], S)
    | _ => none
  | .hp b off e => match hcells S b e with
    | some cs => (over cs off new).map fun cs' => (.eh, [], setCells S b e cs')
    | none => none

/-- the zero cells of a type -/
def zeroCells (E : Env) (t : TypeId) : Option (List Val) :=
  match E.P.info? t with
  | some i => match i.zero with
    | some z => (ofConst z).map Val.cells
    | none => none
  | none => none

def fieldOf (E : Env) (t : TypeId) (i : Nat) : Option Field :=
  match E.und t with
  | some (.struct fs) => fs[i]?
  | _ => none

def intOp (op : BinOp) (k : IntKind) (x y : Int) : Option Val :=
  match op with
  | .add => some (.int k (k.wrap (x + y)))
  | .sub => some (.int k (k.wrap (x - y)))
  | .mul => some (.int k (k.wrap (x * y)))
  | .quo => if y = 0 then none else some (.int k (k.wrap (x.tdiv y)))
  | .rem => if y = 0 then none else some (.int k (x.tmod y))
  | .and => some (.int k (k.wrap (BitVec.ofInt k.bits x &&& BitVec.ofInt k.bits y).toNat))
  | .or => some (.int k (k.wrap (BitVec.ofInt k.bits x ||| BitVec.ofInt k.bits y).toNat))
  | .xor => some (.int k (k.wrap (BitVec.ofInt k.bits x ^^^ BitVec.ofInt k.bits y).toNat))
  | .andNot => some (.int k (k.wrap (BitVec.ofInt k.bits x &&& ~~~ (BitVec.ofInt k.bits y)).toNat))
  | .eql => some (.bool (x == y))
  | .neq => some (.bool (x != y))
  | .lss => some (.bool (x < y))
  | .leq => some (.bool (x ≤ y))
  | .gtr => some (.bool (x > y))
  | .geq => some (.bool (x ≥ y))
  | _ => none

def shiftOp (op : BinOp) (k : IntKind) (x y : Int) : Option Val :=
  if y < 0 then none else
  match op with
  | .shl => some (.int k (k.wrap (x * 2 ^ (min y.toNat k.bits))))
  | .shr => some (.int k (x.fdiv (2 ^ (min y.toNat k.bits))))
  | _ => none

def strLess : List UInt8 → List UInt8 → Bool
  | _, [] => false
  | [], _ :: _ => true
  | a :: x, b :: y => a < b || (a == b && strLess x y)

def maxStr : Nat := 2 ^ 47

def strOp (op : BinOp) (x y : List UInt8) : Option Val :=
  match op with
  | .add => if x.length + y.length ≤ maxStr then some (.str (x ++ y)) else none
  | .eql => some (.bool (x == y))
  | .neq => some (.bool !(x == y))
  | .lss => some (.bool (strLess x y))
  | .leq => some (.bool (strLess x y || x == y))
  | .gtr => some (.bool !(strLess x y || x == y))
  | .geq => some (.bool !(strLess x y))
  | _ => none

def eqFields (eq : TypeId → Val → Val → Option Bool) (E : Env) : List Field → List Val → List Val → Option Bool
  | [], _, _ => some true
  | f :: l, xs, ys =>
    if f.name = "_" then eqFields eq E l xs ys else
    match E.und f.type, E.size f.type with
    | some d, some n => match ofCells d xs f.offset n, ofCells d ys f.offset n with
      | some x, some y => match eq f.type x y with
        | some true => eqFields eq E l xs ys
        | r => r
      | _, _ => none
    | _, _ => none
def eqElems (eq : Val → Val → Option Bool) (d : TypeDesc) (sz : Nat) (xs ys : List Val) : Nat → Nat → Option Bool
  | 0, _ => some true
  | n + 1, i => match ofCells d xs (i * sz) sz, ofCells d ys (i * sz) sz with
    | some x, some y => match eq x y with
      | some true => eqElems eq d sz xs ys n (i + 1)
      | r => r
    | _, _ => none
/-- '==' of values of integers, bools, strings, structs and arrays -/
def eqT (E : Env) : Nat → TypeId → Val → Val → Option Bool
  | 0, _, _, _ => none
  | d + 1, t, x, y => match E.und t, x, y with
    | some .bool, .bool a, .bool b => some (a == b)
    | some (.int _), .int k a, .int k' b => if k = k' then some (a == b) else none
    | some .string, .str a, .str b => some (a == b)
    | some (.struct fs), .agg xs, .agg ys => if E.P.stoodInHeld t then none else eqFields (eqT E d) E fs.toList xs ys
    | some (.array n e), .agg xs, .agg ys => match E.und e, E.size e with
      | some de, some sz => eqElems (eqT E d e) de sz xs ys n 0
      | _, _ => none
    | _, _, _ => none

/-- '==' where it is no test of integers or strings -/
def eqOp (E : Env) (t : TypeId) (x y : Val) : Option Bool :=
  match E.und t, x, y with
  | some .bool, .bool a, .bool b => some (a == b)
  | some (.pointer _), .nilp, .nilp => some true
  | some (.pointer _), .nilp, .ptr _ _ none | some (.pointer _), .ptr _ _ none, .nilp => some false
  | some (.pointer _), .nilp, .pin _ _ | some (.pointer _), .pin _ _, .nilp => some false
  | some (.slice _), .sli _ _ .nil, .sli _ _ q => if q = .nil then some true else some false
  | some (.slice _), .sli _ _ q, .sli _ _ .nil => if q = .nil then some true else some false
  | some (.slice _), .sli _ _ .nil, .sl _ _ _ _ (.fix _) | some (.slice _), .sl _ _ _ _ (.fix _), .sli _ _ .nil => some false
  | some (.map _ _), .nilm, .nilm => some true
  | some (.map _ _), .nilm, .map _ | some (.map _ _), .map _, .nilm => some false
  | some (.func _ _ _), .nilf, .nilf => some true
  | some (.func _ _ _), .nilf, .fn _ _ | some (.func _ _ _), .fn _ _, .nilf => some false
  | some (.func _ _ _), .nilf, .yield _ | some (.func _ _ _), .yield _, .nilf => some false
  | some (.interface _), .nili, .ifc _ _ | some (.interface _), .ifc _ _, .nili => some false
  | some (.struct _), .agg a, .agg b | some (.array _ _), .agg a, .agg b =>
    if E.P.eqGuardType E.P.depth t then none else eqT E 20 t (.agg a) (.agg b)
  | _, _, _ => none

def binOp (E : Env) (op : BinOp) (t : TypeId) (x y : Val) : Option Val :=
  match x, y with
  | .int k a, .int k' b =>
    match op with
    | .shl | .shr => shiftOp op k a b
    | _ => if k = k' then intOp op k a b else none
  | .str a, .str b => strOp op a b
  | _, _ => match op with
    | .eql => (eqOp E t x y).map .bool
    | .neq => (eqOp E t x y).map fun b => .bool !b
    | _ => none

def unOp (op : UnOp) (x : Val) : Option Val :=
  match op, x with
  | .not, .bool b => some (.bool !b)
  | .neg, .int k n => some (.int k (k.wrap (0 - n)))
  | .xor, .int k n => some (.int k (k.wrap (BitVec.ofInt k.bits (if k.signed then -1 else k.max) ^^^ BitVec.ofInt k.bits n).toNat))
  | _, _ => none

def u8s (s : List UInt8) : List Val := s.map fun b => .int .u8 b.toNat
def bytesOf : List Val → Option (List UInt8)
  | [] => some []
  | .int .u8 n :: l => (bytesOf l).map (UInt8.ofNat n.toNat :: ·)
  | _ => none

/-- the cells that a slice or a string has, n elements of size sz -/
def cellsOfSlice (S : St) (sz : Nat) : Val → Option (Nat × List Val × Cls)
  | .sli cs len _ => (cut cs 0 (len * sz)).map fun l => (len, l, .pure)
  | .sl b off len _ c => match hcells S b c.ext with
    | some cs => (cut cs off (len * sz)).map fun l => (len, l, .rh)
    | none => none
  | .str s => if sz = 1 then some (s.length, u8s s, .pure) else none
  | _ => none

def fillAt (place : Nat → Option (Nat × Nat)) (cs : List Val) : List (Nat × Val) → Option (List Val)
  | [] => some cs
  | (i, v) :: rest => match place i with
    | some (off, size) =>
      if v.cells.length = size ∧ v.sto = true then
        match over cs off v.cells with
        | some cs' => fillAt place cs' rest
        | none => none
      else none
    | none => none

/-- offsets and sizes of fields -/
def placesOf (E : Env) : List Field → Option (List (Nat × Nat))
  | [] => some []
  | f :: l => match E.size f.type, placesOf E l with
    | some n, some r => some ((f.offset, n) :: r)
    | _, _ => none

def evParts (E : Env) (g : G) : List (Nat × Operand) → Option (List (Nat × Val))
  | [] => some []
  | (i, o) :: l => match ev E g o, evParts E g l with
    | some v, some r => some ((i, v) :: r)
    | _, _ => none

def repeatCells (zero : List Val) : Nat → List Val
  | 0 => []
  | n + 1 => zero ++ repeatCells zero n

def push (S : St) (b : Block) : St := { S with H := S.H ++ [b] }

def grown (S : St) (n sz : Nat) (cs : List Val) : Val × Cls × St :=
  (.sl S.H.length 0 n sz (.flex cs.length), .eh, push S (.cells cs true))

def appendOp (E : Env) (S : St) (t : TypeId) (s x : Val) : Option (Val × Cls × St) :=
  match E.und t with
  | some (.slice e) => match E.P.info? e, zeroCells E e with
    | some i, some z => match cellsOfSlice S i.size x, cellsOfSlice S i.size s with
      | some (n, new, _), some (len, old, _) =>
        if n = 0 then match s with
          | .sli .. | .sl .. => some (s, .eh, S)
          | _ => none
        else if (len + n) * i.bytes ≤ 2 ^ 46 ∧ len + n ≤ 2 ^ 46 ∧ 0 < i.size ∧ z.length = i.size then
          match s with
          | .sli _ _ .nil | .sli _ _ .exact => some (grown S (len + n) i.size (old ++ new))
          | .sl b off _ _ (.fix c) =>
            if len + n ≤ c then
              match hcells S b none with
              | some cs => match over cs (off + len * i.size) new with
                | some cs' => some (.sl b off (len + n) i.size (.fix c), .eh, setCells S b none cs')
                | none => none
              | none => none
            else some (grown S (len + n) i.size (old ++ new))
          | .sl b off _ esz (.flex e) =>
            if esz = i.size then
              match hcells S b (some e) with
              | some cs =>
                if off + len * i.size + new.length ≤ e then
                  match over cs (off + len * i.size) new with
                  | some cs' => some (.sl b off (len + n) i.size (.flex e), .eh, setCells S b (some e) cs')
                  | none => none
                else if off = 0 then
                  some (.sl b 0 (len + n) i.size (.flex (old ++ new).length), .eh, setCells S b (some e) (old ++ new))
                else none
              | none => none
            else none
          | _ => none
        else none
      | _, _ => none
    | _, _ => none
  | _ => none

def bound (E : Env) (g : G) : Option Operand → Option (Option Nat)
  | none => some none
  | some o => match ev E g o with
    | some (.int _ n) => if 0 ≤ n then some (some n.toNat) else none
    | _ => none

/-- x[lo:hi] -/
def sliceOp (E : Env) (g : G) (S : St) (t : TypeId) (x : Operand) (lo hi mx : Option Operand) : Option (Val × Cls) :=
  match bound E g lo, bound E g hi, bound E g mx, E.und t with
  | some l, some h, some none, some .string => match ev E g x with
    | some (.str s) =>
      if l.getD 0 ≤ h.getD s.length ∧ h.getD s.length ≤ s.length then some (.str ((s.drop (l.getD 0)).take (h.getD s.length - l.getD 0)), .pure) else none
    | _ => none
  | some l, some h, some m, some (.slice e) => match E.size e, ev E g x with
    | some sz, some (.sl b off len _ (.fix c)) =>
      if l.getD 0 ≤ h.getD len ∧ h.getD len ≤ m.getD c ∧ m.getD c ≤ c ∧ l.getD 0 < m.getD c ∧ (m = none ∨ h.isSome = true) then
        some (.sl b (off + l.getD 0 * sz) (h.getD len - l.getD 0) sz (.fix (m.getD c - l.getD 0)), .pure)
      else none
    | some sz, some (.sl b off len esz (.flex x)) =>
      if esz = sz ∧ l.getD 0 ≤ h.getD len ∧ h.getD len ≤ len ∧ (l.getD 0 = 0 ∨ l.getD 0 < h.getD len) ∧ m = none ∧ (hcells S b (some x)).isSome = true then
        some (.sl b (off + l.getD 0 * sz) (h.getD len - l.getD 0) sz (.flex x), .rh)
      else if h.getD len = l.getD 0 ∧ h.getD len ≤ len ∧ m = none ∧ (hcells S b (some x)).isSome = true then some (.sli [] 0 .any, .rh)
      else none
    | some sz, some (.sli cs len q) =>
      if l.getD 0 ≤ h.getD len ∧ h.getD len ≤ len ∧ (m = none ∨ h = m) ∧ (m = none ∨ h.isSome = true) then
        (cut cs (l.getD 0 * sz) ((h.getD len - l.getD 0) * sz)).map fun cs' =>
          (.sli cs' (h.getD len - l.getD 0) (if q = .nil then .nil else if (h = m ∧ h.isSome = true ∧ (q = .exact ∨ l.getD 0 < h.getD len)) ∨ (q = .exact ∧ h.getD len = len) then .exact else .any), .pure)
      else none
    | _, _ => none
  | some l, some h, some none, some (.array n e) => match E.size e, place E g x with
    | some sz, some (.hp b off none) =>
      if l.getD 0 ≤ h.getD n ∧ h.getD n ≤ n ∧ l.getD 0 < n then some (.sl b (off + l.getD 0 * sz) (h.getD n - l.getD 0) sz (.fix (n - l.getD 0)), .pure) else none
    | some sz, some (.inl cs off) =>
      if l.getD 0 ≤ h.getD n ∧ h.getD n ≤ n ∧ l.getD 0 < n then
        (cut cs (off + l.getD 0 * sz) ((h.getD n - l.getD 0) * sz)).map fun cs' => (.sli cs' (h.getD n - l.getD 0) .any, .pure)
      else none
    | _, _ => none
  | _, _, _, _ => none

def convertOp (E : Env) (src dst : TypeId) (S : St) (x : Val) : Option (Val × Cls) :=
  match E.und src, E.und dst, x with
  | some _, some (.int k), .int _ n => some (.int k (k.wrap n), .pure)
  | some _, some .string, .str s => some (.str s, .pure)
  | some _, some (.slice e), .str s => match E.und e with
    | some (.int .u8) => some (.sli (u8s s) s.length .any, .pure)
    | _ => none
  | some (.slice e), some .string, x => match E.und e with
    | some (.int .u8) => match x with
      | .sli .. | .sl .. => match cellsOfSlice S 1 x with
        | some (_, cs, c) => (bytesOf cs).map fun b => (.str b, c)
        | none => none
      | _ => none
    | _ => none
  | _, _, _ => none

def lenOp (E : Env) (t : TypeId) (S : St) (x : Val) : Option (Val × Cls) :=
  match E.und t, x with
  | some .string, .str s => some (.int .i64 s.length, .pure)
  | some (.slice _), .sl _ _ n _ _ => some (.int .i64 n, .pure)
  | some (.slice _), .sli _ n _ => some (.int .i64 n, .pure)
  | some (.map _ _), .nilm => some (.int .i64 0, .pure)
  | some (.map _ _), .map b => match S.H[b]? with
    | some (.map es) => some (.int .i64 es.length, .rh)
    | _ => none
  | _, _ => none

def capOp (E : Env) (t : TypeId) (x : Val) : Option Val :=
  match E.und t, x with
  | some (.slice _), .sl _ _ _ _ (.fix c) => some (.int .i64 c)
  | some (.slice _), .sli _ n .exact => some (.int .i64 n)
  | some (.slice _), .sli _ _ .nil => some (.int .i64 0)
  | _, _ => none

def keyEq : Val → Val → Option Bool
  | .int k a, .int k' b => if k = k' then some (a == b) else none
  | .str a, .str b => some (a == b)
  | .bool a, .bool b => some (a == b)
  | _, _ => none

/-- the place and the value of a key -/
def findKey (k : Val) : List (Val × Val) → Nat → Option (Option (Nat × Val))
  | [], _ => some none
  | (a, v) :: l, i => match keyEq k a with
    | some true => some (some (i, v))
    | some false => findKey k l (i + 1)
    | none => none

/-- is a key of its type, and of one whose values can be held against each other? -/
def keyT : TypeDesc → Val → Bool
  | .int _, .int _ _ | .string, .str _ | .bool, .bool _ => true
  | _, _ => false

/-- the entries of a map -/
def mapEnts (S : St) : Val → Option (List (Val × Val) × Cls)
  | .nilm => some ([], .pure)
  | .map b => match S.H[b]? with
    | some (.map es) => some (es, .rh)
    | _ => none
  | _ => none

def lookupOp (E : Env) (t : TypeId) (S : St) (m k : Val) (ok : Bool) : Option (Val × Cls) :=
  match E.und t with
  | some (.map kt et) => match E.und kt, E.P.info? et with
    | some d, some i =>
      if keyT d k then
        match mapEnts S m with
        | some (es, c) => match findKey k es 0 with
          | some (some (_, v)) => some (if ok then .tup [v, .bool true] else v, c)
          | some none => match i.zero.bind ofConst with
            | some z => some (if ok then .tup [z, .bool false] else z, c)
            | none => none
          | none => none
        | none => none
      else none
    | _, _ => none
  | _ => none

def updateOp (E : Env) (t : TypeId) (S : St) (m k v : Val) : Option St :=
  match E.und t with
  | some (.map kt _) => match E.und kt with
    | some d =>
      if keyT d k then
        match m with
        | .map b => match S.H[b]? with
          | some (.map es) => match findKey k es 0 with
            | some (some (i, _)) => some { S with H := S.H.set b (.map (es.set i (k, v))) }
            | some none => some { S with H := S.H.set b (.map (es ++ [(k, v)])) }
            | none => none
          | _ => none
        | _ => none
      else none
    | none => none
  | _ => none

def copyOp (E : Env) (t : TypeId) (S : St) (d s : Val) : Option (Val × St) :=
  match E.und t with
  | some (.slice e) => match E.size e with
    | some sz => match cellsOfSlice S sz s with
      | some (n, new, _) => match d with
        | .sl b off len _ c =>
          match hcells S b c.ext with
          | some cs => match over cs off (new.take (min n len * sz)) with
            | some cs' => some (.int .i64 (min n len), setCells S b c.ext cs')
            | none => none
          | none => none
        | _ => none
      | none => none
    | none => none
  | _ => none

def clearOp (E : Env) (t : TypeId) (S : St) (d : Val) : Option St :=
  match E.und t with
  | some (.slice e) => match zeroCells E e with
    | some z => match d with
      | .sl b off len _ c => match hcells S b c.ext with
        | some cs => (over cs off (repeatCells z len)).map fun cs' => setCells S b c.ext cs'
        | none => none
      | _ => none
    | none => none
  | _ => none

def makeSliceOp (E : Env) (t : TypeId) (S : St) (len cap : Val) : Option (Val × St) :=
  match E.und t, len, cap with
  | some (.slice e), .int k l, .int k' c => match E.P.info? e, zeroCells E e with
    | some i, some z =>
      if k = .i64 ∧ k' = .i64 ∧ 0 ≤ l ∧ l ≤ c ∧ c * i.bytes ≤ 2 ^ 46 ∧ c ≤ 2 ^ 46 ∧ z.length = i.size ∧ 0 < i.size then
        some (.sl S.H.length 0 l.toNat i.size (.fix c.toNat), push S (.cells (repeatCells z c.toNat) false))
      else none
    | _, _ => none
  | _, _, _ => none

def minMax (mx : Bool) : List Val → Option Val
  | [] => none
  | .int k x :: l => l.foldlM (fun a v => match a, v with
    | .int k x, .int k' y => if k = k' then some (.int k (if mx then (if y > x then y else x) else (if y < x then y else x))) else none
    | _, _ => none) (.int k x)
  | _ => none

/-- operands captured by a function literal: a local that is only read from here on is frozen -/
def capture (E : Env) (g : G) : List Operand → Option (List Val × List (Nat × Val))
  | [] => some ([], [])
  | o :: l => match o with
    | .tmp t => match g t, capture E g l with
      | some (.lv cs), some (vs, ups) => some (.pin cs 0 :: vs, (t, .pin cs 0) :: ups)
      | some v, some (vs, ups) => if v.first then some (v :: vs, ups) else none
      | _, _ => none
    | _ => none

/-- where an operation stands: its function, how many temporaries it has, the locals of the loop around a round -/
structure Ctx where
  f : FuncId
  n : Nat
  fixed : List Nat

def lay (E : Env) (c : Ctx) (S : St) (dst : Option Tmp) (cs : List Val) : Option Res :=
  match dst with
  | some d =>
    if (E.esc c.f).contains d then some (.val (some (.ptr S.H.length 0 none)) .eh [] (push S (.cells cs false)))
    else some (.laid cs)
  | none => none

def one (r : Option (Val × Cls)) (S : St) : Option Res := r.map fun (v, c) => .val (some v) c [] S
def pureVal (r : Option Val) (S : St) : Option Res := r.map fun v => .val (some v) .pure [] S

/-- An operation. -/
def opV (E : Env) (c : Ctx) (g : G) (S : St) (o : Oper) : Option Res :=
  match o.op with
  | .move x | .assign x => pureVal (ev E g x) S
  | .pick q a b => match ev E g q with
    | some (.bool t) => pureVal (ev E g (if t then a else b)) S
    | _ => none
  | .alloc e => match zeroCells E e with
    | some z => lay E c S o.dst z
    | none => none
  | .box _ x => match ev E g x with
    | some v => if v.sto then lay E c S o.dst v.cells else none
    | none => none
  | .load t a => match E.und t, E.size t, place E g a with
    | some d, some n, some p => match cellsAt g S p with
      | some cs => one ((ofCells d cs p.off n).map fun v => (v, p.reads)) S
      | none => none
    | _, _, _ => none
  | .store t a x => match E.size t, place E g a, ev E g x with
    | some n, some p, some v =>
      if v.cells.length = n ∧ v.sto = true then (storeAt g S p v.cells).map fun (k, ups, S') => .val none k ups S'
      else none
    | _, _, _ => none
  | .fieldAddr t x i => match fieldOf E t i, place E g x with
    | some fd, some p => match E.size fd.type, cellsAt g S p with
      | some (_ + 1), some _ => one (some ((p.add fd.offset).val, p.reads)) S
      | _, _ => none
    | _, _ => none
  | .indexAddr t x i => match ev E g i with
    | some (.int _ n) =>
      match E.und t with
      | some (.slice e) => match E.size e, ev E g x with
        | some sz, some (.sli cs len _) => if 0 ≤ n ∧ n < len then pureVal (some (.pin cs (n.toNat * sz))) S else none
        | some sz, some (.sl b off len _ cp) => if 0 ≤ n ∧ n < len ∧ (hcells S b cp.ext).isSome then one (some (.ptr b (off + n.toNat * sz) cp.ext, .rh)) S else none
        | _, _ => none
      | some (.array len e) => match E.size e, place E g x with
        | some sz, some p => if 0 ≤ n ∧ n < len ∧ (cellsAt g S p).isSome then one (some ((p.add (n.toNat * sz)).val, p.reads)) S else none
        | _, _ => none
      | _ => none
    | _ => none
  | .nilCheck x => match place E g x with
    | some p => if (cellsAt g S p).isSome then one (some (p.val, p.reads)) S else none
    | none => match ev E g x with
      | some (.fn h cap) => pureVal (some (.fn h cap)) S
      | some (.yield l) => pureVal (some (.yield l)) S
      | _ => none
  | .binOp op t x y _ => match ev E g x, ev E g y with
    | some a, some b => pureVal (binOp E op t a b) S
    | _, _ => none
  | .unOp op _ x => match ev E g x with
    | some a => pureVal (unOp op a) S
    | none => none
  | .convert s d x => match ev E g x with
    | some a => one (convertOp E s d S a) S
    | none => none
  | .build t parts => match zeroCells E t, evParts E g parts.toList with
    | some z, some ps => match E.und t with
      | some (.struct fs) => match placesOf E fs.toList with
        | some pl => pureVal ((fillAt (fun i => pl[i]?) z ps).map .agg) S
        | none => none
      | some (.array _ e) => match E.size e with
        | some sz => pureVal ((fillAt (fun i => some (i * sz, sz)) z ps).map .agg) S
        | none => none
      | _ => none
    | _, _ => none
  | .buildSlice t len parts => match E.und t, evParts E g parts.toList with
    | some (.slice e), some ps => match zeroCells E e, E.size e with
      | some z, some sz =>
        if len * sz ≤ 65536 ∧ z.length = sz ∧ 0 < sz then pureVal ((fillAt (fun i => some (i * sz, sz)) (repeatCells z len) ps).map fun cs => .sli cs len .exact) S
        else none
      | _, _ => none
    | _, _ => none
  | .slice t x lo hi mx => one (sliceOp E g S t x lo hi mx) S
  | .index t x i => match ev E g i with
    | some (.int _ n) => match E.und t, ev E g x with
      | some .string, some (.str s) => if 0 ≤ n then pureVal ((s[n.toNat]?).map fun b => .int .u8 b.toNat) S else none
      | some (.array len e), some (.agg cs) => match E.und e, E.size e with
        | some d, some sz => if 0 ≤ n ∧ n < len then pureVal (ofCells d cs (n.toNat * sz) sz) S else none
        | _, _ => none
      | _, _ => none
    | _ => none
  | .field t x i => match fieldOf E t i, ev E g x with
    | some fd, some (.agg cs) => match E.und fd.type, E.size fd.type with
      | some d, some n => pureVal (ofCells d cs fd.offset n) S
      | _, _ => none
    | _, _ => none
  | .extract x i => match ev E g x with
    | some (.tup vs) => pureVal vs[i]? S
    | _ => none
  | .makeFunc (.func h) first captured => if first.size = 0 then
      match capture E g captured.toList with
      | some (vs, []) => some (.val (some (.fn h vs)) .pure [] S)
      | some (vs, [(t, v)]) => some (.val (some (.fn h vs)) (.wl t) [(t, v)] S)
      | some (vs, ups) => some (.val (some (.fn h vs)) .bad ups S)
      | none => none
    else none
  | .makeSlice t l h => match ev E g l, ev E g h with
    | some a, some b => (makeSliceOp E t S a b).map fun (v, S') => .val (some v) .eh [] S'
    | _, _ => none
  | .makeMap t none => match E.und t with
    | some (.map _ _) => some (.val (some (.map S.H.length)) .eh [] (push S (.map [])))
    | _ => none
  | .lookup t m k ok => match ev E g m, ev E g k with
    | some a, some b => one (lookupOp E t S a b ok) S
    | _, _ => none
  | .mapUpdate t m k v | .insert t m k v => match ev E g m, ev E g k, ev E g v with
    | some a, some b, some w => (updateOp E t S a b w).map fun S' => .val none .eh [] S'
    | _, _, _ => none
  | .makeInterface t x => match ev E g x, E.und t with
    | some _, some (.interface _) => none
    | some v, some _ => pureVal (some (.ifc t v)) S
    | _, _ => none
  | .call cl => match cl.callee, evs E g cl.args.toList with
    | .builtin .len, some [x] => match (cl.argTypes[0]?) with
      | some t => one (lenOp E t S x) S
      | none => none
    | .builtin .cap, some [x] => match (cl.argTypes[0]?) with
      | some t => pureVal (capOp E t x) S
      | none => none
    | .builtin .append, some [s, x] => match (cl.argTypes[0]?), (cl.argTypes[1]?).bind E.und with
      | some t, some (.slice _) | some t, some .string => (appendOp E S t s x).map fun (v, k, S') => .val (some v) k [] S'
      | _, _ => none
    | .builtin .copy, some [d, s] => match (cl.argTypes[0]?) with
      | some t => (copyOp E t S d s).map fun (v, S') => .val (some v) .eh [] S'
      | none => none
    | .builtin .clear, some [d] => match (cl.argTypes[0]?) with
      | some t => (clearOp E t S d).map fun S' => .val (some (.tup [])) .eh [] S'
      | none => none
    | .builtin .max, some l => pureVal (minMax true l) S
    | .builtin .min, some l => pureVal (minMax false l) S
    | .value h, some args => match ev E g h with
      | some (.fn f cap) => some (.call f (args ++ cap))
      | some (.yield l) => some (.yld l args)
      | _ => none
    | _, _ => none
  | _ => none

end Go.V

/- The interpreter: regions, calls, rounds of ranges over functions, a stack of items. -/
namespace Go.V

abbrev Out := Option Code × Fr × St
abbrev Rec := Ctx → List Item → Fr → St → Option Out

mutual
/-- no reference to a block of number n or above -/
def Val.low (n : Nat) : Val → Bool
  | .ptr b _ _ | .sl b _ _ _ _ | .map b => b < n
  | .pin cs _ | .lv cs | .sli cs _ _ | .fn _ cs | .agg cs | .tup cs => Val.lows n cs
  | .ifc _ v => v.low n
  | _ => true
def Val.lows (n : Nat) : List Val → Bool
  | [] => true
  | v :: l => v.low n && Val.lows n l
end
def Block.low (n : Nat) : Block → Bool
  | .cells cs _ => Val.lows n cs
  | .map es => es.all fun e => e.1.low n && e.2.low n

def Block.noY (m : Nat) : Block → Bool
  | .cells cs _ => Val.noYs m cs
  | .map es => es.all fun e => e.1.noY m && e.2.noY m

def mapO (f : Val → Option Val) : List Val → Option (List Val)
  | [] => some []
  | v :: l => match f v, mapO f l with
    | some a, some b => some (a :: b)
    | _, _ => none

/-- what refers to blocks from n on is written out -/
def fz (n : Nat) (S : St) : Nat → Val → Option Val
  | 0, _ => none
  | d + 1, v => if v.low n then some v else
    match v with
    | .ptr b off e => match hcells S b e with
      | some cs => (mapO (fz n S d) cs).map fun l => .pin l off
      | none => none
    | .sl b off len esz c => match hcells S b c.ext with
      | some cs => match cut cs off (len * esz) with
        | some l => (mapO (fz n S d) l).map fun l' => .sli l' len .any
        | none => none
      | none => none
    | .pin cs o => (mapO (fz n S d) cs).map (.pin · o)
    | .sli cs l q => (mapO (fz n S d) cs).map (.sli · l q)
    | .fn f cs => (mapO (fz n S d) cs).map (.fn f ·)
    | .agg cs => (mapO (fz n S d) cs).map .agg
    | .tup cs => (mapO (fz n S d) cs).map .tup
    | .ifc t v => (fz n S d v).map (.ifc t ·)
    | _ => none

/-- the elder blocks are as they were, or refer to elder ones alone -/
def keptH (n : Nat) : List Block → List Block → Bool
  | [], _ => true
  | a :: l, b :: m => (b.low n || b.beq a) && keptH n l m
  | _ :: _, [] => false
def frBeq : Fr → Fr → Bool
  | [], [] => true
  | (a, v) :: l, (b, w) :: m => a == b && v.beq w && frBeq l m
  | _, _ => false
def keptL (n : Nat) : List LoopRec → List LoopRec → Bool
  | [], [] => true
  | a :: l, b :: m => (b.busy || b.fr.all (fun e => e.2.low n) || frBeq b.fr a.fr) && keptL n l m
  | _, _ => false

/-- behind a loop of number m nothing names it -/
def keptYH (m : Nat) : List Block → List Block → Bool
  | [], l => l.all (·.noY m)
  | a :: l, b :: r => (b.noY m || b.beq a) && keptYH m l r
  | _ :: _, [] => false
def frY (m : Nat) : Fr → Fr → Bool
  | [], [] => true
  | (s, u) :: a, (t, v) :: b => s == t && (v.noY m || v.beq u) && frY m a b
  | _, _ => false
def keptYL (m : Nat) : List LoopRec → List LoopRec → Bool
  | [], _ => true
  | a :: l, b :: r => (b.busy || frY m a.fr b.fr) && keptYL m l r
  | _ :: _, [] => false

def fzDepth : Nat := 64

/-- the end of a call: S0 is the state that it began in -/
def finish (E : Env) (g : FuncId) (S0 : St) (v : Val) (S1 : St) : Option (Val × St) :=
  match E.mode g with
  | .keep => some (v, S1)
  | .drop =>
    if keptH S0.H.length S0.H S1.H && keptL S0.H.length S0.L S1.L then
      match fz S0.H.length S1 fzDepth v with
      | some v' => some (v', { S1 with H := S1.H.take S0.H.length })
      | none => none
    else none

def argFr : Nat → List Val → Fr
  | _, [] => []
  | i, v :: l => (i, v) :: argFr (i + 1) l

def resultV (E : Env) (g : G) (S : St) : ResultVar → Option Val
  | .tmp t => ev E g (.tmp t)
  | .cell a t => match E.und t, E.size t, place E g (.tmp a) with
    | some d, some n, some p => match cellsAt g S p with
      | some cs => ofCells d cs p.off n
      | none => none
    | _, _, _ => none
def resultsV (E : Env) (g : G) (S : St) : List ResultVar → Option (List Val)
  | [] => some []
  | r :: l => match resultV E g S r, resultsV E g S l with
    | some v, some vs => some (v :: vs)
    | _, _ => none
def wrapV : List Val → Val
  | [v] => v
  | vs => .tup vs

def isRet : Option Code → Bool
  | none | some .ret => true
  | _ => false

def callV (rec : Rec) (E : Env) (g : FuncId) (args : List Val) (S : St) : Option (Val × St) :=
  match E.native g with
  | some nf => nf args S
  | none => match E.P.funcs[g]? with
    | some fn => match fn.body with
      | some body =>
        if args.length ≤ fn.ntmps then
          match rec ⟨g, fn.ntmps, []⟩ [.code body] (argFr 0 args) S with
          | some (j, fr, S1) =>
            if isRet j then match resultsV E fr.get S1 fn.results.toList with
              | some vs => finish E g S (wrapV vs) S1
              | none => none
            else none
          | none => none
        else none
      | none => none
    | none => none

def setParams : List Tmp → List Val → Fr → Option Fr
  | [], [], fr => some fr
  | t :: ts, v :: vs, fr => setParams ts vs (fr.put t v)
  | _, _, _ => none

/-- behind a round: the locals of the function are as the round left them -/
def mergeFr : Fr → Fr → Option Fr
  | [], _ => some []
  | (t, .lv c) :: r, new => match new.get t, mergeFr r new with
    | some (.lv c'), some r' => some ((t, .lv c') :: r')
    | some (.pin c' 0), some r' => some ((t, .pin c' 0) :: r')
    | _, _ => none
  | (t, v) :: r, new => match mergeFr r new with
    | some r' => some ((t, v) :: r')
    | none => none
def lvKeys : Fr → List Nat
  | [] => []
  | (t, .lv _) :: r => t :: lvKeys r
  | _ :: r => lvKeys r

def yieldV (rec : Rec) (E : Env) (l : Nat) (args : List Val) (S : St) : Option (Val × St) :=
  match S.L[l]? with
  | some r =>
    if r.busy || r.done then none else
    match E.P.funcs[r.fn]?, setParams r.params.toList args r.fr with
    | some fn, some fr0 =>
      if (r.params.toList.all fun t => decide (t < fn.ntmps) && !(lvKeys r.fr).contains t) = true then
      match rec ⟨r.fn, fn.ntmps, lvKeys r.fr⟩ [.code r.assign] fr0 { S with L := S.L.set l { r with busy := true, begun := false } } with
      | some (none, fr1, S1) =>
        match rec ⟨r.fn, fn.ntmps, lvKeys r.fr⟩ [.code r.body] fr1 { S1 with L := S1.L.set l { r with busy := true, begun := true } } with
        | some (j, fr2, S2) => match mergeFr r.fr fr2 with
          | some fr' => some (.bool j.isNone, { S2 with L := S2.L.set l { r with fr := fr', pending := j, done := j.isSome } })
          | none => none
        | none => none
      | _ => none
      else none
    | _, _ => none
  | none => none

def putO (c : Ctx) (fr : Fr) (dst : Option Tmp) (v : Val) : Option Fr :=
  match dst with
  | some d => if d < c.n ∧ c.fixed.contains d = false then some (fr.put d v) else none
  | none => some fr

def stepOp (rec : Rec) (E : Env) (c : Ctx) (fr : Fr) (S : St) (o : Oper) : Option (Fr × St) :=
  match opV E c fr.get S o with
  | some (.val v _ ups S') => match putO c (fr.puts ups) o.dst (v.getD (.tup [])) with
    | some fr' => some (fr', S')
    | none => none
  | some (.laid cs) => match o.dst with
    | some d => if d < c.n ∧ c.fixed.contains d = false then some ((fr.unloc d).put d (.lv cs), S) else none
    | none => none
  | some (.call g args) => match callV rec E g args S with
    | some (v, S') => match putO c fr o.dst v with
      | some fr' => some (fr', S')
      | none => none
    | none => none
  | some (.yld l args) => match yieldV rec E l args S with
    | some (v, S') => match putO c fr o.dst v with
      | some fr' => some (fr', S')
      | none => none
    | none => none
  | none => none

/-- is an operation wanted? -/
def wantedV (ops : Array Oper) (g : G) (o : Oper) : Option Bool :=
  match o.guard with
  | none => some true
  | some (j, w) => match ops[j]? with
    | some p => match p.dst with
      | some d => match g d with
        | some (.bool b) => some (b == w)
        | some (.tup []) => some false
        | _ => none
      | none => none
    | none => none

/-- a region in the order of the text -/
def opsV (rec : Rec) (E : Env) (c : Ctx) (all : Array Oper) : List Oper → Fr → St → Option (Fr × St)
  | [], fr, S => some (fr, S)
  | o :: l, fr, S => match wantedV all fr.get o with
    | some true => match stepOp rec E c fr S o with
      | some (fr', S') => opsV rec E c all l fr' S'
      | none => none
    | some false => match putO c fr o.dst (.tup []) with
      | some fr' => opsV rec E c all l fr' S
      | none => none
    | none => none

/-- what an operation did: where it stood, what it touched -/
structure Did where
  o : Oper
  fr : Fr
  S : St
  k : Cls
  v : Val
  ups : List (Nat × Val)
  S' : St

/-- no place of local d -/
def noLoc (d : Nat) : Fr → Bool
  | [] => true
  | (_, v) :: r => (v.first || (match v with | .loc s _ => s != d | _ => true)) && noLoc d r

/-- an operation of a region whose order is open -/
def stepT (rec : Rec) (E : Env) (c : Ctx) (fr0 fr : Fr) (S : St) (o : Oper) : Option (Fr × Did) :=
  match opV E c fr.get S o with
  | some (.val v k ups S') => match putO c (fr.puts ups) o.dst (v.getD (.tup [])) with
    | some fr' => some (fr', ⟨o, fr, S, k, v.getD (.tup []), ups, S'⟩)
    | none => none
  | some (.laid cs) => match o.dst with
    | some d => if d < c.n ∧ c.fixed.contains d = false ∧ noLoc d fr0 = true then some (fr.put d (.lv cs), ⟨o, fr, S, .pure, .lv cs, [], S⟩) else none
    | none => none
  | some (.call g args) => match callV rec E g args S with
    | some (v, S') => match putO c fr o.dst v with
      | some fr' => some (fr', ⟨o, fr, S, .eh, v, [], S'⟩)
      | none => none
    | none => none
  | some (.yld l args) => match yieldV rec E l args S with
    | some (v, S') => match putO c fr o.dst v with
      | some fr' => some (fr', ⟨o, fr, S, .eh, v, [], S'⟩)
      | none => none
    | none => none
  | none => none

/-- a region in the order of the text, with what its operations did -/
def opsT (rec : Rec) (E : Env) (c : Ctx) (all : Array Oper) (fr0 : Fr) : List Oper → Fr → St → Option (Fr × St × List Did)
  | [], fr, S => some (fr, S, [])
  | o :: l, fr, S => match wantedV all fr.get o with
    | some true => match stepT rec E c fr0 fr S o with
      | some (fr', d) => match opsT rec E c all fr0 l fr' d.S' with
        | some (fr2, S2, tr) => some (fr2, S2, d :: tr)
        | none => none
      | none => none
    | some false => match putO c fr o.dst (.tup []) with
      | some fr' => match opsT rec E c all fr0 l fr' S with
        | some (fr2, S2, tr) => some (fr2, S2, ⟨o, fr, S, .pure, .tup [], [], S⟩ :: tr)
        | none => none
      | none => none
    | none => none

def Cls.slots : Cls → List Nat
  | .rl t | .wl t => [t]
  | _ => []
/-- the temporaries that an operation names -/
def looks (all : Array Oper) (o : Oper) : List Nat :=
  (o.op.operands.toList.filterMap fun | .tmp t => some t | _ => none) ++
  (match o.guard with
   | some (g, _) => ((all[g]?).bind (·.dst)).toList
   | none => [])
def Did.W (d : Did) : List Nat := d.o.dst.toList ++ d.ups.map (·.1)
/-- the local that a value is a place of -/
def locT (v : Val) : List Nat := if v.first then [] else match v with
  | .loc t _ => [t]
  | _ => []
def Did.R (all : Array Oper) (d : Did) : List Nat := looks all d.o ++ d.k.slots ++ locT d.v
def disj (a b : List Nat) : Bool := a.all fun x => !b.contains x
def heapOk : Cls → Cls → Bool
  | .bad, _ | _, .bad => false
  | .eh, .eh => false
  | _, _ => true

/-- the reading gives the same in another state -/
def stable (E : Env) (c : Ctx) (d : Did) (S : St) : Bool :=
  match opV E c d.fr.get S d.o with
  | some (.val (some v) .rh [] _) => v.beq d.v
  | _ => false
def stableAt (E : Env) (c : Ctx) (a b : Did) : Bool :=
  match a.k, b.k with
  | .rh, .eh => stable E c a b.S && stable E c a b.S'
  | .eh, .rh => stable E c b a.S && stable E c b a.S'
  | _, _ => true

/-- the masks of those that come before -/
def befT : List Oper → List Nat → List Nat
  | [], acc => acc
  | o :: l, acc => befT l (acc ++ [o.after.toList.foldl (fun s e => if Region.binds .any e then s ||| 2 ^ e.on ||| acc.getD e.on 0 else s) 0])
def edgesOk : List Oper → Nat → Bool
  | [], _ => true
  | o :: l, i => (o.after.toList.all fun e => !Region.binds .any e || decide (e.on < i)) && edgesOk l (i + 1)

/-- what of the look at two operations asks for no values -/
def pairOk (all : Array Oper) (a b : Did) : Bool :=
  disj a.W (b.W ++ b.R all) && disj (a.R all) b.W && heapOk a.k b.k
/-- no place of a local from before it is laid -/
def lvOk (a b : Did) : Bool := match b.v, b.o.dst with
  | .lv _, some t => !(locT a.v).contains t
  | _, _ => true
def upsOk (d : Did) : Bool := d.ups.all fun x => (locT x.2).isEmpty
def drawRow (E : Env) (c : Ctx) (all : Array Oper) (bef : List Nat) (i : Nat) (a : Did) : Nat → List Did → Bool
  | _, [] => true
  | j, b :: l => ((bef.getD j 0).testBit i || (pairOk all a b && stableAt E c a b)) && lvOk a b && drawRow E c all bef i a (j + 1) l
def drawOk (E : Env) (c : Ctx) (all : Array Oper) (bef : List Nat) : Nat → List Did → Bool
  | _, [] => true
  | i, a :: l => upsOk a && drawRow E c all bef i a (i + 1) l && drawOk E c all bef (i + 1) l

def regionV (rec : Rec) (E : Env) (c : Ctx) (id : Nat) (ops : Array Oper) (draw : Bool) (fr : Fr) (S : St) : Option (Fr × St) :=
  if draw then
    match E.lo c.f id, opsT rec E c ops fr ops.toList fr S with
    | some l, some (fr', S', tr) =>
      if edgesOk ops.toList 0 && drawOk E c ops (befT ops.toList []) 0 tr then some (fr'.keep l, S') else none
    | _, _ => none
  else match opsV rec E c ops ops.toList fr S with
    | some (fr', S') => some (match E.lo c.f id with
      | some l => fr'.keep l
      | none => fr', S')
    | none => none

def loopFr (E : Env) (c : Ctx) (k : List Item) (fr : Fr) : Fr :=
  match k with
  | .inBlock id :: _ => match E.lh c.f id with
    | some l => fr.keep l
    | none => fr
  | _ => fr

/-- One step. -/
def stepV (rec : Rec) (E : Env) (c : Ctx) (k : List Item) (fr : Fr) (S : St) : Option Out :=
  match k with
  | [] => some (none, fr, S)
  | .code .skip :: k | .inBlock _ :: k => rec c k fr S
  | .code (.seq a b) :: k => rec c (.code a :: .code b :: k) fr S
  | .code (.cond o a b) :: k => match ev E fr.get o with
    | some (.bool true) => rec c (.code a :: k) fr S
    | some (.bool false) => rec c (.code b :: k) fr S
    | _ => none
  | .code (.block id b) :: k => rec c (.code b :: .inBlock id :: k) fr S
  | .code (.loop b) :: k => rec c (.code b :: .inLoop b :: k) (loopFr E c k fr) S
  | .inLoop b :: k => rec c (.code b :: .inLoop b :: k) (loopFr E c k fr) S
  | .code .ret :: _ => some (some .ret, fr, S)
  | .code (.exit id) :: k => match exitTo id k with
    | some k' => rec c k' fr S
    | none => some (some (.exit id), fr, S)
  | .code (.region id ops draw) :: k => match regionV rec E c id ops draw fr S with
    | some (fr', S') => rec c k fr' S'
    | none => none
  | .code (.rangeFunc f ps a b) :: k => match ev E fr.get f with
    | some (.fn g cap) =>
      match callV rec E g (.yield S.L.length :: cap) { S with L := S.L ++ [⟨c.f, fr, ps, a, b, false, false, false, none⟩] } with
      | some (_, S2) => match S2.L[S.L.length]? with
        | some r => if S2.L.length = S.L.length + 1 ∧ r.busy = false ∧ keptYH S.L.length S.H S2.H = true ∧ keptYL S.L.length S.L S2.L = true ∧ frY S.L.length fr r.fr = true then
            rec c ((r.pending.map Item.code).toList ++ k) r.fr { S2 with L := S2.L.take S.L.length }
          else none
        | none => none
      | none => none
    | _ => none
  | _ => none

def run (E : Env) : Nat → Rec
  | 0 => fun _ _ _ _ => none
  | n + 1 => fun c k fr S => stepV (run E n) E c k fr S

def call (E : Env) (n : Nat) : FuncId → List Val → St → Option (Val × St) := callV (run E n) E
end Go.V

/- What the interpreter's values stand for in a world of the model, and what of it stays when the world goes on. -/
namespace Go.V

inductive Shape where
  | cells (flex : Bool) (n : Nat)
  | map
  deriving DecidableEq

def Block.shape : Block → Shape
  | .cells cs f => .cells f cs.length
  | .map _ => .map

/-- Whose is a block of the world? A block of the clean heap; a local of a frame; a loop; a frame's deferred calls. -/
inductive Own where
  | h (b : Nat)
  | lv (f t : Nat)
  | loop (l : Nat)
  | mark (f : Nat)
  deriving DecidableEq

structure K where
  σ : Nat → Nat × Nat
  lo : Nat → Nat
  sh : Nat → Option Shape
  own : Nat → Option Own
  /-- the frame in which a loop stands, and its temporaries there -/
  lp : Nat → Nat × Array Value
  /-- how many cells a grown block has in the world -/
  room : Nat → Nat
  w : World

def K.fid (k : K) (l : Nat) : Nat := (k.lp l).1
def K.tm (k : K) (l : Nat) : Array Value := (k.lp l).2

mutual
def Rep (k : K) : Val → Value → Prop
  | .unk, _ => True
  | .bool b, v => v = .bool b
  | .int q n, v => v = .int q n
  | .str s, v => ∃ a : ByteArray, v = .string a ∧ a.data.toList = s
  | .nilp, v => v = .pointer none
  | .ptr b off none, v => (∃ n, k.sh b = some (.cells false n)) ∧ v = .pointer (some ⟨(k.σ b).1, (k.σ b).2 + off, none⟩)
  | .ptr b off (some e), v => ∃ n p, k.sh b = some (.cells true n) ∧ e ≤ n ∧ v = .pointer p ∧ (e = n → p = some ⟨(k.σ b).1, (k.σ b).2 + off, none⟩)
  | .pin cs off, v => ∃ c o, v = .pointer (some ⟨c, o + off, none⟩) ∧ RepMem k c o cs
  | .lv _, _ => False
  | .loc _ _, _ => False
  | .sl b off len _ (.fix cp), v => (∃ n, k.sh b = some (.cells false n)) ∧ v = .slice (some ⟨(k.σ b).1, (k.σ b).2 + off, none⟩) len cp ∧ len ≤ cp
  | .sl b off len esz (.flex e), v => ∃ n p cp, k.sh b = some (.cells true n) ∧ e ≤ n ∧ v = .slice p len cp ∧ (e = n → p = some ⟨(k.σ b).1, (k.σ b).2 + off, none⟩ ∧ len ≤ cp ∧ e ≤ off + cp * esz ∧ off + cp * esz ≤ k.room b)
  | .sli cs len q, v => ∃ a cp, v = .slice a len cp ∧ len ≤ cp ∧ (q = .nil → a = none ∧ cp = 0) ∧ ((q = .exact → cp = len) ∧ (q ≠ .nil → a.isSome = true)) ∧
      (len = 0 ∨ ∃ c o, a = some ⟨c, o, none⟩ ∧ RepMem k c o cs)
  | .fn f cs, v => ∃ a : Array Value, v = .func (.func f) #[] a ∧ RepAll k cs a.toList
  | .yield l, v => k.own (k.lo l) = some (.loop l) ∧ v = .func (.yield (k.lo l)) #[] #[]
  | .nilf, v => v = .nilFunc
  | .map b, v => k.sh b = some .map ∧ v = .map (some (k.σ b).1)
  | .nilm, v => v = .map none
  | .ifc t x, v => ∃ y, v = .iface t y ∧ Rep k x y
  | .nili, v => v = .nilIface
  | .agg cs, v => ∃ a : Array Value, v = .agg a ∧ RepAll k cs a.toList ∧ ∀ x ∈ a.toList, x.oneCell' = true
  | .tup cs, v => ∃ a : Array Value, v = .tuple a ∧ RepAll k cs a.toList
/-- frozen memory at a block's cell o and behind -/
def RepMem (k : K) (c o : Nat) : List Val → Prop
  | [] => True
  | x :: l => (k.own c = none ∧ ∃ v, k.w.cell? ⟨c, o, none⟩ = some v ∧ v.oneCell' = true ∧ Rep k x v) ∧ RepMem k c (o + 1) l
def RepAll (k : K) : List Val → List Value → Prop
  | [], [] => True
  | x :: l, v :: m => Rep k x v ∧ RepAll k l m
  | _, _ => False
end

/-- memory that may be written -/
def RepOwn (k : K) (c o : Nat) : List Val → Prop
  | [] => True
  | x :: l => (∃ v, k.w.cell? ⟨c, o, none⟩ = some v ∧ k.w.frozen? ⟨c, o, none⟩ = false ∧ v.oneCell' = true ∧ Rep k x v) ∧ RepOwn k c (o + 1) l

/-- What makes every value stand for what it stood for. -/
structure K.Le (k k' : K) : Prop where
  sh : ∀ b s, k.sh b = some s → (k'.sh b = some s ∧ k'.σ b = k.σ b ∧ k'.room b = k.room b) ∨ (∃ n n', s = .cells true n ∧ k'.sh b = some (.cells true n') ∧ n < n')
  loop : ∀ l, k.own (k.lo l) = some (.loop l) → k'.lo l = k.lo l ∧ k'.own (k.lo l) = some (.loop l) ∧ k'.lp l = k.lp l
  inl : ∀ c, c < k.w.heap.size → k.own c = none → k'.own c = none ∧ k'.w.heap[c]? = k.w.heap[c]?

theorem K.Le.refl (k : K) : k.Le k := ⟨fun _ _ h => .inl ⟨h, rfl, rfl⟩, fun _ h => ⟨rfl, h, rfl⟩, fun _ _ h => ⟨h, rfl⟩⟩

theorem cell?_heap {w w' : World} {c o : Nat} (h : w'.heap[c]? = w.heap[c]?) : w'.cell? ⟨c, o, none⟩ = w.cell? ⟨c, o, none⟩ := by
  simp [World.cell?, h]
theorem frozen?_heap {w w' : World} {c o : Nat} (h : w'.heap[c]? = w.heap[c]?) : w'.frozen? ⟨c, o, none⟩ = w.frozen? ⟨c, o, none⟩ := by
  simp [World.frozen?, h]

mutual
theorem Rep.mono {k k' : K} (h : k.Le k') : ∀ (x : Val) (v : Value), Rep k x v → Rep k' x v
  | .unk, _, _ => by simp [Rep]
  | .bool _, _, r => by simpa [Rep] using r
  | .int _ _, _, r => by simpa [Rep] using r
  | .str _, _, r => by simpa [Rep] using r
  | .nilp, _, r => by simpa [Rep] using r
  | .ptr b off none, _, r => by
    simp only [Rep] at r ⊢
    obtain ⟨⟨n, hs⟩, hv⟩ := r
    rcases h.sh b _ hs with ⟨h1, h2, hr⟩ | ⟨n1, n2, h1, h2, h3⟩
    · exact ⟨⟨n, h1⟩, by rw [h2]; exact hv⟩
    · simp at h1
  | .ptr b off (some e), _, r => by
    simp only [Rep] at r ⊢
    obtain ⟨n, p, hs, he, hp, hv⟩ := r
    rcases h.sh b _ hs with ⟨h1, h2, hr⟩ | ⟨n1, n2, h1, h2, h3⟩
    · exact ⟨n, p, h1, he, hp, by rw [h2]; exact hv⟩
    · simp only [Shape.cells.injEq, true_and] at h1; subst h1
      exact ⟨n2, p, h2, by omega, hp, fun e1 => by omega⟩
  | .pin cs off, _, r => by
    simp only [Rep] at r ⊢
    obtain ⟨c, o, hv, hm⟩ := r
    exact ⟨c, o, hv, RepMem.mono h c o cs hm⟩
  | .lv _, _, r => by simp [Rep] at r
  | .loc _ _, _, r => by simp [Rep] at r
  | .sl b off len _ (.fix cp), _, r => by
    simp only [Rep] at r ⊢
    obtain ⟨⟨n, hs⟩, hv⟩ := r
    rcases h.sh b _ hs with ⟨h1, h2, hr⟩ | ⟨n1, n2, h1, h2, h3⟩
    · exact ⟨⟨n, h1⟩, by rw [h2]; exact hv⟩
    · simp at h1
  | .sl b off len _ (.flex e), _, r => by
    simp only [Rep] at r ⊢
    obtain ⟨n, p, cp, hs, he, hp, hv⟩ := r
    rcases h.sh b _ hs with ⟨h1, h2, hr⟩ | ⟨n1, n2, h1, h2, h3⟩
    · exact ⟨n, p, cp, h1, he, hp, by rw [h2, hr]; exact hv⟩
    · simp only [Shape.cells.injEq, true_and] at h1; subst h1
      exact ⟨n2, p, cp, h2, by omega, hp, fun e1 => by omega⟩
  | .sli cs len q, _, r => by
    simp only [Rep] at r ⊢
    obtain ⟨a, cp, hv, h1, h2, h3, h4⟩ := r
    refine ⟨a, cp, hv, h1, h2, h3, ?_⟩
    rcases h4 with h4 | ⟨c, o, ha, hm⟩
    · exact .inl h4
    · exact .inr ⟨c, o, ha, RepMem.mono h c o cs hm⟩
  | .fn f cs, _, r => by
    simp only [Rep] at r ⊢
    obtain ⟨a, hv, hm⟩ := r
    exact ⟨a, hv, RepAll.mono h cs _ hm⟩
  | .yield l, _, r => by
    simp only [Rep] at r ⊢
    obtain ⟨h1, h2, _⟩ := h.loop l r.1
    rw [h1]
    exact ⟨h2, r.2⟩
  | .nilf, _, r => by simpa [Rep] using r
  | .map b, _, r => by
    simp only [Rep] at r ⊢
    rcases h.sh b _ r.1 with ⟨h1, h2, hr⟩ | ⟨n1, n2, h1, h2, h3⟩
    · exact ⟨h1, by rw [h2]; exact r.2⟩
    · simp at h1
  | .nilm, _, r => by simpa [Rep] using r
  | .ifc t x, _, r => by
    simp only [Rep] at r ⊢
    obtain ⟨y, hv, hm⟩ := r
    exact ⟨y, hv, Rep.mono h x y hm⟩
  | .nili, _, r => by simpa [Rep] using r
  | .agg cs, _, r => by
    simp only [Rep] at r ⊢
    obtain ⟨a, hv, hm, h1⟩ := r
    exact ⟨a, hv, RepAll.mono h cs _ hm, h1⟩
  | .tup cs, _, r => by
    simp only [Rep] at r ⊢
    obtain ⟨a, hv, hm⟩ := r
    exact ⟨a, hv, RepAll.mono h cs _ hm⟩
theorem RepMem.mono {k k' : K} (h : k.Le k') (c o : Nat) : ∀ (cs : List Val), RepMem k c o cs → RepMem k' c o cs
  | [], _ => by simp [RepMem]
  | x :: l, r => by
    simp only [RepMem] at r ⊢
    obtain ⟨⟨hn, v, hv, h0, hr⟩, hl⟩ := r
    obtain ⟨h1, h2⟩ := h.inl c (World.block_lt_of_cell? _ _ hv) hn
    exact ⟨⟨h1, v, by rw [cell?_heap h2]; exact hv, h0, Rep.mono h x v hr⟩, RepMem.mono h c (o + 1) l hl⟩
theorem RepAll.mono {k k' : K} (h : k.Le k') : ∀ (cs : List Val) (vs : List Value), RepAll k cs vs → RepAll k' cs vs
  | [], [], _ => by simp [RepAll]
  | x :: l, v :: m, r => by
    simp only [RepAll] at r ⊢
    exact ⟨Rep.mono h x v r.1, RepAll.mono h l m r.2⟩
  | [], _ :: _, r => by simp [RepAll] at r
  | _ :: _, [], r => by simp [RepAll] at r
end

theorem K.Le.trans {a b c : K} (h : a.Le b) (h' : b.Le c) (hs : a.w.heap.size ≤ b.w.heap.size) : a.Le c where
  sh := by
    intro x s hx
    rcases h.sh x s hx with ⟨h1, h2, h0⟩ | ⟨n, n', h1, h2, h3⟩
    · rcases h'.sh x s h1 with ⟨h3, h4, h5⟩ | h3
      · exact .inl ⟨h3, h4.trans h2, h5.trans h0⟩
      · exact .inr h3
    · rcases h'.sh x _ h2 with ⟨h4, h5, _⟩ | ⟨m, m', h4, h5, h6⟩
      · exact .inr ⟨n, n', h1, h4, h3⟩
      · simp only [Shape.cells.injEq, true_and] at h4
        exact .inr ⟨n, m', h1, h5, by omega⟩
  loop := by
    intro l hl
    obtain ⟨h1, h2, h5⟩ := h.loop l hl
    obtain ⟨h3, h4, h6⟩ := h'.loop l (by rw [h1]; exact h2)
    rw [h1] at h3 h4
    exact ⟨h3, h4, h6.trans h5⟩
  inl := by
    intro x hx hn
    obtain ⟨h1, h2⟩ := h.inl x hx hn
    obtain ⟨h3, h4⟩ := h'.inl x (by omega) h1
    exact ⟨h3, h4.trans h2⟩

/-- owned memory, where its block stays as it was -/
theorem RepOwn.mono {k k' : K} (h : k.Le k') {c : Nat} (hc : k'.w.heap[c]? = k.w.heap[c]?) (o : Nat) : ∀ (cs : List Val), RepOwn k c o cs → RepOwn k' c o cs := by
  intro cs
  induction cs generalizing o with
  | nil => simp [RepOwn]
  | cons x l ih =>
    intro r
    simp only [RepOwn] at r ⊢
    obtain ⟨⟨v, hv, hf, h0, hr⟩, hl⟩ := r
    exact ⟨⟨v, by rw [cell?_heap hc]; exact hv, by rw [frozen?_heap hc]; exact hf, h0, Rep.mono h x v hr⟩, ih (o + 1) hl⟩

theorem RepOwn.get {k : K} {c o : Nat} {cs : List Val} (h : RepOwn k c o cs) {i : Nat} {x : Val} (hi : cs[i]? = some x) :
    ∃ v, k.w.cell? ⟨c, o + i, none⟩ = some v ∧ k.w.frozen? ⟨c, o + i, none⟩ = false ∧ v.oneCell' = true ∧ Rep k x v := by
  induction cs generalizing o i with
  | nil => simp at hi
  | cons y l ih =>
    simp only [RepOwn] at h
    cases i with
    | zero => simp only [List.getElem?_cons_zero, Option.some.injEq] at hi; subst hi; exact h.1
    | succ i =>
      simp only [List.getElem?_cons_succ] at hi
      obtain ⟨v, h1, h2, h3⟩ := ih h.2 hi
      rw [show o + (i + 1) = o + 1 + i by omega]
      exact ⟨v, h1, h2, h3⟩

theorem RepOwn.mk {k : K} {c o : Nat} {cs : List Val}
    (h : ∀ i x, cs[i]? = some x → ∃ v, k.w.cell? ⟨c, o + i, none⟩ = some v ∧ k.w.frozen? ⟨c, o + i, none⟩ = false ∧ v.oneCell' = true ∧ Rep k x v) : RepOwn k c o cs := by
  induction cs generalizing o with
  | nil => simp [RepOwn]
  | cons y l ih =>
    simp only [RepOwn]
    refine ⟨h 0 y rfl, ih fun i x hi => ?_⟩
    have := h (i + 1) x (by simpa using hi)
    rwa [show o + (i + 1) = o + 1 + i by omega] at this

theorem RepMem.get {k : K} {c o : Nat} {cs : List Val} (h : RepMem k c o cs) {i : Nat} {x : Val} (hi : cs[i]? = some x) :
    k.own c = none ∧ ∃ v, k.w.cell? ⟨c, o + i, none⟩ = some v ∧ v.oneCell' = true ∧ Rep k x v := by
  induction cs generalizing o i with
  | nil => simp at hi
  | cons y l ih =>
    simp only [RepMem] at h
    cases i with
    | zero => simp only [List.getElem?_cons_zero, Option.some.injEq] at hi; subst hi; exact h.1
    | succ i =>
      simp only [List.getElem?_cons_succ] at hi
      obtain ⟨h0, v, h1, h3⟩ := ih h.2 hi
      rw [show o + (i + 1) = o + 1 + i by omega]
      exact ⟨h0, v, h1, h3⟩

theorem RepMem.mk {k : K} {c o : Nat} {cs : List Val}
    (h : ∀ i x, cs[i]? = some x → k.own c = none ∧ ∃ v, k.w.cell? ⟨c, o + i, none⟩ = some v ∧ v.oneCell' = true ∧ Rep k x v) : RepMem k c o cs := by
  induction cs generalizing o with
  | nil => simp [RepMem]
  | cons y l ih =>
    simp only [RepMem]
    refine ⟨h 0 y rfl, ih fun i x hi => ?_⟩
    have := h (i + 1) x (by simpa using hi)
    rwa [show o + (i + 1) = o + 1 + i by omega] at this

theorem RepAll.length {k : K} : ∀ {cs : List Val} {vs : List Value}, RepAll k cs vs → cs.length = vs.length
  | [], [], _ => rfl
  | _ :: _, _ :: _, h => by simp only [RepAll] at h; simp [RepAll.length h.2]
  | [], _ :: _, h => by simp [RepAll] at h
  | _ :: _, [], h => by simp [RepAll] at h

theorem RepAll.get {k : K} : ∀ {cs : List Val} {vs : List Value}, RepAll k cs vs → ∀ {i : Nat} {x : Val}, cs[i]? = some x → ∃ v, vs[i]? = some v ∧ Rep k x v
  | [], [], _, _, _, hi => by simp at hi
  | _ :: _, v :: _, h, 0, _, hi => by
    simp only [RepAll] at h
    simp only [List.getElem?_cons_zero, Option.some.injEq] at hi; subst hi
    exact ⟨v, rfl, h.1⟩
  | _ :: _, _ :: _, h, i + 1, _, hi => by
    simp only [RepAll] at h
    simpa using RepAll.get h.2 (i := i) (by simpa using hi)
  | [], _ :: _, h, _, _, _ => by simp [RepAll] at h
  | _ :: _, [], h, _, _, _ => by simp [RepAll] at h

theorem RepAll.mk {k : K} : ∀ {cs : List Val} {vs : List Value}, cs.length = vs.length → (∀ (i : Nat) (x : Val), cs[i]? = some x → ∃ v, vs[i]? = some v ∧ Rep k x v) → RepAll k cs vs
  | [], [], _, _ => by simp [RepAll]
  | x :: l, v :: m, hl, h => by
    simp only [RepAll]
    obtain ⟨v', h1, h2⟩ := h 0 x rfl
    simp only [List.getElem?_cons_zero, Option.some.injEq] at h1; subst h1
    exact ⟨h2, RepAll.mk (by simpa using hl) fun i y hi => by simpa using h (i + 1) y (by simpa using hi)⟩
  | [], _ :: _, hl, _ => by simp at hl
  | _ :: _, [], hl, _ => by simp at hl

theorem RepAll.append {k : K} {a b : List Val} {x y : List Value} (h : RepAll k a x) (h' : RepAll k b y) : RepAll k (a ++ b) (x ++ y) := by
  induction a generalizing x with
  | nil => cases x with
    | nil => simpa using h'
    | cons => simp [RepAll] at h
  | cons u l ih => cases x with
    | nil => simp [RepAll] at h
    | cons v m => simp only [RepAll, List.cons_append] at h ⊢; exact ⟨h.1, ih h.2⟩

theorem RepAll.drop {k : K} {a : List Val} {x : List Value} (h : RepAll k a x) (n : Nat) : RepAll k (a.drop n) (x.drop n) := by
  induction n generalizing a x with
  | zero => simpa using h
  | succ n ih => cases a with
    | nil => cases x with
      | nil => simp [RepAll]
      | cons => simp [RepAll] at h
    | cons u l => cases x with
      | nil => simp [RepAll] at h
      | cons v m => simp only [RepAll, List.drop_succ_cons] at h ⊢; exact ih h.2

theorem RepAll.take {k : K} {a : List Val} {x : List Value} (h : RepAll k a x) (n : Nat) : RepAll k (a.take n) (x.take n) := by
  induction n generalizing a x with
  | zero => simp [RepAll]
  | succ n ih => cases a with
    | nil => cases x with
      | nil => simp [RepAll]
      | cons => simp [RepAll] at h
    | cons u l => cases x with
      | nil => simp [RepAll] at h
      | cons v m => simp only [RepAll, List.take_succ_cons] at h ⊢; exact ⟨h.1, ih h.2⟩

/-- cells of a value -/
theorem Rep.cells {k : K} {x : Val} {v : Value} (h : Rep k x v) (hx : x.sto = true) :
    RepAll k x.cells v.cells.toList ∧ ∀ y ∈ v.cells.toList, y.oneCell' = true := by
  have one : ∀ {x : Val} {v : Value}, Rep k x v → x.cells = [x] → v.cells = #[v] → v.oneCell' = true → RepAll k x.cells v.cells.toList ∧ ∀ y ∈ v.cells.toList, y.oneCell' = true := by
    intro x v h h1 h2 h3
    rw [h1, h2]
    exact ⟨by simp only [RepAll]; exact ⟨h, trivial⟩, by simpa using h3⟩
  cases x with
  | agg cs => simp only [Rep] at h; obtain ⟨a, rfl, h, h1⟩ := h; exact ⟨h, h1⟩
  | unk => simp [Val.sto] at hx
  | lv => simp [Val.sto] at hx
  | loc => simp [Val.sto] at hx
  | tup => simp [Val.sto] at hx
  | bool b => have h' := h; simp only [Rep] at h; subst h; exact one h' rfl rfl rfl
  | int b => have h' := h; simp only [Rep] at h; subst h; exact one h' rfl rfl rfl
  | str b => have h' := h; simp only [Rep] at h; obtain ⟨_, rfl, _⟩ := h; exact one h' rfl rfl rfl
  | nilp => have h' := h; simp only [Rep] at h; subst h; exact one h' rfl rfl rfl
  | nilf => have h' := h; simp only [Rep] at h; subst h; exact one h' rfl rfl rfl
  | nilm => have h' := h; simp only [Rep] at h; subst h; exact one h' rfl rfl rfl
  | nili => have h' := h; simp only [Rep] at h; subst h; exact one h' rfl rfl rfl
  | ptr b off e =>
    have h' := h
    cases e with
    | none => simp only [Rep] at h; obtain ⟨_, rfl⟩ := h; exact one h' rfl rfl rfl
    | some e => simp only [Rep] at h; obtain ⟨_, _, _, _, rfl, _⟩ := h; exact one h' rfl rfl rfl
  | pin cs o => have h' := h; simp only [Rep] at h; obtain ⟨_, _, rfl, _⟩ := h; exact one h' rfl rfl rfl
  | sl b off len es e =>
    have h' := h
    cases e with
    | fix c => simp only [Rep] at h; obtain ⟨_, rfl, _⟩ := h; exact one h' rfl rfl rfl
    | flex e => simp only [Rep] at h; obtain ⟨_, _, _, _, _, rfl, _⟩ := h; exact one h' rfl rfl rfl
  | sli cs l q => have h' := h; simp only [Rep] at h; obtain ⟨_, _, rfl, _⟩ := h; exact one h' rfl rfl rfl
  | fn f cs => have h' := h; simp only [Rep] at h; obtain ⟨_, rfl, _⟩ := h; exact one h' rfl rfl rfl
  | yield l => have h' := h; simp only [Rep] at h; obtain ⟨_, rfl⟩ := h; exact one h' rfl rfl rfl
  | map b => have h' := h; simp only [Rep] at h; obtain ⟨_, rfl⟩ := h; exact one h' rfl rfl rfl
  | ifc t y => have h' := h; simp only [Rep] at h; obtain ⟨_, rfl, _⟩ := h; exact one h' rfl rfl rfl
end Go.V

/- A state of the interpreter in a world of the model; what a step may change. -/
namespace Go.V

def RepEnts (k : K) : List (Val × Val) → List MapEntry → Prop
  | [], [] => True
  | (a, b) :: l, e :: m => Rep k a e.key ∧ Rep k b e.val ∧ RepEnts k l m
  | _, _ => False

def BRep (k : K) (b : Nat) : Block → Prop
  | .cells cs fx => k.own (k.σ b).1 = some (.h b) ∧ RepOwn k (k.σ b).1 (k.σ b).2 cs ∧
      (fx = true → ∀ j, j < k.room b → (k.w.cell? ⟨(k.σ b).1, (k.σ b).2 + j, none⟩).isSome = true ∧ k.w.frozen? ⟨(k.σ b).1, (k.σ b).2 + j, none⟩ = false)
  | .map es => k.own (k.σ b).1 = some (.h b) ∧ ∃ ents clock, k.w.heap[(k.σ b).1]? = some (.map ents clock) ∧ RepEnts k es ents.toList

/-- a frame's slot -/
def SlotRep (k : K) (f : Nat) (g : G) (tmps : Array Value) (t : Nat) : Val → Prop
  | .lv cs => ∃ c, tmps.getD t undef = .pointer (some ⟨c, 0, none⟩) ∧ k.own c = some (.lv f t) ∧ RepOwn k c 0 cs
  | .loc s off => ∀ cs, g s = some (.lv cs) → ∃ c, tmps.getD s undef = .pointer (some ⟨c, 0, none⟩) ∧ tmps.getD t undef = .pointer (some ⟨c, off, none⟩)
  | v => Rep k v (tmps.getD t undef)

def FRep (k : K) (f : Nat) (g : G) (tmps : Array Value) : Prop :=
  ∀ t v, g t = some v → SlotRep k f g tmps t v

def loopState (r : LoopRec) : LoopState := if r.busy then (if r.begun then .busy else .ready) else if r.done then .done else .ready

structure LRep (E : Env) (k : K) (l : Nat) (r : LoopRec) : Prop where
  own : k.own (k.lo l) = some (.loop l)
  rep : ∃ tmps defers, k.w.heap[k.lo l]? = some (.loop { state := loopState r, pending := r.pending, fn := r.fn, tmps, params := r.params, assign := r.assign, body := r.body, defers }) ∧
    (r.busy = false → FRep k (k.fid l) r.fr.get tmps) ∧ tmps = k.tm l ∧ ∃ fn, E.P.funcs[r.fn]? = some fn ∧ tmps.size = fn.ntmps
  pend : r.done = false → r.pending = none

structure Sim (E : Env) (k : K) (S : St) : Prop where
  sh : ∀ b, k.sh b = (S.H[b]?).map Block.shape
  blk : ∀ b blk, S.H[b]? = some blk → BRep k b blk
  loop : ∀ l r, S.L[l]? = some r → LRep E k l r
  ownlt : ∀ c o, k.own c = some o → c < k.w.heap.size
  glob : ∀ g cs, E.glob g = some cs → RepMem k g 0 cs
  dead : ∀ (c l : Nat), k.own c = some (.loop l) → l < S.L.length

/-- what a call may touch of what there was -/
def touch (k : K) (L : List LoopRec) (c : Nat) : Prop :=
  match k.own c with
  | some (.h _) | some (.loop _) => True
  | some (.lv f _) => ∃ (l : Nat) (r : LoopRec), L[l]? = some r ∧ r.busy = false ∧ k.fid l = f
  | _ => False

/-- what a frame may touch -/
def touchF (k : K) (L : List LoopRec) (f : Nat) (c : Nat) : Prop :=
  touch k L c ∨ ∃ t, k.own c = some (.lv f t)

structure Evo (k k' : K) (T : Nat → Prop) : Prop where
  le : k.Le k'
  os : k'.w.os = k.w.os
  tape : k'.w.tape = k.w.tape
  output : k'.w.output = k.w.output
  size : k.w.heap.size ≤ k'.w.heap.size
  keep : ∀ c, c < k.w.heap.size → ¬ T c → k'.own c = k.own c ∧ k'.w.heap[c]? = k.w.heap[c]?

/-- frames' numbers lie below d -/
def Bound (k : K) (d : Nat) : Prop := ∀ c, (∀ f t, k.own c = some (.lv f t) → f < d) ∧ (∀ f, k.own c = some (.mark f) → f < d)

/-- the loops are the same ones, as busy as before -/
def LoopEq (L L' : List LoopRec) : Prop := L'.length = L.length ∧ ∀ (l : Nat) (r r' : LoopRec), L[l]? = some r → L'[l]? = some r' → r'.busy = r.busy

theorem LoopEq.refl (L : List LoopRec) : LoopEq L L := ⟨rfl, fun _ _ _ h h' => by rw [h] at h'; simp only [Option.some.injEq] at h'; rw [h']⟩
theorem LoopEq.trans {a b c : List LoopRec} (h : LoopEq a b) (h' : LoopEq b c) : LoopEq a c := by
  refine ⟨h'.1.trans h.1, fun l r r' hr hr' => ?_⟩
  have hl : l < b.length := by
    have := (List.getElem?_eq_some_iff.1 hr').1
    rw [h'.1] at this; exact this
  obtain ⟨q, hq⟩ : ∃ q, b[l]? = some q := ⟨_, List.getElem?_eq_getElem hl⟩
  exact (h'.2 l q r' hq hr').trans (h.2 l r q hr hq)

theorem touch.eq {k k' : K} {L L' : List LoopRec} (hL : LoopEq L L') (he : ∀ (l : Nat) (r : LoopRec), L[l]? = some r → k'.fid l = k.fid l) {c : Nat} (ho : k'.own c = k.own c) (h : touch k' L' c) : touch k L c := by
  unfold touch at h ⊢
  rw [ho] at h
  cases hx : k.own c with
  | none => rw [hx] at h; exact h
  | some o =>
    rw [hx] at h
    cases o with
    | h b => trivial
    | loop l => trivial
    | mark f => exact h
    | lv f t =>
      obtain ⟨l, r', hr', hb, hf⟩ := h
      have hl : l < L.length := by rw [← hL.1]; exact (List.getElem?_eq_some_iff.1 hr').1
      obtain ⟨q, hq⟩ : ∃ q, L[l]? = some q := ⟨_, List.getElem?_eq_getElem hl⟩
      exact ⟨l, q, hq, by rw [← hL.2 l q r' hq hr']; exact hb, by rw [← he l q hq]; exact hf⟩

theorem Evo.refl (k : K) (T : Nat → Prop) : Evo k k T := ⟨.refl k, rfl, rfl, rfl, Nat.le_refl _, fun _ _ _ => ⟨rfl, rfl⟩⟩

theorem Evo.trans {a b c : K} {T T' : Nat → Prop} (h : Evo a b T) (h' : Evo b c T') (hT : ∀ x, x < a.w.heap.size → b.own x = a.own x → T' x → T x) : Evo a c T where
  le := h.le.trans h'.le h.size
  os := h'.os.trans h.os
  tape := h'.tape.trans h.tape
  output := h'.output.trans h.output
  size := Nat.le_trans h.size h'.size
  keep := by
    intro x hx hn
    obtain ⟨h1, h2⟩ := h.keep x hx hn
    obtain ⟨h3, h4⟩ := h'.keep x (Nat.lt_of_lt_of_le hx h.size) (fun ht => hn (hT x hx h1 ht))
    exact ⟨h3.trans h1, h4.trans h2⟩

theorem Evo.weak {a b : K} {T T' : Nat → Prop} (h : Evo a b T) (hT : ∀ x, T x → T' x) : Evo a b T' :=
  { h with keep := fun c hc hn => h.keep c hc fun ht => hn (hT c ht) }

/-- a frame's slots stay while its own locals do -/
theorem FRep.mono {k k' : K} (h : k.Le k') {f : Nat} {g : G} {tmps : Array Value}
    (hl : ∀ c t, k.own c = some (.lv f t) → k'.own c = k.own c ∧ k'.w.heap[c]? = k.w.heap[c]?) (r : FRep k f g tmps) : FRep k' f g tmps := by
  intro t v hv
  have := r t v hv
  cases v with
  | lv cs =>
    simp only [SlotRep] at this ⊢
    obtain ⟨c, h1, h2, h3⟩ := this
    obtain ⟨h4, h5⟩ := hl c t h2
    exact ⟨c, h1, h4.trans h2, h3.mono h h5 0 cs⟩
  | loc s off => exact this
  | _ => exact Rep.mono h _ _ this

theorem RepEnts.mono {k k' : K} (h : k.Le k') : ∀ {l : List (Val × Val)} {m : List MapEntry}, RepEnts k l m → RepEnts k' l m
  | [], [], _ => by simp [RepEnts]
  | (a, b) :: l, e :: m, r => by
    simp only [RepEnts] at r ⊢
    exact ⟨r.1.mono h, r.2.1.mono h, RepEnts.mono h r.2.2⟩
  | [], _ :: _, r => by simp [RepEnts] at r
  | _ :: _, [], r => by simp [RepEnts] at r

theorem BRep.mono {k k' : K} (h : k.Le k') {b : Nat} {blk : Block} (hs : k'.σ b = k.σ b) (hm : k'.room b = k.room b)
    (ho : k'.own (k.σ b).1 = k.own (k.σ b).1) (hw : k'.w.heap[(k.σ b).1]? = k.w.heap[(k.σ b).1]?) (r : BRep k b blk) : BRep k' b blk := by
  cases blk with
  | cells cs fx =>
    simp only [BRep] at r ⊢
    rw [hs, hm]
    refine ⟨ho.trans r.1, r.2.1.mono h hw _ _, fun e j hj => ?_⟩
    rw [cell?_heap hw, frozen?_heap hw]
    exact r.2.2 e j hj
  | map es =>
    simp only [BRep] at r ⊢
    rw [hs]
    obtain ⟨r1, ents, clock, r2, r3⟩ := r
    exact ⟨ho.trans r1, ents, clock, hw.trans r2, r3.mono h⟩

/-- The world goes on where nothing is owned: Sim stays. -/
theorem Sim.world {E : Env} {k k' : K} {S : St} (h : Sim E k S) (hσ : k'.σ = k.σ) (hlo : k'.lo = k.lo) (hsh : k'.sh = k.sh) (hown : k'.own = k.own) (hlp : k'.lp = k.lp) (hroom : k'.room = k.room)
    (hsz : k.w.heap.size ≤ k'.w.heap.size) (hw : ∀ c, c < k.w.heap.size → k'.w.heap[c]? = k.w.heap[c]?) : k.Le k' ∧ Sim E k' S := by
  have hle : k.Le k' := ⟨fun b s hb => .inl ⟨by rw [hsh]; exact hb, by rw [hσ], by rw [hroom]⟩, fun l hl => ⟨by rw [hlo], by rw [hown]; exact hl, by rw [hlp]⟩,
    fun c hc hn => ⟨by rw [hown]; exact hn, hw c hc⟩⟩
  have own_ : ∀ c o, k.own c = some o → k'.w.heap[c]? = k.w.heap[c]? := fun c o ho => hw c (h.ownlt c o ho)
  refine ⟨hle, ⟨fun b => by rw [hsh]; exact h.sh b, ?_, ?_, ?_, ?_, fun c l hc => h.dead c l (by rw [hown] at hc; exact hc)⟩⟩
  · intro b blk hb
    have r := h.blk b blk hb
    have ho : k.own (k.σ b).1 = some (.h b) := by cases blk <;> exact r.1
    exact r.mono hle (by rw [hσ]) (by rw [hroom]) (by rw [hown]) (own_ _ _ ho)
  · intro l r hr
    have q := h.loop l r hr
    obtain ⟨tmps, defers, q1, q2, q3, q4⟩ := q.rep
    refine ⟨by rw [hlo, hown]; exact q.own, ⟨tmps, defers, by rw [hlo, own_ _ _ q.own]; exact q1, ?_, by unfold K.tm; rw [hlp]; exact q3, q4⟩, q.pend⟩
    intro hb
    have hfid : k'.fid = k.fid := by funext l; unfold K.fid; rw [hlp]
    rw [hfid]
    exact (q2 hb).mono hle fun c t hc => ⟨by rw [hown], own_ _ _ hc⟩
  · intro c o ho
    rw [hown] at ho
    exact Nat.lt_of_lt_of_le (h.ownlt c o ho) hsz
  · intro g cs hg
    exact (h.glob g cs hg).mono hle
end Go.V

/- The ways in which a state and its world change together. -/
namespace Go.V

theorem BRep.own {k : K} {b : Nat} {blk : Block} (h : BRep k b blk) : k.own (k.σ b).1 = some (.h b) := by cases blk <;> exact h.1

/-- one block of the world has other contents -/
structure But (k k' : K) (c0 : Nat) : Prop where
  σ : k'.σ = k.σ
  lo : k'.lo = k.lo
  sh : k'.sh = k.sh
  own : k'.own = k.own
  lp : k'.lp = k.lp
  room : k'.room = k.room
  size : k'.w.heap.size = k.w.heap.size
  os : k'.w.os = k.w.os
  tape : k'.w.tape = k.w.tape
  output : k'.w.output = k.w.output
  heap : ∀ c, c ≠ c0 → k'.w.heap[c]? = k.w.heap[c]?

theorem But.fid {k k' : K} {c0 : Nat} (h : But k k' c0) : k'.fid = k.fid := by funext l; unfold K.fid; rw [h.lp]
theorem But.tm {k k' : K} {c0 : Nat} (h : But k k' c0) : k'.tm = k.tm := by funext l; unfold K.tm; rw [h.lp]

theorem But.le {k k' : K} {c0 : Nat} (h : But k k' c0) (ho : k.own c0 ≠ none) : k.Le k' where
  sh := fun b s hb => .inl ⟨by rw [h.sh]; exact hb, by rw [h.σ], by rw [h.room]⟩
  loop := fun l hl => ⟨by rw [h.lo], by rw [h.own]; exact hl, by rw [h.lp]⟩
  inl := fun c _ hn => ⟨by rw [h.own]; exact hn, h.heap c fun e => ho (e ▸ hn)⟩

theorem But.evo {k k' : K} {c0 : Nat} (h : But k k' c0) (ho : k.own c0 ≠ none) {T : Nat → Prop} (hT : T c0) : Evo k k' T where
  le := h.le ho
  os := h.os
  tape := h.tape
  output := h.output
  size := by rw [h.size]; exact Nat.le_refl _
  keep := fun c _ hn => ⟨by rw [h.own], h.heap c fun e => hn (e ▸ hT)⟩

/-- a block of the clean heap is written -/
theorem Sim.setBlock {E : Env} {k k' : K} {S : St} {b : Nat} {blk blk' : Block} (h : Sim E k S) (hb : S.H[b]? = some blk)
    (hbut : But k k' (k.σ b).1) (hs : blk'.shape = blk.shape) (hn : BRep k' b blk') : Sim E k' { S with H := S.H.set b blk' } := by
  have hown := (h.blk b blk hb).own
  have hle := hbut.le (by rw [hown]; simp)
  have hlt : b < S.H.length := (List.getElem?_eq_some_iff.1 hb).1
  refine ⟨?_, ?_, ?_, ?_, ?_, fun c l hc => h.dead c l (by rw [hbut.own] at hc; exact hc)⟩
  · intro x
    rw [hbut.sh, h.sh x]
    simp only [List.getElem?_set]
    by_cases e : b = x
    · subst e; rw [if_pos rfl, if_pos hlt, hb]; simp [hs]
    · simp [e]
  · intro x y hx
    simp only [List.getElem?_set] at hx
    by_cases e : b = x
    · subst e
      simp only [hlt, if_true, Option.some.injEq] at hx
      subst hx; exact hn
    · simp only [e, if_false] at hx
      have r := h.blk x y hx
      have ne : (k.σ x).1 ≠ (k.σ b).1 := by
        intro e1
        have := r.own
        rw [e1, hown] at this
        simp only [Option.some.injEq, Own.h.injEq] at this
        exact e this
      exact r.mono hle (by rw [hbut.σ]) (by rw [hbut.room]) (by rw [hbut.own]) (hbut.heap _ ne)
  · intro l r hr
    have q := h.loop l r hr
    obtain ⟨tmps, defers, q1, q2, q3, q4⟩ := q.rep
    have ne : k.lo l ≠ (k.σ b).1 := by intro e1; have := q.own; rw [e1, hown] at this; simp at this
    refine ⟨by rw [hbut.lo, hbut.own]; exact q.own, ⟨tmps, defers, by rw [hbut.lo, hbut.heap _ ne]; exact q1, ?_, by rw [hbut.tm]; exact q3, q4⟩, q.pend⟩
    intro hbz
    rw [hbut.fid]
    refine (q2 hbz).mono hle fun c t hc => ⟨by rw [hbut.own], hbut.heap c ?_⟩
    intro e1; rw [e1, hown] at hc; simp at hc
  · intro c o ho
    rw [hbut.own] at ho
    rw [hbut.size]
    exact h.ownlt c o ho
  · intro g cs hg
    exact (h.glob g cs hg).mono hle

/-- a local of frame f is written -/
theorem Sim.setLocal {E : Env} {k k' : K} {S : St} {f t c0 : Nat} (h : Sim E k S) (ho : k.own c0 = some (.lv f t))
    (hbusy : ∀ (l : Nat) (r : LoopRec), S.L[l]? = some r → k.fid l = f → r.busy = true)
    (hbut : But k k' c0) : Sim E k' S := by
  have hle := hbut.le (by rw [ho]; simp)
  refine ⟨?_, ?_, ?_, ?_, ?_, fun c l hc => h.dead c l (by rw [hbut.own] at hc; exact hc)⟩
  · intro x; rw [hbut.sh]; exact h.sh x
  · intro x y hx
    have r := h.blk x y hx
    have ne : (k.σ x).1 ≠ c0 := by intro e1; have := r.own; rw [e1, ho] at this; simp at this
    exact r.mono hle (by rw [hbut.σ]) (by rw [hbut.room]) (by rw [hbut.own]) (hbut.heap _ ne)
  · intro l r hr
    have q := h.loop l r hr
    obtain ⟨tmps, defers, q1, q2, q3, q4⟩ := q.rep
    have ne : k.lo l ≠ c0 := by intro e1; have := q.own; rw [e1, ho] at this; simp at this
    refine ⟨by rw [hbut.lo, hbut.own]; exact q.own, ⟨tmps, defers, by rw [hbut.lo, hbut.heap _ ne]; exact q1, ?_, by rw [hbut.tm]; exact q3, q4⟩, q.pend⟩
    intro hbz
    rw [hbut.fid]
    refine (q2 hbz).mono hle fun c t' hc => ⟨by rw [hbut.own], hbut.heap c ?_⟩
    intro e1
    rw [e1, ho] at hc
    simp only [Option.some.injEq, Own.lv.injEq] at hc
    have := hbusy l r hr hc.1.symm
    rw [hbz] at this; simp at this
  · intro c o ho'
    rw [hbut.own] at ho'
    rw [hbut.size]
    exact h.ownlt c o ho'
  · intro g cs hg
    exact (h.glob g cs hg).mono hle

/-- one new block of the world, and whose it is -/
structure New (k k' : K) (o : Option Own) : Prop where
  lo : k'.lo = k.lo
  own : k'.own = fun c => if c = k.w.heap.size then o else k.own c
  lp : k'.lp = k.lp
  size : k'.w.heap.size = k.w.heap.size + 1
  os : k'.w.os = k.w.os
  tape : k'.w.tape = k.w.tape
  output : k'.w.output = k.w.output
  heap : ∀ c, c < k.w.heap.size → k'.w.heap[c]? = k.w.heap[c]?

theorem New.fid {k k' : K} {o : Option Own} (h : New k k' o) : k'.fid = k.fid := by funext l; unfold K.fid; rw [h.lp]
theorem New.tm {k k' : K} {o : Option Own} (h : New k k' o) : k'.tm = k.tm := by funext l; unfold K.tm; rw [h.lp]

theorem New.own_old {k k' : K} {o : Option Own} (h : New k k' o) {c : Nat} (hc : c < k.w.heap.size) : k'.own c = k.own c := by
  rw [h.own]; simp [Nat.ne_of_lt hc]

theorem New.le {E : Env} {S : St} {k k' : K} {o : Option Own} (hS : Sim E k S) (h : New k k' o)
    (hs : ∀ b s, k.sh b = some s → k'.sh b = some s ∧ k'.σ b = k.σ b ∧ k'.room b = k.room b) : k.Le k' where
  sh := fun b s hb => .inl (hs b s hb)
  loop := fun l hl => ⟨by rw [h.lo], by rw [h.own_old (hS.ownlt _ _ hl)]; exact hl, by rw [h.lp]⟩
  inl := fun c hc hn => ⟨by rw [h.own_old hc]; exact hn, h.heap c hc⟩

theorem New.evo {E : Env} {S : St} {k k' : K} {o : Option Own} (hS : Sim E k S) (h : New k k' o)
    (hs : ∀ b s, k.sh b = some s → k'.sh b = some s ∧ k'.σ b = k.σ b ∧ k'.room b = k.room b) (T : Nat → Prop) : Evo k k' T where
  le := h.le hS hs
  os := h.os
  tape := h.tape
  output := h.output
  size := by rw [h.size]; omega
  keep := fun c hc _ => ⟨h.own_old hc, h.heap c hc⟩

theorem New.dead {E : Env} {S : St} {k k' : K} {o : Option Own} (hS : Sim E k S) (h : New k k' o) (hno : ∀ l, o ≠ some (.loop l)) :
    ∀ (c l : Nat), k'.own c = some (.loop l) → l < S.L.length := by
  intro c l hc
  rw [h.own] at hc
  by_cases e : c = k.w.heap.size
  · simp only [e, if_true] at hc; exact absurd hc (hno l)
  · simp only [e, if_false] at hc; exact hS.dead c l hc

/-- a new block that is no block of the clean heap -/
theorem Sim.new {E : Env} {k k' : K} {S : St} {o : Option Own} (hS : Sim E k S) (h : New k k' o) (hσ : k'.σ = k.σ) (hsh : k'.sh = k.sh) (hroom : k'.room = k.room) (hno : ∀ l, o ≠ some (.loop l) := by simp) : Sim E k' S := by
  have hle := h.le hS (fun b s hb => ⟨by rw [hsh]; exact hb, by rw [hσ], by rw [hroom]⟩)
  refine ⟨fun x => by rw [hsh]; exact hS.sh x, ?_, ?_, ?_, fun g cs hg => (hS.glob g cs hg).mono hle, h.dead hS hno⟩
  · intro x y hx
    have r := hS.blk x y hx
    have lt := hS.ownlt _ _ r.own
    exact r.mono hle (by rw [hσ]) (by rw [hroom]) (h.own_old lt) (h.heap _ lt)
  · intro l r hr
    have q := hS.loop l r hr
    obtain ⟨tmps, defers, q1, q2, q3, q4⟩ := q.rep
    have lt := hS.ownlt _ _ q.own
    refine ⟨by rw [h.lo, h.own_old lt]; exact q.own, ⟨tmps, defers, by rw [h.lo, h.heap _ lt]; exact q1, ?_, by rw [h.tm]; exact q3, q4⟩, q.pend⟩
    intro hbz
    rw [h.fid]
    exact (q2 hbz).mono hle fun c t' hc => ⟨h.own_old (hS.ownlt _ _ hc), h.heap c (hS.ownlt _ _ hc)⟩
  · intro c x hx
    rw [h.own] at hx
    rw [h.size]
    by_cases e : c = k.w.heap.size
    · omega
    · simp only [e, if_false] at hx; have := hS.ownlt c x hx; omega

/-- a new block of the clean heap -/
theorem Sim.push {E : Env} {k k' : K} {S : St} {blk : Block} (hS : Sim E k S) (h : New k k' (some (.h S.H.length)))
    (hσ : k'.σ = fun b => if b = S.H.length then (k.w.heap.size, 0) else k.σ b)
    (hsh : k'.sh = fun b => if b = S.H.length then some blk.shape else k.sh b) (hroom : ∀ b, b ≠ S.H.length → k'.room b = k.room b) (hn : BRep k' S.H.length blk) :
    k.Le k' ∧ Sim E k' (push S blk) := by
  have hsn : k.sh S.H.length = none := by rw [hS.sh]; simp
  have hold : ∀ b s, k.sh b = some s → k'.sh b = some s ∧ k'.σ b = k.σ b ∧ k'.room b = k.room b := by
    intro b s hb
    have ne : b ≠ S.H.length := by intro e; rw [e, hsn] at hb; simp at hb
    rw [hsh, hσ, hroom b ne]; simp [ne, hb]
  have hle := h.le hS hold
  refine ⟨hle, ⟨?_, ?_, ?_, ?_, fun g cs hg => (hS.glob g cs hg).mono hle, fun c l hc => h.dead (S := S) hS (by simp) c l hc⟩⟩
  · intro b
    rw [hsh]
    show _ = Option.map Block.shape (S.H ++ [blk])[b]?
    by_cases e : b = S.H.length
    · simp [e]
    · simp only [e, if_false]
      rw [hS.sh b]
      rcases Nat.lt_or_ge b S.H.length with lt | ge
      · rw [List.getElem?_append_left lt]
      · rw [List.getElem?_eq_none ge, List.getElem?_eq_none (by simp; omega)]
  · intro b y hb
    replace hb : (S.H ++ [blk])[b]? = some y := hb
    by_cases e : b = S.H.length
    · subst e
      simp at hb; subst hb; exact hn
    · have lt : b < S.H.length := by
        have := (List.getElem?_eq_some_iff.1 hb).1
        simp at this; omega
      rw [List.getElem?_append_left lt] at hb
      have r := hS.blk b y hb
      have lt' := hS.ownlt _ _ r.own
      exact r.mono hle (by rw [hσ]; simp [e]) (hroom b e) (h.own_old lt') (h.heap _ lt')
  · intro l r hr
    have q := hS.loop l r hr
    obtain ⟨tmps, defers, q1, q2, q3, q4⟩ := q.rep
    have lt := hS.ownlt _ _ q.own
    refine ⟨by rw [h.lo, h.own_old lt]; exact q.own, ⟨tmps, defers, by rw [h.lo, h.heap _ lt]; exact q1, ?_, by rw [h.tm]; exact q3, q4⟩, q.pend⟩
    intro hbz
    rw [h.fid]
    exact (q2 hbz).mono hle fun c t' hc => ⟨h.own_old (hS.ownlt _ _ hc), h.heap c (hS.ownlt _ _ hc)⟩
  · intro c x hx
    rw [h.own] at hx
    rw [h.size]
    by_cases e : c = k.w.heap.size
    · omega
    · simp only [e, if_false] at hx; have := hS.ownlt c x hx; omega

/-- a grown block lies elsewhere -/
theorem Sim.regrow {E : Env} {k k' : K} {S : St} {b : Nat} {cs cs' : List Val} (hS : Sim E k S) (hb : S.H[b]? = some (.cells cs true))
    (h : New k k' (some (.h b))) (hσ : k'.σ = fun x => if x = b then (k.w.heap.size, 0) else k.σ x)
    (hsh : k'.sh = fun x => if x = b then some (.cells true cs'.length) else k.sh x) (hroom : ∀ x, x ≠ b → k'.room x = k.room x) (hlen : cs.length < cs'.length)
    (hn : BRep k' b (.cells cs' true)) : k.Le k' ∧ Sim E k' { S with H := S.H.set b (.cells cs' true) } := by
  have hlt : b < S.H.length := (List.getElem?_eq_some_iff.1 hb).1
  have hle : k.Le k' := by
    refine ⟨?_, fun l hl => ⟨by rw [h.lo], by rw [h.own_old (hS.ownlt _ _ hl)]; exact hl, by rw [h.lp]⟩, fun c hc hn => ⟨by rw [h.own_old hc]; exact hn, h.heap c hc⟩⟩
    intro x s hx
    by_cases e : x = b
    · subst e
      rw [hS.sh, hb] at hx
      simp only [Option.map_some, Block.shape, Option.some.injEq] at hx
      exact .inr ⟨cs.length, cs'.length, hx.symm, by rw [hsh]; simp, hlen⟩
    · exact .inl ⟨by rw [hsh]; simp [e, hx], by rw [hσ]; simp [e], hroom x e⟩
  refine ⟨hle, ⟨?_, ?_, ?_, ?_, fun g cs hg => (hS.glob g cs hg).mono hle, fun c l hc => h.dead (S := S) hS (by simp) c l hc⟩⟩
  · intro x
    rw [hsh]
    simp only [List.getElem?_set]
    by_cases e : b = x
    · subst e; simp [hlt, Block.shape]
    · simp only [e, if_false, Ne.symm e]
      exact hS.sh x
  · intro x y hx
    simp only [List.getElem?_set] at hx
    by_cases e : b = x
    · subst e
      simp only [hlt, if_true, Option.some.injEq] at hx
      subst hx; exact hn
    · simp only [e, if_false] at hx
      have r := hS.blk x y hx
      have lt' := hS.ownlt _ _ r.own
      exact r.mono hle (by rw [hσ]; simp [Ne.symm e]) (hroom x (Ne.symm e)) (h.own_old lt') (h.heap _ lt')
  · intro l r hr
    have q := hS.loop l r hr
    obtain ⟨tmps, defers, q1, q2, q3, q4⟩ := q.rep
    have lt := hS.ownlt _ _ q.own
    refine ⟨by rw [h.lo, h.own_old lt]; exact q.own, ⟨tmps, defers, by rw [h.lo, h.heap _ lt]; exact q1, ?_, by rw [h.tm]; exact q3, q4⟩, q.pend⟩
    intro hbz
    rw [h.fid]
    exact (q2 hbz).mono hle fun c t' hc => ⟨h.own_old (hS.ownlt _ _ hc), h.heap c (hS.ownlt _ _ hc)⟩
  · intro c x hx
    rw [h.own] at hx
    rw [h.size]
    by_cases e : c = k.w.heap.size
    · omega
    · simp only [e, if_false] at hx; have := hS.ownlt c x hx; omega

/-- a grown block is longer by now, where it lies -/
theorem Sim.extend {E : Env} {k k' : K} {S : St} {b : Nat} {cs cs' : List Val} (hS : Sim E k S) (hb : S.H[b]? = some (.cells cs true))
    (h : But k { k' with sh := k.sh } (k.σ b).1) (hsh : k'.sh = fun x => if x = b then some (.cells true cs'.length) else k.sh x) (hlen : cs.length < cs'.length)
    (hn : BRep k' b (.cells cs' true)) : k.Le k' ∧ Sim E k' { S with H := S.H.set b (.cells cs' true) } := by
  have hlt : b < S.H.length := (List.getElem?_eq_some_iff.1 hb).1
  have hown := (hS.blk b _ hb).own
  have hσ : k'.σ = k.σ := h.σ
  have hlo : k'.lo = k.lo := h.lo
  have hw : k'.own = k.own := h.own
  have hfid : k'.fid = k.fid := h.fid
  have htm : k'.tm = k.tm := h.tm
  have hroom : k'.room = k.room := h.room
  have hheap : ∀ c, c ≠ (k.σ b).1 → k'.w.heap[c]? = k.w.heap[c]? := h.heap
  have hle : k.Le k' := by
    refine ⟨?_, fun l hl => ⟨by rw [hlo], by rw [hw]; exact hl, congrFun h.lp l⟩, fun c hc hn => ⟨by rw [hw]; exact hn, hheap c (by rintro rfl; rw [hown] at hn; simp at hn)⟩⟩
    intro x s hx
    by_cases e : x = b
    · subst e
      rw [hS.sh, hb] at hx
      simp only [Option.map_some, Block.shape, Option.some.injEq] at hx
      exact .inr ⟨cs.length, cs'.length, hx.symm, by rw [hsh]; simp, hlen⟩
    · exact .inl ⟨by rw [hsh]; simp [e, hx], by rw [hσ], by rw [hroom]⟩
  refine ⟨hle, ⟨?_, ?_, ?_, ?_, fun g cs hg => (hS.glob g cs hg).mono hle, fun c l hc => hS.dead c l (by rw [hw] at hc; exact hc)⟩⟩
  · intro x
    rw [hsh]
    simp only [List.getElem?_set]
    by_cases e : b = x
    · subst e; simp [hlt, Block.shape]
    · simp only [e, if_false, Ne.symm e]
      exact hS.sh x
  · intro x y hx
    simp only [List.getElem?_set] at hx
    by_cases e : b = x
    · subst e
      simp only [hlt, if_true, Option.some.injEq] at hx
      subst hx; exact hn
    · simp only [e, if_false] at hx
      have r := hS.blk x y hx
      have ne : (k.σ x).1 ≠ (k.σ b).1 := by
        intro e1
        have := r.own
        rw [e1, hown] at this
        simp only [Option.some.injEq, Own.h.injEq] at this
        exact e this
      exact r.mono hle (by rw [hσ]) (by rw [hroom]) (by rw [hw]) (hheap _ ne)
  · intro l r hr
    have q := hS.loop l r hr
    obtain ⟨tmps, defers, q1, q2, q3, q4⟩ := q.rep
    have ne : k.lo l ≠ (k.σ b).1 := by intro e1; have := q.own; rw [e1, hown] at this; simp at this
    refine ⟨by rw [hlo, hw]; exact q.own, ⟨tmps, defers, by rw [hlo, hheap _ ne]; exact q1, ?_, by rw [htm]; exact q3, q4⟩, q.pend⟩
    intro hbz
    rw [hfid]
    refine (q2 hbz).mono hle fun c t hc => ⟨by rw [hw], hheap c ?_⟩
    rintro rfl; rw [hown] at hc; simp at hc
  · intro c o ho
    rw [hw] at ho
    have : k'.w.heap.size = k.w.heap.size := h.size
    rw [this]
    exact hS.ownlt c o ho
end Go.V

/- Operands, places, what an operation has to show. -/
namespace Go.V

def evT (tmps : Array Value) : Operand → Value
  | .tmp t => tmps.getD t undef
  | .const v => v
  | .global g => .pointer (some ⟨g, 0, none⟩)
  | .func f => .func (.func f) #[] #[]

theorem ofConst1_rep {k : K} {c : Value} {v : Val} (h : ofConst1 c = some v) : Rep k v c ∧ c.oneCell' = true := by
  unfold ofConst1 at h
  split at h <;> simp at h <;> subst h <;> simp [Rep, Value.oneCell']

theorem ofConsts_rep {k : K} : ∀ {l : List Value} {vs : List Val}, ofConsts l = some vs → RepAll k vs l ∧ ∀ x ∈ l, x.oneCell' = true
  | [], vs, h => by simp only [ofConsts, Option.some.injEq] at h; subst h; simp [RepAll]
  | c :: l, vs, h => by
    simp only [ofConsts] at h
    split at h
    · rename_i a b ha hb
      simp only [Option.some.injEq] at h; subst h
      obtain ⟨h1, h2⟩ := ofConst1_rep (k := k) ha
      obtain ⟨h3, h4⟩ := ofConsts_rep hb
      simp only [RepAll]
      exact ⟨⟨h1, h3⟩, by simpa using ⟨h2, h4⟩⟩
    · simp at h

theorem ofConst_rep {k : K} {c : Value} {v : Val} (h : ofConst c = some v) : Rep k v c := by
  unfold ofConst at h
  split at h
  · rename_i cs
    simp only [Option.map_eq_some_iff] at h
    obtain ⟨vs, h, rfl⟩ := h
    obtain ⟨h1, h2⟩ := ofConsts_rep (k := k) h
    simp only [Rep]
    exact ⟨cs, rfl, h1, h2⟩
  · exact (ofConst1_rep h).1

theorem ofConst_sto {c : Value} {v : Val} (h : ofConst c = some v) : v.sto = true := by
  unfold ofConst at h
  split at h
  · simp only [Option.map_eq_some_iff] at h; obtain ⟨vs, h, rfl⟩ := h; rfl
  · unfold ofConst1 at h; split at h <;> simp at h <;> subst h <;> rfl

section
variable {E : Env} {k : K} {S : St} {f : Nat} {g : G} {tmps : Array Value}

theorem FRep.first (hF : FRep k f g tmps) {t : Nat} {v : Val} (h : g t = some v) (hv : v.first = true) : Rep k v (tmps.getD t undef) := by
  have := hF t v h
  cases v <;> simp_all [SlotRep, Val.first]

theorem raw_rep (hS : Sim E k S) (hF : FRep k f g tmps) {o : Operand} {v : Val} (h : raw E g o = some v) (hv : v.first = true) : Rep k v (evT tmps o) := by
  cases o with
  | tmp t => exact hF.first h hv
  | const c => exact ofConst_rep h
  | global x =>
    simp only [raw, Option.map_eq_some_iff] at h
    obtain ⟨cs, h, rfl⟩ := h
    simp only [Rep, evT]
    exact ⟨x, 0, rfl, hS.glob x cs h⟩
  | func x =>
    simp only [raw, Option.some.injEq] at h; subst h
    simp only [Rep, evT]
    exact ⟨#[], rfl, by simp [RepAll]⟩

theorem ev_rep (hS : Sim E k S) (hF : FRep k f g tmps) {o : Operand} {v : Val} (h : ev E g o = some v) : Rep k v (evT tmps o) ∧ v.first = true := by
  unfold ev at h
  split at h
  · rename_i x hx
    split at h
    · rename_i hf
      simp only [Option.some.injEq] at h; subst h
      exact ⟨raw_rep hS hF hx hf, hf⟩
    · simp at h
  · simp at h

theorem evs_rep (hS : Sim E k S) (hF : FRep k f g tmps) : ∀ {l : List Operand} {vs : List Val}, evs E g l = some vs → RepAll k vs (l.map (evT tmps))
  | [], vs, h => by simp only [evs, Option.some.injEq] at h; subst h; simp [RepAll]
  | o :: l, vs, h => by
    simp only [evs] at h
    split at h
    · rename_i a b ha hb
      simp only [Option.some.injEq] at h; subst h
      simp only [List.map_cons, RepAll]
      exact ⟨(ev_rep hS hF ha).1, evs_rep hS hF hb⟩
    · simp at h

/-- a place, as a value of the model -/
def PlaceRep (k : K) (g : G) (tmps : Array Value) : Place → Value → Prop
  | .inl cs off, v => ∃ c o, v = .pointer (some ⟨c, o + off, none⟩) ∧ RepMem k c o cs
  | .lcl t off, v => ∀ cs, g t = some (.lv cs) → ∃ c, tmps.getD t undef = .pointer (some ⟨c, 0, none⟩) ∧ v = .pointer (some ⟨c, off, none⟩)
  | .hp b off e, v => Rep k (.ptr b off e) v

theorem place_rep (hS : Sim E k S) (hF : FRep k f g tmps) {o : Operand} {p : Place} (h : place E g o = some p) : PlaceRep k g tmps p (evT tmps o) := by
  unfold place at h
  split at h
  · rename_i t
    split at h <;> simp at h <;> subst h
    · rename_i cs hg
      intro cs' hcs
      obtain ⟨c, h1, h2, h3⟩ := hF t _ hg
      exact ⟨c, h1, h1⟩
    · rename_i s off hg
      exact hF t _ hg
    · rename_i cs off hg
      have := hF t _ hg
      simpa only [SlotRep, Rep, PlaceRep, evT] using this
    · rename_i b off e hg
      exact hF t _ hg
  · rename_i x
    simp only [Option.map_eq_some_iff] at h
    obtain ⟨cs, h, rfl⟩ := h
    exact ⟨x, 0, rfl, hS.glob x cs h⟩
  · simp at h

/-- cells that can be read -/
def CellsRep (k : K) (c o : Nat) (cs : List Val) : Prop :=
  ∀ (i : Nat) (x : Val), cs[i]? = some x → ∃ v, k.w.cell? ⟨c, o + i, none⟩ = some v ∧ v.oneCell' = true ∧ Rep k x v

theorem RepOwn.reads {c o : Nat} {cs : List Val} (h : RepOwn k c o cs) : CellsRep k c o cs := fun i x hi => by
  obtain ⟨v, h1, _, h2⟩ := h.get hi
  exact ⟨v, h1, h2⟩
theorem RepMem.reads {c o : Nat} {cs : List Val} (h : RepMem k c o cs) : CellsRep k c o cs := fun i x hi => (h.get hi).2

theorem CellsRep.sub {c o : Nat} {cs : List Val} (h : CellsRep k c o cs) {off n : Nat} {l : List Val} (hl : cut cs off n = some l) :
    CellsRep k c (o + off) l ∧ l.length = n := by
  unfold cut at hl
  split at hl
  · simp only [Option.some.injEq] at hl; subst hl
    refine ⟨fun i x hi => ?_, by simp; omega⟩
    rw [List.getElem?_take] at hi
    split at hi
    · rw [List.getElem?_drop] at hi
      rw [show o + off + i = o + (off + i) by omega]
      exact h _ x hi
    · simp at hi
  · simp at hl

theorem CellsRep.vals : ∀ {cs : List Val} {c o : Nat}, CellsRep k c o cs → ∃ vs : List Value, RepAll k cs vs ∧ k.w.rangeAt c o vs ∧ ∀ x ∈ vs, x.oneCell' = true
  | [], c, o, _ => ⟨[], by simp [RepAll], fun j v h => by simp at h, by simp⟩
  | x :: l, c, o, h => by
    obtain ⟨v, h1, h2, h3⟩ := h 0 x rfl
    obtain ⟨vs, h4, h5, h6⟩ := CellsRep.vals (cs := l) (c := c) (o := o + 1) fun i y hi => by
      rw [show o + 1 + i = o + (i + 1) by omega]
      exact h (i + 1) y (by simpa using hi)
    refine ⟨v :: vs, by simp only [RepAll]; exact ⟨h3, h4⟩, ?_, by simpa using ⟨h2, h6⟩⟩
    intro j u hj
    cases j with
    | zero => simp only [List.getElem?_cons_zero, Option.some.injEq] at hj; subst hj; simpa using h1
    | succ j =>
      have := h5 j u (by simpa using hj)
      rwa [show o + 1 + j = o + (j + 1) by omega] at this

theorem hcells_some {b : Nat} {e : Option Nat} {cs : List Val} (h : hcells S b e = some cs) :
    S.H[b]? = some (.cells cs e.isSome) ∧ ∀ n, e = some n → cs.length = n := by
  unfold hcells at h
  split at h
  · rename_i hb; simp only [Option.some.injEq] at h; subst h; exact ⟨by simpa using hb, by simp⟩
  · rename_i cs' n hb
    split at h
    · rename_i hn; simp only [Option.some.injEq] at h; subst h; exact ⟨by simpa using hb, by simpa using hn⟩
    · simp at h
  · simp at h

/-- a pointer into the clean heap that is known to hold still -/
theorem ptr_rep (hS : Sim E k S) {b off : Nat} {e : Option Nat} {v : Value} {cs : List Val} (hr : Rep k (.ptr b off e) v) (hc : hcells S b e = some cs) :
    v = .pointer (some ⟨(k.σ b).1, (k.σ b).2 + off, none⟩) ∧ RepOwn k (k.σ b).1 (k.σ b).2 cs ∧ k.own (k.σ b).1 = some (.h b) := by
  obtain ⟨hb, hn⟩ := hcells_some hc
  have hB := hS.blk b _ hb
  refine ⟨?_, hB.2.1, hB.1⟩
  cases e with
  | none => simp only [Rep] at hr; exact hr.2
  | some e =>
    simp only [Rep] at hr
    obtain ⟨n, p, h1, h2, rfl, h4⟩ := hr
    rw [hS.sh, hb] at h1
    simp only [Option.map_some, Block.shape, Option.isSome_some, Option.some.injEq, Shape.cells.injEq, true_and] at h1
    rw [h4 (by rw [← h1, hn e rfl])]

theorem cellsAt_rep (hS : Sim E k S) (hF : FRep k f g tmps) {p : Place} {v : Value} {cs : List Val} (hp : PlaceRep k g tmps p v) (hc : cellsAt g S p = some cs) :
    ∃ c o, v = .pointer (some ⟨c, o + p.off, none⟩) ∧ CellsRep k c o cs := by
  cases p with
  | inl l off =>
    simp only [cellsAt, Option.some.injEq] at hc; subst hc
    obtain ⟨c, o, rfl, h⟩ := hp
    exact ⟨c, o, rfl, h.reads⟩
  | lcl t off =>
    simp only [cellsAt] at hc
    split at hc
    · rename_i l hl
      simp only [Option.some.injEq] at hc; subst hc
      obtain ⟨c, h1, rfl⟩ := hp _ hl
      obtain ⟨c', h2, h3, h4⟩ := hF t _ hl
      rw [h1] at h2
      simp only [Value.pointer.injEq, Option.some.injEq, Addr.mk.injEq, and_true] at h2; subst h2
      exact ⟨c, 0, by simp [Place.off], h4.reads⟩
    · simp at hc
  | hp b off e =>
    obtain ⟨h1, h2, _⟩ := ptr_rep hS hp hc
    exact ⟨_, _, h1, h2.reads⟩
end

/-- what an operation hands to its temporary -/
def ValRep (k : K) (g : G) (tmps : Array Value) : Val → Value → Prop
  | .lv _, _ => False
  | .loc s off, v => ∀ cs, g s = some (.lv cs) → ∃ c, tmps.getD s undef = .pointer (some ⟨c, 0, none⟩) ∧ v = .pointer (some ⟨c, off, none⟩)
  | x, v => Rep k x v

theorem ValRep.of {k : K} {g : G} {tmps : Array Value} {x : Val} {v : Value} (h : Rep k x v) : ValRep k g tmps x v := by
  cases x <;> first | exact h | (simp [Rep] at h)

theorem Place.val_rep {k : K} {g : G} {tmps : Array Value} {p : Place} {v : Value} (h : PlaceRep k g tmps p v) : ValRep k g tmps p.val v := by
  cases p with
  | inl cs o => simpa only [ValRep, Place.val, Rep, PlaceRep] using h
  | lcl t o => exact h
  | hp b o e => exact h

def upsG (g : G) : List (Nat × Val) → G
  | [] => g
  | (t, v) :: l => upsG (fun x => if x = t then some v else g x) l

theorem Fr.get_put (fr : Fr) (t : Nat) (v : Val) : (fr.put t v).get = fun x => if x = t then some v else fr.get x := by
  funext x; simp only [Fr.put, Fr.get]; by_cases h : t = x <;> simp [h, eq_comm]
theorem Fr.get_puts : ∀ (ups : List (Nat × Val)) (fr : Fr), (fr.puts ups).get = upsG fr.get ups
  | [], _ => rfl
  | (t, v) :: l, fr => by rw [Fr.puts, Fr.get_puts l, Fr.get_put, upsG]

/-- WHAT AN OPERATION HAS TO SHOW. -/
structure OpOk (E : Env) (k : K) (S : St) (f : Nat) (g : G) (tmps : Array Value) (s : Sem Next) (v : Option Val) (ups : List (Nat × Val)) (S' : St) (k' : K) (nx : Next) : Prop where
  run : s.run E.P k.w = .ok nx k'.w
  val : match v with
    | some x => ∃ cv, nx = .value cv ∧ ValRep k' (upsG g ups) tmps x cv
    | none => nx = .skip
  sim : Sim E k' S'
  evo : Evo k k' (touchF k S.L f)
  fr : FRep k' f (upsG g ups) tmps
  L : S'.L = S.L
  bound : ∀ d, f < d → Bound k d → Bound k' d

/-- an operation that only computes or reads -/
theorem OpOk.pure {E : Env} {k : K} {S : St} {f : Nat} {g : G} {tmps : Array Value} {s : Sem Next} {x : Val} {cv : Value} (hS : Sim E k S) (hF : FRep k f g tmps)
    (hr : s.run E.P k.w = .ok (.value cv) k.w) (hv : ValRep k g tmps x cv) : OpOk E k S f g tmps s (some x) [] S k (.value cv) :=
  ⟨hr, ⟨cv, rfl, hv⟩, hS, .refl _ _, hF, rfl, fun _ _ h => h⟩
end Go.V

/- Operations that compute. -/
namespace Go.V
section
variable {E : Env} {k : K} {S : St} {f : Nat} {g : G} {tmps : Array Value} {w : World}

theorem rep_int {q : IntKind} {n : Int} : Rep k (.int q n) (.int q n) := by simp only [Rep]
theorem rep_bool {b : Bool} : Rep k (.bool b) (.bool b) := by simp only [Rep]

theorem intOp_run {op : BinOp} {q : IntKind} {x y : Int} {v : Val} {t : TypeId} (h : intOp op q x y = some v) (P : Program) :
    ∃ cv, (Go.binOp op t (.int q x) (.int q y)).run P w = .ok cv w ∧ Rep k v cv := by
  cases op <;> simp only [intOp, Option.some.injEq, reduceCtorEq] at h
  case quo =>
    split at h <;> simp at h
    subst h
    exact ⟨.int q (q.wrap (x.tdiv y)), by simp [Go.binOp, Op.intDiv, *], by simp [Rep]⟩
  case rem =>
    split at h <;> simp at h
    subst h
    exact ⟨.int q (x.tmod y), by simp [Go.binOp, Op.intDiv, *], by simp [Rep]⟩
  all_goals
    subst h
    refine ⟨_, ?_, by first | exact rep_int | exact rep_bool⟩
    simp only [Go.binOp, ne_eq, not_true_eq_false, if_false, Op.intArith, Op.intBits, Op.intCmp, Sem.run_pure]

theorem shiftOp_run {op : BinOp} {q q' : IntKind} {x y : Int} {v : Val} {t : TypeId} (hop : op = .shl ∨ op = .shr) (h : shiftOp op q x y = some v) (P : Program) :
    ∃ cv, (Go.binOp op t (.int q x) (.int q' y)).run P w = .ok cv w ∧ Rep k v cv := by
  unfold shiftOp at h
  split at h
  · simp at h
  · rename_i hy
    rcases hop with rfl | rfl <;> simp only [Option.some.injEq] at h <;> subst h
    · exact ⟨.int q (q.wrap (x * 2 ^ (min y.toNat q.bits))), by simp [Go.binOp, Op.shift, hy], by simp [Rep]⟩
    · exact ⟨.int q (x.fdiv (2 ^ (min y.toNat q.bits))), by simp [Go.binOp, Op.shift, hy], by simp [Rep]⟩

theorem bytesLess_eq : ∀ (x y : List UInt8), Op.bytesLess x y = strLess x y
  | _, [] => by cases ‹List UInt8› <;> rfl
  | [], _ :: _ => rfl
  | a :: x, b :: y => by simp [Op.bytesLess, strLess, bytesLess_eq x y]

theorem toList_loop (a : ByteArray) (n i : Nat) (r : List UInt8) (h : a.size - i = n) : ByteArray.toList.loop a i r = r.reverse ++ a.data.toList.drop i := by
  induction n generalizing i r with
  | zero =>
    unfold ByteArray.toList.loop
    have e : a.data.toList.length = a.size := by rw [Array.length_toList]; rfl
    rw [if_neg (by omega), List.drop_of_length_le (by omega)]; simp
  | succ n ih =>
    unfold ByteArray.toList.loop
    have e : a.data.toList.length = a.size := by rw [Array.length_toList]; rfl
    rw [if_pos (by omega), ih (i + 1) _ (by omega)]
    rw [List.drop_eq_getElem_cons (i := i) (by omega)]
    simp only [List.reverse_cons, List.append_assoc, List.singleton_append, List.cons.injEq, and_true, List.append_cancel_left_eq]
    have hi : i < a.data.size := by have : a.data.size = a.size := rfl; omega
    show a.data[i]! = _
    rw [getElem!_pos a.data i hi]; simp
theorem toList_eq (a : ByteArray) : a.toList = a.data.toList := by
  unfold ByteArray.toList
  rw [toList_loop a a.size 0 [] (by omega)]; simp

theorem strOp_run {op : BinOp} {x y : ByteArray} {v : Val} {t : TypeId} (h : strOp op x.data.toList y.data.toList = some v) (P : Program) :
    ∃ cv, (Go.binOp op t (.string x) (.string y)).run P w = .ok cv w ∧ Rep k v cv := by
  have hb : Go.binOp op t (.string x) (.string y) = Op.stringOp op x y := by cases op <;> rfl
  rw [hb]
  cases op <;> simp only [strOp, Option.some.injEq, reduceCtorEq] at h
  case add =>
    split at h <;> simp at h
    subst h
    rename_i hlen
    refine ⟨.string (x ++ y), ?_, ?_⟩
    · have : ¬ (((x.size + y.size : Nat) : Int) > IntKind.i64.max) := by
        simp only [Array.length_toList] at hlen
        have e1 : x.data.size = x.size := rfl
        have e2 : y.data.size = y.size := rfl
        rw [e1, e2] at hlen
        unfold maxStr at hlen
        simp [IntKind.max, IntKind.signed, IntKind.bits]
        omega
      simp only [Op.stringOp, this, if_false]; rfl
    · simp [Rep]
  all_goals
    subst h
    refine ⟨_, ?_, rep_bool⟩
    simp only [Op.stringOp, Sem.run_pure, toList_eq, bytesLess_eq]
end
end Go.V

/- Parts of values; '=='. -/
namespace Go.V
section
variable {E : Env} {k : K} {S : St} {f : Nat} {g : G} {tmps : Array Value} {w : World}

theorem size_info {t : TypeId} {n : Nat} (h : E.size t = some n) : ∃ i, E.P.info? t = some i ∧ i.size = n := by
  simpa [Env.size] using h

theorem run_size {t : TypeId} {n : Nat} (h : E.size t = some n) (w : World) : (sizeOf t).run E.P w = .ok n w := by
  obtain ⟨i, h1, h2⟩ := size_info h
  simp [sizeOf, typeInfo, h1, h2]

theorem run_agg {t : TypeId} {d : TypeDesc} (h : E.und t = some d) (w : World) : (isAgg t).run E.P w = .ok (isAggT d) w := by
  unfold isAgg
  rw [Sem.run_bind, run_underlying h w]
  cases d <;> rfl

theorem part_run {t : TypeId} {d : TypeDesc} {n off : Nat} {cs : List Val} {a : Array Value} {v : Val} (hd : E.und t = some d) (hn : E.size t = some n)
    (hr : RepAll k cs a.toList) (h1 : ∀ x ∈ a.toList, x.oneCell' = true) (h : ofCells d cs off n = some v) :
    ∃ cv, (part t a off).run E.P w = .ok cv w ∧ Rep k v cv := by
  unfold ofCells at h
  split at h
  · rename_i hag
    simp only [Option.map_eq_some_iff] at h
    obtain ⟨l, hl, rfl⟩ := h
    unfold cut at hl
    split at hl
    · simp only [Option.some.injEq] at hl; subst hl
      refine ⟨.agg (a.extract off (off + n)), ?_, ?_⟩
      · simp [part, Sem.run_bind, run_agg hd, hag, run_size hn]
      · simp only [Rep]
        refine ⟨_, rfl, ?_, ?_⟩
        · rw [Array.toList_extract]
          simp only [List.extract_eq_drop_take', List.drop_take, Nat.add_sub_cancel_left]
          exact (hr.drop off).take n
        · intro x hx
          rw [Array.toList_extract] at hx
          simp only [List.extract_eq_drop_take', List.drop_take, Nat.add_sub_cancel_left] at hx
          exact h1 x (List.mem_of_mem_drop (List.mem_of_mem_take hx))
    · simp at hl
  · rename_i hag
    obtain ⟨cv, h2, h3⟩ := hr.get h
    refine ⟨cv, ?_, h3⟩
    have h2' : a[off]? = some cv := by rw [← Array.getElem?_toList]; exact h2
    simp [part, Sem.run_bind, run_agg hd, hag, h2']

/-- what '==' does field by field -/
theorem fields_run {eq : TypeId → Val → Val → Option Bool} {d' : Nat}
    (heq : ∀ t x y r cx cy w, eq t x y = some r → Rep k x cx → Rep k y cy → (Op.equalIn d' t cx cy).run E.P w = .ok r w)
    {xs ys : List Val} {a b : Array Value} (hx : RepAll k xs a.toList) (hx1 : ∀ x ∈ a.toList, x.oneCell' = true) (hy : RepAll k ys b.toList) (hy1 : ∀ x ∈ b.toList, x.oneCell' = true) :
    ∀ (fs : List Field) (r : Bool), eqFields eq E fs xs ys = some r →
      ((forIn fs (none, ()) fun f __s =>
        if f.name ≠ "_" then do
          let __do_lift ← part f.type a f.offset
          let __do_lift_1 ← part f.type b f.offset
          let __do_lift ← Op.equalIn d' f.type __do_lift __do_lift_1
          if (!__do_lift) = true then pure (ForInStep.done (some false, ())) else pure (ForInStep.yield (none, ()))
        else pure (ForInStep.yield (none, ())) : Sem (Option Bool × Unit))).run E.P w = .ok (if r then none else some false, ()) w
  | [], r, h => by
    simp only [eqFields, Option.some.injEq] at h; subst h
    simp
  | fd :: l, r, h => by
    simp only [eqFields] at h
    rw [List.forIn_cons]
    split at h
    · rename_i hn
      simp only [hn, ne_eq, not_true_eq_false, if_false, pure_bind]
      exact fields_run heq hx hx1 hy hy1 l r h
    · rename_i hn
      split at h
      · rename_i d n hd hsz
        split at h
        · rename_i x y hxx hyy
          obtain ⟨cx, p1, p2⟩ := part_run (w := w) hd hsz hx hx1 hxx
          obtain ⟨cy, p3, p4⟩ := part_run (w := w) hd hsz hy hy1 hyy
          simp only [ne_eq, hn, not_false_eq_true, if_true, Sem.run_bind, p1, p3, Result.andThen_ok]
          split at h
          · rename_i he
            simp only [heq _ _ _ _ _ _ w he p2 p4, Result.andThen_ok, Bool.not_true, Bool.false_eq_true, if_false, Sem.run_pure]
            exact fields_run heq hx hx1 hy hy1 l r h
          · rename_i he
            have : eq fd.type x y = some r := h
            cases r with
            | true => exact (he this).elim
            | false => simp [heq _ _ _ _ _ _ w this p2 p4]
        · simp at h
      · simp at h

theorem elems_run {eq : Val → Val → Option Bool} {d' : Nat} {e : TypeId} {de : TypeDesc} {sz : Nat} (hde : E.und e = some de) (hsz : E.size e = some sz)
    (heq : ∀ x y r cx cy w, eq x y = some r → Rep k x cx → Rep k y cy → (Op.equalIn d' e cx cy).run E.P w = .ok r w)
    {xs ys : List Val} {a b : Array Value} (hx : RepAll k xs a.toList) (hx1 : ∀ x ∈ a.toList, x.oneCell' = true) (hy : RepAll k ys b.toList) (hy1 : ∀ x ∈ b.toList, x.oneCell' = true) :
    ∀ (n i : Nat) (r : Bool), eqElems eq de sz xs ys n i = some r →
      ((forIn (List.range' i n) (none, ()) fun i __s => do
          let __do_lift ← part e a (i * sz)
          let __do_lift_1 ← part e b (i * sz)
          let __do_lift ← Op.equalIn d' e __do_lift __do_lift_1
          if (!__do_lift) = true then pure (ForInStep.done (some false, ())) else pure (ForInStep.yield (none, ())) : Sem (Option Bool × Unit))).run E.P w = .ok (if r then none else some false, ()) w
  | 0, _, r, h => by
    simp only [eqElems, Option.some.injEq] at h; subst h
    simp
  | n + 1, i, r, h => by
    simp only [eqElems] at h
    rw [List.range'_succ, List.forIn_cons]
    split at h
    · rename_i x y hxx hyy
      obtain ⟨cx, p1, p2⟩ := part_run (w := w) hde hsz hx hx1 hxx
      obtain ⟨cy, p3, p4⟩ := part_run (w := w) hde hsz hy hy1 hyy
      simp only [Sem.run_bind, p1, p3, Result.andThen_ok]
      split at h
      · rename_i he
        simp only [heq _ _ _ _ _ w he p2 p4, Result.andThen_ok, Bool.not_true, Bool.false_eq_true, if_false, Sem.run_pure]
        exact elems_run hde hsz heq hx hx1 hy hy1 n (i + 1) r h
      · rename_i he
        have : eq x y = some r := h
        cases r with
        | true => exact (he this).elim
        | false => simp [heq _ _ _ _ _ w this p2 p4]
    · simp at h

theorem eqT_run : ∀ (d d' : Nat), d ≤ d' → ∀ (t : TypeId) (x y : Val) (r : Bool) (cx cy : Value) (w : World), eqT E d t x y = some r → Rep k x cx → Rep k y cy →
    (Op.equalIn d' t cx cy).run E.P w = .ok r w
  | 0, _, _, _, _, _, _, _, _, _, h, _, _ => by simp [eqT] at h
  | d + 1, 0, hd, _, _, _, _, _, _, _, _, _, _ => by omega
  | d + 1, d' + 1, hd, t, x, y, r, cx, cy, w, h, hx, hy => by
    have ih := eqT_run d d' (by omega)
    simp only [eqT] at h
    split at h
    · rename_i hu
      simp only [Rep] at hx hy
      subst hx hy
      simp only [Option.some.injEq] at h; subst h
      simp only [Op.equalIn, Sem.run_bind, run_underlying hu, Result.andThen_ok, Sem.run_pure]
    · rename_i hu
      simp only [Rep] at hx hy
      subst hx hy
      split at h
      · rename_i e
        simp only [Option.some.injEq] at h; subst h
        simp only [Op.equalIn, Sem.run_bind, run_underlying hu, Result.andThen_ok, e, if_true, Sem.run_pure]
      · simp at h
    · rename_i hu
      simp only [Rep] at hx hy
      obtain ⟨a, rfl, rfl⟩ := hx
      obtain ⟨b, rfl, rfl⟩ := hy
      simp only [Option.some.injEq] at h; subst h
      rw [run_equalIn_string w d' t a b hu, toList_eq, toList_eq]
    · rename_i hu
      simp only [Rep] at hx hy
      obtain ⟨a, rfl, hx, hx1⟩ := hx
      obtain ⟨b, rfl, hy, hy1⟩ := hy
      split at h
      · simp at h
      · rename_i hs
        simp only [Op.equalIn, Sem.run_bind, run_underlying hu, Result.andThen_ok, run_program, hs, Bool.false_eq_true, if_false]
        rw [← Array.forIn_toList, fields_run (d' := d') (fun t x y r cx cy w h hx hy => ih t x y r cx cy w h hx hy) hx hx1 hy hy1 _ _ h]
        cases r <;> rfl
    · rename_i hu
      simp only [Rep] at hx hy
      obtain ⟨a, rfl, hx, hx1⟩ := hx
      obtain ⟨b, rfl, hy, hy1⟩ := hy
      split at h
      · rename_i n e _ _ de sz hde hsz
        simp only [Op.equalIn, Sem.run_bind, run_underlying hu, Result.andThen_ok, run_size hsz, Std.Legacy.Range.forIn_eq_forIn_range', Std.Legacy.Range.size, Nat.sub_zero, Nat.add_sub_cancel, Nat.div_one]
        rw [elems_run (d' := d') hde hsz (fun x y r cx cy w h hx hy => ih _ x y r cx cy w h hx hy) hx hx1 hy hy1 _ _ _ h]
        cases r <;> rfl
      · simp at h
    · simp at h
end
end Go.V

/- Binary and unary operations, conversions of numbers: the whole. -/
namespace Go.V
section
variable {E : Env} {k : K} {S : St} {f : Nat} {g : G} {tmps : Array Value} {w : World}

set_option maxHeartbeats 2000000 in
/-- '==' and what stands ahead of it -/
theorem eqOp_run {op : BinOp} (hop : op = .eql ∨ op = .neq) {t : TypeId} {x y : Val} {r : Bool} {cx cy : Value} {ox oy : Operand}
    (h : eqOp E t x y = some r) (hx : Rep k x cx) (hy : Rep k y cy) (hii : ∀ q q' a b, x = .int q a → y ≠ .int q' b) (hss : ∀ a b, x = .str a → y ≠ .str b) :
    (do eqGuard op t ox oy cx cy; Go.binOp op t cx cy : Sem Value).run E.P w = .ok (.bool (if op = .eql then r else !r)) w := by
  obtain ⟨dd, hdd⟩ : ∃ d, ∀ t x y, Op.equal t x y = Op.equalIn (d + 1) t x y := ⟨9999, fun _ _ _ => rfl⟩
  have key : ∀ (hg : (eqGuard op t ox oy cx cy).run E.P w = .ok () w) (hb : Go.binOp .eql t cx cy = (do pure (.bool (← Op.equal t cx cy))))
      (hn : Go.binOp .neq t cx cy = (do pure (.bool (!(← Op.equal t cx cy))))) (he : (Op.equal t cx cy).run E.P w = .ok r w),
      (do eqGuard op t ox oy cx cy; Go.binOp op t cx cy : Sem Value).run E.P w = .ok (.bool (if op = .eql then r else !r)) w := by
    intro hg hb hn he
    rcases hop with rfl | rfl
    · simp [Sem.run_bind, hg, hb, he]
    · simp [Sem.run_bind, hg, hn, he]
  have guard0 : (∀ cs ds, cx = .agg cs → cy ≠ .agg ds) → (cx = .nilIface → cy ≠ .nilIface) → (eqGuard op t ox oy cx cy).run E.P w = .ok () w := by
    intro h1 h2
    rcases hop with rfl | rfl
    all_goals
      unfold eqGuard
      simp only [Bool.not_true, Bool.false_eq_true, if_false]
      first
        | rfl
        | (cases cx <;> cases cy <;> first | rfl | (exact absurd rfl (h1 _ _ rfl)) | (exact absurd rfl (h2 rfl)))
  unfold eqOp at h
  split at h
  · -- bool
    rename_i hu
    simp only [Option.some.injEq] at h; subst h
    simp only [Rep] at hx hy; subst hx hy
    exact key (guard0 (by simp) (by simp)) rfl rfl (by rw [hdd]; simp [Op.equalIn, run_underlying hu])
  · rename_i hu
    simp only [Option.some.injEq] at h; subst h
    simp only [Rep] at hx hy; subst hx hy
    exact key (guard0 (by simp) (by simp)) rfl rfl (by rw [hdd]; simp [Op.equalIn, run_underlying hu])
  · rename_i hu
    simp only [Option.some.injEq] at h; subst h
    simp only [Rep] at hx hy; subst hx; obtain ⟨_, rfl⟩ := hy
    exact key (guard0 (by simp) (by simp)) rfl rfl (by rw [hdd]; simp [Op.equalIn, run_underlying hu])
  · rename_i hu
    simp only [Option.some.injEq] at h; subst h
    simp only [Rep] at hx hy; subst hy; obtain ⟨_, rfl⟩ := hx
    exact key (guard0 (by simp) (by simp)) rfl rfl (by rw [hdd]; simp [Op.equalIn, run_underlying hu])
  · rename_i hu
    simp only [Option.some.injEq] at h; subst h
    simp only [Rep] at hx hy; subst hx; obtain ⟨_, _, rfl, _⟩ := hy
    exact key (guard0 (by simp) (by simp)) rfl rfl (by rw [hdd]; simp [Op.equalIn, run_underlying hu])
  · rename_i hu
    simp only [Option.some.injEq] at h; subst h
    simp only [Rep] at hx hy; subst hy; obtain ⟨_, _, rfl, _⟩ := hx
    exact key (guard0 (by simp) (by simp)) rfl rfl (by rw [hdd]; simp [Op.equalIn, run_underlying hu])
  · -- nil slices
    rename_i q hu
    simp only [Rep] at hx hy
    obtain ⟨a, cp, rfl, _, h1, _⟩ := hx
    obtain ⟨b, cq, rfl, hcq, h2, h2', h3⟩ := hy
    obtain ⟨rfl, rfl⟩ := h1 trivial
    split at h
    · rename_i hq
      simp only [Option.some.injEq] at h; subst h
      obtain ⟨rfl, rfl⟩ := h2 hq
      exact key (guard0 (by simp) (by simp)) rfl rfl (by rw [hdd]; simp [Op.equalIn, run_underlying hu])
    · rename_i hne
      simp only [Option.some.injEq] at h; subst h
      obtain ⟨x, rfl⟩ : ∃ x, b = some x := Option.isSome_iff_exists.1 (h2'.2 hne)
      exact key (guard0 (by simp) (by simp)) rfl rfl (by rw [hdd]; simp [Op.equalIn, run_underlying hu])
  · rename_i q hu
    simp only [Rep] at hx hy
    obtain ⟨a, cp, rfl, _, h1, _⟩ := hy
    obtain ⟨b, cq, rfl, hcq, h2, h2', h3⟩ := hx
    obtain ⟨rfl, rfl⟩ := h1 trivial
    split at h
    · rename_i hq
      simp only [Option.some.injEq] at h; subst h
      obtain ⟨rfl, rfl⟩ := h2 hq
      exact key (guard0 (by simp) (by simp)) rfl rfl (by rw [hdd]; simp [Op.equalIn, run_underlying hu])
    · rename_i hne
      simp only [Option.some.injEq] at h; subst h
      obtain ⟨x, rfl⟩ : ∃ x, b = some x := Option.isSome_iff_exists.1 (h2'.2 hne)
      exact key (guard0 (by simp) (by simp)) rfl rfl (by rw [hdd]; simp [Op.equalIn, run_underlying hu])
  · rename_i hu
    simp only [Option.some.injEq] at h; subst h
    simp only [Rep] at hx hy
    obtain ⟨a, cp, rfl, _, h1, _⟩ := hx
    obtain ⟨rfl, rfl⟩ := h1 trivial
    obtain ⟨_, rfl, _⟩ := hy
    exact key (guard0 (by simp) (by simp)) rfl rfl (by rw [hdd]; simp [Op.equalIn, run_underlying hu])
  · rename_i hu
    simp only [Option.some.injEq] at h; subst h
    simp only [Rep] at hx hy
    obtain ⟨a, cp, rfl, _, h1, _⟩ := hy
    obtain ⟨rfl, rfl⟩ := h1 trivial
    obtain ⟨_, rfl, _⟩ := hx
    exact key (guard0 (by simp) (by simp)) rfl rfl (by rw [hdd]; simp [Op.equalIn, run_underlying hu])
  · rename_i hu
    simp only [Option.some.injEq] at h; subst h
    simp only [Rep] at hx hy; subst hx hy
    exact key (guard0 (by simp) (by simp)) rfl rfl (by rw [hdd]; simp [Op.equalIn, run_underlying hu])
  · rename_i hu
    simp only [Option.some.injEq] at h; subst h
    simp only [Rep] at hx hy; subst hx; obtain ⟨_, rfl⟩ := hy
    exact key (guard0 (by simp) (by simp)) rfl rfl (by rw [hdd]; simp [Op.equalIn, run_underlying hu])
  · rename_i hu
    simp only [Option.some.injEq] at h; subst h
    simp only [Rep] at hx hy; subst hy; obtain ⟨_, rfl⟩ := hx
    exact key (guard0 (by simp) (by simp)) rfl rfl (by rw [hdd]; simp [Op.equalIn, run_underlying hu])
  · rename_i hu
    simp only [Option.some.injEq] at h; subst h
    simp only [Rep] at hx hy; subst hx hy
    exact key (guard0 (by simp) (by simp)) rfl rfl (by rw [hdd]; simp [Op.equalIn, run_underlying hu])
  · rename_i hu
    simp only [Option.some.injEq] at h; subst h
    simp only [Rep] at hx hy; subst hx; obtain ⟨_, rfl, _⟩ := hy
    exact key (guard0 (by simp) (by simp)) rfl rfl (by rw [hdd]; simp [Op.equalIn, run_underlying hu])
  · rename_i hu
    simp only [Option.some.injEq] at h; subst h
    simp only [Rep] at hx hy; subst hy; obtain ⟨_, rfl, _⟩ := hx
    exact key (guard0 (by simp) (by simp)) rfl rfl (by rw [hdd]; simp [Op.equalIn, run_underlying hu])
  · rename_i hu
    simp only [Option.some.injEq] at h; subst h
    simp only [Rep] at hx hy; subst hx; obtain ⟨_, rfl⟩ := hy
    exact key (guard0 (by simp) (by simp)) rfl rfl (by rw [hdd]; simp [Op.equalIn, run_underlying hu])
  · rename_i hu
    simp only [Option.some.injEq] at h; subst h
    simp only [Rep] at hx hy; subst hy; obtain ⟨_, rfl⟩ := hx
    exact key (guard0 (by simp) (by simp)) rfl rfl (by rw [hdd]; simp [Op.equalIn, run_underlying hu])
  · rename_i hu
    simp only [Option.some.injEq] at h; subst h
    simp only [Rep] at hx hy; subst hx; obtain ⟨_, rfl, _⟩ := hy
    exact key (guard0 (by simp) (by simp)) rfl rfl (by rw [hdd]; simp [Op.equalIn, run_underlying hu])
  · rename_i hu
    simp only [Option.some.injEq] at h; subst h
    simp only [Rep] at hx hy; subst hy; obtain ⟨_, rfl, _⟩ := hx
    exact key (guard0 (by simp) (by simp)) rfl rfl (by rw [hdd]; simp [Op.equalIn, run_underlying hu])
  all_goals first
    | (simp at h; done)
    | skip
  all_goals
    split at h
    · simp at h
    · rename_i hgt
      have he := eqT_run (E := E) (k := k) 20 10000 (by decide) _ _ _ _ cx cy w h hx hy
      have hx' := hx
      have hy' := hy
      simp only [Rep] at hx' hy'
      obtain ⟨a, rfl, _⟩ := hx'
      obtain ⟨b, rfl, _⟩ := hy'
      refine key ?_ rfl rfl he
      rcases hop with rfl | rfl <;> simp [eqGuard, hgt]

theorem binOp_run {op : BinOp} {t : TypeId} {x y v : Val} {cx cy : Value} {ox oy : Operand} (h : binOp E op t x y = some v) (hx : Rep k x cx) (hy : Rep k y cy) :
    ∃ cv, (do eqGuard op t ox oy cx cy; Go.binOp op t cx cy : Sem Value).run E.P w = .ok cv w ∧ Rep k v cv := by
  unfold binOp at h
  split at h
  · rename_i q a q' b
    simp only [Rep] at hx hy; subst hx hy
    have hg : (eqGuard op t ox oy (.int q a) (.int q' b)).run E.P w = .ok () w := by cases op <;> rfl
    split at h
    · obtain ⟨cv, h1, h2⟩ := shiftOp_run (k := k) (w := w) (t := t) (q' := q') (.inl rfl) h E.P
      exact ⟨cv, by simp [Sem.run_bind, hg, h1], h2⟩
    · obtain ⟨cv, h1, h2⟩ := shiftOp_run (k := k) (w := w) (t := t) (q' := q') (.inr rfl) h E.P
      exact ⟨cv, by simp [Sem.run_bind, hg, h1], h2⟩
    · split at h
      · rename_i e; subst e
        obtain ⟨cv, h1, h2⟩ := intOp_run (k := k) (w := w) (t := t) h E.P
        exact ⟨cv, by simp [Sem.run_bind, hg, h1], h2⟩
      · simp at h
  · rename_i a b
    simp only [Rep] at hx hy
    obtain ⟨a, rfl, rfl⟩ := hx
    obtain ⟨b, rfl, rfl⟩ := hy
    have hg : (eqGuard op t ox oy (.string a) (.string b)).run E.P w = .ok () w := by cases op <;> rfl
    obtain ⟨cv, h1, h2⟩ := strOp_run (k := k) (w := w) (t := t) h E.P
    exact ⟨cv, by simp [Sem.run_bind, hg, h1], h2⟩
  · rename_i h1 h2
    split at h
    · simp only [Option.map_eq_some_iff] at h
      obtain ⟨r, h, rfl⟩ := h
      exact ⟨_, eqOp_run (.inl rfl) h hx hy (fun q q' a b e e' => h1 q a q' b e e') (fun a b e e' => h2 a b e e'), by simp [Rep]⟩
    · simp only [Option.map_eq_some_iff] at h
      obtain ⟨r, h, rfl⟩ := h
      exact ⟨_, eqOp_run (.inr rfl) h hx hy (fun q q' a b e e' => h1 q a q' b e e') (fun a b e e' => h2 a b e e'), by simp [Rep]⟩
    · simp at h

theorem unOp_run {op : UnOp} {x v : Val} {cx : Value} (h : unOp op x = some v) (hx : Rep k x cx) : ∃ cv, (Op.unary op cx).run E.P w = .ok cv w ∧ Rep k v cv := by
  unfold unOp at h
  split at h <;> simp only [Option.some.injEq, reduceCtorEq] at h <;> subst h <;> simp only [Rep] at hx <;> subst hx
  · exact ⟨_, rfl, rep_bool⟩
  · exact ⟨_, rfl, rep_int⟩
  · exact ⟨_, rfl, rep_int⟩

theorem minMax_run {mx : Bool} : ∀ {l : List Val} {vs : List Value} {x v : Val} {cx : Value}, l.foldlM (fun a v => match a, v with
    | .int k x, .int k' y => if k = k' then some (.int k (if mx then (if y > x then y else x) else (if y < x then y else x))) else none
    | _, _ => none) x = some v → Rep k x cx → RepAll k l vs → ∃ cv, (vs.foldlM (if mx then Builtin.max2 else Builtin.min2) cx).run E.P w = .ok cv w ∧ Rep k v cv
  | [], [], x, v, cx, h, hx, _ => by
    simp only [List.foldlM_nil, Option.pure_def, Option.some.injEq] at h; subst h
    exact ⟨cx, by simp, hx⟩
  | y :: l, c :: vs, x, v, cx, h, hx, hl => by
    simp only [RepAll] at hl
    rw [List.foldlM_cons] at h
    simp only [Option.bind_eq_bind, Option.bind_eq_some_iff] at h
    obtain ⟨z, hz, h⟩ := h
    split at hz
    · rename_i q a q' b
      split at hz
      · rename_i e; subst e
        simp only [Option.some.injEq] at hz; subst hz
        have h1 := hl.1
        simp only [Rep] at hx h1; subst hx h1
        rw [List.foldlM_cons]
        cases mx with
        | true =>
          obtain ⟨cv, h2, h3⟩ := minMax_run (mx := true) (vs := vs) (cx := .int q (if b > a then b else a)) h (by simp [Rep]) hl.2
          exact ⟨cv, by simpa [Sem.run_bind, Builtin.max2] using h2, h3⟩
        | false =>
          obtain ⟨cv, h2, h3⟩ := minMax_run (mx := false) (vs := vs) (cx := .int q (if b < a then b else a)) h (by simp [Rep]) hl.2
          exact ⟨cv, by simpa [Sem.run_bind, Builtin.min2] using h2, h3⟩
      · simp at hz
    · simp at hz
  | [], _ :: _, _, _, _, _, _, hl => by simp [RepAll] at hl
  | _ :: _, [], _, _, _, _, _, hl => by simp [RepAll] at hl
end
end Go.V

/- Operations that read memory. -/
namespace Go.V
section
variable {E : Env} {k : K} {S : St} {f : Nat} {g : G} {tmps : Array Value} {w : World}

theorem sl_rep (hS : Sim E k S) {b off len esz : Nat} {cp : Cap} {v : Value} {cs : List Val} (hr : Rep k (.sl b off len esz cp) v) (hc : hcells S b cp.ext = some cs) :
    ∃ cap, v = .slice (some ⟨(k.σ b).1, (k.σ b).2 + off, none⟩) len cap ∧ len ≤ cap ∧ (∀ c, cp = .fix c → cap = c) ∧ RepOwn k (k.σ b).1 (k.σ b).2 cs ∧ k.own (k.σ b).1 = some (.h b) := by
  obtain ⟨hb, hn⟩ := hcells_some hc
  have hB := hS.blk b _ hb
  cases cp with
  | fix c =>
    simp only [Rep] at hr
    exact ⟨c, hr.2.1, hr.2.2, fun c' e => by simpa using e, hB.2.1, hB.1⟩
  | flex e =>
    simp only [Rep] at hr
    obtain ⟨n, p, cap, h1, h2, rfl, h4⟩ := hr
    rw [hS.sh, hb] at h1
    simp only [Option.map_some, Block.shape, Cap.ext, Option.isSome_some, Option.some.injEq, Shape.cells.injEq, true_and] at h1
    obtain ⟨rfl, h5, _⟩ := h4 (by rw [← h1, hn e rfl])
    exact ⟨cap, rfl, h5, fun c' e => by simp at e, hB.2.1, hB.1⟩

theorem loadCells_run {c o : Nat} {l : List Val} (h : CellsRep k c o l) :
    ∃ vs : Array Value, (loadCells ⟨c, o, none⟩ l.length).run E.P k.w = .ok vs k.w ∧ RepAll k l vs.toList ∧ ∀ y ∈ vs.toList, y.oneCell' = true := by
  obtain ⟨vs, h1, h2, h3⟩ := h.vals
  refine ⟨vs.toArray, ?_, by simpa using h1, by simpa using h3⟩
  rw [h1.length]
  exact run_loadCells_list (P := E.P) k.w ⟨c, o, none⟩ vs (fun j v hv => by rw [Addr.add_mid]; exact h2 j v hv)

theorem CellsRep.take {c o : Nat} {l : List Val} (h : CellsRep k c o l) (n : Nat) : CellsRep k c o (l.take n) := fun i x hi => by
  rw [List.getElem?_take] at hi
  split at hi
  · exact h i x hi
  · simp at hi

theorem u8s_rep (k : K) (s : List UInt8) : RepAll k (u8s s) (s.map fun b => .int .u8 b.toNat) := by
  induction s with
  | nil => simp [u8s, RepAll]
  | cons a l ih => simp only [u8s, List.map_cons, RepAll] at ih ⊢; exact ⟨rep_int, ih⟩

theorem slice_read (hS : Sim E k S) {sz n : Nat} {x : Val} {l : List Val} {c : Cls} {cx : Value} (h : cellsOfSlice S sz x = some (n, l, c)) (hx : Rep k x cx) :
    (∀ w', (Builtin.lenOf cx).run E.P w' = .ok n w') ∧ l.length = n * sz ∧
      ∀ m, m ≤ n → ∃ vs : Array Value, (Builtin.firstCells sz m cx).run E.P k.w = .ok vs k.w ∧ RepAll k (l.take (m * sz)) vs.toList ∧ ∀ y ∈ vs.toList, y.oneCell' = true := by
  unfold cellsOfSlice at h
  split at h
  · -- inline
    rename_i cs len q
    simp only [Option.map_eq_some_iff, Prod.mk.injEq] at h
    obtain ⟨l', hl, rfl, rfl, _⟩ := h
    simp only [Rep] at hx
    obtain ⟨a, cp, rfl, hcp, _, _, hm⟩ := hx
    have hlen : l'.length = len * sz := by
      unfold cut at hl
      split at hl
      · simp only [Option.some.injEq] at hl; subst hl; simp; omega
      · simp at hl
    refine ⟨fun _ => rfl, hlen, fun m hmn => ?_⟩
    have hle : m * sz ≤ len * sz := Nat.mul_le_mul_right _ hmn
    rcases hm with rfl | ⟨c, o, rfl, hm⟩
    · have h0 : m * sz = 0 := by omega
      have : l' = [] := List.eq_nil_of_length_eq_zero (by simpa using hlen)
      subst this
      refine ⟨#[], ?_, by simp [RepAll], by simp⟩
      cases a with
      | none => rfl
      | some a => simp only [Builtin.firstCells, h0]; rfl
    · have hs := ((hm.reads.sub hl).1.take (m * sz))
      obtain ⟨vs, h1, h2, h3⟩ := loadCells_run (E := E) hs
      refine ⟨vs, ?_, h2, h3⟩
      simp only [List.length_take, hlen, Nat.min_eq_left hle, Nat.add_zero] at h1
      exact h1
  · rename_i b off len esz cp
    split at h
    · rename_i cs hcs
      simp only [Option.map_eq_some_iff, Prod.mk.injEq] at h
      obtain ⟨l', hl, rfl, rfl, _⟩ := h
      obtain ⟨cap, rfl, h1, h2, h3, _⟩ := sl_rep hS hx hcs
      have hlen := (h3.reads.sub hl).2
      refine ⟨fun _ => rfl, hlen, fun m hmn => ?_⟩
      have hle : m * sz ≤ len * sz := Nat.mul_le_mul_right _ hmn
      have hs := ((h3.reads.sub hl).1.take (m * sz))
      obtain ⟨vs, h1, h2, h3⟩ := loadCells_run (E := E) hs
      refine ⟨vs, ?_, h2, h3⟩
      simp only [List.length_take, hlen, Nat.min_eq_left hle] at h1
      exact h1
    · simp at h
  · rename_i s
    split at h
    · rename_i hsz; subst hsz
      simp only [Option.some.injEq, Prod.mk.injEq] at h
      obtain ⟨rfl, rfl, _⟩ := h
      simp only [Rep] at hx
      obtain ⟨a, rfl, rfl⟩ := hx
      have e : a.data.toList.length = a.size := by rw [Array.length_toList]; rfl
      refine ⟨fun _ => by rw [e]; rfl, by simp [u8s], fun m hmn => ?_⟩
      refine ⟨(a.extract 0 m).data.map fun b => .int .u8 b.toNat, rfl, ?_, ?_⟩
      · have := (u8s_rep k a.data.toList).take (m * 1)
        have e2 : ((a.extract 0 m).data.map fun b => Value.int .u8 b.toNat).toList = (a.data.toList.map fun b => Value.int .u8 b.toNat).take m := by
          rw [Array.toList_map, List.map_take.symm]
          congr 1
          simp [ByteArray.extract, ByteArray.copySlice]
        rw [e2]
        simpa using this
      · intro y hy
        simp only [Array.toList_map, List.mem_map] at hy
        obtain ⟨b, _, rfl⟩ := hy
        rfl
    · simp at h
  · simp at h

/-- what an operation comes to -/
def OpRes (E : Env) (k : K) (S : St) (f : Nat) (g : G) (tmps : Array Value) (o : Oper) : Res → Prop
  | .val v _ ups S' => ∃ k' nx, OpOk E k S f g tmps (execOp (evT tmps) o) v ups S' k' nx
  | .laid cs => ∃ T vs, (execOp (evT tmps) o).run E.P k.w = .ok (.value (.pointer (some ⟨k.w.heap.size, 0, none⟩))) (k.w.alloc (.cells vs T)) ∧
      RepAll k cs vs.toList ∧ ∀ y ∈ vs.toList, y.oneCell' = true
  | .call fn args => ∃ cargs : Array Value, (execOp (evT tmps) o).run E.P k.w = (callFunc fn cargs).run E.P k.w ∧ RepAll k args cargs.toList
  | .yld l args => ∃ cargs : Array Value, (execOp (evT tmps) o).run E.P k.w = (Instr.yield (k.lo l) cargs).run E.P k.w ∧ k.own (k.lo l) = some (.loop l) ∧ RepAll k args cargs.toList

theorem OpRes.pureVal (hS : Sim E k S) (hF : FRep k f g tmps) {o : Oper} {r : Option Val} {res : Res} (h : pureVal r S = some res)
    (hr : ∀ v, r = some v → ∃ cv, (execOp (evT tmps) o).run E.P k.w = .ok (.value cv) k.w ∧ ValRep k g tmps v cv) : OpRes E k S f g tmps o res := by
  simp only [V.pureVal, Option.map_eq_some_iff] at h
  obtain ⟨v, h, rfl⟩ := h
  obtain ⟨cv, h1, h2⟩ := hr v h
  exact ⟨k, _, .pure hS hF h1 h2⟩

theorem OpRes.one (hS : Sim E k S) (hF : FRep k f g tmps) {o : Oper} {r : Option (Val × Cls)} {res : Res} (h : one r S = some res)
    (hr : ∀ v c, r = some (v, c) → ∃ cv, (execOp (evT tmps) o).run E.P k.w = .ok (.value cv) k.w ∧ ValRep k g tmps v cv) : OpRes E k S f g tmps o res := by
  simp only [V.one, Option.map_eq_some_iff] at h
  obtain ⟨⟨v, c⟩, h, rfl⟩ := h
  obtain ⟨cv, h1, h2⟩ := hr v c h
  exact ⟨k, _, .pure hS hF h1 h2⟩

theorem loadVar_run {t : TypeId} {d : TypeDesc} {n c o off : Nat} {cs : List Val} {v : Val} (hd : E.und t = some d) (hn : E.size t = some n)
    (hc : CellsRep k c o cs) (h : ofCells d cs off n = some v) : ∃ cv, (loadVar t ⟨c, o + off, none⟩).run E.P k.w = .ok cv k.w ∧ Rep k v cv := by
  unfold ofCells at h
  split at h
  · rename_i hag
    simp only [Option.map_eq_some_iff] at h
    obtain ⟨l, hl, rfl⟩ := h
    obtain ⟨h1, h2⟩ := hc.sub hl
    obtain ⟨vs, h3, h4, h5⟩ := loadCells_run (E := E) h1
    refine ⟨.agg vs, ?_, by simp only [Rep]; exact ⟨vs, rfl, h4, h5⟩⟩
    rw [h2] at h3
    simp [loadVar, run_agg hd, hag, run_size hn, h3]
  · rename_i hag
    obtain ⟨cv, h1, h2, h3⟩ := hc _ _ h
    refine ⟨cv, ?_, h3⟩
    simp [loadVar, run_agg hd, hag, h1]

theorem op_load (hS : Sim E k S) (hF : FRep k f g tmps) {c : Ctx} {o : Oper} {t : TypeId} {a : Operand} (ho : o.op = .load t a) {r : Res} (h : opV E c g S o = some r) :
    OpRes E k S f g tmps o r := by
  simp only [opV, ho] at h
  split at h
  · rename_i d n p hd hn hp
    split at h
    · rename_i cs hcs
      refine .one hS hF h fun v cl hv => ?_
      simp only [Option.map_eq_some_iff, Prod.mk.injEq] at hv
      obtain ⟨v', hv, rfl, _⟩ := hv
      have hp' := place_rep hS hF hp
      obtain ⟨cc, co, h1, h2⟩ := cellsAt_rep hS hF hp' hcs
      obtain ⟨cv, h3, h4⟩ := loadVar_run hd hn h2 hv
      refine ⟨cv, ?_, .of h4⟩
      simp [execOp, ho, Instr.loadAt, Instr.sureAddr, h1, h3]
    · simp at h
  · simp at h

theorem PlaceRep.add {p : Place} {c x : Nat} (h : PlaceRep k g tmps p (.pointer (some ⟨c, x, none⟩))) (n : Nat) :
    PlaceRep k g tmps (p.add n) (.pointer (some ⟨c, x + n, none⟩)) := by
  cases p with
  | inl cs off =>
    obtain ⟨c', o, e, h⟩ := h
    simp only [Value.pointer.injEq, Option.some.injEq, Addr.mk.injEq, and_true] at e
    obtain ⟨rfl, rfl⟩ := e
    exact ⟨c, o, by simp [Nat.add_assoc], h⟩
  | lcl t off =>
    intro cs hcs
    obtain ⟨c', h1, e⟩ := h cs hcs
    simp only [Value.pointer.injEq, Option.some.injEq, Addr.mk.injEq, and_true] at e
    obtain ⟨rfl, rfl⟩ := e
    exact ⟨c, h1, rfl⟩
  | hp b off e =>
    cases e with
    | none =>
      simp only [PlaceRep, Rep, Place.add, Value.pointer.injEq, Option.some.injEq, Addr.mk.injEq, and_true] at h ⊢
      exact ⟨h.1, h.2.1, by omega⟩
    | some e =>
      simp only [PlaceRep, Rep, Place.add] at h ⊢
      obtain ⟨n', q, h1, h2, h3, h4⟩ := h
      simp only [Value.pointer.injEq] at h3; subst h3
      refine ⟨n', _, h1, h2, rfl, fun e => ?_⟩
      have := h4 e
      simp only [Option.some.injEq, Addr.mk.injEq, and_true] at this ⊢
      exact ⟨this.1, by omega⟩

theorem add_addr {a : Addr} (h : a.spot = none) (n : Nat) : a.add n = ⟨a.block, a.off + n, none⟩ := by
  unfold Addr.add
  split
  · rename_i e; subst e; cases a; simp_all
  · rfl

theorem op_fieldAddr (hS : Sim E k S) (hF : FRep k f g tmps) {c : Ctx} {o : Oper} {t : TypeId} {x : Operand} {i : Nat} (ho : o.op = .fieldAddr t x i) {r : Res} (h : opV E c g S o = some r) :
    OpRes E k S f g tmps o r := by
  simp only [opV, ho] at h
  split at h
  · rename_i fd p hfd hp
    split at h
    · rename_i m cs hsz hcs
      refine .one hS hF h fun v cl hv => ?_
      simp only [Option.some.injEq, Prod.mk.injEq] at hv; obtain ⟨rfl, _⟩ := hv
      have hp' := place_rep hS hF hp
      obtain ⟨cc, co, h1, _⟩ := cellsAt_rep hS hF hp' hcs
      rw [h1] at hp'
      refine ⟨_, ?_, Place.val_rep (hp'.add fd.offset)⟩
      unfold fieldOf at hfd
      split at hfd
      · rename_i fs hu
        simp [execOp, ho, Instr.fieldAt, run_underlying hu, hfd, Instr.sureAddr, h1, fieldPlace, run_size hsz, Addr.add_mid]
      · simp at hfd
    · simp at h
  · simp at h

theorem op_indexAddr (hS : Sim E k S) (hF : FRep k f g tmps) {c : Ctx} {o : Oper} {t : TypeId} {x i : Operand} (ho : o.op = .indexAddr t x i) {r : Res} (h : opV E c g S o = some r) :
    OpRes E k S f g tmps o r := by
  simp only [opV, ho] at h
  split at h
  · rename_i q n hi
    have hi' := (ev_rep hS hF hi).1
    simp only [Rep] at hi'
    split at h
    · rename_i e hu
      split at h
      · rename_i sz cs len q' hsz hx
        split at h
        · rename_i hn
          refine .pureVal hS hF h fun v hv => ?_
          simp only [Option.some.injEq] at hv; subst hv
          have hx' := (ev_rep hS hF hx).1
          simp only [Rep] at hx'
          obtain ⟨a, cp, h1, h2, h3, h4, h5⟩ := hx'
          obtain ⟨cc, co, rfl, hm⟩ := h5.resolve_left (by omega)
          refine ⟨.pointer (some ⟨cc, co + n.toNat * sz, none⟩), ?_, .of (by simp only [Rep]; exact ⟨cc, co, rfl, hm⟩)⟩
          simp [execOp, ho, Instr.indexAt, asIntOf, hi', h1, run_underlying hu, hn.1, hn.2, run_size hsz, Addr.add_mid]
        · simp at h
      · rename_i sz b off len es cp hsz hx
        split at h
        · rename_i hn
          refine .one hS hF h fun v cl hv => ?_
          simp only [Option.some.injEq, Prod.mk.injEq] at hv; obtain ⟨rfl, _⟩ := hv
          obtain ⟨cs, hcs⟩ := Option.isSome_iff_exists.1 hn.2.2
          have hx' := (ev_rep hS hF hx).1
          obtain ⟨cap, h1, h2, h3, h4, h5⟩ := sl_rep hS hx' hcs
          refine ⟨.pointer (some ⟨(k.σ b).1, (k.σ b).2 + (off + n.toNat * sz), none⟩), ?_, ?_⟩
          · simp [execOp, ho, Instr.indexAt, asIntOf, hi', h1, run_underlying hu, hn.1, hn.2.1, run_size hsz, Addr.add_mid, Nat.add_assoc]
          · apply ValRep.of
            obtain ⟨hb, hlen⟩ := hcells_some hcs
            have hsh : k.sh b = some (.cells cp.ext.isSome cs.length) := by rw [hS.sh, hb]; rfl
            cases cp with
            | fix c => simp only [Cap.ext, Rep]; exact ⟨⟨_, hsh⟩, trivial⟩
            | flex e' => simp only [Cap.ext, Rep]; exact ⟨_, _, hsh, by rw [hlen e' rfl]; exact Nat.le_refl _, rfl, fun _ => rfl⟩
        · simp at h
      · simp at h
    · rename_i len e hu
      split at h
      · rename_i sz p hsz hp
        split at h
        · rename_i hn
          refine .one hS hF h fun v cl hv => ?_
          simp only [Option.some.injEq, Prod.mk.injEq] at hv; obtain ⟨rfl, _⟩ := hv
          obtain ⟨cs, hcs⟩ := Option.isSome_iff_exists.1 hn.2.2
          have hp' := place_rep hS hF hp
          obtain ⟨cc, co, h1, _⟩ := cellsAt_rep hS hF hp' hcs
          rw [h1] at hp'
          refine ⟨_, ?_, Place.val_rep (hp'.add (n.toNat * sz))⟩
          simp [execOp, ho, Instr.indexAt, asIntOf, hi', h1, run_underlying hu, Instr.sureAddr, hn.1, hn.2.1, run_size hsz, Addr.add_mid]
        · simp at h
      · simp at h
    · simp at h
  · simp at h
end
end Go.V

/- More operations that read. -/
namespace Go.V
section
variable {E : Env} {k : K} {S : St} {f : Nat} {g : G} {tmps : Array Value} {w : World}

theorem op_move (hS : Sim E k S) (hF : FRep k f g tmps) {c : Ctx} {o : Oper} {x : Operand} (ho : o.op = .move x ∨ o.op = .assign x) {r : Res} (h : opV E c g S o = some r) :
    OpRes E k S f g tmps o r := by
  have h' : pureVal (ev E g x) S = some r := by rcases ho with ho | ho <;> simpa only [opV, ho] using h
  refine .pureVal hS hF h' fun v hv => ⟨evT tmps x, ?_, .of (ev_rep hS hF hv).1⟩
  rcases ho with ho | ho <;> simp [execOp, ho]

theorem op_pick (hS : Sim E k S) (hF : FRep k f g tmps) {c : Ctx} {o : Oper} {q a b : Operand} (ho : o.op = .pick q a b) {r : Res} (h : opV E c g S o = some r) :
    OpRes E k S f g tmps o r := by
  simp only [opV, ho] at h
  split at h
  · rename_i t ht
    have ht' := (ev_rep hS hF ht).1
    simp only [Rep] at ht'
    refine .pureVal hS hF h fun v hv => ⟨evT tmps (if t then a else b), ?_, .of (ev_rep hS hF hv).1⟩
    cases t <;> simp [execOp, ho, ht', asBool]
  · simp at h

theorem op_nilCheck (hS : Sim E k S) (hF : FRep k f g tmps) {c : Ctx} {o : Oper} {x : Operand} (ho : o.op = .nilCheck x) {r : Res} (h : opV E c g S o = some r) :
    OpRes E k S f g tmps o r := by
  simp only [opV, ho] at h
  split at h
  · rename_i p hp
    split at h
    · rename_i hc
      obtain ⟨cs, hcs⟩ := Option.isSome_iff_exists.1 hc
      refine .one hS hF h fun v cl hv => ?_
      simp only [Option.some.injEq, Prod.mk.injEq] at hv; obtain ⟨rfl, _⟩ := hv
      have hp' := place_rep hS hF hp
      obtain ⟨cc, co, h1, _⟩ := cellsAt_rep hS hF hp' hcs
      refine ⟨_, ?_, Place.val_rep hp'⟩
      simp [execOp, ho, h1]
    · simp at h
  · split at h
    · rename_i hv
      refine .pureVal hS hF h fun v hv' => ?_
      simp only [Option.some.injEq] at hv'; subst hv'
      have hx := (ev_rep hS hF hv).1
      have hx' := hx
      simp only [Rep] at hx'
      obtain ⟨a, h1, _⟩ := hx'
      exact ⟨evT tmps x, by simp [execOp, ho, h1], .of hx⟩
    · rename_i hv
      refine .pureVal hS hF h fun v hv' => ?_
      simp only [Option.some.injEq] at hv'; subst hv'
      have hx := (ev_rep hS hF hv).1
      have hx' := hx
      simp only [Rep] at hx'
      exact ⟨evT tmps x, by simp [execOp, ho, hx'.2], .of hx⟩
    · simp at h

theorem op_binOp (hS : Sim E k S) (hF : FRep k f g tmps) {c : Ctx} {o : Oper} {op : BinOp} {t u : TypeId} {x y : Operand} (ho : o.op = .binOp op t x y u) {r : Res} (h : opV E c g S o = some r) :
    OpRes E k S f g tmps o r := by
  simp only [opV, ho] at h
  split at h
  · rename_i a b ha hb
    refine .pureVal hS hF h fun v hv => ?_
    obtain ⟨cv, h1, h2⟩ := binOp_run (w := k.w) (ox := x) (oy := y) hv (ev_rep hS hF ha).1 (ev_rep hS hF hb).1
    refine ⟨cv, ?_, .of h2⟩
    simp only [execOp, ho, Sem.run_bind] at h1 ⊢
    rw [h1]; rfl
  · simp at h

theorem op_unOp (hS : Sim E k S) (hF : FRep k f g tmps) {c : Ctx} {o : Oper} {op : UnOp} {t : TypeId} {x : Operand} (ho : o.op = .unOp op t x) {r : Res} (h : opV E c g S o = some r) :
    OpRes E k S f g tmps o r := by
  simp only [opV, ho] at h
  split at h
  · rename_i a ha
    refine .pureVal hS hF h fun v hv => ?_
    obtain ⟨cv, h1, h2⟩ := unOp_run (E := E) (w := k.w) hv (ev_rep hS hF ha).1
    exact ⟨cv, by simp [execOp, ho, h1], .of h2⟩
  · simp at h

theorem op_field (hS : Sim E k S) (hF : FRep k f g tmps) {c : Ctx} {o : Oper} {t : TypeId} {x : Operand} {i : Nat} (ho : o.op = .field t x i) {r : Res} (h : opV E c g S o = some r) :
    OpRes E k S f g tmps o r := by
  simp only [opV, ho] at h
  split at h
  · rename_i fd cs hfd hx
    split at h
    · rename_i d n hd hn
      refine .pureVal hS hF h fun v hv => ?_
      have hx' := (ev_rep hS hF hx).1
      simp only [Rep] at hx'
      obtain ⟨a, h1, h2, h3⟩ := hx'
      obtain ⟨cv, h4, h5⟩ := part_run (w := k.w) hd hn h2 h3 hv
      refine ⟨cv, ?_, .of h5⟩
      unfold fieldOf at hfd
      split at hfd
      · rename_i fs hu
        simp [execOp, ho, Instr.field, run_underlying hu, hfd, h1, asAgg, h4]
      · simp at hfd
    · simp at h
  · simp at h

theorem op_extract (hS : Sim E k S) (hF : FRep k f g tmps) {c : Ctx} {o : Oper} {x : Operand} {i : Nat} (ho : o.op = .extract x i) {r : Res} (h : opV E c g S o = some r) :
    OpRes E k S f g tmps o r := by
  simp only [opV, ho] at h
  split at h
  · rename_i vs hx
    refine .pureVal hS hF h fun v hv => ?_
    have hx' := (ev_rep hS hF hx).1
    simp only [Rep] at hx'
    obtain ⟨a, h1, h2⟩ := hx'
    obtain ⟨cv, h3, h4⟩ := h2.get hv
    refine ⟨cv, ?_, .of h4⟩
    have h3' : a[i]? = some cv := by rw [← Array.getElem?_toList]; exact h3
    simp [execOp, ho, Instr.extract, h1, h3']
  · simp at h

theorem op_index (hS : Sim E k S) (hF : FRep k f g tmps) {c : Ctx} {o : Oper} {t : TypeId} {x i : Operand} (ho : o.op = .index t x i) {r : Res} (h : opV E c g S o = some r) :
    OpRes E k S f g tmps o r := by
  simp only [opV, ho] at h
  split at h
  · rename_i q n hi
    have hi' := (ev_rep hS hF hi).1
    simp only [Rep] at hi'
    split at h
    · rename_i s hu hx
      have hx' := (ev_rep hS hF hx).1
      simp only [Rep] at hx'
      obtain ⟨a, h1, h2⟩ := hx'
      split at h
      · rename_i hn
        refine .pureVal hS hF h fun v hv => ?_
        simp only [Option.map_eq_some_iff] at hv
        obtain ⟨b, hb, rfl⟩ := hv
        refine ⟨.int .u8 b.toNat, ?_, .of rep_int⟩
        have hb' : a[n.toNat]? = some b := by
          rw [← h2] at hb
          obtain ⟨hlt, hb⟩ := List.getElem?_eq_some_iff.1 hb
          have e : a.data.toList.length = a.size := by rw [Array.length_toList]; rfl
          rw [e] at hlt
          rw [getElem?_pos a n.toNat hlt, ← hb]
          simp [ByteArray.getElem_eq_getElem_data]
        simp [execOp, ho, Instr.index, asIntOf, hi', h1, run_underlying hu, hn, hb']
      · simp at h
    · rename_i len e cs hu hx
      split at h
      · rename_i d sz hd hsz
        split at h
        · rename_i hn
          refine .pureVal hS hF h fun v hv => ?_
          have hx' := (ev_rep hS hF hx).1
          simp only [Rep] at hx'
          obtain ⟨a, h1, h2, h3⟩ := hx'
          obtain ⟨cv, h4, h5⟩ := part_run (w := k.w) hd hsz h2 h3 hv
          exact ⟨cv, by simp [execOp, ho, Instr.index, asIntOf, hi', h1, run_underlying hu, hn.1, hn.2, run_size hsz, h4], .of h5⟩
        · simp at h
      · simp at h
    · simp at h
  · simp at h

theorem bound_run (hS : Sim E k S) (hF : FRep k f g tmps) {o : Option Operand} {r : Option Nat} (h : bound E g o = some r) :
    (r = none ∧ o = none) ∨ ∃ x q n, o = some x ∧ r = some n ∧ evT tmps x = .int q (n : Int) := by
  unfold bound at h
  split at h
  · simp only [Option.some.injEq] at h; subst h; exact .inl ⟨rfl, rfl⟩
  · rename_i x
    split at h
    · rename_i q n hx
      split at h
      · rename_i hn
        simp only [Option.some.injEq] at h; subst h
        have hx' := (ev_rep hS hF hx).1
        simp only [Rep] at hx'
        exact .inr ⟨x, q, n.toNat, rfl, rfl, by rw [hx', Int.toNat_of_nonneg hn]⟩
      · simp at h
    · simp at h

theorem sliceBounds_run (hS : Sim E k S) (hF : FRep k f g tmps) {lo hi mx : Option Operand} {l h m : Option Nat} (hl : bound E g lo = some l) (hh : bound E g hi = some h) (hm : bound E g mx = some m)
    (isS : Bool) {len cap : Nat} (h1 : l.getD 0 ≤ h.getD len) (h2 : h.getD len ≤ m.getD cap) (h3 : m.getD cap ≤ cap) (h4 : m = none ∨ h.isSome = true) (w : World) :
    (Instr.sliceBounds isS len cap (lo.map (evT tmps)) (hi.map (evT tmps)) (mx.map (evT tmps))).run E.P w = .ok (l.getD 0, h.getD len, m.getD cap) w := by
  have hb : ∀ {q : IntKind} {n y : Nat} {code : BoundsCode}, n ≤ y → (Instr.sliceBound (.int q (n : Int)) y code).run E.P w = .ok n w := by
    intro q n y code hn
    have : (n : Int) ≤ (y : Int) := by omega
    simp [Instr.sliceBound, asIntOf, this]
  rcases bound_run hS hF hl with ⟨rfl, rfl⟩ | ⟨x, q, n, rfl, rfl, e1⟩ <;>
  rcases bound_run hS hF hh with ⟨rfl, rfl⟩ | ⟨x', q', n', rfl, rfl, e2⟩ <;>
  rcases bound_run hS hF hm with ⟨rfl, rfl⟩ | ⟨x'', q'', n'', rfl, rfl, e3⟩ <;>
  simp only [Option.getD_none, Option.getD_some, Option.map_none, Option.map_some, reduceCtorEq, Option.isSome_none, Option.isSome_some, Bool.false_eq_true, or_self, or_true, true_or] at h1 h2 h3 h4 ⊢ <;>
  simp only [Instr.sliceBounds, Sem.run_bind, Sem.run_pure, Result.andThen_ok, *, hb h1, hb h2, hb h3]
end
end Go.V

/- Slices, conversions, literals. -/
namespace Go.V
section
variable {E : Env} {k : K} {S : St} {f : Nat} {g : G} {tmps : Array Value} {w : World}

theorem RepMem.cut {c o : Nat} {cs l : List Val} {off n : Nat} (h : RepMem k c o cs) (hl : V.cut cs off n = some l) : RepMem k c (o + off) l := by
  unfold V.cut at hl
  split at hl
  · simp only [Option.some.injEq] at hl; subst hl
    refine RepMem.mk fun i x hi => ?_
    rw [List.getElem?_take] at hi
    split at hi
    · rw [List.getElem?_drop] at hi
      rw [show o + off + i = o + (off + i) by omega]
      exact h.get hi
    · simp at hi
  · simp at hl

theorem op_slice (hS : Sim E k S) (hF : FRep k f g tmps) {c : Ctx} {o : Oper} {t : TypeId} {x : Operand} {lo hi mx : Option Operand} (ho : o.op = .slice t x lo hi mx) {r : Res} (h : opV E c g S o = some r) :
    OpRes E k S f g tmps o r := by
  simp only [opV, ho] at h
  refine .one hS hF h fun v cl hv => ?_
  unfold sliceOp at hv
  split at hv
  · -- a string
    rename_i l hh hl hhi hmx hu
    split at hv
    · rename_i s hx
      have hx' := (ev_rep hS hF hx).1
      simp only [Rep] at hx'
      obtain ⟨a, h1, h2⟩ := hx'
      split at hv
      · rename_i hb
        simp only [Option.some.injEq, Prod.mk.injEq] at hv
        obtain ⟨rfl, _⟩ := hv
        have e : s.length = a.size := by rw [← h2, Array.length_toList]; rfl
        have hbr := sliceBounds_run hS hF hl hhi hmx false (len := a.size) (cap := a.size) (by rw [← e]; exact hb.1) (by rw [← e]; exact hb.2) (Nat.le_refl _) (.inl rfl) k.w
        have hmn : mx = none := by
          rcases bound_run hS hF hmx with ⟨_, h⟩ | ⟨_, _, _, _, h, _⟩
          · exact h
          · simp at h
        subst hmn
        refine ⟨.string (a.extract (l.getD 0) (hh.getD a.size)), ?_, .of ?_⟩
        · have hu' : ∀ w, (underlying t).run E.P w = .ok .string w := fun w => run_underlying hu w
          simp only [Option.map_none] at hbr
          simp [execOp, ho, Instr.sliceAt, Instr.slice, hu', h1, hbr]
        · simp only [Rep]
          refine ⟨_, rfl, ?_⟩
          rw [← e, ← h2]
          simp [ByteArray.extract, ByteArray.copySlice]
      · simp at hv
    · simp at hv
  · -- a slice
    rename_i l hh m e hl hhi hmx hu
    have hu' : ∀ w, (underlying t).run E.P w = .ok (.slice e) w := fun w => run_underlying hu w
    split at hv
    · -- in the heap, fixed
      rename_i sz b off len esz cp hsz hx
      have hx' := (ev_rep hS hF hx).1
      simp only [Rep] at hx'
      obtain ⟨h0, h1, h2⟩ := hx'
      split at hv
      · rename_i hb
        simp only [Option.some.injEq, Prod.mk.injEq] at hv
        obtain ⟨rfl, _⟩ := hv
        obtain ⟨hb1, hb2, hb3, hb4, hb5⟩ := hb
        have hbr := sliceBounds_run hS hF hl hhi hmx true (len := len) (cap := cp) hb1 hb2 hb3 hb5 k.w
        have hne : m.getD cp ≠ l.getD 0 := by omega
        refine ⟨.slice (some ⟨(k.σ b).1, (k.σ b).2 + (off + l.getD 0 * sz), none⟩) (hh.getD len - l.getD 0) (m.getD cp - l.getD 0), ?_, .of ?_⟩
        · simp [execOp, ho, Instr.sliceAt, Instr.slice, hu', h1, hbr, run_size hsz, hne, Addr.add_mid, Nat.add_assoc]
        · simp only [Rep]
          exact ⟨h0, trivial, by omega⟩
      · simp at hv
    · rename_i sz b off len esz e' hsz hx
      have hx' := (ev_rep hS hF hx).1
      split at hv
      · rename_i hb
        obtain ⟨rfl, hb1, hb2, hb3, rfl, hb6⟩ := hb
        simp only [Option.some.injEq, Prod.mk.injEq] at hv
        obtain ⟨rfl, _⟩ := hv
        obtain ⟨cs, hcs⟩ := Option.isSome_iff_exists.1 hb6
        obtain ⟨cap, h1, h2, h3, h4, h5⟩ := sl_rep hS hx' hcs
        have hbr := sliceBounds_run hS hF hl hhi hmx true (len := len) (cap := cap) hb1 (by simp; omega) (by simp) (.inl rfl) k.w
        have hne : cap ≠ l.getD 0 ∨ l.getD 0 = 0 := by omega
        refine ⟨.slice (some ⟨(k.σ b).1, (k.σ b).2 + (off + l.getD 0 * esz), none⟩) (hh.getD len - l.getD 0) (cap - l.getD 0), ?_, .of ?_⟩
        · simp only [Option.getD_none] at hbr
          rcases hne with hne | h0
          · simp [execOp, ho, Instr.sliceAt, Instr.slice, hu', h1, hbr, run_size hsz, hne, Addr.add_mid, Nat.add_assoc]
          · simp only [h0, Nat.zero_mul, Nat.add_zero, Nat.sub_zero] at hbr ⊢
            simp [execOp, ho, Instr.sliceAt, Instr.slice, hu', h1, hbr, run_size hsz, Addr.add_mid]
        · simp only [Rep] at hx' ⊢
          obtain ⟨n, p, cap', q1, q2, q3, q4⟩ := hx'
          refine ⟨n, _, _, q1, q2, rfl, fun en => ⟨rfl, ?_⟩⟩
          rw [h1] at q3
          simp only [Value.slice.injEq, true_and] at q3
          obtain ⟨_, rfl⟩ := q3
          obtain ⟨_, q5, q6, q7⟩ := q4 en
          rw [Nat.sub_mul]
          have : l.getD 0 * esz ≤ cap * esz := Nat.mul_le_mul_right _ (by omega)
          omega
      · split at hv
        · rename_i hb
          obtain ⟨hb1, hb2, rfl, hb6⟩ := hb
          simp only [Option.some.injEq, Prod.mk.injEq] at hv
          obtain ⟨rfl, _⟩ := hv
          obtain ⟨cs, hcs⟩ := Option.isSome_iff_exists.1 hb6
          obtain ⟨cap, h1, h2, h3, h4, h5⟩ := sl_rep hS hx' hcs
          have hbr := sliceBounds_run hS hF hl hhi hmx true (len := len) (cap := cap) (by omega) (by simp; omega) (by simp) (.inl rfl) k.w
          simp only [Option.getD_none] at hbr
          refine ⟨.slice (if cap = l.getD 0 then some ⟨(k.σ b).1, (k.σ b).2 + off, none⟩ else some ⟨(k.σ b).1, (k.σ b).2 + (off + l.getD 0 * sz), none⟩) (hh.getD len - l.getD 0) (cap - l.getD 0), ?_, .of ?_⟩
          · by_cases hc : cap = l.getD 0
            · subst hc
              simp [execOp, ho, Instr.sliceAt, Instr.slice, hu', h1, hbr, run_size hsz]
            · simp [execOp, ho, Instr.sliceAt, Instr.slice, hu', h1, hbr, run_size hsz, hc, Addr.add_mid, Nat.add_assoc]
          · simp only [Rep]
            exact ⟨_, _, by rw [hb1, Nat.sub_self], Nat.zero_le _, by simp, ⟨by simp, fun _ => by split <;> rfl⟩, .inl trivial⟩
        · simp at hv
    · -- inline
      rename_i sz cs len q hsz hx
      have hx' := (ev_rep hS hF hx).1
      simp only [Rep] at hx'
      obtain ⟨a, cp, h1, h2, h3, h4, h5⟩ := hx'
      split at hv
      · rename_i hb
        obtain ⟨hb1, hb2, hb3, hb4⟩ := hb
        simp only [Option.map_eq_some_iff, Prod.mk.injEq] at hv
        obtain ⟨cs', hcs', rfl, _⟩ := hv
        have hm3 : hh.getD len ≤ m.getD cp ∧ m.getD cp ≤ cp := by
          cases m with
          | none => simp; omega
          | some m' =>
            obtain rfl : hh = some m' := by simpa using hb3
            simp only [Option.getD_some] at hb2 ⊢
            exact ⟨Nat.le_refl _, by omega⟩
        have hbr := sliceBounds_run hS hF hl hhi hmx true (len := len) (cap := cp) hb1 hm3.1 hm3.2 hb4 k.w
        refine ⟨.slice (if m.getD cp = l.getD 0 then a else a.map (·.add (l.getD 0 * sz))) (hh.getD len - l.getD 0) (m.getD cp - l.getD 0), ?_, .of ?_⟩
        · simp [execOp, ho, Instr.sliceAt, Instr.slice, hu', h1, hbr, run_size hsz]
        · simp only [Rep]
          refine ⟨_, _, rfl, by omega, ?_, ⟨?_, ?_⟩, ?_⟩
          · intro hq
            split at hq
            · rename_i hq'
              obtain ⟨rfl, rfl⟩ := h3 hq'
              exact ⟨by simp, by omega⟩
            · split at hq <;> simp at hq
          · intro hq
            split at hq
            · simp at hq
            · split at hq
              · rename_i hx
                rcases hx with ⟨rfl, hx0, hx2⟩ | ⟨hx1, hx2⟩
                · obtain ⟨z, hz⟩ := Option.isSome_iff_exists.1 hx0
                  rw [hz]; rfl
                · have this := h4.1 hx1
                  cases m with
                  | none => simp only [Option.getD_none]; omega
                  | some m' =>
                    obtain rfl : hh = some m' := by simpa using hb3
                    rfl
              · simp at hq
          · intro hq
            have hqn : q ≠ .nil := fun e => hq (by rw [if_pos e])
            have hsome := h4.2 hqn
            split
            · exact hsome
            · simp [hsome]
          · rcases h5 with h5 | ⟨c, o', rfl, hm⟩
            · left; omega
            · rcases Nat.eq_zero_or_pos (hh.getD len - l.getD 0) with hz | hz
              · exact .inl hz
              · right
                have hne : m.getD cp ≠ l.getD 0 := by omega
                refine ⟨c, o' + l.getD 0 * sz, ?_, hm.cut hcs'⟩
                simp [hne, Addr.add_mid]
      · simp at hv
    · simp at hv
  · -- an array behind an address
    rename_i l hh n e hl hhi hmx hu
    have hu' : ∀ w, (underlying t).run E.P w = .ok (.array n e) w := fun w => run_underlying hu w
    have hmn : mx = none := by
      rcases bound_run hS hF hmx with ⟨_, h⟩ | ⟨_, _, _, _, h, _⟩
      · exact h
      · simp at h
    subst hmn
    split at hv
    · rename_i sz b off hsz hp
      have hp' := place_rep hS hF hp
      simp only [PlaceRep, Rep] at hp'
      obtain ⟨h0, h1⟩ := hp'
      split at hv
      · rename_i hb
        simp only [Option.some.injEq, Prod.mk.injEq] at hv
        obtain ⟨rfl, _⟩ := hv
        have hbr := sliceBounds_run hS hF hl hhi hmx false (len := n) (cap := n) hb.1 (by simpa using hb.2.1) (by simp) (.inl rfl) k.w
        have hne : n ≠ l.getD 0 := by omega
        refine ⟨.slice (some ⟨(k.σ b).1, (k.σ b).2 + (off + l.getD 0 * sz), none⟩) (hh.getD n - l.getD 0) (n - l.getD 0), ?_, .of ?_⟩
        · simp only [Option.map_none, Option.getD_none] at hbr
          simp [execOp, ho, Instr.sliceAt, hu', h1, Instr.sureAddr, hbr, run_size hsz, hne, Addr.add_mid, Nat.add_assoc]
        · simp only [Rep]
          exact ⟨h0, trivial, by omega⟩
      · simp at hv
    · rename_i sz cs off hsz hp
      have hp' := place_rep hS hF hp
      obtain ⟨c, o', h1, hm⟩ := hp'
      split at hv
      · rename_i hb
        simp only [Option.map_eq_some_iff, Prod.mk.injEq] at hv
        obtain ⟨cs', hcs', rfl, _⟩ := hv
        have hbr := sliceBounds_run hS hF hl hhi hmx false (len := n) (cap := n) hb.1 (by simpa using hb.2.1) (by simp) (.inl rfl) k.w
        have hne : n ≠ l.getD 0 := by omega
        refine ⟨.slice (some ⟨c, o' + (off + l.getD 0 * sz), none⟩) (hh.getD n - l.getD 0) (n - l.getD 0), ?_, .of ?_⟩
        · simp only [Option.map_none, Option.getD_none] at hbr
          simp [execOp, ho, Instr.sliceAt, hu', h1, Instr.sureAddr, hbr, run_size hsz, hne, Addr.add_mid, Nat.add_assoc]
        · simp only [Rep]
          exact ⟨_, _, rfl, by omega, by simp, by simp, .inr ⟨c, _, rfl, hm.cut hcs'⟩⟩
      · simp at hv
    · simp at hv
  · simp at hv
end
end Go.V

/- Literals of structs, arrays and slices. -/
namespace Go.V
section
variable {E : Env} {k : K} {S : St} {f : Nat} {g : G} {tmps : Array Value} {w : World}

theorem foldl_set (off : Nat) : ∀ (l : List Value) (j : Nat) (a : Array Value), off + j + l.length ≤ a.size →
    ((l.zipIdx j).foldl (fun (cs : Array Value) (x : Value × Nat) => cs.setIfInBounds (off + x.2) x.1) a).toList = a.toList.take (off + j) ++ l ++ a.toList.drop (off + j + l.length)
  | [], j, a, _ => by simp
  | v :: l, j, a, h => by
    simp only [List.length_cons] at h
    rw [List.zipIdx_cons, List.foldl_cons, foldl_set off l (j + 1) _ (by simp; omega)]
    simp only [Array.toList_setIfInBounds, List.length_cons]
    rw [List.drop_set_of_lt (by omega), show off + (j + 1) = off + j + 1 by omega]
    rw [List.take_succ_eq_append_getElem (by simp; omega)]
    rw [List.take_set_of_le (by omega)]
    simp
    congr 1; omega

theorem over_rep {cs new cs' : List Val} {off : Nat} {a b : List Value} (h : RepAll k cs a) (h' : RepAll k new b) (ho : over cs off new = some cs') :
    RepAll k cs' (a.take off ++ b ++ a.drop (off + b.length)) ∧ off + b.length ≤ a.length := by
  unfold over at ho
  split at ho
  · rename_i hl
    simp only [Option.some.injEq] at ho; subst ho
    have e1 := h.length
    have e2 := h'.length
    rw [e2]
    exact ⟨((h.take off).append h').append (h.drop _), by omega⟩
  · simp at ho

theorem fill_run {place : Nat → Option (Nat × Nat)} : ∀ {parts : List (Nat × Val)} {cparts : List (Nat × Value)} {cs cs' : List Val} {a : Array Value},
    fillAt place cs parts = some cs' → RepAll k cs a.toList → (∀ x ∈ a.toList, x.oneCell' = true) →
    parts.map (·.1) = cparts.map (·.1) → RepAll k (parts.map (·.2)) (cparts.map (·.2)) →
    ∃ a', Instr.fill place a cparts = some a' ∧ RepAll k cs' a'.toList ∧ ∀ x ∈ a'.toList, x.oneCell' = true
  | [], [], cs, cs', a, h, hr, h1, _, _ => by
    simp only [fillAt, Option.some.injEq] at h; subst h
    exact ⟨a, rfl, hr, h1⟩
  | (i, v) :: parts, (j, c) :: cparts, cs, cs', a, h, hr, h1, hi, hp => by
    simp only [List.map_cons, List.cons.injEq, RepAll] at hi hp
    obtain ⟨rfl, hi⟩ := hi
    simp only [fillAt] at h
    split at h
    · rename_i off size hpl
      split at h
      · rename_i hs
        split at h
        · rename_i cs1 hov
          obtain ⟨hc, hc1⟩ := hp.1.cells hs.2
          obtain ⟨h2, h3⟩ := over_rep hr hc hov
          have e := hc.length
          have hsz : c.cells.size = size := by rw [← hs.1, e]; simp
          have hfit : ¬ (off + c.cells.size > a.size) := by simp at h3; omega
          let a2 := c.cells.zipIdx.foldl (fun (cs : Array Value) (x : Value × Nat) => cs.setIfInBounds (off + x.2) x.1) a
          have ha2 : a2.toList = a.toList.take off ++ c.cells.toList ++ a.toList.drop (off + c.cells.toList.length) := by
            have := foldl_set off c.cells.toList 0 a (by simp at h3 ⊢; omega)
            simp only [Nat.add_zero] at this
            rw [← this]
            show (c.cells.zipIdx.foldl _ a).toList = _
            rw [← Array.foldl_toList, Array.toList_zipIdx]
          obtain ⟨a', h4, h5, h6⟩ := fill_run (a := a2) h (by rw [ha2]; exact h2) (by
            rw [ha2]
            intro x hx
            simp only [List.mem_append] at hx
            rcases hx with (hx | hx) | hx
            · exact h1 x (List.mem_of_mem_take hx)
            · exact hc1 x hx
            · exact h1 x (List.mem_of_mem_drop hx)) hi hp.2
          refine ⟨a', ?_, h5, h6⟩
          simp only [Instr.fill, hpl, hsz, ne_eq, not_true_eq_false, decide_false, Bool.false_or, decide_eq_true_eq]
          rw [if_neg (by rw [← hsz]; exact hfit)]
          exact h4
        · simp at h
      · simp at h
    · simp at h
  | [], _ :: _, _, _, _, _, _, _, hi, _ => by simp at hi
  | _ :: _, [], _, _, _, _, _, _, hi, _ => by simp at hi

theorem evParts_rep (hS : Sim E k S) (hF : FRep k f g tmps) : ∀ {l : List (Nat × Operand)} {ps : List (Nat × Val)}, evParts E g l = some ps →
    ps.map (·.1) = (l.map fun x => (x.1, evT tmps x.2)).map (·.1) ∧ RepAll k (ps.map (·.2)) ((l.map fun x => (x.1, evT tmps x.2)).map (·.2))
  | [], ps, h => by simp only [evParts, Option.some.injEq] at h; subst h; simp [RepAll]
  | (i, o) :: l, ps, h => by
    simp only [evParts] at h
    split at h
    · rename_i v r hv hr
      simp only [Option.some.injEq] at h; subst h
      obtain ⟨h1, h2⟩ := evParts_rep hS hF hr
      simp only [List.map_cons, List.cons.injEq, true_and, RepAll]
      exact ⟨h1, (ev_rep hS hF hv).1, h2⟩
    · simp at h

theorem zero_run {t : TypeId} {z : List Val} (h : zeroCells E t = some z) (k : K) : ∃ zv : Value, (∀ w, (zeroValue t).run E.P w = .ok zv w) ∧ RepAll k z zv.cells.toList ∧ ∀ x ∈ zv.cells.toList, x.oneCell' = true := by
  unfold zeroCells at h
  split at h
  · rename_i i hi
    split at h
    · rename_i zv hz
      simp only [Option.map_eq_some_iff] at h
      obtain ⟨v, hv, rfl⟩ := h
      obtain ⟨h1, h2⟩ := (ofConst_rep (k := k) hv).cells (ofConst_sto hv)
      exact ⟨zv, fun w => by simp [zeroValue, typeInfo, hi, hz], h1, h2⟩
    · simp at h
  · simp at h

theorem places_run : ∀ {fs : List Field} {pl : List (Nat × Nat)}, placesOf E fs = some pl → ∀ w, (fs.mapM fun f => do pure (f.offset, ← sizeOf f.type) : Sem (List (Nat × Nat))).run E.P w = .ok pl w
  | [], pl, h, w => by simp only [placesOf, Option.some.injEq] at h; subst h; simp
  | fd :: l, pl, h, w => by
    simp only [placesOf] at h
    split at h
    · rename_i n r hn hr
      simp only [Option.some.injEq] at h; subst h
      rw [List.mapM_cons]
      simp only [Sem.run_bind, run_size hn, Result.andThen_ok, Sem.run_pure, places_run hr w]
    · simp at h

theorem op_build (hS : Sim E k S) (hF : FRep k f g tmps) {c : Ctx} {o : Oper} {t : TypeId} {parts : Array (Nat × Operand)} (ho : o.op = .build t parts) {r : Res} (h : opV E c g S o = some r) :
    OpRes E k S f g tmps o r := by
  simp only [opV, ho] at h
  split at h
  · rename_i z ps hz hps
    obtain ⟨zv, hz1, hz2, hz3⟩ := zero_run hz k
    obtain ⟨hp1, hp2⟩ := evParts_rep hS hF hps
    have hpt : (parts.map fun (i, x) => (i, evT tmps x)).toList = parts.toList.map fun x => (x.1, evT tmps x.2) := by simp
    split at h
    · rename_i fs hu
      split at h
      · rename_i pl hpl
        refine .pureVal hS hF h fun v hv => ?_
        simp only [Option.map_eq_some_iff] at hv
        obtain ⟨cs, hcs, rfl⟩ := hv
        obtain ⟨a', h1, h2, h3⟩ := fill_run hcs hz2 hz3 hp1 hp2
        refine ⟨.agg a', ?_, .of (by simp only [Rep]; exact ⟨a', rfl, h2, h3⟩)⟩
        have hm : (fs.mapM fun f => do pure (f.offset, ← sizeOf f.type) : Sem (Array (Nat × Nat))).run E.P k.w = .ok pl.toArray k.w := by
          rw [Array.mapM_eq_mapM_toList, Sem.run_map, places_run hpl k.w]
          rfl
        have hfn : (fun i : Nat => pl.toArray[i]?) = fun i : Nat => pl[i]? := by funext i; simp
        simp only [execOp, ho, Instr.build, Sem.run_bind, hz1, Result.andThen_ok, run_underlying hu, hm, hpt, hfn, h1]
        rfl
      · simp at h
    · rename_i n e hu
      split at h
      · rename_i sz hsz
        refine .pureVal hS hF h fun v hv => ?_
        simp only [Option.map_eq_some_iff] at hv
        obtain ⟨cs, hcs, rfl⟩ := hv
        obtain ⟨a', h1, h2, h3⟩ := fill_run hcs hz2 hz3 hp1 hp2
        refine ⟨.agg a', ?_, .of (by simp only [Rep]; exact ⟨a', rfl, h2, h3⟩)⟩
        simp only [execOp, ho, Instr.build, Sem.run_bind, hz1, Result.andThen_ok, run_underlying hu, run_size hsz, hpt, h1]
        rfl
      · simp at h
    · simp at h
  · simp at h

theorem repeat_length (z : List Val) : ∀ n, (repeatCells z n).length = n * z.length
  | 0 => by simp [repeatCells]
  | n + 1 => by simp [repeatCells, repeat_length z n, Nat.add_mul]; omega

/-- zero cells, so many times -/
theorem repeat_rep {z : List Val} {zs : Array Value} (h : RepAll k z zs.toList) : ∀ n, RepAll k (repeatCells z n) ((List.range (n * zs.size)).map fun i => zs[i % zs.size]!)
  | 0 => by simp [repeatCells, RepAll]
  | n + 1 => by
    have e : (List.range ((n + 1) * zs.size)).map (fun i => zs[i % zs.size]!) = zs.toList ++ (List.range (n * zs.size)).map fun i => zs[i % zs.size]! := by
      rw [show (n + 1) * zs.size = zs.size + n * zs.size by rw [Nat.add_mul]; omega, List.range_add, List.map_append]
      congr 1
      · apply List.ext_getElem
        · simp
        · intro i h1 h2
          simp only [List.length_map, List.length_range] at h1
          simp [Nat.mod_eq_of_lt h1, h1]
      · rw [List.map_map]
        apply List.map_congr_left
        intro i _
        simp
    rw [e, repeatCells]
    exact h.append (repeat_rep h n)
theorem repeat_one {zs : Array Value} (h : ∀ x ∈ zs.toList, x.oneCell' = true) (n : Nat) : ∀ x ∈ (List.range (n * zs.size)).map (fun i => zs[i % zs.size]!), x.oneCell' = true := by
  intro x hx
  simp only [List.mem_map, List.mem_range] at hx
  obtain ⟨i, hi, rfl⟩ := hx
  have hpos : 0 < zs.size := by
    rcases Nat.eq_zero_or_pos zs.size with e | e
    · rw [e] at hi; omega
    · exact e
  have hlt : i % zs.size < zs.size := Nat.mod_lt _ hpos
  rw [getElem!_pos zs _ hlt]
  exact h _ (by simp)

/-- a block of the world that nobody owns -/
theorem Sim.alloc (hS : Sim E k S) (hF : FRep k f g tmps) (ob : Obj) :
    New k { k with w := k.w.alloc ob } none ∧ Sim E { k with w := k.w.alloc ob } S ∧ Evo k { k with w := k.w.alloc ob } (touchF k S.L f) ∧ FRep { k with w := k.w.alloc ob } f g tmps := by
  have hnone : k.own k.w.heap.size = none := by
    cases h : k.own k.w.heap.size with
    | none => rfl
    | some o => have := hS.ownlt _ _ h; omega
  have hN : New k { k with w := k.w.alloc ob } none := {
    lo := rfl
    own := by funext c; by_cases e : c = k.w.heap.size <;> simp [e, hnone]
    lp := rfl
    size := by simp
    os := rfl
    tape := rfl
    output := rfl
    heap := fun c hc => by simp only [World.alloc]; rw [Array.getElem?_push, if_neg (by omega)] }
  have hE := hN.evo hS (fun b s h => ⟨h, rfl, rfl⟩) (touchF k S.L f)
  exact ⟨hN, hS.new hN rfl rfl rfl, hE, hF.mono hE.le fun c t hc => ⟨rfl, hN.heap c (hS.ownlt _ _ hc)⟩⟩

theorem Bound.new {k k' : K} {o : Option Own} (h : New k k' o) {d : Nat} (hd : ∀ f t, o = some (.lv f t) → f < d) (hd' : ∀ f, o = some (.mark f) → f < d) (hB : Bound k d) : Bound k' d := by
  intro c
  rw [h.own]
  by_cases e : c = k.w.heap.size
  · simp only [e, if_true]; exact ⟨hd, hd'⟩
  · simp only [e, if_false]; exact hB c

/-- new cells at the end of memory, frozen -/
theorem fresh_mem {T : TypeId} {vs : Array Value} {cs : List Val} (hr : RepAll k cs vs.toList) (h1 : ∀ x ∈ vs.toList, x.oneCell' = true) (hS : Sim E k S) (hF : FRep k f g tmps) :
    RepMem { k with w := k.w.alloc (.cells vs T) } k.w.heap.size 0 cs := by
  obtain ⟨hN, _, hE, _⟩ := hS.alloc hF (.cells vs T)
  refine RepMem.mk fun i x hi => ?_
  obtain ⟨v, hv, hx⟩ := hr.get hi
  refine ⟨?_, v, ?_, h1 v (List.mem_of_getElem? hv), hx.mono hE.le⟩
  · have := hN.own; rw [this]; simp
  · simp only [Nat.zero_add, World.cell?_alloc_new]
    rw [← Array.getElem?_toList]; exact hv

theorem op_buildSlice (hS : Sim E k S) (hF : FRep k f g tmps) {c : Ctx} {o : Oper} {t : TypeId} {len : Nat} {parts : Array (Nat × Operand)} (ho : o.op = .buildSlice t len parts) {r : Res} (h : opV E c g S o = some r) :
    OpRes E k S f g tmps o r := by
  simp only [opV, ho] at h
  split at h
  · rename_i e ps hu hps
    split at h
    · rename_i z sz hz hsz
      split at h
      · rename_i hb
        obtain ⟨hb1, hb2, hb3⟩ := hb
        simp only [V.pureVal, Option.map_eq_some_iff] at h
        obtain ⟨v, ⟨cs, hcs, rfl⟩, rfl⟩ := h
        obtain ⟨zv, hz1, hz2, hz3⟩ := zero_run hz k
        obtain ⟨hp1, hp2⟩ := evParts_rep hS hF hps
        have hpt : (parts.map fun (i, x) => (i, evT tmps x)).toList = parts.toList.map fun x => (x.1, evT tmps x.2) := by simp
        have hzs : zv.cells.size = sz := by have := hz2.length; simp at this; omega
        have hrz := repeat_rep hz2 len
        rw [hzs] at hrz
        have h1z := repeat_one hz3 len
        rw [hzs] at h1z
        obtain ⟨a', h1, h2, h3⟩ := fill_run (a := ((Array.range (len * sz)).map fun i => zv.cells[i % sz]!)) hcs (by simpa using hrz) (by simpa using h1z) hp1 hp2
        obtain ⟨hN, hS', hE, hF'⟩ := hS.alloc hF (.cells a' e)
        have hmem := fresh_mem (T := e) h2 h3 hS hF
        refine ⟨_, _, ⟨?_, ⟨.slice (some ⟨k.w.heap.size, 0, none⟩) len len, rfl, .of ?_⟩, hS', hE, hF', rfl, fun d hd hB => hB.new hN (by simp) (by simp)⟩⟩
        · have hlim : ¬ (len * sz > 2 ^ 24) := by omega
          simp only [execOp, ho, Instr.buildSlice, Sem.run_bind, run_underlying hu, Result.andThen_ok, run_size hsz, hlim, if_false, hpt]
          by_cases h0 : len * sz = 0
          · have : len = 0 := by
              rcases Nat.mul_eq_zero.1 h0 with h | h <;> omega
            subst this
            have hr0 : Array.range 0 = #[] := rfl
            simp only [Nat.zero_mul, if_true, pure_bind, hr0, Array.map_empty] at h1 ⊢
            rw [h1]
            simp [newRow]
          · simp only [h0, if_false, Sem.run_bind, hz1, Result.andThen_ok, Sem.run_pure, hzs, h1]
            simp [newRow]
        · simp only [Rep]
          exact ⟨_, _, rfl, Nat.le_refl _, by simp, by simp, .inr ⟨_, 0, rfl, hmem⟩⟩
      · simp at h
    · simp at h
  · simp at h
end
end Go.V
