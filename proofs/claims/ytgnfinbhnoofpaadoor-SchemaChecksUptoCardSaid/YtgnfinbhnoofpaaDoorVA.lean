/- Definitions of an interpreter of the loaded code over clean values: inline (frozen) slices, a clean heap for what is written, locals in the frame. -/
import GoSem.Step
import Derived.Laws.World
import Derived.Laws.Sem
import Derived.Calls
set_option linter.unusedVariables false
set_option linter.unusedSimpArgs false
set_option linter.unusedSectionVars false
namespace Go.V

/-- What is known of the capacity of a slice in the heap: just so great; or: it grew by append, and its memory has now so many known cells. -/
inductive Cap where
  | fix (c : Nat)
  | flex (ext : Nat)
  deriving DecidableEq, Inhabited
/-- What is known of an inline slice: it is nil; its capacity is its length; nothing. -/
inductive Q where
  | nil | exact | any
  deriving DecidableEq, Inhabited

inductive Val where
  | unk
  | bool (b : Bool)
  | int (k : IntKind) (n : Int)
  | str (s : List UInt8)
  | nilp
  | ptr (b off : Nat) (ext : Option Nat)
  | pin (cells : List Val) (off : Nat)
  | lv (cells : List Val)
  | loc (t off : Nat)
  | sl (b off len esz : Nat) (cap : Cap)
  | sli (cells : List Val) (len : Nat) (q : Q)
  | fn (f : FuncId) (cap : List Val)
  | yield (l : Nat)
  | nilf
  | map (b : Nat)
  | nilm
  | ifc (t : TypeId) (v : Val)
  | nili
  | agg (cs : List Val)
  | tup (vs : List Val)
  deriving Inhabited

mutual
def Val.beq : Val → Val → Bool
  | .unk, .unk => true
  | .bool a, .bool b => a == b
  | .int k a, .int k' b => decide (k = k') && a == b
  | .str a, .str b => a == b
  | .nilp, .nilp => true
  | .ptr a b e, .ptr c d f => a == c && b == d && e == f
  | .pin a b, .pin c d => Val.beqs a c && b == d
  | .lv a, .lv b => Val.beqs a b
  | .loc a b, .loc c d => a == c && b == d
  | .sl a b c d e, .sl a' b' c' d' e' => a == a' && b == b' && c == c' && d == d' && decide (e = e')
  | .sli a b c, .sli a' b' c' => Val.beqs a a' && b == b' && decide (c = c')
  | .fn a b, .fn c d => a == c && Val.beqs b d
  | .yield a, .yield b => a == b
  | .nilf, .nilf => true
  | .map a, .map b => a == b
  | .nilm, .nilm => true
  | .ifc a b, .ifc c d => a == c && Val.beq b d
  | .nili, .nili => true
  | .agg a, .agg b => Val.beqs a b
  | .tup a, .tup b => Val.beqs a b
  | _, _ => false
def Val.beqs : List Val → List Val → Bool
  | [], [] => true
  | a :: l, b :: m => Val.beq a b && Val.beqs l m
  | _, _ => false
end

mutual
/-- no loop of number m or above -/
def Val.noY (m : Nat) : Val → Bool
  | .yield l => l < m
  | .pin cs _ | .lv cs | .sli cs _ _ | .fn _ cs | .agg cs | .tup cs => Val.noYs m cs
  | .ifc _ v => v.noY m
  | _ => true
def Val.noYs (m : Nat) : List Val → Bool
  | [] => true
  | v :: l => v.noY m && Val.noYs m l
end

/-- A block of the heap: cells (flex: grown by append, it may lie elsewhere after the next one), or a map. -/
inductive Block where
  | cells (cs : List Val) (flex : Bool)
  | map (es : List (Val × Val))
  deriving Inhabited

def entriesBeq : List (Val × Val) → List (Val × Val) → Bool
  | [], [] => true
  | (a, b) :: l, (c, d) :: m => a.beq c && b.beq d && entriesBeq l m
  | _, _ => false
def Block.beq : Block → Block → Bool
  | .cells a f, .cells b g => Val.beqs a b && f == g
  | .map a, .map b => entriesBeq a b
  | _, _ => false

/-- A frame: the temporaries that are alive. -/
abbrev Fr := List (Nat × Val)
def Fr.get : Fr → Nat → Option Val
  | [], _ => none
  | (k, v) :: r, t => if k = t then some v else Fr.get r t
def Fr.put (fr : Fr) (t : Nat) (v : Val) : Fr := (t, v) :: fr
/-- the entries of the temporaries listed -/
def Fr.keep (fr : Fr) : List Nat → Fr
  | [] => []
  | t :: ts => match fr.get t with
    | some v => (t, v) :: Fr.keep fr ts
    | none => Fr.keep fr ts
/-- a place of local t is one no more -/
def unlocV (t : Nat) : Val → Val
  | .loc s o => if s = t then .unk else .loc s o
  | v => v
/-- without the places of a local that is laid anew -/
def Fr.unloc (t : Nat) : Fr → Fr
  | [] => []
  | (k, v) :: r => (k, unlocV t v) :: Fr.unloc t r
def Fr.puts (fr : Fr) : List (Nat × Val) → Fr
  | [] => fr
  | (t, v) :: l => Fr.puts (fr.put t v) l

/-- what a frame answers -/
abbrev G := Nat → Option Val

structure LoopRec where
  fn : FuncId
  fr : Fr
  params : Array Tmp
  assign : Code
  body : Code
  busy : Bool
  /-- its round has come so far that it is marked -/
  begun : Bool
  done : Bool
  pending : Option Code

structure St where
  H : List Block
  L : List LoopRec

inductive Mode where | drop | keep
  deriving DecidableEq

/-- What the interpreter is told of a program. -/
structure Env where
  P : Program
  /-- the cells of package-level variables that are never written -/
  glob : Nat → Option (List Val)
  mode : FuncId → Mode
  /-- temporaries whose variable lies in the heap -/
  esc : FuncId → List Nat
  /-- what is alive behind a region -/
  lo : FuncId → Nat → Option (List Nat)
  /-- what is alive at the head of the loop in a block -/
  lh : FuncId → Nat → Option (List Nat)
  /-- functions by a contract proved apart -/
  native : FuncId → Option (List Val → St → Option (Val × St))

def Env.size (E : Env) (t : TypeId) : Option Nat := (E.P.info? t).map (·.size)
def Env.und (E : Env) (t : TypeId) : Option TypeDesc := E.P.underlying t

def ofConst1 : Value → Option Val
  | .bool b => some (.bool b)
  | .int k n => some (.int k n)
  | .string s => some (.str s.data.toList)
  | .pointer none => some .nilp
  | .slice none 0 0 => some (.sli [] 0 .nil)
  | .map none => some .nilm
  | .nilFunc => some .nilf
  | .nilIface => some .nili
  | _ => none
def ofConsts : List Value → Option (List Val)
  | [] => some []
  | v :: l => match ofConst1 v, ofConsts l with
    | some a, some b => some (a :: b)
    | _, _ => none
def ofConst : Value → Option Val
  | .agg cs => (ofConsts cs.toList).map .agg
  | v => ofConst1 v

def Val.first : Val → Bool
  | .lv _ | .loc _ _ | .unk => false
  | _ => true

/-- may a value be stored? -/
def Val.sto : Val → Bool
  | .lv _ | .loc _ _ | .unk | .tup _ => false
  | _ => true

/-- an operand as it lies -/
def raw (E : Env) (g : G) : Operand → Option Val
  | .tmp t => g t
  | .const v => ofConst v
  | .global x => (E.glob x).map fun cs => .pin cs 0
  | .func f => some (.fn f [])

/-- an operand as a value of its own -/
def ev (E : Env) (g : G) (o : Operand) : Option Val :=
  match raw E g o with
  | some v => if v.first then some v else none
  | none => none

def evs (E : Env) (g : G) : List Operand → Option (List Val)
  | [] => some []
  | o :: l => match ev E g o, evs E g l with
    | some a, some b => some (a :: b)
    | _, _ => none

/-- a place in memory -/
inductive Place where
  | inl (cells : List Val) (off : Nat)
  | lcl (t off : Nat)
  | hp (b off : Nat) (ext : Option Nat)

def place (E : Env) (g : G) (o : Operand) : Option Place :=
  match o with
  | .tmp t => match g t with
    | some (.lv _) => some (.lcl t 0)
    | some (.loc s off) => some (.lcl s off)
    | some (.pin cs off) => some (.inl cs off)
    | some (.ptr b off e) => some (.hp b off e)
    | _ => none
  | .global x => (E.glob x).map fun cs => .inl cs 0
  | _ => none

def Place.add : Place → Nat → Place
  | .inl cs o, n => .inl cs (o + n)
  | .lcl t o, n => .lcl t (o + n)
  | .hp b o e, n => .hp b (o + n) e
def Place.val : Place → Val
  | .inl cs o => .pin cs o
  | .lcl t o => .loc t o
  | .hp b o e => .ptr b o e

/-- the cells of a block, if what is known of it still holds -/
def hcells (S : St) (b : Nat) (e : Option Nat) : Option (List Val) :=
  match S.H[b]?, e with
  | some (.cells cs false), none => some cs
  | some (.cells cs true), some n => if cs.length = n then some cs else none
  | _, _ => none
def setCells (S : St) (b : Nat) (e : Option Nat) (cs : List Val) : St := { S with H := S.H.set b (.cells cs e.isSome) }
def Cap.ext : Cap → Option Nat
  | .fix _ => none
  | .flex n => some n

/-- the cells of a place's memory -/
def cellsAt (g : G) (S : St) : Place → Option (List Val)
  | .inl cs _ => some cs
  | .lcl t _ => match g t with
    | some (.lv cs) => some cs
    | _ => none
  | .hp b _ e => hcells S b e
def Place.off : Place → Nat
  | .inl _ o | .lcl _ o | .hp _ o _ => o

def isAggT : TypeDesc → Bool
  | .struct _ | .array _ _ => true
  | _ => false

/-- n cells from a place on -/
def cut (cs : List Val) (off n : Nat) : Option (List Val) :=
  if off + n ≤ cs.length then some ((cs.drop off).take n) else none

/-- a value of a type out of cells -/
def ofCells (d : TypeDesc) (cs : List Val) (off n : Nat) : Option Val :=
  if isAggT d then (cut cs off n).map .agg else cs[off]?

def Val.cells : Val → List Val
  | .agg cs => cs
  | v => [v]

/-- cells put over cells -/
def over (cs : List Val) (off : Nat) (new : List Val) : Option (List Val) :=
  if off + new.length ≤ cs.length then some (cs.take off ++ new ++ cs.drop (off + new.length)) else none

/-- What an operation touches, as the look on open orders asks. -/
inductive Cls where
  | pure
  | rl (t : Nat)
  | wl (t : Nat)
  | rh
  | eh
  | bad
  deriving DecidableEq

/-- What an operation comes to: a value (none: Go's empty tuple), what it does to locals, the new state; a local is laid; a call. -/
inductive Res where
  | val (v : Option Val) (c : Cls) (ups : List (Nat × Val)) (S : St)
  | laid (cs : List Val)
  | call (f : FuncId) (args : List Val)
  | yld (l : Nat) (args : List Val)

def Place.reads : Place → Cls
  | .inl _ _ => .pure
  | .lcl t _ => .rl t
  | .hp _ _ _ => .rh

def storeAt (g : G) (S : St) (p : Place) (new : List Val) : Option (Cls × List (Nat × Val) × St) :=
  match p with
  | .inl _ _ => none
  | .lcl t off => match g t with
    | some (.lv cs) => (over cs off new).map fun cs' => (.wl t, [(t, .lv cs')], S)
    | _ => none
  | .hp b off e => match hcells S b e with
    | some cs => (over cs off new).map fun cs' => (.eh, [], setCells S b e cs')
    | none => none

/-- the zero cells of a type -/
def zeroCells (E : Env) (t : TypeId) : Option (List Val) :=
  match E.P.info? t with
  | some i => match i.zero with
    | some z => (ofConst z).map Val.cells
    | none => none
  | none => none

def fieldOf (E : Env) (t : TypeId) (i : Nat) : Option Field :=
  match E.und t with
  | some (.struct fs) => fs[i]?
  | _ => none

def intOp (op : BinOp) (k : IntKind) (x y : Int) : Option Val :=
  match op with
  | .add => some (.int k (k.wrap (x + y)))
  | .sub => some (.int k (k.wrap (x - y)))
  | .mul => some (.int k (k.wrap (x * y)))
  | .quo => if y = 0 then none else some (.int k (k.wrap (x.tdiv y)))
  | .rem => if y = 0 then none else some (.int k (x.tmod y))
  | .and => some (.int k (k.wrap (BitVec.ofInt k.bits x &&& BitVec.ofInt k.bits y).toNat))
  | .or => some (.int k (k.wrap (BitVec.ofInt k.bits x ||| BitVec.ofInt k.bits y).toNat))
  | .xor => some (.int k (k.wrap (BitVec.ofInt k.bits x ^^^ BitVec.ofInt k.bits y).toNat))
  | .andNot => some (.int k (k.wrap (BitVec.ofInt k.bits x &&& ~~~ (BitVec.ofInt k.bits y)).toNat))
  | .eql => some (.bool (x == y))
  | .neq => some (.bool (x != y))
  | .lss => some (.bool (x < y))
  | .leq => some (.bool (x ≤ y))
  | .gtr => some (.bool (x > y))
  | .geq => some (.bool (x ≥ y))
  | _ => none

def shiftOp (op : BinOp) (k : IntKind) (x y : Int) : Option Val :=
  if y < 0 then none else
  match op with
  | .shl => some (.int k (k.wrap (x * 2 ^ (min y.toNat k.bits))))
  | .shr => some (.int k (x.fdiv (2 ^ (min y.toNat k.bits))))
  | _ => none

def strLess : List UInt8 → List UInt8 → Bool
  | _, [] => false
  | [], _ :: _ => true
  | a :: x, b :: y => a < b || (a == b && strLess x y)

def maxStr : Nat := 2 ^ 47

def strOp (op : BinOp) (x y : List UInt8) : Option Val :=
  match op with
  | .add => if x.length + y.length ≤ maxStr then some (.str (x ++ y)) else none
  | .eql => some (.bool (x == y))
  | .neq => some (.bool !(x == y))
  | .lss => some (.bool (strLess x y))
  | .leq => some (.bool (strLess x y || x == y))
  | .gtr => some (.bool !(strLess x y || x == y))
  | .geq => some (.bool !(strLess x y))
  | _ => none

def eqFields (eq : TypeId → Val → Val → Option Bool) (E : Env) : List Field → List Val → List Val → Option Bool
  | [], _, _ => some true
  | f :: l, xs, ys =>
    if f.name = "_" then eqFields eq E l xs ys else
    match E.und f.type, E.size f.type with
    | some d, some n => match ofCells d xs f.offset n, ofCells d ys f.offset n with
      | some x, some y => match eq f.type x y with
        | some true => eqFields eq E l xs ys
        | r => r
      | _, _ => none
    | _, _ => none
def eqElems (eq : Val → Val → Option Bool) (d : TypeDesc) (sz : Nat) (xs ys : List Val) : Nat → Nat → Option Bool
  | 0, _ => some true
  | n + 1, i => match ofCells d xs (i * sz) sz, ofCells d ys (i * sz) sz with
    | some x, some y => match eq x y with
      | some true => eqElems eq d sz xs ys n (i + 1)
      | r => r
    | _, _ => none
/-- '==' of values of integers, bools, strings, structs and arrays -/
def eqT (E : Env) : Nat → TypeId → Val → Val → Option Bool
  | 0, _, _, _ => none
  | d + 1, t, x, y => match E.und t, x, y with
    | some .bool, .bool a, .bool b => some (a == b)
    | some (.int _), .int k a, .int k' b => if k = k' then some (a == b) else none
    | some .string, .str a, .str b => some (a == b)
    | some (.struct fs), .agg xs, .agg ys => if E.P.stoodInHeld t then none else eqFields (eqT E d) E fs.toList xs ys
    | some (.array n e), .agg xs, .agg ys => match E.und e, E.size e with
      | some de, some sz => eqElems (eqT E d e) de sz xs ys n 0
      | _, _ => none
    | _, _, _ => none

/-- '==' where it is no test of integers or strings -/
def eqOp (E : Env) (t : TypeId) (x y : Val) : Option Bool :=
  match E.und t, x, y with
  | some .bool, .bool a, .bool b => some (a == b)
  | some (.pointer _), .nilp, .nilp => some true
  | some (.pointer _), .nilp, .ptr _ _ none | some (.pointer _), .ptr _ _ none, .nilp => some false
  | some (.pointer _), .nilp, .pin _ _ | some (.pointer _), .pin _ _, .nilp => some false
  | some (.slice _), .sli _ _ .nil, .sli _ _ q => if q = .nil then some true else some false
  | some (.slice _), .sli _ _ q, .sli _ _ .nil => if q = .nil then some true else some false
  | some (.slice _), .sli _ _ .nil, .sl _ _ _ _ (.fix _) | some (.slice _), .sl _ _ _ _ (.fix _), .sli _ _ .nil => some false
  | some (.map _ _), .nilm, .nilm => some true
  | some (.map _ _), .nilm, .map _ | some (.map _ _), .map _, .nilm => some false
  | some (.func _ _ _), .nilf, .nilf => some true
  | some (.func _ _ _), .nilf, .fn _ _ | some (.func _ _ _), .fn _ _, .nilf => some false
  | some (.func _ _ _), .nilf, .yield _ | some (.func _ _ _), .yield _, .nilf => some false
  | some (.interface _), .nili, .ifc _ _ | some (.interface _), .ifc _ _, .nili => some false
  | some (.struct _), .agg a, .agg b | some (.array _ _), .agg a, .agg b =>
    if E.P.eqGuardType E.P.depth t then none else eqT E 20 t (.agg a) (.agg b)
  | _, _, _ => none

def binOp (E : Env) (op : BinOp) (t : TypeId) (x y : Val) : Option Val :=
  match x, y with
  | .int k a, .int k' b =>
    match op with
    | .shl | .shr => shiftOp op k a b
    | _ => if k = k' then intOp op k a b else none
  | .str a, .str b => strOp op a b
  | _, _ => match op with
    | .eql => (eqOp E t x y).map .bool
    | .neq => (eqOp E t x y).map fun b => .bool !b
    | _ => none

def unOp (op : UnOp) (x : Val) : Option Val :=
  match op, x with
  | .not, .bool b => some (.bool !b)
  | .neg, .int k n => some (.int k (k.wrap (0 - n)))
  | .xor, .int k n => some (.int k (k.wrap (BitVec.ofInt k.bits (if k.signed then -1 else k.max) ^^^ BitVec.ofInt k.bits n).toNat))
  | _, _ => none

def u8s (s : List UInt8) : List Val := s.map fun b => .int .u8 b.toNat
def bytesOf : List Val → Option (List UInt8)
  | [] => some []
  | .int .u8 n :: l => (bytesOf l).map (UInt8.ofNat n.toNat :: ·)
  | _ => none

/-- the cells that a slice or a string has, n elements of size sz -/
def cellsOfSlice (S : St) (sz : Nat) : Val → Option (Nat × List Val × Cls)
  | .sli cs len _ => (cut cs 0 (len * sz)).map fun l => (len, l, .pure)
  | .sl b off len _ c => match hcells S b c.ext with
    | some cs => (cut cs off (len * sz)).map fun l => (len, l, .rh)
    | none => none
  | .str s => if sz = 1 then some (s.length, u8s s, .pure) else none
  | _ => none

def fillAt (place : Nat → Option (Nat × Nat)) (cs : List Val) : List (Nat × Val) → Option (List Val)
  | [] => some cs
  | (i, v) :: rest => match place i with
    | some (off, size) =>
      if v.cells.length = size ∧ v.sto = true then
        match over cs off v.cells with
        | some cs' => fillAt place cs' rest
        | none => none
      else none
    | none => none

/-- offsets and sizes of fields -/
def placesOf (E : Env) : List Field → Option (List (Nat × Nat))
  | [] => some []
  | f :: l => match E.size f.type, placesOf E l with
    | some n, some r => some ((f.offset, n) :: r)
    | _, _ => none

def evParts (E : Env) (g : G) : List (Nat × Operand) → Option (List (Nat × Val))
  | [] => some []
  | (i, o) :: l => match ev E g o, evParts E g l with
    | some v, some r => some ((i, v) :: r)
    | _, _ => none

def repeatCells (zero : List Val) : Nat → List Val
  | 0 => []
  | n + 1 => zero ++ repeatCells zero n

def push (S : St) (b : Block) : St := { S with H := S.H ++ [b] }

def grown (S : St) (n sz : Nat) (cs : List Val) : Val × Cls × St :=
  (.sl S.H.length 0 n sz (.flex cs.length), .eh, push S (.cells cs true))

def appendOp (E : Env) (S : St) (t : TypeId) (s x : Val) : Option (Val × Cls × St) :=
  match E.und t with
  | some (.slice e) => match E.P.info? e, zeroCells E e with
    | some i, some z => match cellsOfSlice S i.size x, cellsOfSlice S i.size s with
      | some (n, new, _), some (len, old, _) =>
        if n = 0 then match s with
          | .sli .. | .sl .. => some (s, .eh, S)
          | _ => none
        else if (len + n) * i.bytes ≤ 2 ^ 46 ∧ len + n ≤ 2 ^ 46 ∧ 0 < i.size ∧ z.length = i.size then
          match s with
          | .sli _ _ .nil | .sli _ _ .exact => some (grown S (len + n) i.size (old ++ new))
          | .sl b off _ _ (.fix c) =>
            if len + n ≤ c then
              match hcells S b none with
              | some cs => match over cs (off + len * i.size) new with
                | some cs' => some (.sl b off (len + n) i.size (.fix c), .eh, setCells S b none cs')
                | none => none
              | none => none
            else some (grown S (len + n) i.size (old ++ new))
          | .sl b off _ esz (.flex e) =>
            if esz = i.size then
              match hcells S b (some e) with
              | some cs =>
                if off + len * i.size + new.length ≤ e then
                  match over cs (off + len * i.size) new with
                  | some cs' => some (.sl b off (len + n) i.size (.flex e), .eh, setCells S b (some e) cs')
                  | none => none
                else if off = 0 then
                  some (.sl b 0 (len + n) i.size (.flex (old ++ new).length), .eh, setCells S b (some e) (old ++ new))
                else none
              | none => none
            else none
          | _ => none
        else none
      | _, _ => none
    | _, _ => none
  | _ => none

def bound (E : Env) (g : G) : Option Operand → Option (Option Nat)
  | none => some none
  | some o => match ev E g o with
    | some (.int _ n) => if 0 ≤ n then some (some n.toNat) else none
    | _ => none

/-- x[lo:hi] -/
def sliceOp (E : Env) (g : G) (S : St) (t : TypeId) (x : Operand) (lo hi mx : Option Operand) : Option (Val × Cls) :=
  match bound E g lo, bound E g hi, bound E g mx, E.und t with
  | some l, some h, some none, some .string => match ev E g x with
    | some (.str s) =>
      if l.getD 0 ≤ h.getD s.length ∧ h.getD s.length ≤ s.length then some (.str ((s.drop (l.getD 0)).take (h.getD s.length - l.getD 0)), .pure) else none
    | _ => none
  | some l, some h, some m, some (.slice e) => match E.size e, ev E g x with
    | some sz, some (.sl b off len _ (.fix c)) =>
      if l.getD 0 ≤ h.getD len ∧ h.getD len ≤ m.getD c ∧ m.getD c ≤ c ∧ l.getD 0 < m.getD c ∧ (m = none ∨ h.isSome = true) then
        some (.sl b (off + l.getD 0 * sz) (h.getD len - l.getD 0) sz (.fix (m.getD c - l.getD 0)), .pure)
      else none
    | some sz, some (.sl b off len esz (.flex x)) =>
      if esz = sz ∧ l.getD 0 ≤ h.getD len ∧ h.getD len ≤ len ∧ (l.getD 0 = 0 ∨ l.getD 0 < h.getD len) ∧ m = none ∧ (hcells S b (some x)).isSome = true then
        some (.sl b (off + l.getD 0 * sz) (h.getD len - l.getD 0) sz (.flex x), .rh)
      else if h.getD len = l.getD 0 ∧ h.getD len ≤ len ∧ m = none ∧ (hcells S b (some x)).isSome = true then some (.sli [] 0 .any, .rh)
      else none
    | some sz, some (.sli cs len q) =>
      if l.getD 0 ≤ h.getD len ∧ h.getD len ≤ len ∧ (m = none ∨ h = m) ∧ (m = none ∨ h.isSome = true) then
        (cut cs (l.getD 0 * sz) ((h.getD len - l.getD 0) * sz)).map fun cs' =>
          (.sli cs' (h.getD len - l.getD 0) (if q = .nil then .nil else if (h = m ∧ h.isSome = true ∧ (q = .exact ∨ l.getD 0 < h.getD len)) ∨ (q = .exact ∧ h.getD len = len) then .exact else .any), .pure)
      else none
    | _, _ => none
  | some l, some h, some none, some (.array n e) => match E.size e, place E g x with
    | some sz, some (.hp b off none) =>
      if l.getD 0 ≤ h.getD n ∧ h.getD n ≤ n ∧ l.getD 0 < n then some (.sl b (off + l.getD 0 * sz) (h.getD n - l.getD 0) sz (.fix (n - l.getD 0)), .pure) else none
    | some sz, some (.inl cs off) =>
      if l.getD 0 ≤ h.getD n ∧ h.getD n ≤ n ∧ l.getD 0 < n then
        (cut cs (off + l.getD 0 * sz) ((h.getD n - l.getD 0) * sz)).map fun cs' => (.sli cs' (h.getD n - l.getD 0) .any, .pure)
      else none
    | _, _ => none
  | _, _, _, _ => none

def convertOp (E : Env) (src dst : TypeId) (S : St) (x : Val) : Option (Val × Cls) :=
  match E.und src, E.und dst, x with
  | some _, some (.int k), .int _ n => some (.int k (k.wrap n), .pure)
  | some _, some .string, .str s => some (.str s, .pure)
  | some _, some (.slice e), .str s => match E.und e with
    | some (.int .u8) => some (.sli (u8s s) s.length .any, .pure)
    | _ => none
  | some (.slice e), some .string, x => match E.und e with
    | some (.int .u8) => match x with
      | .sli .. | .sl .. => match cellsOfSlice S 1 x with
        | some (_, cs, c) => (bytesOf cs).map fun b => (.str b, c)
        | none => none
      | _ => none
    | _ => none
  | _, _, _ => none

def lenOp (E : Env) (t : TypeId) (S : St) (x : Val) : Option (Val × Cls) :=
  match E.und t, x with
  | some .string, .str s => some (.int .i64 s.length, .pure)
  | some (.slice _), .sl _ _ n _ _ => some (.int .i64 n, .pure)
  | some (.slice _), .sli _ n _ => some (.int .i64 n, .pure)
  | some (.map _ _), .nilm => some (.int .i64 0, .pure)
  | some (.map _ _), .map b => match S.H[b]? with
    | some (.map es) => some (.int .i64 es.length, .rh)
    | _ => none
  | _, _ => none

def capOp (E : Env) (t : TypeId) (x : Val) : Option Val :=
  match E.und t, x with
  | some (.slice _), .sl _ _ _ _ (.fix c) => some (.int .i64 c)
  | some (.slice _), .sli _ n .exact => some (.int .i64 n)
  | some (.slice _), .sli _ _ .nil => some (.int .i64 0)
  | _, _ => none

def keyEq : Val → Val → Option Bool
  | .int k a, .int k' b => if k = k' then some (a == b) else none
  | .str a, .str b => some (a == b)
  | .bool a, .bool b => some (a == b)
  | _, _ => none

/-- the place and the value of a key -/
def findKey (k : Val) : List (Val × Val) → Nat → Option (Option (Nat × Val))
  | [], _ => some none
  | (a, v) :: l, i => match keyEq k a with
    | some true => some (some (i, v))
    | some false => findKey k l (i + 1)
    | none => none

/-- is a key of its type, and of one whose values can be held against each other? -/
def keyT : TypeDesc → Val → Bool
  | .int _, .int _ _ | .string, .str _ | .bool, .bool _ => true
  | _, _ => false

/-- the entries of a map -/
def mapEnts (S : St) : Val → Option (List (Val × Val) × Cls)
  | .nilm => some ([], .pure)
  | .map b => match S.H[b]? with
    | some (.map es) => some (es, .rh)
    | _ => none
  | _ => none

def lookupOp (E : Env) (t : TypeId) (S : St) (m k : Val) (ok : Bool) : Option (Val × Cls) :=
  match E.und t with
  | some (.map kt et) => match E.und kt, E.P.info? et with
    | some d, some i =>
      if keyT d k then
        match mapEnts S m with
        | some (es, c) => match findKey k es 0 with
          | some (some (_, v)) => some (if ok then .tup [v, .bool true] else v, c)
          | some none => match i.zero.bind ofConst with
            | some z => some (if ok then .tup [z, .bool false] else z, c)
            | none => none
          | none => none
        | none => none
      else none
    | _, _ => none
  | _ => none

def updateOp (E : Env) (t : TypeId) (S : St) (m k v : Val) : Option St :=
  match E.und t with
  | some (.map kt _) => match E.und kt with
    | some d =>
      if keyT d k then
        match m with
        | .map b => match S.H[b]? with
          | some (.map es) => match findKey k es 0 with
            | some (some (i, _)) => some { S with H := S.H.set b (.map (es.set i (k, v))) }
            | some none => some { S with H := S.H.set b (.map (es ++ [(k, v)])) }
            | none => none
          | _ => none
        | _ => none
      else none
    | none => none
  | _ => none

def copyOp (E : Env) (t : TypeId) (S : St) (d s : Val) : Option (Val × St) :=
  match E.und t with
  | some (.slice e) => match E.size e with
    | some sz => match cellsOfSlice S sz s with
      | some (n, new, _) => match d with
        | .sl b off len _ c =>
          match hcells S b c.ext with
          | some cs => match over cs off (new.take (min n len * sz)) with
            | some cs' => some (.int .i64 (min n len), setCells S b c.ext cs')
            | none => none
          | none => none
        | _ => none
      | none => none
    | none => none
  | _ => none

def clearOp (E : Env) (t : TypeId) (S : St) (d : Val) : Option St :=
  match E.und t with
  | some (.slice e) => match zeroCells E e with
    | some z => match d with
      | .sl b off len _ c => match hcells S b c.ext with
        | some cs => (over cs off (repeatCells z len)).map fun cs' => setCells S b c.ext cs'
        | none => none
      | _ => none
    | none => none
  | _ => none

def makeSliceOp (E : Env) (t : TypeId) (S : St) (len cap : Val) : Option (Val × St) :=
  match E.und t, len, cap with
  | some (.slice e), .int k l, .int k' c => match E.P.info? e, zeroCells E e with
    | some i, some z =>
      if k = .i64 ∧ k' = .i64 ∧ 0 ≤ l ∧ l ≤ c ∧ c * i.bytes ≤ 2 ^ 46 ∧ c ≤ 2 ^ 46 ∧ z.length = i.size ∧ 0 < i.size then
        some (.sl S.H.length 0 l.toNat i.size (.fix c.toNat), push S (.cells (repeatCells z c.toNat) false))
      else none
    | _, _ => none
  | _, _, _ => none

def minMax (mx : Bool) : List Val → Option Val
  | [] => none
  | .int k x :: l => l.foldlM (fun a v => match a, v with
    | .int k x, .int k' y => if k = k' then some (.int k (if mx then (if y > x then y else x) else (if y < x then y else x))) else none
    | _, _ => none) (.int k x)
  | _ => none

/-- operands captured by a function literal: a local that is only read from here on is frozen -/
def capture (E : Env) (g : G) : List Operand → Option (List Val × List (Nat × Val))
  | [] => some ([], [])
  | o :: l => match o with
    | .tmp t => match g t, capture E g l with
      | some (.lv cs), some (vs, ups) => some (.pin cs 0 :: vs, (t, .pin cs 0) :: ups)
      | some v, some (vs, ups) => if v.first then some (v :: vs, ups) else none
      | _, _ => none
    | _ => none

/-- where an operation stands: its function, how many temporaries it has, the locals of the loop around a round -/
structure Ctx where
  f : FuncId
  n : Nat
  fixed : List Nat

def lay (E : Env) (c : Ctx) (S : St) (dst : Option Tmp) (cs : List Val) : Option Res :=
  match dst with
  | some d =>
    if (E.esc c.f).contains d then some (.val (some (.ptr S.H.length 0 none)) .eh [] (push S (.cells cs false)))
    else some (.laid cs)
  | none => none

def one (r : Option (Val × Cls)) (S : St) : Option Res := r.map fun (v, c) => .val (some v) c [] S
def pureVal (r : Option Val) (S : St) : Option Res := r.map fun v => .val (some v) .pure [] S

/-- An operation. -/
def opV (E : Env) (c : Ctx) (g : G) (S : St) (o : Oper) : Option Res :=
  match o.op with
  | .move x | .assign x => pureVal (ev E g x) S
  | .pick q a b => match ev E g q with
    | some (.bool t) => pureVal (ev E g (if t then a else b)) S
    | _ => none
  | .alloc e => match zeroCells E e with
    | some z => lay E c S o.dst z
    | none => none
  | .box _ x => match ev E g x with
    | some v => if v.sto then lay E c S o.dst v.cells else none
    | none => none
  | .load t a => match E.und t, E.size t, place E g a with
    | some d, some n, some p => match cellsAt g S p with
      | some cs => one ((ofCells d cs p.off n).map fun v => (v, p.reads)) S
      | none => none
    | _, _, _ => none
  | .store t a x => match E.size t, place E g a, ev E g x with
    | some n, some p, some v =>
      if v.cells.length = n ∧ v.sto = true then (storeAt g S p v.cells).map fun (k, ups, S') => .val none k ups S'
      else none
    | _, _, _ => none
  | .fieldAddr t x i => match fieldOf E t i, place E g x with
    | some fd, some p => match E.size fd.type, cellsAt g S p with
      | some (_ + 1), some _ => one (some ((p.add fd.offset).val, p.reads)) S
      | _, _ => none
    | _, _ => none
  | .indexAddr t x i => match ev E g i with
    | some (.int _ n) =>
      match E.und t with
      | some (.slice e) => match E.size e, ev E g x with
        | some sz, some (.sli cs len _) => if 0 ≤ n ∧ n < len then pureVal (some (.pin cs (n.toNat * sz))) S else none
        | some sz, some (.sl b off len _ cp) => if 0 ≤ n ∧ n < len ∧ (hcells S b cp.ext).isSome then one (some (.ptr b (off + n.toNat * sz) cp.ext, .rh)) S else none
        | _, _ => none
      | some (.array len e) => match E.size e, place E g x with
        | some sz, some p => if 0 ≤ n ∧ n < len ∧ (cellsAt g S p).isSome then one (some ((p.add (n.toNat * sz)).val, p.reads)) S else none
        | _, _ => none
      | _ => none
    | _ => none
  | .nilCheck x => match place E g x with
    | some p => if (cellsAt g S p).isSome then one (some (p.val, p.reads)) S else none
    | none => match ev E g x with
      | some (.fn h cap) => pureVal (some (.fn h cap)) S
      | some (.yield l) => pureVal (some (.yield l)) S
      | _ => none
  | .binOp op t x y _ => match ev E g x, ev E g y with
    | some a, some b => pureVal (binOp E op t a b) S
    | _, _ => none
  | .unOp op _ x => match ev E g x with
    | some a => pureVal (unOp op a) S
    | none => none
  | .convert s d x => match ev E g x with
    | some a => one (convertOp E s d S a) S
    | none => none
  | .build t parts => match zeroCells E t, evParts E g parts.toList with
    | some z, some ps => match E.und t with
      | some (.struct fs) => match placesOf E fs.toList with
        | some pl => pureVal ((fillAt (fun i => pl[i]?) z ps).map .agg) S
        | none => none
      | some (.array _ e) => match E.size e with
        | some sz => pureVal ((fillAt (fun i => some (i * sz, sz)) z ps).map .agg) S
        | none => none
      | _ => none
    | _, _ => none
  | .buildSlice t len parts => match E.und t, evParts E g parts.toList with
    | some (.slice e), some ps => match zeroCells E e, E.size e with
      | some z, some sz =>
        if len * sz ≤ 65536 ∧ z.length = sz ∧ 0 < sz then pureVal ((fillAt (fun i => some (i * sz, sz)) (repeatCells z len) ps).map fun cs => .sli cs len .exact) S
        else none
      | _, _ => none
    | _, _ => none
  | .slice t x lo hi mx => one (sliceOp E g S t x lo hi mx) S
  | .index t x i => match ev E g i with
    | some (.int _ n) => match E.und t, ev E g x with
      | some .string, some (.str s) => if 0 ≤ n then pureVal ((s[n.toNat]?).map fun b => .int .u8 b.toNat) S else none
      | some (.array len e), some (.agg cs) => match E.und e, E.size e with
        | some d, some sz => if 0 ≤ n ∧ n < len then pureVal (ofCells d cs (n.toNat * sz) sz) S else none
        | _, _ => none
      | _, _ => none
    | _ => none
  | .field t x i => match fieldOf E t i, ev E g x with
    | some fd, some (.agg cs) => match E.und fd.type, E.size fd.type with
      | some d, some n => pureVal (ofCells d cs fd.offset n) S
      | _, _ => none
    | _, _ => none
  | .extract x i => match ev E g x with
    | some (.tup vs) => pureVal vs[i]? S
    | _ => none
  | .makeFunc (.func h) first captured => if first.size = 0 then
      match capture E g captured.toList with
      | some (vs, []) => some (.val (some (.fn h vs)) .pure [] S)
      | some (vs, [(t, v)]) => some (.val (some (.fn h vs)) (.wl t) [(t, v)] S)
      | some (vs, ups) => some (.val (some (.fn h vs)) .bad ups S)
      | none => none
    else none
  | .makeSlice t l h => match ev E g l, ev E g h with
    | some a, some b => (makeSliceOp E t S a b).map fun (v, S') => .val (some v) .eh [] S'
    | _, _ => none
  | .makeMap t none => match E.und t with
    | some (.map _ _) => some (.val (some (.map S.H.length)) .eh [] (push S (.map [])))
    | _ => none
  | .lookup t m k ok => match ev E g m, ev E g k with
    | some a, some b => one (lookupOp E t S a b ok) S
    | _, _ => none
  | .mapUpdate t m k v | .insert t m k v => match ev E g m, ev E g k, ev E g v with
    | some a, some b, some w => (updateOp E t S a b w).map fun S' => .val none .eh [] S'
    | _, _, _ => none
  | .makeInterface t x => match ev E g x, E.und t with
    | some _, some (.interface _) => none
    | some v, some _ => pureVal (some (.ifc t v)) S
    | _, _ => none
  | .call cl => match cl.callee, evs E g cl.args.toList with
    | .builtin .len, some [x] => match (cl.argTypes[0]?) with
      | some t => one (lenOp E t S x) S
      | none => none
    | .builtin .cap, some [x] => match (cl.argTypes[0]?) with
      | some t => pureVal (capOp E t x) S
      | none => none
    | .builtin .append, some [s, x] => match (cl.argTypes[0]?), (cl.argTypes[1]?).bind E.und with
      | some t, some (.slice _) | some t, some .string => (appendOp E S t s x).map fun (v, k, S') => .val (some v) k [] S'
      | _, _ => none
    | .builtin .copy, some [d, s] => match (cl.argTypes[0]?) with
      | some t => (copyOp E t S d s).map fun (v, S') => .val (some v) .eh [] S'
      | none => none
    | .builtin .clear, some [d] => match (cl.argTypes[0]?) with
      | some t => (clearOp E t S d).map fun S' => .val (some (.tup [])) .eh [] S'
      | none => none
    | .builtin .max, some l => pureVal (minMax true l) S
    | .builtin .min, some l => pureVal (minMax false l) S
    | .value h, some args => match ev E g h with
      | some (.fn f cap) => some (.call f (args ++ cap))
      | some (.yield l) => some (.yld l args)
      | _ => none
    | _, _ => none
  | _ => none

end Go.V

/- The interpreter: regions, calls, rounds of ranges over functions, a stack of items. -/
namespace Go.V

abbrev Out := Option Code × Fr × St
abbrev Rec := Ctx → List Item → Fr → St → Option Out

mutual
/-- no reference to a block of number n or above -/
def Val.low (n : Nat) : Val → Bool
  | .ptr b _ _ | .sl b _ _ _ _ | .map b => b < n
  | .pin cs _ | .lv cs | .sli cs _ _ | .fn _ cs | .agg cs | .tup cs => Val.lows n cs
  | .ifc _ v => v.low n
  | _ => true
def Val.lows (n : Nat) : List Val → Bool
  | [] => true
  | v :: l => v.low n && Val.lows n l
end
def Block.low (n : Nat) : Block → Bool
  | .cells cs _ => Val.lows n cs
  | .map es => es.all fun e => e.1.low n && e.2.low n

def Block.noY (m : Nat) : Block → Bool
  | .cells cs _ => Val.noYs m cs
  | .map es => es.all fun e => e.1.noY m && e.2.noY m

def mapO (f : Val → Option Val) : List Val → Option (List Val)
  | [] => some []
  | v :: l => match f v, mapO f l with
    | some a, some b => some (a :: b)
    | _, _ => none

/-- what refers to blocks from n on is written out -/
def fz (n : Nat) (S : St) : Nat → Val → Option Val
  | 0, _ => none
  | d + 1, v => if v.low n then some v else
    match v with
    | .ptr b off e => match hcells S b e with
      | some cs => (mapO (fz n S d) cs).map fun l => .pin l off
      | none => none
    | .sl b off len esz c => match hcells S b c.ext with
      | some cs => match cut cs off (len * esz) with
        | some l => (mapO (fz n S d) l).map fun l' => .sli l' len .any
        | none => none
      | none => none
    | .pin cs o => (mapO (fz n S d) cs).map (.pin · o)
    | .sli cs l q => (mapO (fz n S d) cs).map (.sli · l q)
    | .fn f cs => (mapO (fz n S d) cs).map (.fn f ·)
    | .agg cs => (mapO (fz n S d) cs).map .agg
    | .tup cs => (mapO (fz n S d) cs).map .tup
    | .ifc t v => (fz n S d v).map (.ifc t ·)
    | _ => none

/-- the elder blocks are as they were, or refer to elder ones alone -/
def keptH (n : Nat) : List Block → List Block → Bool
  | [], _ => true
  | a :: l, b :: m => (b.low n || b.beq a) && keptH n l m
  | _ :: _, [] => false
def frBeq : Fr → Fr → Bool
  | [], [] => true
  | (a, v) :: l, (b, w) :: m => a == b && v.beq w && frBeq l m
  | _, _ => false
def keptL (n : Nat) : List LoopRec → List LoopRec → Bool
  | [], [] => true
  | a :: l, b :: m => (b.busy || b.fr.all (fun e => e.2.low n) || frBeq b.fr a.fr) && keptL n l m
  | _, _ => false

/-- behind a loop of number m nothing names it -/
def keptYH (m : Nat) : List Block → List Block → Bool
  | [], l => l.all (·.noY m)
  | a :: l, b :: r => (b.noY m || b.beq a) && keptYH m l r
  | _ :: _, [] => false
def frY (m : Nat) : Fr → Fr → Bool
  | [], [] => true
  | (s, u) :: a, (t, v) :: b => s == t && (v.noY m || v.beq u) && frY m a b
  | _, _ => false
def keptYL (m : Nat) : List LoopRec → List LoopRec → Bool
  | [], _ => true
  | a :: l, b :: r => (b.busy || frY m a.fr b.fr) && keptYL m l r
  | _ :: _, [] => false

def fzDepth : Nat := 64

/-- the end of a call: S0 is the state that it began in -/
def finish (E : Env) (g : FuncId) (S0 : St) (v : Val) (S1 : St) : Option (Val × St) :=
  match E.mode g with
  | .keep => some (v, S1)
  | .drop =>
    if keptH S0.H.length S0.H S1.H && keptL S0.H.length S0.L S1.L then
      match fz S0.H.length S1 fzDepth v with
      | some v' => some (v', { S1 with H := S1.H.take S0.H.length })
      | none => none
    else none

def argFr : Nat → List Val → Fr
  | _, [] => []
  | i, v :: l => (i, v) :: argFr (i + 1) l

def resultV (E : Env) (g : G) (S : St) : ResultVar → Option Val
  | .tmp t => ev E g (.tmp t)
  | .cell a t => match E.und t, E.size t, place E g (.tmp a) with
    | some d, some n, some p => match cellsAt g S p with
      | some cs => ofCells d cs p.off n
      | none => none
    | _, _, _ => none
def resultsV (E : Env) (g : G) (S : St) : List ResultVar → Option (List Val)
  | [] => some []
  | r :: l => match resultV E g S r, resultsV E g S l with
    | some v, some vs => some (v :: vs)
    | _, _ => none
def wrapV : List Val → Val
  | [v] => v
  | vs => .tup vs

def isRet : Option Code → Bool
  | none | some .ret => true
  | _ => false

def callV (rec : Rec) (E : Env) (g : FuncId) (args : List Val) (S : St) : Option (Val × St) :=
  match E.native g with
  | some nf => nf args S
  | none => match E.P.funcs[g]? with
    | some fn => match fn.body with
      | some body =>
        if args.length ≤ fn.ntmps then
          match rec ⟨g, fn.ntmps, []⟩ [.code body] (argFr 0 args) S with
          | some (j, fr, S1) =>
            if isRet j then match resultsV E fr.get S1 fn.results.toList with
              | some vs => finish E g S (wrapV vs) S1
              | none => none
            else none
          | none => none
        else none
      | none => none
    | none => none

def setParams : List Tmp → List Val → Fr → Option Fr
  | [], [], fr => some fr
  | t :: ts, v :: vs, fr => setParams ts vs (fr.put t v)
  | _, _, _ => none

/-- behind a round: the locals of the function are as the round left them -/
def mergeFr : Fr → Fr → Option Fr
  | [], _ => some []
  | (t, .lv c) :: r, new => match new.get t, mergeFr r new with
    | some (.lv c'), some r' => some ((t, .lv c') :: r')
    | some (.pin c' 0), some r' => some ((t, .pin c' 0) :: r')
    | _, _ => none
  | (t, v) :: r, new => match mergeFr r new with
    | some r' => some ((t, v) :: r')
    | none => none
def lvKeys : Fr → List Nat
  | [] => []
  | (t, .lv _) :: r => t :: lvKeys r
  | _ :: r => lvKeys r

def yieldV (rec : Rec) (E : Env) (l : Nat) (args : List Val) (S : St) : Option (Val × St) :=
  match S.L[l]? with
  | some r =>
    if r.busy || r.done then none else
    match E.P.funcs[r.fn]?, setParams r.params.toList args r.fr with
    | some fn, some fr0 =>
      if (r.params.toList.all fun t => decide (t < fn.ntmps) && !(lvKeys r.fr).contains t) = true then
      match rec ⟨r.fn, fn.ntmps, lvKeys r.fr⟩ [.code r.assign] fr0 { S with L := S.L.set l { r with busy := true, begun := false } } with
      | some (none, fr1, S1) =>
        match rec ⟨r.fn, fn.ntmps, lvKeys r.fr⟩ [.code r.body] fr1 { S1 with L := S1.L.set l { r with busy := true, begun := true } } with
        | some (j, fr2, S2) => match mergeFr r.fr fr2 with
          | some fr' => some (.bool j.isNone, { S2 with L := S2.L.set l { r with fr := fr', pending := j, done := j.isSome } })
          | none => none
        | none => none
      | _ => none
      else none
    | _, _ => none
  | none => none

def putO (c : Ctx) (fr : Fr) (dst : Option Tmp) (v : Val) : Option Fr :=
  match dst with
  | some d => if d < c.n ∧ c.fixed.contains d = false then some (fr.put d v) else none
  | none => some fr

def stepOp (rec : Rec) (E : Env) (c : Ctx) (fr : Fr) (S : St) (o : Oper) : Option (Fr × St) :=
  match opV E c fr.get S o with
  | some (.val v _ ups S') => match putO c (fr.puts ups) o.dst (v.getD (.tup [])) with
    | some fr' => some (fr', S')
    | none => none
  | some (.laid cs) => match o.dst with
    | some d => if d < c.n ∧ c.fixed.contains d = false then some ((fr.unloc d).put d (.lv cs), S) else none
    | none => none
  | some (.call g args) => match callV rec E g args S with
    | some (v, S') => match putO c fr o.dst v with
      | some fr' => some (fr', S')
      | none => none
    | none => none
  | some (.yld l args) => match yieldV rec E l args S with
    | some (v, S') => match putO c fr o.dst v with
      | some fr' => some (fr', S')
      | none => none
    | none => none
  | none => none

/-- is an operation wanted? -/
def wantedV (ops : Array Oper) (g : G) (o : Oper) : Option Bool :=
  match o.guard with
  | none => some true
  | some (j, w) => match ops[j]? with
    | some p => match p.dst with
      | some d => match g d with
        | some (.bool b) => some (b == w)
        | some (.tup []) => some false
        | _ => none
      | none => none
    | none => none

/-- a region in the order of the text -/
def opsV (rec : Rec) (E : Env) (c : Ctx) (all : Array Oper) : List Oper → Fr → St → Option (Fr × St)
  | [], fr, S => some (fr, S)
  | o :: l, fr, S => match wantedV all fr.get o with
    | some true => match stepOp rec E c fr S o with
      | some (fr', S') => opsV rec E c all l fr' S'
      | none => none
    | some false => match putO c fr o.dst (.tup []) with
      | some fr' => opsV rec E c all l fr' S
      | none => none
    | none => none

/-- what an operation did: where it stood, what it touched -/
structure Did where
  o : Oper
  fr : Fr
  S : St
  k : Cls
  v : Val
  ups : List (Nat × Val)
  S' : St

/-- no place of local d -/
def noLoc (d : Nat) : Fr → Bool
  | [] => true
  | (_, v) :: r => (v.first || (match v with | .loc s _ => s != d | _ => true)) && noLoc d r

/-- an operation of a region whose order is open -/
def stepT (rec : Rec) (E : Env) (c : Ctx) (fr0 fr : Fr) (S : St) (o : Oper) : Option (Fr × Did) :=
  match opV E c fr.get S o with
  | some (.val v k ups S') => match putO c (fr.puts ups) o.dst (v.getD (.tup [])) with
    | some fr' => some (fr', ⟨o, fr, S, k, v.getD (.tup []), ups, S'⟩)
    | none => none
  | some (.laid cs) => match o.dst with
    | some d => if d < c.n ∧ c.fixed.contains d = false ∧ noLoc d fr0 = true then some (fr.put d (.lv cs), ⟨o, fr, S, .pure, .lv cs, [], S⟩) else none
    | none => none
  | some (.call g args) => match callV rec E g args S with
    | some (v, S') => match putO c fr o.dst v with
      | some fr' => some (fr', ⟨o, fr, S, .eh, v, [], S'⟩)
      | none => none
    | none => none
  | some (.yld l args) => match yieldV rec E l args S with
    | some (v, S') => match putO c fr o.dst v with
      | some fr' => some (fr', ⟨o, fr, S, .eh, v, [], S'⟩)
      | none => none
    | none => none
  | none => none

/-- a region in the order of the text, with what its operations did -/
def opsT (rec : Rec) (E : Env) (c : Ctx) (all : Array Oper) (fr0 : Fr) : List Oper → Fr → St → Option (Fr × St × List Did)
  | [], fr, S => some (fr, S, [])
  | o :: l, fr, S => match wantedV all fr.get o with
    | some true => match stepT rec E c fr0 fr S o with
      | some (fr', d) => match opsT rec E c all fr0 l fr' d.S' with
        | some (fr2, S2, tr) => some (fr2, S2, d :: tr)
        | none => none
      | none => none
    | some false => match putO c fr o.dst (.tup []) with
      | some fr' => match opsT rec E c all fr0 l fr' S with
        | some (fr2, S2, tr) => some (fr2, S2, ⟨o, fr, S, .pure, .tup [], [], S⟩ :: tr)
        | none => none
      | none => none
    | none => none

def Cls.slots : Cls → List Nat
  | .rl t | .wl t => [t]
  | _ => []
/-- the temporaries that an operation names -/
def looks (all : Array Oper) (o : Oper) : List Nat :=
  (o.op.operands.toList.filterMap fun | .tmp t => some t | _ => none) ++
  (match o.guard with
   | some (g, _) => ((all[g]?).bind (·.dst)).toList
   | none => [])
def Did.W (d : Did) : List Nat := d.o.dst.toList ++ d.ups.map (·.1)
/-- the local that a value is a place of -/
def locT (v : Val) : List Nat := if v.first then [] else match v with
  | .loc t _ => [t]
  | _ => []
def Did.R (all : Array Oper) (d : Did) : List Nat := looks all d.o ++ d.k.slots ++ locT d.v
def disj (a b : List Nat) : Bool := a.all fun x => !b.contains x
def heapOk : Cls → Cls → Bool
  | .bad, _ | _, .bad => false
  | .eh, .eh => false
  | _, _ => true

/-- the reading gives the same in another state -/
def stable (E : Env) (c : Ctx) (d : Did) (S : St) : Bool :=
  match opV E c d.fr.get S d.o with
  | some (.val (some v) .rh [] _) => v.beq d.v
  | _ => false
def stableAt (E : Env) (c : Ctx) (a b : Did) : Bool :=
  match a.k, b.k with
  | .rh, .eh => stable E c a b.S && stable E c a b.S'
  | .eh, .rh => stable E c b a.S && stable E c b a.S'
  | _, _ => true

/-- the masks of those that come before -/
def befT : List Oper → List Nat → List Nat
  | [], acc => acc
  | o :: l, acc => befT l (acc ++ [o.after.toList.foldl (fun s e => if Region.binds .any e then s ||| 2 ^ e.on ||| acc.getD e.on 0 else s) 0])
def edgesOk : List Oper → Nat → Bool
  | [], _ => true
  | o :: l, i => (o.after.toList.all fun e => !Region.binds .any e || decide (e.on < i)) && edgesOk l (i + 1)

/-- what of the look at two operations asks for no values -/
def pairOk (all : Array Oper) (a b : Did) : Bool :=
  disj a.W (b.W ++ b.R all) && disj (a.R all) b.W && heapOk a.k b.k
/-- no place of a local from before it is laid -/
def lvOk (a b : Did) : Bool := match b.v, b.o.dst with
  | .lv _, some t => !(locT a.v).contains t
  | _, _ => true
def upsOk (d : Did) : Bool := d.ups.all fun x => (locT x.2).isEmpty
def drawRow (E : Env) (c : Ctx) (all : Array Oper) (bef : List Nat) (i : Nat) (a : Did) : Nat → List Did → Bool
  | _, [] => true
  | j, b :: l => ((bef.getD j 0).testBit i || (pairOk all a b && stableAt E c a b)) && lvOk a b && drawRow E c all bef i a (j + 1) l
def drawOk (E : Env) (c : Ctx) (all : Array Oper) (bef : List Nat) : Nat → List Did → Bool
  | _, [] => true
  | i, a :: l => upsOk a && drawRow E c all bef i a (i + 1) l && drawOk E c all bef (i + 1) l

def regionV (rec : Rec) (E : Env) (c : Ctx) (id : Nat) (ops : Array Oper) (draw : Bool) (fr : Fr) (S : St) : Option (Fr × St) :=
  if draw then
    match E.lo c.f id, opsT rec E c ops fr ops.toList fr S with
    | some l, some (fr', S', tr) =>
      if edgesOk ops.toList 0 && drawOk E c ops (befT ops.toList []) 0 tr then some (fr'.keep l, S') else none
    | _, _ => none
  else match opsV rec E c ops ops.toList fr S with
    | some (fr', S') => some (match E.lo c.f id with
      | some l => fr'.keep l
      | none => fr', S')
    | none => none

def loopFr (E : Env) (c : Ctx) (k : List Item) (fr : Fr) : Fr :=
  match k with
  | .inBlock id :: _ => match E.lh c.f id with
    | some l => fr.keep l
    | none => fr
  | _ => fr

/-- One step. -/
def stepV (rec : Rec) (E : Env) (c : Ctx) (k : List Item) (fr : Fr) (S : St) : Option Out :=
  match k with
  | [] => some (none, fr, S)
  | .code .skip :: k | .inBlock _ :: k => rec c k fr S
  | .code (.seq a b) :: k => rec c (.code a :: .code b :: k) fr S
  | .code (.cond o a b) :: k => match ev E fr.get o with
    | some (.bool true) => rec c (.code a :: k) fr S
    | some (.bool false) => rec c (.code b :: k) fr S
    | _ => none
  | .code (.block id b) :: k => rec c (.code b :: .inBlock id :: k) fr S
  | .code (.loop b) :: k => rec c (.code b :: .inLoop b :: k) (loopFr E c k fr) S
  | .inLoop b :: k => rec c (.code b :: .inLoop b :: k) (loopFr E c k fr) S
  | .code .ret :: _ => some (some .ret, fr, S)
  | .code (.exit id) :: k => match exitTo id k with
    | some k' => rec c k' fr S
    | none => some (some (.exit id), fr, S)
  | .code (.region id ops draw) :: k => match regionV rec E c id ops draw fr S with
    | some (fr', S') => rec c k fr' S'
    | none => none
  | .code (.rangeFunc f ps a b) :: k => match ev E fr.get f with
    | some (.fn g cap) =>
      match callV rec E g (.yield S.L.length :: cap) { S with L := S.L ++ [⟨c.f, fr, ps, a, b, false, false, false, none⟩] } with
      | some (_, S2) => match S2.L[S.L.length]? with
        | some r => if S2.L.length = S.L.length + 1 ∧ r.busy = false ∧ keptYH S.L.length S.H S2.H = true ∧ keptYL S.L.length S.L S2.L = true ∧ frY S.L.length fr r.fr = true then
            rec c ((r.pending.map Item.code).toList ++ k) r.fr { S2 with L := S2.L.take S.L.length }
          else none
        | none => none
      | none => none
    | _ => none
  | _ => none

def run (E : Env) : Nat → Rec
  | 0 => fun _ _ _ _ => none
  | n + 1 => fun c k fr S => stepV (run E n) E c k fr S

def call (E : Env) (n : Nat) : FuncId → List Val → St → Option (Val × St) := callV (run E n) E
end Go.V

/- What the interpreter's values stand for in a world of the model, and what of it stays when the world goes on. -/
namespace Go.V

inductive Shape where
  | cells (flex : Bool) (n : Nat)
  | map
  deriving DecidableEq

def Block.shape : Block → Shape
  | .cells cs f => .cells f cs.length
  | .map _ => .map

/-- Whose is a block of the world? A block of the clean heap; a local of a frame; a loop; a frame's deferred calls. -/
inductive Own where
  | h (b : Nat)
  | lv (f t : Nat)
  | loop (l : Nat)
  | mark (f : Nat)
  deriving DecidableEq

structure K where
  σ : Nat → Nat × Nat
  lo : Nat → Nat
  sh : Nat → Option Shape
  own : Nat → Option Own
  /-- the frame in which a loop stands, and its temporaries there -/
  lp : Nat → Nat × Array Value
  /-- how many cells a grown block has in the world -/
  room : Nat → Nat
  w : World

def K.fid (k : K) (l : Nat) : Nat := (k.lp l).1
def K.tm (k : K) (l : Nat) : Array Value := (k.lp l).2

mutual
def Rep (k : K) : Val → Value → Prop
  | .unk, _ => True
  | .bool b, v => v = .bool b
  | .int q n, v => v = .int q n
  | .str s, v => ∃ a : ByteArray, v = .string a ∧ a.data.toList = s
  | .nilp, v => v = .pointer none
  | .ptr b off none, v => (∃ n, k.sh b = some (.cells false n)) ∧ v = .pointer (some ⟨(k.σ b).1, (k.σ b).2 + off, none⟩)
  | .ptr b off (some e), v => ∃ n p, k.sh b = some (.cells true n) ∧ e ≤ n ∧ v = .pointer p ∧ (e = n → p = some ⟨(k.σ b).1, (k.σ b).2 + off, none⟩)
  | .pin cs off, v => ∃ c o, v = .pointer (some ⟨c, o + off, none⟩) ∧ RepMem k c o cs
  | .lv _, _ => False
  | .loc _ _, _ => False
  | .sl b off len _ (.fix cp), v => (∃ n, k.sh b = some (.cells false n)) ∧ v = .slice (some ⟨(k.σ b).1, (k.σ b).2 + off, none⟩) len cp ∧ len ≤ cp
  | .sl b off len esz (.flex e), v => ∃ n p cp, k.sh b = some (.cells true n) ∧ e ≤ n ∧ v = .slice p len cp ∧ (e = n → p = some ⟨(k.σ b).1, (k.σ b).2 + off, none⟩ ∧ len ≤ cp ∧ e ≤ off + cp * esz ∧ off + cp * esz ≤ k.room b)
  | .sli cs len q, v => ∃ a cp, v = .slice a len cp ∧ len ≤ cp ∧ (q = .nil → a = none ∧ cp = 0) ∧ ((q = .exact → cp = len) ∧ (q ≠ .nil → a.isSome = true)) ∧
      (len = 0 ∨ ∃ c o, a = some ⟨c, o, none⟩ ∧ RepMem k c o cs)
  | .fn f cs, v => ∃ a : Array Value, v = .func (.func f) #[] a ∧ RepAll k cs a.toList
  | .yield l, v => k.own (k.lo l) = some (.loop l) ∧ v = .func (.yield (k.lo l)) #[] #[]
  | .nilf, v => v = .nilFunc
  | .map b, v => k.sh b = some .map ∧ v = .map (some (k.σ b).1)
  | .nilm, v => v = .map none
  | .ifc t x, v => ∃ y, v = .iface t y ∧ Rep k x y
  | .nili, v => v = .nilIface
  | .agg cs, v => ∃ a : Array Value, v = .agg a ∧ RepAll k cs a.toList ∧ ∀ x ∈ a.toList, x.oneCell' = true
  | .tup cs, v => ∃ a : Array Value, v = .tuple a ∧ RepAll k cs a.toList
/-- frozen memory at a block's cell o and behind -/
def RepMem (k : K) (c o : Nat) : List Val → Prop
  | [] => True
  | x :: l => (k.own c = none ∧ ∃ v, k.w.cell? ⟨c, o, none⟩ = some v ∧ v.oneCell' = true ∧ Rep k x v) ∧ RepMem k c (o + 1) l
def RepAll (k : K) : List Val → List Value → Prop
  | [], [] => True
  | x :: l, v :: m => Rep k x v ∧ RepAll k l m
  | _, _ => False
end

/-- memory that may be written -/
def RepOwn (k : K) (c o : Nat) : List Val → Prop
  | [] => True
  | x :: l => (∃ v, k.w.cell? ⟨c, o, none⟩ = some v ∧ k.w.frozen? ⟨c, o, none⟩ = false ∧ v.oneCell' = true ∧ Rep k x v) ∧ RepOwn k c (o + 1) l

/-- What makes every value stand for what it stood for. -/
structure K.Le (k k' : K) : Prop where
  sh : ∀ b s, k.sh b = some s → (k'.sh b = some s ∧ k'.σ b = k.σ b ∧ k'.room b = k.room b) ∨ (∃ n n', s = .cells true n ∧ k'.sh b = some (.cells true n') ∧ n < n')
  loop : ∀ l, k.own (k.lo l) = some (.loop l) → k'.lo l = k.lo l ∧ k'.own (k.lo l) = some (.loop l) ∧ k'.lp l = k.lp l
  inl : ∀ c, c < k.w.heap.size → k.own c = none → k'.own c = none ∧ k'.w.heap[c]? = k.w.heap[c]?

theorem K.Le.refl (k : K) : k.Le k := ⟨fun _ _ h => .inl ⟨h, rfl, rfl⟩, fun _ h => ⟨rfl, h, rfl⟩, fun _ _ h => ⟨h, rfl⟩⟩

theorem cell?_heap {w w' : World} {c o : Nat} (h : w'.heap[c]? = w.heap[c]?) : w'.cell? ⟨c, o, none⟩ = w.cell? ⟨c, o, none⟩ := by
  simp [World.cell?, h]
theorem frozen?_heap {w w' : World} {c o : Nat} (h : w'.heap[c]? = w.heap[c]?) : w'.frozen? ⟨c, o, none⟩ = w.frozen? ⟨c, o, none⟩ := by
  simp [World.frozen?, h]

mutual
theorem Rep.mono {k k' : K} (h : k.Le k') : ∀ (x : Val) (v : Value), Rep k x v → Rep k' x v
  | .unk, _, _ => by simp [Rep]
  | .bool _, _, r => by simpa [Rep] using r
  | .int _ _, _, r => by simpa [Rep] using r
  | .str _, _, r => by simpa [Rep] using r
  | .nilp, _, r => by simpa [Rep] using r
  | .ptr b off none, _, r => by
    simp only [Rep] at r ⊢
    obtain ⟨⟨n, hs⟩, hv⟩ := r
    rcases h.sh b _ hs with ⟨h1, h2, hr⟩ | ⟨n1, n2, h1, h2, h3⟩
    · exact ⟨⟨n, h1⟩, by rw [h2]; exact hv⟩
    · simp at h1
  | .ptr b off (some e), _, r => by
    simp only [Rep] at r ⊢
    obtain ⟨n, p, hs, he, hp, hv⟩ := r
    rcases h.sh b _ hs with ⟨h1, h2, hr⟩ | ⟨n1, n2, h1, h2, h3⟩
    · exact ⟨n, p, h1, he, hp, by rw [h2]; exact hv⟩
    · simp only [Shape.cells.injEq, true_and] at h1; subst h1
      exact ⟨n2, p, h2, by omega, hp, fun e1 => by omega⟩
  | .pin cs off, _, r => by
    simp only [Rep] at r ⊢
    obtain ⟨c, o, hv, hm⟩ := r
    exact ⟨c, o, hv, RepMem.mono h c o cs hm⟩
  | .lv _, _, r => by simp [Rep] at r
  | .loc _ _, _, r => by simp [Rep] at r
  | .sl b off len _ (.fix cp), _, r => by
    simp only [Rep] at r ⊢
    obtain ⟨⟨n, hs⟩, hv⟩ := r
    rcases h.sh b _ hs with ⟨h1, h2, hr⟩ | ⟨n1, n2, h1, h2, h3⟩
    · exact ⟨⟨n, h1⟩, by rw [h2]; exact hv⟩
    · simp at h1
  | .sl b off len _ (.flex e), _, r => by
    simp only [Rep] at r ⊢
    obtain ⟨n, p, cp, hs, he, hp, hv⟩ := r
    rcases h.sh b _ hs with ⟨h1, h2, hr⟩ | ⟨n1, n2, h1, h2, h3⟩
    · exact ⟨n, p, cp, h1, he, hp, by rw [h2, hr]; exact hv⟩
    · simp only [Shape.cells.injEq, true_and] at h1; subst h1
      exact ⟨n2, p, cp, h2, by omega, hp, fun e1 => by omega⟩
  | .sli cs len q, _, r => by
    simp only [Rep] at r ⊢
    obtain ⟨a, cp, hv, h1, h2, h3, h4⟩ := r
    refine ⟨a, cp, hv, h1, h2, h3, ?_⟩
    rcases h4 with h4 | ⟨c, o, ha, hm⟩
    · exact .inl h4
    · exact .inr ⟨c, o, ha, RepMem.mono h c o cs hm⟩
  | .fn f cs, _, r => by
    simp only [Rep] at r ⊢
    obtain ⟨a, hv, hm⟩ := r
    exact ⟨a, hv, RepAll.mono h cs _ hm⟩
  | .yield l, _, r => by
    simp only [Rep] at r ⊢
    obtain ⟨h1, h2, _⟩ := h.loop l r.1
    rw [h1]
    exact ⟨h2, r.2⟩
  | .nilf, _, r => by simpa [Rep] using r
  | .map b, _, r => by
    simp only [Rep] at r ⊢
    rcases h.sh b _ r.1 with ⟨h1, h2, hr⟩ | ⟨n1, n2, h1, h2, h3⟩
    · exact ⟨h1, by rw [h2]; exact r.2⟩
    · simp at h1
  | .nilm, _, r => by simpa [Rep] using r
  | .ifc t x, _, r => by
    simp only [Rep] at r ⊢
    obtain ⟨y, hv, hm⟩ := r
    exact ⟨y, hv, Rep.mono h x y hm⟩
  | .nili, _, r => by simpa [Rep] using r
  | .agg cs, _, r => by
    simp only [Rep] at r ⊢
    obtain ⟨a, hv, hm, h1⟩ := r
    exact ⟨a, hv, RepAll.mono h cs _ hm, h1⟩
  | .tup cs, _, r => by
    simp only [Rep] at r ⊢
    obtain ⟨a, hv, hm⟩ := r
    exact ⟨a, hv, RepAll.mono h cs _ hm⟩
theorem RepMem.mono {k k' : K} (h : k.Le k') (c o : Nat) : ∀ (cs : List Val), RepMem k c o cs → RepMem k' c o cs
  | [], _ => by simp [RepMem]
  | x :: l, r => by
    simp only [RepMem] at r ⊢
    obtain ⟨⟨hn, v, hv, h0, hr⟩, hl⟩ := r
    obtain ⟨h1, h2⟩ := h.inl c (World.block_lt_of_cell? _ _ hv) hn
    exact ⟨⟨h1, v, by rw [cell?_heap h2]; exact hv, h0, Rep.mono h x v hr⟩, RepMem.mono h c (o + 1) l hl⟩
theorem RepAll.mono {k k' : K} (h : k.Le k') : ∀ (cs : List Val) (vs : List Value), RepAll k cs vs → RepAll k' cs vs
  | [], [], _ => by simp [RepAll]
  | x :: l, v :: m, r => by
    simp only [RepAll] at r ⊢
    exact ⟨Rep.mono h x v r.1, RepAll.mono h l m r.2⟩
  | [], _ :: _, r => by simp [RepAll] at r
  | _ :: _, [], r => by simp [RepAll] at r
end

theorem K.Le.trans {a b c : K} (h : a.Le b) (h' : b.Le c) (hs : a.w.heap.size ≤ b.w.heap.size) : a.Le c where
  sh := by
    intro x s hx
    rcases h.sh x s hx with ⟨h1, h2, h0⟩ | ⟨n, n', h1, h2, h3⟩
    · rcases h'.sh x s h1 with ⟨h3, h4, h5⟩ | h3
      · exact .inl ⟨h3, h4.trans h2, h5.trans h0⟩
      · exact .inr h3
    · rcases h'.sh x _ h2 with ⟨h4, h5, _⟩ | ⟨m, m', h4, h5, h6⟩
      · exact .inr ⟨n, n', h1, h4, h3⟩
      · simp only [Shape.cells.injEq, true_and] at h4
        exact .inr ⟨n, m', h1, h5, by omega⟩
  loop := by
    intro l hl
    obtain ⟨h1, h2, h5⟩ := h.loop l hl
    obtain ⟨h3, h4, h6⟩ := h'.loop l (by rw [h1]; exact h2)
    rw [h1] at h3 h4
    exact ⟨h3, h4, h6.trans h5⟩
  inl := by
    intro x hx hn
    obtain ⟨h1, h2⟩ := h.inl x hx hn
    obtain ⟨h3, h4⟩ := h'.inl x (by omega) h1
    exact ⟨h3, h4.trans h2⟩

/-- owned memory, where its block stays as it was -/
theorem RepOwn.mono {k k' : K} (h : k.Le k') {c : Nat} (hc : k'.w.heap[c]? = k.w.heap[c]?) (o : Nat) : ∀ (cs : List Val), RepOwn k c o cs → RepOwn k' c o cs := by
  intro cs
  induction cs generalizing o with
  | nil => simp [RepOwn]
  | cons x l ih =>
    intro r
    simp only [RepOwn] at r ⊢
    obtain ⟨⟨v, hv, hf, h0, hr⟩, hl⟩ := r
    exact ⟨⟨v, by rw [cell?_heap hc]; exact hv, by rw [frozen?_heap hc]; exact hf, h0, Rep.mono h x v hr⟩, ih (o + 1) hl⟩

theorem RepOwn.get {k : K} {c o : Nat} {cs : List Val} (h : RepOwn k c o cs) {i : Nat} {x : Val} (hi : cs[i]? = some x) :
    ∃ v, k.w.cell? ⟨c, o + i, none⟩ = some v ∧ k.w.frozen? ⟨c, o + i, none⟩ = false ∧ v.oneCell' = true ∧ Rep k x v := by
  induction cs generalizing o i with
  | nil => simp at hi
  | cons y l ih =>
    simp only [RepOwn] at h
    cases i with
    | zero => simp only [List.getElem?_cons_zero, Option.some.injEq] at hi; subst hi; exact h.1
    | succ i =>
      simp only [List.getElem?_cons_succ] at hi
      obtain ⟨v, h1, h2, h3⟩ := ih h.2 hi
      rw [show o + (i + 1) = o + 1 + i by omega]
      exact ⟨v, h1, h2, h3⟩

theorem RepOwn.mk {k : K} {c o : Nat} {cs : List Val}
    (h : ∀ i x, cs[i]? = some x → ∃ v, k.w.cell? ⟨c, o + i, none⟩ = some v ∧ k.w.frozen? ⟨c, o + i, none⟩ = false ∧ v.oneCell' = true ∧ Rep k x v) : RepOwn k c o cs := by
  induction cs generalizing o with
  | nil => simp [RepOwn]
  | cons y l ih =>
    simp only [RepOwn]
    refine ⟨h 0 y rfl, ih fun i x hi => ?_⟩
    have := h (i + 1) x (by simpa using hi)
    rwa [show o + (i + 1) = o + 1 + i by omega] at this

theorem RepMem.get {k : K} {c o : Nat} {cs : List Val} (h : RepMem k c o cs) {i : Nat} {x : Val} (hi : cs[i]? = some x) :
    k.own c = none ∧ ∃ v, k.w.cell? ⟨c, o + i, none⟩ = some v ∧ v.oneCell' = true ∧ Rep k x v := by
  induction cs generalizing o i with
  | nil => simp at hi
  | cons y l ih =>
    simp only [RepMem] at h
    cases i with
    | zero => simp only [List.getElem?_cons_zero, Option.some.injEq] at hi; subst hi; exact h.1
    | succ i =>
      simp only [List.getElem?_cons_succ] at hi
      obtain ⟨h0, v, h1, h3⟩ := ih h.2 hi
      rw [show o + (i + 1) = o + 1 + i by omega]
      exact ⟨h0, v, h1, h3⟩

theorem RepMem.mk {k : K} {c o : Nat} {cs : List Val}
    (h : ∀ i x, cs[i]? = some x → k.own c = none ∧ ∃ v, k.w.cell? ⟨c, o + i, none⟩ = some v ∧ v.oneCell' = true ∧ Rep k x v) : RepMem k c o cs := by
  induction cs generalizing o with
  | nil => simp [RepMem]
  | cons y l ih =>
    simp only [RepMem]
    refine ⟨h 0 y rfl, ih fun i x hi => ?_⟩
    have := h (i + 1) x (by simpa using hi)
    rwa [show o + (i + 1) = o + 1 + i by omega] at this

theorem RepAll.length {k : K} : ∀ {cs : List Val} {vs : List Value}, RepAll k cs vs → cs.length = vs.length
  | [], [], _ => rfl
  | _ :: _, _ :: _, h => by simp only [RepAll] at h; simp [RepAll.length h.2]
  | [], _ :: _, h => by simp [RepAll] at h
  | _ :: _, [], h => by simp [RepAll] at h

theorem RepAll.get {k : K} : ∀ {cs : List Val} {vs : List Value}, RepAll k cs vs → ∀ {i : Nat} {x : Val}, cs[i]? = some x → ∃ v, vs[i]? = some v ∧ Rep k x v
  | [], [], _, _, _, hi => by simp at hi
  | _ :: _, v :: _, h, 0, _, hi => by
    simp only [RepAll] at h
    simp only [List.getElem?_cons_zero, Option.some.injEq] at hi; subst hi
    exact ⟨v, rfl, h.1⟩
  | _ :: _, _ :: _, h, i + 1, _, hi => by
    simp only [RepAll] at h
    simpa using RepAll.get h.2 (i := i) (by simpa using hi)
  | [], _ :: _, h, _, _, _ => by simp [RepAll] at h
  | _ :: _, [], h, _, _, _ => by simp [RepAll] at h

theorem RepAll.mk {k : K} : ∀ {cs : List Val} {vs : List Value}, cs.length = vs.length → (∀ (i : Nat) (x : Val), cs[i]? = some x → ∃ v, vs[i]? = some v ∧ Rep k x v) → RepAll k cs vs
  | [], [], _, _ => by simp [RepAll]
  | x :: l, v :: m, hl, h => by
    simp only [RepAll]
    obtain ⟨v', h1, h2⟩ := h 0 x rfl
    simp only [List.getElem?_cons_zero, Option.some.injEq] at h1; subst h1
    exact ⟨h2, RepAll.mk (by simpa using hl) fun i y hi => by simpa using h (i + 1) y (by simpa using hi)⟩
  | [], _ :: _, hl, _ => by simp at hl
  | _ :: _, [], hl, _ => by simp at hl

theorem RepAll.append {k : K} {a b : List Val} {x y : List Value} (h : RepAll k a x) (h' : RepAll k b y) : RepAll k (a ++ b) (x ++ y) := by
  induction a generalizing x with
  | nil => cases x with
    | nil => simpa using h'
    | cons => simp [RepAll] at h
  | cons u l ih => cases x with
    | nil => simp [RepAll] at h
    | cons v m => simp only [RepAll, List.cons_append] at h ⊢; exact ⟨h.1, ih h.2⟩

theorem RepAll.drop {k : K} {a : List Val} {x : List Value} (h : RepAll k a x) (n : Nat) : RepAll k (a.drop n) (x.drop n) := by
  induction n generalizing a x with
  | zero => simpa using h
  | succ n ih => cases a with
    | nil => cases x with
      | nil => simp [RepAll]
      | cons => simp [RepAll] at h
    | cons u l => cases x with
      | nil => simp [RepAll] at h
      | cons v m => simp only [RepAll, List.drop_succ_cons] at h ⊢; exact ih h.2

theorem RepAll.take {k : K} {a : List Val} {x : List Value} (h : RepAll k a x) (n : Nat) : RepAll k (a.take n) (x.take n) := by
  induction n generalizing a x with
  | zero => simp [RepAll]
  | succ n ih => cases a with
    | nil => cases x with
      | nil => simp [RepAll]
      | cons => simp [RepAll] at h
    | cons u l => cases x with
      | nil => simp [RepAll] at h
      | cons v m => simp only [RepAll, List.take_succ_cons] at h ⊢; exact ⟨h.1, ih h.2⟩

/-- cells of a value -/
theorem Rep.cells {k : K} {x : Val} {v : Value} (h : Rep k x v) (hx : x.sto = true) :
    RepAll k x.cells v.cells.toList ∧ ∀ y ∈ v.cells.toList, y.oneCell' = true := by
  have one : ∀ {x : Val} {v : Value}, Rep k x v → x.cells = [x] → v.cells = #[v] → v.oneCell' = true → RepAll k x.cells v.cells.toList ∧ ∀ y ∈ v.cells.toList, y.oneCell' = true := by
    intro x v h h1 h2 h3
    rw [h1, h2]
    exact ⟨by simp only [RepAll]; exact ⟨h, trivial⟩, by simpa using h3⟩
  cases x with
  | agg cs => simp only [Rep] at h; obtain ⟨a, rfl, h, h1⟩ := h; exact ⟨h, h1⟩
  | unk => simp [Val.sto] at hx
  | lv => simp [Val.sto] at hx
  | loc => simp [Val.sto] at hx
  | tup => simp [Val.sto] at hx
  | bool b => have h' := h; simp only [Rep] at h; subst h; exact one h' rfl rfl rfl
  | int b => have h' := h; simp only [Rep] at h; subst h; exact one h' rfl rfl rfl
  | str b => have h' := h; simp only [Rep] at h; obtain ⟨_, rfl, _⟩ := h; exact one h' rfl rfl rfl
  | nilp => have h' := h; simp only [Rep] at h; subst h; exact one h' rfl rfl rfl
  | nilf => have h' := h; simp only [Rep] at h; subst h; exact one h' rfl rfl rfl
  | nilm => have h' := h; simp only [Rep] at h; subst h; exact one h' rfl rfl rfl
  | nili => have h' := h; simp only [Rep] at h; subst h; exact one h' rfl rfl rfl
  | ptr b off e =>
    have h' := h
    cases e with
    | none => simp only [Rep] at h; obtain ⟨_, rfl⟩ := h; exact one h' rfl rfl rfl
    | some e => simp only [Rep] at h; obtain ⟨_, _, _, _, rfl, _⟩ := h; exact one h' rfl rfl rfl
  | pin cs o => have h' := h; simp only [Rep] at h; obtain ⟨_, _, rfl, _⟩ := h; exact one h' rfl rfl rfl
  | sl b off len es e =>
    have h' := h
    cases e with
    | fix c => simp only [Rep] at h; obtain ⟨_, rfl, _⟩ := h; exact one h' rfl rfl rfl
    | flex e => simp only [Rep] at h; obtain ⟨_, _, _, _, _, rfl, _⟩ := h; exact one h' rfl rfl rfl
  | sli cs l q => have h' := h; simp only [Rep] at h; obtain ⟨_, _, rfl, _⟩ := h; exact one h' rfl rfl rfl
  | fn f cs => have h' := h; simp only [Rep] at h; obtain ⟨_, rfl, _⟩ := h; exact one h' rfl rfl rfl
  | yield l => have h' := h; simp only [Rep] at h; obtain ⟨_, rfl⟩ := h; exact one h' rfl rfl rfl
  | map b => have h' := h; simp only [Rep] at h; obtain ⟨_, rfl⟩ := h; exact one h' rfl rfl rfl
  | ifc t y => have h' := h; simp only [Rep] at h; obtain ⟨_, rfl, _⟩ := h; exact one h' rfl rfl rfl
end Go.V

/- A state of the interpreter in a world of the model; what a step may change. -/
namespace Go.V

def RepEnts (k : K) : List (Val × Val) → List MapEntry → Prop
  | [], [] => True
  | (a, b) :: l, e :: m => Rep k a e.key ∧ Rep k b e.val ∧ RepEnts k l m
  | _, _ => False

def BRep (k : K) (b : Nat) : Block → Prop
  | .cells cs fx => k.own (k.σ b).1 = some (.h b) ∧ RepOwn k (k.σ b).1 (k.σ b).2 cs ∧
      (fx = true → ∀ j, j < k.room b → (k.w.cell? ⟨(k.σ b).1, (k.σ b).2 + j, none⟩).isSome = true ∧ k.w.frozen? ⟨(k.σ b).1, (k.σ b).2 + j, none⟩ = false)
  | .map es => k.own (k.σ b).1 = some (.h b) ∧ ∃ ents clock, k.w.heap[(k.σ b).1]? = some (.map ents clock) ∧ RepEnts k es ents.toList

/-- a frame's slot -/
def SlotRep (k : K) (f : Nat) (g : G) (tmps : Array Value) (t : Nat) : Val → Prop
  | .lv cs => ∃ c, tmps.getD t undef = .pointer (some ⟨c, 0, none⟩) ∧ k.own c = some (.lv f t) ∧ RepOwn k c 0 cs
  | .loc s off => ∀ cs, g s = some (.lv cs) → ∃ c, tmps.getD s undef = .pointer (some ⟨c, 0, none⟩) ∧ tmps.getD t undef = .pointer (some ⟨c, off, none⟩)
  | v => Rep k v (tmps.getD t undef)

def FRep (k : K) (f : Nat) (g : G) (tmps : Array Value) : Prop :=
  ∀ t v, g t = some v → SlotRep k f g tmps t v

def loopState (r : LoopRec) : LoopState := if r.busy then (if r.begun then .busy else .ready) else if r.done then .done else .ready

structure LRep (E : Env) (k : K) (l : Nat) (r : LoopRec) : Prop where
  own : k.own (k.lo l) = some (.loop l)
  rep : ∃ tmps defers, k.w.heap[k.lo l]? = some (.loop { state := loopState r, pending := r.pending, fn := r.fn, tmps, params := r.params, assign := r.assign, body := r.body, defers }) ∧
    (r.busy = false → FRep k (k.fid l) r.fr.get tmps) ∧ tmps = k.tm l ∧ ∃ fn, E.P.funcs[r.fn]? = some fn ∧ tmps.size = fn.ntmps
  pend : r.done = false → r.pending = none

structure Sim (E : Env) (k : K) (S : St) : Prop where
  sh : ∀ b, k.sh b = (S.H[b]?).map Block.shape
  blk : ∀ b blk, S.H[b]? = some blk → BRep k b blk
  loop : ∀ l r, S.L[l]? = some r → LRep E k l r
  ownlt : ∀ c o, k.own c = some o → c < k.w.heap.size
  glob : ∀ g cs, E.glob g = some cs → RepMem k g 0 cs
  dead : ∀ (c l : Nat), k.own c = some (.loop l) → l < S.L.length

/-- what a call may touch of what there was -/
def touch (k : K) (L : List LoopRec) (c : Nat) : Prop :=
  match k.own c with
  | some (.h _) | some (.loop _) => True
  | some (.lv f _) => ∃ (l : Nat) (r : LoopRec), L[l]? = some r ∧ r.busy = false ∧ k.fid l = f
  | _ => False

/-- what a frame may touch -/
def touchF (k : K) (L : List LoopRec) (f : Nat) (c : Nat) : Prop :=
  touch k L c ∨ ∃ t, k.own c = some (.lv f t)

structure Evo (k k' : K) (T : Nat → Prop) : Prop where
  le : k.Le k'
  os : k'.w.os = k.w.os
  tape : k'.w.tape = k.w.tape
  output : k'.w.output = k.w.output
  size : k.w.heap.size ≤ k'.w.heap.size
  keep : ∀ c, c < k.w.heap.size → ¬ T c → k'.own c = k.own c ∧ k'.w.heap[c]? = k.w.heap[c]?

/-- frames' numbers lie below d -/
def Bound (k : K) (d : Nat) : Prop := ∀ c, (∀ f t, k.own c = some (.lv f t) → f < d) ∧ (∀ f, k.own c = some (.mark f) → f < d)

/-- the loops are the same ones, as busy as before -/
def LoopEq (L L' : List LoopRec) : Prop := L'.length = L.length ∧ ∀ (l : Nat) (r r' : LoopRec), L[l]? = some r → L'[l]? = some r' → r'.busy = r.busy

theorem LoopEq.refl (L : List LoopRec) : LoopEq L L := ⟨rfl, fun _ _ _ h h' => by rw [h] at h'; simp only [Option.some.injEq] at h'; rw [h']⟩
theorem LoopEq.trans {a b c : List LoopRec} (h : LoopEq a b) (h' : LoopEq b c) : LoopEq a c := by
  refine ⟨h'.1.trans h.1, fun l r r' hr hr' => ?_⟩
  have hl : l < b.length := by
    have := (List.getElem?_eq_some_iff.1 hr').1
    rw [h'.1] at this; exact this
  obtain ⟨q, hq⟩ : ∃ q, b[l]? = some q := ⟨_, List.getElem?_eq_getElem hl⟩
  exact (h'.2 l q r' hq hr').trans (h.2 l r q hr hq)

theorem touch.eq {k k' : K} {L L' : List LoopRec} (hL : LoopEq L L') (he : ∀ (l : Nat) (r : LoopRec), L[l]? = some r → k'.fid l = k.fid l) {c : Nat} (ho : k'.own c = k.own c) (h : touch k' L' c) : touch k L c := by
  unfold touch at h ⊢
  rw [ho] at h
  cases hx : k.own c with
  | none => rw [hx] at h; exact h
  | some o =>
    rw [hx] at h
    cases o with
    | h b => trivial
    | loop l => trivial
    | mark f => exact h
    | lv f t =>
      obtain ⟨l, r', hr', hb, hf⟩ := h
      have hl : l < L.length := by rw [← hL.1]; exact (List.getElem?_eq_some_iff.1 hr').1
      obtain ⟨q, hq⟩ : ∃ q, L[l]? = some q := ⟨_, List.getElem?_eq_getElem hl⟩
      exact ⟨l, q, hq, by rw [← hL.2 l q r' hq hr']; exact hb, by rw [← he l q hq]; exact hf⟩

theorem Evo.refl (k : K) (T : Nat → Prop) : Evo k k T := ⟨.refl k, rfl, rfl, rfl, Nat.le_refl _, fun _ _ _ => ⟨rfl, rfl⟩⟩

theorem Evo.trans {a b c : K} {T T' : Nat → Prop} (h : Evo a b T) (h' : Evo b c T') (hT : ∀ x, x < a.w.heap.size → b.own x = a.own x → T' x → T x) : Evo a c T where
  le := h.le.trans h'.le h.size
  os := h'.os.trans h.os
  tape := h'.tape.trans h.tape
  output := h'.output.trans h.output
  size := Nat.le_trans h.size h'.size
  keep := by
    intro x hx hn
    obtain ⟨h1, h2⟩ := h.keep x hx hn
    obtain ⟨h3, h4⟩ := h'.keep x (Nat.lt_of_lt_of_le hx h.size) (fun ht => hn (hT x hx h1 ht))
    exact ⟨h3.trans h1, h4.trans h2⟩

theorem Evo.weak {a b : K} {T T' : Nat → Prop} (h : Evo a b T) (hT : ∀ x, T x → T' x) : Evo a b T' :=
  { h with keep := fun c hc hn => h.keep c hc fun ht => hn (hT c ht) }

/-- a frame's slots stay while its own locals do -/
theorem FRep.mono {k k' : K} (h : k.Le k') {f : Nat} {g : G} {tmps : Array Value}
    (hl : ∀ c t, k.own c = some (.lv f t) → k'.own c = k.own c ∧ k'.w.heap[c]? = k.w.heap[c]?) (r : FRep k f g tmps) : FRep k' f g tmps := by
  intro t v hv
  have := r t v hv
  cases v with
  | lv cs =>
    simp only [SlotRep] at this ⊢
    obtain ⟨c, h1, h2, h3⟩ := this
    obtain ⟨h4, h5⟩ := hl c t h2
    exact ⟨c, h1, h4.trans h2, h3.mono h h5 0 cs⟩
  | loc s off => exact this
  | _ => exact Rep.mono h _ _ this

theorem RepEnts.mono {k k' : K} (h : k.Le k') : ∀ {l : List (Val × Val)} {m : List MapEntry}, RepEnts k l m → RepEnts k' l m
  | [], [], _ => by simp [RepEnts]
  | (a, b) :: l, e :: m, r => by
    simp only [RepEnts] at r ⊢
    exact ⟨r.1.mono h, r.2.1.mono h, RepEnts.mono h r.2.2⟩
  | [], _ :: _, r => by simp [RepEnts] at r
  | _ :: _, [], r => by simp [RepEnts] at r

theorem BRep.mono {k k' : K} (h : k.Le k') {b : Nat} {blk : Block} (hs : k'.σ b = k.σ b) (hm : k'.room b = k.room b)
    (ho : k'.own (k.σ b).1 = k.own (k.σ b).1) (hw : k'.w.heap[(k.σ b).1]? = k.w.heap[(k.σ b).1]?) (r : BRep k b blk) : BRep k' b blk := by
  cases blk with
  | cells cs fx =>
    simp only [BRep] at r ⊢
    rw [hs, hm]
    refine ⟨ho.trans r.1, r.2.1.mono h hw _ _, fun e j hj => ?_⟩
    rw [cell?_heap hw, frozen?_heap hw]
    exact r.2.2 e j hj
  | map es =>
    simp only [BRep] at r ⊢
    rw [hs]
    obtain ⟨r1, ents, clock, r2, r3⟩ := r
    exact ⟨ho.trans r1, ents, clock, hw.trans r2, r3.mono h⟩

/-- The world goes on where nothing is owned: Sim stays. -/
theorem Sim.world {E : Env} {k k' : K} {S : St} (h : Sim E k S) (hσ : k'.σ = k.σ) (hlo : k'.lo = k.lo) (hsh : k'.sh = k.sh) (hown : k'.own = k.own) (hlp : k'.lp = k.lp) (hroom : k'.room = k.room)
    (hsz : k.w.heap.size ≤ k'.w.heap.size) (hw : ∀ c, c < k.w.heap.size → k'.w.heap[c]? = k.w.heap[c]?) : k.Le k' ∧ Sim E k' S := by
  have hle : k.Le k' := ⟨fun b s hb => .inl ⟨by rw [hsh]; exact hb, by rw [hσ], by rw [hroom]⟩, fun l hl => ⟨by rw [hlo], by rw [hown]; exact hl, by rw [hlp]⟩,
    fun c hc hn => ⟨by rw [hown]; exact hn, hw c hc⟩⟩
  have own_ : ∀ c o, k.own c = some o → k'.w.heap[c]? = k.w.heap[c]? := fun c o ho => hw c (h.ownlt c o ho)
  refine ⟨hle, ⟨fun b => by rw [hsh]; exact h.sh b, ?_, ?_, ?_, ?_, fun c l hc => h.dead c l (by rw [hown] at hc; exact hc)⟩⟩
  · intro b blk hb
    have r := h.blk b blk hb
    have ho : k.own (k.σ b).1 = some (.h b) := by cases blk <;> exact r.1
    exact r.mono hle (by rw [hσ]) (by rw [hroom]) (by rw [hown]) (own_ _ _ ho)
  · intro l r hr
    have q := h.loop l r hr
    obtain ⟨tmps, defers, q1, q2, q3, q4⟩ := q.rep
    refine ⟨by rw [hlo, hown]; exact q.own, ⟨tmps, defers, by rw [hlo, own_ _ _ q.own]; exact q1, ?_, by unfold K.tm; rw [hlp]; exact q3, q4⟩, q.pend⟩
    intro hb
    have hfid : k'.fid = k.fid := by funext l; unfold K.fid; rw [hlp]
    rw [hfid]
    exact (q2 hb).mono hle fun c t hc => ⟨by rw [hown], own_ _ _ hc⟩
  · intro c o ho
    rw [hown] at ho
    exact Nat.lt_of_lt_of_le (h.ownlt c o ho) hsz
  · intro g cs hg
    exact (h.glob g cs hg).mono hle
end Go.V

/- The ways in which a state and its world change together. -/
namespace Go.V

theorem BRep.own {k : K} {b : Nat} {blk : Block} (h : BRep k b blk) : k.own (k.σ b).1 = some (.h b) := by cases blk <;> exact h.1

/-- one block of the world has other contents -/
structure But (k k' : K) (c0 : Nat) : Prop where
  σ : k'.σ = k.σ
  lo : k'.lo = k.lo
  sh : k'.sh = k.sh
  own : k'.own = k.own
  lp : k'.lp = k.lp
  room : k'.room = k.room
  size : k'.w.heap.size = k.w.heap.size
  os : k'.w.os = k.w.os
  tape : k'.w.tape = k.w.tape
  output : k'.w.output = k.w.output
  heap : ∀ c, c ≠ c0 → k'.w.heap[c]? = k.w.heap[c]?

theorem But.fid {k k' : K} {c0 : Nat} (h : But k k' c0) : k'.fid = k.fid := by funext l; unfold K.fid; rw [h.lp]
theorem But.tm {k k' : K} {c0 : Nat} (h : But k k' c0) : k'.tm = k.tm := by funext l; unfold K.tm; rw [h.lp]

theorem But.le {k k' : K} {c0 : Nat} (h : But k k' c0) (ho : k.own c0 ≠ none) : k.Le k' where
  sh := fun b s hb => .inl ⟨by rw [h.sh]; exact hb, by rw [h.σ], by rw [h.room]⟩
  loop := fun l hl => ⟨by rw [h.lo], by rw [h.own]; exact hl, by rw [h.lp]⟩
  inl := fun c _ hn => ⟨by rw [h.own]; exact hn, h.heap c fun e => ho (e ▸ hn)⟩

theorem But.evo {k k' : K} {c0 : Nat} (h : But k k' c0) (ho : k.own c0 ≠ none) {T : Nat → Prop} (hT : T c0) : Evo k k' T where
  le := h.le ho
  os := h.os
  tape := h.tape
  output := h.output
  size := by rw [h.size]; exact Nat.le_refl _
  keep := fun c _ hn => ⟨by rw [h.own], h.heap c fun e => hn (e ▸ hT)⟩

/-- a block of the clean heap is written -/
theorem Sim.setBlock {E : Env} {k k' : K} {S : St} {b : Nat} {blk blk' : Block} (h : Sim E k S) (hb : S.H[b]? = some blk)
    (hbut : But k k' (k.σ b).1) (hs : blk'.shape = blk.shape) (hn : BRep k' b blk') : Sim E k' { S with H := S.H.set b blk' } := by
  have hown := (h.blk b blk hb).own
  have hle := hbut.le (by rw [hown]; simp)
  have hlt : b < S.H.length := (List.getElem?_eq_some_iff.1 hb).1
  refine ⟨?_, ?_, ?_, ?_, ?_, fun c l hc => h.dead c l (by rw [hbut.own] at hc; exact hc)⟩
  · intro x
    rw [hbut.sh, h.sh x]
    simp only [List.getElem?_set]
    by_cases e : b = x
    · subst e; rw [if_pos rfl, if_pos hlt, hb]; simp [hs]
    · simp [e]
  · intro x y hx
    simp only [List.getElem?_set] at hx
    by_cases e : b = x
    · subst e
      simp only [hlt, if_true, Option.some.injEq] at hx
      subst hx; exact hn
    · simp only [e, if_false] at hx
      have r := h.blk x y hx
      have ne : (k.σ x).1 ≠ (k.σ b).1 := by
        intro e1
        have := r.own
        rw [e1, hown] at this
        simp only [Option.some.injEq, Own.h.injEq] at this
        exact e this
      exact r.mono hle (by rw [hbut.σ]) (by rw [hbut.room]) (by rw [hbut.own]) (hbut.heap _ ne)
  · intro l r hr
    have q := h.loop l r hr
    obtain ⟨tmps, defers, q1, q2, q3, q4⟩ := q.rep
    have ne : k.lo l ≠ (k.σ b).1 := by intro e1; have := q.own; rw [e1, hown] at this; simp at this
    refine ⟨by rw [hbut.lo, hbut.own]; exact q.own, ⟨tmps, defers, by rw [hbut.lo, hbut.heap _ ne]; exact q1, ?_, by rw [hbut.tm]; exact q3, q4⟩, q.pend⟩
    intro hbz
    rw [hbut.fid]
    refine (q2 hbz).mono hle fun c t hc => ⟨by rw [hbut.own], hbut.heap c ?_⟩
    intro e1; rw [e1, hown] at hc; simp at hc
  · intro c o ho
    rw [hbut.own] at ho
    rw [hbut.size]
    exact h.ownlt c o ho
  · intro g cs hg
    exact (h.glob g cs hg).mono hle

/-- a local of frame f is written -/
theorem Sim.setLocal {E : Env} {k k' : K} {S : St} {f t c0 : Nat} (h : Sim E k S) (ho : k.own c0 = some (.lv f t))
    (hbusy : ∀ (l : Nat) (r : LoopRec), S.L[l]? = some r → k.fid l = f → r.busy = true)
    (hbut : But k k' c0) : Sim E k' S := by
  have hle := hbut.le (by rw [ho]; simp)
  refine ⟨?_, ?_, ?_, ?_, ?_, fun c l hc => h.dead c l (by rw [hbut.own] at hc; exact hc)⟩
  · intro x; rw [hbut.sh]; exact h.sh x
  · intro x y hx
    have r := h.blk x y hx
    have ne : (k.σ x).1 ≠ c0 := by intro e1; have := r.own; rw [e1, ho] at this; simp at this
    exact r.mono hle (by rw [hbut.σ]) (by rw [hbut.room]) (by rw [hbut.own]) (hbut.heap _ ne)
  · intro l r hr
    have q := h.loop l r hr
    obtain ⟨tmps, defers, q1, q2, q3, q4⟩ := q.rep
    have ne : k.lo l ≠ c0 := by intro e1; have := q.own; rw [e1, ho] at this; simp at this
    refine ⟨by rw [hbut.lo, hbut.own]; exact q.own, ⟨tmps, defers, by rw [hbut.lo, hbut.heap _ ne]; exact q1, ?_, by rw [hbut.tm]; exact q3, q4⟩, q.pend⟩
    intro hbz
    rw [hbut.fid]
    refine (q2 hbz).mono hle fun c t' hc => ⟨by rw [hbut.own], hbut.heap c ?_⟩
    intro e1
    rw [e1, ho] at hc
    simp only [Option.some.injEq, Own.lv.injEq] at hc
    have := hbusy l r hr hc.1.symm
    rw [hbz] at this; simp at this
  · intro c o ho'
    rw [hbut.own] at ho'
    rw [hbut.size]
    exact h.ownlt c o ho'
  · intro g cs hg
    exact (h.glob g cs hg).mono hle

/-- one new block of the world, and whose it is -/
structure New (k k' : K) (o : Option Own) : Prop where
  lo : k'.lo = k.lo
  own : k'.own = fun c => if c = k.w.heap.size then o else k.own c
  lp : k'.lp = k.lp
  size : k'.w.heap.size = k.w.heap.size + 1
  os : k'.w.os = k.w.os
  tape : k'.w.tape = k.w.tape
  output : k'.w.output = k.w.output
  heap : ∀ c, c < k.w.heap.size → k'.w.heap[c]? = k.w.heap[c]?

theorem New.fid {k k' : K} {o : Option Own} (h : New k k' o) : k'.fid = k.fid := by funext l; unfold K.fid; rw [h.lp]
theorem New.tm {k k' : K} {o : Option Own} (h : New k k' o) : k'.tm = k.tm := by funext l; unfold K.tm; rw [h.lp]

theorem New.own_old {k k' : K} {o : Option Own} (h : New k k' o) {c : Nat} (hc : c < k.w.heap.size) : k'.own c = k.own c := by
  rw [h.own]; simp [Nat.ne_of_lt hc]

theorem New.le {E : Env} {S : St} {k k' : K} {o : Option Own} (hS : Sim E k S) (h : New k k' o)
    (hs : ∀ b s, k.sh b = some s → k'.sh b = some s ∧ k'.σ b = k.σ b ∧ k'.room b = k.room b) : k.Le k' where
  sh := fun b s hb => .inl (hs b s hb)
  loop := fun l hl => ⟨by rw [h.lo], by rw [h.own_old (hS.ownlt _ _ hl)]; exact hl, by rw [h.lp]⟩
  inl := fun c hc hn => ⟨by rw [h.own_old hc]; exact hn, h.heap c hc⟩

theorem New.evo {E : Env} {S : St} {k k' : K} {o : Option Own} (hS : Sim E k S) (h : New k k' o)
    (hs : ∀ b s, k.sh b = some s → k'.sh b = some s ∧ k'.σ b = k.σ b ∧ k'.room b = k.room b) (T : Nat → Prop) : Evo k k' T where
  le := h.le hS hs
  os := h.os
  tape := h.tape
  output := h.output
  size := by rw [h.size]; omega
  keep := fun c hc _ => ⟨h.own_old hc, h.heap c hc⟩

theorem New.dead {E : Env} {S : St} {k k' : K} {o : Option Own} (hS : Sim E k S) (h : New k k' o) (hno : ∀ l, o ≠ some (.loop l)) :
    ∀ (c l : Nat), k'.own c = some (.loop l) → l < S.L.length := by
  intro c l hc
  rw [h.own] at hc
  by_cases e : c = k.w.heap.size
  · simp only [e, if_true] at hc; exact absurd hc (hno l)
  · simp only [e, if_false] at hc; exact hS.dead c l hc

/-- a new block that is no block of the clean heap -/
theorem Sim.new {E : Env} {k k' : K} {S : St} {o : Option Own} (hS : Sim E k S) (h : New k k' o) (hσ : k'.σ = k.σ) (hsh : k'.sh = k.sh) (hroom : k'.room = k.room) (hno : ∀ l, o ≠ some (.loop l) := by simp) : Sim E k' S := by
  have hle := h.le hS (fun b s hb => ⟨by rw [hsh]; exact hb, by rw [hσ], by rw [hroom]⟩)
  refine ⟨fun x => by rw [hsh]; exact hS.sh x, ?_, ?_, ?_, fun g cs hg => (hS.glob g cs hg).mono hle, h.dead hS hno⟩
  · intro x y hx
    have r := hS.blk x y hx
    have lt := hS.ownlt _ _ r.own
    exact r.mono hle (by rw [hσ]) (by rw [hroom]) (h.own_old lt) (h.heap _ lt)
  · intro l r hr
    have q := hS.loop l r hr
    obtain ⟨tmps, defers, q1, q2, q3, q4⟩ := q.rep
    have lt := hS.ownlt _ _ q.own
    refine ⟨by rw [h.lo, h.own_old lt]; exact q.own, ⟨tmps, defers, by rw [h.lo, h.heap _ lt]; exact q1, ?_, by rw [h.tm]; exact q3, q4⟩, q.pend⟩
    intro hbz
    rw [h.fid]
    exact (q2 hbz).mono hle fun c t' hc => ⟨h.own_old (hS.ownlt _ _ hc), h.heap c (hS.ownlt _ _ hc)⟩
  · intro c x hx
    rw [h.own] at hx
    rw [h.size]
    by_cases e : c = k.w.heap.size
    · omega
    · simp only [e, if_false] at hx; have := hS.ownlt c x hx; omega

/-- a new block of the clean heap -/
theorem Sim.push {E : Env} {k k' : K} {S : St} {blk : Block} (hS : Sim E k S) (h : New k k' (some (.h S.H.length)))
    (hσ : k'.σ = fun b => if b = S.H.length then (k.w.heap.size, 0) else k.σ b)
    (hsh : k'.sh = fun b => if b = S.H.length then some blk.shape else k.sh b) (hroom : ∀ b, b ≠ S.H.length → k'.room b = k.room b) (hn : BRep k' S.H.length blk) :
    k.Le k' ∧ Sim E k' (push S blk) := by
  have hsn : k.sh S.H.length = none := by rw [hS.sh]; simp
  have hold : ∀ b s, k.sh b = some s → k'.sh b = some s ∧ k'.σ b = k.σ b ∧ k'.room b = k.room b := by
    intro b s hb
    have ne : b ≠ S.H.length := by intro e; rw [e, hsn] at hb; simp at hb
    rw [hsh, hσ, hroom b ne]; simp [ne, hb]
  have hle := h.le hS hold
  refine ⟨hle, ⟨?_, ?_, ?_, ?_, fun g cs hg => (hS.glob g cs hg).mono hle, fun c l hc => h.dead (S := S) hS (by simp) c l hc⟩⟩
  · intro b
    rw [hsh]
    show _ = Option.map Block.shape (S.H ++ [blk])[b]?
    by_cases e : b = S.H.length
    · simp [e]
    · simp only [e, if_false]
      rw [hS.sh b]
      rcases Nat.lt_or_ge b S.H.length with lt | ge
      · rw [List.getElem?_append_left lt]
      · rw [List.getElem?_eq_none ge, List.getElem?_eq_none (by simp; omega)]
  · intro b y hb
    replace hb : (S.H ++ [blk])[b]? = some y := hb
    by_cases e : b = S.H.length
    · subst e
      simp at hb; subst hb; exact hn
    · have lt : b < S.H.length := by
        have := (List.getElem?_eq_some_iff.1 hb).1
        simp at this; omega
      rw [List.getElem?_append_left lt] at hb
      have r := hS.blk b y hb
      have lt' := hS.ownlt _ _ r.own
      exact r.mono hle (by rw [hσ]; simp [e]) (hroom b e) (h.own_old lt') (h.heap _ lt')
  · intro l r hr
    have q := hS.loop l r hr
    obtain ⟨tmps, defers, q1, q2, q3, q4⟩ := q.rep
    have lt := hS.ownlt _ _ q.own
    refine ⟨by rw [h.lo, h.own_old lt]; exact q.own, ⟨tmps, defers, by rw [h.lo, h.heap _ lt]; exact q1, ?_, by rw [h.tm]; exact q3, q4⟩, q.pend⟩
    intro hbz
    rw [h.fid]
    exact (q2 hbz).mono hle fun c t' hc => ⟨h.own_old (hS.ownlt _ _ hc), h.heap c (hS.ownlt _ _ hc)⟩
  · intro c x hx
    rw [h.own] at hx
    rw [h.size]
    by_cases e : c = k.w.heap.size
    · omega
    · simp only [e, if_false] at hx; have := hS.ownlt c x hx; omega

/-- a grown block lies elsewhere -/
theorem Sim.regrow {E : Env} {k k' : K} {S : St} {b : Nat} {cs cs' : List Val} (hS : Sim E k S) (hb : S.H[b]? = some (.cells cs true))
    (h : New k k' (some (.h b))) (hσ : k'.σ = fun x => if x = b then (k.w.heap.size, 0) else k.σ x)
    (hsh : k'.sh = fun x => if x = b then some (.cells true cs'.length) else k.sh x) (hroom : ∀ x, x ≠ b → k'.room x = k.room x) (hlen : cs.length < cs'.length)
    (hn : BRep k' b (.cells cs' true)) : k.Le k' ∧ Sim E k' { S with H := S.H.set b (.cells cs' true) } := by
  have hlt : b < S.H.length := (List.getElem?_eq_some_iff.1 hb).1
  have hle : k.Le k' := by
    refine ⟨?_, fun l hl => ⟨by rw [h.lo], by rw [h.own_old (hS.ownlt _ _ hl)]; exact hl, by rw [h.lp]⟩, fun c hc hn => ⟨by rw [h.own_old hc]; exact hn, h.heap c hc⟩⟩
    intro x s hx
    by_cases e : x = b
    · subst e
      rw [hS.sh, hb] at hx
      simp only [Option.map_some, Block.shape, Option.some.injEq] at hx
      exact .inr ⟨cs.length, cs'.length, hx.symm, by rw [hsh]; simp, hlen⟩
    · exact .inl ⟨by rw [hsh]; simp [e, hx], by rw [hσ]; simp [e], hroom x e⟩
  refine ⟨hle, ⟨?_, ?_, ?_, ?_, fun g cs hg => (hS.glob g cs hg).mono hle, fun c l hc => h.dead (S := S) hS (by simp) c l hc⟩⟩
  · intro x
    rw [hsh]
    simp only [List.getElem?_set]
    by_cases e : b = x
    · subst e; simp [hlt, Block.shape]
    · simp only [e, if_false, Ne.symm e]
      exact hS.sh x
  · intro x y hx
    simp only [List.getElem?_set] at hx
    by_cases e : b = x
    · subst e
      simp only [hlt, if_true, Option.some.injEq] at hx
      subst hx; exact hn
    · simp only [e, if_false] at hx
      have r := hS.blk x y hx
      have lt' := hS.ownlt _ _ r.own
      exact r.mono hle (by rw [hσ]; simp [Ne.symm e]) (hroom x (Ne.symm e)) (h.own_old lt') (h.heap _ lt')
  · intro l r hr
    have q := hS.loop l r hr
    obtain ⟨tmps, defers, q1, q2, q3, q4⟩ := q.rep
    have lt := hS.ownlt _ _ q.own
    refine ⟨by rw [h.lo, h.own_old lt]; exact q.own, ⟨tmps, defers, by rw [h.lo, h.heap _ lt]; exact q1, ?_, by rw [h.tm]; exact q3, q4⟩, q.pend⟩
    intro hbz
    rw [h.fid]
    exact (q2 hbz).mono hle fun c t' hc => ⟨h.own_old (hS.ownlt _ _ hc), h.heap c (hS.ownlt _ _ hc)⟩
  · intro c x hx
    rw [h.own] at hx
    rw [h.size]
    by_cases e : c = k.w.heap.size
    · omega
    · simp only [e, if_false] at hx; have := hS.ownlt c x hx; omega

/-- a grown block is longer by now, where it lies -/
theorem Sim.extend {E : Env} {k k' : K} {S : St} {b : Nat} {cs cs' : List Val} (hS : Sim E k S) (hb : S.H[b]? = some (.cells cs true))
    (h : But k { k' with sh := k.sh } (k.σ b).1) (hsh : k'.sh = fun x => if x = b then some (.cells true cs'.length) else k.sh x) (hlen : cs.length < cs'.length)
    (hn : BRep k' b (.cells cs' true)) : k.Le k' ∧ Sim E k' { S with H := S.H.set b (.cells cs' true) } := by
  have hlt : b < S.H.length := (List.getElem?_eq_some_iff.1 hb).1
  have hown := (hS.blk b _ hb).own
  have hσ : k'.σ = k.σ := h.σ
  have hlo : k'.lo = k.lo := h.lo
  have hw : k'.own = k.own := h.own
  have hfid : k'.fid = k.fid := h.fid
  have htm : k'.tm = k.tm := h.tm
  have hroom : k'.room = k.room := h.room
  have hheap : ∀ c, c ≠ (k.σ b).1 → k'.w.heap[c]? = k.w.heap[c]? := h.heap
  have hle : k.Le k' := by
    refine ⟨?_, fun l hl => ⟨by rw [hlo], by rw [hw]; exact hl, congrFun h.lp l⟩, fun c hc hn => ⟨by rw [hw]; exact hn, hheap c (by rintro rfl; rw [hown] at hn; simp at hn)⟩⟩
    intro x s hx
    by_cases e : x = b
    · subst e
      rw [hS.sh, hb] at hx
      simp only [Option.map_some, Block.shape, Option.some.injEq] at hx
      exact .inr ⟨cs.length, cs'.length, hx.symm, by rw [hsh]; simp, hlen⟩
    · exact .inl ⟨by rw [hsh]; simp [e, hx], by rw [hσ], by rw [hroom]⟩
  refine ⟨hle, ⟨?_, ?_, ?_, ?_, fun g cs hg => (hS.glob g cs hg).mono hle, fun c l hc => hS.dead c l (by rw [hw] at hc; exact hc)⟩⟩
  · intro x
    rw [hsh]
    simp only [List.getElem?_set]
    by_cases e : b = x
    · subst e; simp [hlt, Block.shape]
    · simp only [e, if_false, Ne.symm e]
      exact hS.sh x
  · intro x y hx
    simp only [List.getElem?_set] at hx
    by_cases e : b = x
    · subst e
      simp only [hlt, if_true, Option.some.injEq] at hx
      subst hx; exact hn
    · simp only [e, if_false] at hx
      have r := hS.blk x y hx
      have ne : (k.σ x).1 ≠ (k.σ b).1 := by
        intro e1
        have := r.own
        rw [e1, hown] at this
        simp only [Option.some.injEq, Own.h.injEq] at this
        exact e this
      exact r.mono hle (by rw [hσ]) (by rw [hroom]) (by rw [hw]) (hheap _ ne)
  · intro l r hr
    have q := hS.loop l r hr
    obtain ⟨tmps, defers, q1, q2, q3, q4⟩ := q.rep
    have ne : k.lo l ≠ (k.σ b).1 := by intro e1; have := q.own; rw [e1, hown] at this; simp at this
    refine ⟨by rw [hlo, hw]; exact q.own, ⟨tmps, defers, by rw [hlo, hheap _ ne]; exact q1, ?_, by rw [htm]; exact q3, q4⟩, q.pend⟩
    intro hbz
    rw [hfid]
    refine (q2 hbz).mono hle fun c t hc => ⟨by rw [hw], hheap c ?_⟩
    rintro rfl; rw [hown] at hc; simp at hc
  · intro c o ho
    rw [hw] at ho
    have : k'.w.heap.size = k.w.heap.size := h.size
    rw [this]
    exact hS.ownlt c o ho
end Go.V
