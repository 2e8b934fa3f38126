/-
  The abstract machine, its relation to the model, its steps.
-/
import Derived.Calls
import GoSem.ClaimData
import Derived.Orders
import Derived.Below
import Derived.Laws.Entries
import Derived.Laws.AppendOwn
import Derived.Tactics
namespace Go.AM

/-- Abstract values. -/
inductive AV where
  | un
  | v (x : Value)
  | bl (b : Bool)
  | agg (cs : List AV)
  | tup (vs : List AV)
  | sl (xs : List (List AV))
  | dp (cs : List AV)
  | nl
  | p (b off : Nat)
  | own (b n : Nat)
  | ep (b n i off : Nat)
  | os (b n lo : Nat)
  | fn (f : FuncId) (caps : List AV)

inductive Blk where
  | box (cs : List AV)
  | row (e : TypeId) (xs : List (List AV)) (sh : Bool)

abbrev Heap := List Blk
abbrev TS := List (Nat × AV)

inductive TK where
  | scalar
  | int (k : IntKind)
  | str
  | bool
  | struct (offs : List Nat)
  | array (n : Nat) (elem : TypeId)
  | slice (elem : TypeId)

structure TI where
  kind : TK
  size : Nat
  bytes : Nat
  zero : List AV

def TI.isAgg (t : TI) : Bool := match t.kind with
  | .struct _ | .array _ _ => true
  | _ => false

inductive Orc where
  | b (x : Bool)
  | i (n : Int)
  | el (cs : List AV)
  | call (lend : List Nat) (r : AV) (h' : Heap)
  | draw (l : List (Nat × List Orc))

def ofVal : Value → AV
  | .slice none 0 0 => .nl
  | .bool b => .bl b
  | .agg _ => .un
  | .tuple _ => .un
  | x => .v x

def look (ts : TS) (t : Nat) : AV := match ts with
  | [] => .un
  | (k, x) :: r => match Nat.beq k t with
    | true => x
    | false => look r t

def ev (G : Nat → Option (List AV)) (ts : TS) : Operand → AV
  | .tmp t => look ts t
  | .const x => ofVal x
  | .func f => .fn f []
  | .global g => match G g with
    | some cs => .dp cs
    | none => .un

def put (ts : TS) (d : Option Tmp) (x : AV) : TS := match d with
  | some d => (d, x) :: ts
  | none => ts

def oneOf (n : Nat) (x : AV) : Option (List AV) := match n with
  | 1 => some [x]
  | _ => none

/-- The cells of a value of n cells. -/
def cellsOf (n : Nat) : AV → Option (List AV)
  | .agg cs => match n with
    | 0 => none
    | n + 1 => match Nat.beq cs.length (n + 1) with
      | true => some cs
      | false => none
  | .tup _ => none
  | .un => none
  | x => oneOf n x

def mkv (t : TI) (cs : List AV) : Option AV :=
  match t.isAgg with
  | true => some (.agg cs)
  | false => cs.head?

mutual
/-- A value as data: a row becomes what it holds. -/
def frz (h : Heap) : AV → AV
  | .un => .un
  | .v x => .v x
  | .bl b => .v (.bool b)
  | .agg cs => .agg (frzL h cs)
  | .tup vs => .tup (frzL h vs)
  | .sl xs => .sl xs
  | .dp cs => .dp cs
  | .nl => .sl []
  | .own b _ => match h[b]? with
    | some (.row _ xs _) => .sl xs
    | _ => .un
  | .p _ _ => .un
  | .ep _ _ _ _ => .un
  | .os _ _ _ => .un
  | .fn _ _ => .un
def frzL (h : Heap) : List AV → List AV
  | [] => []
  | x :: r => frz h x :: frzL h r
end

mutual
/-- What is owed for that: the row is held by its newest slice. -/
def frzO (h : Heap) : AV → Prop
  | .agg cs => frzOL h cs
  | .tup vs => frzOL h vs
  | .own b n => match h[b]? with
    | some (.row _ xs _) => n = xs.length
    | _ => True
  | _ => True
def frzOL (h : Heap) : List AV → Prop
  | [] => True
  | x :: r => frzO h x ∧ frzOL h r
end

mutual
/-- The rows that it shares. -/
def frzM : AV → List Nat
  | .agg cs => frzML cs
  | .tup vs => frzML vs
  | .own b _ => [b]
  | _ => []
def frzML : List AV → List Nat
  | [] => []
  | x :: r => frzM x ++ frzML r
end

def share1 (h : Heap) (b : Nat) : Heap := match h[b]? with
  | some (.row e xs _) => h.set b (.row e xs true)
  | _ => h
def share (h : Heap) (l : List Nat) : Heap := l.foldl share1 h

mutual
/-- Blocks renamed; a block without a name is not known there. -/
def ren (σ : Nat → Option Nat) : AV → AV
  | .agg cs => .agg (renL σ cs)
  | .tup vs => .tup (renL σ vs)
  | .p b off => match σ b with
    | some i => .p i off
    | none => .un
  | .own b n => match σ b with
    | some i => .own i n
    | none => .un
  | .ep b n k off => match σ b with
    | some i => .ep i n k off
    | none => .un
  | .os b n lo => match σ b with
    | some i => .os i n lo
    | none => .un
  | .fn f caps => .fn f (renL σ caps)
  | x => x
def renL (σ : Nat → Option Nat) : List AV → List AV
  | [] => []
  | x :: r => ren σ x :: renL σ r
end

def renBlk (σ : Nat → Option Nat) : Blk → Blk
  | .box cs => .box (renL σ cs)
  | .row e xs sh => .row e xs sh

/-- An argument: what is not lent goes as data. -/
def argV (σ : Nat → Option Nat) (h : Heap) : AV → AV
  | .p b off => ren σ (.p b off)
  | .fn f caps => ren σ (.fn f caps)
  | x => frz h x

def idx (l : List Nat) (b : Nat) : Option Nat := match l with
  | [] => none
  | x :: r => match Nat.beq x b with
    | true => some 0
    | false => (idx r b).map (· + 1)

def lendH (lend : List Nat) (h : Heap) : List Nat → Option Heap
  | [] => some []
  | b :: r => match h[b]?, lendH lend h r with
    | some x, some y => some (renBlk (idx lend) x :: y)
    | _, _ => none

/-- The callee's names, taken back. -/
def back (lend : List Nat) (n : Nat) (i : Nat) : Option Nat := match lend[i]? with
  | some b => some b
  | none => some (n + (i - lend.length))

def setAll {α : Type} (h : List α) : List Nat → List α → List α
  | b :: r, x :: y => setAll (h.set b x) r y
  | _, _ => h

def distinct : List Nat → Bool
  | [] => true
  | b :: r => (match idx r b with | none => true | some _ => false) && distinct r

def frzQ (m : List Nat) (p q : Prop) : Prop := match m with
  | [] => q
  | _ :: _ => p ∧ q

def frzB (h : Heap) (cs : List AV) : Option Prop := match frzML cs with
  | [] => none
  | _ :: _ => some (frzOL h cs)

/-- What is owed holds. -/
def holds : Option Prop → Prop
  | none => True
  | some q => q

def allP : List Prop → Prop
  | [] => True
  | [q] => q
  | q :: r => q ∧ allP r

structure OutG (α : Type) where
  o : Option Prop
  ts : α
  h : Heap
  os : List Orc

abbrev Out := OutG TS

structure Env0 where
  P : Program
  T : TypeId → TI
  G : Nat → Option (List AV)

structure Env extends Env0 where
  /-- 'f called with these, in that heap, hands back just this, in that heap' -/
  C : FuncId → List AV → Heap → AV → Heap → Prop

def cmpInt (op : BinOp) (a b : Int) : Option Bool := match op with
  | .eql => some (a == b)
  | .neq => some (a != b)
  | .lss => some (decide (a < b))
  | .leq => some (decide (a ≤ b))
  | .gtr => some (decide (b < a))
  | .geq => some (decide (b ≤ a))
  | _ => none

def arith (op : BinOp) (a b : Int) : Option Int := match op with
  | .add => some (a + b)
  | .sub => some (a - b)
  | .mul => some (a * b)
  | _ => none

def bitop (op : BinOp) (k : IntKind) (a b : Int) : Option Int := match op with
  | .and => some (k.wrap (BitVec.ofInt k.bits a &&& BitVec.ofInt k.bits b).toNat)
  | .or => some (k.wrap (BitVec.ofInt k.bits a ||| BitVec.ofInt k.bits b).toNat)
  | .xor => some (k.wrap (BitVec.ofInt k.bits a ^^^ BitVec.ofInt k.bits b).toNat)
  | .andNot => some (k.wrap (BitVec.ofInt k.bits a &&& ~~~(BitVec.ofInt k.bits b)).toNat)
  | _ => none

def shiftop (op : BinOp) (k : IntKind) (a b : Int) : Option Int := match op with
  | .shl => some (k.wrap (a * 2 ^ (min b.toNat k.bits)))
  | .shr => some (a.fdiv (2 ^ (min b.toNat k.bits)))
  | _ => none

/-- Values of one cell that are compared at once. -/
def eqVal : Value → Value → Option Bool
  | .int k a, .int k' b => if k = k' then some (a == b) else none
  | .string a, .string b => some (a == b)
  | .bool a, .bool b => some (a == b)
  | _, _ => none

def eqVals : List Value → List Value → Option Bool
  | [], [] => some true
  | x :: r, y :: s => match eqVal x y, eqVals r s with
    | some a, some b => some (a && b)
    | _, _ => none
  | _, _ => none

def scal : AV → Option Value
  | .v x => some x
  | .bl b => some (.bool b)
  | _ => none

def scals : List AV → Option (List Value)
  | [] => some []
  | x :: r => match scal x, scals r with
    | some a, some b => some (a :: b)
    | _, _ => none

inductive Shp where
  | int (k : IntKind)
  | str
  | bool
  | other
def shp : Value → Shp
  | .int k _ => .int k
  | .string _ => .str
  | .bool _ => .bool
  | _ => .other

/-- '==' at this struct type, for cells of these shapes, is that of its cells. -/
structure StructEq (P : Program) (t : TypeId) (n : List Shp) : Prop where
  guard : P.eqGuardType P.depth t = false
  eq : ∀ (w : World) (xs ys : List Value) (r : Bool), xs.map shp = n → eqVals xs ys = some r → (Op.equal t (.agg xs.toArray) (.agg ys.toArray)).run P w = .ok r w

def bool? : AV → Option Bool
  | .bl b => some b
  | .v (.bool b) => some b
  | _ => none

/-- Parts laid into cells. -/
def fill (place : Nat → Option (Nat × Nat)) (cells : List AV) : List (Nat × AV) → Option (List AV)
  | [] => some cells
  | (i, x) :: rest => match place i with
    | none => none
    | some (off, size) => match cellsOf size x with
      | none => none
      | some cs => if off + size ≤ cells.length then fill place (cells.take off ++ cs ++ cells.drop (off + size)) rest else none

def placeOf (offs : List Nat) (size i : Nat) : Option (Nat × Nat) := match offs[i]? with
  | some off => some (off, ((offs.drop (i + 1)).headD size) - off)
  | none => none

def chunks (size : Nat) : Nat → List AV → List (List AV)
  | 0, _ => []
  | n + 1, cs => cs.take size :: chunks size n (cs.drop size)

/-- A slice of a literal: of length 0 it has no room. -/
def slOf (n : Nat) (xs : List (List AV)) : AV := match n with
  | 0 => .nl
  | _ + 1 => .sl xs

def repl (zero : List AV) : Nat → List AV
  | 0 => []
  | n + 1 => zero ++ repl zero n


def strCmp (op : BinOp) (a b : ByteArray) : Option Bool := match op with
  | .eql => some (a.toList == b.toList)
  | .neq => some (!(a.toList == b.toList))
  | .lss => some (Op.bytesLess a.toList b.toList)
  | .leq => some (Op.bytesLess a.toList b.toList || a.toList == b.toList)
  | .gtr => some (!(Op.bytesLess a.toList b.toList || a.toList == b.toList))
  | .geq => some (!(Op.bytesLess a.toList b.toList))
  | _ => none

/-- A comparison or a sum. -/
def binop (E : Env) (op : BinOp) (t : TypeId) (x y : AV) (os : List Orc) : Option (Option Prop × AV × List Orc) :=
  match x, y with
  | .v (.int k a), .v (.int k' b) => match shiftop op k a b with
    | some c => match os with
      | .i n :: os => some (some (0 ≤ b ∧ c = n), .v (.int k n), os)
      | _ => none
    | none => if k = k' then match cmpInt op a b with
      | some r => some (none, .v (.bool r), os)
      | none => match op, os with
        | .quo, .i n :: os => some (some (b ≠ 0 ∧ k.wrap (a.tdiv b) = n), .v (.int k n), os)
        | .rem, .i n :: os => some (some (b ≠ 0 ∧ a.tmod b = n), .v (.int k n), os)
        | op, .i n :: os => match arith op a b with
          | some c => some (some (k.wrap c = n), .v (.int k n), os)
          | none => match bitop op k a b with
            | some c => some (some (c = n), .v (.int k n), os)
            | none => none
        | _, _ => none
      else none
  | .v (.string a), .v (.string b) => match strCmp op a b with
    | some r => some (none, .v (.bool r), os)
    | none => none
  | .agg cs, .agg ds => match scals cs, scals ds with
    | some xs, some ys => match eqVals xs ys, op with
      | some r, .eql => some (some (StructEq E.P t (xs.map shp)), .v (.bool r), os)
      | some r, .neq => some (some (StructEq E.P t (xs.map shp)), .v (.bool (!r)), os)
      | _, _ => none
    | _, _ => none
  | x, y => match bool? x, bool? y with
    | some a, some b => match (E.T t).kind, op with
      | .bool, .eql => some (none, .v (.bool (a == b)), os)
      | .bool, .neq => some (none, .v (.bool (!(a == b))), os)
      | _, _ => none
    | _, _ => none

def fieldTy (P : Program) (t : TypeId) (f : Nat) : Option TypeId := match P.underlying t with
  | some (.struct fs) => (fs[f]?).map (·.type)
  | _ => none

def sliceLike : AV → Bool
  | .sl _ | .nl => true
  | _ => false

def listOf (h : Heap) : AV → Option (List (List AV))
  | .sl xs => some xs
  | .nl => some []
  | .own b _ => match h[b]? with
    | some (.row _ xs _) => some xs
    | _ => none
  | _ => none

/-- A call of a Go function. -/
def acall {α : Type} (E : Env) (f : FuncId) (args : List AV) (pt : AV → α) (h : Heap) (os : List Orc) : Option (OutG α) :=
  match os with
  | .call lend r h' :: os => match lendH lend (share h (frzML args)) lend, Nat.ble lend.length h'.length && distinct lend with
    | some hl, true =>
      some ⟨some (frzQ (frzML args) (frzOL h args) (E.C f (args.map (argV (idx lend) h)) hl r h')), pt (ren (back lend h.length) r),
        setAll (share h (frzML args)) lend ((h'.take lend.length).map (renBlk (back lend h.length))) ++ (h'.drop lend.length).map (renBlk (back lend h.length)), os⟩
    | _, _ => none
  | _ => none

/-- Elements of that many cells. -/
structure AllLen (ys : List (List AV)) (n : Nat) : Prop where
  all : ∀ c ∈ ys, c.length = n

def append {α : Type} (E : Env) (t : TypeId) (x y : AV) (pt : AV → α) (h : Heap) (os : List Orc) : Option (OutG α) :=
  match (E.T t).kind, listOf h y with
  | .slice e, some ys => match Nat.ble 1 (E.T e).bytes with
   | false => none
   | true => match x with
    | .nl => some ⟨some (frzQ (frzM y) (frzO h y) (AllLen ys (E.T e).size ∧ ys.length * (E.T e).bytes ≤ 140737488355328)), pt (.own h.length ys.length), h ++ [.row e ys false], os⟩
    | .own b n => match h[b]? with
      | some (.row e' xs sh) => if e = e' then
          some ⟨some (frzQ (frzM y) (frzO h y) (AllLen ys (E.T e).size ∧ n = xs.length ∧ (xs.length + ys.length) * (E.T e).bytes ≤ 140737488355328)), pt (.own b (xs ++ ys).length), h.set b (.row e (xs ++ ys) sh), os⟩
        else none
      | _ => none
    | _ => none
  | _, _ => none

/-- The i-th element of a slice: these cells. -/
structure ElAt (xs : List (List AV)) (i : Int) (c : List AV) (n : Nat) : Prop where
  pos : 0 ≤ i
  at_ : xs[i.toNat]? = some c
  len : c.length = n
/-- The i-th element of an array of n. -/
structure ArrAt (cs : List AV) (i : Int) (n : Nat) (c : List AV) (k : Nat) : Prop where
  pos : 0 ≤ i
  lt : i.toNat < n
  at_ : (cs.drop (i.toNat * k)).take k = c
  len : c.length = k
/-- The i-th byte. -/
structure ByteAt (s : ByteArray) (i n : Int) : Prop where
  pos : 0 ≤ i
  at_ : (s[i.toNat]?).map (fun b => (b.toNat : Int)) = some n
/-- A part of a slice can be taken. -/
structure SubAt (xs : List (List AV)) (l u : Int) (k : Nat) : Prop where
  pos : 0 ≤ l
  le : l ≤ u
  hi : u ≤ xs.length
  len : ∀ c ∈ xs, c.length = k
/-- The i-th element of an owned row, held by its newest slice. -/
structure OwnEl (xs : List (List AV)) (n i : Nat) (c : List AV) : Prop where
  eq : n = xs.length
  at_ : xs[i]? = some c
/-- An owned row has an i-th element. -/
structure OwnAt (xs : List (List AV)) (n : Nat) (i : Int) : Prop where
  eq : n = xs.length
  pos : 0 ≤ i
  lt : i.toNat < n

/-- An owned row can be cut from there on. -/
structure OwnCut (xs : List (List AV)) (n : Nat) (i : Int) : Prop where
  eq : n = xs.length
  pos : 0 ≤ i
  le : i.toNat ≤ n
/-- A part of a row, laid over another. -/
def copyXs (xs : List (List AV)) (d s : Nat) : List (List AV) := xs.take d ++ ((xs.drop s).take (xs.length - d) ++ xs.drop (d + ((xs.drop s).take (xs.length - d)).length))

def stepOpG {α : Type} (E : Env) (o : Oper) (e : Operand → AV) (pt : AV → α) (h : Heap) (os : List Orc) : Option (OutG α) :=
  match o.op with
  | .move x | .assign x => some ⟨none, pt (e x), h, os⟩
  | .pick c a b => match e c with
    | .bl t => some ⟨none, pt (match t with | true => e a | false => e b), h, os⟩
    | .v (.bool t) => match bool? (e a), bool? (e b) with
      | some x, some y => some ⟨none, pt (.v (.bool (cond t x y))), h, os⟩
      | _, _ => match os with
        | .b d :: os => some ⟨some (t = d), pt (match d with | true => e a | false => e b), h, os⟩
        | _ => none
    | _ => none
  | .alloc t => match (E.T t).zero with
    | [] => none
    | z => some ⟨none, pt (.p h.length 0), h ++ [.box z], os⟩
  | .box t x => match cellsOf (E.T t).size (e x) with
    | some cs => some ⟨none, pt (.p h.length 0), h ++ [.box cs], os⟩
    | none => none
  | .build t parts => match (E.T t).kind with
    | .struct offs => match fill (placeOf offs (E.T t).size) (E.T t).zero (parts.toList.map fun (i, x) => (i, e x)) with
      | some cs => some ⟨none, pt (.agg cs), h, os⟩
      | none => none
    | .array _ el => match fill (fun i => some (i * (E.T el).size, (E.T el).size)) (E.T t).zero (parts.toList.map fun (i, x) => (i, e x)) with
      | some cs => some ⟨none, pt (.agg cs), h, os⟩
      | none => none
    | _ => none
  | .buildSlice t len parts => match (E.T t).kind with
    | .slice el => match fill (fun i => some (i * (E.T el).size, (E.T el).size)) (repl (E.T el).zero len) (parts.toList.map fun (i, x) => (i, e x)), Nat.ble (len * (E.T el).size) 16777216 with
      | some cs, true => some ⟨frzB h cs, pt (slOf len (chunks (E.T el).size len (frzL h cs))), share h (frzML cs), os⟩
      | _, _ => none
    | _ => none
  | .load t x => match e x with
    | .p b off => match h[b]? with
      | some (.box cs) => match mkv (E.T t) ((cs.drop off).take (E.T t).size), Nat.ble (off + (E.T t).size) cs.length with
        | some r, true => some ⟨none, pt r, h, os⟩
        | _, _ => none
      | _ => none
    | .dp cs => match mkv (E.T t) (cs.take (E.T t).size), Nat.ble (E.T t).size cs.length with
      | some r, true => some ⟨none, pt r, h, os⟩
      | _, _ => none
    | .ep b n i off => match h[b]?, os with
      | some (.row _ xs _), .el c :: os => match mkv (E.T t) ((c.drop off).take (E.T t).size), Nat.ble (off + (E.T t).size) c.length with
        | some r, true => some ⟨some (OwnEl xs n i c), pt r, h, os⟩
        | _, _ => none
      | _, _ => none
    | _ => none
  | .store t x y => match cellsOf (E.T t).size (e y) with
    | none => none
    | some ys => match e x with
      | .p b off => match h[b]? with
        | some (.box cs) => match Nat.ble (off + (E.T t).size) cs.length with
          | true => some ⟨none, pt .un, h.set b (.box (cs.take off ++ ys ++ cs.drop (off + (E.T t).size))), os⟩
          | false => none
        | _ => none
      | .ep b n i off => match (share h (frzML ys))[b]?, os with
        | some (.row el xs false), .el c :: os => match Nat.ble (off + (E.T t).size) c.length with
          | true => some ⟨some (frzOL h ys ∧ OwnEl xs n i c), pt .un, (share h (frzML ys)).set b (.row el (xs.set i (c.take off ++ frzL h ys ++ c.drop (off + (E.T t).size))) false), os⟩
          | false => none
        | _, _ => none
      | _ => none
  | .nilCheck x => match e x with
    | .p b off => some ⟨none, pt (.p b off), h, os⟩
    | .dp cs => some ⟨none, pt (.dp cs), h, os⟩
    | .ep b n i off => some ⟨none, pt (.ep b n i off), h, os⟩
    | .fn f caps => some ⟨none, pt (.fn f caps), h, os⟩
    | _ => none
  | .binOp op t x y _ => match binop E op t (e x) (e y) os with
    | some (q, r, os) => some ⟨q, pt r, h, os⟩
    | none => none
  | .unOp .not _ x => match e x with
    | .bl b => some ⟨none, pt (.bl (!b)), h, os⟩
    | .v (.bool b) => some ⟨none, pt (.v (.bool (!b))), h, os⟩
    | _ => none
  | .unOp .neg _ x => match e x, os with
    | .v (.int k a), .i n :: os => some ⟨some (k.wrap (-a) = n), pt (.v (.int k n)), h, os⟩
    | _, _ => none
  | .fieldAddr t x f => match (E.T t).kind with
    | .struct offs => match offs[f]?, e x with
      | some d, .p b off => some ⟨none, pt (.p b (off + d)), h, os⟩
      | some d, .dp cs => some ⟨none, pt (.dp (cs.drop d)), h, os⟩
      | some d, .ep b n i off => some ⟨none, pt (.ep b n i (off + d)), h, os⟩
      | _, _ => none
    | _ => none
  | .field t x f => match (E.T t).kind, e x with
    | .struct offs, .agg cs => match offs[f]? with
      | some d => match mkv (E.T o.type) ((cs.drop d).take (E.T o.type).size), Nat.ble (d + (E.T o.type).size) cs.length with
        | some r, true => some ⟨some (fieldTy E.P t f = some o.type), pt r, h, os⟩
        | _, _ => none
      | none => none
    | _, _ => none
  | .indexAddr t x ix => match (E.T t).kind, e x, e ix with
    | .slice el, .sl xs, .v (.int _ i) => match os with
      | .el c :: os => some ⟨some (ElAt xs i c (E.T el).size), pt (.dp c), h, os⟩
      | _ => none
    | .slice el, .own b n, .v (.int _ i) => match h[b]? with
      | some (.row e xs _) => if el = e then some ⟨some (OwnAt xs n i), pt (.ep b n i.toNat 0), h, os⟩ else none
      | _ => none
    | .array n el, .dp cs, .v (.int _ i) => match os with
      | .el c :: os => some ⟨some (ArrAt cs i n c (E.T el).size), pt (.dp c), h, os⟩
      | _ => none
    | _, _, _ => none
  | .index t x ix => match (E.T t).kind, e x, e ix with
    | .array n el, .agg cs, .v (.int _ i) => match os with
      | .el c :: os => match mkv (E.T el) c with
        | some r => some ⟨some (ArrAt cs i n c (E.T el).size), pt r, h, os⟩
        | none => none
      | _ => none
    | .str, .v (.string s), .v (.int _ i) => match os with
      | .i n :: os => some ⟨some (ByteAt s i n), pt (.v (.int .u8 n)), h, os⟩
      | _ => none
    | _, _, _ => none
  | .slice t x lo hi mx => match (E.T t).kind, e x, mx with
    | .slice el, .sl xs, none =>
      match (match lo with | none => some 0 | some a => match e a with | .v (.int _ i) => some i | _ => none),
            (match hi with | none => some (xs.length : Int) | some a => match e a with | .v (.int _ i) => some i | _ => none) with
      | some l, some u => some ⟨some (SubAt xs l u (E.T el).size), pt (.sl ((xs.take u.toNat).drop l.toNat)), h, os⟩
      | _, _ => none
    | .slice el, .own b n, none => match h[b]?, lo.map e, hi with
      | some (.row e' xs _), some (.v (.int _ i)), none => if el = e' then some ⟨some (OwnCut xs n i), pt (.os b n i.toNat), h, os⟩ else none
      | _, _, _ => none
    | .slice _, x, some m => match lo, hi.map e, e m, sliceLike x with
      | none, some (.v (.int _ 0)), .v (.int _ 0), true => some ⟨none, pt .nl, h, os⟩
      | _, _, _, _ => none
    | _, _, _ => none
  | .extract x i => match e x with
    | .tup vs => match vs[i]? with
      | some r => some ⟨none, pt r, h, os⟩
      | none => none
    | _ => none
  | .makeFunc (.func f) first caps => match first.toList with
    | [] => some ⟨none, pt (.fn f (caps.toList.map e)), h, os⟩
    | _ => none
  | .convert src t x => match (E.T t).kind, e x, Nat.ble 1 (E.T src).size with
    | .int k, .v (.int _ a), true => match os with
      | .i n :: os => some ⟨some (k.wrap a = n), pt (.v (.int k n)), h, os⟩
      | _ => none
    | _, _, _ => none
  | .call { callee := .builtin .len, args, argTypes } => match args.toList, argTypes.toList with
    | [x], [t] => match (E.T t).kind, e x with
      | .slice _, .sl xs => some ⟨none, pt (.v (.int .i64 xs.length)), h, os⟩
      | .slice _, .nl => some ⟨none, pt (.v (.int .i64 0)), h, os⟩
      | .slice _, .own b n => match h[b]? with
        | some (.row _ xs _) => some ⟨some (n = xs.length), pt (.v (.int .i64 n)), h, os⟩
        | _ => none
      | .str, .v (.string s) => some ⟨none, pt (.v (.int .i64 s.size)), h, os⟩
      | _, _ => none
    | _, _ => none
  | .call { callee := .builtin .copy, args, argTypes } => match args.toList, argTypes.toList with
    | [x, y], [t, _] => match (E.T t).kind, e x, e y with
      | .slice el, .os b n d, .os b' n' s => match Nat.beq b b', h[b]? with
        | true, some (.row e' xs false) => if el = e' then some ⟨some (n = xs.length ∧ n' = xs.length), pt .un, h.set b (.row el (copyXs xs d s) false), os⟩ else none
        | _, _ => none
      | _, _, _ => none
    | _, _ => none
  | .call { callee := .builtin .append, args, argTypes } => match args.toList, argTypes.toList with
    | [x, y], [t, t'] => match Nat.beq t t' with
      | true => append E t (e x) (e y) pt h os
      | false => none
    | _, _ => none
  | .call { callee := .value f, args, .. } => match e f with
    | .fn f caps => acall E f (args.toList.map e ++ caps) pt h os
    | _ => none
  | _ => none

def stepOp (E : Env) (o : Oper) (ts : TS) (h : Heap) (os : List Orc) : Option Out := stepOpG E o (ev E.G ts) (put ts o.dst) h os

inductive It where
  | code (c : Code)
  | ops (all : List Oper) (rest : List Oper)
  | blk (id : Nat)
  | lp (c : Code)

structure Cfg where
  n : Nat
  todo : List It
  ts : TS
  h : Heap

def dstOk (n : Nat) (d : Option Tmp) : Bool := match d with
  | some d => Nat.blt d n
  | none => true

def exitTo (id : Nat) : List It → Option (List It)
  | [] => none
  | .blk i :: k => match Nat.beq i id with
    | true => some k
    | false => exitTo id k
  | _ :: k => exitTo id k

/-- The slot of an operation's guard. -/
def guardTmp (all : List Oper) (j : Nat) : Option Tmp := (all[j]?).bind (·.dst)

/-- What an operation leaves that is not carried out. -/
def skipped : AV := .tup []

/-- An operation of a region, its guard looked at. -/
def stepG (E : Env) (all : List Oper) (o : Oper) (ts : TS) (h : Heap) (os : List Orc) : Option Out :=
  match o.guard with
  | none => stepOp E o ts h os
  | some (j, want) => match guardTmp all j with
    | none => none
    | some d => match look ts d with
      | .bl b => match b == want with
        | true => stepOp E o ts h os
        | false => some ⟨none, put ts o.dst skipped, h, os⟩
      | .tup [] => some ⟨none, put ts o.dst skipped, h, os⟩
      | .v (.bool t) => match os with
        | .b b :: os => match b == want with
          | true => (stepOp E o ((d, .bl b) :: ts) h os).map fun r => { r with o := some (t = b ∧ holds r.o) }
          | false => some ⟨some (t = b), put ((d, .bl b) :: ts) o.dst skipped, h, os⟩
        | _ => none
      | _ => none

/-- A test's outcome, from now on known. -/
def litAt (ts : TS) (b : Bool) : Operand → TS
  | .tmp d => (d, .bl b) :: ts
  | _ => ts

def evF (G : Nat → Option (List AV)) (L : Nat → AV) : Operand → AV
  | .tmp t => L t
  | .const x => ofVal x
  | .func f => .fn f []
  | .global g => match G g with
    | some cs => .dp cs
    | none => .un

def boxOf (h : Heap) (b : Nat) : Option (List AV) := match h[b]? with
  | some (.box cs) => some cs
  | _ => none

/-- May it be carried out ahead of what is not ordered against it? The boxes that it reads. -/
def earlyB (E : Env) (o : Oper) (e : Operand → AV) : Option (List Nat) := match o.op with
  | .move _ | .assign _ | .pick .. | .build .. | .binOp .. | .unOp .. | .fieldAddr .. | .field .. | .index .. | .extract .. | .makeFunc .. | .convert .. | .nilCheck _ => some []
  | .load _ x => match e x with
    | .p b _ => some [b]
    | .dp _ => some []
    | _ => none
  | .indexAddr _ x _ => match e x with
    | .own _ _ => none
    | _ => some []
  | .slice _ x _ _ _ => match e x with
    | .own _ _ => none
    | _ => some []
  | .call { callee := .builtin .len, args, .. } => match args.toList with
    | [x] => match e x with
      | .own _ _ => none
      | _ => some []
    | _ => none
  | .buildSlice t n parts => match (E.T t).kind with
    | .slice el => match fill (fun i => some (i * (E.T el).size, (E.T el).size)) (repl (E.T el).zero n) (parts.toList.map fun (i, x) => (i, e x)) with
      | some cs => match frzML cs with
        | [] => some []
        | _ => none
      | none => none
    | _ => none
  | _ => none

def lendOf : List Orc → List Nat
  | [] => []
  | .call l _ _ :: _ => l
  | _ :: r => lendOf r

/-- Does it leave these boxes alone? -/
def keepsB (o : Oper) (os : List Orc) (B : List Nat) : Bool := match B with
  | [] => true
  | _ :: _ => match o.op with
    | .store .. => false
    | .call _ => B.all fun b => !(lendOf os).contains b
    | _ => true

def andO : Option Prop → Option Prop → Option Prop
  | none, x => x
  | some p, x => some (p ∧ holds x)

/-- Is it carried out? -/
def gst (all : List Oper) (o : Oper) (L : Nat → AV) (os : List Orc) : Option (Bool × Option Prop × List Orc) :=
  match o.guard with
  | none => some (true, none, os)
  | some (j, want) => match guardTmp all j with
    | none => none
    | some d => match L d with
      | .bl b => some (b == want, none, os)
      | .tup [] => some (false, none, os)
      | .v (.bool t) => match os with
        | .b b :: os => some (b == want, some (t = b), os)
        | _ => none
      | _ => none

def stepD (E : Env) (all : List Oper) (o : Oper) (L : Nat → AV) (h : Heap) (os : List Orc) : Option (OutG AV) :=
  match gst all o L os with
  | some (true, q, os') => (stepOpG E o (evF E.G L) id h os').map fun r => ⟨andO q r.o, r.ts, r.h, r.os⟩
  | some (false, q, os') => some ⟨q, skipped, h, os'⟩
  | none => none

def earlyD (E : Env) (all : List Oper) (o : Oper) (L : Nat → AV) (os : List Orc) : Option (List Nat) :=
  match gst all o L os with
  | some (true, _, _) => earlyB E o (evF E.G L)
  | some (false, _, _) => some []
  | none => none

def dep (ops : Array Oper) (i : Nat) : Nat → Nat → Bool
  | 0, _ => false
  | f + 1, j => match ops[j]? with
    | some o => o.after.toList.any fun e => Region.binds .any e && (Nat.beq e.on i || dep ops i f e.on)
    | none => false


def memN (b : Nat) : List Nat → Bool
  | [] => false
  | x :: r => match Nat.beq x b with
    | true => true
    | false => memN b r

def osAt (l : List (Nat × List Orc)) (i : Nat) : List Orc := match l with
  | [] => []
  | (k, x) :: r => match Nat.beq k i with
    | true => x
    | false => osAt r i

def readyL (all : List Oper) (done : List Nat) : List Nat := (List.range all.length).filter fun i => !memN i done && match all[i]? with
  | some o => o.after.toList.all fun e => !Region.binds .any e || memN e.on done
  | none => false

/-- May this one go first? -/
def first (E : Env) (all : List Oper) (osl : List (Nat × List Orc)) (done : List Nat) (ts : TS) (h : Heap) (i : Nat) : Bool :=
  match all[i]? with
  | none => false
  | some o => match earlyD E all o (look ts) (osAt osl i) with
    | none => false
    | some B => B.all (fun b => (boxOf h b).isSome) && (List.range all.length).all fun j => Nat.beq j i || memN j done || dep all.toArray i all.length j || match all[j]? with
      | some oj => o.apart all.toArray oj && keepsB oj (osAt osl j) B
      | none => true

def consO (q : Option Prop) (l : List Prop × TS × Heap) : List Prop × TS × Heap := match q with
  | none => l
  | some p => (p :: l.1, l.2)

/-- One operation, then the rest. -/
def goD (E : Env) (all : List Oper) (osl : List (Nat × List Orc)) (n : Nat) (lv : List Nat → TS → Heap → Option (List (List Prop × TS × Heap))) (done : List Nat) (ts : TS) (h : Heap) (i : Nat) : Option (List (List Prop × TS × Heap)) :=
  match all[i]? with
  | none => none
  | some o => match dstOk n o.dst, stepD E all o (look ts) h (osAt osl i) with
    | true, some out => (lv (i :: done) (put ts o.dst out.ts) out.h).map fun l => l.map (consO out.o)
    | _, _ => none

def allD (go : Nat → Option (List (List Prop × TS × Heap))) : List Nat → Option (List (List Prop × TS × Heap))
  | [] => some []
  | i :: r => match go i, allD go r with
    | some a, some b => some (a ++ b)
    | _, _ => none

/-- What every order comes to. -/
def leaves (E : Env) (all : List Oper) (osl : List (Nat × List Orc)) (n : Nat) : Nat → List Nat → TS → Heap → Option (List (List Prop × TS × Heap))
  | 0, done, ts, h => match readyL all done with
    | [] => some [([], ts, h)]
    | _ => none
  | f + 1, done, ts, h => match readyL all done with
    | [] => some [([], ts, h)]
    | r :: rs => match (r :: rs).find? (first E all osl done ts h) with
      | some i => goD E all osl n (leaves E all osl n f) done ts h i
      | none => allD (goD E all osl n (leaves E all osl n f) done ts h) (r :: rs)

def insK (k : Nat) (v : AV) : TS → TS
  | [] => [(k, v)]
  | (j, x) :: r => match Nat.beq k j with
    | true => (k, v) :: r
    | false => match Nat.blt k j with
      | true => (k, v) :: (j, x) :: r
      | false => (j, x) :: insK k v r
/-- The slots in their order. -/
def canon : TS → TS
  | [] => []
  | (k, v) :: r => insK k v (canon r)
/-- Other orders come to the same. -/
def sameL (ts : TS) (h : Heap) : List (List Prop × TS × Heap) → Prop
  | [] => True
  | l :: r => (allP l.1 ∧ canon l.2.1 = canon ts ∧ l.2.2 = h) ∧ sameL ts h r
def moreP (q : List Prop) (ts : TS) (h : Heap) : List (List Prop × TS × Heap) → Prop
  | [] => allP q
  | l :: r => allP q ∧ sameL ts h (l :: r)

/-- One step of the run: what it owes, the next state. -/
def step (E : Env) (c : Cfg) (os : List Orc) : Option (Option Prop × Cfg × List Orc) :=
  match c.todo with
  | [] => none
  | .blk _ :: k => some (none, { c with todo := k }, os)
  | .lp _ :: _ => none
  | .ops _ [] :: k => some (none, { c with todo := k }, os)
  | .ops all (o :: r) :: k => match dstOk c.n o.dst, stepG E all o c.ts c.h os with
    | true, some x => some (x.o, ⟨c.n, .ops all r :: k, x.ts, x.h⟩, x.os)
    | _, _ => none
  | .code q :: k => match q with
    | .skip => some (none, { c with todo := k }, os)
    | .label _ => some (none, { c with todo := k }, os)
    | .scope a => some (none, { c with todo := .code a :: k }, os)
    | .loop a => some (none, { c with todo := .lp a :: k }, os)
    | .seq a b => some (none, { c with todo := .code a :: .code b :: k }, os)
    | .block id a => some (none, { c with todo := .code a :: .blk id :: k }, os)
    | .region _ ops false => some (none, { c with todo := .ops ops.toList ops.toList :: k }, os)
    | .region _ ops true => match os with
      | .draw l :: os => match leaves E ops.toList l c.n ops.toList.length [] c.ts c.h, Nat.beq ops.toList.length ops.size with
        | some ((q, ts, h) :: more), true => some (some (moreP q ts h more), ⟨c.n, k, ts, h⟩, os)
        | _, _ => none
      | _ => none
    | .exit id => match exitTo id k with
      | some k' => some (none, { c with todo := k' }, os)
      | none => none
    | .cond x a b => match ev E.G c.ts x with
      | .bl true => some (none, { c with todo := .code a :: k }, os)
      | .bl false => some (none, { c with todo := .code b :: k }, os)
      | .v (.bool t) => match os with
        | .b true :: os => some (some (t = true), ⟨c.n, .code a :: k, litAt c.ts true x, c.h⟩, os)
        | .b false :: os => some (some (t = false), ⟨c.n, .code b :: k, litAt c.ts false x, c.h⟩, os)
        | _ => none
      | _ => none
    | _ => none

def run (E : Env) : Nat → Cfg → List Orc → List Prop × Cfg × List Orc
  | 0, c, os => ([], c, os)
  | n + 1, c, os => match step E c os with
    | none => ([], c, os)
    | some (none, c', os') => run E n c' os'
    | some (some q, c', os') => match run E n c' os' with
      | (q', r) => (q :: q', r)

/-- The loops of a code, each with what is left to do behind it. -/
def conts : Code → List It → List (List It)
  | .seq a b, k => conts a (.code b :: k) ++ conts b k
  | .cond _ a b, k => conts a k ++ conts b k
  | .block id a, k => conts a (.blk id :: k)
  | .scope a, k => conts a k
  | .loop c, k => (.lp c :: k) :: conts c (.lp c :: k)
  | _, _ => []

def below (m b : Nat) : Option Nat := match Nat.blt b m with
  | true => some b
  | false => none

def mask (live : List Nat) (m : Nat) (ts : TS) : TS := live.map fun t => (t, ren (below m) (look ts t))

/-- What is forgotten: slots, and the blocks from m on. -/
def cut (live : List Nat) (m : Nat) (c : Cfg) : Cfg := ⟨c.n, c.todo, mask live m c.ts, (c.h.take m).map (renBlk (below m))⟩

def argTS : Nat → List AV → TS
  | _, [] => []
  | i, x :: r => (i, x) :: argTS (i + 1) r

def retOne (E : Env0) (ts : TS) (h : Heap) : ResultVar → Option AV
  | .tmp t => some (look ts t)
  | .cell a t => match look ts a with
    | .p b off => match h[b]? with
      | some (.box cs) => match mkv (E.T t) ((cs.drop off).take (E.T t).size), Nat.ble (off + (E.T t).size) cs.length with
        | some r, true => some r
        | _, _ => none
      | _ => none
    | _ => none

def retAll (E : Env0) (ts : TS) (h : Heap) : List ResultVar → Option (List AV)
  | [] => some []
  | x :: r => match retOne E ts h x, retAll E ts h r with
    | some a, some b => some (a :: b)
    | _, _ => none

def retV (E : Env0) (ts : TS) (h : Heap) (l : List ResultVar) : Option AV := match retAll E ts h l with
  | some [x] => some x
  | some xs => some (.tup xs)
  | none => none

/-- Handed back as data; the blocks that were lent, under their names. -/
def Shut (m : Nat) (R : AV → Heap → Prop) (r : AV) (h : Heap) : Prop :=
  frzO h r ∧ R (frz h r) (((share h (frzM r)).take m).map (renBlk (below m)))

end Go.AM

namespace Go.AM
open Go.RowKit

/-- Data: what lies in memory that stays as it is. -/
inductive RelD (w : World) (S : Addr → Prop) : AV → Value → Prop
  | un (x : Value) : RelD w S .un x
  | v (x : Value) : x.oneCell' = true → RelD w S (.v x) x
  | bl (b : Bool) : RelD w S (.bl b) (.bool b)
  | agg (cs : List AV) (vs : List Value) : cs.length = vs.length → (∀ y ∈ vs, y.oneCell' = true) → (∀ (i : Nat) (x : AV) (y : Value), cs[i]? = some x → vs[i]? = some y → RelD w S x y) → RelD w S (.agg cs) (.agg vs.toArray)
  | tup (cs : List AV) (vs : List Value) : cs.length = vs.length → (∀ (i : Nat) (x : AV) (y : Value), cs[i]? = some x → vs[i]? = some y → RelD w S x y) → RelD w S (.tup cs) (.tuple vs.toArray)
  | sl (xs : List (List AV)) (a : Option Addr) (cap g o size : Nat) (f : Nat → Value) :
      (xs ≠ [] → a = some ⟨g, o, none⟩) → xs.length ≤ cap → cap ≤ maxLen →
      (∀ (i : Nat) (c : List AV), xs[i]? = some c → c.length = size) →
      (∀ (i j : Nat) (c : List AV) (x : AV), xs[i]? = some c → c[j]? = some x → S ⟨g, o + (i * size + j), none⟩ ∧ w.cell? ⟨g, o + (i * size + j), none⟩ = some (f (i * size + j)) ∧ (f (i * size + j)).oneCell' = true) →
      (∀ (i j : Nat) (c : List AV) (x : AV), xs[i]? = some c → c[j]? = some x → RelD w S x (f (i * size + j))) →
      RelD w S (.sl xs) (.slice a xs.length cap)
  | dp (cs : List AV) (g o : Nat) (f : Nat → Value) :
      (∀ (j : Nat) (x : AV), cs[j]? = some x → S ⟨g, o + j, none⟩ ∧ w.cell? ⟨g, o + j, none⟩ = some (f j) ∧ (f j).oneCell' = true) →
      (∀ (j : Nat) (x : AV), cs[j]? = some x → RelD w S x (f j)) →
      RelD w S (.dp cs) (.pointer (some ⟨g, o, none⟩))

theorem RelD.mono {w w' : World} {S S' : Addr → Prop} (hS : ∀ a, S a → S' a) (hc : ∀ a, S a → w'.cell? a = w.cell? a) {x : AV} {y : Value} (h : RelD w S x y) : RelD w' S' x y := by
  induction h with
  | un x => exact .un x
  | v x ho => exact .v x ho
  | bl b => exact .bl b
  | agg cs vs hl ho _ ih => exact .agg cs vs hl ho ih
  | tup cs vs hl _ ih => exact .tup cs vs hl ih
  | sl xs a cap g o size f h1 h2 h3 h4 h5 _ ih =>
    exact .sl xs a cap g o size f h1 h2 h3 h4 (fun i j c x hi hj => by
      obtain ⟨a1, a2, a3⟩ := h5 i j c x hi hj
      exact ⟨hS _ a1, (hc _ a1).trans a2, a3⟩) ih
  | dp cs g o f h1 _ ih =>
    exact .dp cs g o f (fun j x hj => by
      obtain ⟨a1, a2, a3⟩ := h1 j x hj
      exact ⟨hS _ a1, (hc _ a1).trans a2, a3⟩) ih

/-- What a block of the abstract heap is in memory. -/
inductive Con where
  | box (g : Nat)
  | nil (a : Option Addr)
  | row (g cap : Nat)

def Con.blk : Con → Option Nat
  | .box g => some g
  | .nil _ => none
  | .row g _ => some g

def Con.cur (n : Nat) : Con → Option Value
  | .box _ => none
  | .nil a => some (.slice a 0 0)
  | .row g cap => some (.slice (some ⟨g, 0, none⟩) n cap)

inductive RelV (T : TypeId → TI) (h : Heap) (β : List Con) (w : World) (S : Addr → Prop) : AV → Value → Prop
  | d (x : AV) (y : Value) : RelD w S x y → RelV T h β w S x y
  | agg (cs : List AV) (vs : List Value) : cs.length = vs.length → (∀ y ∈ vs, y.oneCell' = true) → (∀ (i : Nat) (x : AV) (y : Value), cs[i]? = some x → vs[i]? = some y → RelV T h β w S x y) → RelV T h β w S (.agg cs) (.agg vs.toArray)
  | tup (cs : List AV) (vs : List Value) : cs.length = vs.length → (∀ (i : Nat) (x : AV) (y : Value), cs[i]? = some x → vs[i]? = some y → RelV T h β w S x y) → RelV T h β w S (.tup cs) (.tuple vs.toArray)
  | nl (a : Option Addr) : RelV T h β w S .nl (.slice a 0 0)
  | p (b off g : Nat) : β[b]? = some (.box g) → RelV T h β w S (.p b off) (.pointer (some ⟨g, off, none⟩))
  | own (b n : Nat) (y : Value) (e : TypeId) (xs : List (List AV)) (sh : Bool) : h[b]? = some (.row e xs sh) → n ≤ xs.length → (n = xs.length → (β[b]?).bind (Con.cur n) = some y) → y.oneCell' = true → RelV T h β w S (.own b n) y
  | ep (b n i off g : Nat) (e : TypeId) (xs : List (List AV)) (sh : Bool) : h[b]? = some (.row e xs sh) → n ≤ xs.length → (n = xs.length → ∃ cap, β[b]? = some (.row g cap)) → RelV T h β w S (.ep b n i off) (.pointer (some ⟨g, i * (T e).size + off, none⟩))
  | os (b n lo : Nat) (a : Option Addr) (c : Nat) (e : TypeId) (xs : List (List AV)) (sh : Bool) : h[b]? = some (.row e xs sh) → n ≤ xs.length → lo ≤ n → (n = xs.length → lo < n → ∃ g cap, β[b]? = some (.row g cap) ∧ a = some ⟨g, lo * (T e).size, none⟩) → RelV T h β w S (.os b n lo) (.slice a (n - lo) c)
  | fn (f : FuncId) (caps : List AV) (vs : List Value) : caps.length = vs.length → (∀ (i : Nat) (x : AV) (y : Value), caps[i]? = some x → vs[i]? = some y → RelV T h β w S x y) → RelV T h β w S (.fn f caps) (.func (.func f) #[] vs.toArray)

/-- A row of the call's own. -/
def RowRel (T : TypeId → TI) (w : World) (S : Addr → Prop) (e : TypeId) (xs : List (List AV)) : Con → Prop
  | .box _ => False
  | .nil _ => xs = []
  | .row g cap => ∃ cs : Array Value, w.heap[g]? = some (.cells cs e (0, 0)) ∧ xs.length ≤ cap ∧ 0 < cap ∧ cap ≤ maxLen ∧ cs.size = cap * (T e).size ∧
      (∀ (i : Nat) (c : List AV), xs[i]? = some c → c.length = (T e).size) ∧
      (∀ (i j : Nat) (c : List AV) (x : AV), xs[i]? = some c → c[j]? = some x → ∃ y, cs[i * (T e).size + j]? = some y ∧ RelD w S x y ∧ y.oneCell' = true)

structure Rel (E : Env0) (h : Heap) (β : List Con) (S : Addr → Prop) (w : World) : Prop where
  len : β.length = h.length
  box : ∀ (b : Nat) (cs : List AV), h[b]? = some (.box cs) → ∃ (g : Nat) (vs : List Value) (t : TypeId), β[b]? = some (.box g) ∧ w.heap[g]? = some (.cells vs.toArray t (0, 0)) ∧ cs.length = vs.length ∧
    ∀ (i : Nat) (x : AV) (y : Value), cs[i]? = some x → vs[i]? = some y → RelV E.T h β w S x y ∧ y.oneCell' = true
  row : ∀ (b : Nat) (e : TypeId) (xs : List (List AV)) (sh : Bool), h[b]? = some (.row e xs sh) → ∃ k, β[b]? = some k ∧ RowRel E.T w S e xs k
  apart : ∀ (b b' : Nat) (k k' : Con) (g : Nat), β[b]? = some k → β[b']? = some k' → k.blk = some g → k'.blk = some g → b = b'
  lt : ∀ (b : Nat) (k : Con) (g : Nat), β[b]? = some k → k.blk = some g → g < w.heap.size
  stable : ∀ a, S a → a.block < w.heap.size
  free : ∀ (b : Nat) (k : Con) (g : Nat) (a : Addr), β[b]? = some k → k.blk = some g → S a → a.block = g → ∃ e xs, h[b]? = some (.row e xs true) ∧ a.off < xs.length * (E.T e).size
  glob : ∀ g cs, E.G g = some cs → RelD w S (.dp cs) (.pointer (some ⟨g, 0, none⟩))

/-- What one state becomes: nothing but its own blocks has turned. -/
structure Ext (h : Heap) (β : List Con) (S : Addr → Prop) (w : World) (h' : Heap) (β' : List Con) (S' : Addr → Prop) (w' : World) : Prop where
  box : ∀ (b : Nat) (cs : List AV), h[b]? = some (.box cs) → ∃ cs', h'[b]? = some (.box cs')
  con : ∀ (b g : Nat), β[b]? = some (.box g) → β'[b]? = some (.box g)
  row : ∀ (b : Nat) (e : TypeId) (xs : List (List AV)) (sh : Bool), h[b]? = some (.row e xs sh) → ∃ xs' sh', h'[b]? = some (.row e xs' sh') ∧ xs.length ≤ xs'.length ∧ (xs'.length = xs.length → β'[b]? = β[b]?)
  S_le : ∀ a, S a → S' a
  S_cell : ∀ a, S a → w'.cell? a = w.cell? a
  S_new : ∀ a, S' a → S a ∨ w.heap.size ≤ a.block ∨ ∃ (b : Nat) (k : Con), β[b]? = some k ∧ k.blk = some a.block
  os : w'.os = w.os
  tape : w'.tape = w.tape
  output : w'.output = w.output
  size : w.heap.size ≤ w'.heap.size
  keep : ∀ g, g < w.heap.size → (∀ (b : Nat) (k : Con), β[b]? = some k → k.blk ≠ some g) → w'.heap[g]? = w.heap[g]?
  new : ∀ (b : Nat) (k : Con) (g : Nat), β'[b]? = some k → k.blk = some g → (∃ (b' : Nat) (k' : Con), β[b']? = some k' ∧ k'.blk = some g ∧ b' = b) ∨ w.heap.size ≤ g

theorem Ext.refl (h : Heap) (β : List Con) (S : Addr → Prop) (w : World) : Ext h β S w h β S w where
  box := fun _ cs hb => ⟨cs, hb⟩
  con := fun _ _ h => h
  row := fun _ _ xs sh hb => ⟨xs, sh, hb, Nat.le_refl _, fun _ => rfl⟩
  S_le := fun _ h => h
  S_cell := fun _ _ => rfl
  S_new := fun _ h => .inl h
  os := rfl
  tape := rfl
  output := rfl
  size := Nat.le_refl _
  keep := fun _ _ _ => rfl
  new := fun b k _ hb hk => .inl ⟨b, k, hb, hk, rfl⟩

theorem Ext.trans {h h1 h2 : Heap} {β β1 β2 : List Con} {S S1 S2 : Addr → Prop} {w w1 w2 : World} (x : Ext h β S w h1 β1 S1 w1) (y : Ext h1 β1 S1 w1 h2 β2 S2 w2) : Ext h β S w h2 β2 S2 w2 where
  box := fun b cs hb => by obtain ⟨cs1, h1⟩ := x.box b cs hb; exact y.box b cs1 h1
  con := fun b g hb => y.con b g (x.con b g hb)
  row := fun b e xs sh hb => by
    obtain ⟨xs1, sh1, a1, a2, a3⟩ := x.row b e xs sh hb
    obtain ⟨xs2, sh2, b1, b2, b3⟩ := y.row b e xs1 sh1 a1
    exact ⟨xs2, sh2, b1, Nat.le_trans a2 b2, fun he => (b3 (by omega)).trans (a3 (by omega))⟩
  S_le := fun a ha => y.S_le a (x.S_le a ha)
  S_cell := fun a ha => (y.S_cell a (x.S_le a ha)).trans (x.S_cell a ha)
  S_new := fun a ha => by
    rcases y.S_new a ha with h1 | h1 | ⟨b, k, h1, h2⟩
    · exact x.S_new a h1
    · exact .inr (.inl (Nat.le_trans x.size h1))
    · rcases x.new b k _ h1 h2 with ⟨b', k', c1, c2, _⟩ | c
      · exact .inr (.inr ⟨b', k', c1, c2⟩)
      · exact .inr (.inl c)
  os := y.os.trans x.os
  tape := y.tape.trans x.tape
  output := y.output.trans x.output
  size := Nat.le_trans x.size y.size
  keep := fun g hg hne => by
    rw [← x.keep g hg hne]
    refine y.keep g (Nat.lt_of_lt_of_le hg x.size) fun b k hb hk => ?_
    rcases x.new b k g hb hk with ⟨b', k', c1, c2, _⟩ | c
    · exact hne b' k' c1 c2
    · omega
  new := fun b k g hb hk => by
    rcases y.new b k g hb hk with ⟨b', k', c1, c2, rfl⟩ | c
    · exact x.new b' k' g c1 c2
    · exact .inr (Nat.le_trans x.size c)

theorem RelV.ext {T : TypeId → TI} {h h' : Heap} {β β' : List Con} {S S' : Addr → Prop} {w w' : World} (hx : Ext h β S w h' β' S' w') {x : AV} {y : Value} (hr : RelV T h β w S x y) : RelV T h' β' w' S' x y := by
  induction hr with
  | d x y hd => exact .d x y (hd.mono hx.S_le hx.S_cell)
  | agg cs vs hl ho _ ih => exact .agg cs vs hl ho ih
  | tup cs vs hl _ ih => exact .tup cs vs hl ih
  | nl a => exact .nl a
  | p b off g hb => exact .p b off g (hx.con b g hb)
  | own b n y e xs sh hb hn hy ho =>
    obtain ⟨xs', sh', a1, a2, a3⟩ := hx.row b e xs sh hb
    exact .own b n y e xs' sh' a1 (by omega) (fun he => by rw [a3 (by omega)]; exact hy (by omega)) ho
  | ep b n i off g e xs sh hb hn hy =>
    obtain ⟨xs', sh', a1, a2, a3⟩ := hx.row b e xs sh hb
    exact .ep b n i off g e xs' sh' a1 (by omega) (fun he => by rw [a3 (by omega)]; exact hy (by omega))
  | os b n lo a c e xs sh hb hn hl hy =>
    obtain ⟨xs', sh', a1, a2, a3⟩ := hx.row b e xs sh hb
    exact .os b n lo a c e xs' sh' a1 (by omega) hl (fun he => by rw [a3 (by omega)]; exact hy (by omega))
  | fn f caps vs hl _ ih => exact .fn f caps vs hl ih

def RelTS (T : TypeId → TI) (h : Heap) (β : List Con) (w : World) (S : Addr → Prop) (ts : TS) (tmps : Array Value) : Prop := ∀ t, RelV T h β w S (look ts t) (tmps.getD t undef)


theorem RowRel.ext {T : TypeId → TI} {w w' : World} {S S' : Addr → Prop} {e : TypeId} {xs : List (List AV)} {k : Con} (hS : ∀ a, S a → S' a) (hc : ∀ a, S a → w'.cell? a = w.cell? a)
    (hg : ∀ g, k.blk = some g → w'.heap[g]? = w.heap[g]?) (h : RowRel T w S e xs k) : RowRel T w' S' e xs k := by
  cases k with
  | box g => exact h
  | nil a => exact h
  | row g cap =>
    obtain ⟨cs, h1, h2, h3, h4, h5, h6, h7⟩ := h
    exact ⟨cs, (hg g rfl).trans h1, h2, h3, h4, h5, h6, fun i j c x hi hj => by
      obtain ⟨y, a1, a2, a3⟩ := h7 i j c x hi hj
      exact ⟨y, a1, a2.mono hS hc, a3⟩⟩

theorem Rel.con_of {E : Env0} {h : Heap} {β : List Con} {S : Addr → Prop} {w : World} (r : Rel E h β S w) {b : Nat} {k : Con} (hb : β[b]? = some k) : ∃ x, h[b]? = some x := by
  have hl : b < β.length := (List.getElem?_eq_some_iff.1 hb).1
  exact ⟨_, List.getElem?_eq_getElem (by rw [← r.len]; exact hl)⟩

/-- One block has turned, or is new. -/
theorem Rel.upd {E : Env0} {h h' : Heap} {β β' : List Con} {S S' : Addr → Prop} {w w' : World} (r : Rel E h β S w) (x : Ext h β S w h' β' S' w') (b0 : Nat) (hlen : β'.length = h'.length)
    (hold : ∀ b, b ≠ b0 → h'[b]? = h[b]? ∧ β'[b]? = β[b]? ∧ ∀ k g, β[b]? = some k → k.blk = some g → w'.heap[g]? = w.heap[g]?)
    (hbox : ∀ cs, h'[b0]? = some (.box cs) → ∃ (g : Nat) (vs : List Value) (t : TypeId), β'[b0]? = some (.box g) ∧ w'.heap[g]? = some (.cells vs.toArray t (0, 0)) ∧ cs.length = vs.length ∧
      ∀ (i : Nat) (x : AV) (y : Value), cs[i]? = some x → vs[i]? = some y → RelV E.T h' β' w' S' x y ∧ y.oneCell' = true)
    (hrow : ∀ e xs sh, h'[b0]? = some (.row e xs sh) → ∃ k, β'[b0]? = some k ∧ RowRel E.T w' S' e xs k)
    (hlt : ∀ k g, β'[b0]? = some k → k.blk = some g → g < w'.heap.size ∧ ∀ b k', b ≠ b0 → β[b]? = some k' → k'.blk ≠ some g)
    (hst : ∀ a, S' a → a.block < w'.heap.size)
    (hS : ∀ a, S' a → S a ∨ ∀ b k, b ≠ b0 → β[b]? = some k → k.blk ≠ some a.block)
    (hfree : ∀ k g a, β'[b0]? = some k → k.blk = some g → S' a → a.block = g → ∃ e xs, h'[b0]? = some (.row e xs true) ∧ a.off < xs.length * (E.T e).size) : Rel E h' β' S' w' where
  len := hlen
  box := fun b cs hb => by
    by_cases e : b = b0
    · subst e; exact hbox cs hb
    · obtain ⟨a1, a2, a3⟩ := hold b e
      rw [a1] at hb
      obtain ⟨g, vs, t, c1, c2, c3, c4⟩ := r.box b cs hb
      exact ⟨g, vs, t, a2.trans c1, (a3 _ g c1 rfl).trans c2, c3, fun i u v hu hv => ⟨(c4 i u v hu hv).1.ext x, (c4 i u v hu hv).2⟩⟩
  row := fun b e xs sh hb => by
    by_cases e0 : b = b0
    · subst e0; exact hrow e xs sh hb
    · obtain ⟨a1, a2, a3⟩ := hold b e0
      rw [a1] at hb
      obtain ⟨k, c1, c2⟩ := r.row b e xs sh hb
      exact ⟨k, a2.trans c1, c2.ext x.S_le x.S_cell fun g hg => a3 k g c1 hg⟩
  apart := fun b b' k k' g hb hb' hk hk' => by
    by_cases e : b = b0 <;> by_cases e' : b' = b0
    · rw [e, e']
    · subst e
      rw [(hold b' e').2.1] at hb'
      exact absurd hk' ((hlt k g hb hk).2 b' k' e' hb')
    · subst e'
      rw [(hold b e).2.1] at hb
      exact absurd hk ((hlt k' g hb' hk').2 b k e hb)
    · rw [(hold b e).2.1] at hb
      rw [(hold b' e').2.1] at hb'
      exact r.apart b b' k k' g hb hb' hk hk'
  lt := fun b k g hb hk => by
    by_cases e : b = b0
    · subst e; exact (hlt k g hb hk).1
    · rw [(hold b e).2.1] at hb
      exact Nat.lt_of_lt_of_le (r.lt b k g hb hk) x.size
  stable := hst
  free := fun b k g a hb hk ha hg => by
    by_cases e : b = b0
    · subst e; exact hfree k g a hb hk ha hg
    · rw [(hold b e).2.1] at hb
      rcases hS a ha with h1 | h1
      · obtain ⟨e', xs, c1, c2⟩ := r.free b k g a hb hk h1 hg
        exact ⟨e', xs, (hold b e).1.trans c1, c2⟩
      · exact absurd (hg ▸ hk) (h1 b k e hb)
  glob := fun g cs hg => (r.glob g cs hg).mono x.S_le x.S_cell

/-- New memory that is nobody's; some of it may be data from now on. -/
theorem Ext.grow {E : Env0} {h : Heap} {β : List Con} {S S' : Addr → Prop} {w w' : World} (r : Rel E h β S w) (hb : Below w.heap.size w w') (hS : ∀ a, S a → S' a)
    (hn : ∀ a, S' a → S a ∨ w.heap.size ≤ a.block) : Ext h β S w h β S' w' where
  box := fun _ cs hb => ⟨cs, hb⟩
  con := fun _ _ h => h
  row := fun _ _ xs sh hb => ⟨xs, sh, hb, Nat.le_refl _, fun _ => rfl⟩
  S_le := hS
  S_cell := fun a ha => hb.cell (r.stable a ha)
  S_new := fun a ha => (hn a ha).imp id .inl
  os := hb.os
  tape := hb.tape
  output := hb.output
  size := hb.size
  keep := fun g hg _ => hb.block g hg
  new := fun b k _ hb hk => .inl ⟨b, k, hb, hk, rfl⟩

theorem Rel.grow {E : Env0} {h : Heap} {β : List Con} {S S' : Addr → Prop} {w w' : World} (r : Rel E h β S w) (hb : Below w.heap.size w w') (hS : ∀ a, S a → S' a)
    (hn : ∀ a, S' a → S a ∨ (w.heap.size ≤ a.block ∧ a.block < w'.heap.size)) : Rel E h β S' w' := by
  have x : Ext h β S w h β S' w' := Ext.grow r hb hS fun a ha => (hn a ha).imp id And.left
  refine r.upd x h.length r.len (fun b _ => ⟨rfl, rfl, fun k g hk hg => hb.block g (r.lt b k g hk hg)⟩) (by simp) (by simp) ?_ ?_ ?_ ?_
  · intro k g hk _
    have := (List.getElem?_eq_some_iff.1 hk).1
    rw [r.len] at this
    omega
  · intro a ha
    rcases hn a ha with h1 | ⟨_, h1⟩
    · exact Nat.lt_of_lt_of_le (r.stable a h1) hb.size
    · exact h1
  · intro a ha
    rcases hn a ha with h1 | ⟨h1, _⟩
    · exact .inl h1
    · refine .inr fun b k _ hk hg => ?_
      have := r.lt b k _ hk hg
      omega
  · intro k g a hk
    have := (List.getElem?_eq_some_iff.1 hk).1
    rw [r.len] at this
    omega

theorem getElem?_append_new {α : Type} (l : List α) (x : α) : (l ++ [x])[l.length]? = some x := by simp
theorem getElem?_append_old {α : Type} (l : List α) (x : α) {b : Nat} (h : b ≠ l.length) : (l ++ [x])[b]? = l[b]? := by
  by_cases hb : b < l.length
  · rw [List.getElem?_append_left hb]
  · rw [List.getElem?_eq_none (by simp; omega), List.getElem?_eq_none (by omega)]

/-- A new box. -/
theorem Rel.newBox {E : Env0} {h : Heap} {β : List Con} {S : Addr → Prop} {w : World} (r : Rel E h β S w) (cs : List AV) (vs : List Value) (t : TypeId) (hl : cs.length = vs.length)
    (hv : ∀ (i : Nat) (x : AV) (y : Value), cs[i]? = some x → vs[i]? = some y → RelV E.T h β w S x y ∧ y.oneCell' = true) :
    Ext h β S w (h ++ [.box cs]) (β ++ [.box w.heap.size]) S (w.alloc (.cells vs.toArray t)) ∧ Rel E (h ++ [.box cs]) (β ++ [.box w.heap.size]) S (w.alloc (.cells vs.toArray t)) := by
  have hbl : Below w.heap.size w (w.alloc (.cells vs.toArray t)) := (Below.refl _ _).alloc (Nat.le_refl _) _
  have x : Ext h β S w (h ++ [.box cs]) (β ++ [.box w.heap.size]) S (w.alloc (.cells vs.toArray t)) := {
    box := fun b cs' hb => ⟨cs', by rw [List.getElem?_append_left (List.getElem?_eq_some_iff.1 hb).1]; exact hb⟩
    con := fun b g hb => by rw [List.getElem?_append_left (List.getElem?_eq_some_iff.1 hb).1]; exact hb
    row := fun b e xs sh hb => by
      have hlt := (List.getElem?_eq_some_iff.1 hb).1
      exact ⟨xs, sh, by rw [List.getElem?_append_left hlt]; exact hb, Nat.le_refl _, fun _ => by rw [List.getElem?_append_left (by rw [r.len]; exact hlt)]⟩
    S_le := fun _ h => h
    S_cell := fun a ha => hbl.cell (r.stable a ha)
    S_new := fun _ h => .inl h
    os := hbl.os
    tape := hbl.tape
    output := hbl.output
    size := hbl.size
    keep := fun g hg _ => hbl.block g hg
    new := fun b k g hb hk => by
      by_cases e : b = β.length
      · subst e
        rw [getElem?_append_new] at hb
        cases hb
        cases hk
        exact .inr (Nat.le_refl _)
      · rw [getElem?_append_old _ _ e] at hb
        exact .inl ⟨b, k, hb, hk, rfl⟩ }
  refine ⟨x, r.upd x h.length (by simp [r.len]) ?_ ?_ ?_ ?_ ?_ ?_ ?_⟩
  · intro b hb
    exact ⟨getElem?_append_old _ _ hb, getElem?_append_old _ _ (by rw [r.len]; exact hb), fun k g hk hg => hbl.block g (r.lt b k g hk hg)⟩
  · intro cs' hc
    rw [getElem?_append_new] at hc
    cases hc
    refine ⟨w.heap.size, vs, t, by rw [← r.len, getElem?_append_new], heap_alloc_new w _, hl, fun i u y hu hy => ⟨(hv i u y hu hy).1.ext x, (hv i u y hu hy).2⟩⟩
  · intro e xs sh hc
    rw [getElem?_append_new] at hc
    cases hc
  · intro k g hk hg
    rw [← r.len, getElem?_append_new] at hk
    cases hk
    cases hg
    refine ⟨by simp, fun b k' _ hk' he => ?_⟩
    have := r.lt b k' _ hk' he
    omega
  · intro a ha
    exact Nat.lt_of_lt_of_le (r.stable a ha) hbl.size
  · exact fun a ha => .inl ha
  · intro k g a hk hg ha he
    rw [← r.len, getElem?_append_new] at hk
    cases hk
    cases hg
    have := r.stable a ha
    omega


/-- What is asked where one block turns. -/
structure Turn (h : Heap) (β : List Con) (S : Addr → Prop) (w : World) (b0 : Nat) (B' : Blk) (k k' : Con) (S' : Addr → Prop) (w' : World) : Prop where
  kb : β[b0]? = some k
  box : ∀ cs, h[b0]? = some (.box cs) → (∃ cs', B' = .box cs') ∧ k' = k
  row : ∀ e xs sh, h[b0]? = some (.row e xs sh) → ∃ xs' sh', B' = .row e xs' sh' ∧ xs.length ≤ xs'.length ∧ (xs'.length = xs.length → k' = k)
  S_le : ∀ a, S a → S' a
  S_cell : ∀ a, S a → w'.cell? a = w.cell? a
  S_new : ∀ a, S' a → S a ∨ w.heap.size ≤ a.block ∨ k.blk = some a.block
  S_lt : ∀ a, S' a → a.block < w'.heap.size
  os : w'.os = w.os
  tape : w'.tape = w.tape
  output : w'.output = w.output
  size : w.heap.size ≤ w'.heap.size
  keep : ∀ g, g < w.heap.size → k.blk ≠ some g → w'.heap[g]? = w.heap[g]?
  own : ∀ g, k'.blk = some g → (k.blk = some g ∨ w.heap.size ≤ g) ∧ g < w'.heap.size

theorem set_same {α : Type} {l : List α} {b : Nat} {x y : α} (h : l[b]? = some y) : (l.set b x)[b]? = some x := by
  rw [List.getElem?_set_self (List.getElem?_eq_some_iff.1 h).1]
theorem set_other {α : Type} {l : List α} {b c : Nat} {x : α} (h : c ≠ b) : (l.set b x)[c]? = l[c]? := by
  rw [List.getElem?_set_ne (Ne.symm h)]

theorem Rel.turnExt {E : Env0} {h : Heap} {β : List Con} {S S' : Addr → Prop} {w w' : World} {b0 : Nat} {B B' : Blk} {k k' : Con} (r : Rel E h β S w) (hB : h[b0]? = some B)
    (t : Turn h β S w b0 B' k k' S' w') : Ext h β S w (h.set b0 B') (β.set b0 k') S' w' where
  box := fun b cs hb => by
    by_cases e : b = b0
    · subst e
      obtain ⟨⟨cs', h1⟩, _⟩ := t.box cs hb
      exact ⟨cs', by rw [set_same hb, h1]⟩
    · exact ⟨cs, by rw [set_other e]; exact hb⟩
  con := fun b g hb => by
    by_cases e : b = b0
    · subst e
      have hk : k = .box g := by have := t.kb; rw [hb] at this; cases this; rfl
      obtain ⟨x, hx⟩ := r.con_of hb
      cases x with
      | box cs => rw [set_same hb, (t.box cs hx).2, hk]
      | row e xs sh =>
        obtain ⟨k1, c1, c2⟩ := r.row b e xs sh hx
        rw [hb] at c1
        cases c1
        exact c2.elim
    · rw [set_other e]; exact hb
  row := fun b e xs sh hb => by
    by_cases e0 : b = b0
    · subst e0
      obtain ⟨xs', sh', h1, h2, h3⟩ := t.row e xs sh hb
      exact ⟨xs', sh', by rw [set_same hb, h1], h2, fun he => by rw [set_same t.kb, t.kb, h3 he]⟩
    · exact ⟨xs, sh, by rw [set_other e0]; exact hb, Nat.le_refl _, fun _ => by rw [set_other e0]⟩
  S_le := t.S_le
  S_cell := t.S_cell
  S_new := fun a ha => by
    rcases t.S_new a ha with h1 | h1 | h1
    · exact .inl h1
    · exact .inr (.inl h1)
    · exact .inr (.inr ⟨b0, k, t.kb, h1⟩)
  os := t.os
  tape := t.tape
  output := t.output
  size := t.size
  keep := fun g hg hne => t.keep g hg (hne b0 k t.kb)
  new := fun b k1 g hb hk => by
    by_cases e : b = b0
    · subst e
      rw [set_same t.kb] at hb
      cases hb
      rcases (t.own g hk).1 with h1 | h1
      · exact .inl ⟨b, k, t.kb, h1, rfl⟩
      · exact .inr h1
    · rw [set_other e] at hb
      exact .inl ⟨b, k1, hb, hk, rfl⟩

theorem Rel.turn {E : Env0} {h : Heap} {β : List Con} {S S' : Addr → Prop} {w w' : World} {b0 : Nat} {B B' : Blk} {k k' : Con} (r : Rel E h β S w) (hB : h[b0]? = some B)
    (t : Turn h β S w b0 B' k k' S' w')
    (hbox : ∀ cs, B' = .box cs → ∃ (g : Nat) (vs : List Value) (t : TypeId), k' = .box g ∧ w'.heap[g]? = some (.cells vs.toArray t (0, 0)) ∧ cs.length = vs.length ∧
      ∀ (i : Nat) (x : AV) (y : Value), cs[i]? = some x → vs[i]? = some y → RelV E.T (h.set b0 B') (β.set b0 k') w' S' x y ∧ y.oneCell' = true)
    (hrow : ∀ e xs sh, B' = .row e xs sh → RowRel E.T w' S' e xs k')
    (hfree : ∀ g a, k'.blk = some g → S' a → a.block = g → ∃ e xs, B' = .row e xs true ∧ a.off < xs.length * (E.T e).size) :
    Rel E (h.set b0 B') (β.set b0 k') S' w' := by
  have x := r.turnExt hB t
  have hk : (β.set b0 k')[b0]? = some k' := set_same t.kb
  have hh : (h.set b0 B')[b0]? = some B' := set_same hB
  refine r.upd x b0 (by simp [r.len]) ?_ ?_ ?_ ?_ t.S_lt ?_ ?_
  · intro b e
    refine ⟨set_other e, set_other e, fun k1 g h1 h2 => t.keep g (r.lt b k1 g h1 h2) fun h3 => e (r.apart b b0 k1 k g h1 t.kb h2 h3)⟩
  · intro cs hc
    rw [hh] at hc
    cases hc
    obtain ⟨g, vs, t', c1, c2, c3, c4⟩ := hbox cs rfl
    exact ⟨g, vs, t', by rw [hk, c1], c2, c3, c4⟩
  · intro e xs sh hc
    rw [hh] at hc
    cases hc
    exact ⟨k', hk, hrow e xs sh rfl⟩
  · intro k1 g h1 h2
    rw [hk] at h1
    cases h1
    refine ⟨(t.own g h2).2, fun b k2 e h3 h4 => ?_⟩
    rcases (t.own g h2).1 with h5 | h5
    · exact e (r.apart b b0 k2 k g h3 t.kb h4 h5)
    · have := r.lt b k2 g h3 h4
      omega
  · intro a ha
    rcases t.S_new a ha with h1 | h1 | h1
    · exact .inl h1
    · refine .inr fun b k1 _ h2 h3 => ?_
      have := r.lt b k1 _ h2 h3
      omega
    · exact .inr fun b k1 e h2 h3 => e (r.apart b b0 k1 k _ h2 t.kb h3 h1)
  · intro k1 g a h1 h2 h3 h4
    rw [hk] at h1
    cases h1
    obtain ⟨e, xs, c1, c2⟩ := hfree g a h2 h3 h4
    exact ⟨e, xs, by rw [hh, c1], c2⟩

/-- A new row. -/
theorem Rel.newRow {E : Env0} {h : Heap} {β : List Con} {S : Addr → Prop} {w w' : World} (r : Rel E h β S w) (e : TypeId) (xs : List (List AV)) (sh : Bool) (k : Con) (hb : Below w.heap.size w w')
    (hk : ∀ g, k.blk = some g → w.heap.size ≤ g ∧ g < w'.heap.size) (hrow : RowRel E.T w' S e xs k) :
    Ext h β S w (h ++ [.row e xs sh]) (β ++ [k]) S w' ∧ Rel E (h ++ [.row e xs sh]) (β ++ [k]) S w' := by
  have x : Ext h β S w (h ++ [.row e xs sh]) (β ++ [k]) S w' := {
    box := fun b cs' hb => ⟨cs', by rw [List.getElem?_append_left (List.getElem?_eq_some_iff.1 hb).1]; exact hb⟩
    con := fun b g hb => by rw [List.getElem?_append_left (List.getElem?_eq_some_iff.1 hb).1]; exact hb
    row := fun b e xs sh hb => by
      have hlt := (List.getElem?_eq_some_iff.1 hb).1
      exact ⟨xs, sh, by rw [List.getElem?_append_left hlt]; exact hb, Nat.le_refl _, fun _ => by rw [List.getElem?_append_left (by rw [r.len]; exact hlt)]⟩
    S_le := fun _ h => h
    S_cell := fun a ha => hb.cell (r.stable a ha)
    S_new := fun _ h => .inl h
    os := hb.os
    tape := hb.tape
    output := hb.output
    size := hb.size
    keep := fun g hg _ => hb.block g hg
    new := fun b k1 g hb1 hk1 => by
      by_cases e : b = β.length
      · subst e
        rw [getElem?_append_new] at hb1
        cases hb1
        exact .inr (hk g hk1).1
      · rw [getElem?_append_old _ _ e] at hb1
        exact .inl ⟨b, k1, hb1, hk1, rfl⟩ }
  refine ⟨x, r.upd x h.length (by simp [r.len]) ?_ ?_ ?_ ?_ ?_ ?_ ?_⟩
  · intro b hb1
    exact ⟨getElem?_append_old _ _ hb1, getElem?_append_old _ _ (by rw [r.len]; exact hb1), fun k g hk hg => hb.block g (r.lt b k g hk hg)⟩
  · intro cs' hc
    rw [getElem?_append_new] at hc
    cases hc
  · intro e xs sh hc
    rw [getElem?_append_new] at hc
    cases hc
    exact ⟨k, by rw [← r.len, getElem?_append_new], hrow⟩
  · intro k1 g hk1 hg
    rw [← r.len, getElem?_append_new] at hk1
    cases hk1
    refine ⟨(hk g hg).2, fun b k' _ hk' he => ?_⟩
    have := r.lt b k' _ hk' he
    have := (hk g hg).1
    omega
  · intro a ha
    exact Nat.lt_of_lt_of_le (r.stable a ha) hb.size
  · exact fun a ha => .inl ha
  · intro k1 g a hk1 hg ha he
    rw [← r.len, getElem?_append_new] at hk1
    cases hk1
    have := r.stable a ha
    have := (hk g hg).1
    omega

/-- A row is shared from now on: what it holds is data. -/
theorem Rel.share {E : Env0} {h : Heap} {β : List Con} {S : Addr → Prop} {w : World} (r : Rel E h β S w) {b : Nat} {e : TypeId} {xs : List (List AV)} {sh : Bool} (hb : h[b]? = some (.row e xs sh)) :
    ∃ S', Ext h β S w (h.set b (.row e xs true)) β S' w ∧ Rel E (h.set b (.row e xs true)) β S' w ∧
      ∀ k, β[b]? = some k → ∀ y, k.cur xs.length = some y → RelD w S' (.sl xs) y := by
  obtain ⟨k, hk, hr⟩ := r.row b e xs sh hb
  have hset : β.set b k = β := by
    apply List.ext_getElem?
    intro i
    by_cases hi : i = b
    · subst hi; rw [set_same hk, hk]
    · rw [set_other hi]
  let S' : Addr → Prop := fun a => S a ∨ (∃ g cap, k = .row g cap ∧ a.block = g ∧ a.off < xs.length * (E.T e).size)
  have t : Turn h β S w b (.row e xs true) k k S' w := {
    kb := hk
    box := fun cs hc => by rw [hb] at hc; cases hc
    row := fun e1 xs1 sh1 h1 => by rw [hb] at h1; cases h1; exact ⟨xs, true, rfl, Nat.le_refl _, fun _ => rfl⟩
    S_le := fun a ha => .inl ha
    S_cell := fun _ _ => rfl
    S_new := fun a ha => by
      rcases ha with h1 | ⟨g, cap, h1, h2, _⟩
      · exact .inl h1
      · exact .inr (.inr (by rw [h1, h2]; rfl))
    S_lt := fun a ha => by
      rcases ha with h1 | ⟨g, cap, h1, h2, _⟩
      · exact r.stable a h1
      · rw [h2]; exact r.lt b k g hk (by rw [h1]; rfl)
    os := rfl
    tape := rfl
    output := rfl
    size := Nat.le_refl _
    keep := fun _ _ _ => rfl
    own := fun g hg => ⟨.inl hg, r.lt b k g hk hg⟩ }
  have x := r.turnExt hb t
  rw [hset] at x
  have hrel : Rel E (h.set b (.row e xs true)) β S' w := by
    have := r.turn hb t (fun cs hc => by cases hc) (fun e1 xs1 sh1 h1 => by
      cases h1
      exact hr.ext (fun a ha => .inl ha) (fun _ _ => rfl) (fun _ _ => rfl)) (fun g a hg ha hag => by
        rcases ha with h1 | ⟨g', cap, h1, h2, h3⟩
        · obtain ⟨e', xs', c1, c2⟩ := r.free b k g a hk hg h1 hag
          rw [hb] at c1
          cases c1
          exact ⟨e, xs, rfl, c2⟩
        · exact ⟨e, xs, rfl, h3⟩)
    rwa [hset] at this
  refine ⟨S', x, hrel, fun k1 hk1 y hy => ?_⟩
  rw [hk] at hk1
  cases hk1
  cases k with
  | box g => exact hr.elim
  | nil a =>
    have hx : xs = [] := hr
    subst hx
    cases hy
    exact .sl [] a 0 0 0 0 (fun _ => undef) (fun hn => absurd rfl hn) (Nat.le_refl _) (Nat.zero_le _) (by simp) (by simp) (by simp)
  | row g cap =>
    obtain ⟨cs, h1, h2, h3, h4, h5, h6, h7⟩ := hr
    cases hy
    have hcell : ∀ i j c x, xs[i]? = some c → c[j]? = some x → i * (E.T e).size + j < xs.length * (E.T e).size ∧ w.cell? ⟨g, 0 + (i * (E.T e).size + j), none⟩ = cs[i * (E.T e).size + j]? := by
      intro i j c x hi hj
      have hil := (List.getElem?_eq_some_iff.1 hi).1
      have hjl := (List.getElem?_eq_some_iff.1 hj).1
      rw [h6 i c hi] at hjl
      refine ⟨?_, by simp [World.cell?, h1]⟩
      calc i * (E.T e).size + j < i * (E.T e).size + (E.T e).size := by omega
        _ = (i + 1) * (E.T e).size := by rw [Nat.add_mul, Nat.one_mul]
        _ ≤ xs.length * (E.T e).size := Nat.mul_le_mul_right _ (by omega)
    refine .sl xs _ cap g 0 (E.T e).size (fun i => (cs[i]?).getD undef) (fun _ => rfl) h2 h4 h6 ?_ ?_
    · intro i j c x hi hj
      obtain ⟨a1, a2⟩ := hcell i j c x hi hj
      obtain ⟨y, b1, b2, b3⟩ := h7 i j c x hi hj
      exact ⟨.inr ⟨g, cap, rfl, rfl, by simpa using a1⟩, by rw [a2, b1]; rfl, by rw [b1]; exact b3⟩
    · intro i j c x hi hj
      obtain ⟨y, b1, b2, b3⟩ := h7 i j c x hi hj
      rw [b1]
      exact b2.mono (fun a ha => .inl ha) (fun _ _ => rfl)

end Go.AM

namespace Go.AM
open Go.RowKit

def rowOf (h : Heap) (b : Nat) : Option (List (List AV)) := match h[b]? with
  | some (.row _ xs _) => some xs
  | _ => none

theorem rowOf_some {h : Heap} {b : Nat} {xs : List (List AV)} (hr : rowOf h b = some xs) : ∃ e sh, h[b]? = some (.row e xs sh) := by
  unfold rowOf at hr
  split at hr
  · rename_i e ys sh he; cases hr; exact ⟨e, sh, he⟩
  · cases hr

theorem frz_own (h : Heap) (b n : Nat) : frz h (.own b n) = match rowOf h b with
  | some xs => .sl xs
  | none => .un := by
  simp only [frz, rowOf]
  split <;> simp_all

theorem frzO_own (h : Heap) (b n : Nat) : frzO h (.own b n) = match rowOf h b with
  | some xs => n = xs.length
  | none => True := by
  simp only [frzO, rowOf]
  split <;> simp_all

mutual
theorem frz_same {h h' : Heap} (hs : ∀ b, rowOf h' b = rowOf h b) : ∀ x, frz h' x = frz h x
  | .un | .v _ | .bl _ | .sl _ | .dp _ | .nl | .p _ _ | .ep _ _ _ _ | .os _ _ _ | .fn _ _ => by simp [frz]
  | .agg cs => by simp only [frz]; rw [frzL_same hs cs]
  | .tup cs => by simp only [frz]; rw [frzL_same hs cs]
  | .own b n => by rw [frz_own, frz_own, hs]
theorem frzL_same {h h' : Heap} (hs : ∀ b, rowOf h' b = rowOf h b) : ∀ l, frzL h' l = frzL h l
  | [] => by simp [frzL]
  | x :: r => by simp only [frzL]; rw [frz_same hs x, frzL_same hs r]
end

mutual
theorem frzO_same {h h' : Heap} (hs : ∀ b, rowOf h' b = rowOf h b) : ∀ x, frzO h' x = frzO h x
  | .un | .v _ | .bl _ | .sl _ | .dp _ | .nl | .p _ _ | .ep _ _ _ _ | .os _ _ _ | .fn _ _ => by simp [frzO]
  | .agg cs => by simp only [frzO]; rw [frzOL_same hs cs]
  | .tup cs => by simp only [frzO]; rw [frzOL_same hs cs]
  | .own b n => by rw [frzO_own, frzO_own, hs]
theorem frzOL_same {h h' : Heap} (hs : ∀ b, rowOf h' b = rowOf h b) : ∀ l, frzOL h' l = frzOL h l
  | [] => by simp [frzOL]
  | x :: r => by simp only [frzOL]; rw [frzO_same hs x, frzOL_same hs r]
end

theorem rowOf_share1 (h : Heap) (c b : Nat) : rowOf (share1 h c) b = rowOf h b := by
  unfold share1
  split
  · rename_i e xs sh hc
    by_cases e0 : b = c
    · subst e0
      simp only [rowOf, set_same hc, hc]
    · simp only [rowOf, set_other e0]
  · rfl

theorem rowOf_share (l : List Nat) : ∀ (h : Heap) (b : Nat), rowOf (share h l) b = rowOf h b := by
  induction l with
  | nil => intro h b; rfl
  | cons c l ih => intro h b; simp only [share, List.foldl_cons] at ih ⊢; rw [ih, rowOf_share1]

theorem share_append (h : Heap) (l m : List Nat) : share h (l ++ m) = share (share h l) m := by simp [share, List.foldl_append]

/-- What freezing gives. -/
def FrzOK (E : Env0) (h h' : Heap) (β : List Con) (S : Addr → Prop) (w : World) (S' : Addr → Prop) : Prop :=
  Ext h β S w h' β S' w ∧ Rel E h' β S' w

theorem relD_of_d {T : TypeId → TI} {h : Heap} {β : List Con} {w : World} {S : Addr → Prop} {x : AV} {y : Value} (hr : RelV T h β w S x y)
    (hx : match x with | .un | .v _ | .bl _ | .sl _ | .dp _ => True | _ => False) : RelD w S x y := by
  cases hr with
  | d _ _ hd => exact hd
  | agg => exact hx.elim
  | tup => exact hx.elim
  | nl => exact hx.elim
  | p => exact hx.elim
  | own => exact hx.elim
  | ep => exact hx.elim
  | os => exact hx.elim
  | fn => exact hx.elim

theorem RelV.agg_inv {T : TypeId → TI} {h : Heap} {β : List Con} {w : World} {S : Addr → Prop} {cs : List AV} {y : Value} (hr : RelV T h β w S (.agg cs) y) :
    ∃ vs : List Value, y = .agg vs.toArray ∧ cs.length = vs.length ∧ (∀ y ∈ vs, y.oneCell' = true) ∧ ∀ (i : Nat) (x : AV) (y : Value), cs[i]? = some x → vs[i]? = some y → RelV T h β w S x y := by
  cases hr with
  | d _ _ hd => cases hd with | agg _ vs hl ho hv => exact ⟨vs, rfl, hl, ho, fun i x y h1 h2 => .d _ _ (hv i x y h1 h2)⟩
  | agg _ vs hl ho hv => exact ⟨vs, rfl, hl, ho, hv⟩

theorem RelV.tup_inv {T : TypeId → TI} {h : Heap} {β : List Con} {w : World} {S : Addr → Prop} {cs : List AV} {y : Value} (hr : RelV T h β w S (.tup cs) y) :
    ∃ vs : List Value, y = .tuple vs.toArray ∧ cs.length = vs.length ∧ ∀ (i : Nat) (x : AV) (y : Value), cs[i]? = some x → vs[i]? = some y → RelV T h β w S x y := by
  cases hr with
  | d _ _ hd => cases hd with | tup _ vs hl hv => exact ⟨vs, rfl, hl, fun i x y h1 h2 => .d _ _ (hv i x y h1 h2)⟩
  | tup _ vs hl hv => exact ⟨vs, rfl, hl, hv⟩

theorem frz_length (h : Heap) : ∀ l, (frzL h l).length = l.length
  | [] => by simp [frzL]
  | x :: r => by simp [frzL, frz_length h r]

mutual
theorem frz_ok (E : Env0) : ∀ (x : AV) (h : Heap) (β : List Con) (S : Addr → Prop) (w : World) (y : Value), Rel E h β S w → RelV E.T h β w S x y → frzO h x →
    ∃ S', FrzOK E h (share h (frzM x)) β S w S' ∧ RelD w S' (frz h x) y
  | .un, h, β, S, w, y, r, _, _ => ⟨S, ⟨Ext.refl _ _ _ _, r⟩, by simp only [frz]; exact .un y⟩
  | .v _, h, β, S, w, y, r, hv, _ => ⟨S, ⟨Ext.refl _ _ _ _, r⟩, by simp only [frz]; exact relD_of_d hv trivial⟩
  | .bl _, h, β, S, w, y, r, hv, _ => ⟨S, ⟨Ext.refl _ _ _ _, r⟩, by
      have hv' := relD_of_d hv trivial
      cases hv'
      simp only [frz]
      exact .v _ rfl⟩
  | .sl _, h, β, S, w, y, r, hv, _ => ⟨S, ⟨Ext.refl _ _ _ _, r⟩, by simp only [frz]; exact relD_of_d hv trivial⟩
  | .dp _, h, β, S, w, y, r, hv, _ => ⟨S, ⟨Ext.refl _ _ _ _, r⟩, by simp only [frz]; exact relD_of_d hv trivial⟩
  | .p _ _, h, β, S, w, y, r, _, _ => ⟨S, ⟨Ext.refl _ _ _ _, r⟩, by simp only [frz]; exact .un y⟩
  | .ep _ _ _ _, h, β, S, w, y, r, _, _ => ⟨S, ⟨Ext.refl _ _ _ _, r⟩, by simp only [frz]; exact .un y⟩
  | .os _ _ _, h, β, S, w, y, r, _, _ => ⟨S, ⟨Ext.refl _ _ _ _, r⟩, by simp only [frz]; exact .un y⟩
  | .fn _ _, h, β, S, w, y, r, _, _ => ⟨S, ⟨Ext.refl _ _ _ _, r⟩, by simp only [frz]; exact .un y⟩
  | .nl, h, β, S, w, y, r, hv, _ => ⟨S, ⟨Ext.refl _ _ _ _, r⟩, by
      simp only [frz]
      cases hv with
      | d _ _ hd => cases hd
      | nl a => exact .sl [] a 0 0 0 0 (fun _ => undef) (fun hn => absurd rfl hn) (Nat.le_refl _) (Nat.zero_le _) (by simp) (by simp) (by simp)⟩
  | .own b n, h, β, S, w, y, r, hv, ho => by
      cases hv with
      | d _ _ hd => cases hd
      | own _ _ _ e xs sh hb hn hy _ =>
        have hro : rowOf h b = some xs := by simp [rowOf, hb]
        rw [frzO_own, hro] at ho
        obtain ⟨S', x1, x2, x3⟩ := r.share hb
        have hsh : share h (frzM (.own b n)) = h.set b (.row e xs true) := by simp [frzM, share, share1, hb]
        refine ⟨S', ⟨by rw [hsh]; exact x1, by rw [hsh]; exact x2⟩, ?_⟩
        rw [frz_own, hro]
        have hcur := hy ho
        cases hk : β[b]? with
        | none => rw [hk] at hcur; cases hcur
        | some k => rw [hk] at hcur; exact x3 k hk y (by rw [← ho]; exact hcur)
  | .agg cs, h, β, S, w, y, r, hv, ho => by
      obtain ⟨vs, rfl, hl, h1c, hv⟩ := hv.agg_inv
      simp only [frzO] at ho
      obtain ⟨S', h1, h2⟩ := frzL_ok E cs h β S w vs r hl hv ho
      refine ⟨S', h1, ?_⟩
      simp only [frz]
      exact .agg _ _ (by rw [frz_length]; exact hl) h1c h2
  | .tup cs, h, β, S, w, y, r, hv, ho => by
      obtain ⟨vs, rfl, hl, hv⟩ := hv.tup_inv
      simp only [frzO] at ho
      obtain ⟨S', h1, h2⟩ := frzL_ok E cs h β S w vs r hl hv ho
      refine ⟨S', h1, ?_⟩
      simp only [frz]
      exact .tup _ _ (by rw [frz_length]; exact hl) h2
theorem frzL_ok (E : Env0) : ∀ (l : List AV) (h : Heap) (β : List Con) (S : Addr → Prop) (w : World) (vs : List Value), Rel E h β S w → l.length = vs.length →
    (∀ (i : Nat) (x : AV) (y : Value), l[i]? = some x → vs[i]? = some y → RelV E.T h β w S x y) → frzOL h l →
    ∃ S', FrzOK E h (share h (frzML l)) β S w S' ∧ ∀ (i : Nat) (x : AV) (y : Value), (frzL h l)[i]? = some x → vs[i]? = some y → RelD w S' x y
  | [], h, β, S, w, vs, r, _, _, _ => ⟨S, ⟨Ext.refl _ _ _ _, r⟩, by simp [frzL]⟩
  | x :: l, h, β, S, w, [], r, hl, _, _ => by simp at hl
  | x :: l, h, β, S, w, v :: vs, r, hl, hv, ho => by
      simp only [frzOL] at ho
      obtain ⟨S1, ⟨e1, r1⟩, d1⟩ := frz_ok E x h β S w v r (hv 0 x v rfl rfl) ho.1
      have hs := rowOf_share (frzM x) h
      obtain ⟨S2, ⟨e2, r2⟩, d2⟩ := frzL_ok E l (share h (frzM x)) β S1 w vs r1 (by simpa using hl) (fun i a b h1 h2 => (hv (i + 1) a b (by simpa using h1) (by simpa using h2)).ext e1)
        (by rw [frzOL_same hs]; exact ho.2)
      rw [frzL_same hs] at d2
      refine ⟨S2, ⟨?_, ?_⟩, ?_⟩
      · simp only [frzML]; rw [share_append]; exact e1.trans e2
      · simp only [frzML]; rw [share_append]; exact r2
      · intro i a b h1 h2
        cases i with
        | zero =>
          simp only [frzL, List.getElem?_cons_zero, Option.some.injEq] at h1 h2
          subst h1; subst h2
          exact d1.mono e2.S_le e2.S_cell
        | succ i =>
          simp only [frzL, List.getElem?_cons_succ] at h1 h2
          exact d2 i a b h1 h2
end

mutual
theorem frzO_of_none {h : Heap} : ∀ (x : AV), frzM x = [] → frzO h x
  | .agg cs, hx => by simp only [frzM] at hx; simp only [frzO]; exact frzOL_of_none cs hx
  | .tup cs, hx => by simp only [frzM] at hx; simp only [frzO]; exact frzOL_of_none cs hx
  | .own b n, hx => by simp [frzM] at hx
  | .un, _ | .v _, _ | .bl _, _ | .sl _, _ | .dp _, _ | .nl, _ | .p _ _, _ | .ep _ _ _ _, _ | .os _ _ _, _ | .fn _ _, _ => by simp [frzO]
theorem frzOL_of_none {h : Heap} : ∀ (l : List AV), frzML l = [] → frzOL h l
  | [], _ => by simp [frzOL]
  | x :: r, hx => by
    simp only [frzML, List.append_eq_nil_iff] at hx
    simp only [frzOL]
    exact ⟨frzO_of_none x hx.1, frzOL_of_none r hx.2⟩
end

theorem frzQ_O {h : Heap} {y : AV} {q : Prop} (hq : frzQ (frzM y) (frzO h y) q) : frzO h y ∧ q := by
  unfold frzQ at hq
  split at hq
  · rename_i hm; exact ⟨frzO_of_none y hm, hq⟩
  · exact hq

theorem frzQ_OL {h : Heap} {l : List AV} {q : Prop} (hq : frzQ (frzML l) (frzOL h l) q) : frzOL h l ∧ q := by
  unfold frzQ at hq
  split at hq
  · rename_i hm; exact ⟨frzOL_of_none l hm, hq⟩
  · exact hq

theorem frzB_OL {h : Heap} {l : List AV} (hq : holds (frzB h l)) : frzOL h l := by
  unfold frzB at hq
  split at hq
  · rename_i hm; exact frzOL_of_none l hm
  · exact hq

end Go.AM

namespace Go.AM
set_option linter.unusedSimpArgs false
set_option linter.unusedVariables false
open Go.RowKit

theorem add_mk (g off n : Nat) : (⟨g, off, none⟩ : Addr).add n = ⟨g, off + n, none⟩ := by
  unfold Addr.add
  split
  · rename_i h; subst h; rfl
  · rfl

/-- Is this the zero of that cell? -/
def zOk : AV → Value → Bool
  | .nl, .slice none 0 0 => true
  | .bl b, .bool c => b == c
  | .v (.int k a), .int k' b => decide (k = k' ∧ a = b)
  | .v (.string s), .string t => decide (s = t)
  | .v (.pointer none), .pointer none => true
  | .v .nilFunc, .nilFunc => true
  | .v .nilIface, .nilIface => true
  | .v (.map none), .map none => true
  | _, _ => false

theorem zOk_rel {T : TypeId → TI} {h : Heap} {β : List Con} {w : World} {S : Addr → Prop} {x : AV} {y : Value} (hz : zOk x y = true) : RelV T h β w S x y ∧ y.oneCell' = true := by
  unfold zOk at hz
  split at hz
  · exact ⟨.nl none, rfl⟩
  · simp only [beq_iff_eq] at hz; subst hz; exact ⟨.d _ _ (.bl _), rfl⟩
  · simp only [decide_eq_true_eq] at hz; obtain ⟨rfl, rfl⟩ := hz; exact ⟨.d _ _ (.v _ rfl), rfl⟩
  · simp only [decide_eq_true_eq] at hz; subst hz; exact ⟨.d _ _ (.v _ rfl), rfl⟩
  · exact ⟨.d _ _ (.v _ rfl), rfl⟩
  · exact ⟨.d _ _ (.v _ rfl), rfl⟩
  · exact ⟨.d _ _ (.v _ rfl), rfl⟩
  · exact ⟨.d _ _ (.v _ rfl), rfl⟩
  · cases hz

def zOkL : List AV → List Value → Bool
  | [], [] => true
  | x :: r, y :: s => zOk x y && zOkL r s
  | _, _ => false

theorem zOkL_rel {T : TypeId → TI} {h : Heap} {β : List Con} {w : World} {S : Addr → Prop} : ∀ (l : List AV) (m : List Value), zOkL l m = true →
    l.length = m.length ∧ ∀ (i : Nat) (x : AV) (y : Value), l[i]? = some x → m[i]? = some y → RelV T h β w S x y ∧ y.oneCell' = true
  | [], [], _ => ⟨rfl, by simp⟩
  | x :: r, y :: s, hz => by
    simp only [zOkL, Bool.and_eq_true] at hz
    obtain ⟨h1, h2⟩ := zOkL_rel (T := T) (h := h) (β := β) (w := w) (S := S) r s hz.2
    refine ⟨by simp [h1], fun i a b ha hb => ?_⟩
    cases i with
    | zero => simp only [List.getElem?_cons_zero, Option.some.injEq] at ha hb; subst ha; subst hb; exact zOk_rel hz.1
    | succ i => simp only [List.getElem?_cons_succ] at ha hb; exact h2 i a b ha hb
  | [], _ :: _, hz => by cases hz
  | _ :: _, [], hz => by cases hz

/-- The places of a struct's fields: offset and size. -/
def fieldsOk (P : Program) (size : Nat) : List Nat → List Field → Bool
  | [], [] => true
  | o :: os, f :: fs => decide (o = f.offset) && decide ((P.info? f.type).map (·.size) = some (os.headD size - o)) && decide (os.headD size - o ≠ 0) && fieldsOk P size os fs
  | _, _ => false

def kindOk (P : Program) (T : TypeId → TI) (t : TypeId) (d : TypeDesc) : Bool :=
  match (T t).kind, d with
  | .struct offs, .struct fs => fieldsOk P (T t).size offs fs.toList
  | .array n e, .array n' e' => decide (n = n') && decide (e = e') && decide ((T e).size ≠ 0) && decide ((T t).size = n * (T e).size)
  | .slice e, .slice e' => decide (e = e') && decide ((T e).size ≠ 0) && decide ((T t).size = 1)
  | .int k, .int k' => decide (k = k') && decide ((T t).size = 1)
  | .str, .string => decide ((T t).size = 1)
  | .bool, .bool => decide ((T t).size = 1)
  | .scalar, .struct _ | .scalar, .array _ _ => false
  | .scalar, _ => decide ((T t).size = 1)
  | _, _ => false

/-- Is the table's row what the program says? -/
def tiOk (P : Program) (T : TypeId → TI) (t : TypeId) : Bool :=
  match P.info? t, P.underlying t with
  | some i, some d =>
    decide (i.size = (T t).size) && decide (i.bytes = (T t).bytes) && decide ((T t).size ≠ 0) && decide ((T t).zero.length = (T t).size) &&
    (match i.zero with | some z => zOkL (T t).zero z.cells.toList | none => false) &&
    kindOk P T t d
  | _, _ => false

/-- The table is right where it speaks. -/
def TabOK (E : Env0) : Prop := ∀ t, tiOk E.P E.T t = true ∨ E.T t = ⟨.scalar, 0, 0, []⟩

structure TOk (P : Program) (T : TypeId → TI) (t : TypeId) (i : TypeInfo) (d : TypeDesc) (z : Value) : Prop where
  info : P.info? t = some i
  und : P.underlying t = some d
  size : i.size = (T t).size
  bytes : i.bytes = (T t).bytes
  ne : (T t).size ≠ 0
  zero : i.zero = some z
  zlen : (T t).zero.length = (T t).size
  zok : zOkL (T t).zero z.cells.toList = true
  kind : kindOk P T t d = true

theorem TabOK.at_ {E : Env0} (ht : TabOK E) {t : TypeId} (hs : E.T t ≠ ⟨.scalar, 0, 0, []⟩) : ∃ i d z, TOk E.P E.T t i d z := by
  have h := (ht t).resolve_right hs
  unfold tiOk at h
  cases hi : E.P.info? t with
  | none => simp [hi] at h
  | some i =>
    cases hd : E.P.underlying t with
    | none => simp [hi, hd] at h
    | some d =>
      simp only [hi, hd, Bool.and_eq_true, decide_eq_true_eq] at h
      obtain ⟨⟨⟨⟨⟨h1, h2⟩, h3⟩, h4⟩, h5⟩, h6⟩ := h
      cases hz : i.zero with
      | none => simp [hz] at h5
      | some z =>
        simp only [hz] at h5
        exact ⟨i, d, z, hi, hd, h1, h2, h3, hz, h4, h5, h6⟩

theorem TOk.isAgg {P : Program} {T : TypeId → TI} {t : TypeId} {i : TypeInfo} {d : TypeDesc} {z : Value} (h : TOk P T t i d z) (w : World) : (isAgg t).run P w = .ok (T t).isAgg w := by
  have hk := h.kind
  unfold kindOk at hk
  simp only [Go.isAgg, Sem.run_bind, run_underlying h.und, Result.andThen_ok, TI.isAgg]
  cases hK : (T t).kind <;> cases d <;> simp_all

theorem TOk.size1 {P : Program} {T : TypeId → TI} {t : TypeId} {i : TypeInfo} {d : TypeDesc} {z : Value} (h : TOk P T t i d z) (ha : (T t).isAgg = false) : (T t).size = 1 := by
  have hk := h.kind
  unfold kindOk at hk
  unfold TI.isAgg at ha
  cases hK : (T t).kind <;> cases d <;> simp_all

theorem TOk.sizeOf {P : Program} {T : TypeId → TI} {t : TypeId} {i : TypeInfo} {d : TypeDesc} {z : Value} (h : TOk P T t i d z) (w : World) : (Go.sizeOf t).run P w = .ok (T t).size w := by
  simp [Go.sizeOf, typeInfo, h.info, h.size]

theorem TOk.zeroValue {P : Program} {T : TypeId → TI} {t : TypeId} {i : TypeInfo} {d : TypeDesc} {z : Value} (h : TOk P T t i d z) (w : World) : (Go.zeroValue t).run P w = .ok z w := by
  simp [Go.zeroValue, typeInfo, h.info, h.zero]

/-- The value of a variable's cells. -/
def mkVal (t : TI) (vs : List Value) : Value := match t.isAgg with
  | true => .agg vs.toArray
  | false => vs.headD undef

theorem run_loadAt {P : Program} {T : TypeId → TI} {t : TypeId} {i : TypeInfo} {d : TypeDesc} {z : Value} (h : TOk P T t i d z) (w : World) (g off : Nat) (vs : List Value) (hl : vs.length = (T t).size)
    (hc : ∀ (j : Nat) (y : Value), vs[j]? = some y → w.cell? ⟨g, off + j, none⟩ = some y) : (Instr.loadAt t (.pointer (some ⟨g, off, none⟩))).run P w = .ok (mkVal (T t) vs) w := by
  simp only [Instr.loadAt, Instr.sureAddr, loadVar, Sem.run_bind, Sem.run_pure, Result.andThen_ok, h.isAgg, Sem.run_ite]
  unfold mkVal
  cases ha : (T t).isAgg with
  | true =>
    have := run_loadCells_list (P := P) w ⟨g, off, none⟩ vs (fun j y hj => by rw [add_mk]; exact hc j y hj)
    simp only [if_true, Sem.run_bind, h.sizeOf, Result.andThen_ok, ← hl, this, Sem.run_pure]
  | false =>
    have h1 := h.size1 ha
    rw [h1] at hl
    match vs, hl with
    | [v], _ =>
      have := hc 0 v rfl
      simp only [Nat.add_zero] at this
      simp [this]


/-- Cells laid over others. -/
def overlay (cs : List Value) (off : Nat) (vs : List Value) : List Value := cs.take off ++ vs ++ cs.drop (off + vs.length)

theorem overlay_length (cs : List Value) (off : Nat) (vs : List Value) (h : off + vs.length ≤ cs.length) : (overlay cs off vs).length = cs.length := by
  simp [overlay]; omega

theorem overlay_get {cs : List Value} {off : Nat} {vs : List Value} (h : off + vs.length ≤ cs.length) (i : Nat) :
    (overlay cs off vs)[i]? = if i < off then cs[i]? else if i < off + vs.length then vs[i - off]? else cs[i]? := by
  unfold overlay
  have ht : (cs.take off).length = off := by simp; omega
  rw [List.append_assoc]
  by_cases h1 : i < off
  · rw [if_pos h1, List.getElem?_append_left (by omega), List.getElem?_take, if_pos h1]
  · rw [if_neg h1, List.getElem?_append_right (by omega), ht]
    by_cases h2 : i < off + vs.length
    · rw [if_pos h2, List.getElem?_append_left (by omega)]
    · rw [if_neg h2, List.getElem?_append_right (by omega), List.getElem?_drop]
      congr 1
      omega

theorem overlay_cons (cs : List Value) (off : Nat) (v : Value) (vs : List Value) (h : off + (vs.length + 1) ≤ cs.length) : overlay cs off (v :: vs) = overlay (cs.set off v) (off + 1) vs := by
  apply List.ext_getElem?
  intro i
  rw [overlay_get (by simpa using h), overlay_get (by simp; omega)]
  by_cases h1 : i < off
  · rw [if_pos h1, if_pos (by omega), List.getElem?_set_ne (by omega)]
  · by_cases h2 : i = off
    · subst h2
      rw [if_neg h1, if_pos (by simp), if_pos (by omega), List.getElem?_set_self (by omega)]
      simp
    · rw [if_neg h1, if_neg (show ¬ i < off + 1 by omega)]
      by_cases h3 : i < off + 1 + vs.length
      · rw [if_pos (show i < off + (v :: vs).length by simp; omega), if_pos h3, show i - off = (i - (off + 1)) + 1 by omega, List.getElem?_cons_succ]
      · rw [if_neg (show ¬ i < off + (v :: vs).length by simp; omega), if_neg h3, List.getElem?_set_ne (by omega)]

theorem run_store_at {P : Program} {w : World} {g off : Nat} {cs : List Value} {t : TypeId} {v : Value} (hg : w.heap[g]? = some (.cells cs.toArray t (0, 0))) (ho : off < cs.length) (hv : v.oneCell' = true) :
    (store ⟨g, off, none⟩ v).run P w = .ok () (w.setCell ⟨g, off, none⟩ v) := by
  rw [run_store P w _ v _ hv]
  have h1 : w.cell? ⟨g, off, none⟩ = some cs[off] := by simp [World.cell?, hg, List.getElem?_eq_getElem ho]
  have h2 : w.frozen? ⟨g, off, none⟩ = false := by simp [World.frozen?, hg]
  simp [h1, h2]

theorem setCell_heap {w : World} {g off : Nat} {cs : List Value} {t : TypeId} {v : Value} (hg : w.heap[g]? = some (.cells cs.toArray t (0, 0))) :
    (w.setCell ⟨g, off, none⟩ v).heap[g]? = some (.cells (cs.set off v).toArray t (0, 0)) := by
  simp [World.setCell, Array.getElem?_modify, hg]

/-- What a store leaves: one block has turned. -/
structure Stored (w w' : World) (g : Nat) (cs' : List Value) (t : TypeId) : Prop where
  heap : w'.heap[g]? = some (.cells cs'.toArray t (0, 0))
  keep : ∀ k, k ≠ g → w'.heap[k]? = w.heap[k]?
  size : w'.heap.size = w.heap.size
  os : w'.os = w.os
  tape : w'.tape = w.tape
  output : w'.output = w.output

theorem run_storeCells {P : Program} : ∀ (vs : List Value) (i : Nat) (w : World) (g off : Nat) (cs : List Value) (t : TypeId), w.heap[g]? = some (.cells cs.toArray t (0, 0)) → off + i + vs.length ≤ cs.length →
    (∀ v ∈ vs, v.oneCell' = true) → ∃ w', (storeCells ⟨g, off, none⟩ vs i).run P w = .ok () w' ∧ Stored w w' g (overlay cs (off + i) vs) t
  | [], i, w, g, off, cs, t, hg, _, _ => ⟨w, by simp [storeCells], by simpa [overlay] using hg, fun _ _ => rfl, rfl, rfl, rfl, rfl⟩
  | v :: vs, i, w, g, off, cs, t, hg, hl, hv => by
    simp only [List.length_cons] at hl
    have h1 := run_store_at (P := P) (off := off + i) hg (by omega) (hv v (by simp))
    obtain ⟨w', h2, h3⟩ := run_storeCells (P := P) vs (i + 1) (w.setCell ⟨g, off + i, none⟩ v) g off (cs.set (off + i) v) t (setCell_heap hg) (by simp; omega) (fun u hu => hv u (by simp [hu]))
    refine ⟨w', ?_, ?_, ?_, ?_, ?_, ?_, ?_⟩
    · simp only [storeCells, Sem.run_bind, add_mk, h1, Result.andThen_ok, h2]
    · rw [overlay_cons cs _ v vs (by omega)]; exact h3.heap
    · intro k hk
      rw [h3.keep k hk]
      exact Below.heap_setCell w ⟨g, off + i, none⟩ v k hk
    · rw [h3.size]; simp [World.setCell]
    · rw [h3.os]; rfl
    · rw [h3.tape]; rfl
    · rw [h3.output]; rfl


/-- Two lists, place by place. -/
def PW {α γ : Type} (R : α → γ → Prop) (l : List α) (m : List γ) : Prop := l.length = m.length ∧ ∀ (i : Nat) (x : α) (y : γ), l[i]? = some x → m[i]? = some y → R x y

theorem PW.nil {α γ : Type} {R : α → γ → Prop} : PW R ([] : List α) ([] : List γ) := ⟨rfl, by simp⟩
theorem PW.cons {α γ : Type} {R : α → γ → Prop} {x : α} {y : γ} {l : List α} {m : List γ} (h : R x y) (t : PW R l m) : PW R (x :: l) (y :: m) := by
  refine ⟨by simp [t.1], fun i a b ha hb => ?_⟩
  cases i with
  | zero => simp only [List.getElem?_cons_zero, Option.some.injEq] at ha hb; subst ha; subst hb; exact h
  | succ i => simp only [List.getElem?_cons_succ] at ha hb; exact t.2 i a b ha hb
theorem PW.uncons {α γ : Type} {R : α → γ → Prop} {x : α} {y : γ} {l : List α} {m : List γ} (h : PW R (x :: l) (y :: m)) : R x y ∧ PW R l m :=
  ⟨h.2 0 x y rfl rfl, by simpa using h.1, fun i a b ha hb => h.2 (i + 1) a b (by simpa using ha) (by simpa using hb)⟩
theorem PW.imp {α γ : Type} {R R' : α → γ → Prop} {l : List α} {m : List γ} (h : PW R l m) (hi : ∀ x y, R x y → R' x y) : PW R' l m := ⟨h.1, fun i x y ha hb => hi _ _ (h.2 i x y ha hb)⟩
theorem PW.append {α γ : Type} {R : α → γ → Prop} {l l' : List α} {m m' : List γ} (h : PW R l m) (h' : PW R l' m') : PW R (l ++ l') (m ++ m') := by
  refine ⟨by simp [h.1, h'.1], fun i a b ha hb => ?_⟩
  by_cases hi : i < l.length
  · rw [List.getElem?_append_left hi] at ha
    rw [List.getElem?_append_left (by rw [← h.1]; exact hi)] at hb
    exact h.2 i a b ha hb
  · rw [List.getElem?_append_right (by omega)] at ha
    rw [List.getElem?_append_right (by rw [← h.1]; omega), ← h.1] at hb
    exact h'.2 _ a b ha hb
theorem PW.take {α γ : Type} {R : α → γ → Prop} {l : List α} {m : List γ} (h : PW R l m) (n : Nat) : PW R (l.take n) (m.take n) := by
  refine ⟨by simp [h.1], fun i a b ha hb => ?_⟩
  rw [List.getElem?_take] at ha hb
  split at ha
  · rename_i hi; rw [if_pos hi] at hb; exact h.2 i a b ha hb
  · cases ha
theorem PW.drop {α γ : Type} {R : α → γ → Prop} {l : List α} {m : List γ} (h : PW R l m) (n : Nat) : PW R (l.drop n) (m.drop n) := by
  refine ⟨by simp [h.1], fun i a b ha hb => ?_⟩
  rw [List.getElem?_drop] at ha hb
  exact h.2 _ a b ha hb
theorem PW.get {α γ : Type} {R : α → γ → Prop} {l : List α} {m : List γ} (h : PW R l m) {i : Nat} {x : α} (hi : l[i]? = some x) : ∃ y, m[i]? = some y ∧ R x y := by
  have hl := (List.getElem?_eq_some_iff.1 hi).1
  have hm : m[i]? = some (m[i]'(by rw [← h.1]; exact hl)) := List.getElem?_eq_getElem _
  exact ⟨_, hm, h.2 i x _ hi hm⟩

/-- A cell: a value of one cell that is so read. -/
def RelC (T : TypeId → TI) (h : Heap) (β : List Con) (w : World) (S : Addr → Prop) (x : AV) (y : Value) : Prop := RelV T h β w S x y ∧ y.oneCell' = true

theorem cells_one {y : Value} (h : y.oneCell' = true) : y.cells = #[y] := by
  cases y <;> first | rfl | (simp [Value.oneCell'] at h)

def AV.isOne : AV → Prop
  | .un | .agg _ | .tup _ => False
  | _ => True

theorem RelV.one {T : TypeId → TI} {h : Heap} {β : List Con} {w : World} {S : Addr → Prop} {x : AV} {y : Value} (hr : RelV T h β w S x y)
    (hx : x.isOne) : y.oneCell' = true := by
  cases hr with
  | d _ _ hd => cases hd with
    | un => exact hx.elim
    | v _ ho => exact ho
    | bl => rfl
    | agg => exact hx.elim
    | tup => exact hx.elim
    | sl => rfl
    | dp => rfl
  | agg => exact hx.elim
  | tup => exact hx.elim
  | nl => rfl
  | p => rfl
  | own _ _ _ _ _ _ _ _ _ ho => exact ho
  | ep => rfl
  | os => rfl
  | fn => rfl

theorem cellsOf_rel {T : TypeId → TI} {h : Heap} {β : List Con} {w : World} {S : Addr → Prop} {x : AV} {y : Value} (hr : RelV T h β w S x y) {n : Nat} {cs : List AV} (hc : cellsOf n x = some cs) :
    cs.length = n ∧ PW (RelC T h β w S) cs y.cells.toList := by
  have one : x.isOne → oneOf n x = some cs → cs.length = n ∧ PW (RelC T h β w S) cs y.cells.toList := by
    intro hx hc
    unfold oneOf at hc
    split at hc
    · cases hc
      have ho := hr.one hx
      rw [cells_one ho]
      exact ⟨rfl, PW.cons ⟨hr, ho⟩ PW.nil⟩
    · cases hc
  cases x with
  | agg ds =>
    cases n with
    | zero => simp [cellsOf] at hc
    | succ n =>
      simp only [cellsOf] at hc
      split at hc
      · rename_i hn
        have hn := Nat.eq_of_beq_eq_true hn
        cases hc
        obtain ⟨vs, rfl, hl, ho, hv⟩ := hr.agg_inv
        refine ⟨hn, hl, fun i a b ha hb => ⟨hv i a b ha hb, ho b (List.mem_of_getElem? hb)⟩⟩
      · cases hc
  | un => simp [cellsOf] at hc
  | tup => simp [cellsOf] at hc
  | v _ => exact one trivial hc
  | bl _ => exact one trivial hc
  | sl _ => exact one trivial hc
  | dp _ => exact one trivial hc
  | nl => exact one trivial hc
  | p _ _ => exact one trivial hc
  | own _ _ => exact one trivial hc
  | ep _ _ _ _ => exact one trivial hc
  | os _ _ _ => exact one trivial hc
  | fn _ _ => exact one trivial hc

theorem cellsOf_ne {n : Nat} {x : AV} {cs : List AV} (hc : cellsOf n x = some cs) : n ≠ 0 := by
  rintro rfl
  cases x <;> simp [cellsOf, oneOf] at hc

theorem foldl_overlay (vs : List Value) : ∀ (k off : Nat) (cs : List Value), off + k + vs.length ≤ cs.length →
    (vs.zipIdx k).foldl (fun (cs : Array Value) (x : Value × Nat) => cs.setIfInBounds (off + x.2) x.1) cs.toArray = (overlay cs (off + k) vs).toArray := by
  induction vs with
  | nil => intro k off cs _; simp [overlay]
  | cons v vs ih =>
    intro k off cs h
    simp only [List.length_cons] at h
    rw [overlay_cons cs (off + k) v vs (by omega)]
    simp only [List.zipIdx_cons, List.foldl_cons, List.setIfInBounds_toArray]
    rw [ih (k + 1) off (cs.set (off + k) v) (by simp; omega)]
    rfl

theorem fill_ok {R : AV → Value → Prop} {T : TypeId → TI} {h : Heap} {β : List Con} {w : World} {S : Addr → Prop} (hR : R = RelC T h β w S) (place : Nat → Option (Nat × Nat)) :
    ∀ (parts : List (Nat × AV)) (parts' : List (Nat × Value)) (cells out : List AV) (cells' : List Value), PW (fun (x : Nat × AV) (y : Nat × Value) => x.1 = y.1 ∧ RelV T h β w S x.2 y.2) parts parts' →
      PW R cells cells' → fill place cells parts = some out → ∃ out', Instr.fill place cells'.toArray parts' = some out'.toArray ∧ PW R out out' ∧ out.length = cells.length
  | [], [], cells, out, cells', _, hc, hf => by
    simp only [fill, Option.some.injEq] at hf
    subst hf
    exact ⟨cells', rfl, hc, rfl⟩
  | [], _ :: _, _, _, _, hp, _, _ => by have := hp.1; simp at this
  | _ :: _, [], _, _, _, hp, _, _ => by have := hp.1; simp at this
  | (i, x) :: rest, (i', y) :: rest', cells, out, cells', hp, hc, hf => by
    obtain ⟨⟨hi, hv⟩, hp'⟩ := hp.uncons
    simp only at hi hv
    subst hi
    simp only [fill] at hf
    cases hpl : place i with
    | none => simp [hpl] at hf
    | some os =>
      obtain ⟨off, size⟩ := os
      simp only [hpl] at hf
      cases hcs : cellsOf size x with
      | none => simp [hcs] at hf
      | some cs =>
        simp only [hcs] at hf
        split at hf
        · rename_i hle
          obtain ⟨hlen, hpw⟩ := cellsOf_rel hv hcs
          have hyl : y.cells.toList.length = size := by rw [← hpw.1, hlen]
          have hcl : cells'.length = cells.length := hc.1.symm
          have hnew : PW R (cells.take off ++ cs ++ cells.drop (off + size)) (overlay cells' off y.cells.toList) := by
            unfold overlay
            rw [hyl, hR]
            rw [hR] at hc
            exact ((hc.take off).append hpw).append (hc.drop (off + size))
          obtain ⟨out', h1, h2, h3⟩ := fill_ok hR place rest rest' _ out _ hp' hnew hf
          refine ⟨out', ?_, h2, by rw [h3]; simp [hlen]; omega⟩
          simp only [Instr.fill, hpl]
          rw [Array.length_toList] at hyl
          rw [if_neg (by simp [hyl]; omega)]
          have hfo := foldl_overlay y.cells.toList 0 off cells' (by simp [hyl]; omega)
          rw [← h1]
          congr 1
          simp only [Nat.add_zero] at hfo
          rw [← hfo, ← Array.foldl_toList, Array.toList_zipIdx]
        · cases hf

end Go.AM

namespace Go.AM
open Go.RowKit
set_option linter.unusedSimpArgs false
set_option linter.unusedVariables false

def Post (E : Env0) (h : Heap) (β : List Con) (S : Addr → Prop) (w : World) (R : AV → Heap → Prop) : Ending → World → Prop := fun e w' =>
  ∃ (r : AV) (h' : Heap) (β' : List Con) (S' : Addr → Prop) (y : Value), e = .returned y ∧ R r h' ∧ Rel E h' β' S' w' ∧ Ext h β S w h' β' S' w' ∧ RelV E.T h' β' w' S' r y

def GoFn (P : Program) (f : FuncId) : Prop := ∃ fn, P.funcs[f]? = some fn ∧ (fn.name == "runtime.NumGoroutine") = false ∧ fn.body.isNone = false

/-- A call of a Go function, or of one that the model answers itself. -/
def Serves (P : Program) (f : FuncId) (vs : Array Value) (w : World) (R : Ending → World → Prop) : Prop :=
  (GoFn P f ∧ Calls P f vs w R) ∨ ∃ y w', (callFunc f vs).run P w = .ok (.value y) w' ∧ R (.returned y) w'

theorem Serves.mono {P : Program} {f : FuncId} {vs : Array Value} {w : World} {R R' : Ending → World → Prop} (h : Serves P f vs w R) (hr : ∀ e w, R e w → R' e w) : Serves P f vs w R' := by
  rcases h with ⟨h1, h2⟩ | ⟨y, w', h1, h2⟩
  · exact .inl ⟨h1, h2.mono hr⟩
  · exact .inr ⟨y, w', h1, hr _ _ h2⟩

/-- Called with such values in such a heap, the function returns, and 'R' holds of what it hands back and of the heap. -/
def ACalls (E : Env0) (f : FuncId) (args : List AV) (h : Heap) (R : AV → Heap → Prop) : Prop :=
  ∀ (β : List Con) (S : Addr → Prop) (w : World) (vs : List Value), Rel E h β S w → PW (RelV E.T h β w S) args vs → Serves E.P f vs.toArray w (Post E h β S w R)

def ACallsTo (E : Env0) (f : FuncId) (args : List AV) (h : Heap) (r : AV) (h' : Heap) : Prop := ACalls E f args h fun r' h'' => r' = r ∧ h'' = h'

def mk (E : Env0) : Env := { E with C := ACallsTo E }

theorem ofVal_ok {T : TypeId → TI} {h : Heap} {β : List Con} {w : World} {S : Addr → Prop} (x : Value) : RelV T h β w S (ofVal x) x := by
  unfold ofVal
  split
  · exact .nl none
  · exact .d _ _ (.bl _)
  · exact .d _ _ (.un _)
  · exact .d _ _ (.un _)
  · rename_i h1 h2 h3 h4
    refine .d _ _ (.v _ ?_)
    cases x <;> first | rfl | exact absurd rfl (h3 _) | exact absurd rfl (h4 _)

theorem ev_ok {E : Env0} {h : Heap} {β : List Con} {w : World} {S : Addr → Prop} {ts : TS} {tmps : Array Value} {ds : List Deferred} (r : Rel E h β S w) (rt : RelTS E.T h β w S ts tmps) (x : Operand) :
    RelV E.T h β w S (ev E.G ts x) (Act.eval ⟨tmps, ds⟩ x) := by
  cases x with
  | tmp t => exact rt t
  | const v => exact ofVal_ok v
  | global g =>
    simp only [ev, Act.eval]
    split
    · rename_i cs hg; exact .d _ _ (r.glob g cs hg)
    · exact .d _ _ (.un _)
  | func f => exact .fn f [] [] rfl (by simp)

theorem RelTS.put {T : TypeId → TI} {h : Heap} {β : List Con} {w : World} {S : Addr → Prop} {ts : TS} {tmps : Array Value} (rt : RelTS T h β w S ts tmps) {d : Option Tmp} {x : AV} {y : Value}
    (hd : dstOk tmps.size d = true) (hv : RelV T h β w S x y) : RelTS T h β w S (AM.put ts d x) (Act.put ⟨tmps, []⟩ d y).tmps := by
  cases d with
  | none => exact rt
  | some d =>
    intro t
    simp only [AM.put, Act.put, AM.look]
    have hlt : d < tmps.size := by simpa [dstOk] using hd
    by_cases e : d = t
    · subst e
      simp only [Nat.beq_refl]
      have : (tmps.setIfInBounds d y).getD d undef = y := by simp [Array.getD, hlt]
      rw [this]
      exact hv
    · have hb : Nat.beq d t = false := by
        cases hh : Nat.beq d t with
        | false => rfl
        | true => exact absurd (Nat.eq_of_beq_eq_true hh) e
      rw [hb]
      have : (tmps.setIfInBounds d y).getD t undef = tmps.getD t undef := by
        simp [Array.getD_eq_getD_getElem?, Array.getElem?_setIfInBounds_ne e]
      rw [this]
      exact rt t

theorem RelTS.ext {T : TypeId → TI} {h h' : Heap} {β β' : List Con} {S S' : Addr → Prop} {w w' : World} (hx : Ext h β S w h' β' S' w') {ts : TS} {tmps : Array Value} (rt : RelTS T h β w S ts tmps) : RelTS T h' β' w' S' ts tmps :=
  fun t => (rt t).ext hx

/-- What an operation must come to. -/
structure Goal (E : Env0) (h : Heap) (β : List Con) (S : Addr → Prop) (w : World) (tmps : Array Value) (out : Out) (K : Act → World → Prop) : Prop where
  k : ∀ (β' : List Con) (S' : Addr → Prop) (w' : World) (tmps' : Array Value), tmps'.size = tmps.size → Rel E out.h β' S' w' → Ext h β S w out.h β' S' w' → RelTS E.T out.h β' w' S' out.ts tmps' → K ⟨tmps', []⟩ w'

theorem put_size (tmps : Array Value) (d : Option Tmp) (y : Value) : (Act.put ⟨tmps, []⟩ d y).tmps.size = tmps.size := by
  cases d <;> simp [Act.put]

theorem put_defers (tmps : Array Value) (d : Option Tmp) (y : Value) : Act.put ⟨tmps, []⟩ d y = ⟨(Act.put ⟨tmps, []⟩ d y).tmps, []⟩ := by
  cases d <;> rfl

section
variable {E : Env0} {h : Heap} {β : List Con} {S : Addr → Prop} {w : World} {tmps : Array Value} {ts : TS} {K : Act → World → Prop} {Q : Exit → Act → World → Prop} {o : Oper} {os : List Orc}

theorem wp_value (r : Rel E h β S w) (rt : RelTS E.T h β w S ts tmps) (hd : dstOk tmps.size o.dst = true) {out : Out} (g : Goal E h β S w tmps out K)
    {x : AV} {y : Value} {β' : List Con} {S' : Addr → Prop} {w' : World} (hrun : (execOp (Act.eval ⟨tmps, []⟩) o).run E.P w = .ok (.value y) w')
    (hts : out.ts = AM.put ts o.dst x) (r' : Rel E out.h β' S' w') (e' : Ext h β S w out.h β' S' w') (hv : RelV E.T out.h β' w' S' x y) : o.wp E.P ⟨tmps, []⟩ w K Q := by
  unfold Oper.wp
  rw [hrun, Oper.upon_value, put_defers]
  refine g.k β' S' w' _ (put_size _ _ _) r' e' ?_
  rw [hts]
  exact (rt.ext e').put hd hv

/-- An operation that only reckons. -/
theorem wp_pure (r : Rel E h β S w) (rt : RelTS E.T h β w S ts tmps) (hd : dstOk tmps.size o.dst = true) {q : Option Prop} {x : AV} {os' : List Orc} (g : Goal E h β S w tmps ⟨q, AM.put ts o.dst x, h, os'⟩ K)
    {y : Value} (hrun : (execOp (Act.eval ⟨tmps, []⟩) o).run E.P w = .ok (.value y) w) (hv : RelV E.T h β w S x y) : o.wp E.P ⟨tmps, []⟩ w K Q :=
  wp_value r rt hd g hrun rfl r (Ext.refl _ _ _ _) hv

end

end Go.AM
